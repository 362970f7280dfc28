/- A part of the proof. -/
import Derived.Test.YtbaaokocnegdoaaGreatDoorDeWG
set_option linter.unusedVariables false
set_option linter.unusedSimpArgs false
set_option maxHeartbeats 16000000
set_option maxRecDepth 100000
namespace Go.Proofs.YtbaaokocnegdoaaGreatDoor
open Go Go.Ab
attribute [local irreducible] vc
theorem NB (t:Typ)(v:Val)(hsc:1<=t.kind/\t.kind<=7)(hd:dep 1 v)(ht:mE 1 t)(hv:v.ok):ak Tryz.prog aq 37 [t.pv,v.pv] (.bool (cx 1 t v []).isEmpty):=by
 have h56:=NE t v [] false [] _ (ox 1 0 v hd) ht hsc.2 hv (by simp) ⟨by simp,by simp⟩ rfl
 have e:=Oi (cx 1 t v []) []
 generalize wc false [] (cx 1 t v [])=S at *
 obtain⟨Sd,Sl⟩:=S
 simp only at e
 have e2:(cx 1 t v []).isEmpty=!Sd:=by rw[e,Bool.not_not]
 rw[e2]
 obtain⟨k,m,M,s,w,e,fs⟩:=t
 obtain⟨vk,vi,vs,vt,vl,vf⟩:=v
 simp only[rA,Typ.pv_mk,Val.pv_mk,List.map_nil] at h56
 refine ak.intro Q37.2 (by simp[Q37]) ?_
 simp(disch:=try exact dI) only[Q37,Typ.pv_mk,Val.pv_mk,push_cast,seval]
 refine ab.lentK h56 [4,2] rfl qsZ qsZ ?_
 exact qsZ
theorem TG (t:Typ)(v:Val)(p:List UInt8)(hsc:1<=t.kind/\t.kind<=7)(hd:dep 1 v)(ht:mE 1 t)(hv:v.ok)(hp:p.length<=2000):ak Tryz.prog aq 24 [t.pv,v.pv,.str p] (.list ((cx 1 t v p).map Mis.pv)):=
 UO t v p (ox 1 0 v hd) ht hsc.2 hv hp
theorem eq (n:Nat)(t:Typ):(aX (n+1) t).fields=if 0<n then (t.fields.take 6).map (ct (aX n)) else []:=by
 obtain⟨k,a,b,c,w,e,f⟩:=t
 simp only[aX,dm,Typ.fields,decide_eq_true_eq]
theorem kx (n:Nat)(t:Typ):(aX (n+1) t).elem=if 0<n then (t.elem.take 2).map (aX n) else []:=by
 obtain⟨k,a,b,c,w,e,f⟩:=t
 simp only[aX,dm,Typ.elem,decide_eq_true_eq]
theorem jj (n:Nat)(t:Typ):(aX n t).words=(t.words.take 6).map (List.take 40):=by
 obtain⟨k,a,b,c,w,e,f⟩:=t
 cases n<;>simp only[aX,dm,Typ.words]
theorem pi (r:Typ->Typ)(f:TFd):(ct r f).name=f.name.take 40:=by
 obtain⟨a,b,c,d,e⟩:=f;rfl
theorem kv:∀ (n:Nat) (t:Typ),mE (n+1) (aX (n+1) t)
 | 0,v=>by
   simp only[mE]
   rw[eq,kx,jj]
   simp;omega
 | n+1,v=>by
   simp only[mE]
   rw[eq,kx,jj,if_pos (by omega),if_pos (by omega)]
   refine⟨by simp;omega,by simp;omega,?_,?_⟩
   ·intro x hx
    obtain⟨y,_,rfl⟩:=List.mem_map.1 hx
    exact kv n y
   ·intro f hf
    obtain⟨y,_,rfl⟩:=List.mem_map.1 hf
    rw[pi,rX]
    exact⟨by simp;omega,kv n _⟩
def rdQ (k:Int)(s:List UInt8):(Int×Int×List UInt8)×Bool:=
 if k=1 then ((if s=kh then 1 else 0,0,[]),decide (s=kh)||decide (s=lG))
 else if k=2\/k=3 then (((aS s).1.1,((aS s).1.2:Int),[]),decide ((aS s).2=0)&&(decide (k=3)||decide ((aS s).1.2=0)))
 else if k=4 then ((0,0,s),true)
 else if k=5 then ((0,0,(oi s).getD []),(oi s).isSome&&decide (s.length % 2=0))
 else if k=6 then (((bK s).1,0,[]),decide ((bK s).2=0))
 else (((bZ s).1,0,[]),decide ((bZ s).2=0))
theorem Mt (s:List UInt8):rdQ 1 s=((if s=kh then 1 else 0,0,[]),decide (s=kh)||decide (s=lG)):=rfl
theorem Ms (s:List UInt8):rdQ 2 s=(((aS s).1.1,((aS s).1.2:Int),[]),decide ((aS s).2=0)&&decide ((aS s).1.2=0)):=by
 unfold rdQ
 rw[if_neg (by decide),if_pos (by decide),show decide ((2:Int)=3)=false from rfl,Bool.false_or]
theorem Mr (s:List UInt8):rdQ 3 s=(((aS s).1.1,((aS s).1.2:Int),[]),decide ((aS s).2=0)):=by
 unfold rdQ
 rw[if_neg (by decide),if_pos (by decide),show decide ((3:Int)=3)=true from rfl,Bool.true_or,Bool.and_true]
theorem Mq (s:List UInt8):rdQ 4 s=((0,0,s),true):=rfl
theorem Mp (s:List UInt8):rdQ 5 s=((0,0,(oi s).getD []),(oi s).isSome&&decide (s.length % 2=0)):=rfl
theorem Mo (s:List UInt8):rdQ 6 s=(((bK s).1,0,[]),decide ((bK s).2=0)):=rfl
theorem Mn (s:List UInt8):rdQ 7 s=(((bZ s).1,0,[]),decide ((bZ s).2=0)):=rfl
theorem PW {k:Int}{s:List UInt8}(hk:mq k=true)(hl:s.length<=10000):ak Tryz.prog aq 39 [.int .i64 k,.str s] (rdV k (rdQ k s).1.1 (rdQ k s).1.2.1 (rdQ k s).1.2.2 (rdQ k s).2):=by
 rw[dF] at hk
 have hc:k=1\/k=2\/k=3\/k=4\/k=5\/k=6\/k=7:=by omega
 rcases hc with rfl | rfl | rfl | rfl | rfl | rfl | rfl
 ·exact Ha s
 ·exact uq s 2 (Or.inl rfl)
 ·exact uq s 3 (Or.inr rfl)
 ·exact G9 s
 ·exact G8 s hl
 ·exact G7 s
 ·exact G6 s
theorem oh:∀ {s b:List UInt8},oi s=some b->b.length<=s.length
 | [],b,h=>by cases h;simp
 | [_],b,h=>by cases h;simp
 | x::y::r,b,h=>by
   rw[oi] at h
   split at h
   ·cases h
   ·simp only[Option.map_eq_some_iff] at h
    obtain⟨q,hq,rfl⟩:=h
    have:=oh hq
    simp;omega
theorem pJ {s:List UInt8}(h:(aS s).2=0):IsN (aS s).1.1 (aS s).1.2/\j0 (aS s).1.1 (aS s).1.2=s:=by
 unfold aS at h ⊢
 split at h
 ·cases h
 ·split at h
  ·cases h
  ·split at h
   ·rename_i h1 h2 h3
    rw[if_neg h1,if_neg h2,if_pos h3]
    exact h3
   ·cases h
theorem CA (s:List UInt8):-1000000000000000000<=(bK s).1/\(bK s).1<=1000000000000000000:=by
 unfold bK
 split
 ·rename_i y m d hn
  rcases vF y m d with h | h
  ·have:=jd h;omega
  ·unfold gC at h ⊢
   split
   ·rename_i hh;rw[if_pos hh] at h;cases h
   ·simp
 ·simp
theorem Cz {s:List UInt8}(h:(bZ s).2=0):-1000000000000000000<=(bZ s).1/\(bZ s).1<=1000000000000000000:=by
 obtain⟨y,m,d,hh,mi,sec,ms,h1,h2,h3,h4,h5,h6,h7⟩:=sD (s:=s) (n:=(bZ s).1) (by rw[<- h])
 have:=iw h1
 omega
theorem BO {k:Int}{s:List UInt8}(hk:mq k=true)(hl:s.length<=5000)(ho:(rdQ k s).2=true) :
  I64 (rdQ k s).1.1/\I64 (rdQ k s).1.2.1/\(rdQ k s).1.2.2.length<=5000:=by
 rw[dF] at hk
 have hc:k=1\/k=2\/k=3\/k=4\/k=5\/k=6\/k=7:=by omega
 unfold I64
 rcases hc with rfl | rfl | rfl | rfl | rfl | rfl | rfl
 ·rw[Mt]
  simp only
  refine⟨?_,⟨by omega,by omega⟩,by simp⟩
  split<;>omega
 ·rw[Ms] at ho ⊢
  simp only[Bool.and_eq_true,decide_eq_true_eq] at ho ⊢
  obtain⟨⟨h1,h2,h3⟩,_⟩:=pJ ho.1
  exact⟨⟨by omega,by omega⟩,⟨by omega,by omega⟩,by simp⟩
 ·rw[Mr] at ho ⊢
  simp only[decide_eq_true_eq] at ho ⊢
  obtain⟨⟨h1,h2,h3⟩,_⟩:=pJ ho
  exact⟨⟨by omega,by omega⟩,⟨by omega,by omega⟩,by simp⟩
 ·rw[Mq]
  exact⟨⟨by simp,by simp⟩,⟨by simp,by simp⟩,hl⟩
 ·rw[Mp] at ho ⊢
  simp only[Bool.and_eq_true] at ho ⊢
  cases he:oi s with
  | none=>rw[he] at ho;simp at ho
  | some b=>
    have:=oh he
    exact⟨⟨by simp,by simp⟩,⟨by simp,by simp⟩,by simp;omega⟩
 ·rw[Mo]
  have:=CA s
  exact⟨⟨by simp only;omega,by simp only;omega⟩,⟨by simp,by simp⟩,by simp⟩
 ·rw[Mn] at ho ⊢
  simp only[decide_eq_true_eq] at ho
  have:=Cz ho
  exact⟨⟨by simp only;omega,by simp only;omega⟩,⟨by simp,by simp⟩,by simp⟩
def cn (k:Int)(q:Int×Int×List UInt8):Val:=.mk k q.1 q.2.1 q.2.2 [] []
def f8 (t:Typ)(s:List UInt8):Val×Int:=
 if mq t.kind=false then (aI,11) else if (rdQ t.kind s).2=false then (aI,13)
 else if (cx 1 t (cn t.kind (rdQ t.kind s).1) []).isEmpty=true then (cn t.kind (rdQ t.kind s).1,0) else (aI,18)
theorem jN {k:Int}{q:Int×Int×List UInt8}(h:q.2.2.length<=5000):dep 1 (cn k q):=by
 simp[dep,cn,Val.lst,Val.fields,Val.text,h]
theorem rG {k:Int}{q:Int×Int×List UInt8}(hk:mq k=true)(h:I64 q.1/\I64 q.2.1/\q.2.2.length<=5000):(cn k q).ok:=by
 rw[dF] at hk
 unfold cn
 rw[Val.ok_mk]
 exact⟨⟨by omega,by omega⟩,h.1,h.2.1,by have:=h.2.2;omega,by simp,by simp,by simp,by simp⟩
theorem AR (k:Int)(q:Int×Int×List UInt8):Nz (vN k q.1 q.2.1 q.2.2) (cn k q).pv:=by
 unfold cn vN
 rw[Val.pv_mk]
 repeat' constructor
theorem AL (t:Typ)(s:List UInt8)(hl:s.length<=5000)(ht:mE 1 t):ak Tryz.prog aq 13 [t.pv,.str s] (.tup [(f8 t s).1.pv,.int .i64 (f8 t s).2]):=by
 have hs:=GM t.kind
 unfold f8
 by_cases hk:mq t.kind=false
 ·rw[if_pos hk]
  rw[hk] at hs
  obtain⟨k,a,b,c,w,e,f⟩:=t
  simp only[Typ.kind] at hs
  refine ak.intro Q13.2 (by simp[Q13]) ?_
  simp(disch:=try exact dI) only[Q13,Typ.pv_mk,aI,Val.pv_mk,push_cast,seval]
  refine ab.pure hs rfl ?_
  simp(disch:=try exact dI) only[aI,Val.pv_mk,List.map_nil,push_cast,seval]
 ·rw[if_neg hk]
  have hk:mq t.kind=true:=by simpa using hk
  rw[hk] at hs
  have hr:=PW (s:=s) hk (by omega)
  unfold rdV vN at hr
  by_cases ho:(rdQ t.kind s).2=false
  ·rw[if_pos ho]
   rw[ho] at hr
   generalize rdQ t.kind s=Q at *
   obtain⟨k,a,b,c,w,e,f⟩:=t
   simp only[Typ.kind] at hs hr
   refine ak.intro Q13.2 (by simp[Q13]) ?_
   simp(disch:=try exact dI) only[Q13,Typ.pv_mk,aI,Val.pv_mk,push_cast,seval]
   refine ab.pure hs rfl ?_
   refine zgZ ?_
   refine ab.pure hr rfl ?_
   simp(disch:=try exact dI) only[aI,Val.pv_mk,List.map_nil,push_cast,seval]
  ·rw[if_neg ho]
   have ho:(rdQ t.kind s).2=true:=by simpa using ho
   rw[ho] at hr
   have hq:=BO hk hl ho
   have hA:=TG t (cn t.kind (rdQ t.kind s).1) [] ((dF _).1 hk) (jN hq.2.2) ht (rG hk hq) (by simp)
   have hA2:=hA.nz (qs:=[t.pv,vN t.kind (rdQ t.kind s).1.1 (rdQ t.kind s).1.2.1 (rdQ t.kind s).1.2.2,.str []]) (.cons _ _ _ _ (.refl _) (.cons _ _ _ _ (AR _ _) (NzL.refl _)))
   generalize cx 1 t (cn t.kind (rdQ t.kind s).1) []=M at *
   generalize (rdQ t.kind s).1=Q at *
   obtain⟨q1,q2,q3⟩:=Q
   obtain⟨k,a,b,c,w,e,f⟩:=t
   simp only[Typ.kind,vN,Typ.pv_mk] at hs hr hA2
   clear hA
   cases M with
   | nil=>
     rw[if_pos (show ([]:List Mis).isEmpty=true from rfl)]
     refine ak.intro Q13.2 (by simp[Q13]) ?_
     simp(disch:=try exact dI) only[Q13,Typ.pv_mk,cn,Typ.kind,Val.pv_mk,push_cast,seval]
     refine ab.pure hs rfl ?_
     refine zgZ ?_
     refine ab.pure hr rfl ?_
     refine zgZ ?_
     refine ab.pure hA2 rfl ?_
     simp(disch:=try exact dI) only[List.map_nil,push_cast,seval]
   | cons m M=>
     rw[if_neg (by simp)]
     refine ak.intro Q13.2 (by simp[Q13]) ?_
     simp(disch:=try exact dI) only[Q13,Typ.pv_mk,aI,Val.pv_mk,push_cast,seval]
     refine ab.pure hs rfl ?_
     refine zgZ ?_
     refine ab.pure hr rfl ?_
     refine zgZ ?_
     refine ab.pure hA2 rfl ?_
     simp(disch:=try exact dI) only[List.map_nil,push_cast,seval]
def dQ (t:Typ)(q:Int×Int×List UInt8)(F:Bool):Val×Int:=if F=true then (cn t.kind q,0) else (aI,18)
theorem F8 {t:Typ}{s:List UInt8}(hk:mq t.kind=true)(ho:(rdQ t.kind s).2=true):f8 t s=dQ t (rdQ t.kind s).1 (cx 1 t (cn t.kind (rdQ t.kind s).1) []).isEmpty:=by
 unfold f8 dQ
 rw[if_neg (by rw[hk];simp),if_neg (by rw[ho];simp)]
theorem Ll {t:Typ}{s:List UInt8}(hk:mq t.kind=true)(ho:(rdQ t.kind s).2=false):f8 t s=(aI,13):=by
 unfold f8
 rw[if_neg (by rw[hk];simp),if_pos ho]
theorem DO {T:Nat}{p:PV}{t:Typ}{q:Int×Int×List UInt8}(hk:mq t.kind=true)(ht:mE 1 t)(hq:I64 q.1/\I64 q.2.1/\q.2.2.length<=5000) :
  ak Tryz.prog (oX T p) 37 [t.pv,vN t.kind q.1 q.2.1 q.2.2] (.bool (cx 1 t (cn t.kind q) []).isEmpty):=
 toE ((NB t (cn t.kind q) ((dF _).1 hk) (jN hq.2.2) ht (rG hk hq)).nz (.cons _ _ _ _ (.refl _) (.cons _ _ _ _ (AR _ _) .nil)))
theorem P2 {T:Nat}{p:PV}(k:Int){a b c:Int}{w:List (List UInt8)}{e:List Typ}{f:List TFd}(s:List UInt8)(hl:s.length<=5000)(hk:mq k=true)(ht:mE 1 (.mk k a b c w e f)) :
  ak Tryz.prog (oX T p) 32 [(Typ.mk k a b c w e f).pv] (.bool true)/\((rdQ k s).2=false->f8 (.mk k a b c w e f) s=(aI,13)) /\
   ((rdQ k s).2=true->∃ F,f8 (.mk k a b c w e f) s=dQ (.mk k a b c w e f) (rdQ k s).1 F/\ak Tryz.prog (oX T p) 37 [(Typ.mk k a b c w e f).pv,vN k (rdQ k s).1.1 (rdQ k s).1.2.1 (rdQ k s).1.2.2] (.bool F)):=by
 have hs:=toE (T:=T) (p:=p) (ug (.mk k a b c w e f))
 rw[show mq (Typ.mk k a b c w e f).kind=true from hk] at hs
 exact⟨hs,Ll (t:=.mk k a b c w e f) hk,fun h=>⟨_,F8 (t:=.mk k a b c w e f) hk h,DO (t:=.mk k a b c w e f) hk ht (BO hk hl h)⟩⟩
theorem AM {T:Nat}{p:PV}(t:Typ)(s:List UInt8)(hl:s.length<=5000)(ht:mE 1 t):ak Tryz.prog (oX T p) 12 [t.pv,.str s] (.tup [(f8 t s).1.pv,.int .i64 (f8 t s).2]):=by
 by_cases hk:mq t.kind=false
 ·have hs:=toE (T:=T) (p:=p) (ug t)
  unfold f8
  rw[if_pos hk]
  rw[hk] at hs
  obtain⟨k,a,b,c,w,e,f⟩:=t
  simp only[Typ.pv_mk] at hs
  refine ak.intro Q12.2 (by simp[Q12]) ?_
  simp(maxSteps:=9^7) (disch:=try exact dI) only[Q12,Typ.pv_mk,dQ,cn,aI,Typ.kind,Val.pv_mk,push_cast,seval]
  refine ab.pure hs rfl ?_
  simp(maxSteps:=9^7) (disch:=try exact dI) only[dQ,cn,aI,Typ.kind,Val.pv_mk,List.map_nil,if_true,Bool.false_eq_true,if_false,push_cast,seval]
 ·have hk:mq t.kind=true:=by simpa using hk
  rw[dF] at hk
  obtain⟨k,a,b,c,w,e,f⟩:=t
  simp only[Typ.kind] at hk
  have hc:k=1\/k=2\/k=4\/k=5\/k=3\/k=6\/k=7:=by omega
  obtain⟨hs,hn,hf⟩:=P2 (T:=T) (p:=p) k s hl ((dF k).2 hk) ht
  rcases hc with rfl | rfl | rfl | rfl | h367
  ·rw[Mt] at hn hf
   simp only[vN,Typ.pv_mk] at hs hn hf
   by_cases h1:s=kh
   ·subst h1
    obtain⟨F,e1,hF⟩:=hf rfl
    rw[e1]
    rw[if_pos rfl] at hF ⊢
    clear hn hf e1
    unfold kh
    cases F
    all_goals
     refine ak.intro Q12.2 (by simp[Q12]) ?_
     simp(maxSteps:=9^7) (disch:=try exact dI) only[Q12,Typ.pv_mk,dQ,cn,aI,Typ.kind,Val.pv_mk,push_cast,seval]
     refine ab.pure hs rfl ?_
     simp(maxSteps:=9^7) (disch:=try exact dI) only[dQ,cn,aI,Typ.kind,Val.pv_mk,List.map_nil,if_true,Bool.false_eq_true,if_false,push_cast,seval]
     refine ab.pure hF rfl ?_
     simp(maxSteps:=9^7) (disch:=try exact dI) only[dQ,cn,aI,Typ.kind,Val.pv_mk,List.map_nil,if_true,Bool.false_eq_true,if_false,push_cast,seval]
   ·by_cases h2:s=lG
    ·subst h2
     obtain⟨F,e1,hF⟩:=hf rfl
     rw[e1]
     rw[if_neg h1] at hF ⊢
     clear hn hf e1
     unfold lG
     have h1b:decide (([102,97,108,115,101]:List UInt8)=[116,114,117,101])=false:=rfl
     cases F
     all_goals
      refine ak.intro Q12.2 (by simp[Q12]) ?_
      simp(maxSteps:=9^7) (disch:=try exact dI) only[Q12,Typ.pv_mk,dQ,cn,aI,Typ.kind,Val.pv_mk,h1b,push_cast,seval]
      refine ab.pure hs rfl ?_
      simp(maxSteps:=9^7) (disch:=try exact dI) only[dQ,cn,aI,Typ.kind,Val.pv_mk,List.map_nil,if_true,Bool.false_eq_true,if_false,h1b,push_cast,seval]
      refine ab.pure hF rfl ?_
      simp(maxSteps:=9^7) (disch:=try exact dI) only[dQ,cn,aI,Typ.kind,Val.pv_mk,List.map_nil,if_true,Bool.false_eq_true,if_false,h1b,push_cast,seval]
    ·rw[hn (by rw[decide_eq_false h1,decide_eq_false h2];rfl)]
     have h1b:decide (s=[116,114,117,101])=false:=decide_eq_false h1
     have h2b:decide (s=[102,97,108,115,101])=false:=decide_eq_false h2
     clear hn hf
     refine ak.intro Q12.2 (by simp[Q12]) ?_
     simp(maxSteps:=9^7) (disch:=try exact dI) only[Q12,Typ.pv_mk,dQ,cn,aI,Typ.kind,Val.pv_mk,h1b,h2b,push_cast,seval]
     refine ab.pure hs rfl ?_
     simp(maxSteps:=9^7) (disch:=try exact dI) only[dQ,cn,aI,Typ.kind,Val.pv_mk,List.map_nil,if_true,Bool.false_eq_true,if_false,h1b,h2b,push_cast,seval]
  ·rw[Ms] at hn hf
   simp only[vN,Typ.pv_mk] at hs hn hf
   have hp:=CB (T:=T) (p:=p) s
   generalize aS s=N at *
   obtain⟨⟨n,sc⟩,er⟩:=N
   simp only at hp hn hf
   by_cases he:er=0
   ·subst he
    by_cases hz:sc=0
    ·subst hz
     obtain⟨F,e1,hF⟩:=hf rfl
     rw[e1]
     clear hn hf e1
     cases F
     all_goals
      refine ak.intro Q12.2 (by simp[Q12]) ?_
      simp(maxSteps:=9^7) (disch:=try exact dI) only[Q12,Typ.pv_mk,dQ,cn,aI,Typ.kind,Val.pv_mk,push_cast,seval]
      refine ab.pure hs rfl ?_
      simp(maxSteps:=9^7) (disch:=try exact dI) only[dQ,cn,aI,Typ.kind,Val.pv_mk,List.map_nil,if_true,Bool.false_eq_true,if_false,push_cast,seval]
      refine ab.pure hp rfl ?_
      simp(maxSteps:=9^7) (disch:=try exact dI) only[dQ,cn,aI,Typ.kind,Val.pv_mk,List.map_nil,if_true,Bool.false_eq_true,if_false,push_cast,seval]
      refine ab.pure hF rfl ?_
      simp(maxSteps:=9^7) (disch:=try exact dI) only[dQ,cn,aI,Typ.kind,Val.pv_mk,List.map_nil,if_true,Bool.false_eq_true,if_false,push_cast,seval]
    ·rw[hn (by rw[decide_eq_false hz];rfl)]
     have hzI:¬ (sc:Int)=0:=by omega
     clear hn hf
     refine ak.intro Q12.2 (by simp[Q12]) ?_
     simp(maxSteps:=9^7) (disch:=try exact dI) only[Q12,Typ.pv_mk,dQ,cn,aI,Typ.kind,Val.pv_mk,push_cast,seval]
     refine ab.pure hs rfl ?_
     simp(maxSteps:=9^7) (disch:=try exact dI) only[dQ,cn,aI,Typ.kind,Val.pv_mk,List.map_nil,if_true,Bool.false_eq_true,if_false,push_cast,seval]
     refine ab.pure hp rfl ?_
     simp(maxSteps:=9^7) (disch:=try exact dI) only[dQ,cn,aI,Typ.kind,Val.pv_mk,List.map_nil,if_true,Bool.false_eq_true,if_false,push_cast,seval]
   ·rw[hn (by rw[decide_eq_false he];rfl)]
    clear hn hf
    by_cases hz:(sc:Int)=0
    case' pos=>rw[hz] at hp
    all_goals
     refine ak.intro Q12.2 (by simp[Q12]) ?_
     simp(maxSteps:=9^7) (disch:=try exact dI) only[Q12,Typ.pv_mk,dQ,cn,aI,Typ.kind,Val.pv_mk,push_cast,seval]
     refine ab.pure hs rfl ?_
     simp(maxSteps:=9^7) (disch:=try exact dI) only[dQ,cn,aI,Typ.kind,Val.pv_mk,List.map_nil,if_true,Bool.false_eq_true,if_false,push_cast,seval]
     refine ab.pure hp rfl ?_
     simp(maxSteps:=9^7) (disch:=try exact dI) only[dQ,cn,aI,Typ.kind,Val.pv_mk,List.map_nil,if_true,Bool.false_eq_true,if_false,push_cast,seval]
  ·rw[Mq] at hn hf
   simp only[vN,Typ.pv_mk] at hs hn hf
   obtain⟨F,e1,hF⟩:=hf trivial
   rw[e1]
   clear hn hf e1
   cases F
   all_goals
    refine ak.intro Q12.2 (by simp[Q12]) ?_
    simp(maxSteps:=9^7) (disch:=try exact dI) only[Q12,Typ.pv_mk,dQ,cn,aI,Typ.kind,Val.pv_mk,push_cast,seval]
    refine ab.pure hs rfl ?_
    simp(maxSteps:=9^7) (disch:=try exact dI) only[dQ,cn,aI,Typ.kind,Val.pv_mk,List.map_nil,if_true,Bool.false_eq_true,if_false,push_cast,seval]
    refine ab.pure hF rfl ?_
    simp(maxSteps:=9^7) (disch:=try exact dI) only[dQ,cn,aI,Typ.kind,Val.pv_mk,List.map_nil,if_true,Bool.false_eq_true,if_false,push_cast,seval]
  ·rw[Mp] at hn hf
   simp only[vN,Typ.pv_mk] at hs hn hf
   have hp:=toE (T:=T) (p:=p) (Lo s (by omega))
   by_cases h2:s.length % 2=0
   ·rw[qD h2] at hp
    cases he:oi s with
    | none=>
      rw[hn (by rw[he];rfl)]
      rw[he] at hp
      simp only[DP] at hp
      clear hn hf
      refine ak.intro Q12.2 (by simp[Q12]) ?_
      simp(maxSteps:=9^7) (disch:=try exact dI) only[Q12,Typ.pv_mk,dQ,cn,aI,Typ.kind,Val.pv_mk,push_cast,seval]
      refine ab.pure hs rfl ?_
      simp(maxSteps:=9^7) (disch:=try exact dI) only[dQ,cn,aI,Typ.kind,Val.pv_mk,List.map_nil,if_true,Bool.false_eq_true,if_false,push_cast,seval]
      refine ab.pure hp rfl ?_
      simp(maxSteps:=9^7) (disch:=try exact dI) only[dQ,cn,aI,Typ.kind,Val.pv_mk,List.map_nil,if_true,Bool.false_eq_true,if_false,push_cast,seval]
    | some b=>
      obtain⟨F,e1,hF⟩:=hf (by rw[he,decide_eq_true h2];rfl)
      rw[e1]
      rw[he] at hp hF ⊢
      simp only[DP] at hp
      simp only[Option.getD_some] at hF ⊢
      clear hn hf e1
      cases F
      all_goals
       refine ak.intro Q12.2 (by simp[Q12]) ?_
       simp(maxSteps:=9^7) (disch:=try exact dI) only[Q12,Typ.pv_mk,dQ,cn,aI,Typ.kind,Val.pv_mk,push_cast,seval]
       refine ab.pure hs rfl ?_
       simp(maxSteps:=9^7) (disch:=try exact dI) only[dQ,cn,aI,Typ.kind,Val.pv_mk,List.map_nil,if_true,Bool.false_eq_true,if_false,push_cast,seval]
       refine ab.pure hp rfl ?_
       simp(maxSteps:=9^7) (disch:=try exact dI) only[dQ,cn,aI,Typ.kind,Val.pv_mk,List.map_nil,if_true,Bool.false_eq_true,if_false,push_cast,seval]
       refine ab.pure hF rfl ?_
       simp(maxSteps:=9^7) (disch:=try exact dI) only[dQ,cn,aI,Typ.kind,Val.pv_mk,List.map_nil,if_true,Bool.false_eq_true,if_false,push_cast,seval]
   ·rw[hn (by rw[decide_eq_false h2,Bool.and_false])]
    rw[og (by omega)] at hp
    simp only[DP] at hp
    clear hn hf
    refine ak.intro Q12.2 (by simp[Q12]) ?_
    simp(maxSteps:=9^7) (disch:=try exact dI) only[Q12,Typ.pv_mk,dQ,cn,aI,Typ.kind,Val.pv_mk,push_cast,seval]
    refine ab.pure hs rfl ?_
    simp(maxSteps:=9^7) (disch:=try exact dI) only[dQ,cn,aI,Typ.kind,Val.pv_mk,List.map_nil,if_true,Bool.false_eq_true,if_false,push_cast,seval]
    refine ab.pure hp rfl ?_
    simp(maxSteps:=9^7) (disch:=try exact dI) only[dQ,cn,aI,Typ.kind,Val.pv_mk,List.map_nil,if_true,Bool.false_eq_true,if_false,push_cast,seval]
  ·rcases h367 with rfl | rfl | rfl
   all_goals
    first
    | rw[Mr] at hn hf
      have hp:=CB (T:=T) (p:=p) s
      generalize aS s=N at *
      obtain⟨⟨n,sc⟩,er⟩:=N
    | rw[Mo] at hn hf
      have hp:=toE (T:=T) (p:=p) (MN s)
      generalize bK s=N at *
      obtain⟨n,er⟩:=N
    | rw[Mn] at hn hf
      have hp:=toE (T:=T) (p:=p) (sC s)
      generalize bZ s=N at *
      obtain⟨n,er⟩:=N
    simp only[vN,Typ.pv_mk] at hp hs hn hf
    by_cases he:er=0
    ·subst he
     obtain⟨F,e1,hF⟩:=hf rfl
     rw[e1]
     clear hn hf e1
     cases F
     all_goals
      refine ak.intro Q12.2 (by simp[Q12]) ?_
      simp(maxSteps:=9^7) (disch:=try exact dI) only[Q12,Typ.pv_mk,dQ,cn,aI,Typ.kind,Val.pv_mk,push_cast,seval]
      refine ab.pure hs rfl ?_
      simp(maxSteps:=9^7) (disch:=try exact dI) only[dQ,cn,aI,Typ.kind,Val.pv_mk,List.map_nil,if_true,Bool.false_eq_true,if_false,push_cast,seval]
      refine ab.pure hp rfl ?_
      simp(maxSteps:=9^7) (disch:=try exact dI) only[dQ,cn,aI,Typ.kind,Val.pv_mk,List.map_nil,if_true,Bool.false_eq_true,if_false,push_cast,seval]
      refine ab.pure hF rfl ?_
      simp(maxSteps:=9^7) (disch:=try exact dI) only[dQ,cn,aI,Typ.kind,Val.pv_mk,List.map_nil,if_true,Bool.false_eq_true,if_false,push_cast,seval]
    ·rw[hn (decide_eq_false he)]
     clear hn hf
     refine ak.intro Q12.2 (by simp[Q12]) ?_
     simp(maxSteps:=9^7) (disch:=try exact dI) only[Q12,Typ.pv_mk,dQ,cn,aI,Typ.kind,Val.pv_mk,push_cast,seval]
     refine ab.pure hs rfl ?_
     simp(maxSteps:=9^7) (disch:=try exact dI) only[dQ,cn,aI,Typ.kind,Val.pv_mk,List.map_nil,if_true,Bool.false_eq_true,if_false,push_cast,seval]
     refine ab.pure hp rfl ?_
     simp(maxSteps:=9^7) (disch:=try exact dI) only[dQ,cn,aI,Typ.kind,Val.pv_mk,List.map_nil,if_true,Bool.false_eq_true,if_false,push_cast,seval]
def hx (k:Nat):UInt8:=FQ.getD k 0
def Ur:List UInt8->List UInt8
 | []=>[]
 | b::r=>hx (b.toNat / 16)::hx (b.toNat % 16)::Ur r
def exC:List UInt8->St
 | []=>⟨[(7,.pv (.int .i64 0)),(8,.ptr 0 0)],[(0,.cells 89 true [.pv .nilp,.pv .nils])],1⟩
 | b::r=>⟨[(7,.pv (.int .i64 0)),(8,.ptr 0 0)],[(0,.cells 89 true [.ptr 0 0,.row 1 1 0 (r.length+1)]),(1,.cells 5 false ((aF (b::r)).map .pv))],2⟩
theorem uh:∀ (n:Nat) (a:Val),dep n a->ak Tryz.prog aq 15 [a.pv,a.pv] (.bool true)
 | 0,a,h=>h.elim
 | n+1,a,hd=>by
   have ih:=uh n
   obtain⟨w1,w2,w3,w4,w5,w6⟩:=a
   simp only[dep,Val.lst,Val.fields,Val.text] at hd
   obtain⟨d1,d2,d3,d4,d5⟩:=hd
   refine ak.intro Q15.2 (by simp[Q15]) ?_
   simp(disch:=try exact dI) only[Q15,Val.pv_mk,push_cast,seval]
   refine ap ([]) (fun m:Nat=>[(5,.pv (.int .i64 (m:Int)))]) (fun m=>[]) (fun m=>m<=w5.length) (fun m=>w5.length - m) (0) ?_;intro e0 σ0 n0 h0;simp(disch:=try exact dI) only[push_cast,seval] at h0;obtain⟨rfl,rfl,rfl⟩:=h0;refine⟨?_,?_,?_⟩
   ·exact qsZ
   ·omega
   ·intro m hm
    by_cases hlt:m<w5.length
    ·have hltI:(m:Int)<w5.length:=by omega
     obtain⟨x,hx⟩:∃ x,w5[m]? = some x:=⟨_,List.getElem?_eq_getElem hlt⟩
     have hcall:=ih x (d4 x (List.mem_of_getElem? hx))
     obtain⟨z1,z2,z3,z4,z5,z6⟩:=x
     simp only[Val.pv_mk] at hcall
     simp(disch:=try exact dI) only[hx,Val.pv_mk,push_cast,seval]
     refine ab.pure hcall rfl ?_
     refine zgZ ?_
     exact⟨m+1,aK qsZ,by omega,by omega⟩
    ·have hltI:¬ (m:Int)<w5.length:=by omega
     refine zgZ ?_
     refine ap ([]) (fun m:Nat=>[(6,.pv (.int .i64 (m:Int)))]) (fun m=>[]) (fun m=>m<=w6.length) (fun m=>w6.length - m) (0) ?_;intro e0 σ0 n0 h0;simp(disch:=try exact dI) only[push_cast,seval] at h0;obtain⟨rfl,rfl,rfl⟩:=h0;refine⟨?_,?_,?_⟩
     ·exact qsZ
     ·omega
     ·intro m hm
      by_cases hlt:m<w6.length
      ·have hltI:(m:Int)<w6.length:=by omega
       obtain⟨x,hx⟩:∃ x,w6[m]? = some x:=⟨_,List.getElem?_eq_getElem hlt⟩
       have hcall:=ih x.value (d5 x (List.mem_of_getElem? hx)).2
       obtain⟨z0,⟨z1,z2,z3,z4,z5,z6⟩⟩:=x
       simp only[Fld.value,Val.pv_mk] at hcall
       simp(disch:=try exact dI) only[hx,Fld.pv_mk,Val.pv_mk,push_cast,seval]
       refine ab.pure hcall rfl ?_
       refine zgZ ?_
       exact⟨m+1,aK qsZ,by omega,by omega⟩
      ·have hltI:¬ (m:Int)<w6.length:=by omega
       exact qsZ
variable {n:Nat}{fs:List TFd}{x:Fld}
theorem LJ (t:Typ)(ht:t.ok):ak Tryz.prog aq 11 [t.pv] (aX 3 t).pv:=by
 have h:=rW 3 (by omega) t ht
 rw[show ((3:Nat):Int)=3 from rfl] at h
 generalize aX 3 t=u at *
 obtain⟨k1,a1,b1,c1,w1,e1,f1⟩:=t
 obtain⟨k2,a2,b2,c2,w2,e2,f2⟩:=u
 simp only[Typ.pv_mk] at h ⊢
 refine ak.intro Q11.2 (by simp[Q11]) ?_
 simp(disch:=try exact dI) only[Q11,push_cast,seval]
 refine ab.pure h rfl ?_
 exact qsZ
theorem I0 {G G':Nat->List PV}(key:∀ g,G g≠[]->G' g=G g){w:World}{imm:Nat->Nat->Prop}(h:bM G' w imm):bM G w imm:=by
 refine⟨fun g o p hp=>h.1 g o p ?_,fun g hg=>?_⟩
 ·rw[key g (by intro e;rw[e] at hp;simp at hp)];exact hp
 ·rw[<- key g hg]
  exact h.2 g (by rw[key g hg];exact hg)
theorem HE {G G':Nat->List PV}(key:∀ g,G g≠[]->G' g=G g){f:Nat}{args:List PV}{r:PV}(h:ak Tryz.prog G f args r):ak Tryz.prog G' f args r:=
 ⟨h.1,fun w imm vals hG=>h.2 w imm vals (I0 key hG)⟩
def rx (m:Int)(T:Nat)(p:PV):Nat->List PV:=fun g=>if g=0 then [.int .i64 m] else oX T p g
section
variable {m:Int}{T:Nat}{p:PV}{f:Nat}{args:List PV}{r:PV}
theorem xE (h:ak Tryz.prog (oX T p) f args r):ak Tryz.prog (rx m T p) f args r:=by
 refine HE (fun g hg=>?_) h
 unfold rx
 by_cases h0:g=0
 ·subst h0;exact absurd rfl hg
 ·rw[if_neg h0]
theorem xG (h:ak Tryz.prog aq f args r):ak Tryz.prog (rx m T p) f args r:=xE (toE h)
end
end Go.Proofs.YtbaaokocnegdoaaGreatDoor

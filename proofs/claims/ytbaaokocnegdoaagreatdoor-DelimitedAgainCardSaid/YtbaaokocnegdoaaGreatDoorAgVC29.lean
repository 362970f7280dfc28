/- A part of the proof. -/
import Derived.Test.YtbaaokocnegdoaaGreatDoorAgWP
set_option linter.unusedVariables false
set_option linter.unusedSimpArgs false
set_option maxHeartbeats 16000000
set_option maxRecDepth 100000
namespace Go.Proofs.YtbaaokocnegdoaaGreatDoor
open Go Go.Ab
attribute [local irreducible] vc
def dE (t:Typ)(q:Int×Int×List UInt8)(F:Bool):Val×Int:=if F=true then (bh t.kind q,0) else (aJ,18)
theorem FU {t:Typ}{s:List UInt8}(hk:nZ t.kind=true)(ho:(rdQ t.kind s).2=true):j9 t s=dE t (rdQ t.kind s).1 (aK 1 t (bh t.kind (rdQ t.kind s).1) []).isEmpty:=by
 unfold j9 dE
 rw[if_neg (by rw[hk];simp),if_neg (by rw[ho];simp)]
theorem K1 {t:Typ}{s:List UInt8}(hk:nZ t.kind=true)(ho:(rdQ t.kind s).2=false):j9 t s=(aJ,13):=by
 unfold j9
 rw[if_neg (by rw[hk];simp),if_pos ho]
theorem qt {T:Nat}{p:PV}{t:Typ}{q:Int×Int×List UInt8}(hk:nZ t.kind=true)(ht:eI 1 t)(hq:I64 q.1/\I64 q.2.1/\q.2.2.length<=5000) :
  ae Tryz.prog (oF T p) 37 [t.pv,vN t.kind q.1 q.2.1 q.2.2] (.bool (aK 1 t (bh t.kind q) []).isEmpty):=
 toE ((D5 t (bh t.kind q) ((dr _).1 hk) (jL hq.2.2) ht (rG hk hq)).nz (.cons _ _ _ _ (.refl _) (.cons _ _ _ _ (K0 _ _) .nil)))
theorem Pn {T:Nat}{p:PV}(k:Int){a b c:Int}{w:List (List UInt8)}{e:List Typ}{f:List TFd}(s:List UInt8)(hl:s.length<=5000)(hk:nZ k=true)(ht:eI 1 (.mk k a b c w e f)) :
  ae Tryz.prog (oF T p) 32 [(Typ.mk k a b c w e f).pv] (.bool true)/\((rdQ k s).2=false->j9 (.mk k a b c w e f) s=(aJ,13)) /\
   ((rdQ k s).2=true->∃ F,j9 (.mk k a b c w e f) s=dE (.mk k a b c w e f) (rdQ k s).1 F/\ae Tryz.prog (oF T p) 37 [(Typ.mk k a b c w e f).pv,vN k (rdQ k s).1.1 (rdQ k s).1.2.1 (rdQ k s).1.2.2] (.bool F)):=by
 have hs:=toE (T:=T) (p:=p) (nH (.mk k a b c w e f))
 rw[show nZ (Typ.mk k a b c w e f).kind=true from hk] at hs
 exact⟨hs,K1 (t:=.mk k a b c w e f) hk,fun h=>⟨_,FU (t:=.mk k a b c w e f) hk h,qt (t:=.mk k a b c w e f) hk ht (BT hk hl h)⟩⟩
theorem A1 {T:Nat}{p:PV}(t:Typ)(s:List UInt8)(hl:s.length<=5000)(ht:eI 1 t):ae Tryz.prog (oF T p) 12 [t.pv,.str s] (.tup [(j9 t s).1.pv,.int .i64 (j9 t s).2]):=by
 by_cases hk:nZ t.kind=false
 ·have hs:=toE (T:=T) (p:=p) (nH t)
  unfold j9
  rw[if_pos hk]
  rw[hk] at hs
  obtain⟨k,a,b,c,w,e,f⟩:=t
  simp only[Typ.pv_mk] at hs
  refine ae.intro Q12.2 (by simp[Q12]) ?_
  simp(maxSteps:=9^7) (disch:=try exact dI) only[Q12,Typ.pv_mk,dE,bh,aJ,Typ.kind,Val.pv_mk,push_cast,seval]
  refine ab.pure hs rfl ?_
  simp(maxSteps:=9^7) (disch:=try exact dI) only[dE,bh,aJ,Typ.kind,Val.pv_mk,List.map_nil,if_true,Bool.false_eq_true,if_false,push_cast,seval]
 ·have hk:nZ t.kind=true:=by simpa using hk
  rw[dr] at hk
  obtain⟨k,a,b,c,w,e,f⟩:=t
  simp only[Typ.kind] at hk
  have hc:k=1\/k=2\/k=4\/k=5\/k=3\/k=6\/k=7:=by omega
  obtain⟨hs,hn,hf⟩:=Pn (T:=T) (p:=p) k s hl ((dr k).2 hk) ht
  rcases hc with rfl | rfl | rfl | rfl | h367
  ·rw[GP] at hn hf
   simp only[vN,Typ.pv_mk] at hs hn hf
   by_cases h1:s=gw
   ·subst h1
    obtain⟨F,e1,hF⟩:=hf rfl
    rw[e1]
    rw[if_pos rfl] at hF ⊢
    clear hn hf e1
    unfold gw
    cases F
    all_goals
     refine ae.intro Q12.2 (by simp[Q12]) ?_
     simp(maxSteps:=9^7) (disch:=try exact dI) only[Q12,Typ.pv_mk,dE,bh,aJ,Typ.kind,Val.pv_mk,push_cast,seval]
     refine ab.pure hs rfl ?_
     simp(maxSteps:=9^7) (disch:=try exact dI) only[dE,bh,aJ,Typ.kind,Val.pv_mk,List.map_nil,if_true,Bool.false_eq_true,if_false,push_cast,seval]
     refine ab.pure hF rfl ?_
     simp(maxSteps:=9^7) (disch:=try exact dI) only[dE,bh,aJ,Typ.kind,Val.pv_mk,List.map_nil,if_true,Bool.false_eq_true,if_false,push_cast,seval]
   ·by_cases h2:s=eR
    ·subst h2
     obtain⟨F,e1,hF⟩:=hf rfl
     rw[e1]
     rw[if_neg h1] at hF ⊢
     clear hn hf e1
     unfold eR
     have h1b:decide (([102,97,108,115,101]:List UInt8)=[116,114,117,101])=false:=rfl
     cases F
     all_goals
      refine ae.intro Q12.2 (by simp[Q12]) ?_
      simp(maxSteps:=9^7) (disch:=try exact dI) only[Q12,Typ.pv_mk,dE,bh,aJ,Typ.kind,Val.pv_mk,h1b,push_cast,seval]
      refine ab.pure hs rfl ?_
      simp(maxSteps:=9^7) (disch:=try exact dI) only[dE,bh,aJ,Typ.kind,Val.pv_mk,List.map_nil,if_true,Bool.false_eq_true,if_false,h1b,push_cast,seval]
      refine ab.pure hF rfl ?_
      simp(maxSteps:=9^7) (disch:=try exact dI) only[dE,bh,aJ,Typ.kind,Val.pv_mk,List.map_nil,if_true,Bool.false_eq_true,if_false,h1b,push_cast,seval]
    ·rw[hn (by rw[decide_eq_false h1,decide_eq_false h2];rfl)]
     have h1b:decide (s=[116,114,117,101])=false:=decide_eq_false h1
     have h2b:decide (s=[102,97,108,115,101])=false:=decide_eq_false h2
     clear hn hf
     refine ae.intro Q12.2 (by simp[Q12]) ?_
     simp(maxSteps:=9^7) (disch:=try exact dI) only[Q12,Typ.pv_mk,dE,bh,aJ,Typ.kind,Val.pv_mk,h1b,h2b,push_cast,seval]
     refine ab.pure hs rfl ?_
     simp(maxSteps:=9^7) (disch:=try exact dI) only[dE,bh,aJ,Typ.kind,Val.pv_mk,List.map_nil,if_true,Bool.false_eq_true,if_false,h1b,h2b,push_cast,seval]
  ·rw[BY] at hn hf
   simp only[vN,Typ.pv_mk] at hs hn hf
   have hp:=CF (T:=T) (p:=p) s
   generalize aS s=N at *
   obtain⟨⟨n,sc⟩,er⟩:=N
   simp only at hp hn hf
   by_cases he:er=0
   ·subst he
    by_cases hz:sc=0
    ·subst hz
     obtain⟨F,e1,hF⟩:=hf rfl
     rw[e1]
     clear hn hf e1
     cases F
     all_goals
      refine ae.intro Q12.2 (by simp[Q12]) ?_
      simp(maxSteps:=9^7) (disch:=try exact dI) only[Q12,Typ.pv_mk,dE,bh,aJ,Typ.kind,Val.pv_mk,push_cast,seval]
      refine ab.pure hs rfl ?_
      simp(maxSteps:=9^7) (disch:=try exact dI) only[dE,bh,aJ,Typ.kind,Val.pv_mk,List.map_nil,if_true,Bool.false_eq_true,if_false,push_cast,seval]
      refine ab.pure hp rfl ?_
      simp(maxSteps:=9^7) (disch:=try exact dI) only[dE,bh,aJ,Typ.kind,Val.pv_mk,List.map_nil,if_true,Bool.false_eq_true,if_false,push_cast,seval]
      refine ab.pure hF rfl ?_
      simp(maxSteps:=9^7) (disch:=try exact dI) only[dE,bh,aJ,Typ.kind,Val.pv_mk,List.map_nil,if_true,Bool.false_eq_true,if_false,push_cast,seval]
    ·rw[hn (by rw[decide_eq_false hz];rfl)]
     have hzI:¬ (sc:Int)=0:=by omega
     clear hn hf
     refine ae.intro Q12.2 (by simp[Q12]) ?_
     simp(maxSteps:=9^7) (disch:=try exact dI) only[Q12,Typ.pv_mk,dE,bh,aJ,Typ.kind,Val.pv_mk,push_cast,seval]
     refine ab.pure hs rfl ?_
     simp(maxSteps:=9^7) (disch:=try exact dI) only[dE,bh,aJ,Typ.kind,Val.pv_mk,List.map_nil,if_true,Bool.false_eq_true,if_false,push_cast,seval]
     refine ab.pure hp rfl ?_
     simp(maxSteps:=9^7) (disch:=try exact dI) only[dE,bh,aJ,Typ.kind,Val.pv_mk,List.map_nil,if_true,Bool.false_eq_true,if_false,push_cast,seval]
   ·rw[hn (by rw[decide_eq_false he];rfl)]
    clear hn hf
    by_cases hz:(sc:Int)=0
    case' pos=>rw[hz] at hp
    all_goals
     refine ae.intro Q12.2 (by simp[Q12]) ?_
     simp(maxSteps:=9^7) (disch:=try exact dI) only[Q12,Typ.pv_mk,dE,bh,aJ,Typ.kind,Val.pv_mk,push_cast,seval]
     refine ab.pure hs rfl ?_
     simp(maxSteps:=9^7) (disch:=try exact dI) only[dE,bh,aJ,Typ.kind,Val.pv_mk,List.map_nil,if_true,Bool.false_eq_true,if_false,push_cast,seval]
     refine ab.pure hp rfl ?_
     simp(maxSteps:=9^7) (disch:=try exact dI) only[dE,bh,aJ,Typ.kind,Val.pv_mk,List.map_nil,if_true,Bool.false_eq_true,if_false,push_cast,seval]
  ·rw[GO] at hn hf
   simp only[vN,Typ.pv_mk] at hs hn hf
   obtain⟨F,e1,hF⟩:=hf trivial
   rw[e1]
   clear hn hf e1
   cases F
   all_goals
    refine ae.intro Q12.2 (by simp[Q12]) ?_
    simp(maxSteps:=9^7) (disch:=try exact dI) only[Q12,Typ.pv_mk,dE,bh,aJ,Typ.kind,Val.pv_mk,push_cast,seval]
    refine ab.pure hs rfl ?_
    simp(maxSteps:=9^7) (disch:=try exact dI) only[dE,bh,aJ,Typ.kind,Val.pv_mk,List.map_nil,if_true,Bool.false_eq_true,if_false,push_cast,seval]
    refine ab.pure hF rfl ?_
    simp(maxSteps:=9^7) (disch:=try exact dI) only[dE,bh,aJ,Typ.kind,Val.pv_mk,List.map_nil,if_true,Bool.false_eq_true,if_false,push_cast,seval]
  ·rw[BW] at hn hf
   simp only[vN,Typ.pv_mk] at hs hn hf
   have hp:=toE (T:=T) (p:=p) (K6 s (by omega))
   by_cases h2:s.length % 2=0
   ·rw[gQ h2] at hp
    cases he:yI s with
    | none=>
      rw[hn (by rw[he];rfl)]
      rw[he] at hp
      simp only[DM] at hp
      clear hn hf
      refine ae.intro Q12.2 (by simp[Q12]) ?_
      simp(maxSteps:=9^7) (disch:=try exact dI) only[Q12,Typ.pv_mk,dE,bh,aJ,Typ.kind,Val.pv_mk,push_cast,seval]
      refine ab.pure hs rfl ?_
      simp(maxSteps:=9^7) (disch:=try exact dI) only[dE,bh,aJ,Typ.kind,Val.pv_mk,List.map_nil,if_true,Bool.false_eq_true,if_false,push_cast,seval]
      refine ab.pure hp rfl ?_
      simp(maxSteps:=9^7) (disch:=try exact dI) only[dE,bh,aJ,Typ.kind,Val.pv_mk,List.map_nil,if_true,Bool.false_eq_true,if_false,push_cast,seval]
    | some b=>
      obtain⟨F,e1,hF⟩:=hf (by rw[he,decide_eq_true h2];rfl)
      rw[e1]
      rw[he] at hp hF ⊢
      simp only[DM] at hp
      simp only[Option.getD_some] at hF ⊢
      clear hn hf e1
      cases F
      all_goals
       refine ae.intro Q12.2 (by simp[Q12]) ?_
       simp(maxSteps:=9^7) (disch:=try exact dI) only[Q12,Typ.pv_mk,dE,bh,aJ,Typ.kind,Val.pv_mk,push_cast,seval]
       refine ab.pure hs rfl ?_
       simp(maxSteps:=9^7) (disch:=try exact dI) only[dE,bh,aJ,Typ.kind,Val.pv_mk,List.map_nil,if_true,Bool.false_eq_true,if_false,push_cast,seval]
       refine ab.pure hp rfl ?_
       simp(maxSteps:=9^7) (disch:=try exact dI) only[dE,bh,aJ,Typ.kind,Val.pv_mk,List.map_nil,if_true,Bool.false_eq_true,if_false,push_cast,seval]
       refine ab.pure hF rfl ?_
       simp(maxSteps:=9^7) (disch:=try exact dI) only[dE,bh,aJ,Typ.kind,Val.pv_mk,List.map_nil,if_true,Bool.false_eq_true,if_false,push_cast,seval]
   ·rw[hn (by rw[decide_eq_false h2,Bool.and_false])]
    rw[ob (by omega)] at hp
    simp only[DM] at hp
    clear hn hf
    refine ae.intro Q12.2 (by simp[Q12]) ?_
    simp(maxSteps:=9^7) (disch:=try exact dI) only[Q12,Typ.pv_mk,dE,bh,aJ,Typ.kind,Val.pv_mk,push_cast,seval]
    refine ab.pure hs rfl ?_
    simp(maxSteps:=9^7) (disch:=try exact dI) only[dE,bh,aJ,Typ.kind,Val.pv_mk,List.map_nil,if_true,Bool.false_eq_true,if_false,push_cast,seval]
    refine ab.pure hp rfl ?_
    simp(maxSteps:=9^7) (disch:=try exact dI) only[dE,bh,aJ,Typ.kind,Val.pv_mk,List.map_nil,if_true,Bool.false_eq_true,if_false,push_cast,seval]
  ·rcases h367 with rfl | rfl | rfl
   all_goals
    first
    | rw[BX] at hn hf
      have hp:=CF (T:=T) (p:=p) s
      generalize aS s=N at *
      obtain⟨⟨n,sc⟩,er⟩:=N
    | rw[BV] at hn hf
      have hp:=toE (T:=T) (p:=p) (Mf s)
      generalize ca s=N at *
      obtain⟨n,er⟩:=N
    | rw[BU] at hn hf
      have hp:=toE (T:=T) (p:=p) (sB s)
      generalize b9 s=N at *
      obtain⟨n,er⟩:=N
    simp only[vN,Typ.pv_mk] at hp hs hn hf
    by_cases he:er=0
    ·subst he
     obtain⟨F,e1,hF⟩:=hf rfl
     rw[e1]
     clear hn hf e1
     cases F
     all_goals
      refine ae.intro Q12.2 (by simp[Q12]) ?_
      simp(maxSteps:=9^7) (disch:=try exact dI) only[Q12,Typ.pv_mk,dE,bh,aJ,Typ.kind,Val.pv_mk,push_cast,seval]
      refine ab.pure hs rfl ?_
      simp(maxSteps:=9^7) (disch:=try exact dI) only[dE,bh,aJ,Typ.kind,Val.pv_mk,List.map_nil,if_true,Bool.false_eq_true,if_false,push_cast,seval]
      refine ab.pure hp rfl ?_
      simp(maxSteps:=9^7) (disch:=try exact dI) only[dE,bh,aJ,Typ.kind,Val.pv_mk,List.map_nil,if_true,Bool.false_eq_true,if_false,push_cast,seval]
      refine ab.pure hF rfl ?_
      simp(maxSteps:=9^7) (disch:=try exact dI) only[dE,bh,aJ,Typ.kind,Val.pv_mk,List.map_nil,if_true,Bool.false_eq_true,if_false,push_cast,seval]
    ·rw[hn (decide_eq_false he)]
     clear hn hf
     refine ae.intro Q12.2 (by simp[Q12]) ?_
     simp(maxSteps:=9^7) (disch:=try exact dI) only[Q12,Typ.pv_mk,dE,bh,aJ,Typ.kind,Val.pv_mk,push_cast,seval]
     refine ab.pure hs rfl ?_
     simp(maxSteps:=9^7) (disch:=try exact dI) only[dE,bh,aJ,Typ.kind,Val.pv_mk,List.map_nil,if_true,Bool.false_eq_true,if_false,push_cast,seval]
     refine ab.pure hp rfl ?_
     simp(maxSteps:=9^7) (disch:=try exact dI) only[dE,bh,aJ,Typ.kind,Val.pv_mk,List.map_nil,if_true,Bool.false_eq_true,if_false,push_cast,seval]
theorem Kk (b:Bool):ae Tryz.prog au 41 [.bool b] (.str (if b=true then gw else eR)):=by
 have h85:ae Tryz.prog au 85 [.bool b] (.str (if b=true then gw else eR)):=by
  unfold gw eR
  refine ae.intro Q85.2 (by simp[Q85]) ?_
  cases b with
  | true=>simp(disch:=try exact dI) only[Q85,push_cast,seval]
  | false=>simp(disch:=try exact dI) only[Q85,Bool.false_eq_true,push_cast,seval]
 generalize (if b=true then gw else eR)=q at *
 refine ae.intro Q41.2 (by simp[Q41]) ?_
 simp(disch:=try exact dI) only[Q41,push_cast,seval]
 refine ab.pure h85 rfl ?_
 exact qsZ
def hx (k:Nat):UInt8:=FF.getD k 0
def ru:List UInt8->List UInt8
 | []=>[]
 | b::r=>hx (b.toNat / 16)::hx (b.toNat % 16)::ru r
theorem vu:∀ (l:List UInt8) (b:UInt8),ru (l++[b])=ru l++[hx (b.toNat / 16),hx (b.toNat % 16)]
 | [],b=>rfl
 | c::l,b=>by simp[ru,vu l b]
theorem oa:∀ l:List UInt8,(ru l).length=2*l.length
 | []=>rfl
 | b::r=>by simp[ru,oa r];omega
theorem qu:∀ {s b:List UInt8},rx s=some b->ru b=s
 | [],b,h=>by cases h;rfl
 | [_],b,h=>by simp[rx] at h
 | x::y::r,b,h=>by
   rw[rx] at h
   split at h
   ·cases h
   ·rename_i hn
    simp only[Option.map_eq_some_iff] at h
    obtain⟨q,hq,rfl⟩:=h
    have h1:=iM x
    have h2:=iM y
    have hxn:¬ nib x<0:=fun h=>hn (Or.inl h)
    have hyn:¬ nib y<0:=fun h=>hn (Or.inr h)
    have hb:=we hxn hyn
    have e1:(AF x y).toNat / 16=(nib x).toNat:=by omega
    have e2:(AF x y).toNat % 16=(nib y).toNat:=by omega
    rw[ru,qu hq,e1,e2]
    unfold hx
    rw[List.getD_eq_getElem?_getD,List.getD_eq_getElem?_getD,h1.2.2 (by omega),h2.2.2 (by omega)]
    rfl
theorem TP (b:UInt8){u:Nat}(h:b.toNat / 16=u):cD .shr (.pv (.int .u8 (b.toNat:Int))) (.pv (.int .u64 4))=some (.pv (.int .u8 (u:Int))):=by
 have e:cD .shr (.pv (.int .u8 (b.toNat:Int))) (.pv (.int .u64 4))=some (.pv (.int .u8 ((b.toNat:Int).fdiv 16))):=rfl
 rw[e,<- h,Int.fdiv_eq_ediv_of_nonneg _ (by omega)]
 rfl
theorem S6 (b:UInt8){u:Nat}(h:b.toNat % 16=u):bits .and .u8 (b.toNat:Int) 15=(u:Int):=by
 have key:∀ x:Fin 256,bits .and .u8 ((x.val:Nat):Int) 15=((x.val % 16:Nat):Int):=by decide +kernel
 rw[<- h]
 exact key ⟨b.toNat,b.toNat_lt⟩
theorem Kg {u:Nat}(h:u<16):FF[u]? = some (hx u):=by
 unfold hx
 rw[List.getD_eq_getElem?_getD,List.getElem?_eq_getElem (by simpa[FF] using h)]
 rfl
end Go.Proofs.YtbaaokocnegdoaaGreatDoor

/- A part of the proof. -/
import Derived.Test.YtbaaokocnegdoaaGreatDoorAgWL
set_option linter.unusedVariables false
set_option linter.unusedSimpArgs false
set_option maxHeartbeats 16000000
set_option maxRecDepth 100000
namespace Go.Proofs.YtbaaokocnegdoaaGreatDoor
open Go Go.Ab
attribute [local irreducible] vc
theorem IM (ih:TN)(t:Typ)(v:Val)(p:List UInt8)(hd:qM 2 v)(ht:eI 2 t)(hsc:∀ g∈t.fields,g.typ.kind<=7)(htf:t.fields.length<=900000000000)(hv:v.ok)(hp:p.length<=1000) :
  ae Tryz.prog au 64 [t.pv,v.pv,.str p] (.list ((r5 (aK 1) t v p).map Mis.pv)):=by
 have hvl:v.fields.length<=1400000000000:=by obtain⟨vk,vi,vs,vt,vl,vf⟩:=v;rw[Val.ok_mk] at hv;simp only[Val.fields];omega
 have h92:=fun name=>Nc v name (by simp only[qM] at hd;omega)
 have h61:=fun name=>rJ t name (by simp only[eI] at ht;omega)
 have hl1:=DZ (dt (aK 1) v.fields p) (l:=t.fields) (fun x hx=>na (hsc x hx))
 have hl1x:=fun x hx=>na (fs:=v.fields) (p:=p) (x:=x) (hsc x hx)
 have hl2:=DZ (eO t.fields p) (l:=v.fields) (fun x _=>xL _ _ _)
 rw[r5]
 obtain⟨k,m,M,s,w,e,fs⟩:=t
 obtain⟨vk,vi,vs,vt,vl,vf⟩:=v
 simp only[qM,eI,Val.lst,Val.fields,Val.text,Typ.fields,Typ.words,Typ.elem] at *
 obtain⟨d1,d2,d3,d4,d5⟩:=hd
 obtain⟨t1,t2,t3,t4⟩:=ht
 rw[Val.ok_mk] at hv
 rw[Typ.pv_mk,Val.pv_mk] at *
 generalize hF1:dt (aK 1) vf p=F1 at *
 generalize hF2:eO fs p=F2 at *
 refine ae.intro Q64.2 (by simp[Q64]) ?_
 simp(disch:=try exact dI) only[Q64,push_cast,seval]
 refine aC ([(7,0,109,2)]) (fun i:Nat=>[(7,.olist 0 2 (((fs.take i).flatMap F1).map Mis.pv)),(8,.pv (.int .i64 (i:Int)))]) (fun i=>[]) (fun i=>i<=fs.length) (fun i=>fs.length - i) (0) ?_;intro e0 σ0 n0 h0;simp(disch:=try exact dI) only[push_cast,seval] at h0;obtain⟨rfl,rfl,rfl⟩:=h0;refine⟨?_,?_,?_⟩
 ·simp(disch:=try exact dI) only[List.flatMap_nil,List.map_nil,push_cast,seval]
 ·omega
 ·intro i hi2
  by_cases hlt:i<fs.length
  ·have hltI:(i:Int)<fs.length:=by omega
   obtain⟨x,hx⟩:∃ x,fs[i]? = some x:=⟨_,List.getElem?_eq_getElem hlt⟩
   have hsn:=gS F1 hx
   have hl3:=hl1 i
   have hl4:=hl1x x (List.mem_of_getElem? hx)
   obtain⟨hxn,hxt⟩:=t4 x (List.mem_of_getElem? hx)
   have hxk:=hsc x (List.mem_of_getElem? hx)
   have hF1x:F1 x=dt (aK 1) vf p x:=by rw[hF1]
   generalize (fs.take i).flatMap F1=S at *
   obtain⟨x1,x2,x3,⟨y1,y2,y3,y4,y5,y6,y7⟩,x5⟩:=x
   simp only[TFd.name,TFd.typ] at hxn hxt hxk
   have hc:=h92 x2
   have hul:=ft p x2
   have hu:=Ke p x2 (by omega) (by omega)
   cases hfd:vf.find? (aU x2) with
   | some y=>
     rw[hfd] at hc
     rw[bM (by exact hfd)] at hF1x
     have hym:=List.mem_of_find?_eq_some hfd
     have hyd:=(d5 y hym).2
     have hyo:=hv.2.2.2.2.2.2.2 y hym
     obtain⟨yn,yv⟩:=y
     rw[Fld.ok_mk] at hyo
     simp only[Fld.value,TFd.typ,TFd.name] at hyd hF1x
     have hih:=ih (.mk y1 y2 y3 y4 y5 y6 y7) yv (bZ p x2) hyd hxt hxk hyo.2 (by omega)
     rw[<- hF1x] at hih
     have hma:=Kb (F1 (.mk x1 x2 x3 (.mk y1 y2 y3 y4 y5 y6 y7) x5))
     generalize F1 (.mk x1 x2 x3 (.mk y1 y2 y3 y4 y5 y6 y7) x5)=T at *
     obtain⟨z1,z2,z3,z4,z5,z6⟩:=yv
     simp only[vlR,Option.map_some,Option.getD_some,Option.isSome_some,Fld.value,Val.pv_mk] at hc
     simp only[Typ.pv_mk,Val.pv_mk] at hih
     simp(disch:=try exact dI) only[hx,TFd.pv_mk,Typ.pv_mk,push_cast,seval]
     refine ab.pure hc rfl ?_
     simp(disch:=try exact dI) only[TFd.pv_mk,Typ.pv_mk,push_cast,seval]
     refine ag hu rfl ?_
     refine zgZ ?_
     refine ag hih rfl ?_
     simp(disch:=try exact dI) only[hma,push_cast,seval]
     exact⟨i+1,aR (by simp(disch:=try exact dI) only[hsn,List.map_append,push_cast,seval]),by omega,by omega⟩
   | none=>
     rw[hfd] at hc
     simp only[vlR,Option.map_none,Option.getD_none,Option.isSome_none,aJ,Val.pv_mk,List.map_nil] at hc
     by_cases hn:x3=2
     ·rw[cL (by exact hfd) (by exact hn)] at hF1x
      simp(disch:=try exact dI) only[hx,TFd.pv_mk,Typ.pv_mk,hn,push_cast,seval]
      refine ab.pure hc rfl ?_
      simp(disch:=try exact dI) only[TFd.pv_mk,Typ.pv_mk,push_cast,seval]
      subst hn
      exact⟨i+1,aR (by simp(disch:=try exact dI) only[hsn,hF1x,List.append_nil,push_cast,seval]),by omega,by omega⟩
     ·rw[cl (by exact hfd) (by exact hn)] at hF1x
      simp only[TFd.name] at hF1x
      simp(disch:=try exact dI) only[hx,TFd.pv_mk,Typ.pv_mk,push_cast,seval]
      refine ab.pure hc rfl ?_
      simp(disch:=try exact dI) only[TFd.pv_mk,Typ.pv_mk,push_cast,seval]
      refine ab.pure hu rfl ?_
      refine zgZ ?_
      exact⟨i+1,aR (by simp(disch:=try exact dI) only[hsn,hF1x,List.map_append,Mis.pv_mk,List.map_cons,List.map_nil,push_cast,seval]),by omega,by omega⟩
  ·have hltI:¬ (i:Int)<fs.length:=by omega
   have hl3:=hl1 i
   rw[jO hlt] at hl3 ⊢
   generalize fs.flatMap F1=S at *
   refine zgZ ?_
   refine aC ([]) (fun i:Nat=>[(7,.olist 0 2 ((S++(vf.take i).flatMap F2).map Mis.pv)),(12,.pv (.int .i64 (i:Int)))]) (fun i=>[]) (fun i=>i<=vf.length) (fun i=>vf.length - i) (0) ?_;intro e0 σ0 n0 h0;simp(disch:=try exact dI) only[push_cast,seval] at h0;obtain⟨rfl,rfl,rfl⟩:=h0;refine⟨?_,?_,?_⟩
   ·simp(disch:=try exact dI) only[List.flatMap_nil,List.append_nil,push_cast,seval]
   ·omega
   ·intro i hi2
    by_cases hlt:i<vf.length
    ·have hltI:(i:Int)<vf.length:=by omega
     obtain⟨x,hx⟩:∃ x,vf[i]? = some x:=⟨_,List.getElem?_eq_getElem hlt⟩
     have hsn:=gS F2 hx
     have hl4:=hl2 i
     have hF2x:F2 x=eO fs p x:=by rw[hF2]
     have hxn:=(d5 x (List.mem_of_getElem? hx)).1
     generalize (vf.take i).flatMap F2=T at *
     obtain⟨x1,⟨y1,y2,y3,y4,y5,y6⟩⟩:=x
     simp only[Fld.name] at hxn
     have hc:=h61 x1
     have hul:=ft p x1
     have hu:=Ke p x1 (by omega) (by omega)
     cases hfd:fs.find? (named x1) with
     | some z=>
       rw[hfd] at hc
       rw[ga (by exact hfd)] at hF2x
       obtain⟨z1,z2,z3,⟨w1,w2,w3,w4,w5,w6,w7⟩,z5⟩:=z
       simp only[tfR,Option.getD_some,Option.isSome_some,TFd.pv_mk,Typ.pv_mk] at hc
       simp(disch:=try exact dI) only[hx,Fld.pv_mk,Val.pv_mk,push_cast,seval]
       refine ag hc rfl ?_
       refine zgZ ?_
       exact⟨i+1,aR (by simp(disch:=try exact dI) only[hsn,hF2x,List.append_nil,push_cast,seval]),by omega,by omega⟩
     | none=>
       rw[hfd] at hc
       rw[gd (by exact hfd)] at hF2x
       simp only[Fld.name] at hF2x
       simp only[tfR,Option.getD_none,Option.isSome_none,fO,TFd.pv_mk,Typ.pv_mk,List.map_nil] at hc
       simp(disch:=try exact dI) only[hx,Fld.pv_mk,Val.pv_mk,push_cast,seval]
       refine ag hc rfl ?_
       simp(disch:=try exact dI) only[hx,Fld.pv_mk,Val.pv_mk,push_cast,seval]
       refine ab.pure hu rfl ?_
       refine zgZ ?_
       exact⟨i+1,aR (by simp(disch:=try exact dI) only[hsn,hF2x,List.map_append,List.append_assoc,Mis.pv_mk,List.map_cons,List.map_nil,push_cast,seval]),by omega,by omega⟩
    ·have hltI:¬ (i:Int)<vf.length:=by omega
     rw[jO hlt]
     exact qsZ
theorem Pq {mn mx q:Int}{p:List UInt8}{X:List Mis}(e:X=jS mn mx p q):(q<mn/\X=[.mk p 2])\/(¬ q<mn/\mx<q/\X=[.mk p 2])\/(¬ q<mn/\¬ mx<q/\X=[]):=by
 subst e
 by_cases a:q<mn
 ·exact .inl ⟨a,uQ (.inl a)⟩
 by_cases b:mx<q
 ·exact .inr (.inl ⟨a,b,uQ (.inr b)⟩)
 ·exact .inr (.inr ⟨a,b,J7 (fun h=>h.elim a b)⟩)
theorem QZ (n:Nat)(t:Typ)(v:Val)(p:List UInt8)(hd:qM (n+1) v)(ht:eI (n+1) t)(hp:p.length<=2000)(hk:t.kind<=7\/t.kind=9)
  (h60:t.kind=9->ae Tryz.prog au 64 [t.pv,v.pv,.str p] (.list ((r5 (aK n) t v p).map Mis.pv))):ae Tryz.prog au 24 [t.pv,v.pv,.str p] (.list ((aK (n+1) t v p).map Mis.pv)):=by
 simp only[qM] at hd
 simp only[eI] at ht
 have h57:=II v (by omega) (by omega) (by omega)
 have h58:=Sm t.words v.text (by omega)
 rw[aV]
 have hc:=Da (aK n) t v p hk rfl rfl rfl
 clear hd ht hp hk
 generalize az v=F at h57 hc
 generalize (t.words.any fun x=>decide (x=v.text))=A at h58 hc
 generalize bW (aK n) t v p=X at hc ⊢
 rcases hc with ⟨a,e⟩ | ⟨a,b,e⟩ | ⟨a,b,c,e⟩ | ⟨a,b,c,rfl,e⟩ | ⟨hk,c,rfl,e⟩ | ⟨hk,c,rfl,e⟩ | ⟨hk,c,rfl,e⟩ | ⟨hk,c,rfl,e⟩ | ⟨hk,c,rfl,hs,e⟩ | ⟨hk,c,rfl,hs,e⟩ | ⟨hk,c,rfl,e⟩ | ⟨hk,c,rfl,hz,e⟩ | ⟨hk,c,rfl,hz,rfl,e⟩ | ⟨hk,c,rfl,hz,rfl,e⟩ | ⟨hk,c,rfl,e⟩
 all_goals try (have ho:=Pq e;clear e;rcases ho with ⟨o1,e⟩ | ⟨o1,o2,e⟩ | ⟨o1,o2,e⟩)
 all_goals
  try have hL:=h60 hk
  clear h60
  subst e
  obtain⟨k,m,M,s,w,e,fs⟩:=t
  obtain⟨vk,vi,vs,vt,vl,vf⟩:=v
  simp only[Val.text,Typ.words,Typ.kind,Val.kind,Typ.min,Typ.max,Typ.scale,Val.num,Val.scale] at *
  try subst hk
  try subst c
  try subst hs
  simp only[Typ.pv_mk,Val.pv_mk,List.map_cons,List.map_nil,Mis.pv_mk] at *
  refine ae.intro Q24.2 (by simp[Q24]) ?_
  simp(disch:=try exact dI) only[Q24, *,push_cast,seval]
  try
   refine ab.pure h57 rfl ?_
   simp(disch:=try exact dI) only[*,push_cast,seval]
  try
   refine ab.pure h58 rfl ?_
   exact qsZ
  try
   refine ab.pure hL rfl ?_
   exact qsZ
theorem T5:TN:=by
 intro t v p hd ht h7 hv hp
 exact QZ 0 t v p hd ht hp (.inl h7) fun h=>absurd h (by omega)
theorem T6 (t:Typ)(v:Val)(p:List UInt8)(hd:qM 2 v)(ht:eI 2 t)(h9:t.kind=9)(hsc:∀ g∈t.fields,g.typ.kind<=7)(htf:t.fields.length<=900000000000)(hv:v.ok)(hp:p.length<=1000):ae Tryz.prog au 24 [t.pv,v.pv,.str p] (.list ((aK 2 t v p).map Mis.pv)):=
 QZ 1 t v p hd ht (by omega) (.inr h9) fun _=>IM T5 t v p hd ht hsc htf hv hp
theorem D5 (t:Typ)(v:Val)(hsc:1<=t.kind/\t.kind<=7)(hd:dep 1 v)(ht:eI 1 t)(hv:v.ok):ae Tryz.prog au 37 [t.pv,v.pv] (.bool (aK 1 t v []).isEmpty):=by
 have h56:=D8 t v [] false [] _ (lK 1 0 v hd) ht hsc.2 hv (by simp) ⟨by simp,by simp⟩ rfl
 have e:=Fi (aK 1 t v []) []
 generalize fH false [] (aK 1 t v [])=S at *
 obtain⟨Sd,Sl⟩:=S
 simp only at e
 have e2:(aK 1 t v []).isEmpty=!Sd:=by rw[e,Bool.not_not]
 rw[e2]
 obtain⟨k,m,M,s,w,e,fs⟩:=t
 obtain⟨vk,vi,vs,vt,vl,vf⟩:=v
 simp only[jF,Typ.pv_mk,Val.pv_mk,List.map_nil] at h56
 refine ae.intro Q37.2 (by simp[Q37]) ?_
 simp(disch:=try exact dI) only[Q37,Typ.pv_mk,Val.pv_mk,push_cast,seval]
 refine ab.lentK h56 [4,2] rfl qsZ qsZ ?_
 exact qsZ
theorem eh (n:Nat)(t:Typ):(aZ (n+1) t).fields=if 0<n then (t.fields.take 6).map (cg (aZ n)) else []:=by
 obtain⟨k,a,b,c,w,e,f⟩:=t
 simp only[aZ,cR,Typ.fields,decide_eq_true_eq]
theorem kt (n:Nat)(t:Typ):(aZ (n+1) t).elem=if 0<n then (t.elem.take 2).map (aZ n) else []:=by
 obtain⟨k,a,b,c,w,e,f⟩:=t
 simp only[aZ,cR,Typ.elem,decide_eq_true_eq]
theorem jf (n:Nat)(t:Typ):(aZ n t).words=(t.words.take 6).map (List.take 40):=by
 obtain⟨k,a,b,c,w,e,f⟩:=t
 cases n<;>simp only[aZ,cR,Typ.words]
theorem pc (r:Typ->Typ)(f:TFd):(cg r f).name=f.name.take 40:=by
 obtain⟨a,b,c,d,e⟩:=f;rfl
theorem kq:∀ (n:Nat) (t:Typ),eI (n+1) (aZ (n+1) t)
 | 0,v=>by
   simp only[eI]
   rw[eh,kt,jf]
   simp;omega
 | n+1,v=>by
   simp only[eI]
   rw[eh,kt,jf,if_pos (by omega),if_pos (by omega)]
   refine⟨by simp;omega,by simp;omega,?_,?_⟩
   ·intro x hx
    obtain⟨y,_,rfl⟩:=List.mem_map.1 hx
    exact kq n y
   ·intro f hf
    obtain⟨y,_,rfl⟩:=List.mem_map.1 hf
    rw[pc,rX]
    exact⟨by simp;omega,kq n _⟩
def rdQ (k:Int)(s:List UInt8):(Int×Int×List UInt8)×Bool:=
 if k=1 then ((if s=gw then 1 else 0,0,[]),decide (s=gw)||decide (s=eR))
 else if k=2\/k=3 then (((aS s).1.1,((aS s).1.2:Int),[]),decide ((aS s).2=0)&&(decide (k=3)||decide ((aS s).1.2=0)))
 else if k=4 then ((0,0,s),true)
 else if k=5 then ((0,0,(yI s).getD []),(yI s).isSome&&decide (s.length % 2=0))
 else if k=6 then (((ca s).1,0,[]),decide ((ca s).2=0))
 else (((b9 s).1,0,[]),decide ((b9 s).2=0))
theorem GP (s:List UInt8):rdQ 1 s=((if s=gw then 1 else 0,0,[]),decide (s=gw)||decide (s=eR)):=rfl
theorem BY (s:List UInt8):rdQ 2 s=(((aS s).1.1,((aS s).1.2:Int),[]),decide ((aS s).2=0)&&decide ((aS s).1.2=0)):=by
 unfold rdQ
 rw[if_neg (by decide),if_pos (by decide),show decide ((2:Int)=3)=false from rfl,Bool.false_or]
theorem BX (s:List UInt8):rdQ 3 s=(((aS s).1.1,((aS s).1.2:Int),[]),decide ((aS s).2=0)):=by
 unfold rdQ
 rw[if_neg (by decide),if_pos (by decide),show decide ((3:Int)=3)=true from rfl,Bool.true_or,Bool.and_true]
theorem GO (s:List UInt8):rdQ 4 s=((0,0,s),true):=rfl
theorem BW (s:List UInt8):rdQ 5 s=((0,0,(yI s).getD []),(yI s).isSome&&decide (s.length % 2=0)):=rfl
theorem BV (s:List UInt8):rdQ 6 s=(((ca s).1,0,[]),decide ((ca s).2=0)):=rfl
theorem BU (s:List UInt8):rdQ 7 s=(((b9 s).1,0,[]),decide ((b9 s).2=0)):=rfl
theorem jW:∀ {s b:List UInt8},yI s=some b->b.length<=s.length
 | [],b,h=>by cases h;simp
 | [_],b,h=>by cases h;simp
 | x::y::r,b,h=>by
   rw[yI] at h
   split at h
   ·cases h
   ·simp only[Option.map_eq_some_iff] at h
    obtain⟨q,hq,rfl⟩:=h
    have:=jW hq
    simp;omega
theorem gK {s:List UInt8}(h:(aS s).2=0):IsN (aS s).1.1 (aS s).1.2/\iW (aS s).1.1 (aS s).1.2=s:=by
 unfold aS at h ⊢
 split at h
 ·cases h
 ·split at h
  ·cases h
  ·split at h
   ·rename_i h1 h2 h3
    rw[if_neg h1,if_neg h2,if_pos h3]
    exact h3
   ·cases h
theorem CE (s:List UInt8):-1000000000000000000<=(ca s).1/\(ca s).1<=1000000000000000000:=by
 unfold ca
 split
 ·rename_i y m d hn
  rcases Kt y m d with h | h
  ·have:=nj h;omega
  ·unfold lO at h ⊢
   split
   ·rename_i hh;rw[if_pos hh] at h;cases h
   ·simp
 ·simp
theorem CD {s:List UInt8}(h:(b9 s).2=0):-1000000000000000000<=(b9 s).1/\(b9 s).1<=1000000000000000000:=by
 obtain⟨y,m,d,hh,mi,sec,ms,h1,h2,h3,h4,h5,h6,h7⟩:=kJ (s:=s) (n:=(b9 s).1) (by rw[<- h])
 have:=ff h1
 omega
theorem BT {k:Int}{s:List UInt8}(hk:nZ k=true)(hl:s.length<=5000)(ho:(rdQ k s).2=true) :
  I64 (rdQ k s).1.1/\I64 (rdQ k s).1.2.1/\(rdQ k s).1.2.2.length<=5000:=by
 rw[dr] at hk
 have hc:k=1\/k=2\/k=3\/k=4\/k=5\/k=6\/k=7:=by omega
 unfold I64
 rcases hc with rfl | rfl | rfl | rfl | rfl | rfl | rfl
 ·rw[GP]
  simp only
  refine⟨?_,⟨by omega,by omega⟩,by simp⟩
  split<;>omega
 ·rw[BY] at ho ⊢
  simp only[Bool.and_eq_true,decide_eq_true_eq] at ho ⊢
  obtain⟨⟨h1,h2,h3⟩,_⟩:=gK ho.1
  exact⟨⟨by omega,by omega⟩,⟨by omega,by omega⟩,by simp⟩
 ·rw[BX] at ho ⊢
  simp only[decide_eq_true_eq] at ho ⊢
  obtain⟨⟨h1,h2,h3⟩,_⟩:=gK ho
  exact⟨⟨by omega,by omega⟩,⟨by omega,by omega⟩,by simp⟩
 ·rw[GO]
  exact⟨⟨by simp,by simp⟩,⟨by simp,by simp⟩,hl⟩
 ·rw[BW] at ho ⊢
  simp only[Bool.and_eq_true] at ho ⊢
  cases he:yI s with
  | none=>rw[he] at ho;simp at ho
  | some b=>
    have:=jW he
    exact⟨⟨by simp,by simp⟩,⟨by simp,by simp⟩,by simp;omega⟩
 ·rw[BV]
  have:=CE s
  exact⟨⟨by simp only;omega,by simp only;omega⟩,⟨by simp,by simp⟩,by simp⟩
 ·rw[BU] at ho ⊢
  simp only[decide_eq_true_eq] at ho
  have:=CD ho
  exact⟨⟨by simp only;omega,by simp only;omega⟩,⟨by simp,by simp⟩,by simp⟩
def bh (k:Int)(q:Int×Int×List UInt8):Val:=.mk k q.1 q.2.1 q.2.2 [] []
def j9 (t:Typ)(s:List UInt8):Val×Int:=
 if nZ t.kind=false then (aJ,11) else if (rdQ t.kind s).2=false then (aJ,13)
 else if (aK 1 t (bh t.kind (rdQ t.kind s).1) []).isEmpty=true then (bh t.kind (rdQ t.kind s).1,0) else (aJ,18)
theorem jL {k:Int}{q:Int×Int×List UInt8}(h:q.2.2.length<=5000):dep 1 (bh k q):=by
 simp[dep,bh,Val.lst,Val.fields,Val.text,h]
theorem rG {k:Int}{q:Int×Int×List UInt8}(hk:nZ k=true)(h:I64 q.1/\I64 q.2.1/\q.2.2.length<=5000):(bh k q).ok:=by
 rw[dr] at hk
 unfold bh
 rw[Val.ok_mk]
 exact⟨⟨by omega,by omega⟩,h.1,h.2.1,by have:=h.2.2;omega,by simp,by simp,by simp,by simp⟩
theorem K0 (k:Int)(q:Int×Int×List UInt8):Nz (vN k q.1 q.2.1 q.2.2) (bh k q).pv:=by
 unfold bh vN
 rw[Val.pv_mk]
 repeat' constructor
end Go.Proofs.YtbaaokocnegdoaaGreatDoor

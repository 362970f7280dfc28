/- A part of the proof. -/
import Derived.Test.YtbojpfpliibfbaaGreatDoorDeRWG
set_option maxHeartbeats 16000000
set_option maxRecDepth 100000
set_option linter.unusedVariables false
set_option linter.unusedSimpArgs false
namespace Go.Proofs.YtbojpfpliibfbaaGreatDoor
open Go Go.Ab
attribute [local irreducible] vc
theorem GJ (ih:SE)(t:Typ)(v:Val)(p:List UInt8)(ht:jV 2 t)(hsc:∀ g∈t.fields,g.typ.kind<=7)(htf:t.fields.length<=900000000000)(hv:v.ok)(hp:p.length<=1000) :
  ak Tryz.prog ap 64 [t.pv,v.pv,.str p] (.list ((ET (bD 1) t v p).map Mis.pv)):=by
 have hd:=mH 2 v hv
 have hvl:v.fields.length<=1400000000000:=by obtain⟨vk,vi,vs,vt,vl,vf⟩:=v;rw[Val.ok_mk] at hv;simp only[Val.fields];omega
 have h92:=fun name=>KQ v name (by simp only[dep] at hd;omega)
 have h61:=fun name=>qE t name (by simp only[jV] at ht;omega)
 have hl1:=B6 (fc (bD 1) v.fields p) (l:=t.fields) (fun x hx=>mE (hsc x hx))
 have hl1x:=fun x hx=>mE (fs:=v.fields) (p:=p) (x:=x) (hsc x hx)
 have hl2:=B6 (fM t.fields p) (l:=v.fields) (fun x _=>wj _ _ _)
 rw[ET]
 obtain⟨k,m,M,s,w,e,fs⟩:=t
 obtain⟨vk,vi,vs,vt,vl,vf⟩:=v
 simp only[dep,jV,Val.lst,Val.fields,Val.text,Typ.fields,Typ.words,Typ.elem] at *
 obtain⟨d1,d2,d3,d4,d5⟩:=hd
 obtain⟨t1,t2,t3,t4⟩:=ht
 rw[Val.ok_mk] at hv
 rw[Typ.pv_mk,Val.pv_mk] at *
 generalize hF1:fc (bD 1) vf p=F1 at *
 generalize hF2:fM fs p=F2 at *
 refine ak.intro Q64.2 (by simp[Q64]) ?_
 simp(disch:=try exact dI) only[Q64,push_cast,seval]
 refine am ([(7,0,106,2)]) (fun i:Nat=>[(7,.olist 0 2 (((fs.take i).flatMap F1).map Mis.pv)),(8,.pv (.int .i64 (i:Int)))]) (fun i=>[]) (fun i=>i<=fs.length) (fun i=>fs.length - i) (0) ?_;intro e0 σ0 n0 h0;simp(disch:=try exact dI) only[push_cast,seval] at h0;obtain⟨rfl,rfl,rfl⟩:=h0;refine⟨?_,?_,?_⟩
 ·simp(disch:=try exact dI) only[List.flatMap_nil,List.map_nil,push_cast,seval]
 ·omega
 ·intro i hi2
  by_cases hlt:i<fs.length
  ·have hltI:(i:Int)<fs.length:=by omega
   obtain⟨x,hx⟩:∃ x,fs[i]? = some x:=⟨_,List.getElem?_eq_getElem hlt⟩
   have hsn:=pF F1 hx
   have hl3:=hl1 i
   have hl4:=hl1x x (List.mem_of_getElem? hx)
   obtain⟨hxn,hxt⟩:=t4 x (List.mem_of_getElem? hx)
   have hxk:=hsc x (List.mem_of_getElem? hx)
   have hF1x:F1 x=fc (bD 1) vf p x:=by rw[hF1]
   generalize (fs.take i).flatMap F1=S at *
   obtain⟨x1,x2,x3,⟨y1,y2,y3,y4,y5,y6,y7⟩,x5⟩:=x
   simp only[TFd.name,TFd.typ] at hxn hxt hxk
   have hc:=h92 x2
   have hul:=lP p x2
   have hu:=H6 p x2 (by omega) (by omega)
   cases hfd:vf.find? (aP x2) with
   | some y=>
     rw[hfd] at hc
     rw[gd (by exact hfd)] at hF1x
     have hym:=List.mem_of_find?_eq_some hfd
     have hyd:=(d5 y hym).2
     have hyo:=hv.2.2.2.2.2.2.2 y hym
     obtain⟨yn,yv⟩:=y
     rw[Fld.ok_mk] at hyo
     simp only[Fld.value,TFd.typ,TFd.name] at hyd hF1x
     have hih:=ih (.mk y1 y2 y3 y4 y5 y6 y7) yv (eC p x2) hxt hxk hyo.2 (by omega)
     rw[<- hF1x] at hih
     have hma:=H3 (F1 (.mk x1 x2 x3 (.mk y1 y2 y3 y4 y5 y6 y7) x5))
     generalize F1 (.mk x1 x2 x3 (.mk y1 y2 y3 y4 y5 y6 y7) x5)=T at *
     obtain⟨z1,z2,z3,z4,z5,z6⟩:=yv
     simp only[vlR,Option.map_some,Option.getD_some,Option.isSome_some,Fld.value,Val.pv_mk] at hc
     simp only[Typ.pv_mk,Val.pv_mk] at hih
     simp(disch:=try exact dI) only[hx,TFd.pv_mk,Typ.pv_mk,push_cast,seval]
     refine ab.pure hc rfl ?_
     simp(disch:=try exact dI) only[TFd.pv_mk,Typ.pv_mk,push_cast,seval]
     refine ae hu rfl ?_
     refine zgZ ?_
     refine ae hih rfl ?_
     simp(disch:=try exact dI) only[hma,push_cast,seval]
     exact⟨i+1,aI (by simp(disch:=try exact dI) only[hsn,List.map_append,push_cast,seval]),by omega,by omega⟩
   | none=>
     rw[hfd] at hc
     simp only[vlR,Option.map_none,Option.getD_none,Option.isSome_none,eM,Val.pv_mk,List.map_nil] at hc
     by_cases hn:x3=2
     ·rw[iI (by exact hfd) (by exact hn)] at hF1x
      simp(disch:=try exact dI) only[hx,TFd.pv_mk,Typ.pv_mk,hn,push_cast,seval]
      refine ab.pure hc rfl ?_
      simp(disch:=try exact dI) only[TFd.pv_mk,Typ.pv_mk,push_cast,seval]
      subst hn
      exact⟨i+1,aI (by simp(disch:=try exact dI) only[hsn,hF1x,List.append_nil,push_cast,seval]),by omega,by omega⟩
     ·rw[kW (by exact hfd) (by exact hn)] at hF1x
      simp only[TFd.name] at hF1x
      simp(disch:=try exact dI) only[hx,TFd.pv_mk,Typ.pv_mk,push_cast,seval]
      refine ab.pure hc rfl ?_
      simp(disch:=try exact dI) only[TFd.pv_mk,Typ.pv_mk,push_cast,seval]
      refine ab.pure hu rfl ?_
      refine zgZ ?_
      exact⟨i+1,aI (by simp(disch:=try exact dI) only[hsn,hF1x,List.map_append,Mis.pv_mk,List.map_cons,List.map_nil,push_cast,seval]),by omega,by omega⟩
  ·have hltI:¬ (i:Int)<fs.length:=by omega
   have hl3:=hl1 i
   rw[sK hlt] at hl3 ⊢
   generalize fs.flatMap F1=S at *
   refine zgZ ?_
   refine am ([]) (fun i:Nat=>[(7,.olist 0 2 ((S++(vf.take i).flatMap F2).map Mis.pv)),(12,.pv (.int .i64 (i:Int)))]) (fun i=>[]) (fun i=>i<=vf.length) (fun i=>vf.length - i) (0) ?_;intro e0 σ0 n0 h0;simp(disch:=try exact dI) only[push_cast,seval] at h0;obtain⟨rfl,rfl,rfl⟩:=h0;refine⟨?_,?_,?_⟩
   ·simp(disch:=try exact dI) only[List.flatMap_nil,List.append_nil,push_cast,seval]
   ·omega
   ·intro i hi2
    by_cases hlt:i<vf.length
    ·have hltI:(i:Int)<vf.length:=by omega
     obtain⟨x,hx⟩:∃ x,vf[i]? = some x:=⟨_,List.getElem?_eq_getElem hlt⟩
     have hsn:=pF F2 hx
     have hl4:=hl2 i
     have hF2x:F2 x=fM fs p x:=by rw[hF2]
     have hxn:=(d5 x (List.mem_of_getElem? hx)).1
     generalize (vf.take i).flatMap F2=T at *
     obtain⟨x1,⟨y1,y2,y3,y4,y5,y6⟩⟩:=x
     simp only[Fld.name] at hxn
     have hc:=h61 x1
     have hul:=lP p x1
     have hu:=H6 p x1 (by omega) (by omega)
     cases hfd:fs.find? (named x1) with
     | some z=>
       rw[hfd] at hc
       rw[km (by exact hfd)] at hF2x
       obtain⟨z1,z2,z3,⟨w1,w2,w3,w4,w5,w6,w7⟩,z5⟩:=z
       simp only[tfR,Option.getD_some,Option.isSome_some,TFd.pv_mk,Typ.pv_mk] at hc
       simp(disch:=try exact dI) only[hx,Fld.pv_mk,Val.pv_mk,push_cast,seval]
       refine ae hc rfl ?_
       refine zgZ ?_
       exact⟨i+1,aI (by simp(disch:=try exact dI) only[hsn,hF2x,List.append_nil,push_cast,seval]),by omega,by omega⟩
     | none=>
       rw[hfd] at hc
       rw[ru (by exact hfd)] at hF2x
       simp only[Fld.name] at hF2x
       simp only[tfR,Option.getD_none,Option.isSome_none,iR,TFd.pv_mk,Typ.pv_mk,List.map_nil] at hc
       simp(disch:=try exact dI) only[hx,Fld.pv_mk,Val.pv_mk,push_cast,seval]
       refine ae hc rfl ?_
       simp(disch:=try exact dI) only[hx,Fld.pv_mk,Val.pv_mk,push_cast,seval]
       refine ab.pure hu rfl ?_
       refine zgZ ?_
       exact⟨i+1,aI (by simp(disch:=try exact dI) only[hsn,hF2x,List.map_append,List.append_assoc,Mis.pv_mk,List.map_cons,List.map_nil,push_cast,seval]),by omega,by omega⟩
    ·have hltI:¬ (i:Int)<vf.length:=by omega
     rw[sK hlt]
     exact qsZ
theorem Ns {mn mx q:Int}{p:List UInt8}{X:List Mis}(e:X=jx mn mx p q):(q<mn/\X=[.mk p 2])\/(¬ q<mn/\mx<q/\X=[.mk p 2])\/(¬ q<mn/\¬ mx<q/\X=[]):=by
 subst e
 by_cases a:q<mn
 ·exact .inl ⟨a,tp (.inl a)⟩
 by_cases b:mx<q
 ·exact .inr (.inl ⟨a,b,tp (.inr b)⟩)
 ·exact .inr (.inr ⟨a,b,HY (fun h=>h.elim a b)⟩)
theorem O9 (n:Nat)(t:Typ)(v:Val)(p:List UInt8)(hd:dep (n+1) v)(ht:jV (n+1) t)(hp:p.length<=2000)(hk:t.kind<=7\/t.kind=9)
  (h60:t.kind=9->ak Tryz.prog ap 64 [t.pv,v.pv,.str p] (.list ((ET (bD n) t v p).map Mis.pv))):ak Tryz.prog ap 20 [t.pv,v.pv,.str p] (.list ((bD (n+1) t v p).map Mis.pv)):=by
 simp only[dep] at hd
 simp only[jV] at ht
 have h57:=GE v (by omega) (by omega) (by omega)
 have h58:=QL t.words v.text (by omega)
 rw[cu]
 have hc:=Bd (bD n) t v p hk rfl rfl rfl
 clear hd ht hp hk
 generalize aD v=F at h57 hc
 generalize (t.words.any fun x=>decide (x=v.text))=A at h58 hc
 generalize cG (bD n) t v p=X at hc ⊢
 rcases hc with ⟨a,e⟩ | ⟨a,b,e⟩ | ⟨a,b,c,e⟩ | ⟨a,b,c,rfl,e⟩ | ⟨hk,c,rfl,e⟩ | ⟨hk,c,rfl,e⟩ | ⟨hk,c,rfl,e⟩ | ⟨hk,c,rfl,e⟩ | ⟨hk,c,rfl,hs,e⟩ | ⟨hk,c,rfl,hs,e⟩ | ⟨hk,c,rfl,e⟩ | ⟨hk,c,rfl,hz,e⟩ | ⟨hk,c,rfl,hz,rfl,e⟩ | ⟨hk,c,rfl,hz,rfl,e⟩ | ⟨hk,c,rfl,e⟩
 all_goals try (have ho:=Ns e;clear e;rcases ho with ⟨o1,e⟩ | ⟨o1,o2,e⟩ | ⟨o1,o2,e⟩)
 all_goals
  try have hL:=h60 hk
  clear h60
  subst e
  obtain⟨k,m,M,s,w,e,fs⟩:=t
  obtain⟨vk,vi,vs,vt,vl,vf⟩:=v
  simp only[Val.text,Typ.words,Typ.kind,Val.kind,Typ.min,Typ.max,Typ.scale,Val.num,Val.scale] at *
  try subst hk
  try subst c
  try subst hs
  simp only[Typ.pv_mk,Val.pv_mk,List.map_cons,List.map_nil,Mis.pv_mk] at *
  refine ak.intro Q20.2 (by simp[Q20]) ?_
  simp(disch:=try exact dI) only[Q20, *,push_cast,seval]
  try
   refine ab.pure h57 rfl ?_
   simp(disch:=try exact dI) only[*,push_cast,seval]
  try
   refine ab.pure h58 rfl ?_
   exact qsZ
  try
   refine ab.pure hL rfl ?_
   exact qsZ
theorem SC:SE:=by
 intro t v p ht h7 hv hp
 exact O9 0 t v p (mH 1 v hv) ht hp (.inl h7) fun h=>absurd h (by omega)
theorem S0 (t:Typ)(v:Val)(p:List UInt8)(ht:jV 2 t)(h9:t.kind=9)(hsc:∀ g∈t.fields,g.typ.kind<=7)(htf:t.fields.length<=900000000000)(hv:v.ok)(hp:p.length<=1000):ak Tryz.prog ap 20 [t.pv,v.pv,.str p] (.list ((bD 2 t v p).map Mis.pv)):=
 O9 1 t v p (mH 2 v hv) ht (by omega) (.inr h9) fun _=>GJ SC t v p ht hsc htf hv hp
theorem wW {k:Int}{b:List TFd}{g:TFd}(h:cC k b g=0):g.name.length<=100:=by
 obtain⟨n,nm,nd,t,d⟩:=g
 rw[fe] at h
 by_cases hn:bz nm=false
 ·rw[if_pos hn] at h;cases h
 have hn:bz nm=true:=by simpa using hn
 simp only[bz,Bool.and_eq_true,decide_eq_true_eq] at hn
 have:=hn.2.1
 simp only[TFd.name];omega
theorem B8 {t:Typ}(h:lX t=0)(ht:t.ok)(hf:dW t=true):jV 2 t/\∀ g∈t.fields,g.typ.kind<=7:=by
 have hty:=j5 h
 obtain⟨h9,_,hs⟩:=fy hf
 have h7:∀ g∈t.fields,g.typ.kind<=7:=fun g hg=>by
  have:=hs g hg
  simp only[scB,Bool.and_eq_true] at this
  exact of_decide_eq_true this.2
 refine⟨?_,h7⟩
 obtain⟨k,m,M,s,w,e,f⟩:=t
 obtain⟨ho,h8,h10⟩:=hty
 obtain⟨he,_⟩:=dQ ho
 rw[Typ.ok_mk] at ht
 obtain⟨_,_,_,_,t1,_,t3,t5,t4,t6⟩:=ht
 refine⟨by simp only[Typ.fields];omega,by simp only[Typ.words];omega,fun x hx=>?_,fun g hg=>?_⟩
 ·simp only[Typ.elem] at hx
  rw[he (fun hk=>by simp only[Typ.kind] at h9;omega)] at hx;cases hx
 ·have hg7:=h7 g hg
  simp only[Typ.fields] at hg
  obtain⟨b,hb⟩:=bq f [] (bc ho).2.2.2 g hg
  refine⟨wW hb,?_⟩
  have hgv:=(h10 (.inl h9) g hg).1
  have hgo:=jU hgv
  have hgt:=(cL (t6 g hg)).1
  obtain⟨n',nm',nd',⟨k',m',M',s',w',e',f'⟩,d'⟩:=g
  simp only[TFd.typ,Typ.kind] at hg7 hgo hgt ⊢
  obtain⟨he',hf'⟩:=dQ hgo
  rw[Typ.ok_mk] at hgt
  obtain⟨_,_,_,_,u1,_,u3,u5,u4,u6⟩:=hgt
  obtain rfl:=he' (by omega)
  obtain rfl:=hf' (by omega)
  exact⟨by simp[Typ.fields],by simp only[Typ.words];omega,fun x hx=>(by cases hx),fun x hx=>(by cases hx)⟩
def PK (t:Typ)(v:Val):Bool:=(bD 2 t v []).isEmpty
theorem Sr {t:Typ}(h:lX t=0)(ht:t.ok)(hf:dW t=true)(v:Val)(hv:v.ok):∃ l:List Mis,ak Tryz.prog ap 20 [t.pv,v.pv,.str []] (.list (l.map Mis.pv))/\(l.length=0↔PK t v=true):=by
 obtain⟨h2,h7⟩:=B8 h ht hf
 refine⟨bD 2 t v [],S0 t v [] h2 (fy hf).1 h7 ?_ hv (by simp),?_⟩
 ·obtain⟨k,m,M,s,w,e,f⟩:=t
  rw[Typ.ok_mk] at ht
  simp only[Typ.fields];omega
 ·unfold PK
  cases bD 2 t v []<;>simp
theorem tD (s:List UInt8)(k:Nat)(hk:k<=8):ak Tryz.prog ap 213 [.str s,.int .i64 (k:Int)] (H0 s (lG k s)):=by
 refine ak.intro PW.2 (by simp[PW]) ?_
 by_cases hl:s.length<k
 ·rw[show lG k s=none from if_neg (by omega)]
  simp(disch:=try exact dI) only[PW,H0,push_cast,seval]
 ·obtain⟨R,hR⟩:∃ R,R=lG k s:=⟨_,rfl⟩
  rw[<- hR]
  simp(disch:=try exact dI) only[PW,push_cast,seval]
  refine am ([]) (fun i:Nat=>[(4,.pv (.int .i64 (ff 0 (s.take i)))),(14,.pv (.int .i64 (i:Int)))]) (fun _=>[]) (fun i=>i<=k/\(s.take i).all isD=true) (fun i=>k - i) (0) ?_;intro e0 σ0 n0 h0;simp(disch:=try exact dI) only[push_cast,seval] at h0;obtain⟨rfl,rfl,rfl⟩:=h0;refine⟨?_,?_,?_⟩
  ·refine zgZ ?_
   rfl
  ·exact⟨by omega,by simp⟩
  rintro i ⟨hi,hd⟩
  have hdl:=Ie hd (by simp;omega)
  by_cases hlt:i<k
  ·obtain⟨c,hc⟩:∃ c,s[i]? = some c:=⟨_,List.getElem?_eq_getElem (by omega)⟩
   have hcl:=c.toNat_lt
   have hw:=gr (n:=(c.toNat:Int)) (by omega) (by omega)
   have hts:=aB hc
   by_cases hcd:isD c=true
   ·have hb:=cB hcd
    have hin:=eZ (n:=(c.toNat:Int)) (lo:=48) (hi:=57) ⟨by omega,by omega⟩
    have hw2:=gr (n:=(c.toNat:Int) - 48) (by omega) (by omega)
    have hdv:ff 0 (s.take (i+1))=10*ff 0 (s.take i)+((c.toNat:Int) - 48):=by rw[hts,jD]
    have hd2:(s.take (i+1)).all isD=true:=by rw[hts,List.all_append,hd];simp[hcd]
    simp(disch:=try exact dI) only[hc,aq,hw,push_cast,seval]
    refine ab.pure hin rfl ?_
    simp(disch:=try exact dI) only[hc,aq,hw2,push_cast,seval]
    exact⟨i+1,aI (by simp(disch:=try exact dI) only[hdv,push_cast,seval]),⟨by omega,hd2⟩,by omega⟩
   ·have hin:=ny (n:=(c.toNat:Int)) (lo:=48) (hi:=57) (fun h=>hcd (by simp[isD];omega))
    have hnone:R=none:=by
     rw[hR]
     refine if_neg fun h=>hcd ?_
     exact List.all_eq_true.1 h.2 c (List.mem_of_getElem? (i:=i) (by rw[List.getElem?_take_of_lt hlt];exact hc))
    rw[hnone]
    simp(disch:=try exact dI) only[hc,aq,hw,push_cast,seval]
    refine ab.pure hin rfl ?_
    simp(disch:=try exact dI) only[H0,push_cast,seval]
  ·have hik:i=k:=by omega
   subst hik
   have hsome:R=some (ff 0 (s.take i),s.drop i):=by rw[hR];exact if_pos ⟨by omega,hd⟩
   rw[hsome]
   simp(disch:=try exact dI) only[H0,List.take_length,push_cast,seval]
theorem BO (s p:List UInt8):ak Tryz.prog ap 149 [.str s,.str p] (.bool (decide (s.take p.length=p/\p.length<=s.length))):=by
 refine ak.intro Pv.2 (by simp[Pv]) ?_
 by_cases hl:p.length<=s.length
 ·by_cases he:s.take p.length=p
  ·rw[show decide (s.take p.length=p/\p.length<=s.length)=true from decide_eq_true ⟨he,hl⟩]
   simp(disch:=try exact dI) only[Pv,he,push_cast,seval]
  ·rw[show decide (s.take p.length=p/\p.length<=s.length)=false from decide_eq_false (fun h=>he h.1)]
   simp(disch:=try exact dI) only[Pv,he,push_cast,seval]
 ·rw[show decide (s.take p.length=p/\p.length<=s.length)=false from decide_eq_false (fun h=>hl h.2)]
  simp(disch:=try exact dI) only[Pv,push_cast,seval]
def gp (p s:List UInt8):Bool:=decide (s.take p.length=p/\p.length<=s.length)
theorem CN (s p:List UInt8):ak Tryz.prog ap 252 [.str s,.str p] (.tup [.str (if gp p s=true then s.drop p.length else s),.bool (gp p s)]):=by
 have hp:=BO s p
 have hl:gp p s=true->p.length<=s.length:=fun h=>(of_decide_eq_true h).2
 refine ak.intro PT.2 (by simp[PT]) ?_
 change ak Tryz.prog ap 149 [.str s,.str p] (.bool (gp p s)) at hp
 cases hb:gp p s with
 | true=>
   have:=hl hb
   rw[hb] at hp
   simp only[if_true]
   simp(disch:=try exact dI) only[PT,push_cast,seval]
   refine ab.pure hp rfl ?_
   simp(disch:=try exact dI) only[List.take_length,push_cast,seval]
 | false=>
   rw[hb] at hp
   simp only[Bool.false_eq_true,if_false]
   simp(disch:=try exact dI) only[PT,push_cast,seval]
   refine ab.pure hp rfl ?_
   exact qsZ
theorem uq (s p:List UInt8):ak Tryz.prog ap 212 [.str s,.str p] (.tup [.str (if gp p s=true then s.drop p.length else s),.bool (gp p s)]):=by
 have h:=CN s p
 generalize (if gp p s=true then s.drop p.length else s)=q at *
 generalize gp p s=b at *
 refine ak.intro RT.2 (by simp[RT]) ?_
 simp(disch:=try exact dI) only[RT,push_cast,seval]
 refine ab.pure h rfl ?_
 exact qsZ
def bQ:List (List UInt8)->List Nat->List UInt8->Option (List Int×List UInt8)
 | [],_,s=>some ([],s)
 | _::_,[],_=>none
 | m::ms,k::ks,s=>if gp m s=true then (match lG k (s.drop m.length) with
   | some p=>(bQ ms ks p.2).map fun q=>(p.1::q.1,q.2)
   | none=>none) else none
def oW (s:List UInt8):Option (List Int×List UInt8)->PV
 | some p=>.tup [.list (p.1.map (PV.int .i64)),.str p.2,.bool true]
 | none=>.tup [.nils,.str s,.bool false]
theorem oX (s:List UInt8)(ms:List (List UInt8))(ks:List Nat)(hm:ms.length=ks.length)(hl:ms.length<=100)(hk:∀ k,k∈ks->k<=8) :
  ak Tryz.prog ap 210 [.str s,.list (ms.map PV.str),.list (ks.map lB)] (oW s (bQ ms ks s)):=by
 obtain⟨R,hR⟩:∃ R,R=bQ ms ks s:=⟨_,rfl⟩
 rw[<- hR]
 refine ak.intro RU.2 (by simp[RU]) ?_
 simp(disch:=try exact dI) only[RU,push_cast,seval]
 refine am ([(6,0,3,1)]) (fun y:Nat×List Int×List UInt8=>[(6,.olist 0 1 (y.2.1.map (PV.int .i64))),(7,.pv (.str y.2.2)),(15,.pv (.int .i64 (y.1:Int)))]) (fun _=>[]) (fun y=>y.1<=ms.length/\y.2.1.length<=y.1/\R=(bQ (ms.drop y.1) (ks.drop y.1) y.2.2).map fun q=>(y.2.1++q.1,q.2)) (fun y=>ms.length - y.1) ((0,[],s)) ?_;intro e0 σ0 n0 h0;simp(disch:=try exact dI) only[push_cast,seval] at h0;obtain⟨rfl,rfl,rfl⟩:=h0;refine⟨?_,?_,?_⟩
 ·exact qsZ
 ·exact⟨by simp,by simp,by simp[hR]⟩
 rintro⟨i,L,r⟩ ⟨h1,h2,h3⟩
 simp only at h1 h2 h3
 by_cases hlt:i<ms.length
 ·obtain⟨m,hmi⟩:∃ m,ms[i]? = some m:=⟨_,List.getElem?_eq_getElem hlt⟩
  obtain⟨k,hki⟩:∃ k,ks[i]? = some k:=⟨_,List.getElem?_eq_getElem (by omega)⟩
  have hmp:(ms.map PV.str)[i]? = some (.str m):=by simp[hmi]
  have hkp:(ks.map lB)[i]? = some (.int .i64 (k:Int)):=by simp[hki,lB]
  have hk8:=hk k (List.mem_of_getElem? hki)
  have hc:=uq r m
  rw[a8 hmi,a8 hki] at h3
  simp only[bQ] at h3
  cases hb:gp m r with
  | false=>
    rw[hb] at hc h3
    simp only[Bool.false_eq_true,if_false,Option.map_none] at hc h3
    rw[h3]
    simp(disch:=try exact dI) only[hmp,push_cast,seval]
    refine ab.pure hc rfl ?_
    simp(disch:=try exact dI) only[oW,push_cast,seval]
  | true=>
    rw[hb] at hc h3
    simp only[if_true] at hc h3
    have hn:=tD (r.drop m.length) k hk8
    cases hv:lG k (r.drop m.length) with
    | none=>
      rw[hv] at hn h3
      simp only[H0,Option.map_none] at hn h3
      rw[h3]
      simp(disch:=try exact dI) only[hmp,push_cast,seval]
      refine ab.pure hc rfl ?_
      simp(disch:=try exact dI) only[hkp,push_cast,seval]
      refine ab.pure hn rfl ?_
      simp(disch:=try exact dI) only[oW,push_cast,seval]
    | some p=>
      rw[hv] at hn h3
      simp only[H0] at hn h3
      simp(disch:=try exact dI) only[hmp,push_cast,seval]
      refine ab.pure hc rfl ?_
      simp(disch:=try exact dI) only[hkp,push_cast,seval]
      refine ab.pure hn rfl ?_
      refine zgZ ?_
      exact⟨(i+1,L++[p.1],p.2),aI (by simp(disch:=try exact dI) only[List.map_append,push_cast,seval]),⟨by simp only;omega,by simp;omega,by rw[h3,Option.map_map];congr 1;funext q;simp⟩,by simp only;omega⟩
 ·have hi:i=ms.length:=by omega
  have hd1:ms.drop i=[]:=List.drop_eq_nil_of_le (by omega)
  rw[hd1] at h3
  simp only[bQ,Option.map_some,List.append_nil] at h3
  rw[h3]
  simp(disch:=try exact dI) only[oW,push_cast,seval]
def gj (y m d:Int):Int×Int:=if 1<=y/\y<=9999/\1<=m/\m<=12/\1<=d/\d<=mdI y m then (up y m.toNat d - 719162,0) else (0,17)
theorem nN {y m d:Int}(h:1<=y/\y<=9999/\1<=m/\m<=12/\1<=d/\d<=mdI y m):DateOk y m.toNat d/\((m.toNat:Nat):Int)=m:=by
 have e:((m.toNat:Nat):Int)=m:=by omega
 exact⟨⟨h.1,h.2.1,by omega,by omega,h.2.2.2.2.1,by rw[e];exact h.2.2.2.2.2⟩,e⟩
theorem CL {y m d:Int}(h:¬ (1<=y/\y<=9999/\1<=m/\m<=12/\1<=d/\d<=mdI y m))(k:Nat)(hk:m=k):¬ DateOk y k d:=by
 intro hd
 subst hk
 exact h ⟨hd.y1,hd.y2,by have:=hd.m1;omega,by have:=hd.m2;omega,hd.d1,hd.d2⟩
theorem Ij (y m d:Int):ak Tryz.prog ap 211 [.int .i64 y,.int .i64 m,.int .i64 d] (.tup [.int .i64 (gj y m d).1,.int .i64 (gj y m d).2]):=by
 unfold gj
 by_cases h:1<=y/\y<=9999/\1<=m/\m<=12/\1<=d/\d<=mdI y m
 ·rw[if_pos h]
  obtain⟨h1,h2⟩:=nN h
  have:=Oc h1
  rwa [h2] at this
 ·rw[if_neg h]
  exact Od (CL h)
theorem EU (y m d:Int):ak Tryz.prog ap 176 [.int .i64 y,.int .i64 m,.int .i64 d] (.tup [.int .i64 (gj y m d).1,.bool (decide ((gj y m d).2=0))]):=by
 unfold gj
 by_cases h:1<=y/\y<=9999/\1<=m/\m<=12/\1<=d/\d<=mdI y m
 ·rw[if_pos h]
  obtain⟨h1,h2⟩:=nN h
  have:=JC h1
  rwa [h2] at this
 ·rw[if_neg h]
  exact JD (CL h)
theorem uo (y m d:Int):(gj y m d).2=0\/(gj y m d).2=17:=by unfold gj;split<;>simp
theorem eV:∀ {ms:List (List UInt8)} {ks:List Nat} {s:List UInt8} {p:List Int×List UInt8},bQ ms ks s=some p->p.1.length=ms.length
 | [],_,s,p,h=>by simp only[bQ] at h;cases h;rfl
 | m::ms,[],s,p,h=>by simp[bQ] at h
 | m::ms,k::ks,s,p,h=>by
   simp only[bQ] at h
   split at h
   ·cases hn:lG k (s.drop m.length) with
    | none=>rw[hn] at h;cases h
    | some q=>
      rw[hn] at h
      simp only[Option.map_eq_some_iff] at h
      obtain⟨r,hr,rfl⟩:=h
      simp[eV hr]
   ·cases h
def bU (s:List UInt8):Int×Int:=
 match bQ [[],[45],[45]] [4,2,2] s with
 | some ([y,m,d],[])=>gj y m d
 | _=>(0,13)
theorem rE1 (sz:Nat)(l:List PV):dD sz l 1=cK sz l 1 l[1]?:=rfl
theorem rE2 (sz:Nat)(l:List PV):dD sz l 2=cK sz l 2 l[2]?:=rfl
theorem JU (s:List UInt8):ak Tryz.prog ap 168 [.str s] (.tup [.int .i64 (bU s).1,.int .i64 (bU s).2]):=by
 have hn:=oX s [[],[45],[45]] [4,2,2] rfl (by simp) (by simp)
 simp only[List.map_cons,List.map_nil,lB] at hn
 unfold bU
 cases hv:bQ [[],[45],[45]] [4,2,2] s with
 | none=>
   rw[hv] at hn
   simp only[oW] at hn
   refine ak.intro Hz.2 (by simp[Hz]) ?_
   simp(disch:=try exact dI) only[Hz,push_cast,seval]
   refine ab.pure hn rfl ?_
   exact qsZ
 | some p=>
   have hl:=eV hv
   obtain⟨l,r⟩:=p
   simp only at hl
   obtain⟨y,m,d,rfl⟩:∃ y m d,l=[y,m,d]:=by
    match l,hl with
    | [y,m,d],_=>exact⟨y,m,d,rfl⟩
   rw[hv] at hn
   simp only[oW,List.map_cons,List.map_nil] at hn
   cases r with
   | nil=>
     have hd:=Ij y m d
     refine ak.intro Hz.2 (by simp[Hz]) ?_
     simp(disch:=try exact dI) only[Hz,push_cast,seval]
     refine ab.pure hn rfl ?_
     simp(disch:=try exact dI) only[rE1,rE2,push_cast,seval]
     refine ae hd rfl ?_
     exact qsZ
   | cons c r=>
     have hcr:(!decide (c::r=[]))=true:=by simp
     refine ak.intro Hz.2 (by simp[Hz]) ?_
     simp(disch:=try exact dI) only[Hz,push_cast,seval]
     refine ab.pure hn rfl ?_
     simp(disch:=try exact dI) only[hcr,push_cast,seval]
theorem u8n (c d:UInt8):((c.toNat:Int)=(d.toNat:Int))↔c=d:=⟨fun h=>UInt8.toNat_inj.1 (by omega),fun h=>h▸rfl⟩
def tz (c x:UInt8):Bool:=if x=48 then isD c else decide (c=x)
def aN:List UInt8->List UInt8->Bool
 | [],[]=>true
 | c::s,x::p=>tz c x&&aN s p
 | _,_=>false
theorem e7:∀ {s p:List UInt8},aN s p=true->s.length=p.length
 | [],[],_=>rfl
 | c::s,x::p,h=>by simp only[aN,Bool.and_eq_true] at h;simp[e7 h.2]
 | [],x::p,h=>by simp[aN] at h
 | c::s,[],h=>by simp[aN] at h
theorem GF:∀ {s p:List UInt8},s.length≠p.length->aN s p=false:=fun h=>by
 cases hb:aN _ _ with
 | false=>rfl
 | true=>exact absurd (e7 hb) h
theorem rV (s p:List UInt8)(hp:p.length<=1000):ak Tryz.prog ap 175 [.str s,.str p] (.bool (aN s p)):=by
 refine ak.intro PY.2 (by simp[PY]) ?_
 by_cases hl:s.length=p.length
 ·obtain⟨R,hR⟩:∃ R,R=aN s p:=⟨_,rfl⟩
  rw[<- hR]
  simp(disch:=try exact dI) only[PY,push_cast,seval]
  refine am ([]) (fun i:Nat=>[(5,.pv (.int .i64 (i:Int)))]) (fun _=>[]) (fun i=>i<=s.length/\R=aN (s.drop i) (p.drop i)) (fun i=>s.length - i) (0) ?_;intro e0 σ0 n0 h0;simp(disch:=try exact dI) only[push_cast,seval] at h0;obtain⟨rfl,rfl,rfl⟩:=h0;refine⟨?_,?_,?_⟩
  ·exact qsZ
  ·exact⟨by omega,by simpa using hR⟩
  rintro i ⟨hi,hf⟩
  by_cases hlt:i<s.length
  ·obtain⟨c,hc⟩:∃ c,s[i]? = some c:=⟨_,List.getElem?_eq_getElem hlt⟩
   obtain⟨x,hx⟩:∃ x,p[i]? = some x:=⟨_,List.getElem?_eq_getElem (by omega)⟩
   rw[a8 hc,a8 hx] at hf
   simp only[aN] at hf
   by_cases h48:x=48
   ·subst h48
    by_cases h1:c.toNat<48
    ·have hok:tz c 48=false:=by simp[tz,isD];omega
     rw[hok,Bool.false_and] at hf
     subst hf
     have h1I:(c.toNat:Int)<48:=by omega
     simp(disch:=try exact dI) only[hc,hx,aq,push_cast,seval]
    ·by_cases h2:57<c.toNat
     ·have hok:tz c 48=false:=by simp[tz,isD];omega
      rw[hok,Bool.false_and] at hf
      subst hf
      have h1I:¬ (c.toNat:Int)<48:=by omega
      have h2I:(57:Int)<(c.toNat:Int):=by omega
      simp(disch:=try exact dI) only[hc,hx,aq,push_cast,seval]
     ·have hok:tz c 48=true:=by simp[tz,isD];omega
      rw[hok,Bool.true_and] at hf
      have h1I:¬ (c.toNat:Int)<48:=by omega
      have h2I:¬ (57:Int)<(c.toNat:Int):=by omega
      simp(disch:=try exact dI) only[hc,hx,aq,push_cast,seval]
      exact⟨i+1,aI qsZ,⟨by omega,hf⟩,by omega⟩
   ·have n48:¬ (x.toNat:Int)=48:=fun h=>h48 (UInt8.toNat_inj.1 (by simpa using (by omega:x.toNat=48)))
    by_cases hcx:c=x
    ·subst hcx
     have hok:tz c c=true:=by simp[tz,h48]
     rw[hok,Bool.true_and] at hf
     simp(disch:=try exact dI) only[hc,hx,aq,n48,push_cast,seval]
     exact⟨i+1,aI qsZ,⟨by omega,hf⟩,by omega⟩
    ·have hok:tz c x=false:=by simp[tz,h48,hcx]
     rw[hok,Bool.false_and] at hf
     subst hf
     have ncx:¬ ((c.toNat:Int)=(x.toNat:Int)):=fun h=>hcx ((u8n c x).1 h)
     simp(disch:=try exact dI) only[hc,hx,aq,n48,ncx,push_cast,seval]
  ·rw[List.drop_eq_nil_of_le (by omega),List.drop_eq_nil_of_le (by omega)] at hf
   have:R=true:=hf
   subst this
   exact qsZ
 ·rw[GF hl]
  have hlI:¬ (s.length:Int)=(p.length:Int):=by omega
  simp(disch:=try exact dI) only[PY,push_cast,seval]
theorem kq (l:List UInt8)(hl:l.length<=9)(hd:l.all isD=true):ak Tryz.prog ap 177 [.str l] (.int .i64 (ff 0 l)):=by
 refine ak.intro R4.2 (by simp[R4]) ?_
 simp(disch:=try exact dI) only[R4,push_cast,seval]
 refine am ([]) (fun i:Nat=>[(3,.pv (.int .i64 (ff 0 (l.take i)))),(4,.pv (.int .i64 (i:Int)))]) (fun _=>[]) (fun i=>i<=l.length) (fun i=>l.length - i) (0) ?_;intro e0 σ0 n0 h0;simp(disch:=try exact dI) only[push_cast,seval] at h0;obtain⟨rfl,rfl,rfl⟩:=h0;refine⟨?_,?_,?_⟩
 ·refine zgZ ?_
  rfl
 ·omega
 intro i hi
 have hdi:(l.take i).all isD=true:=by
  rw[List.all_eq_true] at hd ⊢
  exact fun x hx=>hd x (List.mem_of_mem_take hx)
 have hdl:=Ie hdi (by simp;omega)
 by_cases hlt:i<l.length
 ·obtain⟨c,hc⟩:∃ c,l[i]? = some c:=⟨_,List.getElem?_eq_getElem hlt⟩
  have hb:=cB (List.all_eq_true.1 hd c (List.mem_of_getElem? hc))
  have hw2:=gr (n:=(c.toNat:Int) - 48) (by omega) (by omega)
  have hdv:ff 0 (l.take (i+1))=10*ff 0 (l.take i)+((c.toNat:Int) - 48):=by rw[aB hc,jD]
  simp(disch:=try exact dI) only[hc,aq,hw2,push_cast,seval]
  exact⟨i+1,aI (by simp(disch:=try exact dI) only[hdv,push_cast,seval]),by omega,by omega⟩
 ·have he:l.take i=l:=List.take_of_length_le (by omega)
  simp(disch:=try exact dI) only[he,push_cast,seval]
end Go.Proofs.YtbojpfpliibfbaaGreatDoor

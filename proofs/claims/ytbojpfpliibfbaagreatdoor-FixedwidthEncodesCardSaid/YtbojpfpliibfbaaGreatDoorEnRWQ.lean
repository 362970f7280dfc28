/- A part of the proof. -/
import Derived.Test.YtbojpfpliibfbaaGreatDoorEnRWO
set_option maxHeartbeats 16000000
set_option maxRecDepth 100000
set_option linter.unusedVariables false
set_option linter.unusedSimpArgs false
namespace Go.Proofs.YtbojpfpliibfbaaGreatDoor
open Go Go.Ab
attribute [local irreducible] vc
theorem l9 (n:Nat)(t:Typ)(v:Val)(p:List UInt8)(hd:dep (n+1) v)(ht:bM (n+1) t)(hv:v.ok)(hp:p.length<=2000)(h:t.kind<1\/10<t.kind\/¬ v.kind=t.kind):am Tryz.prog az 20 [t.pv,v.pv,.str p] (.list ((aT (n+1) t v p).map Mis.pv)):=by
 have hd0:=hd
 simp only[dep] at hd0
 have hvo:=hv
 rw[aG,eh h]
 obtain⟨k,m,M,s,w,e,fs⟩:=t
 obtain⟨vk,vi,vs,vt,vl,vf⟩:=v
 simp only[dep,bM,Val.lst,Val.fields,Val.text,Typ.fields,Typ.words,Typ.elem,Typ.kind,Val.kind,Typ.min,Typ.max,Typ.scale,Val.num,Val.scale] at *
 obtain⟨d1,d2,d3,d4,d5⟩:=hd
 obtain⟨t1,t2,t3,t4⟩:=ht
 refine am.intro Q20.2 (by simp[Q20]) ?_
 rw[Typ.pv_mk,Val.pv_mk] at *
 by_cases a:k<1
 ·simp(disch:=try exact dI) only[Q20,a,List.map_cons,List.map_nil,Mis.pv_mk,push_cast,seval]
 ·by_cases b:10<k
  ·simp(disch:=try exact dI) only[Q20,a,b,List.map_cons,List.map_nil,Mis.pv_mk,push_cast,seval]
  ·have c:¬ vk=k:=by omega
   simp(disch:=try exact dI) only[Q20,a,b,c,List.map_cons,List.map_nil,Mis.pv_mk,push_cast,seval]
theorem oP (n:Nat)(t:Typ)(v:Val)(p:List UInt8)(hd:dep (n+1) v)(ht:bM (n+1) t)(hv:v.ok)(hp:p.length<=2000)(h:¬ (t.kind<1\/10<t.kind\/¬ v.kind=t.kind))(hf:ae v=false):am Tryz.prog az 20 [t.pv,v.pv,.str p] (.list ((aT (n+1) t v p).map Mis.pv)):=by
 have hd0:=hd
 simp only[dep] at hd0
 have h57:=ce v (by omega) (by omega) (by omega)
 have hvo:=hv
 rw[aG,gL h hf]
 obtain⟨k,m,M,s,w,e,fs⟩:=t
 obtain⟨vk,vi,vs,vt,vl,vf⟩:=v
 simp only[dep,bM,Val.lst,Val.fields,Val.text,Typ.fields,Typ.words,Typ.elem,Typ.kind,Val.kind,Typ.min,Typ.max,Typ.scale,Val.num,Val.scale] at *
 obtain⟨d1,d2,d3,d4,d5⟩:=hd
 obtain⟨t1,t2,t3,t4⟩:=ht
 refine am.intro Q20.2 (by simp[Q20]) ?_
 rw[Typ.pv_mk,Val.pv_mk] at *
 have a:¬ k<1:=by omega
 have b:¬ 10<k:=by omega
 have c:vk=k:=by omega
 subst c
 rw[hf] at h57
 simp(disch:=try exact dI) only[Q20,a,b,push_cast,seval]
 refine ab.pure h57 rfl ?_
 simp(disch:=try exact dI) only[List.map_cons,List.map_nil,Mis.pv_mk,push_cast,seval]
theorem JQ (n:Nat)(t:Typ)(v:Val)(p:List UInt8)(hd:dep (n+1) v)(ht:bM (n+1) t)(hv:v.ok)(hp:p.length<=2000)(h:¬ (t.kind<1\/10<t.kind\/¬ v.kind=t.kind))(hf:ae v=true)(hk:t.kind=2):am Tryz.prog az 20 [t.pv,v.pv,.str p] (.list ((aT (n+1) t v p).map Mis.pv)):=by
 have hd0:=hd
 simp only[dep] at hd0
 have h57:=ce v (by omega) (by omega) (by omega)
 have hvo:=hv
 rw[aG,cU h hf (by omega)]
 obtain⟨k,m,M,s,w,e,fs⟩:=t
 obtain⟨vk,vi,vs,vt,vl,vf⟩:=v
 simp only[dep,bM,Val.lst,Val.fields,Val.text,Typ.fields,Typ.words,Typ.elem,Typ.kind,Val.kind,Typ.min,Typ.max,Typ.scale,Val.num,Val.scale] at *
 obtain⟨d1,d2,d3,d4,d5⟩:=hd
 obtain⟨t1,t2,t3,t4⟩:=ht
 refine am.intro Q20.2 (by simp[Q20]) ?_
 rw[Typ.pv_mk,Val.pv_mk] at *
 have c:vk=2:=by omega
 subst hk c
 rw[hf] at h57
 simp(disch:=try exact dI) only[Q20,push_cast,seval]
 refine ab.pure h57 rfl ?_
 by_cases o1:vi<m
 ·rw[dN (.inl o1)]
  simp(disch:=try exact dI) only[List.map_cons,List.map_nil,Mis.pv_mk,push_cast,seval]
 ·by_cases o2:M<vi
  ·rw[dN (.inr o2)]
   simp(disch:=try exact dI) only[List.map_cons,List.map_nil,Mis.pv_mk,push_cast,seval]
  ·rw[j0 (fun h=>h.elim o1 o2)]
   simp(disch:=try exact dI) only[List.map_nil,push_cast,seval]
theorem JM (n:Nat)(t:Typ)(v:Val)(p:List UInt8)(hd:dep (n+1) v)(ht:bM (n+1) t)(hv:v.ok)(hp:p.length<=2000)(h:¬ (t.kind<1\/10<t.kind\/¬ v.kind=t.kind))(hf:ae v=true)(hk:t.kind=6):am Tryz.prog az 20 [t.pv,v.pv,.str p] (.list ((aT (n+1) t v p).map Mis.pv)):=by
 have hd0:=hd
 simp only[dep] at hd0
 have h57:=ce v (by omega) (by omega) (by omega)
 have hvo:=hv
 rw[aG,cU h hf (by omega)]
 obtain⟨k,m,M,s,w,e,fs⟩:=t
 obtain⟨vk,vi,vs,vt,vl,vf⟩:=v
 simp only[dep,bM,Val.lst,Val.fields,Val.text,Typ.fields,Typ.words,Typ.elem,Typ.kind,Val.kind,Typ.min,Typ.max,Typ.scale,Val.num,Val.scale] at *
 obtain⟨d1,d2,d3,d4,d5⟩:=hd
 obtain⟨t1,t2,t3,t4⟩:=ht
 refine am.intro Q20.2 (by simp[Q20]) ?_
 rw[Typ.pv_mk,Val.pv_mk] at *
 have c:vk=6:=by omega
 subst hk c
 rw[hf] at h57
 simp(disch:=try exact dI) only[Q20,push_cast,seval]
 refine ab.pure h57 rfl ?_
 by_cases o1:vi<m
 ·rw[dN (.inl o1)]
  simp(disch:=try exact dI) only[List.map_cons,List.map_nil,Mis.pv_mk,push_cast,seval]
 ·by_cases o2:M<vi
  ·rw[dN (.inr o2)]
   simp(disch:=try exact dI) only[List.map_cons,List.map_nil,Mis.pv_mk,push_cast,seval]
  ·rw[j0 (fun h=>h.elim o1 o2)]
   simp(disch:=try exact dI) only[List.map_nil,push_cast,seval]
theorem JL (n:Nat)(t:Typ)(v:Val)(p:List UInt8)(hd:dep (n+1) v)(ht:bM (n+1) t)(hv:v.ok)(hp:p.length<=2000)(h:¬ (t.kind<1\/10<t.kind\/¬ v.kind=t.kind))(hf:ae v=true)(hk:t.kind=7):am Tryz.prog az 20 [t.pv,v.pv,.str p] (.list ((aT (n+1) t v p).map Mis.pv)):=by
 have hd0:=hd
 simp only[dep] at hd0
 have h57:=ce v (by omega) (by omega) (by omega)
 have hvo:=hv
 rw[aG,cU h hf (by omega)]
 obtain⟨k,m,M,s,w,e,fs⟩:=t
 obtain⟨vk,vi,vs,vt,vl,vf⟩:=v
 simp only[dep,bM,Val.lst,Val.fields,Val.text,Typ.fields,Typ.words,Typ.elem,Typ.kind,Val.kind,Typ.min,Typ.max,Typ.scale,Val.num,Val.scale] at *
 obtain⟨d1,d2,d3,d4,d5⟩:=hd
 obtain⟨t1,t2,t3,t4⟩:=ht
 refine am.intro Q20.2 (by simp[Q20]) ?_
 rw[Typ.pv_mk,Val.pv_mk] at *
 have c:vk=7:=by omega
 subst hk c
 rw[hf] at h57
 simp(disch:=try exact dI) only[Q20,push_cast,seval]
 refine ab.pure h57 rfl ?_
 by_cases o1:vi<m
 ·rw[dN (.inl o1)]
  simp(disch:=try exact dI) only[List.map_cons,List.map_nil,Mis.pv_mk,push_cast,seval]
 ·by_cases o2:M<vi
  ·rw[dN (.inr o2)]
   simp(disch:=try exact dI) only[List.map_cons,List.map_nil,Mis.pv_mk,push_cast,seval]
  ·rw[j0 (fun h=>h.elim o1 o2)]
   simp(disch:=try exact dI) only[List.map_nil,push_cast,seval]
theorem JR (n:Nat)(t:Typ)(v:Val)(p:List UInt8)(hd:dep (n+1) v)(ht:bM (n+1) t)(hv:v.ok)(hp:p.length<=2000)(h:¬ (t.kind<1\/10<t.kind\/¬ v.kind=t.kind))(hf:ae v=true)(hk:t.kind=1):am Tryz.prog az 20 [t.pv,v.pv,.str p] (.list ((aT (n+1) t v p).map Mis.pv)):=by
 have hd0:=hd
 simp only[dep] at hd0
 have h57:=ce v (by omega) (by omega) (by omega)
 have hvo:=hv
 rw[aG,lC h hf hk]
 obtain⟨k,m,M,s,w,e,fs⟩:=t
 obtain⟨vk,vi,vs,vt,vl,vf⟩:=v
 simp only[dep,bM,Val.lst,Val.fields,Val.text,Typ.fields,Typ.words,Typ.elem,Typ.kind,Val.kind,Typ.min,Typ.max,Typ.scale,Val.num,Val.scale] at *
 obtain⟨d1,d2,d3,d4,d5⟩:=hd
 obtain⟨t1,t2,t3,t4⟩:=ht
 refine am.intro Q20.2 (by simp[Q20]) ?_
 rw[Typ.pv_mk,Val.pv_mk] at *
 have c:vk=1:=by omega
 subst hk c
 rw[hf] at h57
 simp(disch:=try exact dI) only[Q20,push_cast,seval]
 refine ab.pure h57 rfl ?_
 simp(disch:=try exact dI) only[List.map_nil,push_cast,seval]
theorem FB (n:Nat)(t:Typ)(v:Val)(p:List UInt8)(hd:dep (n+1) v)(ht:bM (n+1) t)(hv:v.ok)(hp:p.length<=2000)(h:¬ (t.kind<1\/10<t.kind\/¬ v.kind=t.kind))(hf:ae v=true)(hk:t.kind=3)(hs:v.scale=t.scale):am Tryz.prog az 20 [t.pv,v.pv,.str p] (.list ((aT (n+1) t v p).map Mis.pv)):=by
 have hd0:=hd
 simp only[dep] at hd0
 have h57:=ce v (by omega) (by omega) (by omega)
 have hvo:=hv
 rw[aG,ka h hf hk hs]
 obtain⟨k,m,M,s,w,e,fs⟩:=t
 obtain⟨vk,vi,vs,vt,vl,vf⟩:=v
 simp only[dep,bM,Val.lst,Val.fields,Val.text,Typ.fields,Typ.words,Typ.elem,Typ.kind,Val.kind,Typ.min,Typ.max,Typ.scale,Val.num,Val.scale] at *
 obtain⟨d1,d2,d3,d4,d5⟩:=hd
 obtain⟨t1,t2,t3,t4⟩:=ht
 refine am.intro Q20.2 (by simp[Q20]) ?_
 rw[Typ.pv_mk,Val.pv_mk] at *
 have c:vk=3:=by omega
 subst hk c
 rw[hf] at h57
 simp(disch:=try exact dI) only[Q20,push_cast,seval]
 refine ab.pure h57 rfl ?_
 by_cases o1:vi<m
 ·rw[dN (.inl o1)]
  simp(disch:=try exact dI) only[hs,List.map_cons,List.map_nil,Mis.pv_mk,push_cast,seval]
 ·by_cases o2:M<vi
  ·rw[dN (.inr o2)]
   simp(disch:=try exact dI) only[hs,List.map_cons,List.map_nil,Mis.pv_mk,push_cast,seval]
  ·rw[j0 (fun h=>h.elim o1 o2)]
   simp(disch:=try exact dI) only[hs,List.map_nil,push_cast,seval]
theorem JP (n:Nat)(t:Typ)(v:Val)(p:List UInt8)(hd:dep (n+1) v)(ht:bM (n+1) t)(hv:v.ok)(hp:p.length<=2000)(h:¬ (t.kind<1\/10<t.kind\/¬ v.kind=t.kind))(hf:ae v=true)(hk:t.kind=3)(hs:¬ v.scale=t.scale):am Tryz.prog az 20 [t.pv,v.pv,.str p] (.list ((aT (n+1) t v p).map Mis.pv)):=by
 have hd0:=hd
 simp only[dep] at hd0
 have h57:=ce v (by omega) (by omega) (by omega)
 have hvo:=hv
 rw[aG,ga h hf hk hs]
 obtain⟨k,m,M,s,w,e,fs⟩:=t
 obtain⟨vk,vi,vs,vt,vl,vf⟩:=v
 simp only[dep,bM,Val.lst,Val.fields,Val.text,Typ.fields,Typ.words,Typ.elem,Typ.kind,Val.kind,Typ.min,Typ.max,Typ.scale,Val.num,Val.scale] at *
 obtain⟨d1,d2,d3,d4,d5⟩:=hd
 obtain⟨t1,t2,t3,t4⟩:=ht
 refine am.intro Q20.2 (by simp[Q20]) ?_
 rw[Typ.pv_mk,Val.pv_mk] at *
 have c:vk=3:=by omega
 subst hk c
 rw[hf] at h57
 simp(disch:=try exact dI) only[Q20,push_cast,seval]
 refine ab.pure h57 rfl ?_
 simp(disch:=try exact dI) only[hs,List.map_cons,List.map_nil,Mis.pv_mk,push_cast,seval]
theorem JN (n:Nat)(t:Typ)(v:Val)(p:List UInt8)(hd:dep (n+1) v)(ht:bM (n+1) t)(hv:v.ok)(hp:p.length<=2000)(h:¬ (t.kind<1\/10<t.kind\/¬ v.kind=t.kind))(hf:ae v=true)(hk:t.kind=5):am Tryz.prog az 20 [t.pv,v.pv,.str p] (.list ((aT (n+1) t v p).map Mis.pv)):=by
 have hd0:=hd
 simp only[dep] at hd0
 have h57:=ce v (by omega) (by omega) (by omega)
 have hvo:=hv
 rw[aG,dp h hf (.inr hk) (by omega)]
 obtain⟨k,m,M,s,w,e,fs⟩:=t
 obtain⟨vk,vi,vs,vt,vl,vf⟩:=v
 simp only[dep,bM,Val.lst,Val.fields,Val.text,Typ.fields,Typ.words,Typ.elem,Typ.kind,Val.kind,Typ.min,Typ.max,Typ.scale,Val.num,Val.scale] at *
 obtain⟨d1,d2,d3,d4,d5⟩:=hd
 obtain⟨t1,t2,t3,t4⟩:=ht
 refine am.intro Q20.2 (by simp[Q20]) ?_
 rw[Typ.pv_mk,Val.pv_mk] at *
 have c:vk=5:=by omega
 subst hk c
 rw[hf] at h57
 simp(disch:=try exact dI) only[Q20,push_cast,seval]
 refine ab.pure h57 rfl ?_
 by_cases o1:(vt.length:Int)<m
 ·rw[dN (.inl o1)]
  simp(disch:=try exact dI) only[List.map_cons,List.map_nil,Mis.pv_mk,push_cast,seval]
 ·by_cases o2:M<(vt.length:Int)
  ·rw[dN (.inr o2)]
   simp(disch:=try exact dI) only[List.map_cons,List.map_nil,Mis.pv_mk,push_cast,seval]
  ·rw[j0 (fun h=>h.elim o1 o2)]
   simp(disch:=try exact dI) only[List.map_nil,push_cast,seval]
theorem JO (n:Nat)(t:Typ)(v:Val)(p:List UInt8)(hd:dep (n+1) v)(ht:bM (n+1) t)(hv:v.ok)(hp:p.length<=2000)(h:¬ (t.kind<1\/10<t.kind\/¬ v.kind=t.kind))(hf:ae v=true)(hk:t.kind=4)(hw:t.words.length=0):am Tryz.prog az 20 [t.pv,v.pv,.str p] (.list ((aT (n+1) t v p).map Mis.pv)):=by
 have hd0:=hd
 simp only[dep] at hd0
 have h57:=ce v (by omega) (by omega) (by omega)
 have hvo:=hv
 rw[aG,dp h hf (.inl hk) (fun _=>hw)]
 obtain⟨k,m,M,s,w,e,fs⟩:=t
 obtain⟨vk,vi,vs,vt,vl,vf⟩:=v
 simp only[dep,bM,Val.lst,Val.fields,Val.text,Typ.fields,Typ.words,Typ.elem,Typ.kind,Val.kind,Typ.min,Typ.max,Typ.scale,Val.num,Val.scale] at *
 obtain⟨d1,d2,d3,d4,d5⟩:=hd
 obtain⟨t1,t2,t3,t4⟩:=ht
 refine am.intro Q20.2 (by simp[Q20]) ?_
 rw[Typ.pv_mk,Val.pv_mk] at *
 have c:vk=4:=by omega
 subst hk c
 rw[hf] at h57
 have hz:¬ (0:Int)<w.length:=by omega
 simp(disch:=try exact dI) only[Q20,push_cast,seval]
 refine ab.pure h57 rfl ?_
 by_cases o1:(vt.length:Int)<m
 ·rw[dN (.inl o1)]
  simp(disch:=try exact dI) only[List.map_cons,List.map_nil,Mis.pv_mk,push_cast,seval]
 ·by_cases o2:M<(vt.length:Int)
  ·rw[dN (.inr o2)]
   simp(disch:=try exact dI) only[List.map_cons,List.map_nil,Mis.pv_mk,push_cast,seval]
  ·rw[j0 (fun h=>h.elim o1 o2)]
   simp(disch:=try exact dI) only[List.map_nil,push_cast,seval]
theorem Fz (n:Nat)(t:Typ)(v:Val)(p:List UInt8)(hd:dep (n+1) v)(ht:bM (n+1) t)(hv:v.ok)(hp:p.length<=2000)(h:¬ (t.kind<1\/10<t.kind\/¬ v.kind=t.kind))(hf:ae v=true)(hk:t.kind=4)(hw:0<t.words.length)(ha:(t.words.any fun x=>decide (x=v.text))=true):am Tryz.prog az 20 [t.pv,v.pv,.str p] (.list ((aT (n+1) t v p).map Mis.pv)):=by
 have hd0:=hd
 simp only[dep] at hd0
 have h57:=ce v (by omega) (by omega) (by omega)
 have h58:=LO t.words v.text (by have:=ht;simp only[bM] at this;omega)
 have hvo:=hv
 rw[aG,lB h hf hk hw ha]
 obtain⟨k,m,M,s,w,e,fs⟩:=t
 obtain⟨vk,vi,vs,vt,vl,vf⟩:=v
 simp only[dep,bM,Val.lst,Val.fields,Val.text,Typ.fields,Typ.words,Typ.elem,Typ.kind,Val.kind,Typ.min,Typ.max,Typ.scale,Val.num,Val.scale] at *
 obtain⟨d1,d2,d3,d4,d5⟩:=hd
 obtain⟨t1,t2,t3,t4⟩:=ht
 refine am.intro Q20.2 (by simp[Q20]) ?_
 rw[Typ.pv_mk,Val.pv_mk] at *
 have c:vk=4:=by omega
 subst hk c
 rw[hf] at h57
 rw[ha] at h58
 have hz:(0:Int)<w.length:=by omega
 simp(disch:=try exact dI) only[Q20,push_cast,seval]
 refine ab.pure h57 rfl ?_
 refine zgZ ?_
 refine ab.pure h58 rfl ?_
 simp(disch:=try exact dI) only[List.map_nil,push_cast,seval]
theorem FA (n:Nat)(t:Typ)(v:Val)(p:List UInt8)(hd:dep (n+1) v)(ht:bM (n+1) t)(hv:v.ok)(hp:p.length<=2000)(h:¬ (t.kind<1\/10<t.kind\/¬ v.kind=t.kind))(hf:ae v=true)(hk:t.kind=4)(hw:0<t.words.length)(ha:(t.words.any fun x=>decide (x=v.text))=false):am Tryz.prog az 20 [t.pv,v.pv,.str p] (.list ((aT (n+1) t v p).map Mis.pv)):=by
 have hd0:=hd
 simp only[dep] at hd0
 have h57:=ce v (by omega) (by omega) (by omega)
 have h58:=LO t.words v.text (by have:=ht;simp only[bM] at this;omega)
 have hvo:=hv
 rw[aG,fo h hf hk hw ha]
 obtain⟨k,m,M,s,w,e,fs⟩:=t
 obtain⟨vk,vi,vs,vt,vl,vf⟩:=v
 simp only[dep,bM,Val.lst,Val.fields,Val.text,Typ.fields,Typ.words,Typ.elem,Typ.kind,Val.kind,Typ.min,Typ.max,Typ.scale,Val.num,Val.scale] at *
 obtain⟨d1,d2,d3,d4,d5⟩:=hd
 obtain⟨t1,t2,t3,t4⟩:=ht
 refine am.intro Q20.2 (by simp[Q20]) ?_
 rw[Typ.pv_mk,Val.pv_mk] at *
 have c:vk=4:=by omega
 subst hk c
 rw[hf] at h57
 rw[ha] at h58
 have hz:(0:Int)<w.length:=by omega
 simp(disch:=try exact dI) only[Q20,push_cast,seval]
 refine ab.pure h57 rfl ?_
 refine zgZ ?_
 refine ab.pure h58 rfl ?_
 simp(disch:=try exact dI) only[List.map_cons,List.map_nil,Mis.pv_mk,push_cast,seval]
theorem Qj:PQ:=by
 intro t v p ht h7 hv hp
 have hd:=lV 1 v hv
 by_cases h:t.kind<1\/10<t.kind\/¬ v.kind=t.kind
 ·exact l9 0 t v p hd ht hv hp h
 ·by_cases hf:ae v=false
  ·exact oP 0 t v p hd ht hv hp h hf
  ·have hf:ae v=true:=by simpa using hf
   have hk:t.kind=1\/t.kind=2\/t.kind=3\/t.kind=4\/t.kind=5\/t.kind=6\/t.kind=7:=by omega
   rcases hk with hk | hk | hk | hk | hk | hk | hk
   ·exact JR 0 t v p hd ht hv hp h hf hk
   ·exact JQ 0 t v p hd ht hv hp h hf hk
   ·by_cases hs:v.scale=t.scale
    ·exact FB 0 t v p hd ht hv hp h hf hk hs
    ·exact JP 0 t v p hd ht hv hp h hf hk hs
   ·by_cases hw:t.words.length=0
    ·exact JO 0 t v p hd ht hv hp h hf hk hw
    ·cases ha:(t.words.any fun x=>decide (x=v.text)) with
     | true=>exact Fz 0 t v p hd ht hv hp h hf hk (by omega) ha
     | false=>exact FA 0 t v p hd ht hv hp h hf hk (by omega) ha
   ·exact JN 0 t v p hd ht hv hp h hf hk
   ·exact JM 0 t v p hd ht hv hp h hf hk
   ·exact JL 0 t v p hd ht hv hp h hf hk
theorem JK (ih:PQ)(t:Typ)(v:Val)(p:List UInt8)(hd:dep 2 v)(ht:bM 2 t)(hsc:∀ g∈t.fields,g.typ.kind<=7)(htf:t.fields.length<=900000000000)(hv:v.ok)(hp:p.length<=1000)(h:¬ (t.kind<1\/10<t.kind\/¬ v.kind=t.kind))(hf:ae v=true)(hk:t.kind=9):am Tryz.prog az 20 [t.pv,v.pv,.str p] (.list ((aT 2 t v p).map Mis.pv)):=by
 have hd0:=hd
 simp only[dep] at hd0
 have h57:=ce v (by omega) (by omega) (by omega)
 have h60:=E2 ih t v p ht hsc htf hv hp
 have hvo:=hv
 rw[aG,j9 h hf hk]
 obtain⟨k,m,M,s,w,e,fs⟩:=t
 obtain⟨vk,vi,vs,vt,vl,vf⟩:=v
 simp only[dep,bM,Val.lst,Val.fields,Val.text,Typ.fields,Typ.words,Typ.elem,Typ.kind,Val.kind,Typ.min,Typ.max,Typ.scale,Val.num,Val.scale] at *
 obtain⟨d1,d2,d3,d4,d5⟩:=hd
 obtain⟨t1,t2,t3,t4⟩:=ht
 refine am.intro Q20.2 (by simp[Q20]) ?_
 rw[Typ.pv_mk,Val.pv_mk] at *
 have c:vk=9:=by omega
 subst hk c
 rw[hf] at h57
 simp(disch:=try exact dI) only[Q20,push_cast,seval]
 refine ab.pure h57 rfl ?_
 refine zgZ ?_
 refine ab.pure h60 rfl ?_
 exact qsZ
theorem Qk (t:Typ)(v:Val)(p:List UInt8)(ht:bM 2 t)(h9:t.kind=9)(hsc:∀ g∈t.fields,g.typ.kind<=7)(htf:t.fields.length<=900000000000)(hv:v.ok)(hp:p.length<=1000):am Tryz.prog az 20 [t.pv,v.pv,.str p] (.list ((aT 2 t v p).map Mis.pv)):=by
 have hd:=lV 2 v hv
 by_cases h:t.kind<1\/10<t.kind\/¬ v.kind=t.kind
 ·exact l9 1 t v p hd ht hv (by omega) h
 ·by_cases hf:ae v=false
  ·exact oP 1 t v p hd ht hv (by omega) h hf
  ·exact JK Qj t v p hd ht hsc htf hv hp h (by simpa using hf) h9
end Go.Proofs.YtbojpfpliibfbaaGreatDoor
-- many steps
namespace Go.Proofs.YtbojpfpliibfbaaGreatDoor
open Go Go.Ab
attribute [local irreducible] vc
theorem u9 {k:Int}{b:List TFd}{g:TFd}(h:bE k b g=0):g.name.length<=100:=by
 obtain⟨n,nm,nd,t,d⟩:=g
 rw[kx] at h
 by_cases hn:bO nm=false
 ·rw[if_pos hn] at h;cases h
 have hn:bO nm=true:=by simpa using hn
 simp only[bO,Bool.and_eq_true,decide_eq_true_eq] at hn
 have:=hn.2.1
 simp only[TFd.name];omega
theorem qE {t:Typ}(h:ni t=0)(ht:t.ok)(hf:eF t=true):bM 2 t/\∀ g∈t.fields,g.typ.kind<=7:=by
 have hty:=ln h
 obtain⟨h9,_,hs⟩:=dP hf
 have h7:∀ g∈t.fields,g.typ.kind<=7:=fun g hg=>by
  have:=hs g hg
  simp only[scB,Bool.and_eq_true] at this
  exact of_decide_eq_true this.2
 refine⟨?_,h7⟩
 obtain⟨k,m,M,s,w,e,f⟩:=t
 obtain⟨ho,h8,h10⟩:=hty
 obtain⟨he,_⟩:=ee ho
 rw[Typ.ok_mk] at ht
 obtain⟨_,_,_,_,t1,_,t3,t5,t4,t6⟩:=ht
 refine⟨by simp only[Typ.fields];omega,by simp only[Typ.words];omega,fun x hx=>?_,fun g hg=>?_⟩
 ·simp only[Typ.elem] at hx
  rw[he (fun hk=>by simp only[Typ.kind] at h9;omega)] at hx;cases hx
 ·have hg7:=h7 g hg
  simp only[Typ.fields] at hg
  obtain⟨b,hb⟩:=bJ f [] (bu ho).2.2.2 g hg
  refine⟨u9 hb,?_⟩
  have hgv:=(h10 (.inl h9) g hg).1
  have hgo:=lh hgv
  have hgt:=(dt (t6 g hg)).1
  obtain⟨n',nm',nd',⟨k',m',M',s',w',e',f'⟩,d'⟩:=g
  simp only[TFd.typ,Typ.kind] at hg7 hgo hgt ⊢
  obtain⟨he',hf'⟩:=ee hgo
  rw[Typ.ok_mk] at hgt
  obtain⟨_,_,_,_,u1,_,u3,u5,u4,u6⟩:=hgt
  obtain rfl:=he' (by omega)
  obtain rfl:=hf' (by omega)
  exact⟨by simp[Typ.fields],by simp only[Typ.words];omega,fun x hx=>(by cases hx),fun x hx=>(by cases hx)⟩
def wi (t:Typ)(v:Val):Bool:=(aT 2 t v []).isEmpty
theorem Gx {t:Typ}(h:ni t=0)(ht:t.ok)(hf:eF t=true)(v:Val)(hv:v.ok):am Tryz.prog az 42 [t.pv,v.pv] (.bool (wi t v)):=LU t v (qE h ht hf).1 (dP hf).1 (qE h ht hf).2 hv
theorem Nd {t:Typ}(h:ni t=0)(ht:t.ok)(hf:eF t=true)(v:Val)(hv:v.ok):∃ l:List Mis,am Tryz.prog az 20 [t.pv,v.pv,.str []] (.list (l.map Mis.pv))/\(l.length=0↔wi t v=true):=by
 obtain⟨h2,h7⟩:=qE h ht hf
 refine⟨aT 2 t v [],Qk t v [] h2 (dP hf).1 h7 ?_ hv (by simp),?_⟩
 ·obtain⟨k,m,M,s,w,e,f⟩:=t
  rw[Typ.ok_mk] at ht
  simp only[Typ.fields];omega
 ·unfold wi
  cases aT 2 t v []<;>simp
end Go.Proofs.YtbojpfpliibfbaaGreatDoor

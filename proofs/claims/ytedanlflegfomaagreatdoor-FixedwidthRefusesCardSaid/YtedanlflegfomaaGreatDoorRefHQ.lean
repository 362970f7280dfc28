/- A part of the proof for FixedwidthRefusesCardSaid. -/
import Derived.Test.YtedanlflegfomaaGreatDoorRefHP
set_option maxRecDepth 100000
set_option linter.unusedVariables false
set_option linter.unusedSimpArgs false
namespace Go.Proofs.YtedanlflegfomaaGreatDoor
open Go Go.Ab
attribute [local irreducible] vc
set_option maxHeartbeats 4000000 in
theorem rh (n:Nat)(ih:ik n)(hB:bnd n≤216000000)(t:Typ)(v:Val)(p:List UInt8)(hd:dep (n+1) v)(ht:aQ (n+1) t)(hv:v.ok)(hp:p.length+200*(n+1)≤100000)(h:t.kind<1∨10<t.kind∨¬ v.kind=t.kind):aq Tryz.prog aA 9 [t.pv,v.pv,.str p] (.list ((aF (n+1) t v p).map Mis.pv)):=by
 have hd0:=hd
 simp only[dep] at hd0
 have hvo:=hv
 rw[aw,ff h]
 obtain⟨k,m,M,s,w,e,fs⟩:=t
 obtain⟨vk,vi,vs,vt,vl,vf⟩:=v
 simp only[dep,aQ,Val.lst,Val.fields,Val.text,Typ.fields,Typ.words,Typ.elem,Typ.kind,Val.kind,Typ.min,Typ.max,Typ.scale,Val.num,Val.scale] at *
 obtain⟨d1,d2,d3,d4,d5⟩:=hd
 obtain⟨t1,t2,t3,t4⟩:=ht
 refine aq.intro dU (by simp[F9]) ?_
 rw[Typ.pv_mk,Val.pv_mk] at *
 by_cases a:k<1
 ·simp(disch:=first|exact dI|fail) only[F9,a,List.map_cons,List.map_nil,Mis.pv_mk,push_cast,seval]
 ·by_cases b:10<k
  ·simp(disch:=first|exact dI|fail) only[F9,a,b,List.map_cons,List.map_nil,Mis.pv_mk,push_cast,seval]
  ·have c:¬ vk=k:=by omega
   simp(disch:=first|exact dI|fail) only[F9,a,b,c,List.map_cons,List.map_nil,Mis.pv_mk,push_cast,seval]
set_option maxHeartbeats 4000000 in
theorem wl (n:Nat)(ih:ik n)(hB:bnd n≤216000000)(t:Typ)(v:Val)(p:List UInt8)(hd:dep (n+1) v)(ht:aQ (n+1) t)(hv:v.ok)(hp:p.length+200*(n+1)≤100000)(h:¬ (t.kind<1∨10<t.kind∨¬ v.kind=t.kind))(hf:ab v=false):aq Tryz.prog aA 9 [t.pv,v.pv,.str p] (.list ((aF (n+1) t v p).map Mis.pv)):=by
 have hd0:=hd
 simp only[dep] at hd0
 have h57:=a7 v (by omega) (by omega) (by omega)
 have hvo:=hv
 rw[aw,gB h hf]
 obtain⟨k,m,M,s,w,e,fs⟩:=t
 obtain⟨vk,vi,vs,vt,vl,vf⟩:=v
 simp only[dep,aQ,Val.lst,Val.fields,Val.text,Typ.fields,Typ.words,Typ.elem,Typ.kind,Val.kind,Typ.min,Typ.max,Typ.scale,Val.num,Val.scale] at *
 obtain⟨d1,d2,d3,d4,d5⟩:=hd
 obtain⟨t1,t2,t3,t4⟩:=ht
 refine aq.intro dU (by simp[F9]) ?_
 rw[Typ.pv_mk,Val.pv_mk] at *
 have a:¬ k<1:=by omega
 have b:¬ 10<k:=by omega
 have c:vk=k:=by omega
 subst c
 rw[hf] at h57
 simp(disch:=first|exact dI|fail) only[F9,a,b,push_cast,seval]
 refine ae.pure h57 rfl ?_
 simp(disch:=first|exact dI|fail) only[List.map_cons,List.map_nil,Mis.pv_mk,push_cast,seval]
set_option maxHeartbeats 4000000 in
theorem D6 (n:Nat)(ih:ik n)(hB:bnd n≤216000000)(t:Typ)(v:Val)(p:List UInt8)(hd:dep (n+1) v)(ht:aQ (n+1) t)(hv:v.ok)(hp:p.length+200*(n+1)≤100000)(h:¬ (t.kind<1∨10<t.kind∨¬ v.kind=t.kind))(hf:ab v=true)(hk:t.kind=2):aq Tryz.prog aA 9 [t.pv,v.pv,.str p] (.list ((aF (n+1) t v p).map Mis.pv)):=by
 have hd0:=hd
 simp only[dep] at hd0
 have h57:=a7 v (by omega) (by omega) (by omega)
 have hvo:=hv
 rw[aw,bv h hf (by omega)]
 obtain⟨k,m,M,s,w,e,fs⟩:=t
 obtain⟨vk,vi,vs,vt,vl,vf⟩:=v
 simp only[dep,aQ,Val.lst,Val.fields,Val.text,Typ.fields,Typ.words,Typ.elem,Typ.kind,Val.kind,Typ.min,Typ.max,Typ.scale,Val.num,Val.scale] at *
 obtain⟨d1,d2,d3,d4,d5⟩:=hd
 obtain⟨t1,t2,t3,t4⟩:=ht
 refine aq.intro dU (by simp[F9]) ?_
 rw[Typ.pv_mk,Val.pv_mk] at *
 have c:vk=2:=by omega
 subst hk c
 rw[hf] at h57
 simp(disch:=first|exact dI|fail) only[F9,push_cast,seval]
 refine ae.pure h57 rfl ?_
 by_cases o1:vi<m
 ·rw[bL (.inl o1)]
  simp(disch:=first|exact dI|fail) only[List.map_cons,List.map_nil,Mis.pv_mk,push_cast,seval]
 ·by_cases o2:M<vi
  ·rw[bL (.inr o2)]
   simp(disch:=first|exact dI|fail) only[List.map_cons,List.map_nil,Mis.pv_mk,push_cast,seval]
  ·rw[fv (fun h=>h.elim o1 o2)]
   simp(disch:=first|exact dI|fail) only[List.map_nil,push_cast,seval]
set_option maxHeartbeats 4000000 in
theorem D2 (n:Nat)(ih:ik n)(hB:bnd n≤216000000)(t:Typ)(v:Val)(p:List UInt8)(hd:dep (n+1) v)(ht:aQ (n+1) t)(hv:v.ok)(hp:p.length+200*(n+1)≤100000)(h:¬ (t.kind<1∨10<t.kind∨¬ v.kind=t.kind))(hf:ab v=true)(hk:t.kind=6):aq Tryz.prog aA 9 [t.pv,v.pv,.str p] (.list ((aF (n+1) t v p).map Mis.pv)):=by
 have hd0:=hd
 simp only[dep] at hd0
 have h57:=a7 v (by omega) (by omega) (by omega)
 have hvo:=hv
 rw[aw,bv h hf (by omega)]
 obtain⟨k,m,M,s,w,e,fs⟩:=t
 obtain⟨vk,vi,vs,vt,vl,vf⟩:=v
 simp only[dep,aQ,Val.lst,Val.fields,Val.text,Typ.fields,Typ.words,Typ.elem,Typ.kind,Val.kind,Typ.min,Typ.max,Typ.scale,Val.num,Val.scale] at *
 obtain⟨d1,d2,d3,d4,d5⟩:=hd
 obtain⟨t1,t2,t3,t4⟩:=ht
 refine aq.intro dU (by simp[F9]) ?_
 rw[Typ.pv_mk,Val.pv_mk] at *
 have c:vk=6:=by omega
 subst hk c
 rw[hf] at h57
 simp(disch:=first|exact dI|fail) only[F9,push_cast,seval]
 refine ae.pure h57 rfl ?_
 by_cases o1:vi<m
 ·rw[bL (.inl o1)]
  simp(disch:=first|exact dI|fail) only[List.map_cons,List.map_nil,Mis.pv_mk,push_cast,seval]
 ·by_cases o2:M<vi
  ·rw[bL (.inr o2)]
   simp(disch:=first|exact dI|fail) only[List.map_cons,List.map_nil,Mis.pv_mk,push_cast,seval]
  ·rw[fv (fun h=>h.elim o1 o2)]
   simp(disch:=first|exact dI|fail) only[List.map_nil,push_cast,seval]
set_option maxHeartbeats 4000000 in
theorem D1 (n:Nat)(ih:ik n)(hB:bnd n≤216000000)(t:Typ)(v:Val)(p:List UInt8)(hd:dep (n+1) v)(ht:aQ (n+1) t)(hv:v.ok)(hp:p.length+200*(n+1)≤100000)(h:¬ (t.kind<1∨10<t.kind∨¬ v.kind=t.kind))(hf:ab v=true)(hk:t.kind=7):aq Tryz.prog aA 9 [t.pv,v.pv,.str p] (.list ((aF (n+1) t v p).map Mis.pv)):=by
 have hd0:=hd
 simp only[dep] at hd0
 have h57:=a7 v (by omega) (by omega) (by omega)
 have hvo:=hv
 rw[aw,bv h hf (by omega)]
 obtain⟨k,m,M,s,w,e,fs⟩:=t
 obtain⟨vk,vi,vs,vt,vl,vf⟩:=v
 simp only[dep,aQ,Val.lst,Val.fields,Val.text,Typ.fields,Typ.words,Typ.elem,Typ.kind,Val.kind,Typ.min,Typ.max,Typ.scale,Val.num,Val.scale] at *
 obtain⟨d1,d2,d3,d4,d5⟩:=hd
 obtain⟨t1,t2,t3,t4⟩:=ht
 refine aq.intro dU (by simp[F9]) ?_
 rw[Typ.pv_mk,Val.pv_mk] at *
 have c:vk=7:=by omega
 subst hk c
 rw[hf] at h57
 simp(disch:=first|exact dI|fail) only[F9,push_cast,seval]
 refine ae.pure h57 rfl ?_
 by_cases o1:vi<m
 ·rw[bL (.inl o1)]
  simp(disch:=first|exact dI|fail) only[List.map_cons,List.map_nil,Mis.pv_mk,push_cast,seval]
 ·by_cases o2:M<vi
  ·rw[bL (.inr o2)]
   simp(disch:=first|exact dI|fail) only[List.map_cons,List.map_nil,Mis.pv_mk,push_cast,seval]
  ·rw[fv (fun h=>h.elim o1 o2)]
   simp(disch:=first|exact dI|fail) only[List.map_nil,push_cast,seval]
set_option maxHeartbeats 4000000 in
theorem D7 (n:Nat)(ih:ik n)(hB:bnd n≤216000000)(t:Typ)(v:Val)(p:List UInt8)(hd:dep (n+1) v)(ht:aQ (n+1) t)(hv:v.ok)(hp:p.length+200*(n+1)≤100000)(h:¬ (t.kind<1∨10<t.kind∨¬ v.kind=t.kind))(hf:ab v=true)(hk:t.kind=1):aq Tryz.prog aA 9 [t.pv,v.pv,.str p] (.list ((aF (n+1) t v p).map Mis.pv)):=by
 have hd0:=hd
 simp only[dep] at hd0
 have h57:=a7 v (by omega) (by omega) (by omega)
 have hvo:=hv
 rw[aw,fc h hf hk]
 obtain⟨k,m,M,s,w,e,fs⟩:=t
 obtain⟨vk,vi,vs,vt,vl,vf⟩:=v
 simp only[dep,aQ,Val.lst,Val.fields,Val.text,Typ.fields,Typ.words,Typ.elem,Typ.kind,Val.kind,Typ.min,Typ.max,Typ.scale,Val.num,Val.scale] at *
 obtain⟨d1,d2,d3,d4,d5⟩:=hd
 obtain⟨t1,t2,t3,t4⟩:=ht
 refine aq.intro dU (by simp[F9]) ?_
 rw[Typ.pv_mk,Val.pv_mk] at *
 have c:vk=1:=by omega
 subst hk c
 rw[hf] at h57
 simp(disch:=first|exact dI|fail) only[F9,push_cast,seval]
 refine ae.pure h57 rfl ?_
 simp(disch:=first|exact dI|fail) only[List.map_nil,push_cast,seval]
set_option maxHeartbeats 4000000 in
theorem AM (n:Nat)(ih:ik n)(hB:bnd n≤216000000)(t:Typ)(v:Val)(p:List UInt8)(hd:dep (n+1) v)(ht:aQ (n+1) t)(hv:v.ok)(hp:p.length+200*(n+1)≤100000)(h:¬ (t.kind<1∨10<t.kind∨¬ v.kind=t.kind))(hf:ab v=true)(hk:t.kind=3)(hs:v.scale=t.scale):aq Tryz.prog aA 9 [t.pv,v.pv,.str p] (.list ((aF (n+1) t v p).map Mis.pv)):=by
 have hd0:=hd
 simp only[dep] at hd0
 have h57:=a7 v (by omega) (by omega) (by omega)
 have hvo:=hv
 rw[aw,gA h hf hk hs]
 obtain⟨k,m,M,s,w,e,fs⟩:=t
 obtain⟨vk,vi,vs,vt,vl,vf⟩:=v
 simp only[dep,aQ,Val.lst,Val.fields,Val.text,Typ.fields,Typ.words,Typ.elem,Typ.kind,Val.kind,Typ.min,Typ.max,Typ.scale,Val.num,Val.scale] at *
 obtain⟨d1,d2,d3,d4,d5⟩:=hd
 obtain⟨t1,t2,t3,t4⟩:=ht
 refine aq.intro dU (by simp[F9]) ?_
 rw[Typ.pv_mk,Val.pv_mk] at *
 have c:vk=3:=by omega
 subst hk c
 rw[hf] at h57
 simp(disch:=first|exact dI|fail) only[F9,push_cast,seval]
 refine ae.pure h57 rfl ?_
 by_cases o1:vi<m
 ·rw[bL (.inl o1)]
  simp(disch:=first|exact dI|fail) only[hs,List.map_cons,List.map_nil,Mis.pv_mk,push_cast,seval]
 ·by_cases o2:M<vi
  ·rw[bL (.inr o2)]
   simp(disch:=first|exact dI|fail) only[hs,List.map_cons,List.map_nil,Mis.pv_mk,push_cast,seval]
  ·rw[fv (fun h=>h.elim o1 o2)]
   simp(disch:=first|exact dI|fail) only[hs,List.map_nil,push_cast,seval]
set_option maxHeartbeats 4000000 in
theorem D5 (n:Nat)(ih:ik n)(hB:bnd n≤216000000)(t:Typ)(v:Val)(p:List UInt8)(hd:dep (n+1) v)(ht:aQ (n+1) t)(hv:v.ok)(hp:p.length+200*(n+1)≤100000)(h:¬ (t.kind<1∨10<t.kind∨¬ v.kind=t.kind))(hf:ab v=true)(hk:t.kind=3)(hs:¬ v.scale=t.scale):aq Tryz.prog aA 9 [t.pv,v.pv,.str p] (.list ((aF (n+1) t v p).map Mis.pv)):=by
 have hd0:=hd
 simp only[dep] at hd0
 have h57:=a7 v (by omega) (by omega) (by omega)
 have hvo:=hv
 rw[aw,ef h hf hk hs]
 obtain⟨k,m,M,s,w,e,fs⟩:=t
 obtain⟨vk,vi,vs,vt,vl,vf⟩:=v
 simp only[dep,aQ,Val.lst,Val.fields,Val.text,Typ.fields,Typ.words,Typ.elem,Typ.kind,Val.kind,Typ.min,Typ.max,Typ.scale,Val.num,Val.scale] at *
 obtain⟨d1,d2,d3,d4,d5⟩:=hd
 obtain⟨t1,t2,t3,t4⟩:=ht
 refine aq.intro dU (by simp[F9]) ?_
 rw[Typ.pv_mk,Val.pv_mk] at *
 have c:vk=3:=by omega
 subst hk c
 rw[hf] at h57
 simp(disch:=first|exact dI|fail) only[F9,push_cast,seval]
 refine ae.pure h57 rfl ?_
 simp(disch:=first|exact dI|fail) only[hs,List.map_cons,List.map_nil,Mis.pv_mk,push_cast,seval]
set_option maxHeartbeats 4000000 in
theorem D3 (n:Nat)(ih:ik n)(hB:bnd n≤216000000)(t:Typ)(v:Val)(p:List UInt8)(hd:dep (n+1) v)(ht:aQ (n+1) t)(hv:v.ok)(hp:p.length+200*(n+1)≤100000)(h:¬ (t.kind<1∨10<t.kind∨¬ v.kind=t.kind))(hf:ab v=true)(hk:t.kind=5):aq Tryz.prog aA 9 [t.pv,v.pv,.str p] (.list ((aF (n+1) t v p).map Mis.pv)):=by
 have hd0:=hd
 simp only[dep] at hd0
 have h57:=a7 v (by omega) (by omega) (by omega)
 have hvo:=hv
 rw[aw,bT h hf (.inr hk) (by omega)]
 obtain⟨k,m,M,s,w,e,fs⟩:=t
 obtain⟨vk,vi,vs,vt,vl,vf⟩:=v
 simp only[dep,aQ,Val.lst,Val.fields,Val.text,Typ.fields,Typ.words,Typ.elem,Typ.kind,Val.kind,Typ.min,Typ.max,Typ.scale,Val.num,Val.scale] at *
 obtain⟨d1,d2,d3,d4,d5⟩:=hd
 obtain⟨t1,t2,t3,t4⟩:=ht
 refine aq.intro dU (by simp[F9]) ?_
 rw[Typ.pv_mk,Val.pv_mk] at *
 have c:vk=5:=by omega
 subst hk c
 rw[hf] at h57
 simp(disch:=first|exact dI|fail) only[F9,push_cast,seval]
 refine ae.pure h57 rfl ?_
 by_cases o1:(vt.length:Int)<m
 ·rw[bL (.inl o1)]
  simp(disch:=first|exact dI|fail) only[List.map_cons,List.map_nil,Mis.pv_mk,push_cast,seval]
 ·by_cases o2:M<(vt.length:Int)
  ·rw[bL (.inr o2)]
   simp(disch:=first|exact dI|fail) only[List.map_cons,List.map_nil,Mis.pv_mk,push_cast,seval]
  ·rw[fv (fun h=>h.elim o1 o2)]
   simp(disch:=first|exact dI|fail) only[List.map_nil,push_cast,seval]
set_option maxHeartbeats 4000000 in
theorem D4 (n:Nat)(ih:ik n)(hB:bnd n≤216000000)(t:Typ)(v:Val)(p:List UInt8)(hd:dep (n+1) v)(ht:aQ (n+1) t)(hv:v.ok)(hp:p.length+200*(n+1)≤100000)(h:¬ (t.kind<1∨10<t.kind∨¬ v.kind=t.kind))(hf:ab v=true)(hk:t.kind=4)(hw:t.words.length=0):aq Tryz.prog aA 9 [t.pv,v.pv,.str p] (.list ((aF (n+1) t v p).map Mis.pv)):=by
 have hd0:=hd
 simp only[dep] at hd0
 have h57:=a7 v (by omega) (by omega) (by omega)
 have hvo:=hv
 rw[aw,bT h hf (.inl hk) (fun _=>hw)]
 obtain⟨k,m,M,s,w,e,fs⟩:=t
 obtain⟨vk,vi,vs,vt,vl,vf⟩:=v
 simp only[dep,aQ,Val.lst,Val.fields,Val.text,Typ.fields,Typ.words,Typ.elem,Typ.kind,Val.kind,Typ.min,Typ.max,Typ.scale,Val.num,Val.scale] at *
 obtain⟨d1,d2,d3,d4,d5⟩:=hd
 obtain⟨t1,t2,t3,t4⟩:=ht
 refine aq.intro dU (by simp[F9]) ?_
 rw[Typ.pv_mk,Val.pv_mk] at *
 have c:vk=4:=by omega
 subst hk c
 rw[hf] at h57
 have hz:¬ (0:Int)<w.length:=by omega
 simp(disch:=first|exact dI|fail) only[F9,push_cast,seval]
 refine ae.pure h57 rfl ?_
 by_cases o1:(vt.length:Int)<m
 ·rw[bL (.inl o1)]
  simp(disch:=first|exact dI|fail) only[List.map_cons,List.map_nil,Mis.pv_mk,push_cast,seval]
 ·by_cases o2:M<(vt.length:Int)
  ·rw[bL (.inr o2)]
   simp(disch:=first|exact dI|fail) only[List.map_cons,List.map_nil,Mis.pv_mk,push_cast,seval]
  ·rw[fv (fun h=>h.elim o1 o2)]
   simp(disch:=first|exact dI|fail) only[List.map_nil,push_cast,seval]
set_option maxHeartbeats 4000000 in
theorem AK (n:Nat)(ih:ik n)(hB:bnd n≤216000000)(t:Typ)(v:Val)(p:List UInt8)(hd:dep (n+1) v)(ht:aQ (n+1) t)(hv:v.ok)(hp:p.length+200*(n+1)≤100000)(h:¬ (t.kind<1∨10<t.kind∨¬ v.kind=t.kind))(hf:ab v=true)(hk:t.kind=4)(hw:0<t.words.length)(ha:(t.words.any fun x=>decide (x=v.text))=true):aq Tryz.prog aA 9 [t.pv,v.pv,.str p] (.list ((aF (n+1) t v p).map Mis.pv)):=by
 have hd0:=hd
 simp only[dep] at hd0
 have h57:=a7 v (by omega) (by omega) (by omega)
 have h58:=FY t.words v.text (by have:=ht;simp only[aQ] at this;omega)
 have hvo:=hv
 rw[aw,fb h hf hk hw ha]
 obtain⟨k,m,M,s,w,e,fs⟩:=t
 obtain⟨vk,vi,vs,vt,vl,vf⟩:=v
 simp only[dep,aQ,Val.lst,Val.fields,Val.text,Typ.fields,Typ.words,Typ.elem,Typ.kind,Val.kind,Typ.min,Typ.max,Typ.scale,Val.num,Val.scale] at *
 obtain⟨d1,d2,d3,d4,d5⟩:=hd
 obtain⟨t1,t2,t3,t4⟩:=ht
 refine aq.intro dU (by simp[F9]) ?_
 rw[Typ.pv_mk,Val.pv_mk] at *
 have c:vk=4:=by omega
 subst hk c
 rw[hf] at h57
 rw[ha] at h58
 have hz:(0:Int)<w.length:=by omega
 simp(disch:=first|exact dI|fail) only[F9,push_cast,seval]
 refine ae.pure h57 rfl ?_
 simp(disch:=first|exact dI|fail) only[push_cast,seval]
 refine ae.pure h58 rfl ?_
 simp(disch:=first|exact dI|fail) only[List.map_nil,push_cast,seval]
set_option maxHeartbeats 4000000 in
theorem AL (n:Nat)(ih:ik n)(hB:bnd n≤216000000)(t:Typ)(v:Val)(p:List UInt8)(hd:dep (n+1) v)(ht:aQ (n+1) t)(hv:v.ok)(hp:p.length+200*(n+1)≤100000)(h:¬ (t.kind<1∨10<t.kind∨¬ v.kind=t.kind))(hf:ab v=true)(hk:t.kind=4)(hw:0<t.words.length)(ha:(t.words.any fun x=>decide (x=v.text))=false):aq Tryz.prog aA 9 [t.pv,v.pv,.str p] (.list ((aF (n+1) t v p).map Mis.pv)):=by
 have hd0:=hd
 simp only[dep] at hd0
 have h57:=a7 v (by omega) (by omega) (by omega)
 have h58:=FY t.words v.text (by have:=ht;simp only[aQ] at this;omega)
 have hvo:=hv
 rw[aw,dq h hf hk hw ha]
 obtain⟨k,m,M,s,w,e,fs⟩:=t
 obtain⟨vk,vi,vs,vt,vl,vf⟩:=v
 simp only[dep,aQ,Val.lst,Val.fields,Val.text,Typ.fields,Typ.words,Typ.elem,Typ.kind,Val.kind,Typ.min,Typ.max,Typ.scale,Val.num,Val.scale] at *
 obtain⟨d1,d2,d3,d4,d5⟩:=hd
 obtain⟨t1,t2,t3,t4⟩:=ht
 refine aq.intro dU (by simp[F9]) ?_
 rw[Typ.pv_mk,Val.pv_mk] at *
 have c:vk=4:=by omega
 subst hk c
 rw[hf] at h57
 rw[ha] at h58
 have hz:(0:Int)<w.length:=by omega
 simp(disch:=first|exact dI|fail) only[F9,push_cast,seval]
 refine ae.pure h57 rfl ?_
 simp(disch:=first|exact dI|fail) only[push_cast,seval]
 refine ae.pure h58 rfl ?_
 simp(disch:=first|exact dI|fail) only[List.map_cons,List.map_nil,Mis.pv_mk,push_cast,seval]
set_option maxHeartbeats 4000000 in
theorem D0 (n:Nat)(ih:ik n)(hB:bnd n≤216000000)(t:Typ)(v:Val)(p:List UInt8)(hd:dep (n+1) v)(ht:aQ (n+1) t)(hv:v.ok)(hp:p.length+200*(n+1)≤100000)(h:¬ (t.kind<1∨10<t.kind∨¬ v.kind=t.kind))(hf:ab v=true)(hk:t.kind=8):aq Tryz.prog aA 9 [t.pv,v.pv,.str p] (.list ((aF (n+1) t v p).map Mis.pv)):=by
 have hd0:=hd
 simp only[dep] at hd0
 have h57:=a7 v (by omega) (by omega) (by omega)
 have h59:=qC n ih hB t v p hd ht hv hp
 have hvo:=hv
 rw[aw,fe h hf hk]
 obtain⟨k,m,M,s,w,e,fs⟩:=t
 obtain⟨vk,vi,vs,vt,vl,vf⟩:=v
 simp only[dep,aQ,Val.lst,Val.fields,Val.text,Typ.fields,Typ.words,Typ.elem,Typ.kind,Val.kind,Typ.min,Typ.max,Typ.scale,Val.num,Val.scale] at *
 obtain⟨d1,d2,d3,d4,d5⟩:=hd
 obtain⟨t1,t2,t3,t4⟩:=ht
 refine aq.intro dU (by simp[F9]) ?_
 rw[Typ.pv_mk,Val.pv_mk] at *
 have c:vk=8:=by omega
 subst hk c
 rw[hf] at h57
 simp(disch:=first|exact dI|fail) only[F9,push_cast,seval]
 refine ae.pure h57 rfl ?_
 simp(disch:=first|exact dI|fail) only[push_cast,seval]
 refine ae.pure h59 rfl ?_
 simp(disch:=first|exact dI|fail) only[push_cast,seval]
set_option maxHeartbeats 4000000 in
theorem DZ (n:Nat)(ih:ik n)(hB:bnd n≤216000000)(t:Typ)(v:Val)(p:List UInt8)(hd:dep (n+1) v)(ht:aQ (n+1) t)(hv:v.ok)(hp:p.length+200*(n+1)≤100000)(h:¬ (t.kind<1∨10<t.kind∨¬ v.kind=t.kind))(hf:ab v=true)(hk:t.kind=9):aq Tryz.prog aA 9 [t.pv,v.pv,.str p] (.list ((aF (n+1) t v p).map Mis.pv)):=by
 have hd0:=hd
 simp only[dep] at hd0
 have h57:=a7 v (by omega) (by omega) (by omega)
 have h60:=z8 n ih hB t v p hd ht hv hp
 have hvo:=hv
 rw[aw,gz h hf hk]
 obtain⟨k,m,M,s,w,e,fs⟩:=t
 obtain⟨vk,vi,vs,vt,vl,vf⟩:=v
 simp only[dep,aQ,Val.lst,Val.fields,Val.text,Typ.fields,Typ.words,Typ.elem,Typ.kind,Val.kind,Typ.min,Typ.max,Typ.scale,Val.num,Val.scale] at *
 obtain⟨d1,d2,d3,d4,d5⟩:=hd
 obtain⟨t1,t2,t3,t4⟩:=ht
 refine aq.intro dU (by simp[F9]) ?_
 rw[Typ.pv_mk,Val.pv_mk] at *
 have c:vk=9:=by omega
 subst hk c
 rw[hf] at h57
 simp(disch:=first|exact dI|fail) only[F9,push_cast,seval]
 refine ae.pure h57 rfl ?_
 simp(disch:=first|exact dI|fail) only[push_cast,seval]
 refine ae.pure h60 rfl ?_
 simp(disch:=first|exact dI|fail) only[push_cast,seval]
set_option maxHeartbeats 4000000 in
theorem wm (n:Nat)(ih:ik n)(hB:bnd n≤216000000)(t:Typ)(v:Val)(p:List UInt8)(hd:dep (n+1) v)(ht:aQ (n+1) t)(hv:v.ok)(hp:p.length+200*(n+1)≤100000)(h:¬ (t.kind<1∨10<t.kind∨¬ v.kind=t.kind))(hf:ab v=true)(hk:t.kind=10)(hfd:t.fields.find? (named v.text)=none):aq Tryz.prog aA 9 [t.pv,v.pv,.str p] (.list ((aF (n+1) t v p).map Mis.pv)):=by
 have hd0:=hd
 simp only[dep] at hd0
 have h57:=a7 v (by omega) (by omega) (by omega)
 have h61:=d8 t v.text (by have:=ht;simp only[aQ] at this;omega)
 have hvo:=hv
 rw[aw,dp h hf hk,f6 hfd]
 obtain⟨k,m,M,s,w,e,fs⟩:=t
 obtain⟨vk,vi,vs,vt,vl,vf⟩:=v
 simp only[dep,aQ,Val.lst,Val.fields,Val.text,Typ.fields,Typ.words,Typ.elem,Typ.kind,Val.kind,Typ.min,Typ.max,Typ.scale,Val.num,Val.scale] at *
 obtain⟨d1,d2,d3,d4,d5⟩:=hd
 obtain⟨t1,t2,t3,t4⟩:=ht
 refine aq.intro dU (by simp[F9]) ?_
 rw[Typ.pv_mk,Val.pv_mk] at *
 have c:vk=10:=by omega
 subst hk c
 rw[hf] at h57
 rw[hfd] at h61
 simp only[tfR,Option.getD_none,Option.isSome_none,fV,TFd.pv_mk,Typ.pv_mk,List.map_nil] at h61
 simp(disch:=first|exact dI|fail) only[F9,push_cast,seval]
 refine ae.pure h57 rfl ?_
 simp(disch:=first|exact dI|fail) only[push_cast,seval]
 refine ae.pure h61 rfl ?_
 simp(disch:=first|exact dI|fail) only[List.map_cons,List.map_nil,Mis.pv_mk,push_cast,seval]
set_option maxHeartbeats 4000000 in
theorem AN (n:Nat)(ih:ik n)(hB:bnd n≤216000000)(t:Typ)(v:Val)(p:List UInt8)(hd:dep (n+1) v)(ht:aQ (n+1) t)(hv:v.ok)(hp:p.length+200*(n+1)≤100000)(h:¬ (t.kind<1∨10<t.kind∨¬ v.kind=t.kind))(hf:ab v=true)(hk:t.kind=10)(hl:v.lst.length=1)(z:TFd)(hfd:t.fields.find? (named v.text)=some z):aq Tryz.prog aA 9 [t.pv,v.pv,.str p] (.list ((aF (n+1) t v p).map Mis.pv)):=by
 have hd0:=hd
 simp only[dep] at hd0
 have h57:=a7 v (by omega) (by omega) (by omega)
 have h61:=d8 t v.text (by have:=ht;simp only[aQ] at this;omega)
 have hvo:=hv
 rw[aw,dp h hf hk,f5 hfd]
 obtain⟨k,m,M,s,w,e,fs⟩:=t
 obtain⟨vk,vi,vs,vt,vl,vf⟩:=v
 simp only[dep,aQ,Val.lst,Val.fields,Val.text,Typ.fields,Typ.words,Typ.elem,Typ.kind,Val.kind,Typ.min,Typ.max,Typ.scale,Val.num,Val.scale] at *
 obtain⟨d1,d2,d3,d4,d5⟩:=hd
 obtain⟨t1,t2,t3,t4⟩:=ht
 refine aq.intro dU (by simp[F9]) ?_
 rw[Typ.pv_mk,Val.pv_mk] at *
 have c:vk=10:=by omega
 subst hk c
 rw[hf] at h57
 rw[hfd] at h61
 obtain⟨x,rfl⟩:=List.length_eq_one_iff.1 hl
 have hxd:=d4 x (List.mem_singleton.2 rfl)
 rw[Val.ok_mk] at hvo
 have hxo:=hvo.2.2.2.2.2.1 x (List.mem_singleton.2 rfl)
 have hzt:=(t4 z (List.mem_of_find?_eq_some hfd)).2
 obtain⟨z1,z2,z3,z4,z5⟩:=z
 simp only[TFd.typ,List.headD_cons] at hzt ⊢
 have hih:=ih z4 x (p++(63::vt)) hxd hzt hxo (by simp only[List.length_append,List.length_cons];omega)
 generalize aF n z4 x (p++(63::vt))=T at *
 obtain⟨w1,w2,w3,w4,w5,w6,w7⟩:=z4
 obtain⟨x1,x2,x3,x4,x5,x6⟩:=x
 simp only[tfR,Option.getD_some,Option.isSome_some,TFd.pv_mk,Typ.pv_mk] at h61
 simp only[Typ.pv_mk,Val.pv_mk] at hih
 simp(disch:=first|exact dI|fail) only[F9,push_cast,seval]
 refine ae.pure h57 rfl ?_
 simp(disch:=first|exact dI|fail) only[push_cast,seval]
 refine ae.pure h61 rfl ?_
 simp(disch:=first|exact dI|fail) only[List.map_cons,List.map_nil,aK,List.getElem?_cons_zero,Val.pv_mk,push_cast,seval]
 refine ae.pure hih rfl ?_
 simp(disch:=first|exact dI|fail) only[push_cast,seval]
theorem rg (n:Nat)(ih:ik n)(hB:bnd n≤216000000):ik (n+1):=by
 intro t v p hd ht hv hp
 by_cases h:t.kind<1∨10<t.kind∨¬ v.kind=t.kind
 ·exact rh n ih hB t v p hd ht hv hp h
 ·by_cases hf:ab v=false
  ·exact wl n ih hB t v p hd ht hv hp h hf
  ·have hf:ab v=true:=by simpa using hf
   have hk:t.kind=1∨t.kind=2∨t.kind=3∨t.kind=4∨t.kind=5∨t.kind=6∨t.kind=7∨t.kind=8∨t.kind=9∨t.kind=10:=by omega
   rcases hk with hk | hk | hk | hk | hk | hk | hk | hk | hk | hk
   ·exact D7 n ih hB t v p hd ht hv hp h hf hk
   ·exact D6 n ih hB t v p hd ht hv hp h hf hk
   ·by_cases hs:v.scale=t.scale
    ·exact AM n ih hB t v p hd ht hv hp h hf hk hs
    ·exact D5 n ih hB t v p hd ht hv hp h hf hk hs
   ·by_cases hw:t.words.length=0
    ·exact D4 n ih hB t v p hd ht hv hp h hf hk hw
    ·cases ha:(t.words.any fun x=>decide (x=v.text)) with
     | true=>exact AK n ih hB t v p hd ht hv hp h hf hk (by omega) ha
     | false=>exact AL n ih hB t v p hd ht hv hp h hf hk (by omega) ha
   ·exact D3 n ih hB t v p hd ht hv hp h hf hk
   ·exact D2 n ih hB t v p hd ht hv hp h hf hk
   ·exact D1 n ih hB t v p hd ht hv hp h hf hk
   ·exact D0 n ih hB t v p hd ht hv hp h hf hk
   ·exact DZ n ih hB t v p hd ht hv hp h hf hk
   ·cases hfd:t.fields.find? (named v.text) with
    | none=>exact wm n ih hB t v p hd ht hv hp h hf hk hfd
    | some z=>exact AN n ih hB t v p hd ht hv hp h hf hk (jm (by omega) hf) z hfd
theorem JB:∀ n,n≤4→ik n
 | 0,_=>fun t v p hd=>hd.elim
 | n + 1,h=>rg n (JB n (by omega)) (by
     have:n=0∨n=1∨n=2∨n=3:=by omega
     rcases this with rfl | rfl | rfl | rfl<;>decide)
end Go.Proofs.YtedanlflegfomaaGreatDoor

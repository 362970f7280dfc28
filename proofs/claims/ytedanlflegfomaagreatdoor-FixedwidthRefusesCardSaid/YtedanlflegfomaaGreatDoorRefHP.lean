/- A part of the proof for FixedwidthRefusesCardSaid. -/
import Derived.Test.YtedanlflegfomaaGreatDoorRefHO
set_option maxRecDepth 100000
set_option linter.unusedVariables false
set_option linter.unusedSimpArgs false
namespace Go.Proofs.YtedanlflegfomaaGreatDoor
open Go Go.Ab
attribute [local irreducible] vc
set_option maxHeartbeats 4000000 in
theorem z8 (n:Nat)(ih:ik n)(hB:bnd n≤216000000)(t:Typ)(v:Val)(p:List UInt8)(hd:dep (n+1) v)(ht:aQ (n+1) t)(hv:v.ok)(hp:p.length+200*(n+1)≤100000) :
  aq Tryz.prog aA 33 [t.pv,v.pv,.str p] (.list ((wI (aF n) t v p).map Mis.pv)):=by
 have h92:=fun name=>Dx v name (by simp only[dep] at hd;omega)
 have h61:=fun name=>d8 t name (by simp only[aQ] at ht;omega)
 have hl1:=flat_len (cp (aF n) v.fields p) (bnd n) (l:=t.fields) (fun x hx=>fl (dn n) (fun f hf=>by simp only[dep] at hd;exact (hd.2.2.2.2 f hf).2) (by simp only[aQ] at ht;exact (ht.2.2.2 x hx).2)) (by simp only[aQ] at ht;omega)
 have hl1x:=fun x hx=>fl (dn n) (fs:=v.fields) (p:=p) (x:=x) (fun f hf=>by simp only[dep] at hd;exact (hd.2.2.2.2 f hf).2) (by simp only[aQ] at ht;exact (ht.2.2.2 x hx).2)
 have hl2:=flat_len (cz t.fields p) 1 (l:=v.fields) (fun x _=>iy _ _ _) (by simp only[dep] at hd;omega)
 rw[wI]
 obtain⟨k,m,M,s,w,e,fs⟩:=t
 obtain⟨vk,vi,vs,vt,vl,vf⟩:=v
 simp only[dep,aQ,Val.lst,Val.fields,Val.text,Typ.fields,Typ.words,Typ.elem] at *
 obtain⟨d1,d2,d3,d4,d5⟩:=hd
 obtain⟨t1,t2,t3,t4⟩:=ht
 rw[Val.ok_mk] at hv
 rw[Typ.pv_mk,Val.pv_mk] at *
 generalize hF1:cp (aF n) vf p=F1 at *
 generalize hF2:cz fs p=F2 at *
 refine aq.intro Hu (by simp[F33]) ?_
 simp(disch:=first|exact dI|fail) only[F33,push_cast,seval]
 refine az ([(7,0,79,2)]) (fun i:Nat=>[(7,.olist 0 2 (((fs.take i).flatMap F1).map Mis.pv)),(8,.pv (.int .i64 (i:Int)))]) (fun i=>[]) (fun i=>i≤fs.length) (fun i=>fs.length - i) (0) ?_;intro e0 σ0 n0 h0;simp(disch:=first|exact dI|fail) only[push_cast,seval] at h0;obtain⟨rfl,rfl,rfl⟩:=h0;refine⟨?_,?_,?_⟩
 ·simp(disch:=first|exact dI|fail) only[List.flatMap_nil,List.map_nil,push_cast,seval]
 ·omega
 ·intro i hi2
  by_cases hlt:i<fs.length
  ·have hltI:(i:Int)<fs.length:=by omega
   obtain⟨x,hx⟩:∃ x,fs[i]? = some x:=⟨_,List.getElem?_eq_getElem hlt⟩
   have hsn:=eG F1 hx
   have hl3:=hl1 i
   have hl4:=hl1x x (List.mem_of_getElem? hx)
   obtain⟨hxn,hxt⟩:=t4 x (List.mem_of_getElem? hx)
   have hF1x:F1 x=cp (aF n) vf p x:=by rw[hF1]
   generalize (fs.take i).flatMap F1=S at *
   obtain⟨x1,x2,x3,⟨y1,y2,y3,y4,y5,y6,y7⟩,x5⟩:=x
   simp only[TFd.name,TFd.typ] at hxn hxt
   have hc:=h92 x2
   have hul:=dB p x2
   have hu:=Bs p x2 (by omega) (by omega)
   cases hfd:vf.find? (bf x2) with
   | some y=>
     rw[hfd] at hc
     rw[cY (by exact hfd)] at hF1x
     have hym:=List.mem_of_find?_eq_some hfd
     have hyd:=(d5 y hym).2
     have hyo:=hv.2.2.2.2.2.2.2 y hym
     obtain⟨yn,yv⟩:=y
     rw[Fld.ok_mk] at hyo
     simp only[Fld.value,TFd.typ,TFd.name] at hyd hF1x
     have hih:=ih (.mk y1 y2 y3 y4 y5 y6 y7) yv (bc p x2) hyd hxt hyo.2 (by omega)
     rw[← hF1x] at hih
     have hma:=kt (F1 (.mk x1 x2 x3 (.mk y1 y2 y3 y4 y5 y6 y7) x5))
     generalize F1 (.mk x1 x2 x3 (.mk y1 y2 y3 y4 y5 y6 y7) x5)=T at *
     obtain⟨z1,z2,z3,z4,z5,z6⟩:=yv
     simp only[vlR,Option.map_some,Option.getD_some,Option.isSome_some,Fld.value,Val.pv_mk] at hc
     simp only[Typ.pv_mk,Val.pv_mk] at hih
     simp(disch:=first|exact dI|fail) only[hx,TFd.pv_mk,Typ.pv_mk,push_cast,seval]
     refine ae.pure hc rfl ?_
     simp(disch:=first|exact dI|fail) only[TFd.pv_mk,Typ.pv_mk,push_cast,seval]
     refine au hu rfl ?_
     simp(disch:=first|exact dI|fail) only[push_cast,seval]
     refine au hih rfl ?_
     simp(disch:=first|exact dI|fail) only[hma,push_cast,seval]
     exact⟨i+1,bl (by simp(disch:=first|exact dI|fail) only[hsn,List.map_append,push_cast,seval]),by omega,by omega⟩
   | none=>
     rw[hfd] at hc
     simp only[vlR,Option.map_none,Option.getD_none,Option.isSome_none,lC,Val.pv_mk,List.map_nil] at hc
     by_cases hn:x3=2
     ·rw[fk (by exact hfd) (by exact hn)] at hF1x
      simp(disch:=first|exact dI|fail) only[hx,TFd.pv_mk,Typ.pv_mk,hn,push_cast,seval]
      refine ae.pure hc rfl ?_
      simp(disch:=first|exact dI|fail) only[TFd.pv_mk,Typ.pv_mk,push_cast,seval]
      subst hn
      exact⟨i+1,bl (by simp(disch:=first|exact dI|fail) only[hsn,hF1x,List.append_nil,push_cast,seval]),by omega,by omega⟩
     ·rw[em (by exact hfd) (by exact hn)] at hF1x
      simp only[TFd.name] at hF1x
      simp(disch:=first|exact dI|fail) only[hx,TFd.pv_mk,Typ.pv_mk,push_cast,seval]
      refine ae.pure hc rfl ?_
      simp(disch:=first|exact dI|fail) only[TFd.pv_mk,Typ.pv_mk,push_cast,seval]
      refine ae.pure hu rfl ?_
      simp(disch:=first|exact dI|fail) only[push_cast,seval]
      exact⟨i+1,bl (by simp(disch:=first|exact dI|fail) only[hsn,hF1x,List.map_append,Mis.pv_mk,List.map_cons,List.map_nil,push_cast,seval]),by omega,by omega⟩
  ·have hltI:¬ (i:Int)<fs.length:=by omega
   have hl3:=hl1 i
   rw[cl hlt] at hl3 ⊢
   generalize fs.flatMap F1=S at *
   simp(disch:=first|exact dI|fail) only[push_cast,seval]
   refine az ([]) (fun i:Nat=>[(7,.olist 0 2 ((S++(vf.take i).flatMap F2).map Mis.pv)),(12,.pv (.int .i64 (i:Int)))]) (fun i=>[]) (fun i=>i≤vf.length) (fun i=>vf.length - i) (0) ?_;intro e0 σ0 n0 h0;simp(disch:=first|exact dI|fail) only[push_cast,seval] at h0;obtain⟨rfl,rfl,rfl⟩:=h0;refine⟨?_,?_,?_⟩
   ·simp(disch:=first|exact dI|fail) only[List.flatMap_nil,List.append_nil,push_cast,seval]
   ·omega
   ·intro i hi2
    by_cases hlt:i<vf.length
    ·have hltI:(i:Int)<vf.length:=by omega
     obtain⟨x,hx⟩:∃ x,vf[i]? = some x:=⟨_,List.getElem?_eq_getElem hlt⟩
     have hsn:=eG F2 hx
     have hl4:=hl2 i
     have hF2x:F2 x=cz fs p x:=by rw[hF2]
     have hxn:=(d5 x (List.mem_of_getElem? hx)).1
     generalize (vf.take i).flatMap F2=T at *
     obtain⟨x1,⟨y1,y2,y3,y4,y5,y6⟩⟩:=x
     simp only[Fld.name] at hxn
     have hc:=h61 x1
     have hul:=dB p x1
     have hu:=Bs p x1 (by omega) (by omega)
     cases hfd:fs.find? (named x1) with
     | some z=>
       rw[hfd] at hc
       rw[ec (by exact hfd)] at hF2x
       obtain⟨z1,z2,z3,⟨w1,w2,w3,w4,w5,w6,w7⟩,z5⟩:=z
       simp only[tfR,Option.getD_some,Option.isSome_some,TFd.pv_mk,Typ.pv_mk] at hc
       simp(disch:=first|exact dI|fail) only[hx,Fld.pv_mk,Val.pv_mk,push_cast,seval]
       refine au hc rfl ?_
       simp(disch:=first|exact dI|fail) only[push_cast,seval]
       exact⟨i+1,bl (by simp(disch:=first|exact dI|fail) only[hsn,hF2x,List.append_nil,push_cast,seval]),by omega,by omega⟩
     | none=>
       rw[hfd] at hc
       rw[gr (by exact hfd)] at hF2x
       simp only[Fld.name] at hF2x
       simp only[tfR,Option.getD_none,Option.isSome_none,fV,TFd.pv_mk,Typ.pv_mk,List.map_nil] at hc
       simp(disch:=first|exact dI|fail) only[hx,Fld.pv_mk,Val.pv_mk,push_cast,seval]
       refine au hc rfl ?_
       simp(disch:=first|exact dI|fail) only[hx,Fld.pv_mk,Val.pv_mk,push_cast,seval]
       refine ae.pure hu rfl ?_
       simp(disch:=first|exact dI|fail) only[push_cast,seval]
       exact⟨i+1,bl (by simp(disch:=first|exact dI|fail) only[hsn,hF2x,List.map_append,List.append_assoc,Mis.pv_mk,List.map_cons,List.map_nil,push_cast,seval]),by omega,by omega⟩
    ·have hltI:¬ (i:Int)<vf.length:=by omega
     rw[cl hlt]
     simp(disch:=first|exact dI|fail) only[push_cast,seval]
end Go.Proofs.YtedanlflegfomaaGreatDoor

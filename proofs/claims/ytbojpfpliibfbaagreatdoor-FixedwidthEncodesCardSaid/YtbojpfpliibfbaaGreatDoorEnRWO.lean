/- A part of the proof. -/
import Derived.Test.YtbojpfpliibfbaaGreatDoorEnRWN
set_option maxHeartbeats 16000000
set_option maxRecDepth 100000
set_option linter.unusedVariables false
set_option linter.unusedSimpArgs false
namespace Go.Proofs.YtbojpfpliibfbaaGreatDoor
open Go Go.Ab
attribute [local irreducible] vc
theorem Au {α β:Type}(F:α->List β)(B:Nat):∀ (l:List α),(∀ x∈l,(F x).length<=B)->(l.flatMap F).length<=l.length*B
 | [],_=>by simp
 | x::r,h=>by
   have h1:=h x (by simp)
   have h2:=Au F B r (fun y hy=>h y (by simp[hy]))
   rw[List.flatMap_cons,List.length_append,List.length_cons,Nat.succ_mul];omega
theorem D1 (a b:Int)(p:List UInt8)(n:Int):(rK a b p n).length<=1:=by unfold rK;split<;>simp
theorem uj (ts:List TFd)(p:List UInt8)(x:Fld):(eQ ts p x).length<=1:=by
 unfold eQ;split<;>simp
theorem En {t:Typ}(v:Val)(p:List UInt8)(hk:t.kind<=7):(aT 1 t v p).length<=1:=by
 rw[aG,dK]
 have ho:=fun k=>D1 t.min t.max p k
 repeat' split
 all_goals first | exact ho _ | (exfalso;omega) | (simp;done)
theorem lS {fs:List Fld}{p:List UInt8}{x:TFd}(hx:x.typ.kind<=7):(eo (aT 1) fs p x).length<=1:=by
 cases h:fs.find? (bc x.name) with
 | some y=>rw[eJ h];exact En _ _ hx
 | none=>
   by_cases hn:x.need=2
   ·rw[iG h hn];simp
   ·rw[gl h hn];simp
theorem Gl:∀ l:List Mis,((l.map Mis.pv).all fun y=>y.cells.length == 2)=true
 | []=>rfl
 | x::r=>by rw[List.map_cons,List.all_cons,Gl r,Mis.cells_len];rfl
theorem As {α β:Type}(F:α->List β){l:List α}(h:∀ x∈l,(F x).length<=1)(m:Nat):((l.take m).flatMap F).length<=l.length:=by
 have h1:=Au F 1 (l.take m) (fun x hx=>h x (List.mem_of_mem_take hx))
 rw[List.length_take] at h1;omega
def PQ:Prop:=∀ (t:Typ) (v:Val) (p:List UInt8),bM 1 t->t.kind<=7->v.ok->p.length<=2000->am Tryz.prog az 20 [t.pv,v.pv,.str p] (.list ((aT 1 t v p).map Mis.pv))
theorem E2 (ih:PQ)(t:Typ)(v:Val)(p:List UInt8)(ht:bM 2 t)(hsc:∀ g∈t.fields,g.typ.kind<=7)(htf:t.fields.length<=900000000000)(hv:v.ok)(hp:p.length<=1000) :
  am Tryz.prog az 64 [t.pv,v.pv,.str p] (.list ((H4 (aT 1) t v p).map Mis.pv)):=by
 have hd:=lV 2 v hv
 have hvl:v.fields.length<=1400000000000:=by obtain⟨vk,vi,vs,vt,vl,vf⟩:=v;rw[Val.ok_mk] at hv;simp only[Val.fields];omega
 have h92:=fun name=>Ja v name (by simp only[dep] at hd;omega)
 have h61:=fun name=>pA t name (by simp only[bM] at ht;omega)
 have hl1:=As (eo (aT 1) v.fields p) (l:=t.fields) (fun x hx=>lS (hsc x hx))
 have hl1x:=fun x hx=>lS (fs:=v.fields) (p:=p) (x:=x) (hsc x hx)
 have hl2:=As (eQ t.fields p) (l:=v.fields) (fun x _=>uj _ _ _)
 rw[H4]
 obtain⟨k,m,M,s,w,e,fs⟩:=t
 obtain⟨vk,vi,vs,vt,vl,vf⟩:=v
 simp only[dep,bM,Val.lst,Val.fields,Val.text,Typ.fields,Typ.words,Typ.elem] at *
 obtain⟨d1,d2,d3,d4,d5⟩:=hd
 obtain⟨t1,t2,t3,t4⟩:=ht
 rw[Val.ok_mk] at hv
 rw[Typ.pv_mk,Val.pv_mk] at *
 generalize hF1:eo (aT 1) vf p=F1 at *
 generalize hF2:eQ fs p=F2 at *
 refine am.intro Q64.2 (by simp[Q64]) ?_
 simp(disch:=try exact dI) only[Q64,push_cast,seval]
 refine au ([(7,0,106,2)]) (fun i:Nat=>[(7,.olist 0 2 (((fs.take i).flatMap F1).map Mis.pv)),(8,.pv (.int .i64 (i:Int)))]) (fun i=>[]) (fun i=>i<=fs.length) (fun i=>fs.length - i) (0) ?_;intro e0 σ0 n0 h0;simp(disch:=try exact dI) only[push_cast,seval] at h0;obtain⟨rfl,rfl,rfl⟩:=h0;refine⟨?_,?_,?_⟩
 ·simp(disch:=try exact dI) only[List.flatMap_nil,List.map_nil,push_cast,seval]
 ·omega
 ·intro i hi2
  by_cases hlt:i<fs.length
  ·have hltI:(i:Int)<fs.length:=by omega
   obtain⟨x,hx⟩:∃ x,fs[i]? = some x:=⟨_,List.getElem?_eq_getElem hlt⟩
   have hsn:=gQ F1 hx
   have hl3:=hl1 i
   have hl4:=hl1x x (List.mem_of_getElem? hx)
   obtain⟨hxn,hxt⟩:=t4 x (List.mem_of_getElem? hx)
   have hxk:=hsc x (List.mem_of_getElem? hx)
   have hF1x:F1 x=eo (aT 1) vf p x:=by rw[hF1]
   generalize (fs.take i).flatMap F1=S at *
   obtain⟨x1,x2,x3,⟨y1,y2,y3,y4,y5,y6,y7⟩,x5⟩:=x
   simp only[TFd.name,TFd.typ] at hxn hxt hxk
   have hc:=h92 x2
   have hul:=fC p x2
   have hu:=Gr p x2 (by omega) (by omega)
   cases hfd:vf.find? (bc x2) with
   | some y=>
     rw[hfd] at hc
     rw[eJ (by exact hfd)] at hF1x
     have hym:=List.mem_of_find?_eq_some hfd
     have hyd:=(d5 y hym).2
     have hyo:=hv.2.2.2.2.2.2.2 y hym
     obtain⟨yn,yv⟩:=y
     rw[Fld.ok_mk] at hyo
     simp only[Fld.value,TFd.typ,TFd.name] at hyd hF1x
     have hih:=ih (.mk y1 y2 y3 y4 y5 y6 y7) yv (cp p x2) hxt hxk hyo.2 (by omega)
     rw[<- hF1x] at hih
     have hma:=Gl (F1 (.mk x1 x2 x3 (.mk y1 y2 y3 y4 y5 y6 y7) x5))
     generalize F1 (.mk x1 x2 x3 (.mk y1 y2 y3 y4 y5 y6 y7) x5)=T at *
     obtain⟨z1,z2,z3,z4,z5,z6⟩:=yv
     simp only[vlR,Option.map_some,Option.getD_some,Option.isSome_some,Fld.value,Val.pv_mk] at hc
     simp only[Typ.pv_mk,Val.pv_mk] at hih
     simp(disch:=try exact dI) only[hx,TFd.pv_mk,Typ.pv_mk,push_cast,seval]
     refine ab.pure hc rfl ?_
     simp(disch:=try exact dI) only[TFd.pv_mk,Typ.pv_mk,push_cast,seval]
     refine ap hu rfl ?_
     refine zgZ ?_
     refine ap hih rfl ?_
     simp(disch:=try exact dI) only[hma,push_cast,seval]
     exact⟨i+1,aM (by simp(disch:=try exact dI) only[hsn,List.map_append,push_cast,seval]),by omega,by omega⟩
   | none=>
     rw[hfd] at hc
     simp only[vlR,Option.map_none,Option.getD_none,Option.isSome_none,nr,Val.pv_mk,List.map_nil] at hc
     by_cases hn:x3=2
     ·rw[iG (by exact hfd) (by exact hn)] at hF1x
      simp(disch:=try exact dI) only[hx,TFd.pv_mk,Typ.pv_mk,hn,push_cast,seval]
      refine ab.pure hc rfl ?_
      simp(disch:=try exact dI) only[TFd.pv_mk,Typ.pv_mk,push_cast,seval]
      subst hn
      exact⟨i+1,aM (by simp(disch:=try exact dI) only[hsn,hF1x,List.append_nil,push_cast,seval]),by omega,by omega⟩
     ·rw[gl (by exact hfd) (by exact hn)] at hF1x
      simp only[TFd.name] at hF1x
      simp(disch:=try exact dI) only[hx,TFd.pv_mk,Typ.pv_mk,push_cast,seval]
      refine ab.pure hc rfl ?_
      simp(disch:=try exact dI) only[TFd.pv_mk,Typ.pv_mk,push_cast,seval]
      refine ab.pure hu rfl ?_
      refine zgZ ?_
      exact⟨i+1,aM (by simp(disch:=try exact dI) only[hsn,hF1x,List.map_append,Mis.pv_mk,List.map_cons,List.map_nil,push_cast,seval]),by omega,by omega⟩
  ·have hltI:¬ (i:Int)<fs.length:=by omega
   have hl3:=hl1 i
   rw[ji hlt] at hl3 ⊢
   generalize fs.flatMap F1=S at *
   refine zgZ ?_
   refine au ([]) (fun i:Nat=>[(7,.olist 0 2 ((S++(vf.take i).flatMap F2).map Mis.pv)),(12,.pv (.int .i64 (i:Int)))]) (fun i=>[]) (fun i=>i<=vf.length) (fun i=>vf.length - i) (0) ?_;intro e0 σ0 n0 h0;simp(disch:=try exact dI) only[push_cast,seval] at h0;obtain⟨rfl,rfl,rfl⟩:=h0;refine⟨?_,?_,?_⟩
   ·simp(disch:=try exact dI) only[List.flatMap_nil,List.append_nil,push_cast,seval]
   ·omega
   ·intro i hi2
    by_cases hlt:i<vf.length
    ·have hltI:(i:Int)<vf.length:=by omega
     obtain⟨x,hx⟩:∃ x,vf[i]? = some x:=⟨_,List.getElem?_eq_getElem hlt⟩
     have hsn:=gQ F2 hx
     have hl4:=hl2 i
     have hF2x:F2 x=eQ fs p x:=by rw[hF2]
     have hxn:=(d5 x (List.mem_of_getElem? hx)).1
     generalize (vf.take i).flatMap F2=T at *
     obtain⟨x1,⟨y1,y2,y3,y4,y5,y6⟩⟩:=x
     simp only[Fld.name] at hxn
     have hc:=h61 x1
     have hul:=fC p x1
     have hu:=Gr p x1 (by omega) (by omega)
     cases hfd:fs.find? (named x1) with
     | some z=>
       rw[hfd] at hc
       rw[j1 (by exact hfd)] at hF2x
       obtain⟨z1,z2,z3,⟨w1,w2,w3,w4,w5,w6,w7⟩,z5⟩:=z
       simp only[tfR,Option.getD_some,Option.isSome_some,TFd.pv_mk,Typ.pv_mk] at hc
       simp(disch:=try exact dI) only[hx,Fld.pv_mk,Val.pv_mk,push_cast,seval]
       refine ap hc rfl ?_
       refine zgZ ?_
       exact⟨i+1,aM (by simp(disch:=try exact dI) only[hsn,hF2x,List.append_nil,push_cast,seval]),by omega,by omega⟩
     | none=>
       rw[hfd] at hc
       rw[j2 (by exact hfd)] at hF2x
       simp only[Fld.name] at hF2x
       simp only[tfR,Option.getD_none,Option.isSome_none,fW,TFd.pv_mk,Typ.pv_mk,List.map_nil] at hc
       simp(disch:=try exact dI) only[hx,Fld.pv_mk,Val.pv_mk,push_cast,seval]
       refine ap hc rfl ?_
       simp(disch:=try exact dI) only[hx,Fld.pv_mk,Val.pv_mk,push_cast,seval]
       refine ab.pure hu rfl ?_
       refine zgZ ?_
       exact⟨i+1,aM (by simp(disch:=try exact dI) only[hsn,hF2x,List.map_append,List.append_assoc,Mis.pv_mk,List.map_cons,List.map_nil,push_cast,seval]),by omega,by omega⟩
    ·have hltI:¬ (i:Int)<vf.length:=by omega
     rw[ji hlt]
     exact qsZ
end Go.Proofs.YtbojpfpliibfbaaGreatDoor

/- A part of the proof for FixedwidthRefusesCardSaid. -/
import Derived.Test.YtedanlflegfomaaGreatDoorRefHN
set_option maxRecDepth 100000
set_option linter.unusedVariables false
set_option linter.unusedSimpArgs false
namespace Go.Proofs.YtedanlflegfomaaGreatDoor
open Go Go.Ab
attribute [local irreducible] vc
def bnd:Nat→Nat
 | 0=>1
 | n+1=>600*bnd n
theorem g5:∀ n,1≤bnd n
 | 0=>Nat.le_refl _
 | n+1=>by have:=g5 n;rw[bnd];omega
theorem mT {α β:Type}(F:α→List β)(B:Nat):∀ (l:List α),(∀ x∈l,(F x).length≤B)→(l.flatMap F).length≤l.length*B
 | [],_=>by simp
 | x::r,h=>by
   have h1:=h x (by simp)
   have h2:=mT F B r (fun y hy=>h y (by simp[hy]))
   rw[List.flatMap_cons,List.length_append,List.length_cons,Nat.succ_mul];omega
theorem flat_len {α β:Type}(F:α→List β)(B:Nat){l:List α}(h:∀ x∈l,(F x).length≤B)(hl:l.length≤300)(m:Nat):((l.take m).flatMap F).length≤300*B:=by
 have h1:=mT F B (l.take m) (fun x hx=>h x (List.mem_of_mem_take hx))
 have h2:(l.take m).length≤300:=by rw[List.length_take];omega
 have h3:=Nat.mul_le_mul_right B h2
 omega
theorem uD {α β:Type}(F:α→Nat→List β)(B:Nat){l:List α}(h:∀ x∈l,∀ i,(F x i).length≤B)(hl:l.length≤300)(m:Nat):(ixM F (l.take m)).length≤300*B:=by
 unfold ixM
 have h1:=mT (fun q:α×Nat=>F q.1 q.2) B (l.take m).zipIdx (fun q hq=>h q.1 (List.mem_of_mem_take (List.fst_mem_of_mem_zipIdx hq)) q.2)
 have h2:(l.take m).zipIdx.length≤300:=by rw[List.length_zipIdx,List.length_take];omega
 have h3:=Nat.mul_le_mul_right B h2
 omega
theorem yI (a b:Int)(p:List UInt8)(n:Int):(jF a b p n).length≤1:=by unfold jF;split<;>simp
section
variable {n:Nat}(ih:∀ t v p,dep n v→aQ n t→(aF n t v p).length≤bnd n)
include ih
theorem gO {e:List Typ}{p:List UInt8}{x:Val}{i:Nat}(he:∀ y∈e,aQ n y)(hx:dep n x):(eJ (aF n) e p x i).length≤bnd n:=by
 by_cases h:e.length=1
 ·obtain⟨y,rfl⟩:=List.length_eq_one_iff.1 h
  rw[dt rfl];exact ih _ _ _ hx (he y (by simp))
 ·rw[du h];exact g5 n
theorem fl {fs:List Fld}{p:List UInt8}{x:TFd}(hf:∀ f∈fs,dep n f.value)(hx:aQ n x.typ):(cp (aF n) fs p x).length≤bnd n:=by
 cases h:fs.find? (bf x.name) with
 | some y=>rw[cY h];exact ih _ _ _ (hf y (List.mem_of_find?_eq_some h)) hx
 | none=>
   by_cases hn:x.need=2
   ·rw[fk h hn];simp
   ·rw[em h hn];exact g5 n
omit ih in
theorem iy (ts:List TFd)(p:List UInt8)(x:Fld):(cz ts p x).length≤1:=by
 unfold cz;split<;>simp
theorem xW {t:Typ}{v:Val}{p:List UInt8}(hd:dep (n+1) v)(ht:aQ (n+1) t):(wI (aF n) t v p).length≤600*bnd n:=by
 simp only[dep,aQ] at hd ht
 obtain⟨d1,d2,d3,d4,d5⟩:=hd
 obtain⟨t1,t2,t3,t4⟩:=ht
 have h1:=flat_len (cp (aF n) v.fields p) (bnd n) (l:=t.fields) (fun x hx=>fl ih (fun f hf=>(d5 f hf).2) (t4 x hx).2) t1 t.fields.length
 have h2:=flat_len (cz t.fields p) 1 (l:=v.fields) (fun x _=>iy _ _ _) d2 v.fields.length
 rw[List.take_length] at h1 h2
 have:=g5 n
 rw[wI,List.length_append];omega
end
theorem dn:∀ (n:Nat) (t:Typ) (v:Val) (p:List UInt8),dep n v→aQ n t→(aF n t v p).length≤bnd n
 | 0,t,v,p,hd,_=>hd.elim
 | n+1,t,v,p,hd,ht=>by
   have ih:=dn n
   have hb:=g5 n
   have hd':=hd
   have ht':=ht
   simp only[dep,aQ] at hd' ht'
   obtain⟨d1,d2,d3,d4,d5⟩:=hd'
   obtain⟨t1,t2,t3,t4⟩:=ht'
   have ho:=fun k=>yI t.min t.max p k
   rw[aw,bnd]
   by_cases h:t.kind<1∨10<t.kind∨¬ v.kind=t.kind
   ·rw[ff h];simp;omega
   ·by_cases hf:ab v=false
    ·rw[gB h hf];simp;omega
    ·have hf:ab v=true:=by simpa using hf
     have hk:t.kind=1∨t.kind=2∨t.kind=3∨t.kind=4∨t.kind=5∨t.kind=6∨t.kind=7∨t.kind=8∨t.kind=9∨t.kind=10:=by omega
     rcases hk with hk | hk | hk | hk | hk | hk | hk | hk | hk | hk
     ·rw[fc h hf hk];simp
     ·rw[bv h hf (by omega)];have:=ho v.num;omega
     ·by_cases hs:v.scale=t.scale
      ·rw[gA h hf hk hs];have:=ho v.num;omega
      ·rw[ef h hf hk hs];simp;omega
     ·by_cases hw:t.words.length=0
      ·rw[bT h hf (.inl hk) (fun _=>hw)];have:=ho v.text.length;omega
      ·cases ha:(t.words.any fun x=>decide (x=v.text)) with
       | true=>rw[fb h hf hk (by omega) ha];simp
       | false=>rw[dq h hf hk (by omega) ha];simp;omega
     ·rw[bT h hf (.inr hk) (by omega)];have:=ho v.text.length;omega
     ·rw[bv h hf (by omega)];have:=ho v.num;omega
     ·rw[bv h hf (by omega)];have:=ho v.num;omega
     ·rw[fe h hf hk,List.length_append]
      have h1:=uD (eJ (aF n) t.elem p) (bnd n) (l:=v.lst) (fun x hx i=>gO ih t3 (d4 x hx)) d1 v.lst.length
      rw[List.take_length] at h1
      have:=ho v.lst.length;omega
     ·rw[gz h hf hk];exact xW ih hd ht
     ·rw[dp h hf hk]
      cases hfd:t.fields.find? (named v.text) with
      | none=>rw[f6 hfd];simp;omega
      | some z=>
        rw[f5 hfd]
        obtain⟨x,hx⟩:=List.length_eq_one_iff.1 (jm (by omega) hf)
        rw[hx]
        have:=ih z.typ x (p++(63::v.text)) (d4 x (by rw[hx];simp)) (t4 z (List.mem_of_find?_eq_some hfd)).2
        simp only[List.headD_cons];omega
theorem kt:∀ l:List Mis,((l.map Mis.pv).all fun y=>y.cells.length == 2)=true
 | []=>rfl
 | x::r=>by rw[List.map_cons,List.all_cons,kt r,Mis.cells_len];rfl
theorem oe:∀ (f n:Nat),n<10 ^ f→0<f→f≤18→aq Tryz.prog aA 75 [.int .i64 n] (.str (cb f n))
 | 0,_,_,h,_=>absurd h (by simp)
 | f+1,n,hn,_,hf=>by
   refine aq.intro G7 (by simp[F75]) ?_
   rw[cb]
   have hI:(n:Int)<1000000000000000000:=by
    have:(10:Nat) ^ (f+1)≤10 ^ 18:=Nat.pow_le_pow_right (by omega) hf
    have e:(10:Nat) ^ 18=1000000000000000000:=by decide
    omega
   have hm:((n % 10:Nat):Int)=(n:Int) % 10:=by omega
   have hu:UInt8.ofNat (48+n % 10)=UInt8.ofNat (48+n % 10):=rfl
   by_cases h:n<10
   ·rw[if_pos h]
    have hz:¬ (9:Int)<n:=by omega
    have ht:(48+(n:Int) % 10).toNat=48+n:=by omega
    simp(disch:=first|exact dI|fail) only[F75,ht,push_cast,seval]
   ·rw[if_neg h]
    have hz:(9:Int)<n:=by omega
    have h10:n / 10<10 ^ f:=by
     rw[Nat.pow_succ] at hn
     exact Nat.div_lt_of_lt_mul (by rw[Nat.mul_comm];exact hn)
    have hih:=oe f (n / 10) h10 (by
     rcases Nat.eq_zero_or_pos f with h0 | h0
     ·subst h0;simp at hn;omega
     ·exact h0) (by omega)
    have ht:(48+(n:Int) % 10).toNat=48+n % 10:=by omega
    have hdl:=dK f (n / 10)
    simp(disch:=first|exact dI|fail) only[F75,ht,push_cast,seval]
    refine ae.pure hih rfl ?_
    simp(disch:=first|exact dI|fail) only[ht,push_cast,seval]
theorem gQ:∀ (f g k:Nat),k<10 ^ f→0<f→f≤g→cb g k=cb f k
 | 0,_,_,_,h,_=>absurd h (by simp)
 | f+1,0,_,_,_,h=>absurd h (by omega)
 | f+1,g+1,k,hk,_,h=>by
   rw[cb,cb]
   by_cases h1:k<10
   ·rw[if_pos h1,if_pos h1]
   ·rw[if_neg h1,if_neg h1]
    have h10:k / 10<10 ^ f:=by
     rw[Nat.pow_succ] at hk
     exact Nat.div_lt_of_lt_mul (by rw[Nat.mul_comm];exact hk)
    rw[gQ f g (k / 10) h10 (by
     rcases Nat.eq_zero_or_pos f with h0 | h0
     ·subst h0;simp at hk;omega
     ·exact h0) (by omega)]
theorem gP (n:Nat)(h:n<1000000000):aq Tryz.prog aA 75 [.int .i64 n] (.str (eh n)):=by
 have e:(10:Nat) ^ 9=1000000000:=by decide
 have h1:=oe 9 n (by rw[e];exact h) (by omega) (by omega)
 have h2:eh n=cb 9 n:=by
  unfold eh
  rw[if_neg (by omega),Int.toNat_natCast,gQ 9 20 n (by rw[e];exact h) (by omega) (by omega)]
 rw[h2];exact h1
def ik (n:Nat):Prop:=∀ (t:Typ) (v:Val) (p:List UInt8),dep n v→aQ n t→v.ok→p.length+200*n≤100000→aq Tryz.prog aA 9 [t.pv,v.pv,.str p] (.list ((aF n t v p).map Mis.pv))
set_option maxHeartbeats 4000000 in
theorem qC (n:Nat)(ih:ik n)(hB:bnd n≤216000000)(t:Typ)(v:Val)(p:List UInt8)(hd:dep (n+1) v)(ht:aQ (n+1) t)(hv:v.ok)(hp:p.length+200*(n+1)≤100000) :
  aq Tryz.prog aA 32 [t.pv,v.pv,.str p] (.list ((jF t.min t.max p v.lst.length++ixM (eJ (aF n) t.elem p) v.lst).map Mis.pv)):=by
 have hxl:=fun m=>uD (eJ (aF n) t.elem p) (bnd n) (l:=v.lst) (fun x hx i=>gO (dn n) (by simp only[aQ] at ht;exact ht.2.2.1) (by simp only[dep] at hd;exact hd.2.2.2.1 x hx)) (by simp only[dep] at hd;omega) m
 have hel:=fun x hx i=>gO (dn n) (e:=t.elem) (p:=p) (x:=x) (i:=i) (by simp only[aQ] at ht;exact ht.2.2.1) (by simp only[dep] at hd;exact hd.2.2.2.1 x hx)
 obtain⟨k,m,M,s,w,e,fs⟩:=t
 obtain⟨vk,vi,vs,vt,vl,vf⟩:=v
 simp only[dep,aQ,Val.lst,Val.fields,Val.text,Typ.fields,Typ.words,Typ.elem,Typ.min,Typ.max] at *
 obtain⟨d1,d2,d3,d4,d5⟩:=hd
 obtain⟨t1,t2,t3,t4⟩:=ht
 rw[Val.ok_mk] at hv
 generalize hF:eJ (aF n) e p=F at *
 refine aq.intro Hw (by simp[F32]) ?_
 by_cases h1:(vl.length:Int)<m
 ·rw[bL (.inl h1)]
  simp(disch:=first|exact dI|fail) only[F32,Typ.pv_mk,Val.pv_mk,push_cast,seval]
  refine az ([(7,0,79,2)]) (fun i:Nat=>[(7,.olist 0 2 (([Mis.mk p 2]++ixM F (vl.take i)).map Mis.pv)),(8,.pv (.int .i64 (i:Int)))]) (fun i=>[]) (fun i=>i≤vl.length) (fun i=>vl.length - i) (0) ?_;intro e0 σ0 n0 h0;simp(disch:=first|exact dI|fail) only[push_cast,seval] at h0;obtain⟨rfl,rfl,rfl⟩:=h0;refine⟨?_,?_,?_⟩
  ·simp(disch:=first|exact dI|fail) only[jk,Mis.pv_mk,List.map_cons,List.map_nil,List.nil_append,List.cons_append,push_cast,seval]
  ·omega
  ·intro i hi2
   by_cases hlt:i<vl.length
   ·have hltI:(i:Int)<vl.length:=by omega
    obtain⟨x,hx⟩:∃ x,vl[i]? = some x:=⟨_,List.getElem?_eq_getElem hlt⟩
    have hsn:=fT F hx
    have hl1:=hxl i
    have hl2:=hel x (List.mem_of_getElem? hx) i
    have hFx:F x i=eJ (aF n) e p x i:=by rw[hF]
    have hal:=jy p i
    have h91:=gP i (by omega)
    have hil:=cD i
    have hat:atT p i=p++(91::(eh i++[93])):=rfl
    have hxd:=d4 x (List.mem_of_getElem? hx)
    have hxo:=hv.2.2.2.2.2.1 x (List.mem_of_getElem? hx)
    generalize ixM F (vl.take i)=S at *
    by_cases he:e.length=1
    ·obtain⟨y,rfl⟩:=List.length_eq_one_iff.1 he
     have hyt:=t3 y (List.mem_singleton.2 rfl)
     rw[dt rfl] at hFx
     have hih:=ih y x (atT p i) hxd hyt hxo (by omega)
     rw[← hFx,hat] at hih
     have hma:=kt (F x i)
     generalize F x i=T at *
     obtain⟨y1,y2,y3,y4,y5,y6,y7⟩:=y
     obtain⟨x1,x2,x3,x4,x5,x6⟩:=x
     simp only[Typ.pv_mk,Val.pv_mk] at hih
     simp(disch:=first|exact dI|fail) only[hx,Val.pv_mk,Typ.pv_mk,push_cast,seval]
     refine ae.pure h91 rfl ?_
     simp(disch:=first|exact dI|fail) only[hx,Typ.pv_mk,Val.pv_mk,aK,List.getElem?_cons_zero,push_cast,seval]
     refine au hih rfl ?_
     simp(disch:=first|exact dI|fail) only[hma,push_cast,seval]
     exact⟨i+1,bl (by simp(disch:=first|exact dI|fail) only[hsn,List.map_append,List.append_assoc,push_cast,seval]),by omega,by omega⟩
    ·have heI:¬ (e.length:Int)=1:=by omega
     rw[du he,hat] at hFx
     simp(disch:=first|exact dI|fail) only[hx,Val.pv_mk,Typ.pv_mk,push_cast,seval]
     refine ae.pure h91 rfl ?_
     simp(disch:=first|exact dI|fail) only[push_cast,seval]
     exact⟨i+1,bl (by simp(disch:=first|exact dI|fail) only[hsn,hFx,List.map_append,List.append_assoc,Mis.pv_mk,List.map_cons,List.map_nil,push_cast,seval]),by omega,by omega⟩
   ·have hltI:¬ (i:Int)<vl.length:=by omega
    rw[cl hlt]
    simp(disch:=first|exact dI|fail) only[List.map_append,push_cast,seval]
 ·by_cases h2:M<(vl.length:Int)
  ·rw[bL (.inr h2)]
   simp(disch:=first|exact dI|fail) only[F32,Typ.pv_mk,Val.pv_mk,push_cast,seval]
   refine az ([(7,0,79,2)]) (fun i:Nat=>[(7,.olist 0 2 (([Mis.mk p 2]++ixM F (vl.take i)).map Mis.pv)),(8,.pv (.int .i64 (i:Int)))]) (fun i=>[]) (fun i=>i≤vl.length) (fun i=>vl.length - i) (0) ?_;intro e0 σ0 n0 h0;simp(disch:=first|exact dI|fail) only[push_cast,seval] at h0;obtain⟨rfl,rfl,rfl⟩:=h0;refine⟨?_,?_,?_⟩
   ·simp(disch:=first|exact dI|fail) only[jk,Mis.pv_mk,List.map_cons,List.map_nil,List.nil_append,List.cons_append,push_cast,seval]
   ·omega
   ·intro i hi2
    by_cases hlt:i<vl.length
    ·have hltI:(i:Int)<vl.length:=by omega
     obtain⟨x,hx⟩:∃ x,vl[i]? = some x:=⟨_,List.getElem?_eq_getElem hlt⟩
     have hsn:=fT F hx
     have hl1:=hxl i
     have hl2:=hel x (List.mem_of_getElem? hx) i
     have hFx:F x i=eJ (aF n) e p x i:=by rw[hF]
     have hal:=jy p i
     have h91:=gP i (by omega)
     have hil:=cD i
     have hat:atT p i=p++(91::(eh i++[93])):=rfl
     have hxd:=d4 x (List.mem_of_getElem? hx)
     have hxo:=hv.2.2.2.2.2.1 x (List.mem_of_getElem? hx)
     generalize ixM F (vl.take i)=S at *
     by_cases he:e.length=1
     ·obtain⟨y,rfl⟩:=List.length_eq_one_iff.1 he
      have hyt:=t3 y (List.mem_singleton.2 rfl)
      rw[dt rfl] at hFx
      have hih:=ih y x (atT p i) hxd hyt hxo (by omega)
      rw[← hFx,hat] at hih
      have hma:=kt (F x i)
      generalize F x i=T at *
      obtain⟨y1,y2,y3,y4,y5,y6,y7⟩:=y
      obtain⟨x1,x2,x3,x4,x5,x6⟩:=x
      simp only[Typ.pv_mk,Val.pv_mk] at hih
      simp(disch:=first|exact dI|fail) only[hx,Val.pv_mk,Typ.pv_mk,push_cast,seval]
      refine ae.pure h91 rfl ?_
      simp(disch:=first|exact dI|fail) only[hx,Typ.pv_mk,Val.pv_mk,aK,List.getElem?_cons_zero,push_cast,seval]
      refine au hih rfl ?_
      simp(disch:=first|exact dI|fail) only[hma,push_cast,seval]
      exact⟨i+1,bl (by simp(disch:=first|exact dI|fail) only[hsn,List.map_append,List.append_assoc,push_cast,seval]),by omega,by omega⟩
     ·have heI:¬ (e.length:Int)=1:=by omega
      rw[du he,hat] at hFx
      simp(disch:=first|exact dI|fail) only[hx,Val.pv_mk,Typ.pv_mk,push_cast,seval]
      refine ae.pure h91 rfl ?_
      simp(disch:=first|exact dI|fail) only[push_cast,seval]
      exact⟨i+1,bl (by simp(disch:=first|exact dI|fail) only[hsn,hFx,List.map_append,List.append_assoc,Mis.pv_mk,List.map_cons,List.map_nil,push_cast,seval]),by omega,by omega⟩
    ·have hltI:¬ (i:Int)<vl.length:=by omega
     rw[cl hlt]
     simp(disch:=first|exact dI|fail) only[List.map_append,push_cast,seval]
  ·rw[fv (fun h=>h.elim h1 h2)]
   simp(disch:=first|exact dI|fail) only[F32,Typ.pv_mk,Val.pv_mk,push_cast,seval]
   refine az ([(7,0,79,2)]) (fun i:Nat=>[(7,.olist 0 2 (([]++ixM F (vl.take i)).map Mis.pv)),(8,.pv (.int .i64 (i:Int)))]) (fun i=>[]) (fun i=>i≤vl.length) (fun i=>vl.length - i) (0) ?_;intro e0 σ0 n0 h0;simp(disch:=first|exact dI|fail) only[push_cast,seval] at h0;obtain⟨rfl,rfl,rfl⟩:=h0;refine⟨?_,?_,?_⟩
   ·simp(disch:=first|exact dI|fail) only[jk,Mis.pv_mk,List.map_cons,List.map_nil,List.nil_append,List.cons_append,push_cast,seval]
   ·omega
   ·intro i hi2
    by_cases hlt:i<vl.length
    ·have hltI:(i:Int)<vl.length:=by omega
     obtain⟨x,hx⟩:∃ x,vl[i]? = some x:=⟨_,List.getElem?_eq_getElem hlt⟩
     have hsn:=fT F hx
     have hl1:=hxl i
     have hl2:=hel x (List.mem_of_getElem? hx) i
     have hFx:F x i=eJ (aF n) e p x i:=by rw[hF]
     have hal:=jy p i
     have h91:=gP i (by omega)
     have hil:=cD i
     have hat:atT p i=p++(91::(eh i++[93])):=rfl
     have hxd:=d4 x (List.mem_of_getElem? hx)
     have hxo:=hv.2.2.2.2.2.1 x (List.mem_of_getElem? hx)
     generalize ixM F (vl.take i)=S at *
     by_cases he:e.length=1
     ·obtain⟨y,rfl⟩:=List.length_eq_one_iff.1 he
      have hyt:=t3 y (List.mem_singleton.2 rfl)
      rw[dt rfl] at hFx
      have hih:=ih y x (atT p i) hxd hyt hxo (by omega)
      rw[← hFx,hat] at hih
      have hma:=kt (F x i)
      generalize F x i=T at *
      obtain⟨y1,y2,y3,y4,y5,y6,y7⟩:=y
      obtain⟨x1,x2,x3,x4,x5,x6⟩:=x
      simp only[Typ.pv_mk,Val.pv_mk] at hih
      simp(disch:=first|exact dI|fail) only[hx,Val.pv_mk,Typ.pv_mk,push_cast,seval]
      refine ae.pure h91 rfl ?_
      simp(disch:=first|exact dI|fail) only[hx,Typ.pv_mk,Val.pv_mk,aK,List.getElem?_cons_zero,push_cast,seval]
      refine au hih rfl ?_
      simp(disch:=first|exact dI|fail) only[hma,push_cast,seval]
      exact⟨i+1,bl (by simp(disch:=first|exact dI|fail) only[hsn,List.map_append,List.append_assoc,push_cast,seval]),by omega,by omega⟩
     ·have heI:¬ (e.length:Int)=1:=by omega
      rw[du he,hat] at hFx
      simp(disch:=first|exact dI|fail) only[hx,Val.pv_mk,Typ.pv_mk,push_cast,seval]
      refine ae.pure h91 rfl ?_
      simp(disch:=first|exact dI|fail) only[push_cast,seval]
      exact⟨i+1,bl (by simp(disch:=first|exact dI|fail) only[hsn,hFx,List.map_append,List.append_assoc,Mis.pv_mk,List.map_cons,List.map_nil,push_cast,seval]),by omega,by omega⟩
    ·have hltI:¬ (i:Int)<vl.length:=by omega
     rw[cl hlt]
     simp(disch:=first|exact dI|fail) only[List.map_append,push_cast,seval]
end Go.Proofs.YtedanlflegfomaaGreatDoor

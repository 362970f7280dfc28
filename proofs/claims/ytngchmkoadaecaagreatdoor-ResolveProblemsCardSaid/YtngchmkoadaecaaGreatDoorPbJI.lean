/- A part. -/
import Derived.Test.YtngchmkoadaecaaGreatDoorPbJTy
set_option linter.unusedVariables false
set_option linter.unusedSimpArgs false
set_option maxRecDepth 100000
open List renaming findIdx?_eq_none_iff->Yl,getElem?_of_mem->Yb,getElem?_eq_some_iff->WU,findIdx?_eq_some_iff_getElem->Yg,getElem?_eq_getElem->WT,mem_of_getElem?->WV,eq_nil_of_length_eq_zero->Xh,sizeOf_lt_of_mem->XS
open Nat renaming zero_le->XY,lt_or_ge->XF,lt_succ_self->XO
namespace Go.Proofs.YtngchmkoadaecaaGreatDoor
open Go Go.Ab
section
variable {α:Type}
theorem dE {l:List α}{q:α->Bool}(h:∀ (j:Nat) (x:α),j<l.length->l[j]? = some x->q x=false):l.findIdx? q=none:=by
 rw[Yl]
 intro x hx
 obtain⟨j,hj⟩:=Yb hx
 exact h j x (WU.1 hj).1 hj
theorem dD {l:List α}{q:α->Bool}{i:Nat}{x:α}(hx:l[i]? = some x)(hq:q x=true)(h:∀ (j:Nat) (x:α),j<i->l[j]? = some x->q x=false):l.findIdx? q=some i:=by
 rw[Yg]
 obtain⟨hlt,he⟩:=WU.1 hx
 refine⟨hlt,by rw[he];exact hq,fun j hj=>?_⟩
 have hj':j<l.length:=by omega
 simpa using h j _ hj (WT hj')
def bL:Option Nat->Int
 | some i=>i
 | none=>-1
def nk (o:Option Nat):Bool:=decide (0<=bL o)
end
theorem Oa (l:List Enp)(g:Nat)(cs:List PV)(q:Enp->Bool)(hq:∀ x∈l,ap Tryz.prog aC g (x.pv::cs) (.bool (q x)))(hmax:l.length<=maxLen) :
  ap Tryz.prog aC 106 [.list (l.map Enp.pv),.clo g [] cs] (.int .i64 (bL (l.findIdx? q))):=by
 have hm:l.length<=9223372036854775807:=by unfold maxLen at hmax;omega
 clear hmax
 refine ap.intro VC.2 (by simp[VC]) ?_
 simp(maxSteps:=9^7) (disch:=try exact dI) only[VC,push_cast,seval]
 refine au ([]) (fun i:Nat=>[(8,.pv (.int .i64 (i:Int)))]) (fun _=>[]) (fun i=>i<=l.length/\∀ j x,j<i->l[j]? = some x->q x=false) (fun i=>l.length - i) (0) ?_;intro e0 σ0 n0 h0;simp(maxSteps:=9^7) (disch:=try exact dI) only[push_cast,seval] at h0;obtain⟨rfl,rfl,rfl⟩:=h0;refine⟨?_,?_,?_⟩
 ·simp(maxSteps:=9^7) (disch:=try exact dI) only[push_cast,seval]
 ·exact⟨XY _,by omega⟩
 rintro i ⟨hi,hpre⟩
 by_cases hlt:i<l.length
 ·have hltI:(i:Int)<l.length:=by omega
  obtain⟨x,hx⟩:∃ x,l[i]? = some x:=⟨l[i],WT hlt⟩
  have hcall:=hq x (WV hx)
  simp(maxSteps:=9^7) (disch:=try exact dI) only[hx,Enp.cells_len,Enp.isAgg,push_cast,seval]
  refine ab.pure hcall (by rw[eE,fq];rfl) ?_
  simp(maxSteps:=9^7) (disch:=try exact dI) only[push_cast,seval]
  refine fu (fun hqx=>?_) (fun hqx=>?_)
  ·simp(maxSteps:=9^7) (disch:=try exact dI) only[push_cast,seval]
   rw[dD hx hqx hpre];exact .refl _
  ·simp(maxSteps:=9^7) (disch:=try exact dI) only[push_cast,seval]
   refine⟨i+1,aJ qsZ,⟨by omega,fun j x hj hjx=>?_⟩,by omega⟩
   rcases XF j i with h | h
   ·exact hpre j x h hjx
   ·have:j=i:=by omega
    subst this
    rw[hx] at hjx;cases hjx;exact hqx
 ·have hltI:¬ (i:Int)<l.length:=by omega
  simp(maxSteps:=9^7) (disch:=try exact dI) only[push_cast,seval]
  rw[dE (fun j x hj hjx=>hpre j x (by omega) hjx)];exact .refl _
theorem N9 (l:List Svc)(g:Nat)(cs:List PV)(q:Svc->Bool)(hq:∀ x∈l,ap Tryz.prog aC g (x.pv::cs) (.bool (q x)))(hmax:l.length<=maxLen) :
  ap Tryz.prog aC 139 [.list (l.map Svc.pv),.clo g [] cs] (.int .i64 (bL (l.findIdx? q))):=by
 have hm:l.length<=9223372036854775807:=by unfold maxLen at hmax;omega
 clear hmax
 refine ap.intro Vu.2 (by simp[Vu]) ?_
 simp(maxSteps:=9^7) (disch:=try exact dI) only[Vu,push_cast,seval]
 refine au ([]) (fun i:Nat=>[(8,.pv (.int .i64 (i:Int)))]) (fun _=>[]) (fun i=>i<=l.length/\∀ j x,j<i->l[j]? = some x->q x=false) (fun i=>l.length - i) (0) ?_;intro e0 σ0 n0 h0;simp(maxSteps:=9^7) (disch:=try exact dI) only[push_cast,seval] at h0;obtain⟨rfl,rfl,rfl⟩:=h0;refine⟨?_,?_,?_⟩
 ·simp(maxSteps:=9^7) (disch:=try exact dI) only[push_cast,seval]
 ·exact⟨XY _,by omega⟩
 rintro i ⟨hi,hpre⟩
 by_cases hlt:i<l.length
 ·have hltI:(i:Int)<l.length:=by omega
  obtain⟨x,hx⟩:∃ x,l[i]? = some x:=⟨l[i],WT hlt⟩
  have hcall:=hq x (WV hx)
  simp(maxSteps:=9^7) (disch:=try exact dI) only[hx,Svc.cells_len,Svc.isAgg,push_cast,seval]
  refine ab.pure hcall (by rw[eE,fq];rfl) ?_
  simp(maxSteps:=9^7) (disch:=try exact dI) only[push_cast,seval]
  refine fu (fun hqx=>?_) (fun hqx=>?_)
  ·simp(maxSteps:=9^7) (disch:=try exact dI) only[push_cast,seval]
   rw[dD hx hqx hpre];exact .refl _
  ·simp(maxSteps:=9^7) (disch:=try exact dI) only[push_cast,seval]
   refine⟨i+1,aJ qsZ,⟨by omega,fun j x hj hjx=>?_⟩,by omega⟩
   rcases XF j i with h | h
   ·exact hpre j x h hjx
   ·have:j=i:=by omega
    subst this
    rw[hx] at hjx;cases hjx;exact hqx
 ·have hltI:¬ (i:Int)<l.length:=by omega
  simp(maxSteps:=9^7) (disch:=try exact dI) only[push_cast,seval]
  rw[dE (fun j x hj hjx=>hpre j x (by omega) hjx)];exact .refl _
theorem N8 (l:List Sch)(g:Nat)(cs:List PV)(q:Sch->Bool)(hq:∀ x∈l,ap Tryz.prog aC g (x.pv::cs) (.bool (q x)))(hmax:l.length<=maxLen) :
  ap Tryz.prog aC 126 [.list (l.map Sch.pv),.clo g [] cs] (.int .i64 (bL (l.findIdx? q))):=by
 have hm:l.length<=9223372036854775807:=by unfold maxLen at hmax;omega
 clear hmax
 refine ap.intro Vy.2 (by simp[Vy]) ?_
 simp(maxSteps:=9^7) (disch:=try exact dI) only[Vy,push_cast,seval]
 refine au ([]) (fun i:Nat=>[(8,.pv (.int .i64 (i:Int)))]) (fun _=>[]) (fun i=>i<=l.length/\∀ j x,j<i->l[j]? = some x->q x=false) (fun i=>l.length - i) (0) ?_;intro e0 σ0 n0 h0;simp(maxSteps:=9^7) (disch:=try exact dI) only[push_cast,seval] at h0;obtain⟨rfl,rfl,rfl⟩:=h0;refine⟨?_,?_,?_⟩
 ·simp(maxSteps:=9^7) (disch:=try exact dI) only[push_cast,seval]
 ·exact⟨XY _,by omega⟩
 rintro i ⟨hi,hpre⟩
 by_cases hlt:i<l.length
 ·have hltI:(i:Int)<l.length:=by omega
  obtain⟨x,hx⟩:∃ x,l[i]? = some x:=⟨l[i],WT hlt⟩
  have hcall:=hq x (WV hx)
  simp(maxSteps:=9^7) (disch:=try exact dI) only[hx,Sch.cells_len,Sch.isAgg,push_cast,seval]
  refine ab.pure hcall (by rw[eE,fq];rfl) ?_
  simp(maxSteps:=9^7) (disch:=try exact dI) only[push_cast,seval]
  refine fu (fun hqx=>?_) (fun hqx=>?_)
  ·simp(maxSteps:=9^7) (disch:=try exact dI) only[push_cast,seval]
   rw[dD hx hqx hpre];exact .refl _
  ·simp(maxSteps:=9^7) (disch:=try exact dI) only[push_cast,seval]
   refine⟨i+1,aJ qsZ,⟨by omega,fun j x hj hjx=>?_⟩,by omega⟩
   rcases XF j i with h | h
   ·exact hpre j x h hjx
   ·have:j=i:=by omega
    subst this
    rw[hx] at hjx;cases hjx;exact hqx
 ·have hltI:¬ (i:Int)<l.length:=by omega
  simp(maxSteps:=9^7) (disch:=try exact dI) only[push_cast,seval]
  rw[dE (fun j x hj hjx=>hpre j x (by omega) hjx)];exact .refl _
theorem Ob (l:List Bra)(g:Nat)(cs:List PV)(q:Bra->Bool)(hq:∀ x∈l,ap Tryz.prog aC g (x.pv::cs) (.bool (q x)))(hmax:l.length<=maxLen) :
  ap Tryz.prog aC 101 [.list (l.map Bra.pv),.clo g [] cs] (.int .i64 (bL (l.findIdx? q))):=by
 have hm:l.length<=9223372036854775807:=by unfold maxLen at hmax;omega
 clear hmax
 refine ap.intro Tb.2 (by simp[Tb]) ?_
 simp(maxSteps:=9^7) (disch:=try exact dI) only[Tb,push_cast,seval]
 refine au ([]) (fun i:Nat=>[(8,.pv (.int .i64 (i:Int)))]) (fun _=>[]) (fun i=>i<=l.length/\∀ j x,j<i->l[j]? = some x->q x=false) (fun i=>l.length - i) (0) ?_;intro e0 σ0 n0 h0;simp(maxSteps:=9^7) (disch:=try exact dI) only[push_cast,seval] at h0;obtain⟨rfl,rfl,rfl⟩:=h0;refine⟨?_,?_,?_⟩
 ·simp(maxSteps:=9^7) (disch:=try exact dI) only[push_cast,seval]
 ·exact⟨XY _,by omega⟩
 rintro i ⟨hi,hpre⟩
 by_cases hlt:i<l.length
 ·have hltI:(i:Int)<l.length:=by omega
  obtain⟨x,hx⟩:∃ x,l[i]? = some x:=⟨l[i],WT hlt⟩
  have hcall:=hq x (WV hx)
  simp(maxSteps:=9^7) (disch:=try exact dI) only[hx,Bra.cells_len,Bra.isAgg,push_cast,seval]
  refine ab.pure hcall (by rw[eE,fq];rfl) ?_
  simp(maxSteps:=9^7) (disch:=try exact dI) only[push_cast,seval]
  refine fu (fun hqx=>?_) (fun hqx=>?_)
  ·simp(maxSteps:=9^7) (disch:=try exact dI) only[push_cast,seval]
   rw[dD hx hqx hpre];exact .refl _
  ·simp(maxSteps:=9^7) (disch:=try exact dI) only[push_cast,seval]
   refine⟨i+1,aJ qsZ,⟨by omega,fun j x hj hjx=>?_⟩,by omega⟩
   rcases XF j i with h | h
   ·exact hpre j x h hjx
   ·have:j=i:=by omega
    subst this
    rw[hx] at hjx;cases hjx;exact hqx
 ·have hltI:¬ (i:Int)<l.length:=by omega
  simp(maxSteps:=9^7) (disch:=try exact dI) only[push_cast,seval]
  rw[dE (fun j x hj hjx=>hpre j x (by omega) hjx)];exact .refl _
theorem Us (l:List Enp)(g:Nat)(cs:List PV)(q:Enp->Bool)(hq:∀ x∈l,ap Tryz.prog aC g (x.pv::cs) (.bool (q x)))(hmax:l.length<=maxLen) :
  ap Tryz.prog aC 83 [.list (l.map Enp.pv),.clo g [] cs] (.tup [.int .i64 (max (bL (l.findIdx? q)) 0),.bool (nk (l.findIdx? q))]):=by
 refine ap.intro Q83.2 (by simp[Q83]) ?_
 simp(maxSteps:=9^7) (disch:=try exact dI) only[Q83,push_cast,seval]
 refine ab.pure (Oa l g cs q hq hmax) rfl ?_
 simp(maxSteps:=9^7) (disch:=try exact dI) only[nk,push_cast,seval]
theorem Ur (l:List Svc)(g:Nat)(cs:List PV)(q:Svc->Bool)(hq:∀ x∈l,ap Tryz.prog aC g (x.pv::cs) (.bool (q x)))(hmax:l.length<=maxLen) :
  ap Tryz.prog aC 128 [.list (l.map Svc.pv),.clo g [] cs] (.tup [.int .i64 (max (bL (l.findIdx? q)) 0),.bool (nk (l.findIdx? q))]):=by
 refine ap.intro Vx.2 (by simp[Vx]) ?_
 simp(maxSteps:=9^7) (disch:=try exact dI) only[Vx,push_cast,seval]
 refine ab.pure (N9 l g cs q hq hmax) rfl ?_
 simp(maxSteps:=9^7) (disch:=try exact dI) only[nk,push_cast,seval]
theorem Uq (l:List Sch)(g:Nat)(cs:List PV)(q:Sch->Bool)(hq:∀ x∈l,ap Tryz.prog aC g (x.pv::cs) (.bool (q x)))(hmax:l.length<=maxLen) :
  ap Tryz.prog aC 103 [.list (l.map Sch.pv),.clo g [] cs] (.tup [.int .i64 (max (bL (l.findIdx? q)) 0),.bool (nk (l.findIdx? q))]):=by
 refine ap.intro VE.2 (by simp[VE]) ?_
 simp(maxSteps:=9^7) (disch:=try exact dI) only[VE,push_cast,seval]
 refine ab.pure (N8 l g cs q hq hmax) rfl ?_
 simp(maxSteps:=9^7) (disch:=try exact dI) only[nk,push_cast,seval]
theorem UK (x:Enp)(name:List UInt8):ap Tryz.prog aC 84 [x.pv,.eptr [.str name] 0 0] (.bool (decide (x.name=name))):=by
 obtain⟨nm,kk,sc,ve,fo⟩:=x
 obtain⟨f1,f2,f3⟩:=fo
 refine ap.intro Q84.2 (by simp[Q84]) ?_
 simp(maxSteps:=9^7) (disch:=try exact dI) only[Q84,Wm,Ws,push_cast,seval]
 rfl
theorem Rp (p:Prg)(name:List UInt8)(hp:p.ok):ap Tryz.prog aC 30 [p.pv,.str name] (.tup [.int .i64 (max (bL (p.endpoints.findIdx? fun x=>decide (x.name=name))) 0),.bool (nk (p.endpoints.findIdx? fun x=>decide (x.name=name)))]):=by
 obtain⟨v,ss,es,ws,rs⟩:=p
 rw[Wu] at hp
 refine ap.intro Q30.2 (by simp[Q30]) ?_
 simp(maxSteps:=9^7) (disch:=try exact dI) only[Q30,Wv,push_cast,seval]
 refine ab.pure (Us _ 84 [.eptr [.str name] 0 0] _ (fun x _=>UK x name) (by obtain⟨_,q1,_,q2,_,q3,_,q4,_⟩:=hp;unfold maxLen;omega)) rfl ?_
 simp(maxSteps:=9^7) (disch:=try exact dI) only[push_cast,seval]
 exact⟨rfl,rfl⟩
theorem UJ (x:Svc)(name:List UInt8):ap Tryz.prog aC 129 [x.pv,.eptr [.str name] 0 0] (.bool (decide (x.name=name))):=by
 obtain⟨nm,rq,rp,un⟩:=x
 refine ap.intro Vw.2 (by simp[Vw]) ?_
 simp(maxSteps:=9^7) (disch:=try exact dI) only[Vw,WH,push_cast,seval]
 rfl
theorem Ro (p:Prg)(name:List UInt8)(hp:p.ok):ap Tryz.prog aC 109 [p.pv,.str name] (.tup [.int .i64 (max (bL (p.services.findIdx? fun x=>decide (x.name=name))) 0),.bool (nk (p.services.findIdx? fun x=>decide (x.name=name)))]):=by
 obtain⟨v,ss,es,ws,rs⟩:=p
 rw[Wu] at hp
 refine ap.intro VA.2 (by simp[VA]) ?_
 simp(maxSteps:=9^7) (disch:=try exact dI) only[VA,Wv,push_cast,seval]
 refine ab.pure (Ur _ 129 [.eptr [.str name] 0 0] _ (fun x _=>UJ x name) (by obtain⟨_,q1,_,q2,_,q3,_,q4,_⟩:=hp;unfold maxLen;omega)) rfl ?_
 simp(maxSteps:=9^7) (disch:=try exact dI) only[push_cast,seval]
 exact⟨rfl,rfl⟩
section
variable {α:Type}
end
mutual
def de:Stp->Bool
 | .mk _ kind _ _ _ _ _ _ _ _ br=>if kind=13 then true else if kind=14 then true else if kind=11 then (!br.isEmpty&&PH br) else if kind=12 then (!br.isEmpty&&PH br) else false
def PH:List Bra->Bool
 | []=>true
 | b::r=>Rq b&&PH r
def Rq:Bra->Bool
 | .mk _ l=>d8 l
def d8:List Stp->Bool
 | []=>false
 | s::r=>if r.isEmpty then de s else d8 r
end
theorem pN (l:List Bra)(q:Bra->Bool)(hq:∀ x∈l,ap Tryz.prog aC 50 [x.pv] (.bool (q x)))(hmax:l.length<=maxLen) :
  ap Tryz.prog aC 49 [.list (l.map Bra.pv),.clo 50 [] []] (.bool (l.any q)):=by
 refine ap.intro Q49.2 (by simp[Q49]) ?_
 simp(maxSteps:=9^7) (disch:=try exact dI) only[Q49,push_cast,seval]
 refine ab.pure (Ob l 50 [] q hq hmax) rfl ?_
 simp(maxSteps:=9^7) (disch:=try exact dI) only[Bra.cells_len,Bra.isAgg,push_cast,seval]
 cases h:l.findIdx? q with
 | none=>
   rw[Yl] at h
   have:l.any q=false:=by
    rw[List.any_eq_false]
    intro x hx;simpa using h x hx
   rw[this];simp only[bL];exact .refl _
 | some i=>
   rw[Yg] at h
   obtain⟨hlt,hqi,_⟩:=h
   have:l.any q=true:=List.any_eq_true.2 ⟨_,List.getElem_mem hlt,hqi⟩
   rw[this]
   simp[bL]
theorem CH (b:Bra)(h:ap Tryz.prog aC 25 [.list (b.steps.map Stp.pv)] (.bool (d8 b.steps))):ap Tryz.prog aC 50 [b.pv] (.bool (!d8 b.steps)):=by
 obtain⟨w,l⟩:=b
 rw[Wh]
 refine ap.intro Q50.2 (by simp[Q50]) ?_
 simp(maxSteps:=9^7) (disch:=try exact dI) only[Q50,push_cast,seval]
 refine ab.pure h rfl ?_
 simp(maxSteps:=9^7) (disch:=try exact dI) only[push_cast,seval]
theorem tz:∀ (k:List Bra),PH k=k.all fun b=>d8 b.steps
 | []=>by simp[PH]
 | b::r=>by
   obtain⟨w,l⟩:=b
   rw[PH,tz r,Rq];rfl
def yW:Option Stp->Bool
 | some s=>de s
 | none=>false
theorem sU:∀ l:List Stp,d8 l=yW l.getLast?
 | []=>by simp[d8,yW]
 | [s]=>by simp[d8,yW]
 | s::t::r=>by
   rw[d8]
   simp only[List.isEmpty_cons,Bool.false_eq_true,if_false]
   rw[sU (t::r)]
   simp
theorem VS {l:List Stp}(h:l.length*176<=140737488351232):l.length<=9223372036854775807:=by omega
theorem KQ (l:List Stp)(hm:l.length*176<=140737488351232)(h:∀ s∈l,ap Tryz.prog aC 26 [s.pv] (.bool (de s))):ap Tryz.prog aC 25 [.list (l.map Stp.pv)] (.bool (d8 l)):=by
 have hm':=VS hm
 refine ap.intro Q25.2 (by simp[Q25]) ?_
 by_cases h0:l.length=0
 ·have:l=[]:=Xh h0
  subst this
  simp(maxSteps:=9^7) (disch:=try exact dI) only[Q25,d8,push_cast,seval]
 ·obtain⟨s,hs⟩:∃ s,l[l.length - 1]? = some s:=⟨l[l.length - 1],WT (by omega)⟩
  have hcall:=h s (WV hs)
  have hf:d8 l=de s:=by rw[sU,List.getLast?_eq_getElem?,hs];rfl
  have hsI:l[((l.length:Int) - 1).toNat]? = some s:=by rw[show ((l.length:Int) - 1).toNat=l.length - 1 by omega,hs]
  have hlen:(0:Int)<l.length:=by omega
  simp(maxSteps:=9^7) (disch:=try exact dI) only[Q25,ow,hsI,Stp.cells_len,Stp.isAgg,push_cast,seval]
  refine ab.pure hcall rfl ?_
  simp(maxSteps:=9^7) (disch:=try exact dI) only[hf,push_cast,seval]
theorem OB (s:Stp)(hm:s.ok)(h:∀ b∈s.branches,ap Tryz.prog aC 25 [.list (b.steps.map Stp.pv)] (.bool (d8 b.steps))):ap Tryz.prog aC 26 [s.pv] (.bool (de s)):=by
 obtain⟨a,kind,c,d,e,f,g,i,j,k,m⟩:=s
 rw[WE] at hm
 simp only[Stp.branches] at h
 have hml:m.length<=9223372036854775807:=by have:=hm.2.2.2.2.2.2.2.2.2.2.2.2.2.1;omega
 have hcall:=pN m (fun b=>!d8 b.steps) (fun b hb=>CH b (h b hb)) (by have:=hm.2.2.2.2.2.2.2.2.2.2.2.2.2.1;unfold maxLen;omega)
 rw[WF,de,tz]
 refine ap.intro Q26.2 (by simp[Q26]) ?_
 by_cases h13:kind=13
 ·simp(maxSteps:=9^7) (disch:=try exact dI) only[Q26,h13,push_cast,seval]
 by_cases h14:kind=14
 ·simp(maxSteps:=9^7) (disch:=try exact dI) only[Q26,h13,h14,push_cast,seval]
 have hex:∀ q:Bool,(kind=11\/kind=12)->(if kind=13 then true else if kind=14 then true else if kind=11 then q else if kind=12 then q else false)=q:=by
  intro q hk
  rw[if_neg h13,if_neg h14]
  rcases hk with h | h
  ·rw[if_pos h]
  ·rw[if_neg (by omega),if_pos h]
 by_cases h1112:kind=11\/kind=12
 ·rw[hex _ h1112]
  by_cases h0:m.length=0
  ·have:m=[]:=Xh h0
   subst this
   rcases h1112 with hk | hk
   ·simp(maxSteps:=9^7) (disch:=try exact dI) only[Q26,hk,push_cast,seval]
    simp
   ·simp(maxSteps:=9^7) (disch:=try exact dI) only[Q26,hk,push_cast,seval]
    simp
  ·have hpos:(0:Int)<m.length:=by omega
   have hne:m.isEmpty=false:=by cases m<;>simp at h0 ⊢
   have hnn:(!m.any fun b=>!d8 b.steps)=m.all fun b=>d8 b.steps:=by simp[List.all_eq_not_any_not]
   rcases h1112 with hk | hk
   ·simp(maxSteps:=9^7) (disch:=try exact dI) only[Q26,hk,push_cast,seval]
    refine ab.pure hcall rfl ?_
    simp(maxSteps:=9^7) (disch:=try exact dI) only[hne,hnn,push_cast,seval]
   ·simp(maxSteps:=9^7) (disch:=try exact dI) only[Q26,hk,push_cast,seval]
    refine ab.pure hcall rfl ?_
    simp(maxSteps:=9^7) (disch:=try exact dI) only[hne,hnn,push_cast,seval]
 ·have h11:¬ kind=11:=fun h=>h1112 (.inl h)
  have h12:¬ kind=12:=fun h=>h1112 (.inr h)
  simp(maxSteps:=9^7) (disch:=try exact dI) only[Q26,h11,h12,h13,h14,push_cast,seval]
theorem uR:∀ (N:Nat) (s:Stp),SizeOf.sizeOf s<N->s.ok->ap Tryz.prog aC 26 [s.pv] (.bool (de s))/\∀ b∈s.branches,ap Tryz.prog aC 25 [.list (b.steps.map Stp.pv)] (.bool (d8 b.steps))
 | 0,s,h,_=>absurd h (by omega)
 | N+1,s,h,hs=>by
   have hb:∀ b∈s.branches,ap Tryz.prog aC 25 [.list (b.steps.map Stp.pv)] (.bool (d8 b.steps)):=by
    intro b hb
    obtain⟨a,kind,c,d,e,f,g,i,j,k,m⟩:=s
    rw[WE] at hs
    simp only[Stp.branches] at hb
    have hbo:=hs.2.2.2.2.2.2.2.2.2.2.2.2.2.2 b hb
    have h1:=XS hb
    obtain⟨w,l⟩:=b
    rw[Wg] at hbo
    refine KQ l hbo.2.2.1 fun x hx=>(uR N x ?_ (hbo.2.2.2 x hx)).1
    have h2:=XS hx
    simp only[Bra.mk.sizeOf_spec,Stp.mk.sizeOf_spec] at h h1
    omega
   exact⟨OB s hs hb,hb⟩
theorem En (s:Stp)(hs:s.ok):ap Tryz.prog aC 26 [s.pv] (.bool (de s)):=(uR _ s (XO _) hs).1
theorem yK (l:List Stp)(hl:okL l):ap Tryz.prog aC 25 [.list (l.map Stp.pv)] (.bool (d8 l)):=KQ l hl.1 fun s hs=>En s (hl.2 s hs)
theorem Pb {l:List Bra}(h:∀ (j:Nat) (x:Bra),j<l.length->l[j]? = some x->d8 x.steps=true):(l.all fun b=>d8 b.steps)=true:=by
 rw[List.all_eq_true]
 intro x hx
 obtain⟨j,hj⟩:=Yb hx
 exact h j x (WU.1 hj).1 hj
theorem OF (s:Stp)(hm:s.ok)(hq:∀ b∈s.branches,ap Tryz.prog aC 16 [.list (b.steps.map Stp.pv)] (.bool (d8 b.steps))):ap Tryz.prog aC 45 [s.pv] (.bool (de s)):=by
 obtain⟨a,kind,c,d,e,f,g,i,j,k,m⟩:=s
 rw[WE] at hm
 simp only[Stp.branches] at hq
 have hml:m.length<=9223372036854775807:=by have:=hm.2.2.2.2.2.2.2.2.2.2.2.2.2.1;omega
 rw[WF,de,tz]
 refine ap.intro Q45.2 (by simp[Q45]) ?_
 by_cases h13:kind=13
 ·simp(maxSteps:=9^7) (disch:=try exact dI) only[Q45,h13,push_cast,seval]
 by_cases h14:kind=14
 ·simp(maxSteps:=9^7) (disch:=try exact dI) only[Q45,h13,h14,push_cast,seval]
 by_cases h1112:kind=11\/kind=12
 ·have hex:∀ q:Bool,(if kind=13 then true else if kind=14 then true else if kind=11 then q else if kind=12 then q else false)=q:=by
   intro q
   rw[if_neg h13,if_neg h14]
   rcases h1112 with h | h
   ·rw[if_pos h]
   ·rw[if_neg (by omega),if_pos h]
  rw[hex]
  by_cases h0:m.length=0
  ·have:m=[]:=Xh h0
   subst this
   rcases h1112 with hk | hk
   ·simp(maxSteps:=9^7) (disch:=try exact dI) only[Q45,hk,push_cast,seval]
    simp
   ·simp(maxSteps:=9^7) (disch:=try exact dI) only[Q45,hk,push_cast,seval]
    simp
  ·have hpos:(0:Int)<m.length:=by omega
   have hne:m.isEmpty=false:=by cases m<;>simp at h0 ⊢
   rcases h1112 with hk | hk
   all_goals
    simp(maxSteps:=9^7) (disch:=try exact dI) only[Q45,hk,push_cast,seval]
    refine au ([]) (fun q:Nat=>[(3,.pv (.int .i64 (q:Int)))]) (fun _=>[]) (fun q=>q<=m.length/\∀ j x,j<q->m[j]? = some x->d8 x.steps=true) (fun q=>m.length - q) (0) ?_;intro e0 σ0 n0 h0;simp(maxSteps:=9^7) (disch:=try exact dI) only[push_cast,seval] at h0;obtain⟨rfl,rfl,rfl⟩:=h0;refine⟨?_,?_,?_⟩
    ·simp(maxSteps:=9^7) (disch:=try exact dI) only[push_cast,seval]
    ·exact⟨XY _,by omega⟩
    rintro q ⟨hqm,hpre⟩
    by_cases hlt:q<m.length
    ·have hltI:(q:Int)<m.length:=by omega
     obtain⟨x,hx⟩:∃ x,m[q]? = some x:=⟨m[q],WT (by omega)⟩
     have hcx:=hq x (WV hx)
     have hfin:∀ y,m[q]? = some y->d8 x.steps=true->d8 y.steps=true:=fun y hy hfx=>by rw[hx] at hy;cases hy;exact hfx
     have hex2:d8 x.steps=false->(m.all fun b=>d8 b.steps)=false:=fun hfx=>by
      rw[List.all_eq_false]
      exact⟨x,WV hx,by simp[hfx]⟩
     obtain⟨x1,x2⟩:=x
     simp only[Bra.steps] at hcx hfin
     simp(maxSteps:=9^7) (disch:=try exact dI) only[hx,Wh,push_cast,seval]
     refine ab.pure hcx rfl ?_
     simp(maxSteps:=9^7) (disch:=try exact dI) only[push_cast,seval]
     cases hfx:d8 x2 with
     | true=>
       simp(maxSteps:=9^7) (disch:=try exact dI) only[push_cast,seval]
       refine⟨q+1,aJ qsZ,⟨by omega,fun j y hj hjy=>?_⟩,by omega⟩
       rcases XF j q with h | h
       ·exact hpre j y h hjy
       ·have:j=q:=by omega
        subst this
        exact hfin y hjy hfx
     | false=>
       simp(maxSteps:=9^7) (disch:=try exact dI) only[push_cast,seval]
       rw[hex2 (by exact hfx),hne];simp
    ·have hltI:¬ (q:Int)<m.length:=by omega
     simp(maxSteps:=9^7) (disch:=try exact dI) only[push_cast,seval]
     rw[Pb (fun j x hj hjx=>hpre j x (by omega) hjx),hne];exact .refl _
 ·have h11:¬ kind=11:=fun h=>h1112 (.inl h)
  have h12:¬ kind=12:=fun h=>h1112 (.inr h)
  simp(maxSteps:=9^7) (disch:=try exact dI) only[Q45,h11,h12,h13,h14,push_cast,seval]
theorem Ec (l:List Stp)(hm:l.length*176<=140737488351232)(h:∀ s∈l,ap Tryz.prog aC 45 [s.pv] (.bool (de s))):ap Tryz.prog aC 16 [.list (l.map Stp.pv)] (.bool (d8 l)):=by
 have hm':=VS hm
 refine ap.intro Q16.2 (by simp[Q16]) ?_
 by_cases h0:l.length=0
 ·have:l=[]:=Xh h0
  subst this
  simp(maxSteps:=9^7) (disch:=try exact dI) only[Q16,d8,push_cast,seval]
 ·obtain⟨s,hs⟩:∃ s,l[l.length - 1]? = some s:=⟨l[l.length - 1],WT (by omega)⟩
  have hcall:=h s (WV hs)
  have hf:d8 l=de s:=by rw[sU,List.getLast?_eq_getElem?,hs];rfl
  have hsI:l[((l.length:Int) - 1).toNat]? = some s:=by rw[show ((l.length:Int) - 1).toNat=l.length - 1 by omega,hs]
  have hlen:(0:Int)<l.length:=by omega
  simp(maxSteps:=9^7) (disch:=try exact dI) only[Q16,ow,hsI,Stp.cells_len,Stp.isAgg,push_cast,seval]
  refine ab.pure hcall rfl ?_
  simp(maxSteps:=9^7) (disch:=try exact dI) only[hf,push_cast,seval]
theorem uT:∀ (N:Nat) (s:Stp),SizeOf.sizeOf s<N->s.ok->ap Tryz.prog aC 45 [s.pv] (.bool (de s))
 | 0,s,h,_=>absurd h (by omega)
 | N+1,s,h,hs=>by
   refine OF s hs fun b hb=>?_
   obtain⟨a,kind,c,d,e,f,g,i,j,k,m⟩:=s
   rw[WE] at hs
   simp only[Stp.branches] at hb
   have hbo:=hs.2.2.2.2.2.2.2.2.2.2.2.2.2.2 b hb
   have h1:=XS hb
   obtain⟨w,l⟩:=b
   rw[Wg] at hbo
   refine Ec l hbo.2.2.1 fun x hx=>uT N x ?_ (hbo.2.2.2 x hx)
   have h2:=XS hx
   simp only[Bra.mk.sizeOf_spec,Stp.mk.sizeOf_spec] at h h1
   omega
theorem Em (s:Stp)(hs:s.ok):ap Tryz.prog aC 45 [s.pv] (.bool (de s)):=uT _ s (XO _) hs
theorem yN (l:List Stp)(hl:okL l):ap Tryz.prog aC 16 [.list (l.map Stp.pv)] (.bool (d8 l)):=Ec l hl.1 fun s hs=>Em s (hl.2 s hs)

/- A part of the proof for FixedwidthRepresentableCardSaid. -/
import Derived.Test.YtbojpfpliibfbaaGreatDoorReRU9
set_option maxRecDepth 100000
set_option linter.unusedVariables false
set_option linter.unusedSimpArgs false
-- many steps
namespace Go.Proofs.YtbojpfpliibfbaaGreatDoor
open Go Go.Ab
attribute [local irreducible] vc
theorem qW {v:Val}(h:fu v=0):(a8 v).length≤256:=by
 unfold fu at h
 split at h
 ·cases h
 split at h
 ·cases h
 split at h
 ·cases h
 obtain⟨k,n,s,t,l,f⟩:=v
 by_cases h8:k=8
 ·subst h8
  rw[bP (v:=.mk 8 n s t l f) (.inl rfl)]
  rw[show bu (.mk 8 n s t l f)=cm l.length 256 9 from rfl] at h
  simp only[Val.lst]
  unfold cm at h
  split at h
  ·cases h
  ·omega
 by_cases h10:k=10
 ·subst h10
  rw[bP (v:=.mk 10 n s t l f) (.inr rfl)]
  rw[show bu (.mk 10 n s t l f)=(if bM t=false then 12 else if l.length=0 then 4 else cm l.length 1 3) from rfl] at h
  simp only[Val.lst]
  split at h
  ·cases h
  split at h
  ·cases h
  unfold cm at h
  split at h
  ·cases h
  ·omega
 by_cases h9:k=9
 ·subst h9
  rw[cB (v:=.mk 9 n s t l f) rfl]
  rw[show bu (.mk 9 n s t l f)=(if cm f.length 64 9=0 then d7 none (f.map Fld.name) else cm f.length 64 9) from rfl] at h
  simp only[Val.fields,List.length_map]
  split at h
  ·rename_i hm
   unfold cm at hm
   split at hm
   ·cases hm
   ·omega
  ·rename_i hm;exact absurd h hm
 ·rw[dB (v:=.mk k n s t l f) (by simp only[Val.kind];omega) h9];simp
set_option maxHeartbeats 4000000 in
theorem xp (N:Nat)(v:Val)(hd:cL (N+1) v)(hv:v.ok):ag Tryz.prog aD 188 [v.pv] (.int .i64 (gY 0 (cy (N+1) 1 v))):=by
 obtain⟨R,hR⟩:∃ R,R=gY 0 (cy (N+1) 1 v):=⟨_,rfl⟩
 rw[← hR]
 have hS:gy (N+1) [(1,v)]=cy (N+1) 1 v:=by simp[gy]
 obtain⟨k,n,s,t,l,f⟩:=v
 refine ag.intro G8 (by simp[Na]) ?_
 simp(maxSteps:=9^7) (disch:=try exact dI) only[Na,Val.pv_mk,push_cast,seval]
 refine aw ([]) (fun x:List (Int×Val)×Nat×List PV=>[(3,.row 0 7 0 x.1.length),(4,.pv (.int .i64 (x.2.1:Int)))]) (fun x=>[(0,.cells 234 false ((nk x.1++x.2.2).map AV.pv))]) (fun x=>x.2.1≤4096∧x.1.length≤1+256*x.2.1∧R=gY x.2.1 (gy (N+1) x.1)∧∀ q∈x.1,cL (N+1) q.2∧q.2.ok∧0≤q.1) (fun x=>4097 - x.2.1) (([(1,.mk k n s t l f)],0,[])) ?_;intro e0 σ0 n0 h0;simp(maxSteps:=9^7) (disch:=try exact dI) only[push_cast,seval] at h0;obtain⟨rfl,rfl,rfl⟩:=h0;refine⟨?_,?_,?_⟩
 ·simp(maxSteps:=9^7) (disch:=try exact dI) only[fj,iK,push_cast,seval]
 ·exact⟨by simp,by simp,by rw[hS];exact hR,fun q hq=>by rw[List.mem_singleton.1 hq];exact⟨hd,hv,by simp⟩⟩
 rintro⟨S,c,J⟩ ⟨hc,hsl,hr,hq⟩
 simp only at hc hsl hr hq
 rcases List.eq_nil_or_concat S with rfl | ⟨S',q,rfl⟩
 ·simp only[gy,List.reverse_nil,List.flatMap_nil,gY] at hr
  subst hr
  simp(maxSteps:=9^7) (disch:=try exact dI) only[Int.lt_irrefl,push_cast,seval]
  done
 rw[List.concat_eq_append] at *
 rw[Cf N S' q c (hq q (by simp)).1,zc] at hr
 have hlen:(((S'++[q]).length:Nat):Int)=(S'.length:Int)+1:=by simp
 have hsl':S'.length≤256*c:=by simp at hsl;omega
 have hpl:=uO S' q J
 obtain⟨lv,⟨qk,qn,qs,qt,ql,qf⟩⟩:=q
 simp only[iK] at hpl
 have hpos:(0:Int)<(S'.length:Int)+1:=by omega
 simp(maxSteps:=9^7) (disch:=try exact dI) only[hlen,hpos,hpl,List.length_append,push_cast,seval]
 have hown:=IG (.mk qk qn qs qt ql qf)
 have hqd:=(hq (lv,.mk qk qn qs qt ql qf) (by simp)).1
 have hqo:=(hq (lv,.mk qk qn qs qt ql qf) (by simp)).2.1
 have hql:0≤lv:=(hq (lv,.mk qk qn qs qt ql qf) (by simp)).2.2
 by_cases h1:4096≤c
 ·have h1I:(4096:Int)≤(c:Int):=by omega
  rw[if_pos h1,if_neg (by decide)] at hr
  subst hr
  simp(maxSteps:=9^7) (disch:=try exact dI) only[h1I,decide_eq_true h1I,push_cast,seval]
 have h1I:¬ (4096:Int)≤(c:Int):=by omega
 rw[if_neg h1] at hr
 by_cases h2:8<lv
 ·rw[if_pos h2,if_neg (by decide)] at hr
  subst hr
  simp(maxSteps:=9^7) (disch:=try exact dI) only[decide_eq_false h1I,decide_eq_true h2,push_cast,seval]
 rw[if_neg h2] at hr
 have hp4:=qW (v:=.mk qk qn qs qt ql qf)
 simp only[] at hr
 generalize fu (.mk qk qn qs qt ql qf)=z at hown hr hp4
 simp only[Val.pv_mk] at hown
 by_cases hz:z=0
 ·subst hz
  rw[if_pos rfl] at hr
  have hpl':=hp4 rfl
  have hpt:=oQ (.mk qk qn qs qt ql qf) (by rw[Val.ok_mk] at hqo;exact hqo.2.2.2.2.1) (by rw[Val.ok_mk] at hqo;exact hqo.2.2.2.2.2.2.1)
  simp only[Val.pv_mk] at hpt
  simp(maxSteps:=9^7) (disch:=try exact dI) only[decide_eq_false h1I,decide_eq_false h2,push_cast,seval]
  refine ab.pure hown rfl ?_
  simp(maxSteps:=9^7) (disch:=try exact dI) only[push_cast,seval]
  refine ab.pure hpt rfl ?_
  simp(maxSteps:=9^7) (disch:=try exact dI) only[push_cast,seval]
  have hw:Go.RowKit.wrap64 (lv+1)=lv+1:=by unfold Go.RowKit.wrap64;omega
  obtain⟨P,hP⟩:∃ P,P=qQ (lv,.mk qk qn qs qt ql qf):=⟨_,rfl⟩
  have hPd:=fun x (hx:x∈P)=>uH (q:=(lv,.mk qk qn qs qt ql qf)) hqd (by rw[← hP];exact hx)
  have hPe:P=(a8 (.mk qk qn qs qt ql qf)).reverse.map fun x=>(lv+1,x):=by rw[hP];simp only[qQ,hw]
  have hpo:=fun x (hx:x∈a8 (.mk qk qn qs qt ql qf))=>lJ hqo hx
  rw[← hP] at hr
  clear hP hqd hpt hw
  generalize a8 (.mk qk qn qs qt ql qf)=ps at *
  refine aw ([]) (fun x:Nat×List PV=>[(3,.row 0 7 0 (S'.length+x.1)),(8,.pv (.int .i64 ((ps.length:Int) - 1 - x.1)))]) (fun x=>[(0,.cells 234 false ((nk (S'++P.take x.1)++x.2).map AV.pv))]) (fun x=>x.1≤ps.length) (fun x=>ps.length - x.1) ((0,nk [(lv,.mk qk qn qs qt ql qf)]++J)) ?_;intro e0 σ0 n0 h0;simp(maxSteps:=9^7) (disch:=try exact dI) only[push_cast,seval] at h0;obtain⟨rfl,rfl,rfl⟩:=h0;refine⟨?_,?_,?_⟩
  ·simp(maxSteps:=9^7) (disch:=try exact dI) only[gP,List.take_zero,List.append_nil,List.append_assoc,Int.sub_zero,push_cast,seval]
  ·exact Nat.zero_le _
  rintro⟨m,J2⟩ hm
  simp only at hm
  by_cases hml:m<ps.length
  ·obtain⟨j,hj⟩:∃ j,j=ps.length - 1 - m:=⟨_,rfl⟩
   have hjI:(ps.length:Int) - 1 - (m:Int)=(j:Int):=by omega
   obtain⟨x,hx⟩:∃ x,ps[j]? = some x:=⟨_,List.getElem?_eq_getElem (by omega)⟩
   have hPm:P[m]? = some (lv+1,x):=by rw[hPe,List.getElem?_map,List.getElem?_reverse hml,← hj,hx];rfl
   have hts:=aI hPm
   have hPl:P.length=ps.length:=by rw[hPe];simp
   have hSl:(S'++P.take m).length=S'.length+m:=by rw[List.length_append,List.length_take];omega
   have heq:nk (S'++P.take (m+1))++[]=nk (S'++P.take m)++(iK (lv+1,x)).cells:=by
    rw[hts,← List.append_assoc,gP (S'++P.take m),fj,List.append_nil]
   have happ:=fun new=>Cn (new:=new) (r:=0) (f:=false) (J:=J2) (y:=iK (lv+1,x)) hSl (by omega)
   obtain⟨xk,xn,xs,xt,xl,xf⟩:=x
   simp only[iK,ae] at happ heq
   simp only[hjI]
   have hj0:(0:Int)≤(j:Int):=by omega
   have hlv:lv+1≤9:=by omega
   have hB:(j:Int) - 1=(ps.length:Int) - 1 - ((m:Int)+1):=by omega
   simp(maxSteps:=9^7) (disch:=try exact dI) only[hx,Option.map_some,Val.pv_mk,ae,happ,push_cast,seval]
   exact⟨(m+1,[]),aT (by simp(maxSteps:=9^7) (disch:=try exact dI) only[heq,hB,Nat.add_assoc,push_cast,seval]),by simp only;omega,by simp only;omega⟩
  ·obtain rfl:m=ps.length:=by omega
   have hPl:P.length=ps.length:=by rw[hPe];simp
   have hneg:¬ (0:Int)≤(ps.length:Int) - 1 - (ps.length:Int):=by omega
   rw[List.take_of_length_le (by omega)]
   simp(maxSteps:=9^7) (disch:=try exact dI) only[hneg,push_cast,seval]
   exact⟨(S'++P,c+1,J2),aT (by simp(maxSteps:=9^7) (disch:=try exact dI) only[hPl,List.length_append,push_cast,seval]),⟨by simp only;omega,by simp only[List.length_append];omega,hr,fun q hq'=>by
    rcases List.mem_append.1 hq' with h | h
    ·exact hq q (by simp[h])
    ·have h':=hPd q h
     rw[hPe] at h
     obtain⟨y,hy,rfl⟩:=List.mem_map.1 h
     exact⟨h',hpo y (List.mem_reverse.1 hy),by simp only;omega⟩⟩,by simp only;omega⟩
 ·rw[if_neg hz] at hr
  subst hr
  simp(maxSteps:=9^7) (disch:=try exact dI) only[decide_eq_false h1I,decide_eq_false h2,push_cast,seval]
  refine ab.pure hown rfl ?_
  simp(maxSteps:=9^7) (disch:=try exact dI) only[hz,push_cast,seval]
theorem pF (n:Nat)(v:Val)(hd:cL n v)(hv:v.ok):ag Tryz.prog aD 188 [v.pv] (.int .i64 (gY 0 (cy n 1 v))):=by
 cases n with
 | zero=>exact hd.elim
 | succ N=>exact xp N v hd hv
end Go.Proofs.YtbojpfpliibfbaaGreatDoor
-- many steps
namespace Go.Proofs.YtbojpfpliibfbaaGreatDoor
open Go Go.Ab
attribute [local irreducible] vc
theorem sx (n:Nat)(t:Typ)(v:Val)(hv:v.ok)(hP:Dn v=0→mb n t v):ag Tryz.prog aD 126 [t.pv,v.pv] (.bool (accB n t v)):=by
 have hc:ag Tryz.prog aD 188 [v.pv] (.int .i64 (Dn v)):=pF (lvl v) v (eE v) hv
 simp only[accB]
 generalize Dn v=z at hc hP ⊢
 by_cases hz:z=0
 ·have hh:=Dc n t v (hP hz)
  subst hz
  generalize bg n t v=b at hh ⊢
  obtain⟨k,m,M,s,w,e,f⟩:=t
  obtain⟨vk,vn,vs,vt,vl,vf⟩:=v
  simp only[Typ.pv_mk,Val.pv_mk] at hc hh
  refine ag.intro yo (by simp[K9]) ?_
  simp(maxSteps:=9^7) (disch:=try exact dI) only[K9,Typ.pv_mk,Val.pv_mk,push_cast,seval]
  refine ab.pure hc rfl ?_
  simp(maxSteps:=9^7) (disch:=try exact dI) only[push_cast,seval]
  refine ab.pure hh rfl ?_
  simp(maxSteps:=9^7) (disch:=try exact dI) only[push_cast,seval]
 ·rw[decide_eq_false hz,Bool.false_and]
  obtain⟨k,m,M,s,w,e,f⟩:=t
  obtain⟨vk,vn,vs,vt,vl,vf⟩:=v
  simp only[Typ.pv_mk,Val.pv_mk] at hc
  refine ag.intro yo (by simp[K9]) ?_
  simp(maxSteps:=9^7) (disch:=try exact dI) only[K9,Typ.pv_mk,Val.pv_mk,push_cast,seval]
  refine ab.pure hc rfl ?_
  simp(maxSteps:=9^7) (disch:=try exact dI) only[hz,push_cast,seval]
theorem DW (s:List UInt8)(hs:s.length≤140737488351232):ag Tryz.prog aD 188 [(dA s).pv] (.int .i64 (jo s)):=by
 have h:=pF 1 (dA s) (by simp[cL,a8,dA,Val.kind]) (by simp[dA,Val.ok_mk,I64,hs])
 rw[pC] at h
 exact h
end Go.Proofs.YtbojpfpliibfbaaGreatDoor
-- many steps
namespace Go.Proofs.YtbojpfpliibfbaaGreatDoor
open Go Go.Ab
attribute [local irreducible] vc
set_option maxHeartbeats 2000000 in
theorem yz (k m M s:Int)(ws:List (List UInt8))(e:List Typ)(f:List TFd)(hw:∀ w∈ws,w.length≤140737488351232):ag Tryz.prog aD 184 [(Typ.mk k m M s ws e f).pv] (.int .i64 (bq m M ws)):=by
 refine ag.intro Hc (by simp[HT]) ?_
 by_cases hm:m=0
 ·by_cases hM:M=0
  ·by_cases h64:64<ws.length
   ·rw[show bq m M ws=9 by simp[bq,hm,hM,h64]]
    simp(maxSteps:=9^7) (disch:=try exact dI) only[HT,Typ.pv_mk,hm,hM,push_cast,seval]
   ·rw[show bq m M ws=ek none ws by simp[bq,hm,hM,h64]]
    obtain⟨R,hR⟩:∃ R,R=ek none ws:=⟨_,rfl⟩
    rw[← hR]
    simp(maxSteps:=9^7) (disch:=try exact dI) only[HT,Typ.pv_mk,hm,hM,push_cast,seval]
    refine aw ([]) (fun i:Nat=>[(3,.pv (.int .i64 (i:Int)))]) (fun _=>[]) (fun i=>i≤ws.length∧R=ek (fp ws i) (ws.drop i)) (fun i=>ws.length - i) (0) ?_;intro e0 σ0 n0 h0;simp(maxSteps:=9^7) (disch:=try exact dI) only[push_cast,seval] at h0;obtain⟨rfl,rfl,rfl⟩:=h0;refine⟨?_,?_,?_⟩
    ·simp(maxSteps:=9^7) (disch:=try exact dI) only[push_cast,seval]
    ·exact⟨by omega,by simpa[fp] using hR⟩
    rintro i ⟨hi,hr⟩
    by_cases hlt:i<ws.length
    ·have hltI:(i:Int)<(ws.length:Int):=by omega
     obtain⟨w,hwi⟩:∃ w,ws[i]? = some w:=⟨_,List.getElem?_eq_getElem hlt⟩
     have hcp:(ws.map PV.str)[i]? = some (.str w):=by simp[hwi]
     have hc:=DW w (hw w (List.mem_of_getElem? hwi))
     simp only[dA,Val.pv_mk,List.map_nil] at hc
     rw[g7 hwi] at hr
     have hnext:fp ws (i+1)=some w:=by simp[fp,hwi]
     generalize jo w=z at hc hr
     by_cases hz:z=0
     ·subst hz
      rw[if_pos rfl] at hr
      by_cases hi0:i=0
      ·have hiI:¬ (0:Int)<(i:Int):=by omega
       have hpn:fp ws i=none:=if_pos hi0
       rw[hpn,if_neg (by simp),if_neg (by simp),← hnext] at hr
       simp(maxSteps:=9^7) (disch:=try exact dI) only[hcp,push_cast,seval]
       refine ab.pureN hc rfl qsZ ?_
       simp(maxSteps:=9^7) (disch:=try exact dI) only[push_cast,seval]
       exact⟨i+1,aT qsZ,⟨by omega,hr⟩,by omega⟩
      ·obtain⟨j,rfl⟩:∃ j,i=j+1:=⟨i - 1,by omega⟩
       obtain⟨q,hq'⟩:∃ q,ws[j]? = some q:=⟨_,List.getElem?_eq_getElem (by omega)⟩
       have hpn:fp ws (j+1)=some q:=by simp[fp,hq']
       have hcq:(ws.map PV.str)[j]? = some (.str q):=by simp[hq']
       rw[hpn] at hr
       by_cases hq:w=q
       ·subst hq
        rw[if_pos rfl] at hr
        subst hr
        simp(maxSteps:=9^7) (disch:=try exact dI) only[hcp,Int.add_sub_cancel,push_cast,seval]
        refine ab.pureN hc rfl qsZ ?_
        simp(maxSteps:=9^7) (disch:=try exact dI) only[hcp,hcq,Int.add_sub_cancel,push_cast,seval]
       ·rw[if_neg (by simpa using fun e=>hq e.symm)] at hr
        cases hlt2:bV w q with
        | true=>
          rw[if_pos (by simpa using hlt2)] at hr
          subst hr
          simp(maxSteps:=9^7) (disch:=try exact dI) only[hcp,Int.add_sub_cancel,push_cast,seval]
          refine ab.pureN hc rfl qsZ ?_
          simp(maxSteps:=9^7) (disch:=try exact dI) only[hcp,hcq,Int.add_sub_cancel,hq,hlt2,push_cast,seval]
        | false=>
          rw[if_neg (by simp[hlt2]),← hnext] at hr
          simp(maxSteps:=9^7) (disch:=try exact dI) only[hcp,Int.add_sub_cancel,push_cast,seval]
          refine ab.pureN hc rfl qsZ ?_
          simp(maxSteps:=9^7) (disch:=try exact dI) only[hcp,hcq,Int.add_sub_cancel,hq,hlt2,push_cast,seval]
          exact⟨j+1+1,aT qsZ,⟨by omega,hr⟩,by omega⟩
     ·rw[if_neg hz] at hr
      subst hr
      simp(maxSteps:=9^7) (disch:=try exact dI) only[hcp,push_cast,seval]
      refine ab.pureN hc rfl qsZ ?_
      simp(maxSteps:=9^7) (disch:=try exact dI) only[push_cast,seval]
    ·have hie:i=ws.length:=by omega
     subst hie
     rw[List.drop_length] at hr
     rw[show R=0 from hr]
     simp(maxSteps:=9^7) (disch:=try exact dI) only[push_cast,seval]
  ·rw[show bq m M ws=3 by simp[bq,hM]]
   simp(maxSteps:=9^7) (disch:=try exact dI) only[HT,Typ.pv_mk,hm,hM,push_cast,seval]
 ·rw[show bq m M ws=3 by simp[bq,hm]]
  simp(maxSteps:=9^7) (disch:=try exact dI) only[HT,Typ.pv_mk,hm,push_cast,seval]
end Go.Proofs.YtbojpfpliibfbaaGreatDoor

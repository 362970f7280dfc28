/- A part of the proof. -/
import Derived.Test.YtbojpfpliibfbaaGreatDoorEnRU8
set_option maxHeartbeats 16000000
set_option maxRecDepth 100000
set_option linter.unusedVariables false
set_option linter.unusedSimpArgs false
-- many steps
namespace Go.Proofs.YtbojpfpliibfbaaGreatDoor
open Go Go.Ab
attribute [local irreducible] vc
theorem uc {v:Val}(h:gJ v=0):(bk v).length<=256:=by
 unfold gJ at h
 split at h
 ·cases h
 split at h
 ·cases h
 split at h
 ·cases h
 obtain⟨k,n,s,t,l,f⟩:=v
 by_cases h8:k=8
 ·subst h8
  rw[cj (v:=.mk 8 n s t l f) (.inl rfl)]
  rw[show bI (.mk 8 n s t l f)=cZ l.length 256 9 from rfl] at h
  simp only[Val.lst]
  unfold cZ at h
  split at h
  ·cases h
  ·omega
 by_cases h10:k=10
 ·subst h10
  rw[cj (v:=.mk 10 n s t l f) (.inr rfl)]
  rw[show bI (.mk 10 n s t l f)=(if bO t=false then 12 else if l.length=0 then 4 else cZ l.length 1 3) from rfl] at h
  simp only[Val.lst]
  split at h
  ·cases h
  split at h
  ·cases h
  unfold cZ at h
  split at h
  ·cases h
  ·omega
 by_cases h9:k=9
 ·subst h9
  rw[dn (v:=.mk 9 n s t l f) rfl]
  rw[show bI (.mk 9 n s t l f)=(if cZ f.length 64 9=0 then eR none (f.map Fld.name) else cZ f.length 64 9) from rfl] at h
  simp only[Val.fields,List.length_map]
  split at h
  ·rename_i hm
   unfold cZ at hm
   split at hm
   ·cases hm
   ·omega
  ·rename_i hm;exact absurd h hm
 ·rw[ed (v:=.mk k n s t l f) (by simp only[Val.kind];omega) h9];simp
theorem Bm (N:Nat)(v:Val)(hd:dA (N+1) v)(hv:v.ok):am Tryz.prog az 188 [v.pv] (.int .i64 (jx 0 (dj (N+1) 1 v))):=by
 obtain⟨R,hR⟩:∃ R,R=jx 0 (dj (N+1) 1 v):=⟨_,rfl⟩
 rw[<- hR]
 have hS:iZ (N+1) [(1,v)]=dj (N+1) 1 v:=by simp[iZ]
 obtain⟨k,n,s,t,l,f⟩:=v
 refine am.intro Pt.2 (by simp[Pt]) ?_
 simp(disch:=try exact dI) only[Pt,Val.pv_mk,push_cast,seval]
 refine au ([]) (fun x:List (Int×Val)×Nat×List PV=>[(3,.row 0 7 0 x.1.length),(4,.pv (.int .i64 (x.2.1:Int)))]) (fun x=>[(0,.cells 234 false ((pG x.1++x.2.2).map AV.pv))]) (fun x=>x.2.1<=4096/\x.1.length<=1+256*x.2.1/\R=jx x.2.1 (iZ (N+1) x.1)/\∀ q∈x.1,dA (N+1) q.2/\q.2.ok/\0<=q.1) (fun x=>4097 - x.2.1) (([(1,.mk k n s t l f)],0,[])) ?_;intro e0 σ0 n0 h0;simp(disch:=try exact dI) only[push_cast,seval] at h0;obtain⟨rfl,rfl,rfl⟩:=h0;refine⟨?_,?_,?_⟩
 ·simp(disch:=try exact dI) only[gz,kg,push_cast,seval]
 ·exact⟨by simp,by simp,by rw[hS];exact hR,fun q hq=>by rw[List.mem_singleton.1 hq];exact⟨hd,hv,by simp⟩⟩
 rintro⟨S,c,J⟩ ⟨hc,hsl,hr,hq⟩
 simp only at hc hsl hr hq
 rcases List.eq_nil_or_concat S with rfl | ⟨S',q,rfl⟩
 ·simp only[iZ,List.reverse_nil,List.flatMap_nil,jx] at hr
  subst hr
  simp(disch:=try exact dI) only[Int.lt_irrefl,push_cast,seval]
  done
 rw[List.concat_eq_append] at *
 rw[Fk N S' q c (hq q (by simp)).1,CE] at hr
 have hlen:(((S'++[q]).length:Nat):Int)=(S'.length:Int)+1:=by simp
 have hsl':S'.length<=256*c:=by simp at hsl;omega
 have hpl:=yG S' q J
 obtain⟨lv,⟨qk,qn,qs,qt,ql,qf⟩⟩:=q
 simp only[kg] at hpl
 have hpos:(0:Int)<(S'.length:Int)+1:=by omega
 simp(disch:=try exact dI) only[hlen,hpos,hpl,List.length_append,push_cast,seval]
 have hown:=Lp (.mk qk qn qs qt ql qf)
 have hqd:=(hq (lv,.mk qk qn qs qt ql qf) (by simp)).1
 have hqo:=(hq (lv,.mk qk qn qs qt ql qf) (by simp)).2.1
 have hql:0<=lv:=(hq (lv,.mk qk qn qs qt ql qf) (by simp)).2.2
 by_cases h1:4096<=c
 ·have h1I:(4096:Int)<=(c:Int):=by omega
  rw[if_pos h1,if_neg (by decide)] at hr
  subst hr
  simp(disch:=try exact dI) only[h1I,decide_eq_true h1I,push_cast,seval]
 have h1I:¬ (4096:Int)<=(c:Int):=by omega
 rw[if_neg h1] at hr
 by_cases h2:8<lv
 ·rw[if_pos h2,if_neg (by decide)] at hr
  subst hr
  simp(disch:=try exact dI) only[decide_eq_false h1I,decide_eq_true h2,push_cast,seval]
 rw[if_neg h2] at hr
 have hp4:=uc (v:=.mk qk qn qs qt ql qf)
 simp only[] at hr
 generalize gJ (.mk qk qn qs qt ql qf)=z at hown hr hp4
 simp only[Val.pv_mk] at hown
 by_cases hz:z=0
 ·subst hz
  rw[if_pos rfl] at hr
  have hpl':=hp4 rfl
  have hpt:=rI (.mk qk qn qs qt ql qf) (by rw[Val.ok_mk] at hqo;exact hqo.2.2.2.2.1) (by rw[Val.ok_mk] at hqo;exact hqo.2.2.2.2.2.2.1)
  simp only[Val.pv_mk] at hpt
  simp(disch:=try exact dI) only[decide_eq_false h1I,decide_eq_false h2,push_cast,seval]
  refine ab.pure hown rfl ?_
  refine zgZ ?_
  refine ab.pure hpt rfl ?_
  refine zgZ ?_
  have hw:Go.RowKit.wrap64 (lv+1)=lv+1:=by unfold Go.RowKit.wrap64;omega
  obtain⟨P,hP⟩:∃ P,P=tX (lv,.mk qk qn qs qt ql qf):=⟨_,rfl⟩
  have hPd:=fun x (hx:x∈P)=>yz (q:=(lv,.mk qk qn qs qt ql qf)) hqd (by rw[<- hP];exact hx)
  have hPe:P=(bk (.mk qk qn qs qt ql qf)).reverse.map fun x=>(lv+1,x):=by rw[hP];simp only[tX,hw]
  have hpo:=fun x (hx:x∈bk (.mk qk qn qs qt ql qf))=>nV hqo hx
  rw[<- hP] at hr
  clear hP hqd hpt hw
  generalize bk (.mk qk qn qs qt ql qf)=ps at *
  refine au ([]) (fun x:Nat×List PV=>[(3,.row 0 7 0 (S'.length+x.1)),(8,.pv (.int .i64 ((ps.length:Int) - 1 - x.1)))]) (fun x=>[(0,.cells 234 false ((pG (S'++P.take x.1)++x.2).map AV.pv))]) (fun x=>x.1<=ps.length) (fun x=>ps.length - x.1) ((0,pG [(lv,.mk qk qn qs qt ql qf)]++J)) ?_;intro e0 σ0 n0 h0;simp(disch:=try exact dI) only[push_cast,seval] at h0;obtain⟨rfl,rfl,rfl⟩:=h0;refine⟨?_,?_,?_⟩
  ·simp(disch:=try exact dI) only[jm,List.take_zero,List.append_nil,List.append_assoc,Int.sub_zero,push_cast,seval]
  ·exact Nat.zero_le _
  rintro⟨m,J2⟩ hm
  simp only at hm
  by_cases hml:m<ps.length
  ·obtain⟨j,hj⟩:∃ j,j=ps.length - 1 - m:=⟨_,rfl⟩
   have hjI:(ps.length:Int) - 1 - (m:Int)=(j:Int):=by omega
   obtain⟨x,hx⟩:∃ x,ps[j]? = some x:=⟨_,List.getElem?_eq_getElem (by omega)⟩
   have hPm:P[m]? = some (lv+1,x):=by rw[hPe,List.getElem?_map,List.getElem?_reverse hml,<- hj,hx];rfl
   have hts:=aK hPm
   have hPl:P.length=ps.length:=by rw[hPe];simp
   have hSl:(S'++P.take m).length=S'.length+m:=by rw[List.length_append,List.length_take];omega
   have heq:pG (S'++P.take (m+1))++[]=pG (S'++P.take m)++(kg (lv+1,x)).cells:=by
    rw[hts,<- List.append_assoc,jm (S'++P.take m),gz,List.append_nil]
   have happ:=fun new=>Fu (new:=new) (r:=0) (f:=false) (J:=J2) (y:=kg (lv+1,x)) hSl (by omega)
   obtain⟨xk,xn,xs,xt,xl,xf⟩:=x
   simp only[kg,ag] at happ heq
   simp only[hjI]
   have hj0:(0:Int)<=(j:Int):=by omega
   have hlv:lv+1<=9:=by omega
   have hB:(j:Int) - 1=(ps.length:Int) - 1 - ((m:Int)+1):=by omega
   simp(disch:=try exact dI) only[hx,Option.map_some,Val.pv_mk,ag,happ,push_cast,seval]
   exact⟨(m+1,[]),aM (by simp(disch:=try exact dI) only[heq,hB,Nat.add_assoc,push_cast,seval]),by simp only;omega,by simp only;omega⟩
  ·obtain rfl:m=ps.length:=by omega
   have hPl:P.length=ps.length:=by rw[hPe];simp
   have hneg:¬ (0:Int)<=(ps.length:Int) - 1 - (ps.length:Int):=by omega
   rw[List.take_of_length_le (by omega)]
   simp(disch:=try exact dI) only[hneg,push_cast,seval]
   exact⟨(S'++P,c+1,J2),aM (by simp(disch:=try exact dI) only[hPl,List.length_append,push_cast,seval]),⟨by simp only;omega,by simp only[List.length_append];omega,hr,fun q hq'=>by
    rcases List.mem_append.1 hq' with h | h
    ·exact hq q (by simp[h])
    ·have h':=hPd q h
     rw[hPe] at h
     obtain⟨y,hy,rfl⟩:=List.mem_map.1 h
     exact⟨h',hpo y (List.mem_reverse.1 hy),by simp only;omega⟩⟩,by simp only;omega⟩
 ·rw[if_neg hz] at hr
  subst hr
  simp(disch:=try exact dI) only[decide_eq_false h1I,decide_eq_false h2,push_cast,seval]
  refine ab.pure hown rfl ?_
  simp(disch:=try exact dI) only[hz,push_cast,seval]
theorem sJ (n:Nat)(v:Val)(hd:dA n v)(hv:v.ok):am Tryz.prog az 188 [v.pv] (.int .i64 (jx 0 (dj n 1 v))):=by
 cases n with
 | zero=>exact hd.elim
 | succ N=>exact Bm N v hd hv
end Go.Proofs.YtbojpfpliibfbaaGreatDoor
-- many steps
namespace Go.Proofs.YtbojpfpliibfbaaGreatDoor
open Go Go.Ab
attribute [local irreducible] vc
theorem vU (n:Nat)(t:Typ)(v:Val)(hv:v.ok)(hP:GI v=0->ou n t v):am Tryz.prog az 126 [t.pv,v.pv] (.bool (accB n t v)):=by
 have hc:am Tryz.prog az 188 [v.pv] (.int .i64 (GI v)):=sJ (lvl v) v (fF v) hv
 simp only[accB]
 generalize GI v=z at hc hP ⊢
 by_cases hz:z=0
 ·have hh:=Gt n t v (hP hz)
  subst hz
  generalize bw n t v=b at hh ⊢
  obtain⟨k,m,M,s,w,e,f⟩:=t
  obtain⟨vk,vn,vs,vt,vl,vf⟩:=v
  simp only[Typ.pv_mk,Val.pv_mk] at hc hh
  refine am.intro KC.2 (by simp[KC]) ?_
  simp(disch:=try exact dI) only[KC,Typ.pv_mk,Val.pv_mk,push_cast,seval]
  refine ab.pure hc rfl ?_
  refine zgZ ?_
  refine ab.pure hh rfl ?_
  exact qsZ
 ·rw[decide_eq_false hz,Bool.false_and]
  obtain⟨k,m,M,s,w,e,f⟩:=t
  obtain⟨vk,vn,vs,vt,vl,vf⟩:=v
  simp only[Typ.pv_mk,Val.pv_mk] at hc
  refine am.intro KC.2 (by simp[KC]) ?_
  simp(disch:=try exact dI) only[KC,Typ.pv_mk,Val.pv_mk,push_cast,seval]
  refine ab.pure hc rfl ?_
  simp(disch:=try exact dI) only[hz,push_cast,seval]
theorem Hk (s:List UInt8)(hs:s.length<=140737488351232):am Tryz.prog az 188 [(eb s).pv] (.int .i64 (kW s)):=by
 have h:=sJ 1 (eb s) (by simp[dA,bk,eb,Val.kind]) (by simp[eb,Val.ok_mk,I64,hs])
 rw[sG] at h
 exact h
end Go.Proofs.YtbojpfpliibfbaaGreatDoor
-- many steps
namespace Go.Proofs.YtbojpfpliibfbaaGreatDoor
open Go Go.Ab
attribute [local irreducible] vc
theorem Cc (k m M s:Int)(ws:List (List UInt8))(e:List Typ)(f:List TFd)(hw:∀ w∈ws,w.length<=140737488351232):am Tryz.prog az 184 [(Typ.mk k m M s ws e f).pv] (.int .i64 (bG m M ws)):=by
 refine am.intro KA.2 (by simp[KA]) ?_
 by_cases hm:m=0
 ·by_cases hM:M=0
  ·by_cases h64:64<ws.length
   ·rw[show bG m M ws=9 by simp[bG,hm,hM,h64]]
    simp(disch:=try exact dI) only[KA,Typ.pv_mk,hm,hM,push_cast,seval]
   ·rw[show bG m M ws=fe none ws by simp[bG,hm,hM,h64]]
    obtain⟨R,hR⟩:∃ R,R=fe none ws:=⟨_,rfl⟩
    rw[<- hR]
    simp(disch:=try exact dI) only[KA,Typ.pv_mk,hm,hM,push_cast,seval]
    refine au ([]) (fun i:Nat=>[(3,.pv (.int .i64 (i:Int)))]) (fun _=>[]) (fun i=>i<=ws.length/\R=fe (gH ws i) (ws.drop i)) (fun i=>ws.length - i) (0) ?_;intro e0 σ0 n0 h0;simp(disch:=try exact dI) only[push_cast,seval] at h0;obtain⟨rfl,rfl,rfl⟩:=h0;refine⟨?_,?_,?_⟩
    ·exact qsZ
    ·exact⟨by omega,by simpa[gH] using hR⟩
    rintro i ⟨hi,hr⟩
    by_cases hlt:i<ws.length
    ·have hltI:(i:Int)<(ws.length:Int):=by omega
     obtain⟨w,hwi⟩:∃ w,ws[i]? = some w:=⟨_,List.getElem?_eq_getElem hlt⟩
     have hcp:(ws.map PV.str)[i]? = some (.str w):=by simp[hwi]
     have hc:=Hk w (hw w (List.mem_of_getElem? hwi))
     simp only[eb,Val.pv_mk,List.map_nil] at hc
     rw[jD hwi] at hr
     have hnext:gH ws (i+1)=some w:=by simp[gH,hwi]
     generalize kW w=z at hc hr
     by_cases hz:z=0
     ·subst hz
      rw[if_pos rfl] at hr
      by_cases hi0:i=0
      ·have hiI:¬ (0:Int)<(i:Int):=by omega
       have hpn:gH ws i=none:=if_pos hi0
       rw[hpn,if_neg (by simp),if_neg (by simp),<- hnext] at hr
       simp(disch:=try exact dI) only[hcp,push_cast,seval]
       refine ab.pureN hc rfl qsZ ?_
       refine zgZ ?_
       exact⟨i+1,aM qsZ,⟨by omega,hr⟩,by omega⟩
      ·obtain⟨j,rfl⟩:∃ j,i=j+1:=⟨i - 1,by omega⟩
       obtain⟨q,hq'⟩:∃ q,ws[j]? = some q:=⟨_,List.getElem?_eq_getElem (by omega)⟩
       have hpn:gH ws (j+1)=some q:=by simp[gH,hq']
       have hcq:(ws.map PV.str)[j]? = some (.str q):=by simp[hq']
       rw[hpn] at hr
       by_cases hq:w=q
       ·subst hq
        rw[if_pos rfl] at hr
        subst hr
        simp(disch:=try exact dI) only[hcp,Int.add_sub_cancel,push_cast,seval]
        refine ab.pureN hc rfl qsZ ?_
        simp(disch:=try exact dI) only[hcp,hcq,Int.add_sub_cancel,push_cast,seval]
       ·rw[if_neg (by simpa using fun e=>hq e.symm)] at hr
        cases hlt2:aP w q with
        | true=>
          rw[if_pos (by simpa using hlt2)] at hr
          subst hr
          simp(disch:=try exact dI) only[hcp,Int.add_sub_cancel,push_cast,seval]
          refine ab.pureN hc rfl qsZ ?_
          simp(disch:=try exact dI) only[hcp,hcq,Int.add_sub_cancel,hq,hlt2,push_cast,seval]
        | false=>
          rw[if_neg (by simp[hlt2]),<- hnext] at hr
          simp(disch:=try exact dI) only[hcp,Int.add_sub_cancel,push_cast,seval]
          refine ab.pureN hc rfl qsZ ?_
          simp(disch:=try exact dI) only[hcp,hcq,Int.add_sub_cancel,hq,hlt2,push_cast,seval]
          exact⟨j+1+1,aM qsZ,⟨by omega,hr⟩,by omega⟩
     ·rw[if_neg hz] at hr
      subst hr
      simp(disch:=try exact dI) only[hcp,push_cast,seval]
      refine ab.pureN hc rfl qsZ ?_
      exact qsZ
    ·have hie:i=ws.length:=by omega
     subst hie
     rw[List.drop_length] at hr
     rw[show R=0 from hr]
     exact qsZ
  ·rw[show bG m M ws=3 by simp[bG,hM]]
   simp(disch:=try exact dI) only[KA,Typ.pv_mk,hm,hM,push_cast,seval]
 ·rw[show bG m M ws=3 by simp[bG,hm]]
  simp(disch:=try exact dI) only[KA,Typ.pv_mk,hm,push_cast,seval]
end Go.Proofs.YtbojpfpliibfbaaGreatDoor

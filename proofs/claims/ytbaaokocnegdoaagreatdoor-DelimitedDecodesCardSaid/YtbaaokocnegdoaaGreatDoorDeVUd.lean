/- A part of the proof. -/
import Derived.Test.YtbaaokocnegdoaaGreatDoorDeVU8
set_option linter.unusedVariables false
set_option linter.unusedSimpArgs false
set_option maxHeartbeats 16000000
set_option maxRecDepth 100000
namespace Go.Proofs.YtbaaokocnegdoaaGreatDoor
open Go Go.Ab
attribute [local irreducible] vc
theorem xy {v:Val}(h:MO v=0):(aV v).length<=256:=by
 unfold MO at h
 split at h
 ·cases h
 split at h
 ·cases h
 split at h
 ·cases h
 obtain⟨k,n,s,t,l,f⟩:=v
 by_cases h8:k=8
 ·subst h8
  rw[bY (v:=.mk 8 n s t l f) (.inl rfl)]
  rw[show be (.mk 8 n s t l f)=cW l.length 256 9 from rfl] at h
  simp only[Val.lst]
  unfold cW at h
  split at h
  ·cases h
  ·omega
 by_cases h10:k=10
 ·subst h10
  rw[bY (v:=.mk 10 n s t l f) (.inr rfl)]
  rw[show be (.mk 10 n s t l f)=(if bN t=false then 12 else if l.length=0 then 4 else cW l.length 1 3) from rfl] at h
  simp only[Val.lst]
  split at h
  ·cases h
  split at h
  ·cases h
  unfold cW at h
  split at h
  ·cases h
  ·omega
 by_cases h9:k=9
 ·subst h9
  rw[dg (v:=.mk 9 n s t l f) rfl]
  rw[show be (.mk 9 n s t l f)=(if cW f.length 64 9=0 then eO none (f.map Fld.name) else cW f.length 64 9) from rfl] at h
  simp only[Val.fields,List.length_map]
  split at h
  ·rename_i hm
   unfold cW at hm
   split at hm
   ·cases hm
   ·omega
  ·rename_i hm;exact absurd h hm
 ·rw[dV (v:=.mk k n s t l f) (by simp only[Val.kind];omega) h9];simp
theorem vM (v:Val)(hd:cy 9 v)(hv:v.ok):ak Tryz.prog aq 201 [v.pv] (.int .i64 (iE 0 (cf 9 1 v))):=by
 obtain⟨R,hR⟩:∃ R,R=iE 0 (cf 9 1 v):=⟨_,rfl⟩
 rw[<- hR]
 have hS:jC [(1,v)]=cf 9 1 v:=by simp[jC]
 obtain⟨k,n,s,t,l,f⟩:=v
 refine ak.intro Oz.2 (by simp[Oz]) ?_
 simp(disch:=try exact dI) only[Oz,Val.pv_mk,push_cast,seval]
 refine ap ([]) (fun x:List (Int×Val)×Nat×List PV=>[(3,.row 0 7 0 x.1.length),(4,.pv (.int .i64 (x.2.1:Int)))]) (fun x=>[(0,.cells 259 false ((rY x.1++x.2.2).map AV.pv))]) (fun x=>x.2.1<=4096/\x.1.length<=1+256*x.2.1/\R=iE x.2.1 (jC x.1)/\∀ q∈x.1,cy 9 q.2/\q.2.ok/\0<=q.1) (fun x=>4097 - x.2.1) (([(1,.mk k n s t l f)],0,[])) ?_;intro e0 σ0 n0 h0;simp(disch:=try exact dI) only[push_cast,seval] at h0;obtain⟨rfl,rfl,rfl⟩:=h0;refine⟨?_,?_,?_⟩
 ·simp(disch:=try exact dI) only[gP,ll,push_cast,seval]
 ·exact⟨by simp,by simp,by rw[hS];exact hR,fun q hq=>by rw[List.mem_singleton.1 hq];exact⟨hd,hv,by simp⟩⟩
 rintro⟨S,c,J⟩ ⟨hc,hsl,hr,hq⟩
 simp only at hc hsl hr hq
 rcases List.eq_nil_or_concat S with rfl | ⟨S',q,rfl⟩
 ·simp only[jC,List.reverse_nil,List.flatMap_nil,iE] at hr
  subst hr
  simp(disch:=try exact dI) only[Int.lt_irrefl,push_cast,seval]
  done
 rw[List.concat_eq_append] at *
 rw[Jt S' q c (hq q (by simp)).1,GA] at hr
 have hlen:(((S'++[q]).length:Nat):Int)=(S'.length:Int)+1:=by simp
 have hsl':S'.length<=256*c:=by simp at hsl;omega
 have hpl:=Cx S' q J
 obtain⟨lv,⟨qk,qn,qs,qt,ql,qf⟩⟩:=q
 simp only[ll] at hpl
 have hpos:(0:Int)<(S'.length:Int)+1:=by omega
 simp(disch:=try exact dI) only[hlen,hpos,hpl,List.length_append,push_cast,seval]
 have hown:=P3 (.mk qk qn qs qt ql qf)
 have hqd:=(hq (lv,.mk qk qn qs qt ql qf) (by simp)).1
 have hqo:=(hq (lv,.mk qk qn qs qt ql qf) (by simp)).2.1
 have hql:0<=lv:=(hq (lv,.mk qk qn qs qt ql qf) (by simp)).2.2
 by_cases h1:4096<=c
 ·have h1I:(4096:Int)<=(c:Int):=by omega
  rw[if_pos h1,if_neg (by decide)] at hr
  subst hr
  simp(disch:=try exact dI) only[h1I,decide_eq_true h1I,push_cast,seval]
 have h1I:¬ (4096:Int)<=(c:Int):=by omega
 rw[if_neg h1] at hr
 by_cases h2:8<lv
 ·rw[if_pos h2,if_neg (by decide)] at hr
  subst hr
  simp(disch:=try exact dI) only[decide_eq_false h1I,decide_eq_true h2,push_cast,seval]
 rw[if_neg h2] at hr
 have hp4:=xy (v:=.mk qk qn qs qt ql qf)
 simp only[] at hr
 generalize MO (.mk qk qn qs qt ql qf)=z at hown hr hp4
 simp only[Val.pv_mk] at hown
 by_cases hz:z=0
 ·subst hz
  rw[if_pos rfl] at hr
  have hpl':=hp4 rfl
  have hpt:=uB (.mk qk qn qs qt ql qf) (by rw[Val.ok_mk] at hqo;exact hqo.2.2.2.2.1) (by rw[Val.ok_mk] at hqo;exact hqo.2.2.2.2.2.2.1)
  simp only[Val.pv_mk] at hpt
  simp(disch:=try exact dI) only[decide_eq_false h1I,decide_eq_false h2,push_cast,seval]
  refine ab.pure hown rfl ?_
  refine zgZ ?_
  refine ab.pure hpt rfl ?_
  refine zgZ ?_
  obtain⟨P,hP⟩:∃ P,P=Cp (lv,.mk qk qn qs qt ql qf):=⟨_,rfl⟩
  have hPd:=fun x (hx:x∈P)=>Co (q:=(lv,.mk qk qn qs qt ql qf)) hqd (by rw[<- hP];exact hx)
  have hPe:P=(aV (.mk qk qn qs qt ql qf)).reverse.map fun x=>(lv+1,x):=hP
  have hpo:=fun x (hx:x∈aV (.mk qk qn qs qt ql qf))=>pI hqo hx
  rw[<- hP] at hr
  clear hP hqd hpt
  generalize aV (.mk qk qn qs qt ql qf)=ps at *
  refine ap ([]) (fun x:Nat×List PV=>[(3,.row 0 7 0 (S'.length+x.1)),(8,.pv (.int .i64 ((ps.length:Int) - 1 - x.1)))]) (fun x=>[(0,.cells 259 false ((rY (S'++P.take x.1)++x.2).map AV.pv))]) (fun x=>x.1<=ps.length) (fun x=>ps.length - x.1) ((0,rY [(lv,.mk qk qn qs qt ql qf)]++J)) ?_;intro e0 σ0 n0 h0;simp(disch:=try exact dI) only[push_cast,seval] at h0;obtain⟨rfl,rfl,rfl⟩:=h0;refine⟨?_,?_,?_⟩
  ·simp(disch:=try exact dI) only[jR,List.take_zero,List.append_nil,List.append_assoc,Int.sub_zero,push_cast,seval]
  ·exact Nat.zero_le _
  rintro⟨m,J2⟩ hm
  simp only at hm
  by_cases hml:m<ps.length
  ·obtain⟨j,hj⟩:∃ j,j=ps.length - 1 - m:=⟨_,rfl⟩
   have hjI:(ps.length:Int) - 1 - (m:Int)=(j:Int):=by omega
   obtain⟨x,hx⟩:∃ x,ps[j]? = some x:=⟨_,List.getElem?_eq_getElem (by omega)⟩
   have hPm:P[m]? = some (lv+1,x):=by rw[hPe,List.getElem?_map,List.getElem?_reverse hml,<- hj,hx];rfl
   have hts:=aD hPm
   have hPl:P.length=ps.length:=by rw[hPe];simp
   have hSl:(S'++P.take m).length=S'.length+m:=by rw[List.length_append,List.length_take];omega
   have heq:rY (S'++P.take (m+1))++[]=rY (S'++P.take m)++(ll (lv+1,x)).cells:=by
    rw[hts,<- List.append_assoc,jR (S'++P.take m),gP,List.append_nil]
   have happ:=fun new=>JM (new:=new) (r:=0) (f:=false) (J:=J2) (y:=ll (lv+1,x)) hSl (by omega)
   obtain⟨xk,xn,xs,xt,xl,xf⟩:=x
   simp only[ll,ag] at happ heq
   simp only[hjI]
   have hj0:(0:Int)<=(j:Int):=by omega
   have hlv:lv+1<=9:=by omega
   have hB:(j:Int) - 1=(ps.length:Int) - 1 - ((m:Int)+1):=by omega
   simp(disch:=try exact dI) only[hx,Option.map_some,Val.pv_mk,ag,happ,push_cast,seval]
   exact⟨(m+1,[]),aK (by simp(disch:=try exact dI) only[heq,hB,Nat.add_assoc,push_cast,seval]),by simp only;omega,by simp only;omega⟩
  ·obtain rfl:m=ps.length:=by omega
   have hPl:P.length=ps.length:=by rw[hPe];simp
   have hneg:¬ (0:Int)<=(ps.length:Int) - 1 - (ps.length:Int):=by omega
   rw[List.take_of_length_le (by omega)]
   simp(disch:=try exact dI) only[hneg,push_cast,seval]
   exact⟨(S'++P,c+1,J2),aK (by simp(disch:=try exact dI) only[hPl,List.length_append,push_cast,seval]),⟨by simp only;omega,by simp only[List.length_append];omega,hr,fun q hq'=>by
    rcases List.mem_append.1 hq' with h | h
    ·exact hq q (by simp[h])
    ·have h':=hPd q h
     rw[hPe] at h
     obtain⟨y,hy,rfl⟩:=List.mem_map.1 h
     exact⟨h',hpo y (List.mem_reverse.1 hy),by simp only;omega⟩⟩,by simp only;omega⟩
 ·rw[if_neg hz] at hr
  subst hr
  simp(disch:=try exact dI) only[decide_eq_false h1I,decide_eq_false h2,push_cast,seval]
  refine ab.pure hown rfl ?_
  simp(disch:=try exact dI) only[hz,push_cast,seval]
theorem Af (n:Nat)(t:Typ)(v:Val)(hd:cy 9 v)(hv:v.ok)(hP:iE 0 (cf 9 1 v)=0->qE n t v):ak Tryz.prog aq 149 [t.pv,v.pv] (.bool (accB n t v)):=by
 have hc:=vM v hd hv
 simp only[accB]
 generalize iE 0 (cf 9 1 v)=z at hc hP ⊢
 by_cases hz:z=0
 ·have hh:=KA n t v (hP hz)
  subst hz
  generalize bm n t v=b at hh ⊢
  obtain⟨k,m,M,s,w,e,f⟩:=t
  obtain⟨vk,vn,vs,vt,vl,vf⟩:=v
  simp only[Typ.pv_mk,Val.pv_mk] at hc hh
  refine ak.intro O8.2 (by simp[O8]) ?_
  simp(disch:=try exact dI) only[O8,Typ.pv_mk,Val.pv_mk,push_cast,seval]
  refine ab.pure hc rfl ?_
  refine zgZ ?_
  refine ab.pure hh rfl ?_
  exact qsZ
 ·rw[decide_eq_false hz,Bool.false_and]
  obtain⟨k,m,M,s,w,e,f⟩:=t
  obtain⟨vk,vn,vs,vt,vl,vf⟩:=v
  simp only[Typ.pv_mk,Val.pv_mk] at hc
  refine ak.intro O8.2 (by simp[O8]) ?_
  simp(disch:=try exact dI) only[O8,Typ.pv_mk,Val.pv_mk,push_cast,seval]
  refine ab.pure hc rfl ?_
  simp(disch:=try exact dI) only[hz,push_cast,seval]
theorem Lv (s:List UInt8)(hs:s.length<=140737488351232):ak Tryz.prog aq 201 [(dz s).pv] (.int .i64 (mb s)):=by
 have h:=vM (dz s) (by simp[cy,aV,dz,Val.kind]) (by simp[dz,Val.ok_mk,I64,hs])
 rw[show cf 9 1 (dz s)=cf 1 1 (dz s) from rfl,vK] at h
 exact h
theorem F2 (k m M s:Int)(ws:List (List UInt8))(e:List Typ)(f:List TFd)(hw:∀ w∈ws,w.length<=140737488351232):ak Tryz.prog aq 197 [(Typ.mk k m M s ws e f).pv] (.int .i64 (bG m M ws)):=by
 refine ak.intro O4.2 (by simp[O4]) ?_
 by_cases hm:m=0
 ·by_cases hM:M=0
  ·by_cases h64:64<ws.length
   ·rw[show bG m M ws=9 by simp[bG,hm,hM,h64]]
    simp(disch:=try exact dI) only[O4,Typ.pv_mk,hm,hM,push_cast,seval]
   ·rw[show bG m M ws=fa none ws by simp[bG,hm,hM,h64]]
    obtain⟨R,hR⟩:∃ R,R=fa none ws:=⟨_,rfl⟩
    rw[<- hR]
    simp(disch:=try exact dI) only[O4,Typ.pv_mk,hm,hM,push_cast,seval]
    refine ap ([]) (fun i:Nat=>[(3,.pv (.int .i64 (i:Int)))]) (fun _=>[]) (fun i=>i<=ws.length/\R=fa (gX ws i) (ws.drop i)) (fun i=>ws.length - i) (0) ?_;intro e0 σ0 n0 h0;simp(disch:=try exact dI) only[push_cast,seval] at h0;obtain⟨rfl,rfl,rfl⟩:=h0;refine⟨?_,?_,?_⟩
    ·exact qsZ
    ·exact⟨by omega,by simpa[gX] using hR⟩
    rintro i ⟨hi,hr⟩
    by_cases hlt:i<ws.length
    ·have hltI:(i:Int)<(ws.length:Int):=by omega
     obtain⟨w,hwi⟩:∃ w,ws[i]? = some w:=⟨_,List.getElem?_eq_getElem hlt⟩
     have hcp:(ws.map PV.str)[i]? = some (.str w):=by simp[hwi]
     have hc:=Lv w (hw w (List.mem_of_getElem? hwi))
     simp only[dz,Val.pv_mk,List.map_nil] at hc
     rw[ka hwi] at hr
     have hnext:gX ws (i+1)=some w:=by simp[gX,hwi]
     generalize mb w=z at hc hr
     by_cases hz:z=0
     ·subst hz
      rw[if_pos rfl] at hr
      by_cases hi0:i=0
      ·have hiI:¬ (0:Int)<(i:Int):=by omega
       have hpn:gX ws i=none:=if_pos hi0
       rw[hpn,if_neg (by simp),if_neg (by simp),<- hnext] at hr
       simp(disch:=try exact dI) only[hcp,push_cast,seval]
       refine ab.pureN hc rfl qsZ ?_
       refine zgZ ?_
       exact⟨i+1,aK qsZ,⟨by omega,hr⟩,by omega⟩
      ·obtain⟨j,rfl⟩:∃ j,i=j+1:=⟨i - 1,by omega⟩
       obtain⟨q,hq'⟩:∃ q,ws[j]? = some q:=⟨_,List.getElem?_eq_getElem (by omega)⟩
       have hpn:gX ws (j+1)=some q:=by simp[gX,hq']
       have hcq:(ws.map PV.str)[j]? = some (.str q):=by simp[hq']
       rw[hpn] at hr
       by_cases hq:w=q
       ·subst hq
        rw[if_pos rfl] at hr
        subst hr
        simp(disch:=try exact dI) only[hcp,Int.add_sub_cancel,push_cast,seval]
        refine ab.pureN hc rfl qsZ ?_
        simp(disch:=try exact dI) only[hcp,hcq,Int.add_sub_cancel,push_cast,seval]
       ·rw[if_neg (by simpa using fun e=>hq e.symm)] at hr
        cases hlt2:bc w q with
        | true=>
          rw[if_pos (by simpa using hlt2)] at hr
          subst hr
          simp(disch:=try exact dI) only[hcp,Int.add_sub_cancel,push_cast,seval]
          refine ab.pureN hc rfl qsZ ?_
          simp(disch:=try exact dI) only[hcp,hcq,Int.add_sub_cancel,hq,hlt2,push_cast,seval]
        | false=>
          rw[if_neg (by simp[hlt2]),<- hnext] at hr
          simp(disch:=try exact dI) only[hcp,Int.add_sub_cancel,push_cast,seval]
          refine ab.pureN hc rfl qsZ ?_
          simp(disch:=try exact dI) only[hcp,hcq,Int.add_sub_cancel,hq,hlt2,push_cast,seval]
          exact⟨j+1+1,aK qsZ,⟨by omega,hr⟩,by omega⟩
     ·rw[if_neg hz] at hr
      subst hr
      simp(disch:=try exact dI) only[hcp,push_cast,seval]
      refine ab.pureN hc rfl qsZ ?_
      exact qsZ
    ·have hie:i=ws.length:=by omega
     subst hie
     rw[List.drop_length] at hr
     rw[show R=0 from hr]
     exact qsZ
  ·rw[show bG m M ws=3 by simp[bG,hM]]
   simp(disch:=try exact dI) only[O4,Typ.pv_mk,hm,hM,push_cast,seval]
 ·rw[show bG m M ws=3 by simp[bG,hm]]
  simp(disch:=try exact dI) only[O4,Typ.pv_mk,hm,push_cast,seval]
theorem D6 {k m M s:Int}{w:List (List UInt8)}{e:List Typ}{f:List TFd}(h:eW k (.mk k m M s w e f)=false):(¬ k=3->s=0)/\(¬ k=8->e.length=0)/\(¬ 9<=k->f.length=0):=by
 simp only[eW,i6,Bool.or_eq_false_iff] at h
 obtain⟨_,h2,_,h4,h5⟩:=h
 refine⟨fun a=>?_,fun a=>?_,fun a=>?_⟩
 ·rw[decide_eq_false a] at h2;simpa using h2
 ·rw[decide_eq_false a] at h4;simpa using h4
 ·rw[decide_eq_false a] at h5;simpa using h5
theorem pb {k:Int}{e f:Nat}{L:Int}(h1:¬ (k=8/\e=0))(h2:¬ (k=10/\f=0))(h3:¬ (k=8/\1<e)):(if ¬ bu k e f=0 then bu k e f else L)=if 64<f then 9 else L:=by
 unfold bu;rw[if_neg h1,if_neg h2,if_neg h3]
 by_cases h:64<f<;>simp[h]
theorem UD (k:Int)(hk:1<=k/\k<=10):∃ a b,ak Tryz.prog aq 198 [.int .i64 k] (.tup [.int .i64 a,.int .i64 b])/\(2<=k/\k<=8->a=loK k/\b=hiK k):=by
 have hc:(2<=k/\k<=8)\/k=1\/k=9\/k=10:=by omega
 rcases hc with h | rfl | rfl | rfl
 ·exact⟨_,_,Dm k h,fun _=>⟨rfl,rfl⟩⟩
 all_goals
  refine⟨0,256,?_,fun h=>absurd h (by omega)⟩
  refine ak.intro O3.2 (by simp[O3]) ?_
  simp(disch:=try exact dI) only[O3,push_cast,seval]
section
variable (m M s:Int)(w:List (List UInt8))(e:List Typ)(f:List TFd)
theorem P4 (k:Int)(hw:∀ x∈w,x.length<=140737488351232):ak Tryz.prog aq 148 [(Typ.mk k m M s w e f).pv] (.int .i64 (fj (.mk k m M s w e f))):=by
 have hi:=ln k 1 10
 by_cases hk:inB k 1 10=false
 ·rw[hk] at hi
  rw[show fj (.mk k m M s w e f)=11 by simp[fj,hk]]
  refine ak.intro O9.2 (by simp[O9]) ?_
  simp(disch:=try exact dI) only[O9,Typ.pv_mk,push_cast,seval]
  refine ab.pure hi rfl ?_
  exact qsZ
 have hk:inB k 1 10=true:=by simpa using hk
 have hr:1<=k/\k<=10:=by simpa[inB] using hk
 rw[hk] at hi
 have hu:=A0 m M s w e f k hr
 obtain⟨a,b,hl,hab⟩:=UD k hr
 have hj:=ln k 2 8
 have hb:=Fc m M s w e f k a b
 have hs:=ln s 0 12
 have hfl:=Ee k m M s w e f
 have hws:=F2 k m M s w e f hw
 simp only[Typ.pv_mk] at hu hfl hb hws
 have hform:=D6 (k:=k) (m:=m) (M:=M) (s:=s) (w:=w) (e:=e) (f:=f)
 rw[show fj (.mk k m M s w e f)=if eW k (.mk k m M s w e f)=true then 3 else if ¬ cH k m M s w=0 then cH k m M s w else if ¬ bu k e.length f.length=0 then bu k e.length f.length else bg k [] f by rw[fj,if_neg (by rw[hk];decide)]]
 generalize eW k (.mk k m M s w e f)=q at hu hform ⊢
 refine ak.intro O9.2 (by simp[O9]) ?_
 simp(disch:=try exact dI) only[O9,Typ.pv_mk,push_cast,seval]
 refine ab.pure hi rfl ?_
 refine zgZ ?_
 refine ab.pure hu rfl ?_
 cases q with
 | true=>
   rw[if_pos rfl]
   exact qsZ
 | false=>
 rw[if_neg (show ¬ false=true by decide)]
 obtain⟨hf3,hf8,hf9⟩:=hform rfl
 by_cases hw4:k=4/\0<w.length
 ·have hw0I:(0:Int)<(w.length:Int):=by omega
  have h4:=hw4.1
  obtain rfl:=List.length_eq_zero_iff.1 (hf9 (by omega))
  rw[pb (by omega) (by omega) (by omega),show cH k m M s w=bG m M w by unfold cH;rw[if_pos hw4],if_neg (show ¬ 64<([]:List TFd).length by decide),show bg k [] []=0 from rfl]
  generalize bG m M w=z at hws ⊢
  rw[show (if ¬ z=0 then z else 0)=z by by_cases h:z=0<;>simp[h]]
  simp(disch:=try exact dI) only[eq_true h4,hw0I,push_cast,seval]
  refine ab.pure hws rfl ?_
  exact qsZ
 have hJ:(inB k 2 8=true/\(2<=k/\k<=8)/\a=loK k/\b=hiK k)\/(inB k 2 8=false/\¬ (2<=k/\k<=8)):=by
  by_cases h:2<=k/\k<=8
  ·exact .inl ⟨by simpa[inB] using h,h,hab h⟩
  ·exact .inr ⟨by simp[inB];omega,h⟩
 by_cases h4:k=4
 case' pos=>
  have hw0I:¬ (0:Int)<(w.length:Int):=by omega
  have h4':=eq_true h4
 case' neg=>
  have hw0I:=h4
  have h4':=eq_false h4
 all_goals
  rcases hJ with ⟨g,hq,rfl,rfl⟩ | ⟨g,hq⟩
  all_goals
   rw[g] at hj
   simp(disch:=try exact dI) only[h4',hw0I,push_cast,seval]
   refine ab.pure hl rfl ?_
   refine zgZ ?_
   refine ab.pure hj rfl ?_
   refine zgZ ?_
   try
    by_cases hA:M<m\/m<loK k\/hiK k<M
    ·rw[show cH k m M s w=2 by unfold cH;rw[if_neg hw4,if_pos ⟨hq,hA⟩],if_pos (show ¬ (2:Int)=0 by decide)]
     rw[decide_eq_false (not_not_intro hA)] at hb
     refine ab.pure hb rfl ?_
     exact qsZ
    rw[decide_eq_true hA] at hb
    refine ab.pure hb rfl ?_
    refine zgZ ?_
    skip
   have hB:cH k m M s w=if inB s 0 12=false then 2 else 0:=by
    unfold cH
    rw[if_neg hw4,if_neg (by first | exact fun h=>hq h.1 | exact fun h=>hA h.2)]
    by_cases h3:k=3
    ·simp[h3]
    ·rw[if_neg (fun h=>h3 h.1),hf3 h3];rfl
   rw[hB]
   generalize inB s 0 12=q at hs ⊢
   refine ab.pure hs rfl ?_
   cases q
   case' false=>rw[if_pos rfl,if_pos (by decide)];simp(disch:=try exact dI) only[push_cast,seval]
   case' true=>
    rw[if_neg (show ¬ true=false by decide),if_neg (by decide)]
    have hcs:(k=8/\e.length=0)\/(k=8/\¬ e.length=0/\1<e.length)\/(k=10/\f.length=0)\/((¬ (k=8/\e.length=0)/\¬ (k=10/\f.length=0))/\¬ (k=8/\1<e.length)):=by omega
    rcases hcs with ⟨h8,he⟩ | ⟨h8,he,he1⟩ | ⟨h8,he⟩ | ⟨⟨h1,h2⟩,h3⟩
    ·rw[if_pos (by simp[bu,h8,he]),show bu k e.length f.length=4 by simp[bu,h8,he]]
     have he:(e.length:Int)=0:=by omega
     simp(disch:=try exact dI) only[eq_true h8,he,push_cast,seval]
    ·rw[if_pos (by simp[bu,h8,he,he1]),show bu k e.length f.length=3 by simp[bu,h8,he,he1]]
     have he:¬ (e.length:Int)=0:=by omega
     have he1:(1:Int)<(e.length:Int):=by omega
     have h10:¬ k=10:=by omega
     simp(disch:=try exact dI) only[eq_true h8,eq_false h10,he,he1,push_cast,seval]
    ·have h8':¬ k=8:=by omega
     rw[if_pos (by simp[bu,h8,he]),show bu k e.length f.length=4 by simp[bu,h8,he]]
     have he:(f.length:Int)=0:=by omega
     simp(disch:=try exact dI) only[eq_true h8,eq_false h8',he,push_cast,seval]
    ·have he1I:¬ (1:Int)<(e.length:Int):=by
      by_cases a:k=8
      ·omega
      ·have:=hf8 a;omega
     rw[pb h1 h2 h3]
     generalize (if 64<f.length then 9 else bg k [] f)=L at hfl ⊢
     by_cases a:k=8
     case' pos=>
      have b:¬ k=10:=by omega
      have g:¬ (e.length:Int)=0:=by omega
      simp(disch:=try exact dI) only[eq_true a,eq_false b,g,he1I,push_cast,seval]
     case' neg=>
      by_cases b:k=10
      case' pos=>
       have g:¬ (f.length:Int)=0:=by omega
       simp(disch:=try exact dI) only[eq_false a,eq_true b,g,he1I,push_cast,seval]
      case' neg=>simp(disch:=try exact dI) only[eq_false a,eq_false b,he1I,push_cast,seval]
     all_goals
      refine ab.pure hfl rfl ?_
      exact qsZ
end
end Go.Proofs.YtbaaokocnegdoaaGreatDoor

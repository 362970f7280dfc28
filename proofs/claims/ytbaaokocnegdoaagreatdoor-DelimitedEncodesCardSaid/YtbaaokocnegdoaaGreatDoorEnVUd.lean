/- A part. -/
import Derived.Test.YtbaaokocnegdoaaGreatDoorEnVU8
set_option linter.unusedVariables false
set_option linter.unusedSimpArgs false
set_option maxHeartbeats 16000000
set_option maxRecDepth 100000
open List renaming length_append->Vp,append_nil->VZ,append_assoc->VQ,getElem?_eq_getElem->Vg
open Int renaming add_sub_cancel->VD
namespace Go.Proofs.YtbaaokocnegdoaaGreatDoor
open Go Go.Ab
attribute [local irreducible] vc
theorem yx {v:Val}(h:Mr v=0):(aX v).length<=256:=by
 unfold Mr at h
 split at h
 ·cases h
 split at h
 ·cases h
 split at h
 ·cases h
 obtain⟨k,n,s,t,l,f⟩:=v
 by_cases h8:k=8
 ·subst h8
  rw[cg (v:=.mk 8 n s t l f) (.inl rfl)]
  rw[show be (.mk 8 n s t l f)=dm l.length 256 9 from rfl] at h
  simp only[Val.lst]
  unfold dm at h
  split at h
  ·cases h
  ·omega
 by_cases h10:k=10
 ·subst h10
  rw[cg (v:=.mk 10 n s t l f) (.inr rfl)]
  rw[show be (.mk 10 n s t l f)=(if bP t=false then 12 else if l.length=0 then 4 else dm l.length 1 3) from rfl] at h
  simp only[Val.lst]
  split at h
  ·cases h
  split at h
  ·cases h
  unfold dm at h
  split at h
  ·cases h
  ·omega
 by_cases h9:k=9
 ·subst h9
  rw[dv (v:=.mk 9 n s t l f) rfl]
  rw[show be (.mk 9 n s t l f)=(if dm f.length 64 9=0 then fo none (f.map Fld.name) else dm f.length 64 9) from rfl] at h
  simp only[Val.fields,List.length_map]
  split at h
  ·rename_i hm
   unfold dm at hm
   split at hm
   ·cases hm
   ·omega
  ·rename_i hm;exact absurd h hm
 ·rw[eu (v:=.mk k n s t l f) (by simp only[Val.kind];omega) h9];simp
theorem wG (v:Val)(hd:cL 9 v)(hv:v.ok):ae Tryz.prog aq 201 [v.pv] (.int .i64 (jg 0 (ck 9 1 v))):=by
 obtain⟨R,hR⟩:∃ R,R=jg 0 (ck 9 1 v):=⟨_,rfl⟩
 rw[<- hR]
 have hS:j9 [(1,v)]=ck 9 1 v:=by simp[j9]
 obtain⟨k,n,s,t,l,f⟩:=v
 refine ae.intro Oe.2 (by simp[Oe]) ?_
 simp(disch:=try exact dI) only[Oe,Vf,push_cast,seval]
 refine ap ([]) (fun x:List (Int×Val)×Nat×List PV=>[(3,.row 0 7 0 x.1.length),(4,.pv (.int .i64 (x.2.1:Int)))]) (fun x=>[(0,.cells 259 false ((sK x.1++x.2.2).map AV.pv))]) (fun x=>x.2.1<=4096/\x.1.length<=1+256*x.2.1/\R=jg x.2.1 (j9 x.1)/\∀ q∈x.1,cL 9 q.2/\q.2.ok/\0<=q.1) (fun x=>4097 - x.2.1) (([(1,.mk k n s t l f)],0,[])) ?_;intro e0 σ0 n0 h0;simp(disch:=try exact dI) only[push_cast,seval] at h0;obtain⟨rfl,rfl,rfl⟩:=h0;refine⟨?_,?_,?_⟩
 ·simp(disch:=try exact dI) only[ir,mg,push_cast,seval]
 ·exact⟨by simp,by simp,by rw[hS];exact hR,fun q hq=>by rw[List.mem_singleton.1 hq];exact⟨hd,hv,by simp⟩⟩
 rintro⟨S,c,J⟩ ⟨hc,hsl,hr,hq⟩
 simp only at hc hsl hr hq
 rcases List.eq_nil_or_concat S with rfl | ⟨S',q,rfl⟩
 ·simp only[j9,List.reverse_nil,List.flatMap_nil,jg] at hr
  subst hr
  simp(disch:=try exact dI) only[Int.lt_irrefl,push_cast,seval]
  done
 rw[List.concat_eq_append] at *
 rw[Jf S' q c (hq q (by simp)).1,GA] at hr
 have hlen:(((S'++[q]).length:Nat):Int)=(S'.length:Int)+1:=by simp
 have hsl':S'.length<=256*c:=by simp at hsl;omega
 have hpl:=CU S' q J
 obtain⟨lv,⟨qk,qn,qs,qt,ql,qf⟩⟩:=q
 simp only[mg] at hpl
 have hpos:(0:Int)<(S'.length:Int)+1:=by omega
 simp(disch:=try exact dI) only[hlen,hpos,hpl,Vp,push_cast,seval]
 have hown:=PO (.mk qk qn qs qt ql qf)
 have hqd:=(hq (lv,.mk qk qn qs qt ql qf) (by simp)).1
 have hqo:=(hq (lv,.mk qk qn qs qt ql qf) (by simp)).2.1
 have hql:0<=lv:=(hq (lv,.mk qk qn qs qt ql qf) (by simp)).2.2
 by_cases h1:4096<=c
 ·have h1I:(4096:Int)<=(c:Int):=by omega
  rw[if_pos h1,if_neg (by decide)] at hr
  subst hr
  simp(disch:=try exact dI) only[h1I,decide_eq_true h1I,push_cast,seval]
 have h1I:¬ (4096:Int)<=(c:Int):=by omega
 rw[if_neg h1] at hr
 by_cases h2:8<lv
 ·rw[if_pos h2,if_neg (by decide)] at hr
  subst hr
  simp(disch:=try exact dI) only[decide_eq_false h1I,decide_eq_true h2,push_cast,seval]
 rw[if_neg h2] at hr
 have hp4:=yx (v:=.mk qk qn qs qt ql qf)
 simp only[] at hr
 generalize Mr (.mk qk qn qs qt ql qf)=z at hown hr hp4
 simp only[Vf] at hown
 by_cases hz:z=0
 ·subst hz
  rw[if_pos rfl] at hr
  have hpl':=hp4 rfl
  have hpt:=vC (.mk qk qn qs qt ql qf) (by rw[Ve] at hqo;exact hqo.2.2.2.2.1) (by rw[Ve] at hqo;exact hqo.2.2.2.2.2.2.1)
  simp only[Vf] at hpt
  simp(disch:=try exact dI) only[decide_eq_false h1I,decide_eq_false h2,push_cast,seval]
  refine ab.pure hown rfl ?_
  refine zgZ ?_
  refine ab.pure hpt rfl ?_
  refine zgZ ?_
  obtain⟨P,hP⟩:∃ P,P=CN (lv,.mk qk qn qs qt ql qf):=⟨_,rfl⟩
  have hPd:=fun x (hx:x∈P)=>CM (q:=(lv,.mk qk qn qs qt ql qf)) hqd (by rw[<- hP];exact hx)
  have hPe:P=(aX (.mk qk qn qs qt ql qf)).reverse.map fun x=>(lv+1,x):=hP
  have hpo:=fun x (hx:x∈aX (.mk qk qn qs qt ql qf))=>qI hqo hx
  rw[<- hP] at hr
  clear hP hqd hpt
  generalize aX (.mk qk qn qs qt ql qf)=ps at *
  refine ap ([]) (fun x:Nat×List PV=>[(3,.row 0 7 0 (S'.length+x.1)),(8,.pv (.int .i64 ((ps.length:Int) - 1 - x.1)))]) (fun x=>[(0,.cells 259 false ((sK (S'++P.take x.1)++x.2).map AV.pv))]) (fun x=>x.1<=ps.length) (fun x=>ps.length - x.1) ((0,sK [(lv,.mk qk qn qs qt ql qf)]++J)) ?_;intro e0 σ0 n0 h0;simp(disch:=try exact dI) only[push_cast,seval] at h0;obtain⟨rfl,rfl,rfl⟩:=h0;refine⟨?_,?_,?_⟩
  ·simp(disch:=try exact dI) only[ky,List.take_zero,VZ,VQ,Int.sub_zero,push_cast,seval]
  ·exact Nat.zero_le _
  rintro⟨m,J2⟩ hm
  simp only at hm
  by_cases hml:m<ps.length
  ·obtain⟨j,hj⟩:∃ j,j=ps.length - 1 - m:=⟨_,rfl⟩
   have hjI:(ps.length:Int) - 1 - (m:Int)=(j:Int):=by omega
   obtain⟨x,hx⟩:∃ x,ps[j]? = some x:=⟨_,Vg (by omega)⟩
   have hPm:P[m]? = some (lv+1,x):=by rw[hPe,List.getElem?_map,List.getElem?_reverse hml,<- hj,hx];rfl
   have hts:=aD hPm
   have hPl:P.length=ps.length:=by rw[hPe];simp
   have hSl:(S'++P.take m).length=S'.length+m:=by rw[Vp,List.length_take];omega
   have heq:sK (S'++P.take (m+1))++[]=sK (S'++P.take m)++(mg (lv+1,x)).cells:=by
    rw[hts,<- VQ,ky (S'++P.take m),ir,VZ]
   have happ:=fun new=>Jt (new:=new) (r:=0) (f:=false) (J:=J2) (y:=mg (lv+1,x)) hSl (by omega)
   obtain⟨xk,xn,xs,xt,xl,xf⟩:=x
   simp only[mg,ag] at happ heq
   simp only[hjI]
   have hj0:(0:Int)<=(j:Int):=by omega
   have hlv:lv+1<=9:=by omega
   have hB:(j:Int) - 1=(ps.length:Int) - 1 - ((m:Int)+1):=by omega
   simp(disch:=try exact dI) only[hx,Option.map_some,Vf,ag,happ,push_cast,seval]
   exact⟨(m+1,[]),aI (by simp(disch:=try exact dI) only[heq,hB,Nat.add_assoc,push_cast,seval]),by simp only;omega,by simp only;omega⟩
  ·obtain rfl:m=ps.length:=by omega
   have hPl:P.length=ps.length:=by rw[hPe];simp
   have hneg:¬ (0:Int)<=(ps.length:Int) - 1 - (ps.length:Int):=by omega
   rw[List.take_of_length_le (by omega)]
   simp(disch:=try exact dI) only[hneg,push_cast,seval]
   exact⟨(S'++P,c+1,J2),aI (by simp(disch:=try exact dI) only[hPl,Vp,push_cast,seval]),⟨by simp only;omega,by simp only[Vp];omega,hr,fun q hq'=>by
    rcases List.mem_append.1 hq' with h | h
    ·exact hq q (by simp[h])
    ·have h':=hPd q h
     rw[hPe] at h
     obtain⟨y,hy,rfl⟩:=List.mem_map.1 h
     exact⟨h',hpo y (List.mem_reverse.1 hy),by simp only;omega⟩⟩,by simp only;omega⟩
 ·rw[if_neg hz] at hr
  subst hr
  simp(disch:=try exact dI) only[decide_eq_false h1I,decide_eq_false h2,push_cast,seval]
  refine ab.pure hown rfl ?_
  simp(disch:=try exact dI) only[hz,push_cast,seval]
theorem AG (n:Nat)(t:Typ)(v:Val)(hd:cL 9 v)(hv:v.ok)(hP:jg 0 (ck 9 1 v)=0->rr n t v):ae Tryz.prog aq 149 [t.pv,v.pv] (.bool (accB n t v)):=by
 have hc:=wG v hd hv
 simp only[accB]
 generalize jg 0 (ck 9 1 v)=z at hc hP ⊢
 by_cases hz:z=0
 ·have hh:=Kn n t v (hP hz)
  subst hz
  generalize bp n t v=b at hh ⊢
  obtain⟨k,m,M,s,w,e,f⟩:=t
  obtain⟨vk,vn,vs,vt,vl,vf⟩:=v
  simp only[Vd,Vf] at hc hh
  refine ae.intro OQ.2 (by simp[OQ]) ?_
  simp(disch:=try exact dI) only[OQ,Vd,Vf,push_cast,seval]
  refine ab.pure hc rfl ?_
  refine zgZ ?_
  refine ab.pure hh rfl ?_
  exact qsZ
 ·rw[decide_eq_false hz,Bool.false_and]
  obtain⟨k,m,M,s,w,e,f⟩:=t
  obtain⟨vk,vn,vs,vt,vl,vf⟩:=v
  simp only[Vd,Vf] at hc
  refine ae.intro OQ.2 (by simp[OQ]) ?_
  simp(disch:=try exact dI) only[OQ,Vd,Vf,push_cast,seval]
  refine ab.pure hc rfl ?_
  simp(disch:=try exact dI) only[hz,push_cast,seval]
theorem Lm (s:List UInt8)(hs:s.length<=140737488351232):ae Tryz.prog aq 201 [(dH s).pv] (.int .i64 (m9 s)):=by
 have h:=wG (dH s) (by simp[cL,aX,dH,Val.kind]) (by simp[dH,Ve,I64,hs])
 rw[show ck 9 1 (dH s)=ck 1 1 (dH s) from rfl,wE] at h
 exact h
theorem F7 (k m M s:Int)(ws:List (List UInt8))(e:List Typ)(f:List TFd)(hw:∀ w∈ws,w.length<=140737488351232):ae Tryz.prog aq 197 [(Typ.mk k m M s ws e f).pv] (.int .i64 (bH m M ws)):=by
 refine ae.intro OM.2 (by simp[OM]) ?_
 by_cases hm:m=0
 ·by_cases hM:M=0
  ·by_cases h64:64<ws.length
   ·rw[show bH m M ws=9 by simp[bH,hm,hM,h64]]
    simp(disch:=try exact dI) only[OM,Vd,hm,hM,push_cast,seval]
   ·rw[show bH m M ws=fD none ws by simp[bH,hm,hM,h64]]
    obtain⟨R,hR⟩:∃ R,R=fD none ws:=⟨_,rfl⟩
    rw[<- hR]
    simp(disch:=try exact dI) only[OM,Vd,hm,hM,push_cast,seval]
    refine ap ([]) (fun i:Nat=>[(3,.pv (.int .i64 (i:Int)))]) (fun _=>[]) (fun i=>i<=ws.length/\R=fD (iB ws i) (ws.drop i)) (fun i=>ws.length - i) (0) ?_;intro e0 σ0 n0 h0;simp(disch:=try exact dI) only[push_cast,seval] at h0;obtain⟨rfl,rfl,rfl⟩:=h0;refine⟨?_,?_,?_⟩
    ·exact qsZ
    ·exact⟨by omega,by simpa[iB] using hR⟩
    rintro i ⟨hi,hr⟩
    by_cases hlt:i<ws.length
    ·have hltI:(i:Int)<(ws.length:Int):=by omega
     obtain⟨w,hwi⟩:∃ w,ws[i]? = some w:=⟨_,Vg hlt⟩
     have hcp:(ws.map PV.str)[i]? = some (.str w):=by simp[hwi]
     have hc:=Lm w (hw w (List.mem_of_getElem? hwi))
     simp only[dH,Vf,List.map_nil] at hc
     rw[kU hwi] at hr
     have hnext:iB ws (i+1)=some w:=by simp[iB,hwi]
     generalize m9 w=z at hc hr
     by_cases hz:z=0
     ·subst hz
      rw[if_pos rfl] at hr
      by_cases hi0:i=0
      ·have hiI:¬ (0:Int)<(i:Int):=by omega
       have hpn:iB ws i=none:=if_pos hi0
       rw[hpn,if_neg (by simp),if_neg (by simp),<- hnext] at hr
       simp(disch:=try exact dI) only[hcp,push_cast,seval]
       refine ab.pureN hc rfl qsZ ?_
       refine zgZ ?_
       exact⟨i+1,aI qsZ,⟨by omega,hr⟩,by omega⟩
      ·obtain⟨j,rfl⟩:∃ j,i=j+1:=⟨i - 1,by omega⟩
       obtain⟨q,hq'⟩:∃ q,ws[j]? = some q:=⟨_,Vg (by omega)⟩
       have hpn:iB ws (j+1)=some q:=by simp[iB,hq']
       have hcq:(ws.map PV.str)[j]? = some (.str q):=by simp[hq']
       rw[hpn] at hr
       by_cases hq:w=q
       ·subst hq
        rw[if_pos rfl] at hr
        subst hr
        simp(disch:=try exact dI) only[hcp,VD,push_cast,seval]
        refine ab.pureN hc rfl qsZ ?_
        simp(disch:=try exact dI) only[hcp,hcq,VD,push_cast,seval]
       ·rw[if_neg (by simpa using fun e=>hq e.symm)] at hr
        cases hlt2:bg w q with
        | true=>
          rw[if_pos (by simpa using hlt2)] at hr
          subst hr
          simp(disch:=try exact dI) only[hcp,VD,push_cast,seval]
          refine ab.pureN hc rfl qsZ ?_
          simp(disch:=try exact dI) only[hcp,hcq,VD,hq,hlt2,push_cast,seval]
        | false=>
          rw[if_neg (by simp[hlt2]),<- hnext] at hr
          simp(disch:=try exact dI) only[hcp,VD,push_cast,seval]
          refine ab.pureN hc rfl qsZ ?_
          simp(disch:=try exact dI) only[hcp,hcq,VD,hq,hlt2,push_cast,seval]
          exact⟨j+1+1,aI qsZ,⟨by omega,hr⟩,by omega⟩
     ·rw[if_neg hz] at hr
      subst hr
      simp(disch:=try exact dI) only[hcp,push_cast,seval]
      refine ab.pureN hc rfl qsZ ?_
      exact qsZ
    ·have hie:i=ws.length:=by omega
     subst hie
     rw[List.drop_length] at hr
     rw[show R=0 from hr]
     exact qsZ
  ·rw[show bH m M ws=3 by simp[bH,hM]]
   simp(disch:=try exact dI) only[OM,Vd,hm,hM,push_cast,seval]
 ·rw[show bH m M ws=3 by simp[bH,hm]]
  simp(disch:=try exact dI) only[OM,Vd,hm,push_cast,seval]
theorem Ef {k m M s:Int}{w:List (List UInt8)}{e:List Typ}{f:List TFd}(h:fy k (.mk k m M s w e f)=false):(¬ k=3->s=0)/\(¬ k=8->e.length=0)/\(¬ 9<=k->f.length=0):=by
 simp only[fy,jD,Bool.or_eq_false_iff] at h
 obtain⟨_,h2,_,h4,h5⟩:=h
 refine⟨fun a=>?_,fun a=>?_,fun a=>?_⟩
 ·rw[decide_eq_false a] at h2;simpa using h2
 ·rw[decide_eq_false a] at h4;simpa using h4
 ·rw[decide_eq_false a] at h5;simpa using h5
theorem pX {k:Int}{e f:Nat}{L:Int}(h1:¬ (k=8/\e=0))(h2:¬ (k=10/\f=0))(h3:¬ (k=8/\1<e)):(if ¬ bv k e f=0 then bv k e f else L)=if 64<f then 9 else L:=by
 unfold bv;rw[if_neg h1,if_neg h2,if_neg h3]
 by_cases h:64<f<;>simp[h]
theorem UP (k:Int)(hk:1<=k/\k<=10):∃ a b,ae Tryz.prog aq 198 [.int .i64 k] (.tup [.int .i64 a,.int .i64 b])/\(2<=k/\k<=8->a=loK k/\b=hiK k):=by
 have hc:(2<=k/\k<=8)\/k=1\/k=9\/k=10:=by omega
 rcases hc with h | rfl | rfl | rfl
 ·exact⟨_,_,DD k h,fun _=>⟨rfl,rfl⟩⟩
 all_goals
  refine⟨0,256,?_,fun h=>absurd h (by omega)⟩
  refine ae.intro OL.2 (by simp[OL]) ?_
  simp(disch:=try exact dI) only[OL,push_cast,seval]
section
variable (m M s:Int)(w:List (List UInt8))(e:List Typ)(f:List TFd)
theorem PP (k:Int)(hw:∀ x∈w,x.length<=140737488351232):ae Tryz.prog aq 148 [(Typ.mk k m M s w e f).pv] (.int .i64 (fv (.mk k m M s w e f))):=by
 have hi:=mj k 1 10
 by_cases hk:inB k 1 10=false
 ·rw[hk] at hi
  rw[show fv (.mk k m M s w e f)=11 by simp[fv,hk]]
  refine ae.intro OR.2 (by simp[OR]) ?_
  simp(disch:=try exact dI) only[OR,Vd,push_cast,seval]
  refine ab.pure hi rfl ?_
  exact qsZ
 have hk:inB k 1 10=true:=by simpa using hk
 have hr:1<=k/\k<=10:=by simpa[inB] using hk
 rw[hk] at hi
 have hu:=Bs m M s w e f k hr
 obtain⟨a,b,hl,hab⟩:=UP k hr
 have hj:=mj k 2 8
 have hb:=Fo m M s w e f k a b
 have hs:=mj s 0 12
 have hfl:=Ew k m M s w e f
 have hws:=F7 k m M s w e f hw
 simp only[Vd] at hu hfl hb hws
 have hform:=Ef (k:=k) (m:=m) (M:=M) (s:=s) (w:=w) (e:=e) (f:=f)
 rw[show fv (.mk k m M s w e f)=if fy k (.mk k m M s w e f)=true then 3 else if ¬ cU k m M s w=0 then cU k m M s w else if ¬ bv k e.length f.length=0 then bv k e.length f.length else bf k [] f by rw[fv,if_neg (by rw[hk];decide)]]
 generalize fy k (.mk k m M s w e f)=q at hu hform ⊢
 refine ae.intro OR.2 (by simp[OR]) ?_
 simp(disch:=try exact dI) only[OR,Vd,push_cast,seval]
 refine ab.pure hi rfl ?_
 refine zgZ ?_
 refine ab.pure hu rfl ?_
 cases q with
 | true=>
   rw[if_pos rfl]
   exact qsZ
 | false=>
 rw[if_neg (show ¬ false=true by decide)]
 obtain⟨hf3,hf8,hf9⟩:=hform rfl
 by_cases hw4:k=4/\0<w.length
 ·have hw0I:(0:Int)<(w.length:Int):=by omega
  have h4:=hw4.1
  obtain rfl:=List.length_eq_zero_iff.1 (hf9 (by omega))
  rw[pX (by omega) (by omega) (by omega),show cU k m M s w=bH m M w by unfold cU;rw[if_pos hw4],if_neg (show ¬ 64<([]:List TFd).length by decide),show bf k [] []=0 from rfl]
  generalize bH m M w=z at hws ⊢
  rw[show (if ¬ z=0 then z else 0)=z by by_cases h:z=0<;>simp[h]]
  simp(disch:=try exact dI) only[eq_true h4,hw0I,push_cast,seval]
  refine ab.pure hws rfl ?_
  exact qsZ
 have hJ:(inB k 2 8=true/\(2<=k/\k<=8)/\a=loK k/\b=hiK k)\/(inB k 2 8=false/\¬ (2<=k/\k<=8)):=by
  by_cases h:2<=k/\k<=8
  ·exact .inl ⟨by simpa[inB] using h,h,hab h⟩
  ·exact .inr ⟨by simp[inB];omega,h⟩
 by_cases h4:k=4
 case' pos=>
  have hw0I:¬ (0:Int)<(w.length:Int):=by omega
  have h4':=eq_true h4
 case' neg=>
  have hw0I:=h4
  have h4':=eq_false h4
 all_goals
  rcases hJ with ⟨g,hq,rfl,rfl⟩ | ⟨g,hq⟩
  all_goals
   rw[g] at hj
   simp(disch:=try exact dI) only[h4',hw0I,push_cast,seval]
   refine ab.pure hl rfl ?_
   refine zgZ ?_
   refine ab.pure hj rfl ?_
   refine zgZ ?_
   try
    by_cases hA:M<m\/m<loK k\/hiK k<M
    ·rw[show cU k m M s w=2 by unfold cU;rw[if_neg hw4,if_pos ⟨hq,hA⟩],if_pos (show ¬ (2:Int)=0 by decide)]
     rw[decide_eq_false (not_not_intro hA)] at hb
     refine ab.pure hb rfl ?_
     exact qsZ
    rw[decide_eq_true hA] at hb
    refine ab.pure hb rfl ?_
    refine zgZ ?_
    skip
   have hB:cU k m M s w=if inB s 0 12=false then 2 else 0:=by
    unfold cU
    rw[if_neg hw4,if_neg (by first | exact fun h=>hq h.1 | exact fun h=>hA h.2)]
    by_cases h3:k=3
    ·simp[h3]
    ·rw[if_neg (fun h=>h3 h.1),hf3 h3];rfl
   rw[hB]
   generalize inB s 0 12=q at hs ⊢
   refine ab.pure hs rfl ?_
   cases q
   case' false=>rw[if_pos rfl,if_pos (by decide)];simp(disch:=try exact dI) only[push_cast,seval]
   case' true=>
    rw[if_neg (show ¬ true=false by decide),if_neg (by decide)]
    have hcs:(k=8/\e.length=0)\/(k=8/\¬ e.length=0/\1<e.length)\/(k=10/\f.length=0)\/((¬ (k=8/\e.length=0)/\¬ (k=10/\f.length=0))/\¬ (k=8/\1<e.length)):=by omega
    rcases hcs with ⟨h8,he⟩ | ⟨h8,he,he1⟩ | ⟨h8,he⟩ | ⟨⟨h1,h2⟩,h3⟩
    ·rw[if_pos (by simp[bv,h8,he]),show bv k e.length f.length=4 by simp[bv,h8,he]]
     have he:(e.length:Int)=0:=by omega
     simp(disch:=try exact dI) only[eq_true h8,he,push_cast,seval]
    ·rw[if_pos (by simp[bv,h8,he,he1]),show bv k e.length f.length=3 by simp[bv,h8,he,he1]]
     have he:¬ (e.length:Int)=0:=by omega
     have he1:(1:Int)<(e.length:Int):=by omega
     have h10:¬ k=10:=by omega
     simp(disch:=try exact dI) only[eq_true h8,eq_false h10,he,he1,push_cast,seval]
    ·have h8':¬ k=8:=by omega
     rw[if_pos (by simp[bv,h8,he]),show bv k e.length f.length=4 by simp[bv,h8,he]]
     have he:(f.length:Int)=0:=by omega
     simp(disch:=try exact dI) only[eq_true h8,eq_false h8',he,push_cast,seval]
    ·have he1I:¬ (1:Int)<(e.length:Int):=by
      by_cases a:k=8
      ·omega
      ·have:=hf8 a;omega
     rw[pX h1 h2 h3]
     generalize (if 64<f.length then 9 else bf k [] f)=L at hfl ⊢
     by_cases a:k=8
     case' pos=>
      have b:¬ k=10:=by omega
      have g:¬ (e.length:Int)=0:=by omega
      simp(disch:=try exact dI) only[eq_true a,eq_false b,g,he1I,push_cast,seval]
     case' neg=>
      by_cases b:k=10
      case' pos=>
       have g:¬ (f.length:Int)=0:=by omega
       simp(disch:=try exact dI) only[eq_false a,eq_true b,g,he1I,push_cast,seval]
      case' neg=>simp(disch:=try exact dI) only[eq_false a,eq_false b,he1I,push_cast,seval]
     all_goals
      refine ab.pure hfl rfl ?_
      exact qsZ
end

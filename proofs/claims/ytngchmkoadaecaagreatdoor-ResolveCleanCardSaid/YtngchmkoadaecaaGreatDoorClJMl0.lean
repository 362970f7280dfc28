/- A part. -/
import Derived.Test.YtngchmkoadaecaaGreatDoorClJMr
set_option linter.unusedVariables false
set_option linter.unusedSimpArgs false
set_option maxHeartbeats 16000000
set_option maxRecDepth 100000
open List renaming mem_map->UO,mem_of_getElem?->Us,getElem?_eq_some_iff->Ur,map_nil->Va,take_zero->U3,getElem?_eq_getElem->Uq,take_of_length_le->Ux,getElem?_map->UE
namespace Go.Proofs.YtngchmkoadaecaaGreatDoor
open Go Go.Ab
theorem kU:∀ (n:Nat) (l:List Stp),M6 (n+1) (bC n l)
 | 0,l=>by
   intro s hs
   rw[bC] at hs
   obtain⟨y,hy,rfl⟩:=UO.1 hs
   obtain⟨a,b,c,d,e,f,g,h,i,j,k⟩:=y
   have h1:(dx id false (Stp.mk a b c d e f g h i j k)).calls=(j.take 18).map xU:=_root_.id rfl
   have h2:(dx id false (Stp.mk a b c d e f g h i j k)).branches=[]:=_root_.id rfl
   rw[h1,h2]
   exact⟨by simp;omega,by simp⟩
 | n+1,l=>by
   intro s hs
   rw[bC] at hs
   obtain⟨y,hy,rfl⟩:=UO.1 hs
   obtain⟨a,b,c,d,e,f,g,h,i,j,k⟩:=y
   have h1:(dx (bC n) true (Stp.mk a b c d e f g h i j k)).calls=(j.take 18).map xU:=_root_.id rfl
   have h2:(dx (bC n) true (Stp.mk a b c d e f g h i j k)).branches=(k.take 4).map (Mn (bC n)):=_root_.id rfl
   rw[h1,h2]
   refine⟨by simp;omega,fun x hx=>?_⟩
   obtain⟨⟨w,m⟩,_,rfl⟩:=UO.1 hx
   exact kU n m
theorem uD (p:Prg):∀ r∈(eE p).routes,M6 5 r.steps:=by
 intro r hr
 rw[gd] at hr
 obtain⟨y,hy,rfl⟩:=UO.1 hr
 rw[iD]
 exact kU 4 _
theorem uC (p:Prg):(eE p).schemas.length<=1000/\(eE p).endpoints.length<=1000/\(eE p).services.length<=1000:=by
 obtain⟨v,ss,es,ws,rs⟩:=p
 refine⟨?_,?_,?_⟩<;>simp[eE,Prg.schemas,Prg.endpoints,Prg.services]<;>omega
theorem jT {α:Type}(f:α->List UInt8)(N:NS){l:List α}{m:Nat}{x:α}(h:l[m]? = some x):((l.take (m+1)).map f).foldl ff N=ff (((l.take m).map f).foldl ff N) (f x):=by
 rw[aC h,List.map_append,List.foldl_append];rfl
theorem tg (o:Option Enp):∃ (a1:List UInt8) (a2:Int) (a3:List UInt8) (a4 a5 a6:Int) (w:PV),epR o = .tup [.agg [.str a1,.int .i64 a2,.str a3,.int .i64 a4,.int .i64 a5,.int .i64 a6,w],.bool o.isSome]/\w.one=true/\(∀ x,o=some x->a2=x.kind):=by
 cases o with
 | none=>exact⟨_,_,_,_,_,_,_,rfl,rfl,fun x h=>by cases h⟩
 | some x=>
   obtain⟨x1,x2,x3,x4,⟨y1,y2,y3⟩⟩:=x
   refine⟨x1,x2,x3,x4,y1,y2,.list (y3.map (PV.int .i64)),?_,rfl,fun x h=>by cases h;rfl⟩
   rw[epR,TU,T1];rfl
theorem r9 (o:Option Svc):∃ (a1 a2 a3:List UInt8) (b:Bool),svR o = .tup [.agg [.str a1,.str a2,.str a3,.bool b],.bool o.isSome]:=by
 cases o with
 | none=>exact⟨_,_,_,_,rfl⟩
 | some x=>
   obtain⟨x1,x2,x3,x4⟩:=x
   exact⟨x1,x2,x3,x4,by rw[svR,Uf];rfl⟩
theorem C8 (p:Prg)(hp:p.ok):ap Tryz.prog aB 4 [p.pv] (.bool true):=by
 have hW:=uB p hp
 have hO:=zq p hp
 have hC:=uD p
 obtain⟨hs1,hs2,hs3⟩:=uC p
 have hS:=ET p hp
 have hK:=GM
 have hcnt:cnt 5=8659208:=by decide
 generalize eE p=q at *
 have h7:=JQ 5 (by omega) (by omega) q hW
 have h9:=AM 5 (by omega) (by omega) q hW hC hO hs1 hs2 hs3
 have h38:=Im 5 (by omega) (by omega) q hW
 have hcl:=vh aE fG q 5
 have hen:=fun nm=>Pm q nm hO
 have hse:=fun nm=>NI q nm hO
 have hlt7:=fun nm=>GI q nm hO
 have hfi:=fun r hr=>wE (Rou.steps r) (hW.2 r hr).2
 have hwA:∀ w∈cJ 5 q,w.step.ok/\w.step.calls.length<=18/\w.place.length<=900/\I64 w.route/\∀ x∈w.place,I64 x:=by
  intro w hw
  obtain⟨i,r,hr,hwm⟩:=bD hw
  have hrm:=Us hr
  have hi:i<q.routes.length:=(Ur.1 hr).1
  have hi6:=hW.1
  obtain⟨a1,a2,a3,_,a5⟩:=kP (i:Int) 5 [] r.steps w (hW.2 r hrm).1 (hW.2 r hrm).2 (hC r hrm) (by simp) hwm
  exact⟨a2,a3,by have:=(jd hw).2;omega,by rw[a1];unfold I64;omega,a5⟩
 have hwl:(cJ 5 q).length<=6*cnt 5:=Nat.le_trans (bn _ (cnt 5) _ fun r hr i=>ba _ 5 _ _ (hW.2 r hr).1) (Nat.mul_le_mul_right _ hW.1)
 unfold Bp at hcl
 generalize AN aE fG q 5=L at *
 generalize cJ 5 q=ws at *
 obtain⟨pv,ps,pe,pw,pr⟩:=p
 have hqo:=hO
 have hr6:=hW.1
 obtain⟨qv,qs,qe,qw,qr⟩:=q
 rw[T3] at hqo
 simp only[T4] at hS h7 h9 h38 hen hse hlt7
 simp only[Prg.schemas,Prg.endpoints,Prg.services,Prg.routes] at hs1 hs2 hs3 hlt7 hcl hr6 hfi
 refine ap.intro Ii (by simp[M4]) ?_
 simp(maxSteps:=9^7) (disch:=try exact dI) only[M4,T4,push_cast,seval]
 refine ab.pure hS rfl ?_
 simp(maxSteps:=9^7) (disch:=try exact dI) only[push_cast,seval]
 refine ab.pure hK rfl ?_
 by_cases hsm:ws.length<=300
 ·rw[decide_eq_true hsm] at h7
  simp(maxSteps:=9^7) (disch:=try exact dI) only[push_cast,seval]
  refine ab.pure h7 rfl ?_
  simp(maxSteps:=9^7) (disch:=try exact dI) only[push_cast,seval]
  refine ab.pure h9 rfl ?_
  by_cases hL:L=[]
  ·obtain⟨hlen,hst,hrc⟩:=hcl hL
   subst hL
   simp(maxSteps:=9^7) (disch:=try exact dI) only[List.take_nil,Va,List.length_nil,push_cast,seval]
   clear hcl
   have hNl:∀ (N:NS),(mpS N).length=N.length:=fun N=>by simp[mpS]
   refine aw ([]) (fun m:Nat=>[(4,.pv (.int .i64 (m:Int)))]) (fun m=>[(1,.mp (mpS (((qe.take m).map Enp.name).foldl ff [])))]) (fun m=>m<=qe.length) (fun m=>qe.length - m) (0) ?_;intro e0 σ0 n0 h0;simp(maxSteps:=9^7) (disch:=try exact dI) only[push_cast,seval] at h0;obtain⟨rfl,rfl,rfl⟩:=h0;refine⟨?_,?_,?_⟩
   ·simp(maxSteps:=9^7) (disch:=try exact dI) only[U3,Va,List.foldl_nil,Br,push_cast,seval]
   ·omega
   intro m hm
   by_cases hlt:m<qe.length
   ·have hltI:(m:Int)<qe.length:=by omega
    obtain⟨x,hx⟩:∃ x,qe[m]? = some x:=⟨_,Uq hlt⟩
    have hsn:=jT Enp.name [] hx
    obtain⟨x1,x2,x3,x4,⟨y1,y2,y3⟩⟩:=x
    simp only[Enp.name] at hsn
    simp(maxSteps:=9^7) (disch:=try exact dI) only[hx,TU,T1,push_cast,seval]
    exact⟨m+1,aN (by simp(maxSteps:=9^7) (disch:=try exact dI) only[hsn,push_cast,seval]),by omega,by omega⟩
   have hltI:¬ (m:Int)<qe.length:=by omega
   have hle:qe.take m=qe:=Ux (by omega)
   rw[hle]
   generalize (qe.map Enp.name).foldl ff []=NE at *
   simp(maxSteps:=9^7) (disch:=try exact dI) only[push_cast,seval]
   clear hle hltI hlt hm
   refine aw ([]) (fun m:Nat=>[(5,.pv (.int .i64 (m:Int)))]) (fun m=>[(1,.mp (mpS (((qw.take m).map Svc.name).foldl ff NE)))]) (fun m=>m<=qw.length) (fun m=>qw.length - m) (0) ?_;intro e0 σ0 n0 h0;simp(maxSteps:=9^7) (disch:=try exact dI) only[push_cast,seval] at h0;obtain⟨rfl,rfl,rfl⟩:=h0;refine⟨?_,?_,?_⟩
   ·simp(maxSteps:=9^7) (disch:=try exact dI) only[U3,Va,List.foldl_nil,push_cast,seval]
   ·omega
   intro m hm
   by_cases hlt:m<qw.length
   ·have hltI:(m:Int)<qw.length:=by omega
    obtain⟨x,hx⟩:∃ x,qw[m]? = some x:=⟨_,Uq hlt⟩
    have hsn:=jT Svc.name NE hx
    obtain⟨x1,x2,x3,x4⟩:=x
    simp only[Svc.name] at hsn
    simp(maxSteps:=9^7) (disch:=try exact dI) only[hx,Uf,push_cast,seval]
    exact⟨m+1,aN (by simp(maxSteps:=9^7) (disch:=try exact dI) only[hsn,push_cast,seval]),by omega,by omega⟩
   have hltI:¬ (m:Int)<qw.length:=by omega
   have hle:qw.take m=qw:=Ux (by omega)
   rw[hle]
   generalize (qw.map Svc.name).foldl ff NE=NV at *
   simp(maxSteps:=9^7) (disch:=try exact dI) only[push_cast,seval]
   clear hle hltI hlt hm
   refine ab.pure h38 rfl ?_
   simp(maxSteps:=9^7) (disch:=try exact dI) only[push_cast,seval]
   refine aw ([]) (fun m:Nat=>[(7,.pv (.int .i64 (m:Int)))]) (fun m=>[(1,.mp (mpS (((ws.take m).map vG).foldl ff NV)))]) (fun m=>m<=ws.length) (fun m=>ws.length - m) (0) ?_;intro e0 σ0 n0 h0;simp(maxSteps:=9^7) (disch:=try exact dI) only[push_cast,seval] at h0;obtain⟨rfl,rfl,rfl⟩:=h0;refine⟨?_,?_,?_⟩
   ·simp(maxSteps:=9^7) (disch:=try exact dI) only[U3,Va,List.foldl_nil,push_cast,seval]
   ·omega
   intro m hm
   by_cases hlt:m<ws.length
   ·have hltI:(m:Int)<ws.length:=by omega
    obtain⟨x,hx⟩:∃ x,ws[m]? = some x:=⟨_,Uq hlt⟩
    have hsn:=jT vG NV hx
    have hxm:=Us hx
    obtain⟨z1,z2,z3,z4,z5⟩:=hwA x hxm
    obtain⟨d1,d2,d3⟩:=hst x hxm
    have hnm:=Gs x z4 z3 z5
    obtain⟨nm,hnmE⟩:∃ nm,vG x=nm:=⟨_,rfl⟩
    rw[show nmW x.route x.place x.step=nm from hnmE] at hnm
    rw[hnmE] at hsn
    obtain⟨wr,wp,⟨s1,s2,s3,s4,s5,s6,s7,s8,s9,sa,sb⟩⟩:=x
    simp only[Wkd.step,Stp.calls,Stp.kind,Stp.text,Stp.schema,Uc] at d1 d2 d3 z1 z2
    obtain⟨a1,a2,a3,a4,a5,a6,w,he,hw1,hak⟩:=tg (epO (.mk qv qs qe qw qr) s6)
    have he6:=hen s6
    rw[he] at he6
    have hl7:=hlt7 s7
    simp only[Up,Ud,ae,List.cons_append,List.nil_append] at hnm
    have hb1:s2=13->(epO (.mk qv qs qe qw qr) s6).isSome=true:=d1
    have hge:s7≠[]->¬ cj (eT qs s7 qs.length)<0:=by
     intro h
     have h2:(eT qs s7 qs.length).isSome=true:=d2 (decide_eq_false h)
     cases hq:eT qs s7 qs.length with
     | none=>rw[hq] at h2;cases h2
     | some k=>simp only[cj];omega
    clear he hak d1 d2
    generalize (epO (.mk qv qs qe qw qr) s6).isSome=b at *
    generalize cj (eT qs s7 qs.length)=ix at *
    have hkb:(s2=13/\b=true)\/¬ s2=13:=by
     by_cases hk:s2=13
     ·exact .inl ⟨hk,hb1 hk⟩
     ·exact .inr hk
    clear hb1
    by_cases hs:s7=[]
    ·subst hs
     rcases hkb with ⟨hk,rfl⟩ | hk
     all_goals
      try simp only[hk] at hnm
      simp(maxSteps:=9^7) (disch:=try exact dI) only[hx,Up,Ud,ae,hk,push_cast,seval]
      refine ab.pure hnm rfl ?_
      simp(maxSteps:=9^7) (disch:=try exact dI) only[hk,push_cast,seval]
      refine ab.pure he6 rfl ?_
      simp(maxSteps:=9^7) (disch:=try exact dI) only[hk,hw1,push_cast,seval]
      refine aw ([]) (fun j:Nat=>[(11,.pv (.int .i64 (j:Int)))]) (fun _=>[]) (fun j=>j<=sa.length) (fun j=>sa.length - j) (0) ?_;intro e0 σ0 n0 h0;simp(maxSteps:=9^7) (disch:=try exact dI) only[push_cast,seval] at h0;obtain⟨rfl,rfl,rfl⟩:=h0;refine⟨?_,?_,?_⟩
      ·first | (simp(maxSteps:=9^7) (disch:=try exact dI) only[push_cast,seval]) | skip
      ·omega
      intro j hj
      by_cases hjl:j<sa.length
      ·have hjI:(j:Int)<sa.length:=by omega
       obtain⟨c,hc⟩:∃ c,sa[j]? = some c:=⟨_,Uq hjl⟩
       have hcs:(svO (.mk qv qs qe qw qr) c.service).isSome=true:=d3 c (Us hc)
       obtain⟨e1,e2,e3,e4,he⟩:=r9 (svO (.mk qv qs qe qw qr) c.service)
       have hsv:=hse c.service
       rw[he,hcs] at hsv
       obtain⟨c1,c2⟩:=c
       simp only[Cal.service] at hsv
       simp(maxSteps:=9^7) (disch:=try exact dI) only[hc,TS,push_cast,seval]
       refine au hsv rfl ?_
       simp(maxSteps:=9^7) (disch:=try exact dI) only[hc,TS,push_cast,seval]
       exact⟨j+1,aN qsZ,by omega,by omega⟩
      have hjI:¬ (j:Int)<sa.length:=by omega
      simp(maxSteps:=9^7) (disch:=try exact dI) only[push_cast,seval]
      exact⟨m+1,aN (by simp(maxSteps:=9^7) (disch:=try exact dI) only[hsn,push_cast,seval]),by omega,by omega⟩
    ·have hge2:=hge hs
     rcases hkb with ⟨hk,rfl⟩ | hk
     all_goals
      try simp only[hk] at hnm
      simp(maxSteps:=9^7) (disch:=try exact dI) only[hx,Up,Ud,ae,hk,hs,push_cast,seval]
      refine ab.pure hnm rfl ?_
      simp(maxSteps:=9^7) (disch:=try exact dI) only[hk,hs,push_cast,seval]
      refine ab.pure he6 rfl ?_
      simp(maxSteps:=9^7) (disch:=try exact dI) only[hk,hw1,hs,push_cast,seval]
      refine ab.pure hl7 rfl ?_
      simp(maxSteps:=9^7) (disch:=try exact dI) only[hk,hs,hge2,push_cast,seval]
      refine aw ([]) (fun j:Nat=>[(11,.pv (.int .i64 (j:Int)))]) (fun _=>[]) (fun j=>j<=sa.length) (fun j=>sa.length - j) (0) ?_;intro e0 σ0 n0 h0;simp(maxSteps:=9^7) (disch:=try exact dI) only[push_cast,seval] at h0;obtain⟨rfl,rfl,rfl⟩:=h0;refine⟨?_,?_,?_⟩
      ·first | (simp(maxSteps:=9^7) (disch:=try exact dI) only[push_cast,seval]) | skip
      ·omega
      intro j hj
      by_cases hjl:j<sa.length
      ·have hjI:(j:Int)<sa.length:=by omega
       obtain⟨c,hc⟩:∃ c,sa[j]? = some c:=⟨_,Uq hjl⟩
       have hcs:(svO (.mk qv qs qe qw qr) c.service).isSome=true:=d3 c (Us hc)
       obtain⟨e1,e2,e3,e4,he⟩:=r9 (svO (.mk qv qs qe qw qr) c.service)
       have hsv:=hse c.service
       rw[he,hcs] at hsv
       obtain⟨c1,c2⟩:=c
       simp only[Cal.service] at hsv
       simp(maxSteps:=9^7) (disch:=try exact dI) only[hc,TS,push_cast,seval]
       refine au hsv rfl ?_
       simp(maxSteps:=9^7) (disch:=try exact dI) only[hc,TS,push_cast,seval]
       exact⟨j+1,aN qsZ,by omega,by omega⟩
      have hjI:¬ (j:Int)<sa.length:=by omega
      simp(maxSteps:=9^7) (disch:=try exact dI) only[push_cast,seval]
      exact⟨m+1,aN (by simp(maxSteps:=9^7) (disch:=try exact dI) only[hsn,push_cast,seval]),by omega,by omega⟩
   have hltI:¬ (m:Int)<ws.length:=by omega
   have hle:ws.take m=ws:=Ux (by omega)
   rw[hle]
   generalize (ws.map vG).foldl ff NV=NF at *
   simp(maxSteps:=9^7) (disch:=try exact dI) only[push_cast,seval]
   clear hle hltI hlt hm
   refine aw ([]) (fun m:Nat=>[(14,.pv (.int .i64 (m:Int)))]) (fun m=>[]) (fun m=>m<=qr.length) (fun m=>qr.length - m) (0) ?_;intro e0 σ0 n0 h0;simp(maxSteps:=9^7) (disch:=try exact dI) only[push_cast,seval] at h0;obtain⟨rfl,rfl,rfl⟩:=h0;refine⟨?_,?_,?_⟩
   ·first | (simp(maxSteps:=9^7) (disch:=try exact dI) only[push_cast,seval]) | skip
   ·omega
   intro m hm
   by_cases hlt:m<qr.length
   ·have hltI:(m:Int)<qr.length:=by omega
    obtain⟨x,hx⟩:∃ x,qr[m]? = some x:=⟨_,Uq hlt⟩
    have hxm:=Us hx
    have hf:=hfi x hxm
    obtain⟨d1,d2,d3⟩:=hrc x hxm
    rw[d3] at hf
    obtain⟨x1,x2,x3⟩:=x
    simp only[Rou.src,Rou.steps] at d1 d2 hf
    obtain⟨a1,a2,a3,a4,a5,a6,w,he,hw1,hak⟩:=tg (epO (.mk qv qs qe qw qr) x2)
    have he2:=hen x2
    have hb1:(epO (.mk qv qs qe qw qr) x2).isSome=true:=d1
    have hk2:¬ a2=2:=by
     obtain⟨y,hy⟩:=Option.isSome_iff_exists.1 hb1
     rw[hak y hy]
     simp only[px,hy,decide_eq_false_iff_not] at d2
     exact d2
    rw[he,hb1] at he2
    simp(maxSteps:=9^7) (disch:=try exact dI) only[hx,T6,push_cast,seval]
    refine au he2 rfl ?_
    simp(maxSteps:=9^7) (disch:=try exact dI) only[hx,T6,hk2,hw1,push_cast,seval]
    refine ab.pure hf rfl ?_
    simp(maxSteps:=9^7) (disch:=try exact dI) only[hk2,push_cast,seval]
    exact⟨m+1,aN qsZ,by omega,by omega⟩
   have hltI:¬ (m:Int)<qr.length:=by omega
   simp(maxSteps:=9^7) (disch:=try exact dI) only[hNl,push_cast,seval]
  ·have h0:(0:Int)<((L.take 200).length:Int):=by
    have:=List.length_pos_iff.2 hL
    rw[List.length_take];omega
   simp(maxSteps:=9^7) (disch:=try exact dI) only[h0,push_cast,seval]
   refine ab.pure hK rfl ?_
   simp(maxSteps:=9^7) (disch:=try exact dI) only[push_cast,seval]
 ·rw[decide_eq_false hsm] at h7
  simp(maxSteps:=9^7) (disch:=try exact dI) only[push_cast,seval]
  refine ab.pure h7 rfl ?_
  simp(maxSteps:=9^7) (disch:=try exact dI) only[push_cast,seval]
  refine ab.pure hK rfl ?_
  simp(maxSteps:=9^7) (disch:=try exact dI) only[push_cast,seval]
theorem HI (p0:PV)(h0:HasT Tryz.prog 27 p0):ap Tryz.prog aB 4 [p0] (.bool true):=by
 obtain⟨p,rfl,hp⟩:=G7 h0
 exact C8 p hp
open Go.Lib Go.Proofs
theorem u8X:U8Extra Tryz.prog Tryz.lays196_ren:=⟨by kernel_rfl,by kernel_rfl,by kernel_rfl,by kernel_rfl,by kernel_rfl,by kernel_rfl,by kernel_rfl⟩
theorem Hg {W:World}(h1:VarReads Tryz.prog W "unicode/utf8.first" firstData) (h2:VarReads Tryz.prog W "unicode/utf8.acceptRanges" acceptData)
  (h3:VarReads Tryz.prog W "internal/strconv.uint64pow10" (tabData .u64 pow10Tab)):du aB W (oq W):=by
 have hu:=utf8Tabs_of_readsT (U8Types.of196 Uk) u8X h1 h2
 refine Cm fun g hg=>?_
 unfold aB at hg ⊢
 by_cases e3:g=2
 ·subst e3
  exact uf (t:=227) (e:=202) (m:=20) h3 (by kernel_rfl) (by kernel_rfl) (by kernel_rfl) (by kernel_rfl) (by kernel_rfl) (by kernel_rfl) (by kernel_rfl)
 rw[if_neg e3] at hg ⊢
 by_cases e1:g=0
 ·subst e1
  rw[if_pos rfl] at hg ⊢
  refine lW (t:=187) (e:=5) (m:=256) h1 (by kernel_rfl) (by kernel_rfl) (by kernel_rfl) (by kernel_rfl) fun o p hp=>?_
  rw[QY,UE,Option.map_eq_some_iff] at hp
  obtain⟨c,hc,rfl⟩:=hp
  obtain⟨hlt,hcc⟩:=Ur.1 hc
  simp at hlt hcc
  subst hcc
  exact⟨_,_,rfl,hu.1 o hlt⟩
 rw[if_neg e1] at hg ⊢
 by_cases e2:g=1
 ·subst e2
  rw[if_pos rfl] at hg ⊢
  refine lW (t:=190) (e:=189) (m:=16) h2 (by kernel_rfl) (by kernel_rfl) (by kernel_rfl) (by kernel_rfl) fun o p hp=>?_
  rw[M7,UE,Option.map_eq_some_iff] at hp
  obtain⟨c,hc,rfl⟩:=hp
  obtain⟨hlt,hcc⟩:=Ur.1 hc
  simp at hlt hcc
  subst hcc
  have:=hu.2 (o / 2) (by omega)
  by_cases ho:o % 2=0
  ·rw[if_pos ho]
   refine⟨_,_,rfl,?_⟩
   have:=this.1
   rwa [show 2*(o / 2)=o by omega] at this
  ·rw[if_neg ho]
   refine⟨_,_,rfl,?_⟩
   have:=this.2
   rwa [show 2*(o / 2)+1=o by omega] at this
 rw[if_neg e2] at hg
 exact absurd rfl hg

/- A part of the proof. -/
import Derived.Test.YtbojpfpliibfbaaGreatDoorDeR4
import Derived.Test.YtbojpfpliibfbaaGreatDoorDeRUf
set_option maxHeartbeats 16000000
set_option maxRecDepth 100000
set_option linter.unusedVariables false
set_option linter.unusedSimpArgs false
namespace Go.Proofs.YtbojpfpliibfbaaGreatDoor
open Go Go.Ab
attribute [local irreducible] vc
theorem tB {l:List (List UInt8)}{i:Nat}{x:List UInt8}(h:l[i]? = some x)(hn:(l.take i).any lz=false):(l.take (i+1)).any lz=lz x:=by
 rw[aB h,List.any_append,hn];simp
theorem Hv (t:Typ)(ht:t.ok)(w:List Int)(he:flE t=0)(hlen:w.length=t.fields.length):ak Tryz.prog ap 13 [t.pv,.list (bX w)] (.int .i64 (qu t.fields w 0)):=by
 have h28:=C3 t ht
 have h31:=Ix t ht
 obtain⟨h0,hfl⟩:=kT he
 have hfo:=B5 h0 ht hfl
 rw[h0] at h28
 rw[hfl] at h31
 clear he h0 hfl
 obtain⟨k,m,M,s,wd,e,f⟩:=t
 rw[Typ.ok_mk] at ht
 have hf:f.length<=9000000000000:=by omega
 clear ht
 simp only[Typ.pv_mk,Typ.fields] at h28 h31 hfo hlen ⊢
 obtain⟨R,hR⟩:∃ R,R=qu f w 0:=⟨_,rfl⟩
 rw[<- hR]
 have hwl:=aX w
 have hlI:(w.length:Int)=(f.length:Int):=by omega
 refine ak.intro Q13.2 (by simp[Q13]) ?_
 simp(disch:=try exact dI) only[Q13,Typ.pv_mk,hwl,hlI,Int.lt_irrefl,push_cast,seval]
 refine ab.pure h28 rfl ?_
 refine zgZ ?_
 refine ab.pure h31 rfl ?_
 simp(disch:=try exact dI) only[hwl,hlI,Int.lt_irrefl,push_cast,seval]
 refine am ([]) (fun x:Nat×Int=>[(6,.pv (.int .i64 x.2)),(7,.pv (.int .i64 (x.1:Int)))]) (fun _=>[]) (fun x=>x.1<=f.length/\R=qu (f.drop x.1) (w.drop x.1) x.2/\0<=x.2/\x.2<=4096*(x.1:Int)) (fun x=>f.length - x.1) ((0,0)) ?_;intro e0 σ0 n0 h0;simp(disch:=try exact dI) only[push_cast,seval] at h0;obtain⟨rfl,rfl,rfl⟩:=h0;refine⟨?_,?_,?_⟩
 ·exact qsZ
 ·exact⟨by simp,by simpa using hR,by simp,by simp⟩
 rintro⟨i,S⟩ ⟨hi,hr,hS,hS2⟩
 simp only at hi hr hS hS2
 by_cases hlt:i<f.length
 ·have hltI:(i:Int)<(f.length:Int):=by omega
  obtain⟨g,hg⟩:∃ g,f[i]? = some g:=⟨_,List.getElem?_eq_getElem hlt⟩
  obtain⟨n,hn⟩:∃ n,w[i]? = some n:=⟨_,List.getElem?_eq_getElem (by omega)⟩
  have hnp:=jA hn
  rw[oy hg hn] at hr
  obtain⟨⟨_,hw⟩,⟨_,hem⟩,hwdl,hwd⟩:=hfo g (List.mem_of_getElem? hg)
  obtain⟨z,hz⟩:∃ z,z=jd g n:=⟨_,rfl⟩
  rw[<- hz] at hr
  simp only[jd] at hz
  generalize ij g.typ=W at *
  generalize aY g.typ=E at *
  obtain⟨nd,hnd⟩:∃ q,q=g.need:=⟨_,rfl⟩
  rw[<- hnd] at hz
  obtain⟨ws,hws⟩:∃ q,q=g.typ.words:=⟨_,rfl⟩
  rw[<- hws] at hz hwdl hwd
  obtain⟨n',nm',nd',⟨k',m',M',s',w',e',f'⟩,d'⟩:=g
  simp only[TFd.typ,TFd.need,Typ.words] at hw hem hnd hws
  subst hnd
  subst hws
  simp only[Typ.pv_mk] at hw hem
  by_cases c1:n<1\/4096<n
  ·rw[if_pos c1] at hz
   subst hz
   rw[if_neg (by decide)] at hr
   subst hr
   rcases c1 with c1 | c1
   ·simp(disch:=try exact dI) only[hg,Option.map_some,TFd.pv_mk,Typ.pv_mk,ag,hnp,c1,push_cast,seval]
   ·have c2:¬ n<1:=by omega
    simp(disch:=try exact dI) only[hg,Option.map_some,TFd.pv_mk,Typ.pv_mk,ag,hnp,c1,c2,push_cast,seval]
  have c1a:¬ n<1:=fun h=>c1 (.inl h)
  have c1b:¬ 4096<n:=fun h=>c1 (.inr h)
  rw[if_neg c1] at hz
  by_cases c2:n<W
  ·rw[if_pos c2] at hz
   subst hz
   rw[if_neg (by decide)] at hr
   subst hr
   simp(disch:=try exact dI) only[hg,Option.map_some,TFd.pv_mk,Typ.pv_mk,ag,hnp,c1a,c1b,push_cast,seval]
   refine ae hw rfl ?_
   simp(disch:=try exact dI) only[c2,push_cast,seval]
  rw[if_neg c2] at hz
  by_cases c3:nd=2
  ·subst c3
   cases E with
   | true=>
     rw[if_pos ⟨rfl,rfl⟩] at hz
     subst hz
     rw[if_neg (by decide)] at hr
     subst hr
     simp(disch:=try exact dI) only[hg,Option.map_some,TFd.pv_mk,Typ.pv_mk,ag,hnp,c1a,c1b,push_cast,seval]
     refine ae hw rfl ?_
     simp(disch:=try exact dI) only[c2,push_cast,seval]
     refine ab.pure hem rfl ?_
     exact qsZ
   | false=>
     rw[if_neg (fun h=>absurd h.2 (by decide))] at hz
     simp(disch:=try exact dI) only[hg,Option.map_some,TFd.pv_mk,Typ.pv_mk,ag,hnp,c1a,c1b,push_cast,seval]
     refine ae hw rfl ?_
     simp(disch:=try exact dI) only[c2,push_cast,seval]
     refine ab.pure hem rfl ?_
     refine zgZ ?_
     refine am ([]) (fun q:Nat=>[(9,.pv (.int .i64 (q:Int)))]) (fun _=>[]) (fun q=>q<=ws.length/\(ws.take q).any lz=false) (fun q=>ws.length - q) (0) ?_;intro e0 σ0 n0 h0;simp(disch:=try exact dI) only[push_cast,seval] at h0;obtain⟨rfl,rfl,rfl⟩:=h0;refine⟨?_,?_,?_⟩
     ·exact qsZ
     ·exact⟨by omega,by simp⟩
     rintro q ⟨hq,hqn⟩
     by_cases hql:q<ws.length
     ·have hqlI:(q:Int)<(ws.length:Int):=by omega
      obtain⟨x,hx⟩:∃ x,ws[q]? = some x:=⟨_,List.getElem?_eq_getElem hql⟩
      have hcx:=jL x (hwd x (List.mem_of_getElem? hx))
      have hsn:=tB hx hqn
      have hall:lz x=true->ws.any lz=true:=fun h=>List.any_eq_true.2 ⟨x,List.mem_of_getElem? hx,h⟩
      simp only[lz] at hsn hall
      generalize wrB x=b at hcx hsn hall
      simp(disch:=try exact dI) only[hx,Option.map_some,push_cast,seval]
      refine ab.pure hcx rfl ?_
      cases b with
      | true=>
        refine zgZ ?_
        exact⟨q+1,aI qsZ,⟨by omega,hsn⟩,by omega⟩
      | false=>
        rw[if_pos (hall rfl)] at hz
        subst hz
        rw[if_neg (by decide)] at hr
        subst hr
        exact qsZ
     ·obtain rfl:q=ws.length:=by omega
      rw[List.take_length] at hqn
      rw[hqn,if_neg (by decide)] at hz
      subst hz
      rw[if_pos rfl] at hr
      simp(disch:=try exact dI) only[Int.lt_irrefl,hnp,push_cast,seval]
      exact⟨(i+1,S+n),aI qsZ,⟨by simp only;omega,hr,by simp only;omega,by simp only;omega⟩,by simp only;omega⟩
  ·rw[if_neg (fun h=>c3 h.1)] at hz
   simp(disch:=try exact dI) only[hg,Option.map_some,TFd.pv_mk,Typ.pv_mk,ag,hnp,c1a,c1b,push_cast,seval]
   refine ae hw rfl ?_
   simp(disch:=try exact dI) only[c2,c3,push_cast,seval]
   refine am ([]) (fun q:Nat=>[(9,.pv (.int .i64 (q:Int)))]) (fun _=>[]) (fun q=>q<=ws.length/\(ws.take q).any lz=false) (fun q=>ws.length - q) (0) ?_;intro e0 σ0 n0 h0;simp(disch:=try exact dI) only[push_cast,seval] at h0;obtain⟨rfl,rfl,rfl⟩:=h0;refine⟨?_,?_,?_⟩
   ·exact qsZ
   ·exact⟨by omega,by simp⟩
   rintro q ⟨hq,hqn⟩
   by_cases hql:q<ws.length
   ·have hqlI:(q:Int)<(ws.length:Int):=by omega
    obtain⟨x,hx⟩:∃ x,ws[q]? = some x:=⟨_,List.getElem?_eq_getElem hql⟩
    have hcx:=jL x (hwd x (List.mem_of_getElem? hx))
    have hsn:=tB hx hqn
    have hall:lz x=true->ws.any lz=true:=fun h=>List.any_eq_true.2 ⟨x,List.mem_of_getElem? hx,h⟩
    simp only[lz] at hsn hall
    generalize wrB x=b at hcx hsn hall
    simp(disch:=try exact dI) only[hx,Option.map_some,push_cast,seval]
    refine ab.pure hcx rfl ?_
    cases b with
    | true=>
      refine zgZ ?_
      exact⟨q+1,aI qsZ,⟨by omega,hsn⟩,by omega⟩
    | false=>
      rw[if_pos (hall rfl)] at hz
      subst hz
      rw[if_neg (by decide)] at hr
      subst hr
      exact qsZ
   ·obtain rfl:q=ws.length:=by omega
    rw[List.take_length] at hqn
    rw[hqn,if_neg (by decide)] at hz
    subst hz
    rw[if_pos rfl] at hr
    simp(disch:=try exact dI) only[Int.lt_irrefl,hnp,push_cast,seval]
    exact⟨(i+1,S+n),aI qsZ,⟨by simp only;omega,hr,by simp only;omega,by simp only;omega⟩,by simp only;omega⟩
 ·obtain rfl:i=f.length:=by omega
  rw[List.drop_length,qu] at hr
  subst hr
  by_cases h9:65536<S
  ·rw[if_pos h9]
   simp(disch:=try exact dI) only[Int.lt_irrefl,h9,hwl,hlI,push_cast,seval]
  ·rw[if_neg h9]
   simp(disch:=try exact dI) only[Int.lt_irrefl,h9,hwl,hlI,push_cast,seval]
theorem DK (t:Typ)(ht:t.ok)(w:List Int):ak Tryz.prog ap 13 [t.pv,.list (bX w)] (.int .i64 (n7 t w)):=by
 have h28:=C3 t ht
 have h31:=Ix t ht
 unfold n7
 by_cases he:flE t=0
 ·rw[if_pos he]
  by_cases h1:w.length<t.fields.length
  ·rw[if_pos h1]
   obtain⟨h0,hfl⟩:=kT he
   rw[h0] at h28
   rw[hfl] at h31
   have hwl:=aX w
   have h1I:(w.length:Int)<(t.fields.length:Int):=by omega
   clear he h0 hfl
   obtain⟨k,m,M,s,wd,e,f⟩:=t
   simp only[Typ.pv_mk,Typ.fields] at h28 h31 h1I ⊢
   refine ak.intro Q13.2 (by simp[Q13]) ?_
   simp(disch:=try exact dI) only[Q13,Typ.pv_mk,hwl,h1I,push_cast,seval]
   refine ab.pure h28 rfl ?_
   refine zgZ ?_
   refine ab.pure h31 rfl ?_
   simp(disch:=try exact dI) only[hwl,h1I,push_cast,seval]
  rw[if_neg h1]
  by_cases h2:t.fields.length<w.length
  ·rw[if_pos h2]
   obtain⟨h0,hfl⟩:=kT he
   rw[h0] at h28
   rw[hfl] at h31
   have hwl:=aX w
   have h1I:¬ (w.length:Int)<(t.fields.length:Int):=by omega
   have h2I:(t.fields.length:Int)<(w.length:Int):=by omega
   clear he h0 hfl
   obtain⟨k,m,M,s,wd,e,f⟩:=t
   simp only[Typ.pv_mk,Typ.fields] at h28 h31 h1I h2I ⊢
   refine ak.intro Q13.2 (by simp[Q13]) ?_
   simp(disch:=try exact dI) only[Q13,Typ.pv_mk,hwl,h1I,h2I,push_cast,seval]
   refine ab.pure h28 rfl ?_
   refine zgZ ?_
   refine ab.pure h31 rfl ?_
   simp(disch:=try exact dI) only[hwl,h1I,h2I,push_cast,seval]
  rw[if_neg h2]
  exact Hv t ht w he (by omega)
 ·rw[if_neg he]
  unfold flE at he ⊢
  generalize lX t=z at *
  generalize dW t=b at *
  obtain⟨k,m,M,s,wd,e,f⟩:=t
  simp only[Typ.pv_mk] at h28 h31 ⊢
  refine ak.intro Q13.2 (by simp[Q13]) ?_
  by_cases hz:z=0
  ·subst hz
   cases b with
   | true=>exact absurd rfl he
   | false=>
     rw[if_pos rfl,if_neg (by decide)]
     simp(disch:=try exact dI) only[Q13,Typ.pv_mk,push_cast,seval]
     refine ab.pure h28 rfl ?_
     refine zgZ ?_
     refine ab.pure h31 rfl ?_
     exact qsZ
  ·rw[if_neg hz]
   simp(disch:=try exact dI) only[Q13,Typ.pv_mk,push_cast,seval]
   refine ab.pure h28 rfl ?_
   simp(disch:=try exact dI) only[hz,push_cast,seval]
inductive Mis where
 | mk (path:List UInt8) (code:Int)
def Mis.path:Mis->List UInt8
 | .mk path _=>path
def Mis.pv:Mis->PV
 | .mk path code=>.agg ([.str path,.int .i64 code])
theorem Mis.pv_mk (path:List UInt8)(code:Int):(Mis.mk path code).pv = .agg ([.str path,.int .i64 code]):=by rw[Mis.pv]
theorem Mis.cells_len (x:Mis):x.pv.cells.length=2:=by
 obtain⟨path,code⟩:=x
 rw[Mis.pv_mk];simp only[ag,List.length_append,List.length_cons,List.length_nil]
def stepM:Bool->List Mis->Mis->Bool×List Mis
 | true,l,_=>(true,l)
 | false,l,m=>(!decide (l.length+1<64),l++[m])
end Go.Proofs.YtbojpfpliibfbaaGreatDoor

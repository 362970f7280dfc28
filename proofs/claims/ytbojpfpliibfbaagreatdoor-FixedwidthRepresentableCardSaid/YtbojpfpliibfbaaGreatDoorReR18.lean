/- A part of the proof for FixedwidthRepresentableCardSaid. -/
import Derived.Test.YtbojpfpliibfbaaGreatDoorReR5
import Derived.Test.YtbojpfpliibfbaaGreatDoorReRUh
import Derived.Test.YtbojpfpliibfbaaGreatDoorReRSh
set_option maxRecDepth 100000
set_option linter.unusedVariables false
set_option linter.unusedSimpArgs false
-- many steps
namespace Go.Proofs.YtbojpfpliibfbaaGreatDoor
open Go Go.Ab
attribute [local irreducible] vc
theorem oW {l:List (List UInt8)}{i:Nat}{x:List UInt8}(h:l[i]? = some x)(hn:(l.take i).any jj=false):(l.take (i+1)).any jj=jj x:=by
 rw[aI h,List.any_append,hn];simp
set_option maxHeartbeats 8000000 in
theorem CB (t:Typ)(ht:t.ok)(w:List Int)(he:flE t=0)(hlen:w.length=t.fields.length):ag Tryz.prog aD 13 [t.pv,.list (db w)] (.int .i64 (qE t.fields w 0)):=by
 have h28:=xo t ht
 have h31:=Dv t ht
 obtain⟨h0,hfl⟩:=kJ he
 have hfo:=De h0 ht hfl
 rw[h0] at h28
 rw[hfl] at h31
 clear he h0 hfl
 obtain⟨k,m,M,s,wd,e,f⟩:=t
 rw[Typ.ok_mk] at ht
 have hf:f.length≤9000000000000:=by omega
 clear ht
 simp only[Typ.pv_mk,Typ.fields] at h28 h31 hfo hlen ⊢
 obtain⟨R,hR⟩:∃ R,R=qE f w 0:=⟨_,rfl⟩
 rw[← hR]
 have hwl:=aV w
 have hlI:(w.length:Int)=(f.length:Int):=by omega
 refine ag.intro pV (by simp[F13]) ?_
 simp(maxSteps:=9^7) (disch:=try exact dI) only[F13,Typ.pv_mk,hwl,hlI,Int.lt_irrefl,push_cast,seval]
 refine ab.pure h28 rfl ?_
 simp(maxSteps:=9^7) (disch:=try exact dI) only[push_cast,seval]
 refine ab.pure h31 rfl ?_
 simp(maxSteps:=9^7) (disch:=try exact dI) only[hwl,hlI,Int.lt_irrefl,push_cast,seval]
 refine aw ([]) (fun x:Nat×Int=>[(6,.pv (.int .i64 x.2)),(7,.pv (.int .i64 (x.1:Int)))]) (fun _=>[]) (fun x=>x.1≤f.length∧R=qE (f.drop x.1) (w.drop x.1) x.2∧0≤x.2∧x.2≤4096*(x.1:Int)) (fun x=>f.length - x.1) ((0,0)) ?_;intro e0 σ0 n0 h0;simp(maxSteps:=9^7) (disch:=try exact dI) only[push_cast,seval] at h0;obtain⟨rfl,rfl,rfl⟩:=h0;refine⟨?_,?_,?_⟩
 ·simp(maxSteps:=9^7) (disch:=try exact dI) only[push_cast,seval]
 ·exact⟨by simp,by simpa using hR,by simp,by simp⟩
 rintro⟨i,S⟩ ⟨hi,hr,hS,hS2⟩
 simp only at hi hr hS hS2
 by_cases hlt:i<f.length
 ·have hltI:(i:Int)<(f.length:Int):=by omega
  obtain⟨g,hg⟩:∃ g,f[i]? = some g:=⟨_,List.getElem?_eq_getElem hlt⟩
  obtain⟨n,hn⟩:∃ n,w[i]? = some n:=⟨_,List.getElem?_eq_getElem (by omega)⟩
  have hnp:=gU hn
  rw[lz hg hn] at hr
  obtain⟨⟨_,hw⟩,⟨_,hem⟩,hwdl,hwd⟩:=hfo g (List.mem_of_getElem? hg)
  obtain⟨z,hz⟩:∃ z,z=ll g n:=⟨_,rfl⟩
  rw[← hz] at hr
  simp only[ll] at hz
  generalize gw g.typ=W at *
  generalize ca g.typ=E at *
  obtain⟨nd,hnd⟩:∃ q,q=g.need:=⟨_,rfl⟩
  rw[← hnd] at hz
  obtain⟨ws,hws⟩:∃ q,q=g.typ.words:=⟨_,rfl⟩
  rw[← hws] at hz hwdl hwd
  obtain⟨n',nm',nd',⟨k',m',M',s',w',e',f'⟩,d'⟩:=g
  simp only[TFd.typ,TFd.need,Typ.words] at hw hem hnd hws
  subst hnd
  subst hws
  simp only[Typ.pv_mk] at hw hem
  by_cases c1:n<1∨4096<n
  ·rw[if_pos c1] at hz
   subst hz
   rw[if_neg (by decide)] at hr
   subst hr
   rcases c1 with c1 | c1
   ·simp(maxSteps:=9^7) (disch:=try exact dI) only[hg,Option.map_some,TFd.pv_mk,Typ.pv_mk,ae,hnp,c1,push_cast,seval]
   ·have c2:¬ n<1:=by omega
    simp(maxSteps:=9^7) (disch:=try exact dI) only[hg,Option.map_some,TFd.pv_mk,Typ.pv_mk,ae,hnp,c1,c2,push_cast,seval]
  have c1a:¬ n<1:=fun h=>c1 (.inl h)
  have c1b:¬ 4096<n:=fun h=>c1 (.inr h)
  rw[if_neg c1] at hz
  by_cases c2:n<W
  ·rw[if_pos c2] at hz
   subst hz
   rw[if_neg (by decide)] at hr
   subst hr
   simp(maxSteps:=9^7) (disch:=try exact dI) only[hg,Option.map_some,TFd.pv_mk,Typ.pv_mk,ae,hnp,c1a,c1b,push_cast,seval]
   refine aA hw rfl ?_
   simp(maxSteps:=9^7) (disch:=try exact dI) only[c2,push_cast,seval]
  rw[if_neg c2] at hz
  by_cases c3:nd=2
  ·subst c3
   cases E with
   | true=>
     rw[if_pos ⟨rfl,rfl⟩] at hz
     subst hz
     rw[if_neg (by decide)] at hr
     subst hr
     simp(maxSteps:=9^7) (disch:=try exact dI) only[hg,Option.map_some,TFd.pv_mk,Typ.pv_mk,ae,hnp,c1a,c1b,push_cast,seval]
     refine aA hw rfl ?_
     simp(maxSteps:=9^7) (disch:=try exact dI) only[c2,push_cast,seval]
     refine ab.pure hem rfl ?_
     simp(maxSteps:=9^7) (disch:=try exact dI) only[push_cast,seval]
   | false=>
     rw[if_neg (fun h=>absurd h.2 (by decide))] at hz
     simp(maxSteps:=9^7) (disch:=try exact dI) only[hg,Option.map_some,TFd.pv_mk,Typ.pv_mk,ae,hnp,c1a,c1b,push_cast,seval]
     refine aA hw rfl ?_
     simp(maxSteps:=9^7) (disch:=try exact dI) only[c2,push_cast,seval]
     refine ab.pure hem rfl ?_
     simp(maxSteps:=9^7) (disch:=try exact dI) only[push_cast,seval]
     refine aw ([]) (fun q:Nat=>[(9,.pv (.int .i64 (q:Int)))]) (fun _=>[]) (fun q=>q≤ws.length∧(ws.take q).any jj=false) (fun q=>ws.length - q) (0) ?_;intro e0 σ0 n0 h0;simp(maxSteps:=9^7) (disch:=try exact dI) only[push_cast,seval] at h0;obtain⟨rfl,rfl,rfl⟩:=h0;refine⟨?_,?_,?_⟩
     ·simp(maxSteps:=9^7) (disch:=try exact dI) only[push_cast,seval]
     ·exact⟨by omega,by simp⟩
     rintro q ⟨hq,hqn⟩
     by_cases hql:q<ws.length
     ·have hqlI:(q:Int)<(ws.length:Int):=by omega
      obtain⟨x,hx⟩:∃ x,ws[q]? = some x:=⟨_,List.getElem?_eq_getElem hql⟩
      have hcx:=lc x (hwd x (List.mem_of_getElem? hx))
      have hsn:=oW hx hqn
      have hall:jj x=true→ws.any jj=true:=fun h=>List.any_eq_true.2 ⟨x,List.mem_of_getElem? hx,h⟩
      simp only[jj] at hsn hall
      generalize wrB x=b at hcx hsn hall
      simp(maxSteps:=9^7) (disch:=try exact dI) only[hx,Option.map_some,push_cast,seval]
      refine ab.pure hcx rfl ?_
      cases b with
      | true=>
        simp(maxSteps:=9^7) (disch:=try exact dI) only[push_cast,seval]
        exact⟨q+1,aT qsZ,⟨by omega,hsn⟩,by omega⟩
      | false=>
        rw[if_pos (hall rfl)] at hz
        subst hz
        rw[if_neg (by decide)] at hr
        subst hr
        simp(maxSteps:=9^7) (disch:=try exact dI) only[push_cast,seval]
     ·obtain rfl:q=ws.length:=by omega
      rw[List.take_length] at hqn
      rw[hqn,if_neg (by decide)] at hz
      subst hz
      rw[if_pos rfl] at hr
      simp(maxSteps:=9^7) (disch:=try exact dI) only[Int.lt_irrefl,hnp,push_cast,seval]
      exact⟨(i+1,S+n),aT qsZ,⟨by simp only;omega,hr,by simp only;omega,by simp only;omega⟩,by simp only;omega⟩
  ·rw[if_neg (fun h=>c3 h.1)] at hz
   simp(maxSteps:=9^7) (disch:=try exact dI) only[hg,Option.map_some,TFd.pv_mk,Typ.pv_mk,ae,hnp,c1a,c1b,push_cast,seval]
   refine aA hw rfl ?_
   simp(maxSteps:=9^7) (disch:=try exact dI) only[c2,c3,push_cast,seval]
   refine aw ([]) (fun q:Nat=>[(9,.pv (.int .i64 (q:Int)))]) (fun _=>[]) (fun q=>q≤ws.length∧(ws.take q).any jj=false) (fun q=>ws.length - q) (0) ?_;intro e0 σ0 n0 h0;simp(maxSteps:=9^7) (disch:=try exact dI) only[push_cast,seval] at h0;obtain⟨rfl,rfl,rfl⟩:=h0;refine⟨?_,?_,?_⟩
   ·simp(maxSteps:=9^7) (disch:=try exact dI) only[push_cast,seval]
   ·exact⟨by omega,by simp⟩
   rintro q ⟨hq,hqn⟩
   by_cases hql:q<ws.length
   ·have hqlI:(q:Int)<(ws.length:Int):=by omega
    obtain⟨x,hx⟩:∃ x,ws[q]? = some x:=⟨_,List.getElem?_eq_getElem hql⟩
    have hcx:=lc x (hwd x (List.mem_of_getElem? hx))
    have hsn:=oW hx hqn
    have hall:jj x=true→ws.any jj=true:=fun h=>List.any_eq_true.2 ⟨x,List.mem_of_getElem? hx,h⟩
    simp only[jj] at hsn hall
    generalize wrB x=b at hcx hsn hall
    simp(maxSteps:=9^7) (disch:=try exact dI) only[hx,Option.map_some,push_cast,seval]
    refine ab.pure hcx rfl ?_
    cases b with
    | true=>
      simp(maxSteps:=9^7) (disch:=try exact dI) only[push_cast,seval]
      exact⟨q+1,aT qsZ,⟨by omega,hsn⟩,by omega⟩
    | false=>
      rw[if_pos (hall rfl)] at hz
      subst hz
      rw[if_neg (by decide)] at hr
      subst hr
      simp(maxSteps:=9^7) (disch:=try exact dI) only[push_cast,seval]
   ·obtain rfl:q=ws.length:=by omega
    rw[List.take_length] at hqn
    rw[hqn,if_neg (by decide)] at hz
    subst hz
    rw[if_pos rfl] at hr
    simp(maxSteps:=9^7) (disch:=try exact dI) only[Int.lt_irrefl,hnp,push_cast,seval]
    exact⟨(i+1,S+n),aT qsZ,⟨by simp only;omega,hr,by simp only;omega,by simp only;omega⟩,by simp only;omega⟩
 ·obtain rfl:i=f.length:=by omega
  rw[List.drop_length,qE] at hr
  subst hr
  by_cases h9:65536<S
  ·rw[if_pos h9]
   simp(maxSteps:=9^7) (disch:=try exact dI) only[Int.lt_irrefl,h9,hwl,hlI,push_cast,seval]
  ·rw[if_neg h9]
   simp(maxSteps:=9^7) (disch:=try exact dI) only[Int.lt_irrefl,h9,hwl,hlI,push_cast,seval]
theorem J6 (t:Typ)(ht:t.ok)(w:List Int):ag Tryz.prog aD 13 [t.pv,.list (db w)] (.int .i64 (Iz t w)):=by
 have h28:=xo t ht
 have h31:=Dv t ht
 unfold Iz
 by_cases he:flE t=0
 ·rw[if_pos he]
  by_cases h1:w.length<t.fields.length
  ·rw[if_pos h1]
   obtain⟨h0,hfl⟩:=kJ he
   rw[h0] at h28
   rw[hfl] at h31
   have hwl:=aV w
   have h1I:(w.length:Int)<(t.fields.length:Int):=by omega
   clear he h0 hfl
   obtain⟨k,m,M,s,wd,e,f⟩:=t
   simp only[Typ.pv_mk,Typ.fields] at h28 h31 h1I ⊢
   refine ag.intro pV (by simp[F13]) ?_
   simp(maxSteps:=9^7) (disch:=try exact dI) only[F13,Typ.pv_mk,hwl,h1I,push_cast,seval]
   refine ab.pure h28 rfl ?_
   simp(maxSteps:=9^7) (disch:=try exact dI) only[push_cast,seval]
   refine ab.pure h31 rfl ?_
   simp(maxSteps:=9^7) (disch:=try exact dI) only[hwl,h1I,push_cast,seval]
  rw[if_neg h1]
  by_cases h2:t.fields.length<w.length
  ·rw[if_pos h2]
   obtain⟨h0,hfl⟩:=kJ he
   rw[h0] at h28
   rw[hfl] at h31
   have hwl:=aV w
   have h1I:¬ (w.length:Int)<(t.fields.length:Int):=by omega
   have h2I:(t.fields.length:Int)<(w.length:Int):=by omega
   clear he h0 hfl
   obtain⟨k,m,M,s,wd,e,f⟩:=t
   simp only[Typ.pv_mk,Typ.fields] at h28 h31 h1I h2I ⊢
   refine ag.intro pV (by simp[F13]) ?_
   simp(maxSteps:=9^7) (disch:=try exact dI) only[F13,Typ.pv_mk,hwl,h1I,h2I,push_cast,seval]
   refine ab.pure h28 rfl ?_
   simp(maxSteps:=9^7) (disch:=try exact dI) only[push_cast,seval]
   refine ab.pure h31 rfl ?_
   simp(maxSteps:=9^7) (disch:=try exact dI) only[hwl,h1I,h2I,push_cast,seval]
  rw[if_neg h2]
  exact CB t ht w he (by omega)
 ·rw[if_neg he]
  unfold flE at he ⊢
  generalize oA t=z at *
  generalize e5 t=b at *
  obtain⟨k,m,M,s,wd,e,f⟩:=t
  simp only[Typ.pv_mk] at h28 h31 ⊢
  refine ag.intro pV (by simp[F13]) ?_
  by_cases hz:z=0
  ·subst hz
   cases b with
   | true=>exact absurd rfl he
   | false=>
     rw[if_pos rfl,if_neg (by decide)]
     simp(maxSteps:=9^7) (disch:=try exact dI) only[F13,Typ.pv_mk,push_cast,seval]
     refine ab.pure h28 rfl ?_
     simp(maxSteps:=9^7) (disch:=try exact dI) only[push_cast,seval]
     refine ab.pure h31 rfl ?_
     simp(maxSteps:=9^7) (disch:=try exact dI) only[push_cast,seval]
  ·rw[if_neg hz]
   simp(maxSteps:=9^7) (disch:=try exact dI) only[F13,Typ.pv_mk,push_cast,seval]
   refine ab.pure h28 rfl ?_
   simp(maxSteps:=9^7) (disch:=try exact dI) only[hz,push_cast,seval]
end Go.Proofs.YtbojpfpliibfbaaGreatDoor
namespace Go.Proofs.YtbojpfpliibfbaaGreatDoor
open Go Go.Ab
def eqL (p:PV→PV→Bool):List PV→List PV→Bool
 | [],[]=>true
 | x::r,y::q=>p x y&&eqL p r q
 | _,_=>false
def eqP:Nat→PV→PV→Bool
 | n+1,.int k a,.int k' b=>decide (k=k')&&decide (a=b)
 | n+1,.str a,.str b=>decide (a=b)
 | n+1,.nils,.nils=>true
 | n+1,.agg a,.agg b=>eqL (eqP n) a b
 | n+1,.list a,.list b=>eqL (eqP n) a b
 | _,_,_=>false
theorem wK {p:PV→PV→Bool}(hp:∀ x y,p x y=true→x=y):∀ a b,eqL p a b=true→a=b
 | [],[],_=>rfl
 | x::r,y::q,h=>by
   simp only[eqL,Bool.and_eq_true] at h
   rw[hp x y h.1,wK hp r q h.2]
 | [],y::q,h=>by simp[eqL] at h
 | x::r,[],h=>by simp[eqL] at h
theorem mj:∀ n x y,eqP n x y=true→x=y
 | 0,x,y,h=>by simp[eqP] at h
 | n+1,x,y,h=>by
   unfold eqP at h
   split at h
   ·simp only[Bool.and_eq_true,decide_eq_true_eq] at h;rw[h.1,h.2]
   ·simp only[decide_eq_true_eq] at h;rw[h]
   ·rfl
   ·rw[wK (mj _) _ _ h]
   ·rw[wK (mj _) _ _ h]
   ·cases h
def Jd:List PV:=[.agg [.int .i64 1,.str [105,100],.int .i64 1,.int .i64 2,.int .i64 0,.int .i64 999,.int .i64 0,.nils,.nils,.nils,.nils],.agg [.int .i64 2,.str [110,97,109,101],.int .i64 2,.int .i64 4,.int .i64 1,.int .i64 5,.int .i64 0,.nils,.nils,.nils,.nils],.agg [.int .i64 3,.str [100,97,121],.int .i64 1,.int .i64 6,.int .i64 0,.int .i64 30000,.int .i64 0,.nils,.nils,.nils,.nils]]
def Ll:PV:=.agg [.int .i64 9,.int .i64 0,.int .i64 0,.int .i64 0,.nils,.nils,.list Jd]
def NF:List PV:=[.agg [.str [105,100],.int .i64 2,.int .i64 7,.int .i64 0,.str [],.nils,.nils],.agg [.str [110,97,109,101],.int .i64 4,.int .i64 0,.int .i64 0,.str [97,98],.nils,.nils],.agg [.str [100,97,121],.int .i64 6,.int .i64 20773,.int .i64 0,.str [],.nils,.nils]]
def Jc:PV:=.agg [.int .i64 9,.int .i64 0,.int .i64 0,.str [],.nils,.list [.agg [.str [100,97,121],.int .i64 6,.int .i64 20773,.int .i64 0,.str [],.nils,.nils],.agg [.str [105,100],.int .i64 2,.int .i64 7,.int .i64 0,.str [],.nils,.nils],.agg [.str [110,97,109,101],.int .i64 4,.int .i64 0,.int .i64 0,.str [97,98],.nils,.nils]]]
def Fp:PV:=.str [32,32,55,97,98,32,32,32,50,48,50,54,45,49,49,45,49,54]
def HX:PV:=.list [.int .i64 3,.int .i64 5,.int .i64 10]
def L2 (f:Nat)(ps:List PV):Option PV:=
 match f with
 | 137=>match ps with
   | [.int .i64 n]=>if -9223372036854775808≤n∧n≤9223372036854775807 then some (.str (kD n)) else none
   | _=>none
 | 113=>match ps with
   | [.str a,.str b]=>some (.int .i64 (Lib.compareBytes a b))
   | _=>none
 | 207=>match ps with
   | [.str a]=>some (.bool (Lib.validD a))
   | _=>none
 | 45=>match ps with
   | [.str a,.int .i64 n]=>if 0≤n∧n≤9223372036854775807∧a.length*n.toNat≤140737488355328 then some (.str (Lib.repeatL a n.toNat)) else none
   | _=>none
 | _=>none
theorem fQ:∀ f ps r,L2 f ps=some r→ag Tryz.prog aD f ps r:=by
 intro f ps r h
 unfold L2 at h
 split at h
 ·split at h
  ·split at h
   ·rename_i hh;cases h;exact vZ _ hh.1 hh.2
   ·cases h
  ·cases h
 ·split at h
  ·cases h;exact r9 _ _
  ·cases h
 ·split at h
  ·cases h;exact dh _
  ·cases h
 ·split at h
  ·split at h
   ·rename_i hh;cases h;exact lx _ _ hh.1 hh.2.1 hh.2.2
   ·cases h
  ·cases h
 ·cases h
noncomputable def gFn (p:Nat×List Nat):TabRow:=⟨p.1,p.2,(cFn Tryz.prog p.2 p.1).getD ⟨0,[],.skip⟩⟩
theorem jz {l:List (Nat×List Nat)}(h:(l.all fun p=>(cFn Tryz.prog p.2 p.1).isSome)=true):∀ r∈l.map gFn,cFn Tryz.prog r.muts r.f=some r.fn:=by
 intro r hr
 obtain⟨p,hp,rfl⟩:=List.mem_map.1 hr
 have h:=List.all_eq_true.1 h p hp
 simp only[gFn]
 cases h':cFn Tryz.prog p.2 p.1 with
 | some x=>rfl
 | none=>rw[h'] at h;cases h
def CT:List (Nat×List Nat):=[(14,[]),(11,[]),(12,[]),(42,[]),(43,[]),(44,[]),(39,[]),(46,[14]),(47,[]),(23,[]),(33,[]),(53,[]),(55,[33]),(34,[]),(35,[]),(36,[]),(37,[]),(81,[]),(82,[]),(83,[]),(85,[]),(87,[]),(88,[]),(91,[]),(92,[]),(77,[]),(78,[]),(79,[]),(97,[19]),(105,[]),(106,[]),(107,[]),(108,[]),(109,[]),(110,[]),(111,[]),(112,[]),(69,[]),(74,[]),(76,[]),(135,[]),(136,[]),(138,[]),(139,[]),(140,[]),(141,[]),(142,[]),(143,[]),(145,[]),(146,[]),(132,[]),(133,[]),(149,[]),(156,[]),(160,[]),(164,[]),(165,[]),(166,[]),(168,[]),(170,[]),(171,[]),(123,[]),(124,[]),(129,[]),(130,[]),(195,[]),(193,[]),(196,[]),(197,[]),(198,[]),(199,[]),(206,[44]),(210,[]),(211,[]),(212,[]),(213,[]),(215,[]),(224,[]),(258,[]),(228,[]),(178,[]),(179,[]),(181,[]),(242,[]),(247,[]),(248,[12]),(250,[]),(251,[]),(252,[]),(229,[]),(230,[]),(232,[]),(277,[]),(278,[]),(259,[]),(304,[])]
theorem jA:(CT.all fun p=>(cFn Tryz.prog p.2 p.1).isSome)=true:=by kernel_rfl
theorem JA:ag Tryz.prog aD 53 [.str [32,32,55],Jd.getD 0 .undef] (.tup [.agg [.int .i64 2,.int .i64 7,.int .i64 0,.str [],.nils,.nils],.int .i64 0]):=ag.of_ex (m:=5000) (n:=60) (jz jA) fQ (by kernel_rfl)
theorem Jz:ag Tryz.prog aD 53 [.str [97,98,32,32,32],Jd.getD 1 .undef] (.tup [.agg [.int .i64 4,.int .i64 0,.int .i64 0,.str [97,98],.nils,.nils],.int .i64 0]):=ag.of_ex (m:=5000) (n:=60) (jz jA) fQ (by kernel_rfl)
theorem Jy:ag Tryz.prog aD 53 [.str [50,48,50,54,45,49,49,45,49,54],Jd.getD 2 .undef] (.tup [.agg [.int .i64 6,.int .i64 20773,.int .i64 0,.str [],.nils,.nils],.int .i64 0]):=ag.of_ex (m:=5000) (n:=60) (jz jA) fQ (by kernel_rfl)
theorem zH:ag Tryz.prog aD 55 [.list NF] Jc:=ag.of_ex (m:=5000) (n:=60) (jz jA) fQ (by kernel_rfl)
theorem Ix:ag Tryz.prog aD 12 [Ll,HX] (.int .i64 0):=ag.of_ex (m:=5000) (n:=60) (jz jA) fQ (by kernel_rfl)
end Go.Proofs.YtbojpfpliibfbaaGreatDoor

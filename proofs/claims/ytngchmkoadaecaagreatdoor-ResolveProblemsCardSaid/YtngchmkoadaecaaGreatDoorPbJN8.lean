/- A part. -/
import Derived.Test.YtngchmkoadaecaaGreatDoorPbJMf2
import Derived.Test.YtngchmkoadaecaaGreatDoorPbJMf3
import Derived.Test.YtngchmkoadaecaaGreatDoorPbJMf4
set_option linter.unusedVariables false
set_option linter.unusedSimpArgs false
set_option maxRecDepth 100000
open List renaming getElem?_eq_getElem->WT,getElem?_eq_some_iff->WU,append_nil->Xc,map_append->Xe
namespace Go.Proofs.YtngchmkoadaecaaGreatDoor
open Go Go.Ab
theorem uM {α:Type}(l:List α)(q:α->Bool):(∃ i x,l[i]? = some x/\l.findIdx? q=some i/\l.find? q=some x)\/(l.findIdx? q=none/\l.find? q=none):=by
 cases h:l.findIdx? q with
 | none=>
   refine .inr ⟨rfl,?_⟩
   rw[List.findIdx?_eq_none_iff] at h
   exact List.find?_eq_none.2 fun x hx=>by simp[h x hx]
 | some i=>
   rw[List.findIdx?_eq_some_iff_getElem] at h
   obtain⟨hlt,hq,hn⟩:=h
   refine .inl ⟨i,l[i],WT hlt,rfl,?_⟩
   rw[List.find?_eq_some_iff_getElem]
   exact⟨hq,i,hlt,rfl,fun j hj=>by simpa using hn j hj⟩
theorem KS (p:Prg)(nm:List UInt8)(hp:p.ok) :
  (∃ (i:Nat) (x:Enp),p.endpoints[i]? = some x/\epO p nm=some x/\ap Tryz.prog aC 30 [p.pv,.str nm] (.tup [.int .i64 (i:Int),.bool true])) \/
  (epO p nm=none/\ap Tryz.prog aC 30 [p.pv,.str nm] (.tup [.int .i64 0,.bool false])):=by
 have h:=Rp p nm hp
 rcases uM p.endpoints (fun x=>decide (x.name=nm)) with ⟨i,x,h1,h2,h3⟩ | ⟨h2,h3⟩
 ·rw[h2,show max (bL (some i)) 0=(i:Int) by simp[bL];try omega,show nk (some i)=true by simp[nk,bL]] at h
  exact .inl ⟨i,x,h1,h3,h⟩
 ·rw[h2,show max (bL none) 0=0 by simp only[bL];omega,show nk none=false by simp[nk,bL]] at h
  exact .inr ⟨h3,h⟩
theorem L0 (p:Prg)(nm:List UInt8)(hp:p.ok) :
  (∃ (i:Nat) (x:Svc),p.services[i]? = some x/\svO p nm=some x/\ap Tryz.prog aC 109 [p.pv,.str nm] (.tup [.int .i64 (i:Int),.bool true])) \/
  (svO p nm=none/\ap Tryz.prog aC 109 [p.pv,.str nm] (.tup [.int .i64 0,.bool false])):=by
 have h:=Ro p nm hp
 rcases uM p.services (fun x=>decide (x.name=nm)) with ⟨i,x,h1,h2,h3⟩ | ⟨h2,h3⟩
 ·rw[h2,show max (bL (some i)) 0=(i:Int) by simp[bL];try omega,show nk (some i)=true by simp[nk,bL]] at h
  exact .inl ⟨i,x,h1,h3,h⟩
 ·rw[h2,show max (bL none) 0=0 by simp only[bL];omega,show nk none=false by simp[nk,bL]] at h
  exact .inr ⟨h3,h⟩
theorem DN (o:Option Nat):nk o=o.isSome:=by cases o<;>simp[nk,bL]
theorem iF (o:Option Nat):decide (bL o<0)=!o.isSome:=by
 cases o with
 | none=>simp[bL]
 | some i=>exact decide_eq_false (by simp only[bL];omega)
theorem P3 (p:Prg)(nm:List UInt8)(v:Int)(hp:p.ok):ap Tryz.prog aC 54 [p.pv,.str nm,.int .i64 v] (.tup [.int .i64 (max (bL (p.schemas.findIdx? (vsn nm v))) 0),.bool (ib p nm v)]):=by
 have h:=GR p nm v hp
 rw[DN] at h
 exact h
theorem KJ (p:Prg)(nm:List UInt8)(hp:p.ok):ap Tryz.prog aC 55 [p.pv,.str nm] (.tup [.int .i64 (Dh (ec p.schemas nm p.schemas.length)),.bool (bw p nm)]):=ID p nm hp
theorem nr {p:Prg}{nm:List UInt8}{x:Enp}(h:epO p nm=some x):dH p nm=true:=by simp[dH,h]
theorem nt {p:Prg}{nm:List UInt8}(h:epO p nm=none):dH p nm=false:=by simp[dH,h]
theorem uO {p:Prg}{nm:List UInt8}{x:Enp}(h:epO p nm=some x)(k:Int):lx p nm k=decide (x.kind=k):=by simp[lx,h]
theorem uP {p:Prg}{nm:List UInt8}(h:epO p nm=none)(k:Int):lx p nm k=false:=by simp[lx,h]
theorem gl {p:Prg}{nm:List UInt8}{x:Svc}(h:svO p nm=some x):bW p nm=true:=by simp[bW,h]
theorem gm {p:Prg}{nm:List UInt8}(h:svO p nm=none):bW p nm=false:=by simp[bW,h]
theorem jL {p:Prg}{nm:List UInt8}{x:Svc}(h:svO p nm=some x):fY p nm=!x.undo:=by simp[fY,h]
theorem jM {p:Prg}{nm:List UInt8}(h:svO p nm=none):fY p nm=false:=by simp[fY,h]
theorem DU (s:Stp)(h:¬ (1<=s.kind/\s.kind<=14)):ap Tryz.prog aC 94 [s.pv] (.bool (aQ s)):=by
 have e:aQ s=false:=by
  unfold aQ
  repeat rw[if_neg (by omega)]
 rw[e]
 obtain⟨nm,k,c,d,e,f,g,h',i,j,w⟩:=s
 simp only[Stp.kind] at h
 have k1:¬ k=1:=by omega
 have k2:¬ k=2:=by omega
 have k3:¬ k=3:=by omega
 have k4:¬ k=4:=by omega
 have k5:¬ k=5:=by omega
 have k6:¬ k=6:=by omega
 have k7:¬ k=7:=by omega
 have k8:¬ k=8:=by omega
 have k9:¬ k=9:=by omega
 have k10:¬ k=10:=by omega
 have k11:¬ k=11:=by omega
 have k12:¬ k=12:=by omega
 have k13:¬ k=13:=by omega
 have k14:¬ k=14:=by omega
 refine ap.intro Q94.2 (by simp[Q94]) ?_
 simp(maxSteps:=9^7) (disch:=try exact dI) only[Q94,WF,k1,k2,k3,k4,k5,k6,k7,k8,k9,k10,k11,k12,k13,k14,push_cast,seval]
theorem Rm (s:Stp)(hs:s.ok):ap Tryz.prog aC 94 [s.pv] (.bool (aQ s)):=by
 by_cases h:1<=s.kind/\s.kind<=14
 ·have hc:s.kind=1\/s.kind=2\/s.kind=3\/s.kind=4\/s.kind=5\/s.kind=6\/s.kind=7\/s.kind=8\/s.kind=9\/s.kind=10\/s.kind=11\/s.kind=12\/s.kind=13\/s.kind=14:=by omega
  rcases hc with h | h | h | h | h | h | h | h | h | h | h | h | h | h
  ·exact Jq s hs h
  ·exact Jp s hs h
  ·exact Jo s hs h
  ·exact Jn s hs h
  ·exact Jm s hs h
  ·exact Jl s hs h
  ·exact Jk s hs h
  ·exact Jj s hs h
  ·exact Ji s hs h
  ·exact DZ s hs h
  ·exact DY s hs h
  ·exact DX s hs h
  ·exact DW s hs h
  ·exact DV s hs h
 ·exact DU s h
theorem Eb {α:Type}{l:List α}{q:α->Bool}{i:Nat}{x:α}(hx:l[i]? = some x)(hq:q x=true)(h:∀ (j:Nat) (x:α),j<i->l[j]? = some x->q x=false):l.find? q=some x:=by
 obtain⟨hlt,he⟩:=WU.1 hx
 rw[List.find?_eq_some_iff_getElem]
 refine⟨hq,i,hlt,he,fun j hj=>?_⟩
 have:=h j _ hj (WT (by omega))
 rw[this];rfl
theorem Ea {α:Type}{l:List α}{q:α->Bool}(h:∀ (j:Nat) (x:α),j<l.length->l[j]? = some x->q x=false):l.find? q=none:=by
 rw[List.find?_eq_none]
 intro x hx
 obtain⟨j,hj⟩:=List.getElem?_of_mem hx
 rw[h j x (WU.1 hj).1 hj];simp
def epR:Option Enp->PV
 | some x=>.tup [x.pv,.bool true]
 | none=>.tup [.agg [.str [],.int .i64 0,.str [],.int .i64 0,.int .i64 0,.int .i64 0,.nils],.bool false]
def svR:Option Svc->PV
 | some x=>.tup [x.pv,.bool true]
 | none=>.tup [.agg [.str [],.str [],.str [],.bool false],.bool false]
theorem KT (p:Prg)(nm:List UInt8)(hp:p.ok):ap Tryz.prog aC 13 [p.pv,.str nm] (epR (epO p nm)):=by
 obtain⟨pv,ps,pe,pw,pr⟩:=p
 rw[Wu] at hp
 have hl:pe.length<=9000000000000:=by omega
 unfold epO
 simp only[Prg.endpoints]
 refine ap.intro Q13.2 (by simp[Q13]) ?_
 simp(maxSteps:=9^7) (disch:=try exact dI) only[Q13,Wv,push_cast,seval]
 refine au ([]) (fun i:Nat=>[(6,.pv (.int .i64 (i:Int)))]) (fun _=>[]) (fun i=>i<=pe.length/\∀ j x,j<i->pe[j]? = some x->decide (Enp.name x=nm)=false) (fun i=>pe.length - i) (0) ?_;intro e0 σ0 n0 h0;simp(maxSteps:=9^7) (disch:=try exact dI) only[push_cast,seval] at h0;obtain⟨rfl,rfl,rfl⟩:=h0;refine⟨?_,?_,?_⟩
 ·simp(maxSteps:=9^7) (disch:=try exact dI) only[push_cast,seval]
 ·exact⟨Nat.zero_le _,by omega⟩
 rintro i ⟨hi,hpre⟩
 by_cases hlt:i<pe.length
 ·have hltI:(i:Int)<pe.length:=by omega
  obtain⟨x,hx⟩:∃ x,pe[i]? = some x:=⟨_,WT hlt⟩
  have hfa:=fun h=>Eb (q:=fun x=>decide (Enp.name x=nm)) hx h hpre
  have hnx:decide (Enp.name x=nm)=false->∀ j y,j<i+1->pe[j]? = some y->decide (Enp.name y=nm)=false:=fun hqx j y hj hjy=>by
   rcases Nat.lt_or_ge j i with h | h
   ·exact hpre j y h hjy
   ·have:j=i:=by omega
    subst this
    rw[hx] at hjy;cases hjy;exact hqx
  obtain⟨x1,x2,x3,x4,⟨y1,y2,y3⟩⟩:=x
  by_cases hn:x1=nm
  ·rw[hfa (decide_eq_true hn),epR]
   simp(maxSteps:=9^7) (disch:=try exact dI) only[hx,Wm,Ws,hn,push_cast,seval]
  ·have hnn:=hnx (decide_eq_false hn)
   simp(maxSteps:=9^7) (disch:=try exact dI) only[hx,Wm,Ws,hn,push_cast,seval]
   exact⟨i+1,aJ qsZ,⟨by omega,hnn⟩,by omega⟩
 ·have hltI:¬ (i:Int)<pe.length:=by omega
  rw[Ea (fun j x hj hjx=>hpre j x (by omega) hjx),epR]
  simp(maxSteps:=9^7) (disch:=try exact dI) only[push_cast,seval]
theorem Kr (p:Prg)(nm:List UInt8)(hp:p.ok):ap Tryz.prog aC 15 [p.pv,.str nm] (svR (svO p nm)):=by
 obtain⟨pv,ps,pe,pw,pr⟩:=p
 rw[Wu] at hp
 have hl:pw.length<=9000000000000:=by omega
 unfold svO
 simp only[Prg.services]
 refine ap.intro Q15.2 (by simp[Q15]) ?_
 simp(maxSteps:=9^7) (disch:=try exact dI) only[Q15,Wv,push_cast,seval]
 refine au ([]) (fun i:Nat=>[(6,.pv (.int .i64 (i:Int)))]) (fun _=>[]) (fun i=>i<=pw.length/\∀ j x,j<i->pw[j]? = some x->decide (Svc.name x=nm)=false) (fun i=>pw.length - i) (0) ?_;intro e0 σ0 n0 h0;simp(maxSteps:=9^7) (disch:=try exact dI) only[push_cast,seval] at h0;obtain⟨rfl,rfl,rfl⟩:=h0;refine⟨?_,?_,?_⟩
 ·simp(maxSteps:=9^7) (disch:=try exact dI) only[push_cast,seval]
 ·exact⟨Nat.zero_le _,by omega⟩
 rintro i ⟨hi,hpre⟩
 by_cases hlt:i<pw.length
 ·have hltI:(i:Int)<pw.length:=by omega
  obtain⟨x,hx⟩:∃ x,pw[i]? = some x:=⟨_,WT hlt⟩
  have hfa:=fun h=>Eb (q:=fun x=>decide (Svc.name x=nm)) hx h hpre
  have hnx:decide (Svc.name x=nm)=false->∀ j y,j<i+1->pw[j]? = some y->decide (Svc.name y=nm)=false:=fun hqx j y hj hjy=>by
   rcases Nat.lt_or_ge j i with h | h
   ·exact hpre j y h hjy
   ·have:j=i:=by omega
    subst this
    rw[hx] at hjy;cases hjy;exact hqx
  obtain⟨x1,x2,x3,x4⟩:=x
  by_cases hn:x1=nm
  ·rw[hfa (decide_eq_true hn),svR]
   simp(maxSteps:=9^7) (disch:=try exact dI) only[hx,WH,hn,push_cast,seval]
  ·have hnn:=hnx (decide_eq_false hn)
   simp(maxSteps:=9^7) (disch:=try exact dI) only[hx,WH,hn,push_cast,seval]
   exact⟨i+1,aJ qsZ,⟨by omega,hnn⟩,by omega⟩
 ·have hltI:¬ (i:Int)<pw.length:=by omega
  rw[Ea (fun j x hj hjx=>hpre j x (by omega) hjx),svR]
  simp(maxSteps:=9^7) (disch:=try exact dI) only[push_cast,seval]
theorem QN (q:Nat)(l:List PV)(c:Int)(rn nm:List UInt8):AVz (.olist q 4 (l++[.agg [.int .i64 c,.str rn,.nils,.str nm]])) (.olist q 4 (l++[.agg [.int .i64 c,.str rn,.list [],.str nm]])):=
 .olist _ _ _ _ (NzL.append (NzL.refl _) (.cons _ _ _ _ (.agg _ _ (.cons _ _ _ _ (.refl _) (.cons _ _ _ _ (.refl _) (.cons _ _ _ _ .nils (.cons _ _ _ _ (.refl _) .nil))))) .nil))
theorem jp (out:List Prb)(is:Bool)(c:Int)(nm:List UInt8)(hl:out.length<=100000000000) :
  bz Tryz.prog aC 1 38 [.pv (.bool is),.pv (.int .i64 c),.pv (.str nm),.ptr 0 0] [.cells 32 true [.olist 1 4 (out.map Prb.pv)],.tok 82 4] (.pv (.tup [])) [.cells 32 true [.olist 1 4 ((out++aG [] [] is c nm).map Prb.pv)],.tok 82 4]:=by
 refine bz.intro Q38.2 (by simp[Q38]) ?_
 cases is with
 | false=>
   rw[uh,Xc]
   simp(maxSteps:=9^7) (disch:=try exact dI) only[Q38,push_cast,seval]
   exact aH [] qsZ
 | true=>
   rw[oF]
   simp(maxSteps:=9^7) (disch:=try exact dI) only[Q38,push_cast,seval]
   exact aH [] (by simp(maxSteps:=9^7) (disch:=try exact dI) only[Xe,Wt,QN,push_cast,seval])
theorem fV (rn:List UInt8)(rs:List UInt8)(rl:List PV)(pl:List Int)(out:List Prb)(is:Bool)(c:Int)(nm:List UInt8)(hl:out.length<=100000000000) :
  bz Tryz.prog aC 2 93 [.pv (.bool is),.pv (.int .i64 c),.pv (.str nm),.pv (.list (pl.map (PV.int .i64))),.ptr 0 0,.ptr 1 0] [.cells 32 true [.olist 2 4 (out.map Prb.pv)],.cells 64 true [.pv (.str rn),.pv (.str rs),.pv (.list rl)],.tok 82 4] (.pv (.tup []))
   [.cells 32 true [.olist 2 4 ((out++aG rn pl is c nm).map Prb.pv)],.cells 64 true [.pv (.str rn),.pv (.str rs),.pv (.list rl)],.tok 82 4]:=by
 refine bz.intro Q93.2 (by simp[Q93]) ?_
 cases is with
 | false=>
   rw[uh,Xc]
   simp(maxSteps:=9^7) (disch:=try exact dI) only[Q93,push_cast,seval]
   exact aH [] qsZ
 | true=>
   rw[oF]
   simp(maxSteps:=9^7) (disch:=try exact dI) only[Q93,push_cast,seval]
   exact aH [] (by simp(maxSteps:=9^7) (disch:=try exact dI) only[Xe,Wt,push_cast,seval])

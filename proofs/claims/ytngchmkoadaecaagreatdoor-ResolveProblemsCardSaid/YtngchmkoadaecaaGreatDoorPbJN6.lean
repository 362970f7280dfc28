/- A part. -/
import Derived.Test.YtngchmkoadaecaaGreatDoorPbJN5
set_option linter.unusedVariables false
set_option linter.unusedSimpArgs false
set_option maxRecDepth 100000
open List renaming mem_cons->Xs,not_mem_nil->Yk
namespace Go.Proofs.YtngchmkoadaecaaGreatDoor
open Go Go.Ab
theorem dz {s:Stp}{b b':Bool}(h:bz Tryz.prog aC 1 88 [.pv s.pv,.mp 0] [.mp aX] (.pv (.bool b)) [.mp aX])(e:b'=b):bz Tryz.prog aC 1 88 [.pv s.pv,.mp 0] [.mp aX] (.pv (.bool b')) [.mp aX]:=by rw[e];exact h
theorem Rn (s:Stp)(hs:s.ok):bz Tryz.prog aC 1 88 [.pv s.pv,.mp 0] [.mp aX] (.pv (.bool (aQ s))) [.mp aX]:=by
 by_cases hk:1<=s.kind/\s.kind<=14
 ·have hc:s.kind=1\/s.kind=2\/s.kind=3\/s.kind=4\/s.kind=5\/s.kind=6\/s.kind=7\/s.kind=8\/s.kind=9\/s.kind=10\/s.kind=11\/s.kind=12\/s.kind=13\/s.kind=14:=by omega
  rcases hc with h | h | h | h | h | h | h | h | h | h | h | h | h | h
  ·refine dz (cI s 62 65 _ _ (decide (s.exprs.length=1)&&cf s.text) hs (by rw[h];exact MK) (pQ [(.clo 56 [] [],pU),(.clo 58 [] [],ga)] (by simp only[Xs,Yk,or_false];rintro q (rfl | rfl)<;>first | exact⟨_,_,rfl,lA⟩ | exact⟨_,_,rfl,nB⟩ | exact⟨_,_,rfl,pR⟩ | exact⟨_,_,rfl,nA⟩ | exact⟨_,_,rfl,pP⟩ | exact⟨_,_,rfl,pO⟩) (by simp)) (MY s)) ?_
   obtain⟨a,kk,cc,d,e,f,g,hh,i,j,w⟩:=s
   simp only[Stp.kind] at h
   subst h
   simp[aQ,Stp.kind,cL,aP,pU,ga,Stp.number,Stp.time,Stp.limit,Stp.text,Stp.schema,Stp.exprs,Stp.mapping,Stp.calls,Stp.branches]
   try rfl
  ·refine dz (cI s 57 67 _ _ (!decide (s.schema=[])) hs (by rw[h];exact MJ) nB (MX s)) ?_
   obtain⟨a,kk,cc,d,e,f,g,hh,i,j,w⟩:=s
   simp only[Stp.kind] at h
   subst h
   simp[aQ,Stp.kind,cL,aP,kV,Stp.number,Stp.time,Stp.limit,Stp.text,Stp.schema,Stp.exprs,Stp.mapping,Stp.calls,Stp.branches]
   try rfl
  ·refine dz (cI s 62 68 _ _ (!decide (s.text=[])&&!decide (s.schema=[])) hs (by rw[h];exact MI) (pQ [(.clo 56 [] [],pU),(.clo 57 [] [],kV)] (by simp only[Xs,Yk,or_false];rintro q (rfl | rfl)<;>first | exact⟨_,_,rfl,lA⟩ | exact⟨_,_,rfl,nB⟩ | exact⟨_,_,rfl,pR⟩ | exact⟨_,_,rfl,nA⟩ | exact⟨_,_,rfl,pP⟩ | exact⟨_,_,rfl,pO⟩) (by simp)) (MW s)) ?_
   obtain⟨a,kk,cc,d,e,f,g,hh,i,j,w⟩:=s
   simp only[Stp.kind] at h
   subst h
   simp[aQ,Stp.kind,cL,aP,pU,kV,Stp.number,Stp.time,Stp.limit,Stp.text,Stp.schema,Stp.exprs,Stp.mapping,Stp.calls,Stp.branches]
   try rfl
  ·refine dz (cI s 62 69 _ _ (inR s.exprs.length 1 2&&inR s.number 0 256&&!decide (s.schema=[])&&bF s) hs (by rw[h];exact MH) (pQ [(.clo 58 [] [],ga),(.clo 63 [] [],pV),(.clo 59 [] [],eq),(.clo 57 [] [],kV)] (by simp only[Xs,Yk,or_false];rintro q (rfl | rfl | rfl | rfl)<;>first | exact⟨_,_,rfl,lA⟩ | exact⟨_,_,rfl,nB⟩ | exact⟨_,_,rfl,pR⟩ | exact⟨_,_,rfl,nA⟩ | exact⟨_,_,rfl,pP⟩ | exact⟨_,_,rfl,pO⟩) (by simp)) (MV s)) ?_
   obtain⟨a,kk,cc,d,e,f,g,hh,i,j,w⟩:=s
   simp only[Stp.kind] at h
   subst h
   simp[aQ,Stp.kind,cL,aP,ga,pV,eq,kV,Stp.number,Stp.time,Stp.limit,Stp.text,Stp.schema,Stp.exprs,Stp.mapping,Stp.calls,Stp.branches]
   try rfl
  ·refine dz (cI s 62 71 _ _ (decide (s.exprs.length=2)&&bF s) hs (by rw[h];exact MG) (pQ [(.clo 58 [] [],ga),(.clo 59 [] [],eq)] (by simp only[Xs,Yk,or_false];rintro q (rfl | rfl)<;>first | exact⟨_,_,rfl,lA⟩ | exact⟨_,_,rfl,nB⟩ | exact⟨_,_,rfl,pR⟩ | exact⟨_,_,rfl,nA⟩ | exact⟨_,_,rfl,pP⟩ | exact⟨_,_,rfl,pO⟩) (by simp)) (MU s)) ?_
   obtain⟨a,kk,cc,d,e,f,g,hh,i,j,w⟩:=s
   simp only[Stp.kind] at h
   subst h
   simp[aQ,Stp.kind,cL,aP,ga,eq,Stp.number,Stp.time,Stp.limit,Stp.text,Stp.schema,Stp.exprs,Stp.mapping,Stp.calls,Stp.branches]
   try rfl
  ·refine dz (cI s 62 72 _ _ (decide (s.exprs.length=1)&&inR s.number 1 256) hs (by rw[h];exact MF) (pQ [(.clo 58 [] [],ga),(.clo 63 [] [],pV)] (by simp only[Xs,Yk,or_false];rintro q (rfl | rfl)<;>first | exact⟨_,_,rfl,lA⟩ | exact⟨_,_,rfl,nB⟩ | exact⟨_,_,rfl,pR⟩ | exact⟨_,_,rfl,nA⟩ | exact⟨_,_,rfl,pP⟩ | exact⟨_,_,rfl,pO⟩) (by simp)) (MT s)) ?_
   obtain⟨a,kk,cc,d,e,f,g,hh,i,j,w⟩:=s
   simp only[Stp.kind] at h
   subst h
   simp[aQ,Stp.kind,cL,aP,ga,pV,Stp.number,Stp.time,Stp.limit,Stp.text,Stp.schema,Stp.exprs,Stp.mapping,Stp.calls,Stp.branches]
   try rfl
  ·refine dz (cI s 62 73 _ _ (inR s.number 1 256&&decide (1<=s.time)&&bF s) hs (by rw[h];exact ME) (pQ [(.clo 63 [] [],pV),(.clo 59 [] [],eq)] (by simp only[Xs,Yk,or_false];rintro q (rfl | rfl)<;>first | exact⟨_,_,rfl,lA⟩ | exact⟨_,_,rfl,nB⟩ | exact⟨_,_,rfl,pR⟩ | exact⟨_,_,rfl,nA⟩ | exact⟨_,_,rfl,pP⟩ | exact⟨_,_,rfl,pO⟩) (by simp)) (MS s)) ?_
   obtain⟨a,kk,cc,d,e,f,g,hh,i,j,w⟩:=s
   simp only[Stp.kind] at h
   subst h
   simp[aQ,Stp.kind,cL,aP,pV,eq,Stp.number,Stp.time,Stp.limit,Stp.text,Stp.schema,Stp.exprs,Stp.mapping,Stp.calls,Stp.branches]
   try rfl
  ·refine dz (cI s 59 74 _ _ (decide (1<=s.time)&&bF s) hs (by rw[h];exact MD) nA (MR s)) ?_
   obtain⟨a,kk,cc,d,e,f,g,hh,i,j,w⟩:=s
   simp only[Stp.kind] at h
   subst h
   simp[aQ,Stp.kind,cL,aP,eq,Stp.number,Stp.time,Stp.limit,Stp.text,Stp.schema,Stp.exprs,Stp.mapping,Stp.calls,Stp.branches]
   try rfl
  ·refine dz (cI s 62 75 _ _ (inR s.calls.length 1 1&&!decide (s.schema=[])&&bF s) hs (by rw[h];exact MC) (pQ [(.clo 57 [] [],kV),(.clo 59 [] [],eq),(.clo 64 [] [],mA)] (by simp only[Xs,Yk,or_false];rintro q (rfl | rfl | rfl)<;>first | exact⟨_,_,rfl,lA⟩ | exact⟨_,_,rfl,nB⟩ | exact⟨_,_,rfl,pR⟩ | exact⟨_,_,rfl,nA⟩ | exact⟨_,_,rfl,pP⟩ | exact⟨_,_,rfl,pO⟩) (by simp)) (MQ s)) ?_
   obtain⟨a,kk,cc,d,e,f,g,hh,i,j,w⟩:=s
   simp only[Stp.kind] at h
   subst h
   simp[aQ,Stp.kind,cL,aP,kV,eq,mA,Stp.number,Stp.time,Stp.limit,Stp.text,Stp.schema,Stp.exprs,Stp.mapping,Stp.calls,Stp.branches]
   try rfl
  ·refine dz (cI s 62 77 _ _ (inR s.calls.length 1 16&&!decide (s.schema=[])&&bF s) hs (by rw[h];exact G9) (pQ [(.clo 57 [] [],kV),(.clo 59 [] [],eq),(.clo 64 [] [],mA)] (by simp only[Xs,Yk,or_false];rintro q (rfl | rfl | rfl)<;>first | exact⟨_,_,rfl,lA⟩ | exact⟨_,_,rfl,nB⟩ | exact⟨_,_,rfl,pR⟩ | exact⟨_,_,rfl,nA⟩ | exact⟨_,_,rfl,pP⟩ | exact⟨_,_,rfl,pO⟩) (by simp)) (MP s)) ?_
   obtain⟨a,kk,cc,d,e,f,g,hh,i,j,w⟩:=s
   simp only[Stp.kind] at h
   subst h
   simp[aQ,Stp.kind,cL,aP,kV,eq,mA,Stp.number,Stp.time,Stp.limit,Stp.text,Stp.schema,Stp.exprs,Stp.mapping,Stp.calls,Stp.branches]
   try rfl
  ·refine dz (cI s 60 78 _ _ (fQ 1 s.branches) hs (by rw[h];exact G8) RN (MO s hs)) ?_
   obtain⟨a,kk,cc,d,e,f,g,hh,i,j,w⟩:=s
   simp only[Stp.kind] at h
   subst h
   simp[aQ,Stp.kind,cL,aP,JP,Stp.number,Stp.time,Stp.limit,Stp.text,Stp.schema,Stp.exprs,Stp.mapping,Stp.calls,Stp.branches]
   try rfl
  ·refine dz (cI s 60 80 _ _ (fQ 0 s.branches) hs (by rw[h];exact G7) RN (MN s hs)) ?_
   obtain⟨a,kk,cc,d,e,f,g,hh,i,j,w⟩:=s
   simp only[Stp.kind] at h
   subst h
   simp[aQ,Stp.kind,cL,aP,JP,Stp.number,Stp.time,Stp.limit,Stp.text,Stp.schema,Stp.exprs,Stp.mapping,Stp.calls,Stp.branches]
   try rfl
  ·refine dz (cI s 56 81 _ _ (!decide (s.text=[])) hs (by rw[h];exact G6) lA (MM s)) ?_
   obtain⟨a,kk,cc,d,e,f,g,hh,i,j,w⟩:=s
   simp only[Stp.kind] at h
   subst h
   simp[aQ,Stp.kind,cL,aP,pU,Stp.number,Stp.time,Stp.limit,Stp.text,Stp.schema,Stp.exprs,Stp.mapping,Stp.calls,Stp.branches]
   try rfl
  ·refine dz (cI s 56 82 _ _ (cf s.text) hs (by rw[h];exact G5) lA (ML s)) ?_
   obtain⟨a,kk,cc,d,e,f,g,hh,i,j,w⟩:=s
   simp only[Stp.kind] at h
   subst h
   simp[aQ,Stp.kind,cL,aP,pU,Stp.number,Stp.time,Stp.limit,Stp.text,Stp.schema,Stp.exprs,Stp.mapping,Stp.calls,Stp.branches]
   try rfl
 ·refine dz (Oo s hk) ?_
  unfold aQ
  repeat rw[if_neg (by omega)]
attribute [local irreducible] vc
def dj (v:Val):List Val:=if v.kind=8\/v.kind=10 then v.lst else if v.kind=9 then v.fields.map Fld.value else []
theorem iv {v:Val}(h:v.kind=8\/v.kind=10):dj v=v.lst:=if_pos h
theorem lS {v:Val}(h:v.kind=9):dj v=v.fields.map Fld.value:=by unfold dj;rw[if_neg (by omega),if_pos h]
theorem xA {v:Val}(h:¬ (v.kind=8\/v.kind=10))(h9:¬ v.kind=9):dj v=[]:=by unfold dj;rw[if_neg h,if_neg h9]
theorem HQ (v:Val)(hf:v.fields.length*104<=140737488351232):ap Tryz.prog aC 194 [v.pv] (.list ((dj v).map Val.pv)):=by
 obtain⟨k,n,s,t,l,fs⟩:=v
 simp only[Val.fields] at hf
 by_cases h8:k=8\/k=10
 ·rw[iv (v:=.mk k n s t l fs) h8]
  simp only[Val.lst]
  rcases h8 with rfl | rfl
  ·refine ap.intro Aw.2 (by simp[Aw]) ?_
   simp(disch:=try exact dI) only[Aw,WQ,push_cast,seval]
  ·refine ap.intro Aw.2 (by simp[Aw]) ?_
   simp(disch:=try exact dI) only[Aw,WQ,push_cast,seval]
 ·by_cases h9:k=9
  ·subst h9
   rw[lS (v:=.mk 9 n s t l fs) rfl]
   simp only[Val.fields]
   refine ap.intro Aw.2 (by simp[Aw]) ?_
   simp(disch:=try exact dI) only[Aw,WQ,push_cast,seval]
   refine au ([(3,0,108,6)]) (fun i:Nat=>[(3,.olist 0 6 (((fs.take i).map Fld.value).map Val.pv)),(18,.pv (.int .i64 (i:Int)))]) (fun _=>[]) (fun i=>i<=fs.length) (fun i=>fs.length - i) (0) ?_;intro e0 σ0 n0 h0;simp(disch:=try exact dI) only[push_cast,seval] at h0;obtain⟨rfl,rfl,rfl⟩:=h0;refine⟨?_,?_,?_⟩
   ·exact qsZ
   ·omega
   rintro i hi
   by_cases hlt:i<fs.length
   ·have hltI:(i:Int)<(fs.length:Int):=by omega
    obtain⟨c,hc⟩:∃ c,fs[i]? = some c:=⟨_,List.getElem?_eq_getElem hlt⟩
    have hts:=aE hc
    obtain⟨nm,⟨k',n',s',t',l',f'⟩⟩:=c
    have hcp:(fs.map Fld.pv)[i]? = some (.agg [.str nm,.int .i64 k',.int .i64 n',.int .i64 s',.str t',.list (l'.map Val.pv),.list (f'.map Fld.pv)]):=by simp[hc,Wq,WQ,ae]
    simp(disch:=try exact dI) only[hcp,push_cast,seval]
    exact⟨i+1,aJ (by simp(disch:=try exact dI) only[hts,List.map_append,Fld.value,WQ,push_cast,seval]),by omega,by omega⟩
   ·have he:i=fs.length:=by omega
    subst he
    simp(disch:=try exact dI) only[List.take_length,rX,push_cast,seval]
  ·rw[xA (v:=.mk k n s t l fs) h8 h9]
   refine ap.intro Aw.2 (by simp[Aw]) ?_
   have e1:¬ k=8:=by omega
   have e2:¬ k=10:=by omega
   simp(disch:=try exact dI) only[Aw,WQ,push_cast,seval]

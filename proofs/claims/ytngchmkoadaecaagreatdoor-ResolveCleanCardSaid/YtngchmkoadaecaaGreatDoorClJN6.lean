/- A part. -/
import Derived.Test.YtngchmkoadaecaaGreatDoorClJN5
set_option linter.unusedVariables false
set_option linter.unusedSimpArgs false
set_option maxRecDepth 100000
open List renaming mem_cons->UP,not_mem_nil->VI
namespace Go.Proofs.YtngchmkoadaecaaGreatDoor
open Go Go.Ab
theorem dh {s:Stp}{b b':Bool}(h:bA Tryz.prog aB 1 88 [.pv s.pv,.mp 0] [.mp aT] (.pv (.bool b)) [.mp aT])(e:b'=b):bA Tryz.prog aB 1 88 [.pv s.pv,.mp 0] [.mp aT] (.pv (.bool b')) [.mp aT]:=by rw[e];exact h
theorem Pa (s:Stp)(hs:s.ok):bA Tryz.prog aB 1 88 [.pv s.pv,.mp 0] [.mp aT] (.pv (.bool (eN s))) [.mp aT]:=by
 by_cases hk:1<=s.kind/\s.kind<=14
 ·have hc:s.kind=1\/s.kind=2\/s.kind=3\/s.kind=4\/s.kind=5\/s.kind=6\/s.kind=7\/s.kind=8\/s.kind=9\/s.kind=10\/s.kind=11\/s.kind=12\/s.kind=13\/s.kind=14:=by omega
  rcases hc with h | h | h | h | h | h | h | h | h | h | h | h | h | h
  ·refine dh (ct s 62 65 _ _ (decide (s.exprs.length=1)&&dD s.text) hs (by rw[h];exact Kz) (oR [(.clo 56 [] [],oW),(.clo 58 [] [],fL)] (by simp only[UP,VI,or_false];rintro q (rfl | rfl)<;>first | exact⟨_,_,rfl,kC⟩ | exact⟨_,_,rfl,mH⟩ | exact⟨_,_,rfl,oS⟩ | exact⟨_,_,rfl,mG⟩ | exact⟨_,_,rfl,oQ⟩ | exact⟨_,_,rfl,oP⟩) (by simp)) (KO s)) ?_
   obtain⟨a,kk,cc,d,e,f,g,hh,i,j,w⟩:=s
   simp only[Stp.kind] at h
   subst h
   simp[eN,Stp.kind,cx,bj,oW,fL,Stp.number,Stp.time,Stp.limit,Stp.text,Stp.schema,Stp.exprs,Stp.mapping,Stp.calls,Stp.branches]
   try rfl
  ·refine dh (ct s 57 67 _ _ (!decide (s.schema=[])) hs (by rw[h];exact Ky) mH (KN s)) ?_
   obtain⟨a,kk,cc,d,e,f,g,hh,i,j,w⟩:=s
   simp only[Stp.kind] at h
   subst h
   simp[eN,Stp.kind,cx,bj,kg,Stp.number,Stp.time,Stp.limit,Stp.text,Stp.schema,Stp.exprs,Stp.mapping,Stp.calls,Stp.branches]
   try rfl
  ·refine dh (ct s 62 68 _ _ (!decide (s.text=[])&&!decide (s.schema=[])) hs (by rw[h];exact Kx) (oR [(.clo 56 [] [],oW),(.clo 57 [] [],kg)] (by simp only[UP,VI,or_false];rintro q (rfl | rfl)<;>first | exact⟨_,_,rfl,kC⟩ | exact⟨_,_,rfl,mH⟩ | exact⟨_,_,rfl,oS⟩ | exact⟨_,_,rfl,mG⟩ | exact⟨_,_,rfl,oQ⟩ | exact⟨_,_,rfl,oP⟩) (by simp)) (KL s)) ?_
   obtain⟨a,kk,cc,d,e,f,g,hh,i,j,w⟩:=s
   simp only[Stp.kind] at h
   subst h
   simp[eN,Stp.kind,cx,bj,oW,kg,Stp.number,Stp.time,Stp.limit,Stp.text,Stp.schema,Stp.exprs,Stp.mapping,Stp.calls,Stp.branches]
   try rfl
  ·refine dh (ct s 62 69 _ _ (inR s.exprs.length 1 2&&inR s.number 0 256&&!decide (s.schema=[])&&cw s) hs (by rw[h];exact Kw) (oR [(.clo 58 [] [],fL),(.clo 63 [] [],oX),(.clo 59 [] [],dX),(.clo 57 [] [],kg)] (by simp only[UP,VI,or_false];rintro q (rfl | rfl | rfl | rfl)<;>first | exact⟨_,_,rfl,kC⟩ | exact⟨_,_,rfl,mH⟩ | exact⟨_,_,rfl,oS⟩ | exact⟨_,_,rfl,mG⟩ | exact⟨_,_,rfl,oQ⟩ | exact⟨_,_,rfl,oP⟩) (by simp)) (KK s)) ?_
   obtain⟨a,kk,cc,d,e,f,g,hh,i,j,w⟩:=s
   simp only[Stp.kind] at h
   subst h
   simp[eN,Stp.kind,cx,bj,fL,oX,dX,kg,Stp.number,Stp.time,Stp.limit,Stp.text,Stp.schema,Stp.exprs,Stp.mapping,Stp.calls,Stp.branches]
   try rfl
  ·refine dh (ct s 62 71 _ _ (decide (s.exprs.length=2)&&cw s) hs (by rw[h];exact Kv) (oR [(.clo 58 [] [],fL),(.clo 59 [] [],dX)] (by simp only[UP,VI,or_false];rintro q (rfl | rfl)<;>first | exact⟨_,_,rfl,kC⟩ | exact⟨_,_,rfl,mH⟩ | exact⟨_,_,rfl,oS⟩ | exact⟨_,_,rfl,mG⟩ | exact⟨_,_,rfl,oQ⟩ | exact⟨_,_,rfl,oP⟩) (by simp)) (KJ s)) ?_
   obtain⟨a,kk,cc,d,e,f,g,hh,i,j,w⟩:=s
   simp only[Stp.kind] at h
   subst h
   simp[eN,Stp.kind,cx,bj,fL,dX,Stp.number,Stp.time,Stp.limit,Stp.text,Stp.schema,Stp.exprs,Stp.mapping,Stp.calls,Stp.branches]
   try rfl
  ·refine dh (ct s 62 72 _ _ (decide (s.exprs.length=1)&&inR s.number 1 256) hs (by rw[h];exact Ku) (oR [(.clo 58 [] [],fL),(.clo 63 [] [],oX)] (by simp only[UP,VI,or_false];rintro q (rfl | rfl)<;>first | exact⟨_,_,rfl,kC⟩ | exact⟨_,_,rfl,mH⟩ | exact⟨_,_,rfl,oS⟩ | exact⟨_,_,rfl,mG⟩ | exact⟨_,_,rfl,oQ⟩ | exact⟨_,_,rfl,oP⟩) (by simp)) (KI s)) ?_
   obtain⟨a,kk,cc,d,e,f,g,hh,i,j,w⟩:=s
   simp only[Stp.kind] at h
   subst h
   simp[eN,Stp.kind,cx,bj,fL,oX,Stp.number,Stp.time,Stp.limit,Stp.text,Stp.schema,Stp.exprs,Stp.mapping,Stp.calls,Stp.branches]
   try rfl
  ·refine dh (ct s 62 73 _ _ (inR s.number 1 256&&decide (1<=s.time)&&cw s) hs (by rw[h];exact Kt) (oR [(.clo 63 [] [],oX),(.clo 59 [] [],dX)] (by simp only[UP,VI,or_false];rintro q (rfl | rfl)<;>first | exact⟨_,_,rfl,kC⟩ | exact⟨_,_,rfl,mH⟩ | exact⟨_,_,rfl,oS⟩ | exact⟨_,_,rfl,mG⟩ | exact⟨_,_,rfl,oQ⟩ | exact⟨_,_,rfl,oP⟩) (by simp)) (KH s)) ?_
   obtain⟨a,kk,cc,d,e,f,g,hh,i,j,w⟩:=s
   simp only[Stp.kind] at h
   subst h
   simp[eN,Stp.kind,cx,bj,oX,dX,Stp.number,Stp.time,Stp.limit,Stp.text,Stp.schema,Stp.exprs,Stp.mapping,Stp.calls,Stp.branches]
   try rfl
  ·refine dh (ct s 59 74 _ _ (decide (1<=s.time)&&cw s) hs (by rw[h];exact Ks) mG (KG s)) ?_
   obtain⟨a,kk,cc,d,e,f,g,hh,i,j,w⟩:=s
   simp only[Stp.kind] at h
   subst h
   simp[eN,Stp.kind,cx,bj,dX,Stp.number,Stp.time,Stp.limit,Stp.text,Stp.schema,Stp.exprs,Stp.mapping,Stp.calls,Stp.branches]
   try rfl
  ·refine dh (ct s 62 75 _ _ (inR s.calls.length 1 1&&!decide (s.schema=[])&&cw s) hs (by rw[h];exact Kr) (oR [(.clo 57 [] [],kg),(.clo 59 [] [],dX),(.clo 64 [] [],lO)] (by simp only[UP,VI,or_false];rintro q (rfl | rfl | rfl)<;>first | exact⟨_,_,rfl,kC⟩ | exact⟨_,_,rfl,mH⟩ | exact⟨_,_,rfl,oS⟩ | exact⟨_,_,rfl,mG⟩ | exact⟨_,_,rfl,oQ⟩ | exact⟨_,_,rfl,oP⟩) (by simp)) (KF s)) ?_
   obtain⟨a,kk,cc,d,e,f,g,hh,i,j,w⟩:=s
   simp only[Stp.kind] at h
   subst h
   simp[eN,Stp.kind,cx,bj,kg,dX,lO,Stp.number,Stp.time,Stp.limit,Stp.text,Stp.schema,Stp.exprs,Stp.mapping,Stp.calls,Stp.branches]
   try rfl
  ·refine dh (ct s 62 77 _ _ (inR s.calls.length 1 16&&!decide (s.schema=[])&&cw s) hs (by rw[h];exact Fc) (oR [(.clo 57 [] [],kg),(.clo 59 [] [],dX),(.clo 64 [] [],lO)] (by simp only[UP,VI,or_false];rintro q (rfl | rfl | rfl)<;>first | exact⟨_,_,rfl,kC⟩ | exact⟨_,_,rfl,mH⟩ | exact⟨_,_,rfl,oS⟩ | exact⟨_,_,rfl,mG⟩ | exact⟨_,_,rfl,oQ⟩ | exact⟨_,_,rfl,oP⟩) (by simp)) (KE s)) ?_
   obtain⟨a,kk,cc,d,e,f,g,hh,i,j,w⟩:=s
   simp only[Stp.kind] at h
   subst h
   simp[eN,Stp.kind,cx,bj,kg,dX,lO,Stp.number,Stp.time,Stp.limit,Stp.text,Stp.schema,Stp.exprs,Stp.mapping,Stp.calls,Stp.branches]
   try rfl
  ·refine dh (ct s 60 78 _ _ (kv 1 s.branches) hs (by rw[h];exact Fb) Pz (KD s hs)) ?_
   obtain⟨a,kk,cc,d,e,f,g,hh,i,j,w⟩:=s
   simp only[Stp.kind] at h
   subst h
   simp[eN,Stp.kind,cx,bj,HM,Stp.number,Stp.time,Stp.limit,Stp.text,Stp.schema,Stp.exprs,Stp.mapping,Stp.calls,Stp.branches]
   try rfl
  ·refine dh (ct s 60 80 _ _ (kv 0 s.branches) hs (by rw[h];exact Fa) Pz (KC s hs)) ?_
   obtain⟨a,kk,cc,d,e,f,g,hh,i,j,w⟩:=s
   simp only[Stp.kind] at h
   subst h
   simp[eN,Stp.kind,cx,bj,HM,Stp.number,Stp.time,Stp.limit,Stp.text,Stp.schema,Stp.exprs,Stp.mapping,Stp.calls,Stp.branches]
   try rfl
  ·refine dh (ct s 56 81 _ _ (!decide (s.text=[])) hs (by rw[h];exact E9) kC (KB s)) ?_
   obtain⟨a,kk,cc,d,e,f,g,hh,i,j,w⟩:=s
   simp only[Stp.kind] at h
   subst h
   simp[eN,Stp.kind,cx,bj,oW,Stp.number,Stp.time,Stp.limit,Stp.text,Stp.schema,Stp.exprs,Stp.mapping,Stp.calls,Stp.branches]
   try rfl
  ·refine dh (ct s 56 82 _ _ (dD s.text) hs (by rw[h];exact E8) kC (KA s)) ?_
   obtain⟨a,kk,cc,d,e,f,g,hh,i,j,w⟩:=s
   simp only[Stp.kind] at h
   subst h
   simp[eN,Stp.kind,cx,bj,oW,Stp.number,Stp.time,Stp.limit,Stp.text,Stp.schema,Stp.exprs,Stp.mapping,Stp.calls,Stp.branches]
   try rfl
 ·refine dh (L9 s hk) ?_
  unfold eN
  repeat rw[if_neg (by omega)]
attribute [local irreducible] vc
def cP (v:Val):List Val:=if v.kind=8\/v.kind=10 then v.lst else if v.kind=9 then v.fields.map Fld.value else []
theorem g5 {v:Val}(h:v.kind=8\/v.kind=10):cP v=v.lst:=if_pos h
theorem lc {v:Val}(h:v.kind=9):cP v=v.fields.map Fld.value:=by unfold cP;rw[if_neg (by omega),if_pos h]
theorem vp {v:Val}(h:¬ (v.kind=8\/v.kind=10))(h9:¬ v.kind=9):cP v=[]:=by unfold cP;rw[if_neg h,if_neg h9]
theorem FU (v:Val)(hf:v.fields.length*104<=140737488351232):ap Tryz.prog aB 194 [v.pv] (.list ((cP v).map Val.pv)):=by
 obtain⟨k,n,s,t,l,fs⟩:=v
 simp only[Val.fields] at hf
 by_cases h8:k=8\/k=10
 ·rw[g5 (v:=.mk k n s t l fs) h8]
  simp only[Val.lst]
  rcases h8 with rfl | rfl
  ·refine ap.intro xW.2 (by simp[xW]) ?_
   simp(disch:=try exact dI) only[xW,Uo,push_cast,seval]
  ·refine ap.intro xW.2 (by simp[xW]) ?_
   simp(disch:=try exact dI) only[xW,Uo,push_cast,seval]
 ·by_cases h9:k=9
  ·subst h9
   rw[lc (v:=.mk 9 n s t l fs) rfl]
   simp only[Val.fields]
   refine ap.intro xW.2 (by simp[xW]) ?_
   simp(disch:=try exact dI) only[xW,Uo,push_cast,seval]
   refine aw ([(3,0,108,6)]) (fun i:Nat=>[(3,.olist 0 6 (((fs.take i).map Fld.value).map Val.pv)),(18,.pv (.int .i64 (i:Int)))]) (fun _=>[]) (fun i=>i<=fs.length) (fun i=>fs.length - i) (0) ?_;intro e0 σ0 n0 h0;simp(disch:=try exact dI) only[push_cast,seval] at h0;obtain⟨rfl,rfl,rfl⟩:=h0;refine⟨?_,?_,?_⟩
   ·exact qsZ
   ·omega
   rintro i hi
   by_cases hlt:i<fs.length
   ·have hltI:(i:Int)<(fs.length:Int):=by omega
    obtain⟨c,hc⟩:∃ c,fs[i]? = some c:=⟨_,List.getElem?_eq_getElem hlt⟩
    have hts:=aC hc
    obtain⟨nm,⟨k',n',s',t',l',f'⟩⟩:=c
    have hcp:(fs.map Fld.pv)[i]? = some (.agg [.str nm,.int .i64 k',.int .i64 n',.int .i64 s',.str t',.list (l'.map Val.pv),.list (f'.map Fld.pv)]):=by simp[hc,TY,Uo,ae]
    simp(disch:=try exact dI) only[hcp,push_cast,seval]
    exact⟨i+1,aN (by simp(disch:=try exact dI) only[hts,List.map_append,Fld.value,Uo,push_cast,seval]),by omega,by omega⟩
   ·have he:i=fs.length:=by omega
    subst he
    simp(disch:=try exact dI) only[List.take_length,qB,push_cast,seval]
  ·rw[vp (v:=.mk k n s t l fs) h8 h9]
   refine ap.intro xW.2 (by simp[xW]) ?_
   have e1:¬ k=8:=by omega
   have e2:¬ k=10:=by omega
   simp(disch:=try exact dI) only[xW,Uo,push_cast,seval]

/- A part of the proof for CodecChecksCardSaid. -/
import Derived.Test.YtfepkhlgopjaoaaGreatDoorCkF
import Derived.Test.YtfepkhlgopjaoaaGreatDoorCkKD2
import Derived.Test.YtfepkhlgopjaoaaGreatDoorCkKSh
set_option linter.unusedVariables false
set_option linter.unusedSimpArgs false
set_option maxRecDepth 100000
namespace Go.Proofs.YtfepkhlgopjaoaaGreatDoor
open Go Go.Ab
attribute [local irreducible] vc
def bx (v:Val):List Val:=if v.kind=8∨v.kind=10 then v.lst else if v.kind=9 then v.fields.map Fld.value else []
theorem e7 {v:Val}(h:v.kind=8∨v.kind=10):bx v=v.lst:=if_pos h
theorem iD {v:Val}(h:v.kind=9):bx v=v.fields.map Fld.value:=by unfold bx;rw[if_neg (by omega),if_pos h]
theorem qz {v:Val}(h:¬ (v.kind=8∨v.kind=10))(h9:¬ v.kind=9):bx v=[]:=by unfold bx;rw[if_neg h,if_neg h9]
theorem A8 (v:Val)(hf:v.fields.length*104≤140737488351232):aq Tryz.prog aA 307 [v.pv] (.list ((bx v).map Val.pv)):=by
 obtain⟨k,n,s,t,l,fs⟩:=v
 simp only[Val.fields] at hf
 by_cases h8:k=8∨k=10
 ·rw[e7 (v:=.mk k n s t l fs) h8]
  simp only[Val.lst]
  rcases h8 with rfl | rfl
  ·refine aq.intro jR (by simp[Dd]) ?_
   simp(disch:=try exact dI) only[Dd,Val.pv_mk,push_cast,seval]
  ·refine aq.intro jR (by simp[Dd]) ?_
   simp(disch:=try exact dI) only[Dd,Val.pv_mk,push_cast,seval]
 ·by_cases h9:k=9
  ·subst h9
   rw[iD (v:=.mk 9 n s t l fs) rfl]
   simp only[Val.fields]
   refine aq.intro jR (by simp[Dd]) ?_
   simp(disch:=try exact dI) only[Dd,Val.pv_mk,push_cast,seval]
   refine aB ([(3,0,40,6)]) (fun i:Nat=>[(3,.olist 0 6 (((fs.take i).map Fld.value).map Val.pv)),(18,.pv (.int .i64 (i:Int)))]) (fun _=>[]) (fun i=>i≤fs.length) (fun i=>fs.length - i) (0) ?_;intro e0 σ0 n0 h0;simp(disch:=try exact dI) only[push_cast,seval] at h0;obtain⟨rfl,rfl,rfl⟩:=h0;refine⟨?_,?_,?_⟩
   ·simp(disch:=try exact dI) only[push_cast,seval]
   ·omega
   rintro i hi
   by_cases hlt:i<fs.length
   ·have hltI:(i:Int)<(fs.length:Int):=by omega
    obtain⟨c,hc⟩:∃ c,fs[i]? = some c:=⟨_,List.getElem?_eq_getElem hlt⟩
    have hts:=aU hc
    obtain⟨nm,⟨k',n',s',t',l',f'⟩⟩:=c
    have hcp:(fs.map Fld.pv)[i]? = some (.agg [.str nm,.int .i64 k',.int .i64 n',.int .i64 s',.str t',.list (l'.map Val.pv),.list (f'.map Fld.pv)]):=by simp[hc,Fld.pv_mk,Val.pv_mk,ae]
    simp(disch:=try exact dI) only[hcp,push_cast,seval]
    exact⟨i+1,bQ (by simp(disch:=try exact dI) only[hts,List.map_append,Fld.value,Val.pv_mk,push_cast,seval]),by omega,by omega⟩
   ·have he:i=fs.length:=by omega
    subst he
    simp(disch:=try exact dI) only[List.take_length,mP,push_cast,seval]
  ·rw[qz (v:=.mk k n s t l fs) h8 h9]
   refine aq.intro jR (by simp[Dd]) ?_
   have e1:¬ k=8:=by omega
   have e2:¬ k=10:=by omega
   simp(disch:=try exact dI) only[Dd,Val.pv_mk,push_cast,seval]
end Go.Proofs.YtfepkhlgopjaoaaGreatDoor

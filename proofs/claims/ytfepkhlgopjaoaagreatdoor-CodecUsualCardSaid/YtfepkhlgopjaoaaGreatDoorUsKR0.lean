/- A part of the proof for CodecUsualCardSaid. -/
import Derived.Test.YtfepkhlgopjaoaaGreatDoorUsF
import Derived.Test.YtfepkhlgopjaoaaGreatDoorUsKD2
import Derived.Test.YtfepkhlgopjaoaaGreatDoorUsKSh
set_option linter.unusedVariables false
set_option linter.unusedSimpArgs false
set_option maxRecDepth 100000
namespace Go.Proofs.YtfepkhlgopjaoaaGreatDoor
open Go Go.Ab
attribute [local irreducible] vc
def bx (v:Val):List Val:=if v.kind=8∨v.kind=10 then v.lst else if v.kind=9 then v.fields.map Fld.value else []
theorem fc {v:Val}(h:v.kind=8∨v.kind=10):bx v=v.lst:=if_pos h
theorem iL {v:Val}(h:v.kind=9):bx v=v.fields.map Fld.value:=by unfold bx;rw[if_neg (by omega),if_pos h]
theorem qT {v:Val}(h:¬ (v.kind=8∨v.kind=10))(h9:¬ v.kind=9):bx v=[]:=by unfold bx;rw[if_neg h,if_neg h9]
theorem Bx (v:Val)(hf:v.fields.length*104≤140737488351232):ap Tryz.prog az 307 [v.pv] (.list ((bx v).map Val.pv)):=by
 obtain⟨k,n,s,t,l,fs⟩:=v
 simp only[Val.fields] at hf
 by_cases h8:k=8∨k=10
 ·rw[fc (v:=.mk k n s t l fs) h8]
  simp only[Val.lst]
  rcases h8 with rfl | rfl
  ·refine ap.intro j0 (by simp[DE]) ?_
   simp(disch:=try exact dI) only[DE,Val.pv_mk,push_cast,seval]
  ·refine ap.intro j0 (by simp[DE]) ?_
   simp(disch:=try exact dI) only[DE,Val.pv_mk,push_cast,seval]
 ·by_cases h9:k=9
  ·subst h9
   rw[iL (v:=.mk 9 n s t l fs) rfl]
   simp only[Val.fields]
   refine ap.intro j0 (by simp[DE]) ?_
   simp(disch:=try exact dI) only[DE,Val.pv_mk,push_cast,seval]
   refine aB ([(3,0,40,6)]) (fun i:Nat=>[(3,.olist 0 6 (((fs.take i).map Fld.value).map Val.pv)),(18,.pv (.int .i64 (i:Int)))]) (fun _=>[]) (fun i=>i≤fs.length) (fun i=>fs.length - i) (0) ?_;intro e0 σ0 n0 h0;simp(disch:=try exact dI) only[push_cast,seval] at h0;obtain⟨rfl,rfl,rfl⟩:=h0;refine⟨?_,?_,?_⟩
   ·simp(disch:=try exact dI) only[push_cast,seval]
   ·omega
   rintro i hi
   by_cases hlt:i<fs.length
   ·have hltI:(i:Int)<(fs.length:Int):=by omega
    obtain⟨c,hc⟩:∃ c,fs[i]? = some c:=⟨_,List.getElem?_eq_getElem hlt⟩
    have hts:=aR hc
    obtain⟨nm,⟨k',n',s',t',l',f'⟩⟩:=c
    have hcp:(fs.map Fld.pv)[i]? = some (.agg [.str nm,.int .i64 k',.int .i64 n',.int .i64 s',.str t',.list (l'.map Val.pv),.list (f'.map Fld.pv)]):=by simp[hc,Fld.pv_mk,Val.pv_mk,ag]
    simp(disch:=try exact dI) only[hcp,push_cast,seval]
    exact⟨i+1,bH (by simp(disch:=try exact dI) only[hts,List.map_append,Fld.value,Val.pv_mk,push_cast,seval]),by omega,by omega⟩
   ·have he:i=fs.length:=by omega
    subst he
    simp(disch:=try exact dI) only[List.take_length,m7,push_cast,seval]
  ·rw[qT (v:=.mk k n s t l fs) h8 h9]
   refine ap.intro j0 (by simp[DE]) ?_
   have e1:¬ k=8:=by omega
   have e2:¬ k=10:=by omega
   simp(disch:=try exact dI) only[DE,Val.pv_mk,push_cast,seval]
end Go.Proofs.YtfepkhlgopjaoaaGreatDoor

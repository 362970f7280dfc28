/- A part of the proof for LiteralQuotesCardSaid. -/
import Derived.Test.YtamoeblcphjbaaaGreatDoorQuF
import Derived.Test.YtamoeblcphjbaaaGreatDoorQuLD2
import Derived.Test.YtamoeblcphjbaaaGreatDoorQuLC1
set_option maxRecDepth 100000
set_option linter.unusedVariables false
set_option linter.unusedSimpArgs false
namespace Go.Proofs.YtamoeblcphjbaaaGreatDoor
open Go Go.Ab
attribute [local irreducible] vc
def cx (v:Val):List Val:=if v.kind=8∨v.kind=10 then v.lst else if v.kind=9 then v.fields.map Fld.value else []
theorem tY {v:Val}(h:v.kind=8∨v.kind=10):cx v=v.lst:=if_pos h
theorem tW {v:Val}(h:v.kind=9):cx v=v.fields.map Fld.value:=by unfold cx;rw[if_neg (by omega),if_pos h]
theorem tX {v:Val}(h:¬ (v.kind=8∨v.kind=10))(h9:¬ v.kind=9):cx v=[]:=by unfold cx;rw[if_neg h,if_neg h9]
theorem D3 (v:Val)(hf:v.fields.length*104≤140737488351232):aw Tryz.prog aF 149 [v.pv] (.list ((cx v).map Val.pv)):=by
 obtain⟨k,n,s,t,l,fs⟩:=v
 simp only[Val.fields] at hf
 by_cases h8:k=8∨k=10
 ·rw[tY (v:=.mk k n s t l fs) h8]
  simp only[Val.lst]
  rcases h8 with rfl | rfl
  ·refine aw.intro lU (by simp[F3]) ?_
   simp(disch:=first|exact dI|fail) only[F3,Val.pv_mk,push_cast,seval]
  ·refine aw.intro lU (by simp[F3]) ?_
   simp(disch:=first|exact dI|fail) only[F3,Val.pv_mk,push_cast,seval]
 ·by_cases h9:k=9
  ·subst h9
   rw[tW (v:=.mk 9 n s t l fs) rfl]
   simp only[Val.fields]
   refine aw.intro lU (by simp[F3]) ?_
   simp(disch:=first|exact dI|fail) only[F3,Val.pv_mk,push_cast,seval]
   refine bg ([(3,0,25,6)]) (fun i:Nat=>[(3,.olist 0 6 (((fs.take i).map Fld.value).map Val.pv)),(18,.pv (.int .i64 (i:Int)))]) (fun _=>[]) (fun i=>i≤fs.length) (fun i=>fs.length - i) (0) ?_;intro e0 σ0 n0 h0;simp(disch:=first|exact dI|fail) only[push_cast,seval] at h0;obtain⟨rfl,rfl,rfl⟩:=h0;refine⟨?_,?_,?_⟩
   ·simp(disch:=first|exact dI|fail) only[push_cast,seval]
   ·omega
   rintro i hi
   by_cases hlt:i<fs.length
   ·have hltI:(i:Int)<(fs.length:Int):=by omega
    obtain⟨c,hc⟩:∃ c,fs[i]? = some c:=⟨_,List.getElem?_eq_getElem hlt⟩
    have hts:=bt hc
    obtain⟨nm,⟨k',n',s',t',l',f'⟩⟩:=c
    have hcp:(fs.map Fld.pv)[i]? = some (.agg [.str nm,.int .i64 k',.int .i64 n',.int .i64 s',.str t',.list (l'.map Val.pv),.list (f'.map Fld.pv)]):=by simp[hc,Fld.pv_mk,Val.pv_mk,aZ]
    simp(disch:=first|exact dI|fail) only[hcp,push_cast,seval]
    exact⟨i+1,bM (by simp(disch:=first|exact dI|fail) only[hts,List.map_append,Fld.value,Val.pv_mk,push_cast,seval]),by omega,by omega⟩
   ·have he:i=fs.length:=by omega
    subst he
    simp(disch:=first|exact dI|fail) only[List.take_length,y5,push_cast,seval]
  ·rw[tX (v:=.mk k n s t l fs) h8 h9]
   refine aw.intro lU (by simp[F3]) ?_
   have e1:¬ k=8:=by omega
   have e2:¬ k=10:=by omega
   simp(disch:=first|exact dI|fail) only[F3,Val.pv_mk,push_cast,seval]
end Go.Proofs.YtamoeblcphjbaaaGreatDoor

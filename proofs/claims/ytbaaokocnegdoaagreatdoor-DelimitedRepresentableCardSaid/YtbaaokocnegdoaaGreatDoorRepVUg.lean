/- A part of the proof for DelimitedRepresentableCardSaid. -/
import Derived.Test.YtbaaokocnegdoaaGreatDoorRepVUd
set_option maxRecDepth 100000
set_option linter.unusedVariables false
set_option linter.unusedSimpArgs false
-- many steps
namespace Go.Proofs.YtbaaokocnegdoaaGreatDoor
open Go Go.Ab
attribute [local irreducible] vc
theorem bK {k m M s:Int}{w:List (List UInt8)}{e:List Typ}{f:List TFd}(h:aZ k (.mk k m M s w e f)=false):(¬ k=3→s=0)∧(¬ k=8→e.length=0)∧(¬ 9≤k→f.length=0):=by
 simp only[aZ,ap,Bool.or_eq_false_iff] at h
 obtain⟨_,h2,_,h4,h5⟩:=h
 refine⟨fun a=>?_,fun a=>?_,fun a=>?_⟩
 ·rw[decide_eq_false a] at h2;simpa using h2
 ·rw[decide_eq_false a] at h4;simpa using h4
 ·rw[decide_eq_false a] at h5;simpa using h5
theorem bx {k:Int}{e f:Nat}{L:Int}(h1:¬ (k=8∧e=0))(h2:¬ (k=10∧f=0))(h3:¬ (k=8∧1<e)):(if ¬ aF k e f=0 then aF k e f else L)=if 64<f then 9 else L:=by
 unfold aF;rw[if_neg h1,if_neg h2,if_neg h3]
 by_cases h:64<f<;>simp[h]
theorem gC (k:Int)(hk:k=1∨k=9∨k=10):am Tryz.prog aE 198 [.int .i64 k] (.tup [.int .i64 0,.int .i64 256]):=by
 rcases hk with rfl | rfl | rfl
 all_goals
  refine am.intro Bx (by simp[NN]) ?_
  simp(maxSteps:=9^7) (disch:=first|exact dI|fail) only[NN,push_cast,seval]
section
variable (m M s:Int)(w:List (List UInt8))(e:List Typ)(f:List TFd)
set_option maxHeartbeats 4000000 in
theorem DL (hw:∀ x∈w,x.length≤140737488351232):am Tryz.prog aE 148 [(Typ.mk 1 m M s w e f).pv] (.int .i64 (bF (.mk 1 m M s w e f))):=by
 have hi:=a8 1 1 10
 rw[show inB 1 1 10=true from rfl] at hi
 have hu:=bJ m M s w e f 1 (by omega)
 have hj:=a8 1 2 8
 rw[show inB 1 2 8=false from rfl] at hj
 have hl:=gC 1 (by omega)
 have hs:=a8 s 0 12
 have hfl:=bL 1 m M s w e f
 simp only[Typ.pv_mk] at hu hfl
 rw[show bF (.mk 1 m M s w e f)=(if aZ 1 (.mk 1 m M s w e f)=true then 3 else if ¬ aA 1 m M s w=0 then aA 1 m M s w else if ¬ aF 1 e.length f.length=0 then aF 1 e.length f.length else aw 1 [] f) from rfl]
 have hform:=bK (k:=1) (m:=m) (M:=M) (s:=s) (w:=w) (e:=e) (f:=f)
 generalize aZ 1 (.mk 1 m M s w e f)=b at hu hform ⊢
 refine am.intro di (by simp[jS]) ?_
 simp(maxSteps:=9^7) (disch:=first|exact dI|fail) only[jS,Typ.pv_mk,push_cast,seval]
 refine ab.pure hi rfl ?_
 simp(maxSteps:=9^7) (disch:=first|exact dI|fail) only[push_cast,seval]
 refine ab.pure hu rfl ?_
 cases b with
 | true=>simp(maxSteps:=9^7) (disch:=first|exact dI|fail) only[push_cast,seval]
 | false=>
 have hbf:¬ false=true:=by decide
 rw[if_neg hbf]
 obtain⟨hf3,hf8,hf9⟩:=hform rfl
 obtain rfl:=hf3 (by omega)
 rw[show inB 0 0 12=true from rfl] at hs
 have he1I:¬ (1:Int)<(e.length:Int):=by have:=hf8 (by omega);omega
 have hq1:¬ ((1:Int)=8∧e.length=0):=fun h=>absurd h.1 (by decide)
 have hq3:¬ ((1:Int)=8∧1<e.length):=fun h=>absurd h.1 (by decide)
 have hq2:¬ ((1:Int)=10∧f.length=0):=fun h=>absurd h.1 (by decide)
 simp(maxSteps:=9^7) (disch:=first|exact dI|fail) only[push_cast,seval]
 refine ab.pure hl rfl ?_
 simp(maxSteps:=9^7) (disch:=first|exact dI|fail) only[push_cast,seval]
 refine ab.pure hj rfl ?_
 simp(maxSteps:=9^7) (disch:=first|exact dI|fail) only[push_cast,seval]
 refine ab.pure hs rfl ?_
 rw[if_neg (show ¬ ¬ aA 1 m M 0 w=0 by simp[aA])]
 rw[bx hq1 hq2 hq3]
 generalize (if 64<f.length then 9 else aw 1 [] f)=L at hfl ⊢
 simp(maxSteps:=9^7) (disch:=first|exact dI|fail) only[he1I,push_cast,seval]
 refine ab.pure hfl rfl ?_
 simp(maxSteps:=9^7) (disch:=first|exact dI|fail) only[push_cast,seval]
set_option maxHeartbeats 4000000 in
theorem DK (hw:∀ x∈w,x.length≤140737488351232):am Tryz.prog aE 148 [(Typ.mk 2 m M s w e f).pv] (.int .i64 (bF (.mk 2 m M s w e f))):=by
 have hi:=a8 2 1 10
 rw[show inB 2 1 10=true from rfl] at hi
 have hu:=bJ m M s w e f 2 (by omega)
 have hj:=a8 2 2 8
 rw[show inB 2 2 8=true from rfl] at hj
 have hl:=cY 2 (by omega)
 rw[show loK 2=(-999999999999999) from rfl,show hiK 2=999999999999999 from rfl] at hl
 have hb:=dg m M s w e f 2 (-999999999999999) 999999999999999
 have hs:=a8 s 0 12
 have hfl:=bL 2 m M s w e f
 simp only[Typ.pv_mk] at hu hfl hb
 rw[show bF (.mk 2 m M s w e f)=(if aZ 2 (.mk 2 m M s w e f)=true then 3 else if ¬ aA 2 m M s w=0 then aA 2 m M s w else if ¬ aF 2 e.length f.length=0 then aF 2 e.length f.length else aw 2 [] f) from rfl]
 have hform:=bK (k:=2) (m:=m) (M:=M) (s:=s) (w:=w) (e:=e) (f:=f)
 generalize aZ 2 (.mk 2 m M s w e f)=b at hu hform ⊢
 refine am.intro di (by simp[jS]) ?_
 simp(maxSteps:=9^7) (disch:=first|exact dI|fail) only[jS,Typ.pv_mk,push_cast,seval]
 refine ab.pure hi rfl ?_
 simp(maxSteps:=9^7) (disch:=first|exact dI|fail) only[push_cast,seval]
 refine ab.pure hu rfl ?_
 cases b with
 | true=>simp(maxSteps:=9^7) (disch:=first|exact dI|fail) only[push_cast,seval]
 | false=>
 have hbf:¬ false=true:=by decide
 rw[if_neg hbf]
 obtain⟨hf3,hf8,hf9⟩:=hform rfl
 obtain rfl:=hf3 (by omega)
 rw[show inB 0 0 12=true from rfl] at hs
 have he1I:¬ (1:Int)<(e.length:Int):=by have:=hf8 (by omega);omega
 have hq1:¬ ((2:Int)=8∧e.length=0):=fun h=>absurd h.1 (by decide)
 have hq3:¬ ((2:Int)=8∧1<e.length):=fun h=>absurd h.1 (by decide)
 have hq2:¬ ((2:Int)=10∧f.length=0):=fun h=>absurd h.1 (by decide)
 simp(maxSteps:=9^7) (disch:=first|exact dI|fail) only[push_cast,seval]
 refine ab.pure hl rfl ?_
 simp(maxSteps:=9^7) (disch:=first|exact dI|fail) only[push_cast,seval]
 refine ab.pure hj rfl ?_
 simp(maxSteps:=9^7) (disch:=first|exact dI|fail) only[push_cast,seval]
 by_cases hA:M<m∨m<(-999999999999999)∨999999999999999<M
 ·rw[show aA 2 m M 0 w=2 by simp only[aA,loK,hiK];rw[if_neg (by intro h;exact absurd h.1 (by decide))];exact if_pos ⟨by decide,by simpa using hA⟩,if_pos (show ¬ (2:Int)=0 by decide)]
  rw[decide_eq_false (not_not_intro hA)] at hb
  refine ab.pure hb rfl ?_
  simp(maxSteps:=9^7) (disch:=first|exact dI|fail) only[push_cast,seval]
 rw[decide_eq_true hA] at hb
 refine ab.pure hb rfl ?_
 simp(maxSteps:=9^7) (disch:=first|exact dI|fail) only[push_cast,seval]
 refine ab.pure hs rfl ?_
 rw[if_neg (show ¬ ¬ aA 2 m M 0 w=0 by simp[aA,loK,hiK];omega)]
 rw[bx hq1 hq2 hq3]
 generalize (if 64<f.length then 9 else aw 2 [] f)=L at hfl ⊢
 simp(maxSteps:=9^7) (disch:=first|exact dI|fail) only[he1I,push_cast,seval]
 refine ab.pure hfl rfl ?_
 simp(maxSteps:=9^7) (disch:=first|exact dI|fail) only[push_cast,seval]
set_option maxHeartbeats 4000000 in
theorem DJ (hw:∀ x∈w,x.length≤140737488351232):am Tryz.prog aE 148 [(Typ.mk 3 m M s w e f).pv] (.int .i64 (bF (.mk 3 m M s w e f))):=by
 have hi:=a8 3 1 10
 rw[show inB 3 1 10=true from rfl] at hi
 have hu:=bJ m M s w e f 3 (by omega)
 have hj:=a8 3 2 8
 rw[show inB 3 2 8=true from rfl] at hj
 have hl:=cY 3 (by omega)
 rw[show loK 3=(-999999999999999) from rfl,show hiK 3=999999999999999 from rfl] at hl
 have hb:=dg m M s w e f 3 (-999999999999999) 999999999999999
 have hs:=a8 s 0 12
 have hfl:=bL 3 m M s w e f
 simp only[Typ.pv_mk] at hu hfl hb
 rw[show bF (.mk 3 m M s w e f)=(if aZ 3 (.mk 3 m M s w e f)=true then 3 else if ¬ aA 3 m M s w=0 then aA 3 m M s w else if ¬ aF 3 e.length f.length=0 then aF 3 e.length f.length else aw 3 [] f) from rfl]
 have hform:=bK (k:=3) (m:=m) (M:=M) (s:=s) (w:=w) (e:=e) (f:=f)
 generalize aZ 3 (.mk 3 m M s w e f)=b at hu hform ⊢
 refine am.intro di (by simp[jS]) ?_
 simp(maxSteps:=9^7) (disch:=first|exact dI|fail) only[jS,Typ.pv_mk,push_cast,seval]
 refine ab.pure hi rfl ?_
 simp(maxSteps:=9^7) (disch:=first|exact dI|fail) only[push_cast,seval]
 refine ab.pure hu rfl ?_
 cases b with
 | true=>simp(maxSteps:=9^7) (disch:=first|exact dI|fail) only[push_cast,seval]
 | false=>
 have hbf:¬ false=true:=by decide
 rw[if_neg hbf]
 obtain⟨hf3,hf8,hf9⟩:=hform rfl
 have he1I:¬ (1:Int)<(e.length:Int):=by have:=hf8 (by omega);omega
 have hq1:¬ ((3:Int)=8∧e.length=0):=fun h=>absurd h.1 (by decide)
 have hq3:¬ ((3:Int)=8∧1<e.length):=fun h=>absurd h.1 (by decide)
 have hq2:¬ ((3:Int)=10∧f.length=0):=fun h=>absurd h.1 (by decide)
 simp(maxSteps:=9^7) (disch:=first|exact dI|fail) only[push_cast,seval]
 refine ab.pure hl rfl ?_
 simp(maxSteps:=9^7) (disch:=first|exact dI|fail) only[push_cast,seval]
 refine ab.pure hj rfl ?_
 simp(maxSteps:=9^7) (disch:=first|exact dI|fail) only[push_cast,seval]
 by_cases hA:M<m∨m<(-999999999999999)∨999999999999999<M
 ·rw[show aA 3 m M s w=2 by simp only[aA,loK,hiK];rw[if_neg (by intro h;exact absurd h.1 (by decide))];exact if_pos ⟨by decide,by simpa using hA⟩,if_pos (show ¬ (2:Int)=0 by decide)]
  rw[decide_eq_false (not_not_intro hA)] at hb
  refine ab.pure hb rfl ?_
  simp(maxSteps:=9^7) (disch:=first|exact dI|fail) only[push_cast,seval]
 rw[decide_eq_true hA] at hb
 refine ab.pure hb rfl ?_
 simp(maxSteps:=9^7) (disch:=first|exact dI|fail) only[push_cast,seval]
 refine ab.pure hs rfl ?_
 rw[show aA 3 m M s w=if inB s 0 12=false then 2 else 0 by simp only[aA,loK,hiK];rw[if_neg (by intro h;exact absurd h.1 (by decide)),if_neg (by simpa using hA)];simp]
 generalize inB s 0 12=q
 cases q with
 | false=>rw[if_pos rfl,if_pos (by decide)];simp(maxSteps:=9^7) (disch:=first|exact dI|fail) only[push_cast,seval]
 | true=>
 rw[if_neg (show ¬ true=false by decide),if_neg (by decide)]
 rw[bx hq1 hq2 hq3]
 generalize (if 64<f.length then 9 else aw 3 [] f)=L at hfl ⊢
 simp(maxSteps:=9^7) (disch:=first|exact dI|fail) only[he1I,push_cast,seval]
 refine ab.pure hfl rfl ?_
 simp(maxSteps:=9^7) (disch:=first|exact dI|fail) only[push_cast,seval]
set_option maxHeartbeats 4000000 in
theorem DI (hw:∀ x∈w,x.length≤140737488351232):am Tryz.prog aE 148 [(Typ.mk 4 m M s w e f).pv] (.int .i64 (bF (.mk 4 m M s w e f))):=by
 have hi:=a8 4 1 10
 rw[show inB 4 1 10=true from rfl] at hi
 have hu:=bJ m M s w e f 4 (by omega)
 have hj:=a8 4 2 8
 rw[show inB 4 2 8=true from rfl] at hj
 have hl:=cY 4 (by omega)
 rw[show loK 4=0 from rfl,show hiK 4=1024 from rfl] at hl
 have hb:=dg m M s w e f 4 0 1024
 have hs:=a8 s 0 12
 have hfl:=bL 4 m M s w e f
 have hws:=B3 4 m M s w e f hw
 simp only[Typ.pv_mk] at hu hfl hb hws
 rw[show bF (.mk 4 m M s w e f)=(if aZ 4 (.mk 4 m M s w e f)=true then 3 else if ¬ aA 4 m M s w=0 then aA 4 m M s w else if ¬ aF 4 e.length f.length=0 then aF 4 e.length f.length else aw 4 [] f) from rfl]
 have hform:=bK (k:=4) (m:=m) (M:=M) (s:=s) (w:=w) (e:=e) (f:=f)
 generalize aZ 4 (.mk 4 m M s w e f)=b at hu hform ⊢
 refine am.intro di (by simp[jS]) ?_
 simp(maxSteps:=9^7) (disch:=first|exact dI|fail) only[jS,Typ.pv_mk,push_cast,seval]
 refine ab.pure hi rfl ?_
 simp(maxSteps:=9^7) (disch:=first|exact dI|fail) only[push_cast,seval]
 refine ab.pure hu rfl ?_
 cases b with
 | true=>simp(maxSteps:=9^7) (disch:=first|exact dI|fail) only[push_cast,seval]
 | false=>
 have hbf:¬ false=true:=by decide
 rw[if_neg hbf]
 obtain⟨hf3,hf8,hf9⟩:=hform rfl
 obtain rfl:=hf3 (by omega)
 rw[show inB 0 0 12=true from rfl] at hs
 have he1I:¬ (1:Int)<(e.length:Int):=by have:=hf8 (by omega);omega
 have hq1:¬ ((4:Int)=8∧e.length=0):=fun h=>absurd h.1 (by decide)
 have hq3:¬ ((4:Int)=8∧1<e.length):=fun h=>absurd h.1 (by decide)
 have hq2:¬ ((4:Int)=10∧f.length=0):=fun h=>absurd h.1 (by decide)
 by_cases hw0:0<w.length
 ·have hw0I:(0:Int)<(w.length:Int):=by omega
  obtain rfl:=List.length_eq_zero_iff.1 (hf9 (by omega))
  rw[bx hq1 hq2 hq3,show aA 4 m M 0 w=bw m M w by simp[aA,hw0],if_neg (show ¬ 64<([]:List TFd).length by decide),show aw 4 [] []=0 from rfl]
  generalize bw m M w=z at hws ⊢
  rw[show (if ¬ z=0 then z else 0)=z by by_cases h:z=0<;>simp[h]]
  simp(maxSteps:=9^7) (disch:=first|exact dI|fail) only[hw0I,push_cast,seval]
  refine ab.pure hws rfl ?_
  simp(maxSteps:=9^7) (disch:=first|exact dI|fail) only[push_cast,seval]
 have hw0I:¬ (0:Int)<(w.length:Int):=by omega
 simp(maxSteps:=9^7) (disch:=first|exact dI|fail) only[hw0I,push_cast,seval]
 refine ab.pure hl rfl ?_
 simp(maxSteps:=9^7) (disch:=first|exact dI|fail) only[push_cast,seval]
 refine ab.pure hj rfl ?_
 simp(maxSteps:=9^7) (disch:=first|exact dI|fail) only[push_cast,seval]
 by_cases hA:M<m∨m<0∨1024<M
 ·rw[show aA 4 m M 0 w=2 by simp only[aA,loK,hiK];rw[if_neg (by omega)];exact if_pos ⟨by decide,by simpa using hA⟩,if_pos (show ¬ (2:Int)=0 by decide)]
  rw[decide_eq_false (not_not_intro hA)] at hb
  refine ab.pure hb rfl ?_
  simp(maxSteps:=9^7) (disch:=first|exact dI|fail) only[push_cast,seval]
 rw[decide_eq_true hA] at hb
 refine ab.pure hb rfl ?_
 simp(maxSteps:=9^7) (disch:=first|exact dI|fail) only[push_cast,seval]
 refine ab.pure hs rfl ?_
 rw[if_neg (show ¬ ¬ aA 4 m M 0 w=0 by simp[aA,loK,hiK,hw0];omega)]
 rw[bx hq1 hq2 hq3]
 generalize (if 64<f.length then 9 else aw 4 [] f)=L at hfl ⊢
 simp(maxSteps:=9^7) (disch:=first|exact dI|fail) only[he1I,push_cast,seval]
 refine ab.pure hfl rfl ?_
 simp(maxSteps:=9^7) (disch:=first|exact dI|fail) only[push_cast,seval]
set_option maxHeartbeats 4000000 in
theorem DH (hw:∀ x∈w,x.length≤140737488351232):am Tryz.prog aE 148 [(Typ.mk 5 m M s w e f).pv] (.int .i64 (bF (.mk 5 m M s w e f))):=by
 have hi:=a8 5 1 10
 rw[show inB 5 1 10=true from rfl] at hi
 have hu:=bJ m M s w e f 5 (by omega)
 have hj:=a8 5 2 8
 rw[show inB 5 2 8=true from rfl] at hj
 have hl:=cY 5 (by omega)
 rw[show loK 5=0 from rfl,show hiK 5=1024 from rfl] at hl
 have hb:=dg m M s w e f 5 0 1024
 have hs:=a8 s 0 12
 have hfl:=bL 5 m M s w e f
 simp only[Typ.pv_mk] at hu hfl hb
 rw[show bF (.mk 5 m M s w e f)=(if aZ 5 (.mk 5 m M s w e f)=true then 3 else if ¬ aA 5 m M s w=0 then aA 5 m M s w else if ¬ aF 5 e.length f.length=0 then aF 5 e.length f.length else aw 5 [] f) from rfl]
 have hform:=bK (k:=5) (m:=m) (M:=M) (s:=s) (w:=w) (e:=e) (f:=f)
 generalize aZ 5 (.mk 5 m M s w e f)=b at hu hform ⊢
 refine am.intro di (by simp[jS]) ?_
 simp(maxSteps:=9^7) (disch:=first|exact dI|fail) only[jS,Typ.pv_mk,push_cast,seval]
 refine ab.pure hi rfl ?_
 simp(maxSteps:=9^7) (disch:=first|exact dI|fail) only[push_cast,seval]
 refine ab.pure hu rfl ?_
 cases b with
 | true=>simp(maxSteps:=9^7) (disch:=first|exact dI|fail) only[push_cast,seval]
 | false=>
 have hbf:¬ false=true:=by decide
 rw[if_neg hbf]
 obtain⟨hf3,hf8,hf9⟩:=hform rfl
 obtain rfl:=hf3 (by omega)
 rw[show inB 0 0 12=true from rfl] at hs
 have he1I:¬ (1:Int)<(e.length:Int):=by have:=hf8 (by omega);omega
 have hq1:¬ ((5:Int)=8∧e.length=0):=fun h=>absurd h.1 (by decide)
 have hq3:¬ ((5:Int)=8∧1<e.length):=fun h=>absurd h.1 (by decide)
 have hq2:¬ ((5:Int)=10∧f.length=0):=fun h=>absurd h.1 (by decide)
 simp(maxSteps:=9^7) (disch:=first|exact dI|fail) only[push_cast,seval]
 refine ab.pure hl rfl ?_
 simp(maxSteps:=9^7) (disch:=first|exact dI|fail) only[push_cast,seval]
 refine ab.pure hj rfl ?_
 simp(maxSteps:=9^7) (disch:=first|exact dI|fail) only[push_cast,seval]
 by_cases hA:M<m∨m<0∨1024<M
 ·rw[show aA 5 m M 0 w=2 by simp only[aA,loK,hiK];rw[if_neg (by intro h;exact absurd h.1 (by decide))];exact if_pos ⟨by decide,by simpa using hA⟩,if_pos (show ¬ (2:Int)=0 by decide)]
  rw[decide_eq_false (not_not_intro hA)] at hb
  refine ab.pure hb rfl ?_
  simp(maxSteps:=9^7) (disch:=first|exact dI|fail) only[push_cast,seval]
 rw[decide_eq_true hA] at hb
 refine ab.pure hb rfl ?_
 simp(maxSteps:=9^7) (disch:=first|exact dI|fail) only[push_cast,seval]
 refine ab.pure hs rfl ?_
 rw[if_neg (show ¬ ¬ aA 5 m M 0 w=0 by simp[aA,loK,hiK];omega)]
 rw[bx hq1 hq2 hq3]
 generalize (if 64<f.length then 9 else aw 5 [] f)=L at hfl ⊢
 simp(maxSteps:=9^7) (disch:=first|exact dI|fail) only[he1I,push_cast,seval]
 refine ab.pure hfl rfl ?_
 simp(maxSteps:=9^7) (disch:=first|exact dI|fail) only[push_cast,seval]
set_option maxHeartbeats 4000000 in
theorem DG (hw:∀ x∈w,x.length≤140737488351232):am Tryz.prog aE 148 [(Typ.mk 6 m M s w e f).pv] (.int .i64 (bF (.mk 6 m M s w e f))):=by
 have hi:=a8 6 1 10
 rw[show inB 6 1 10=true from rfl] at hi
 have hu:=bJ m M s w e f 6 (by omega)
 have hj:=a8 6 2 8
 rw[show inB 6 2 8=true from rfl] at hj
 have hl:=cY 6 (by omega)
 rw[show loK 6=(-719162) from rfl,show hiK 6=2932896 from rfl] at hl
 have hb:=dg m M s w e f 6 (-719162) 2932896
 have hs:=a8 s 0 12
 have hfl:=bL 6 m M s w e f
 simp only[Typ.pv_mk] at hu hfl hb
 rw[show bF (.mk 6 m M s w e f)=(if aZ 6 (.mk 6 m M s w e f)=true then 3 else if ¬ aA 6 m M s w=0 then aA 6 m M s w else if ¬ aF 6 e.length f.length=0 then aF 6 e.length f.length else aw 6 [] f) from rfl]
 have hform:=bK (k:=6) (m:=m) (M:=M) (s:=s) (w:=w) (e:=e) (f:=f)
 generalize aZ 6 (.mk 6 m M s w e f)=b at hu hform ⊢
 refine am.intro di (by simp[jS]) ?_
 simp(maxSteps:=9^7) (disch:=first|exact dI|fail) only[jS,Typ.pv_mk,push_cast,seval]
 refine ab.pure hi rfl ?_
 simp(maxSteps:=9^7) (disch:=first|exact dI|fail) only[push_cast,seval]
 refine ab.pure hu rfl ?_
 cases b with
 | true=>simp(maxSteps:=9^7) (disch:=first|exact dI|fail) only[push_cast,seval]
 | false=>
 have hbf:¬ false=true:=by decide
 rw[if_neg hbf]
 obtain⟨hf3,hf8,hf9⟩:=hform rfl
 obtain rfl:=hf3 (by omega)
 rw[show inB 0 0 12=true from rfl] at hs
 have he1I:¬ (1:Int)<(e.length:Int):=by have:=hf8 (by omega);omega
 have hq1:¬ ((6:Int)=8∧e.length=0):=fun h=>absurd h.1 (by decide)
 have hq3:¬ ((6:Int)=8∧1<e.length):=fun h=>absurd h.1 (by decide)
 have hq2:¬ ((6:Int)=10∧f.length=0):=fun h=>absurd h.1 (by decide)
 simp(maxSteps:=9^7) (disch:=first|exact dI|fail) only[push_cast,seval]
 refine ab.pure hl rfl ?_
 simp(maxSteps:=9^7) (disch:=first|exact dI|fail) only[push_cast,seval]
 refine ab.pure hj rfl ?_
 simp(maxSteps:=9^7) (disch:=first|exact dI|fail) only[push_cast,seval]
 by_cases hA:M<m∨m<(-719162)∨2932896<M
 ·rw[show aA 6 m M 0 w=2 by simp only[aA,loK,hiK];rw[if_neg (by intro h;exact absurd h.1 (by decide))];exact if_pos ⟨by decide,by simpa using hA⟩,if_pos (show ¬ (2:Int)=0 by decide)]
  rw[decide_eq_false (not_not_intro hA)] at hb
  refine ab.pure hb rfl ?_
  simp(maxSteps:=9^7) (disch:=first|exact dI|fail) only[push_cast,seval]
 rw[decide_eq_true hA] at hb
 refine ab.pure hb rfl ?_
 simp(maxSteps:=9^7) (disch:=first|exact dI|fail) only[push_cast,seval]
 refine ab.pure hs rfl ?_
 rw[if_neg (show ¬ ¬ aA 6 m M 0 w=0 by simp[aA,loK,hiK];omega)]
 rw[bx hq1 hq2 hq3]
 generalize (if 64<f.length then 9 else aw 6 [] f)=L at hfl ⊢
 simp(maxSteps:=9^7) (disch:=first|exact dI|fail) only[he1I,push_cast,seval]
 refine ab.pure hfl rfl ?_
 simp(maxSteps:=9^7) (disch:=first|exact dI|fail) only[push_cast,seval]
set_option maxHeartbeats 4000000 in
theorem DF (hw:∀ x∈w,x.length≤140737488351232):am Tryz.prog aE 148 [(Typ.mk 7 m M s w e f).pv] (.int .i64 (bF (.mk 7 m M s w e f))):=by
 have hi:=a8 7 1 10
 rw[show inB 7 1 10=true from rfl] at hi
 have hu:=bJ m M s w e f 7 (by omega)
 have hj:=a8 7 2 8
 rw[show inB 7 2 8=true from rfl] at hj
 have hl:=cY 7 (by omega)
 rw[show loK 7=(-62135596800000) from rfl,show hiK 7=253402300799999 from rfl] at hl
 have hb:=dg m M s w e f 7 (-62135596800000) 253402300799999
 have hs:=a8 s 0 12
 have hfl:=bL 7 m M s w e f
 simp only[Typ.pv_mk] at hu hfl hb
 rw[show bF (.mk 7 m M s w e f)=(if aZ 7 (.mk 7 m M s w e f)=true then 3 else if ¬ aA 7 m M s w=0 then aA 7 m M s w else if ¬ aF 7 e.length f.length=0 then aF 7 e.length f.length else aw 7 [] f) from rfl]
 have hform:=bK (k:=7) (m:=m) (M:=M) (s:=s) (w:=w) (e:=e) (f:=f)
 generalize aZ 7 (.mk 7 m M s w e f)=b at hu hform ⊢
 refine am.intro di (by simp[jS]) ?_
 simp(maxSteps:=9^7) (disch:=first|exact dI|fail) only[jS,Typ.pv_mk,push_cast,seval]
 refine ab.pure hi rfl ?_
 simp(maxSteps:=9^7) (disch:=first|exact dI|fail) only[push_cast,seval]
 refine ab.pure hu rfl ?_
 cases b with
 | true=>simp(maxSteps:=9^7) (disch:=first|exact dI|fail) only[push_cast,seval]
 | false=>
 have hbf:¬ false=true:=by decide
 rw[if_neg hbf]
 obtain⟨hf3,hf8,hf9⟩:=hform rfl
 obtain rfl:=hf3 (by omega)
 rw[show inB 0 0 12=true from rfl] at hs
 have he1I:¬ (1:Int)<(e.length:Int):=by have:=hf8 (by omega);omega
 have hq1:¬ ((7:Int)=8∧e.length=0):=fun h=>absurd h.1 (by decide)
 have hq3:¬ ((7:Int)=8∧1<e.length):=fun h=>absurd h.1 (by decide)
 have hq2:¬ ((7:Int)=10∧f.length=0):=fun h=>absurd h.1 (by decide)
 simp(maxSteps:=9^7) (disch:=first|exact dI|fail) only[push_cast,seval]
 refine ab.pure hl rfl ?_
 simp(maxSteps:=9^7) (disch:=first|exact dI|fail) only[push_cast,seval]
 refine ab.pure hj rfl ?_
 simp(maxSteps:=9^7) (disch:=first|exact dI|fail) only[push_cast,seval]
 by_cases hA:M<m∨m<(-62135596800000)∨253402300799999<M
 ·rw[show aA 7 m M 0 w=2 by simp only[aA,loK,hiK];rw[if_neg (by intro h;exact absurd h.1 (by decide))];exact if_pos ⟨by decide,by simpa using hA⟩,if_pos (show ¬ (2:Int)=0 by decide)]
  rw[decide_eq_false (not_not_intro hA)] at hb
  refine ab.pure hb rfl ?_
  simp(maxSteps:=9^7) (disch:=first|exact dI|fail) only[push_cast,seval]
 rw[decide_eq_true hA] at hb
 refine ab.pure hb rfl ?_
 simp(maxSteps:=9^7) (disch:=first|exact dI|fail) only[push_cast,seval]
 refine ab.pure hs rfl ?_
 rw[if_neg (show ¬ ¬ aA 7 m M 0 w=0 by simp[aA,loK,hiK];omega)]
 rw[bx hq1 hq2 hq3]
 generalize (if 64<f.length then 9 else aw 7 [] f)=L at hfl ⊢
 simp(maxSteps:=9^7) (disch:=first|exact dI|fail) only[he1I,push_cast,seval]
 refine ab.pure hfl rfl ?_
 simp(maxSteps:=9^7) (disch:=first|exact dI|fail) only[push_cast,seval]
set_option maxHeartbeats 4000000 in
theorem DE (hw:∀ x∈w,x.length≤140737488351232):am Tryz.prog aE 148 [(Typ.mk 8 m M s w e f).pv] (.int .i64 (bF (.mk 8 m M s w e f))):=by
 have hi:=a8 8 1 10
 rw[show inB 8 1 10=true from rfl] at hi
 have hu:=bJ m M s w e f 8 (by omega)
 have hj:=a8 8 2 8
 rw[show inB 8 2 8=true from rfl] at hj
 have hl:=cY 8 (by omega)
 rw[show loK 8=0 from rfl,show hiK 8=256 from rfl] at hl
 have hb:=dg m M s w e f 8 0 256
 have hs:=a8 s 0 12
 have hfl:=bL 8 m M s w e f
 simp only[Typ.pv_mk] at hu hfl hb
 rw[show bF (.mk 8 m M s w e f)=(if aZ 8 (.mk 8 m M s w e f)=true then 3 else if ¬ aA 8 m M s w=0 then aA 8 m M s w else if ¬ aF 8 e.length f.length=0 then aF 8 e.length f.length else aw 8 [] f) from rfl]
 have hform:=bK (k:=8) (m:=m) (M:=M) (s:=s) (w:=w) (e:=e) (f:=f)
 generalize aZ 8 (.mk 8 m M s w e f)=b at hu hform ⊢
 refine am.intro di (by simp[jS]) ?_
 simp(maxSteps:=9^7) (disch:=first|exact dI|fail) only[jS,Typ.pv_mk,push_cast,seval]
 refine ab.pure hi rfl ?_
 simp(maxSteps:=9^7) (disch:=first|exact dI|fail) only[push_cast,seval]
 refine ab.pure hu rfl ?_
 cases b with
 | true=>simp(maxSteps:=9^7) (disch:=first|exact dI|fail) only[push_cast,seval]
 | false=>
 have hbf:¬ false=true:=by decide
 rw[if_neg hbf]
 obtain⟨hf3,hf8,hf9⟩:=hform rfl
 obtain rfl:=hf3 (by omega)
 rw[show inB 0 0 12=true from rfl] at hs
 have hq2:¬ ((8:Int)=10∧f.length=0):=fun h=>absurd h.1 (by decide)
 simp(maxSteps:=9^7) (disch:=first|exact dI|fail) only[push_cast,seval]
 refine ab.pure hl rfl ?_
 simp(maxSteps:=9^7) (disch:=first|exact dI|fail) only[push_cast,seval]
 refine ab.pure hj rfl ?_
 simp(maxSteps:=9^7) (disch:=first|exact dI|fail) only[push_cast,seval]
 by_cases hA:M<m∨m<0∨256<M
 ·rw[show aA 8 m M 0 w=2 by simp only[aA,loK,hiK];rw[if_neg (by intro h;exact absurd h.1 (by decide))];exact if_pos ⟨by decide,by simpa using hA⟩,if_pos (show ¬ (2:Int)=0 by decide)]
  rw[decide_eq_false (not_not_intro hA)] at hb
  refine ab.pure hb rfl ?_
  simp(maxSteps:=9^7) (disch:=first|exact dI|fail) only[push_cast,seval]
 rw[decide_eq_true hA] at hb
 refine ab.pure hb rfl ?_
 simp(maxSteps:=9^7) (disch:=first|exact dI|fail) only[push_cast,seval]
 refine ab.pure hs rfl ?_
 rw[if_neg (show ¬ ¬ aA 8 m M 0 w=0 by simp[aA,loK,hiK];omega)]
 by_cases he0:e.length=0
 ·have he0I:(e.length:Int)=0:=by omega
  rw[if_pos (by simp[aF,he0]),show aF 8 e.length f.length=4 by simp[aF,he0]]
  simp(maxSteps:=9^7) (disch:=first|exact dI|fail) only[he0I,push_cast,seval]
 have he0I:¬ (e.length:Int)=0:=by omega
 by_cases he1:1<e.length
 ·have he1I:(1:Int)<(e.length:Int):=by omega
  rw[if_pos (by simp[aF,he0,he1]),show aF 8 e.length f.length=3 by simp[aF,he0,he1]]
  simp(maxSteps:=9^7) (disch:=first|exact dI|fail) only[he0I,he1I,push_cast,seval]
 have he1I:¬ (1:Int)<(e.length:Int):=by omega
 rw[bx (fun h=>he0 h.2) hq2 (fun h=>he1 h.2)]
 generalize (if 64<f.length then 9 else aw 8 [] f)=L at hfl ⊢
 simp(maxSteps:=9^7) (disch:=first|exact dI|fail) only[he0I,he1I,push_cast,seval]
 refine ab.pure hfl rfl ?_
 simp(maxSteps:=9^7) (disch:=first|exact dI|fail) only[push_cast,seval]
set_option maxHeartbeats 4000000 in
theorem DD (hw:∀ x∈w,x.length≤140737488351232):am Tryz.prog aE 148 [(Typ.mk 9 m M s w e f).pv] (.int .i64 (bF (.mk 9 m M s w e f))):=by
 have hi:=a8 9 1 10
 rw[show inB 9 1 10=true from rfl] at hi
 have hu:=bJ m M s w e f 9 (by omega)
 have hj:=a8 9 2 8
 rw[show inB 9 2 8=false from rfl] at hj
 have hl:=gC 9 (by omega)
 have hs:=a8 s 0 12
 have hfl:=bL 9 m M s w e f
 simp only[Typ.pv_mk] at hu hfl
 rw[show bF (.mk 9 m M s w e f)=(if aZ 9 (.mk 9 m M s w e f)=true then 3 else if ¬ aA 9 m M s w=0 then aA 9 m M s w else if ¬ aF 9 e.length f.length=0 then aF 9 e.length f.length else aw 9 [] f) from rfl]
 have hform:=bK (k:=9) (m:=m) (M:=M) (s:=s) (w:=w) (e:=e) (f:=f)
 generalize aZ 9 (.mk 9 m M s w e f)=b at hu hform ⊢
 refine am.intro di (by simp[jS]) ?_
 simp(maxSteps:=9^7) (disch:=first|exact dI|fail) only[jS,Typ.pv_mk,push_cast,seval]
 refine ab.pure hi rfl ?_
 simp(maxSteps:=9^7) (disch:=first|exact dI|fail) only[push_cast,seval]
 refine ab.pure hu rfl ?_
 cases b with
 | true=>simp(maxSteps:=9^7) (disch:=first|exact dI|fail) only[push_cast,seval]
 | false=>
 have hbf:¬ false=true:=by decide
 rw[if_neg hbf]
 obtain⟨hf3,hf8,hf9⟩:=hform rfl
 obtain rfl:=hf3 (by omega)
 rw[show inB 0 0 12=true from rfl] at hs
 have he1I:¬ (1:Int)<(e.length:Int):=by have:=hf8 (by omega);omega
 have hq1:¬ ((9:Int)=8∧e.length=0):=fun h=>absurd h.1 (by decide)
 have hq3:¬ ((9:Int)=8∧1<e.length):=fun h=>absurd h.1 (by decide)
 have hq2:¬ ((9:Int)=10∧f.length=0):=fun h=>absurd h.1 (by decide)
 simp(maxSteps:=9^7) (disch:=first|exact dI|fail) only[push_cast,seval]
 refine ab.pure hl rfl ?_
 simp(maxSteps:=9^7) (disch:=first|exact dI|fail) only[push_cast,seval]
 refine ab.pure hj rfl ?_
 simp(maxSteps:=9^7) (disch:=first|exact dI|fail) only[push_cast,seval]
 refine ab.pure hs rfl ?_
 rw[if_neg (show ¬ ¬ aA 9 m M 0 w=0 by simp[aA])]
 rw[bx hq1 hq2 hq3]
 generalize (if 64<f.length then 9 else aw 9 [] f)=L at hfl ⊢
 simp(maxSteps:=9^7) (disch:=first|exact dI|fail) only[he1I,push_cast,seval]
 refine ab.pure hfl rfl ?_
 simp(maxSteps:=9^7) (disch:=first|exact dI|fail) only[push_cast,seval]
set_option maxHeartbeats 4000000 in
theorem ym (hw:∀ x∈w,x.length≤140737488351232):am Tryz.prog aE 148 [(Typ.mk 10 m M s w e f).pv] (.int .i64 (bF (.mk 10 m M s w e f))):=by
 have hi:=a8 10 1 10
 rw[show inB 10 1 10=true from rfl] at hi
 have hu:=bJ m M s w e f 10 (by omega)
 have hj:=a8 10 2 8
 rw[show inB 10 2 8=false from rfl] at hj
 have hl:=gC 10 (by omega)
 have hs:=a8 s 0 12
 have hfl:=bL 10 m M s w e f
 simp only[Typ.pv_mk] at hu hfl
 rw[show bF (.mk 10 m M s w e f)=(if aZ 10 (.mk 10 m M s w e f)=true then 3 else if ¬ aA 10 m M s w=0 then aA 10 m M s w else if ¬ aF 10 e.length f.length=0 then aF 10 e.length f.length else aw 10 [] f) from rfl]
 have hform:=bK (k:=10) (m:=m) (M:=M) (s:=s) (w:=w) (e:=e) (f:=f)
 generalize aZ 10 (.mk 10 m M s w e f)=b at hu hform ⊢
 refine am.intro di (by simp[jS]) ?_
 simp(maxSteps:=9^7) (disch:=first|exact dI|fail) only[jS,Typ.pv_mk,push_cast,seval]
 refine ab.pure hi rfl ?_
 simp(maxSteps:=9^7) (disch:=first|exact dI|fail) only[push_cast,seval]
 refine ab.pure hu rfl ?_
 cases b with
 | true=>simp(maxSteps:=9^7) (disch:=first|exact dI|fail) only[push_cast,seval]
 | false=>
 have hbf:¬ false=true:=by decide
 rw[if_neg hbf]
 obtain⟨hf3,hf8,hf9⟩:=hform rfl
 obtain rfl:=hf3 (by omega)
 rw[show inB 0 0 12=true from rfl] at hs
 have he1I:¬ (1:Int)<(e.length:Int):=by have:=hf8 (by omega);omega
 have hq1:¬ ((10:Int)=8∧e.length=0):=fun h=>absurd h.1 (by decide)
 have hq3:¬ ((10:Int)=8∧1<e.length):=fun h=>absurd h.1 (by decide)
 simp(maxSteps:=9^7) (disch:=first|exact dI|fail) only[push_cast,seval]
 refine ab.pure hl rfl ?_
 simp(maxSteps:=9^7) (disch:=first|exact dI|fail) only[push_cast,seval]
 refine ab.pure hj rfl ?_
 simp(maxSteps:=9^7) (disch:=first|exact dI|fail) only[push_cast,seval]
 refine ab.pure hs rfl ?_
 rw[if_neg (show ¬ ¬ aA 10 m M 0 w=0 by simp[aA])]
 by_cases hf0:f.length=0
 ·have hf0I:(f.length:Int)=0:=by omega
  rw[if_pos (by simp[aF,hf0]),show aF 10 e.length f.length=4 by simp[aF,hf0]]
  simp(maxSteps:=9^7) (disch:=first|exact dI|fail) only[hf0I,push_cast,seval]
 have hf0I:¬ (f.length:Int)=0:=by omega
 rw[bx hq1 (fun h=>hf0 h.2) hq3]
 generalize (if 64<f.length then 9 else aw 10 [] f)=L at hfl ⊢
 simp(maxSteps:=9^7) (disch:=first|exact dI|fail) only[he1I,hf0I,push_cast,seval]
 refine ab.pure hfl rfl ?_
 simp(maxSteps:=9^7) (disch:=first|exact dI|fail) only[push_cast,seval]
set_option maxHeartbeats 4000000 in
theorem LO (k:Int)(hw:∀ x∈w,x.length≤140737488351232):am Tryz.prog aE 148 [(Typ.mk k m M s w e f).pv] (.int .i64 (bF (.mk k m M s w e f))):=by
 by_cases hk:inB k 1 10=false
 ·have hi:=a8 k 1 10
  rw[hk] at hi
  rw[show bF (.mk k m M s w e f)=11 by simp[bF,hk]]
  refine am.intro di (by simp[jS]) ?_
  simp(maxSteps:=9^7) (disch:=first|exact dI|fail) only[jS,Typ.pv_mk,push_cast,seval]
  refine ab.pure hi rfl ?_
  simp(maxSteps:=9^7) (disch:=first|exact dI|fail) only[push_cast,seval]
 ·have hr:1≤k∧k≤10:=by simpa[inB] using hk
  have hc:k=1∨k=2∨k=3∨k=4∨k=5∨k=6∨k=7∨k=8∨k=9∨k=10:=by omega
  clear hk hr
  rcases hc with rfl | rfl | rfl | rfl | rfl | rfl | rfl | rfl | rfl | rfl
  ·exact DL m M s w e f hw
  ·exact DK m M s w e f hw
  ·exact DJ m M s w e f hw
  ·exact DI m M s w e f hw
  ·exact DH m M s w e f hw
  ·exact DG m M s w e f hw
  ·exact DF m M s w e f hw
  ·exact DE m M s w e f hw
  ·exact DD m M s w e f hw
  ·exact ym m M s w e f hw
end
end Go.Proofs.YtbaaokocnegdoaaGreatDoor

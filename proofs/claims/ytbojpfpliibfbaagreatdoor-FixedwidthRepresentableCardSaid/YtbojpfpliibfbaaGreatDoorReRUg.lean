/- A part of the proof for FixedwidthRepresentableCardSaid. -/
import Derived.Test.YtbojpfpliibfbaaGreatDoorReRUd
set_option maxRecDepth 100000
set_option linter.unusedVariables false
set_option linter.unusedSimpArgs false
-- many steps
namespace Go.Proofs.YtbojpfpliibfbaaGreatDoor
open Go Go.Ab
attribute [local irreducible] vc
theorem bH {k m M s:Int}{w:List (List UInt8)}{e:List Typ}{f:List TFd}(h:aQ k (.mk k m M s w e f)=false):(¬ k=3→s=0)∧(¬ k=8→e.length=0)∧(¬ 9≤k→f.length=0):=by
 simp only[aQ,aq,Bool.or_eq_false_iff] at h
 obtain⟨_,h2,_,h4,h5⟩:=h
 refine⟨fun a=>?_,fun a=>?_,fun a=>?_⟩
 ·rw[decide_eq_false a] at h2;simpa using h2
 ·rw[decide_eq_false a] at h4;simpa using h4
 ·rw[decide_eq_false a] at h5;simpa using h5
theorem br {k:Int}{e f:Nat}{L:Int}(h1:¬ (k=8∧e=0))(h2:¬ (k=10∧f=0))(h3:¬ (k=8∧1<e)):(if ¬ aF k e f=0 then aF k e f else L)=if 64<f then 9 else L:=by
 unfold aF;rw[if_neg h1,if_neg h2,if_neg h3]
 by_cases h:64<f<;>simp[h]
theorem fW (k:Int)(hk:k=1∨k=9∨k=10):ag Tryz.prog aD 185 [.int .i64 k] (.tup [.int .i64 0,.int .i64 256]):=by
 rcases hk with rfl | rfl | rfl
 all_goals
  refine ag.intro yg (by simp[KX]) ?_
  simp(maxSteps:=9^7) (disch:=try exact dI) only[KX,push_cast,seval]
section
variable (m M s:Int)(w:List (List UInt8))(e:List Typ)(f:List TFd)
set_option maxHeartbeats 4000000 in
theorem AM (hw:∀ x∈w,x.length≤140737488351232):ag Tryz.prog aD 125 [(Typ.mk 1 m M s w e f).pv] (.int .i64 (bh (.mk 1 m M s w e f))):=by
 have hi:=aU 1 1 10
 rw[show inB 1 1 10=true from rfl] at hi
 have hu:=bG m M s w e f 1 (by omega)
 have hj:=aU 1 2 8
 rw[show inB 1 2 8=false from rfl] at hj
 have hl:=fW 1 (by omega)
 have hs:=aU s 0 12
 have hfl:=bI 1 m M s w e f
 simp only[Typ.pv_mk] at hu hfl
 rw[show bh (.mk 1 m M s w e f)=(if aQ 1 (.mk 1 m M s w e f)=true then 3 else if ¬ aB 1 m M s w=0 then aB 1 m M s w else if ¬ aF 1 e.length f.length=0 then aF 1 e.length f.length else az 1 [] f) from rfl]
 have hform:=bH (k:=1) (m:=m) (M:=M) (s:=s) (w:=w) (e:=e) (f:=f)
 generalize aQ 1 (.mk 1 m M s w e f)=b at hu hform ⊢
 refine ag.intro cY (by simp[jh]) ?_
 simp(maxSteps:=9^7) (disch:=try exact dI) only[jh,Typ.pv_mk,push_cast,seval]
 refine ab.pure hi rfl ?_
 simp(maxSteps:=9^7) (disch:=try exact dI) only[push_cast,seval]
 refine ab.pure hu rfl ?_
 cases b with
 | true=>simp(maxSteps:=9^7) (disch:=try exact dI) only[push_cast,seval]
 | false=>
 have hbf:¬ false=true:=by decide
 rw[if_neg hbf]
 obtain⟨hf3,hf8,hf9⟩:=hform rfl
 obtain rfl:=hf3 (by omega)
 rw[show inB 0 0 12=true from rfl] at hs
 have he1I:¬ (1:Int)<(e.length:Int):=by have:=hf8 (by omega);omega
 have hq1:¬ ((1:Int)=8∧e.length=0):=fun h=>absurd h.1 (by decide)
 have hq3:¬ ((1:Int)=8∧1<e.length):=fun h=>absurd h.1 (by decide)
 have hq2:¬ ((1:Int)=10∧f.length=0):=fun h=>absurd h.1 (by decide)
 simp(maxSteps:=9^7) (disch:=try exact dI) only[push_cast,seval]
 refine ab.pure hl rfl ?_
 simp(maxSteps:=9^7) (disch:=try exact dI) only[push_cast,seval]
 refine ab.pure hj rfl ?_
 simp(maxSteps:=9^7) (disch:=try exact dI) only[push_cast,seval]
 refine ab.pure hs rfl ?_
 rw[if_neg (show ¬ ¬ aB 1 m M 0 w=0 by simp[aB])]
 rw[br hq1 hq2 hq3]
 generalize (if 64<f.length then 9 else az 1 [] f)=L at hfl ⊢
 simp(maxSteps:=9^7) (disch:=try exact dI) only[he1I,push_cast,seval]
 refine ab.pure hfl rfl ?_
 simp(maxSteps:=9^7) (disch:=try exact dI) only[push_cast,seval]
set_option maxHeartbeats 4000000 in
theorem AL (hw:∀ x∈w,x.length≤140737488351232):ag Tryz.prog aD 125 [(Typ.mk 2 m M s w e f).pv] (.int .i64 (bh (.mk 2 m M s w e f))):=by
 have hi:=aU 2 1 10
 rw[show inB 2 1 10=true from rfl] at hi
 have hu:=bG m M s w e f 2 (by omega)
 have hj:=aU 2 2 8
 rw[show inB 2 2 8=true from rfl] at hj
 have hl:=cH 2 (by omega)
 rw[show loK 2=(-999999999999999) from rfl,show hiK 2=999999999999999 from rfl] at hl
 have hb:=cR m M s w e f 2 (-999999999999999) 999999999999999
 have hs:=aU s 0 12
 have hfl:=bI 2 m M s w e f
 simp only[Typ.pv_mk] at hu hfl hb
 rw[show bh (.mk 2 m M s w e f)=(if aQ 2 (.mk 2 m M s w e f)=true then 3 else if ¬ aB 2 m M s w=0 then aB 2 m M s w else if ¬ aF 2 e.length f.length=0 then aF 2 e.length f.length else az 2 [] f) from rfl]
 have hform:=bH (k:=2) (m:=m) (M:=M) (s:=s) (w:=w) (e:=e) (f:=f)
 generalize aQ 2 (.mk 2 m M s w e f)=b at hu hform ⊢
 refine ag.intro cY (by simp[jh]) ?_
 simp(maxSteps:=9^7) (disch:=try exact dI) only[jh,Typ.pv_mk,push_cast,seval]
 refine ab.pure hi rfl ?_
 simp(maxSteps:=9^7) (disch:=try exact dI) only[push_cast,seval]
 refine ab.pure hu rfl ?_
 cases b with
 | true=>simp(maxSteps:=9^7) (disch:=try exact dI) only[push_cast,seval]
 | false=>
 have hbf:¬ false=true:=by decide
 rw[if_neg hbf]
 obtain⟨hf3,hf8,hf9⟩:=hform rfl
 obtain rfl:=hf3 (by omega)
 rw[show inB 0 0 12=true from rfl] at hs
 have he1I:¬ (1:Int)<(e.length:Int):=by have:=hf8 (by omega);omega
 have hq1:¬ ((2:Int)=8∧e.length=0):=fun h=>absurd h.1 (by decide)
 have hq3:¬ ((2:Int)=8∧1<e.length):=fun h=>absurd h.1 (by decide)
 have hq2:¬ ((2:Int)=10∧f.length=0):=fun h=>absurd h.1 (by decide)
 simp(maxSteps:=9^7) (disch:=try exact dI) only[push_cast,seval]
 refine ab.pure hl rfl ?_
 simp(maxSteps:=9^7) (disch:=try exact dI) only[push_cast,seval]
 refine ab.pure hj rfl ?_
 simp(maxSteps:=9^7) (disch:=try exact dI) only[push_cast,seval]
 by_cases hA:M<m∨m<(-999999999999999)∨999999999999999<M
 ·rw[show aB 2 m M 0 w=2 by simp only[aB,loK,hiK];rw[if_neg (by intro h;exact absurd h.1 (by decide))];exact if_pos ⟨by decide,by simpa using hA⟩,if_pos (show ¬ (2:Int)=0 by decide)]
  rw[decide_eq_false (not_not_intro hA)] at hb
  refine ab.pure hb rfl ?_
  simp(maxSteps:=9^7) (disch:=try exact dI) only[push_cast,seval]
 rw[decide_eq_true hA] at hb
 refine ab.pure hb rfl ?_
 simp(maxSteps:=9^7) (disch:=try exact dI) only[push_cast,seval]
 refine ab.pure hs rfl ?_
 rw[if_neg (show ¬ ¬ aB 2 m M 0 w=0 by simp[aB,loK,hiK];omega)]
 rw[br hq1 hq2 hq3]
 generalize (if 64<f.length then 9 else az 2 [] f)=L at hfl ⊢
 simp(maxSteps:=9^7) (disch:=try exact dI) only[he1I,push_cast,seval]
 refine ab.pure hfl rfl ?_
 simp(maxSteps:=9^7) (disch:=try exact dI) only[push_cast,seval]
set_option maxHeartbeats 4000000 in
theorem AK (hw:∀ x∈w,x.length≤140737488351232):ag Tryz.prog aD 125 [(Typ.mk 3 m M s w e f).pv] (.int .i64 (bh (.mk 3 m M s w e f))):=by
 have hi:=aU 3 1 10
 rw[show inB 3 1 10=true from rfl] at hi
 have hu:=bG m M s w e f 3 (by omega)
 have hj:=aU 3 2 8
 rw[show inB 3 2 8=true from rfl] at hj
 have hl:=cH 3 (by omega)
 rw[show loK 3=(-999999999999999) from rfl,show hiK 3=999999999999999 from rfl] at hl
 have hb:=cR m M s w e f 3 (-999999999999999) 999999999999999
 have hs:=aU s 0 12
 have hfl:=bI 3 m M s w e f
 simp only[Typ.pv_mk] at hu hfl hb
 rw[show bh (.mk 3 m M s w e f)=(if aQ 3 (.mk 3 m M s w e f)=true then 3 else if ¬ aB 3 m M s w=0 then aB 3 m M s w else if ¬ aF 3 e.length f.length=0 then aF 3 e.length f.length else az 3 [] f) from rfl]
 have hform:=bH (k:=3) (m:=m) (M:=M) (s:=s) (w:=w) (e:=e) (f:=f)
 generalize aQ 3 (.mk 3 m M s w e f)=b at hu hform ⊢
 refine ag.intro cY (by simp[jh]) ?_
 simp(maxSteps:=9^7) (disch:=try exact dI) only[jh,Typ.pv_mk,push_cast,seval]
 refine ab.pure hi rfl ?_
 simp(maxSteps:=9^7) (disch:=try exact dI) only[push_cast,seval]
 refine ab.pure hu rfl ?_
 cases b with
 | true=>simp(maxSteps:=9^7) (disch:=try exact dI) only[push_cast,seval]
 | false=>
 have hbf:¬ false=true:=by decide
 rw[if_neg hbf]
 obtain⟨hf3,hf8,hf9⟩:=hform rfl
 have he1I:¬ (1:Int)<(e.length:Int):=by have:=hf8 (by omega);omega
 have hq1:¬ ((3:Int)=8∧e.length=0):=fun h=>absurd h.1 (by decide)
 have hq3:¬ ((3:Int)=8∧1<e.length):=fun h=>absurd h.1 (by decide)
 have hq2:¬ ((3:Int)=10∧f.length=0):=fun h=>absurd h.1 (by decide)
 simp(maxSteps:=9^7) (disch:=try exact dI) only[push_cast,seval]
 refine ab.pure hl rfl ?_
 simp(maxSteps:=9^7) (disch:=try exact dI) only[push_cast,seval]
 refine ab.pure hj rfl ?_
 simp(maxSteps:=9^7) (disch:=try exact dI) only[push_cast,seval]
 by_cases hA:M<m∨m<(-999999999999999)∨999999999999999<M
 ·rw[show aB 3 m M s w=2 by simp only[aB,loK,hiK];rw[if_neg (by intro h;exact absurd h.1 (by decide))];exact if_pos ⟨by decide,by simpa using hA⟩,if_pos (show ¬ (2:Int)=0 by decide)]
  rw[decide_eq_false (not_not_intro hA)] at hb
  refine ab.pure hb rfl ?_
  simp(maxSteps:=9^7) (disch:=try exact dI) only[push_cast,seval]
 rw[decide_eq_true hA] at hb
 refine ab.pure hb rfl ?_
 simp(maxSteps:=9^7) (disch:=try exact dI) only[push_cast,seval]
 refine ab.pure hs rfl ?_
 rw[show aB 3 m M s w=if inB s 0 12=false then 2 else 0 by simp only[aB,loK,hiK];rw[if_neg (by intro h;exact absurd h.1 (by decide)),if_neg (by simpa using hA)];simp]
 generalize inB s 0 12=q
 cases q with
 | false=>rw[if_pos rfl,if_pos (by decide)];simp(maxSteps:=9^7) (disch:=try exact dI) only[push_cast,seval]
 | true=>
 rw[if_neg (show ¬ true=false by decide),if_neg (by decide)]
 rw[br hq1 hq2 hq3]
 generalize (if 64<f.length then 9 else az 3 [] f)=L at hfl ⊢
 simp(maxSteps:=9^7) (disch:=try exact dI) only[he1I,push_cast,seval]
 refine ab.pure hfl rfl ?_
 simp(maxSteps:=9^7) (disch:=try exact dI) only[push_cast,seval]
set_option maxHeartbeats 4000000 in
theorem AJ (hw:∀ x∈w,x.length≤140737488351232):ag Tryz.prog aD 125 [(Typ.mk 4 m M s w e f).pv] (.int .i64 (bh (.mk 4 m M s w e f))):=by
 have hi:=aU 4 1 10
 rw[show inB 4 1 10=true from rfl] at hi
 have hu:=bG m M s w e f 4 (by omega)
 have hj:=aU 4 2 8
 rw[show inB 4 2 8=true from rfl] at hj
 have hl:=cH 4 (by omega)
 rw[show loK 4=0 from rfl,show hiK 4=1024 from rfl] at hl
 have hb:=cR m M s w e f 4 0 1024
 have hs:=aU s 0 12
 have hfl:=bI 4 m M s w e f
 have hws:=yz 4 m M s w e f hw
 simp only[Typ.pv_mk] at hu hfl hb hws
 rw[show bh (.mk 4 m M s w e f)=(if aQ 4 (.mk 4 m M s w e f)=true then 3 else if ¬ aB 4 m M s w=0 then aB 4 m M s w else if ¬ aF 4 e.length f.length=0 then aF 4 e.length f.length else az 4 [] f) from rfl]
 have hform:=bH (k:=4) (m:=m) (M:=M) (s:=s) (w:=w) (e:=e) (f:=f)
 generalize aQ 4 (.mk 4 m M s w e f)=b at hu hform ⊢
 refine ag.intro cY (by simp[jh]) ?_
 simp(maxSteps:=9^7) (disch:=try exact dI) only[jh,Typ.pv_mk,push_cast,seval]
 refine ab.pure hi rfl ?_
 simp(maxSteps:=9^7) (disch:=try exact dI) only[push_cast,seval]
 refine ab.pure hu rfl ?_
 cases b with
 | true=>simp(maxSteps:=9^7) (disch:=try exact dI) only[push_cast,seval]
 | false=>
 have hbf:¬ false=true:=by decide
 rw[if_neg hbf]
 obtain⟨hf3,hf8,hf9⟩:=hform rfl
 obtain rfl:=hf3 (by omega)
 rw[show inB 0 0 12=true from rfl] at hs
 have he1I:¬ (1:Int)<(e.length:Int):=by have:=hf8 (by omega);omega
 have hq1:¬ ((4:Int)=8∧e.length=0):=fun h=>absurd h.1 (by decide)
 have hq3:¬ ((4:Int)=8∧1<e.length):=fun h=>absurd h.1 (by decide)
 have hq2:¬ ((4:Int)=10∧f.length=0):=fun h=>absurd h.1 (by decide)
 by_cases hw0:0<w.length
 ·have hw0I:(0:Int)<(w.length:Int):=by omega
  obtain rfl:=List.length_eq_zero_iff.1 (hf9 (by omega))
  rw[br hq1 hq2 hq3,show aB 4 m M 0 w=bq m M w by simp[aB,hw0],if_neg (show ¬ 64<([]:List TFd).length by decide),show az 4 [] []=0 from rfl]
  generalize bq m M w=z at hws ⊢
  rw[show (if ¬ z=0 then z else 0)=z by by_cases h:z=0<;>simp[h]]
  simp(maxSteps:=9^7) (disch:=try exact dI) only[hw0I,push_cast,seval]
  refine ab.pure hws rfl ?_
  simp(maxSteps:=9^7) (disch:=try exact dI) only[push_cast,seval]
 have hw0I:¬ (0:Int)<(w.length:Int):=by omega
 simp(maxSteps:=9^7) (disch:=try exact dI) only[hw0I,push_cast,seval]
 refine ab.pure hl rfl ?_
 simp(maxSteps:=9^7) (disch:=try exact dI) only[push_cast,seval]
 refine ab.pure hj rfl ?_
 simp(maxSteps:=9^7) (disch:=try exact dI) only[push_cast,seval]
 by_cases hA:M<m∨m<0∨1024<M
 ·rw[show aB 4 m M 0 w=2 by simp only[aB,loK,hiK];rw[if_neg (by omega)];exact if_pos ⟨by decide,by simpa using hA⟩,if_pos (show ¬ (2:Int)=0 by decide)]
  rw[decide_eq_false (not_not_intro hA)] at hb
  refine ab.pure hb rfl ?_
  simp(maxSteps:=9^7) (disch:=try exact dI) only[push_cast,seval]
 rw[decide_eq_true hA] at hb
 refine ab.pure hb rfl ?_
 simp(maxSteps:=9^7) (disch:=try exact dI) only[push_cast,seval]
 refine ab.pure hs rfl ?_
 rw[if_neg (show ¬ ¬ aB 4 m M 0 w=0 by simp[aB,loK,hiK,hw0];omega)]
 rw[br hq1 hq2 hq3]
 generalize (if 64<f.length then 9 else az 4 [] f)=L at hfl ⊢
 simp(maxSteps:=9^7) (disch:=try exact dI) only[he1I,push_cast,seval]
 refine ab.pure hfl rfl ?_
 simp(maxSteps:=9^7) (disch:=try exact dI) only[push_cast,seval]
set_option maxHeartbeats 4000000 in
theorem AI (hw:∀ x∈w,x.length≤140737488351232):ag Tryz.prog aD 125 [(Typ.mk 5 m M s w e f).pv] (.int .i64 (bh (.mk 5 m M s w e f))):=by
 have hi:=aU 5 1 10
 rw[show inB 5 1 10=true from rfl] at hi
 have hu:=bG m M s w e f 5 (by omega)
 have hj:=aU 5 2 8
 rw[show inB 5 2 8=true from rfl] at hj
 have hl:=cH 5 (by omega)
 rw[show loK 5=0 from rfl,show hiK 5=1024 from rfl] at hl
 have hb:=cR m M s w e f 5 0 1024
 have hs:=aU s 0 12
 have hfl:=bI 5 m M s w e f
 simp only[Typ.pv_mk] at hu hfl hb
 rw[show bh (.mk 5 m M s w e f)=(if aQ 5 (.mk 5 m M s w e f)=true then 3 else if ¬ aB 5 m M s w=0 then aB 5 m M s w else if ¬ aF 5 e.length f.length=0 then aF 5 e.length f.length else az 5 [] f) from rfl]
 have hform:=bH (k:=5) (m:=m) (M:=M) (s:=s) (w:=w) (e:=e) (f:=f)
 generalize aQ 5 (.mk 5 m M s w e f)=b at hu hform ⊢
 refine ag.intro cY (by simp[jh]) ?_
 simp(maxSteps:=9^7) (disch:=try exact dI) only[jh,Typ.pv_mk,push_cast,seval]
 refine ab.pure hi rfl ?_
 simp(maxSteps:=9^7) (disch:=try exact dI) only[push_cast,seval]
 refine ab.pure hu rfl ?_
 cases b with
 | true=>simp(maxSteps:=9^7) (disch:=try exact dI) only[push_cast,seval]
 | false=>
 have hbf:¬ false=true:=by decide
 rw[if_neg hbf]
 obtain⟨hf3,hf8,hf9⟩:=hform rfl
 obtain rfl:=hf3 (by omega)
 rw[show inB 0 0 12=true from rfl] at hs
 have he1I:¬ (1:Int)<(e.length:Int):=by have:=hf8 (by omega);omega
 have hq1:¬ ((5:Int)=8∧e.length=0):=fun h=>absurd h.1 (by decide)
 have hq3:¬ ((5:Int)=8∧1<e.length):=fun h=>absurd h.1 (by decide)
 have hq2:¬ ((5:Int)=10∧f.length=0):=fun h=>absurd h.1 (by decide)
 simp(maxSteps:=9^7) (disch:=try exact dI) only[push_cast,seval]
 refine ab.pure hl rfl ?_
 simp(maxSteps:=9^7) (disch:=try exact dI) only[push_cast,seval]
 refine ab.pure hj rfl ?_
 simp(maxSteps:=9^7) (disch:=try exact dI) only[push_cast,seval]
 by_cases hA:M<m∨m<0∨1024<M
 ·rw[show aB 5 m M 0 w=2 by simp only[aB,loK,hiK];rw[if_neg (by intro h;exact absurd h.1 (by decide))];exact if_pos ⟨by decide,by simpa using hA⟩,if_pos (show ¬ (2:Int)=0 by decide)]
  rw[decide_eq_false (not_not_intro hA)] at hb
  refine ab.pure hb rfl ?_
  simp(maxSteps:=9^7) (disch:=try exact dI) only[push_cast,seval]
 rw[decide_eq_true hA] at hb
 refine ab.pure hb rfl ?_
 simp(maxSteps:=9^7) (disch:=try exact dI) only[push_cast,seval]
 refine ab.pure hs rfl ?_
 rw[if_neg (show ¬ ¬ aB 5 m M 0 w=0 by simp[aB,loK,hiK];omega)]
 rw[br hq1 hq2 hq3]
 generalize (if 64<f.length then 9 else az 5 [] f)=L at hfl ⊢
 simp(maxSteps:=9^7) (disch:=try exact dI) only[he1I,push_cast,seval]
 refine ab.pure hfl rfl ?_
 simp(maxSteps:=9^7) (disch:=try exact dI) only[push_cast,seval]
set_option maxHeartbeats 4000000 in
theorem AH (hw:∀ x∈w,x.length≤140737488351232):ag Tryz.prog aD 125 [(Typ.mk 6 m M s w e f).pv] (.int .i64 (bh (.mk 6 m M s w e f))):=by
 have hi:=aU 6 1 10
 rw[show inB 6 1 10=true from rfl] at hi
 have hu:=bG m M s w e f 6 (by omega)
 have hj:=aU 6 2 8
 rw[show inB 6 2 8=true from rfl] at hj
 have hl:=cH 6 (by omega)
 rw[show loK 6=(-719162) from rfl,show hiK 6=2932896 from rfl] at hl
 have hb:=cR m M s w e f 6 (-719162) 2932896
 have hs:=aU s 0 12
 have hfl:=bI 6 m M s w e f
 simp only[Typ.pv_mk] at hu hfl hb
 rw[show bh (.mk 6 m M s w e f)=(if aQ 6 (.mk 6 m M s w e f)=true then 3 else if ¬ aB 6 m M s w=0 then aB 6 m M s w else if ¬ aF 6 e.length f.length=0 then aF 6 e.length f.length else az 6 [] f) from rfl]
 have hform:=bH (k:=6) (m:=m) (M:=M) (s:=s) (w:=w) (e:=e) (f:=f)
 generalize aQ 6 (.mk 6 m M s w e f)=b at hu hform ⊢
 refine ag.intro cY (by simp[jh]) ?_
 simp(maxSteps:=9^7) (disch:=try exact dI) only[jh,Typ.pv_mk,push_cast,seval]
 refine ab.pure hi rfl ?_
 simp(maxSteps:=9^7) (disch:=try exact dI) only[push_cast,seval]
 refine ab.pure hu rfl ?_
 cases b with
 | true=>simp(maxSteps:=9^7) (disch:=try exact dI) only[push_cast,seval]
 | false=>
 have hbf:¬ false=true:=by decide
 rw[if_neg hbf]
 obtain⟨hf3,hf8,hf9⟩:=hform rfl
 obtain rfl:=hf3 (by omega)
 rw[show inB 0 0 12=true from rfl] at hs
 have he1I:¬ (1:Int)<(e.length:Int):=by have:=hf8 (by omega);omega
 have hq1:¬ ((6:Int)=8∧e.length=0):=fun h=>absurd h.1 (by decide)
 have hq3:¬ ((6:Int)=8∧1<e.length):=fun h=>absurd h.1 (by decide)
 have hq2:¬ ((6:Int)=10∧f.length=0):=fun h=>absurd h.1 (by decide)
 simp(maxSteps:=9^7) (disch:=try exact dI) only[push_cast,seval]
 refine ab.pure hl rfl ?_
 simp(maxSteps:=9^7) (disch:=try exact dI) only[push_cast,seval]
 refine ab.pure hj rfl ?_
 simp(maxSteps:=9^7) (disch:=try exact dI) only[push_cast,seval]
 by_cases hA:M<m∨m<(-719162)∨2932896<M
 ·rw[show aB 6 m M 0 w=2 by simp only[aB,loK,hiK];rw[if_neg (by intro h;exact absurd h.1 (by decide))];exact if_pos ⟨by decide,by simpa using hA⟩,if_pos (show ¬ (2:Int)=0 by decide)]
  rw[decide_eq_false (not_not_intro hA)] at hb
  refine ab.pure hb rfl ?_
  simp(maxSteps:=9^7) (disch:=try exact dI) only[push_cast,seval]
 rw[decide_eq_true hA] at hb
 refine ab.pure hb rfl ?_
 simp(maxSteps:=9^7) (disch:=try exact dI) only[push_cast,seval]
 refine ab.pure hs rfl ?_
 rw[if_neg (show ¬ ¬ aB 6 m M 0 w=0 by simp[aB,loK,hiK];omega)]
 rw[br hq1 hq2 hq3]
 generalize (if 64<f.length then 9 else az 6 [] f)=L at hfl ⊢
 simp(maxSteps:=9^7) (disch:=try exact dI) only[he1I,push_cast,seval]
 refine ab.pure hfl rfl ?_
 simp(maxSteps:=9^7) (disch:=try exact dI) only[push_cast,seval]
set_option maxHeartbeats 4000000 in
theorem AG (hw:∀ x∈w,x.length≤140737488351232):ag Tryz.prog aD 125 [(Typ.mk 7 m M s w e f).pv] (.int .i64 (bh (.mk 7 m M s w e f))):=by
 have hi:=aU 7 1 10
 rw[show inB 7 1 10=true from rfl] at hi
 have hu:=bG m M s w e f 7 (by omega)
 have hj:=aU 7 2 8
 rw[show inB 7 2 8=true from rfl] at hj
 have hl:=cH 7 (by omega)
 rw[show loK 7=(-62135596800000) from rfl,show hiK 7=253402300799999 from rfl] at hl
 have hb:=cR m M s w e f 7 (-62135596800000) 253402300799999
 have hs:=aU s 0 12
 have hfl:=bI 7 m M s w e f
 simp only[Typ.pv_mk] at hu hfl hb
 rw[show bh (.mk 7 m M s w e f)=(if aQ 7 (.mk 7 m M s w e f)=true then 3 else if ¬ aB 7 m M s w=0 then aB 7 m M s w else if ¬ aF 7 e.length f.length=0 then aF 7 e.length f.length else az 7 [] f) from rfl]
 have hform:=bH (k:=7) (m:=m) (M:=M) (s:=s) (w:=w) (e:=e) (f:=f)
 generalize aQ 7 (.mk 7 m M s w e f)=b at hu hform ⊢
 refine ag.intro cY (by simp[jh]) ?_
 simp(maxSteps:=9^7) (disch:=try exact dI) only[jh,Typ.pv_mk,push_cast,seval]
 refine ab.pure hi rfl ?_
 simp(maxSteps:=9^7) (disch:=try exact dI) only[push_cast,seval]
 refine ab.pure hu rfl ?_
 cases b with
 | true=>simp(maxSteps:=9^7) (disch:=try exact dI) only[push_cast,seval]
 | false=>
 have hbf:¬ false=true:=by decide
 rw[if_neg hbf]
 obtain⟨hf3,hf8,hf9⟩:=hform rfl
 obtain rfl:=hf3 (by omega)
 rw[show inB 0 0 12=true from rfl] at hs
 have he1I:¬ (1:Int)<(e.length:Int):=by have:=hf8 (by omega);omega
 have hq1:¬ ((7:Int)=8∧e.length=0):=fun h=>absurd h.1 (by decide)
 have hq3:¬ ((7:Int)=8∧1<e.length):=fun h=>absurd h.1 (by decide)
 have hq2:¬ ((7:Int)=10∧f.length=0):=fun h=>absurd h.1 (by decide)
 simp(maxSteps:=9^7) (disch:=try exact dI) only[push_cast,seval]
 refine ab.pure hl rfl ?_
 simp(maxSteps:=9^7) (disch:=try exact dI) only[push_cast,seval]
 refine ab.pure hj rfl ?_
 simp(maxSteps:=9^7) (disch:=try exact dI) only[push_cast,seval]
 by_cases hA:M<m∨m<(-62135596800000)∨253402300799999<M
 ·rw[show aB 7 m M 0 w=2 by simp only[aB,loK,hiK];rw[if_neg (by intro h;exact absurd h.1 (by decide))];exact if_pos ⟨by decide,by simpa using hA⟩,if_pos (show ¬ (2:Int)=0 by decide)]
  rw[decide_eq_false (not_not_intro hA)] at hb
  refine ab.pure hb rfl ?_
  simp(maxSteps:=9^7) (disch:=try exact dI) only[push_cast,seval]
 rw[decide_eq_true hA] at hb
 refine ab.pure hb rfl ?_
 simp(maxSteps:=9^7) (disch:=try exact dI) only[push_cast,seval]
 refine ab.pure hs rfl ?_
 rw[if_neg (show ¬ ¬ aB 7 m M 0 w=0 by simp[aB,loK,hiK];omega)]
 rw[br hq1 hq2 hq3]
 generalize (if 64<f.length then 9 else az 7 [] f)=L at hfl ⊢
 simp(maxSteps:=9^7) (disch:=try exact dI) only[he1I,push_cast,seval]
 refine ab.pure hfl rfl ?_
 simp(maxSteps:=9^7) (disch:=try exact dI) only[push_cast,seval]
set_option maxHeartbeats 4000000 in
theorem AF (hw:∀ x∈w,x.length≤140737488351232):ag Tryz.prog aD 125 [(Typ.mk 8 m M s w e f).pv] (.int .i64 (bh (.mk 8 m M s w e f))):=by
 have hi:=aU 8 1 10
 rw[show inB 8 1 10=true from rfl] at hi
 have hu:=bG m M s w e f 8 (by omega)
 have hj:=aU 8 2 8
 rw[show inB 8 2 8=true from rfl] at hj
 have hl:=cH 8 (by omega)
 rw[show loK 8=0 from rfl,show hiK 8=256 from rfl] at hl
 have hb:=cR m M s w e f 8 0 256
 have hs:=aU s 0 12
 have hfl:=bI 8 m M s w e f
 simp only[Typ.pv_mk] at hu hfl hb
 rw[show bh (.mk 8 m M s w e f)=(if aQ 8 (.mk 8 m M s w e f)=true then 3 else if ¬ aB 8 m M s w=0 then aB 8 m M s w else if ¬ aF 8 e.length f.length=0 then aF 8 e.length f.length else az 8 [] f) from rfl]
 have hform:=bH (k:=8) (m:=m) (M:=M) (s:=s) (w:=w) (e:=e) (f:=f)
 generalize aQ 8 (.mk 8 m M s w e f)=b at hu hform ⊢
 refine ag.intro cY (by simp[jh]) ?_
 simp(maxSteps:=9^7) (disch:=try exact dI) only[jh,Typ.pv_mk,push_cast,seval]
 refine ab.pure hi rfl ?_
 simp(maxSteps:=9^7) (disch:=try exact dI) only[push_cast,seval]
 refine ab.pure hu rfl ?_
 cases b with
 | true=>simp(maxSteps:=9^7) (disch:=try exact dI) only[push_cast,seval]
 | false=>
 have hbf:¬ false=true:=by decide
 rw[if_neg hbf]
 obtain⟨hf3,hf8,hf9⟩:=hform rfl
 obtain rfl:=hf3 (by omega)
 rw[show inB 0 0 12=true from rfl] at hs
 have hq2:¬ ((8:Int)=10∧f.length=0):=fun h=>absurd h.1 (by decide)
 simp(maxSteps:=9^7) (disch:=try exact dI) only[push_cast,seval]
 refine ab.pure hl rfl ?_
 simp(maxSteps:=9^7) (disch:=try exact dI) only[push_cast,seval]
 refine ab.pure hj rfl ?_
 simp(maxSteps:=9^7) (disch:=try exact dI) only[push_cast,seval]
 by_cases hA:M<m∨m<0∨256<M
 ·rw[show aB 8 m M 0 w=2 by simp only[aB,loK,hiK];rw[if_neg (by intro h;exact absurd h.1 (by decide))];exact if_pos ⟨by decide,by simpa using hA⟩,if_pos (show ¬ (2:Int)=0 by decide)]
  rw[decide_eq_false (not_not_intro hA)] at hb
  refine ab.pure hb rfl ?_
  simp(maxSteps:=9^7) (disch:=try exact dI) only[push_cast,seval]
 rw[decide_eq_true hA] at hb
 refine ab.pure hb rfl ?_
 simp(maxSteps:=9^7) (disch:=try exact dI) only[push_cast,seval]
 refine ab.pure hs rfl ?_
 rw[if_neg (show ¬ ¬ aB 8 m M 0 w=0 by simp[aB,loK,hiK];omega)]
 by_cases he0:e.length=0
 ·have he0I:(e.length:Int)=0:=by omega
  rw[if_pos (by simp[aF,he0]),show aF 8 e.length f.length=4 by simp[aF,he0]]
  simp(maxSteps:=9^7) (disch:=try exact dI) only[he0I,push_cast,seval]
 have he0I:¬ (e.length:Int)=0:=by omega
 by_cases he1:1<e.length
 ·have he1I:(1:Int)<(e.length:Int):=by omega
  rw[if_pos (by simp[aF,he0,he1]),show aF 8 e.length f.length=3 by simp[aF,he0,he1]]
  simp(maxSteps:=9^7) (disch:=try exact dI) only[he0I,he1I,push_cast,seval]
 have he1I:¬ (1:Int)<(e.length:Int):=by omega
 rw[br (fun h=>he0 h.2) hq2 (fun h=>he1 h.2)]
 generalize (if 64<f.length then 9 else az 8 [] f)=L at hfl ⊢
 simp(maxSteps:=9^7) (disch:=try exact dI) only[he0I,he1I,push_cast,seval]
 refine ab.pure hfl rfl ?_
 simp(maxSteps:=9^7) (disch:=try exact dI) only[push_cast,seval]
set_option maxHeartbeats 4000000 in
theorem AE (hw:∀ x∈w,x.length≤140737488351232):ag Tryz.prog aD 125 [(Typ.mk 9 m M s w e f).pv] (.int .i64 (bh (.mk 9 m M s w e f))):=by
 have hi:=aU 9 1 10
 rw[show inB 9 1 10=true from rfl] at hi
 have hu:=bG m M s w e f 9 (by omega)
 have hj:=aU 9 2 8
 rw[show inB 9 2 8=false from rfl] at hj
 have hl:=fW 9 (by omega)
 have hs:=aU s 0 12
 have hfl:=bI 9 m M s w e f
 simp only[Typ.pv_mk] at hu hfl
 rw[show bh (.mk 9 m M s w e f)=(if aQ 9 (.mk 9 m M s w e f)=true then 3 else if ¬ aB 9 m M s w=0 then aB 9 m M s w else if ¬ aF 9 e.length f.length=0 then aF 9 e.length f.length else az 9 [] f) from rfl]
 have hform:=bH (k:=9) (m:=m) (M:=M) (s:=s) (w:=w) (e:=e) (f:=f)
 generalize aQ 9 (.mk 9 m M s w e f)=b at hu hform ⊢
 refine ag.intro cY (by simp[jh]) ?_
 simp(maxSteps:=9^7) (disch:=try exact dI) only[jh,Typ.pv_mk,push_cast,seval]
 refine ab.pure hi rfl ?_
 simp(maxSteps:=9^7) (disch:=try exact dI) only[push_cast,seval]
 refine ab.pure hu rfl ?_
 cases b with
 | true=>simp(maxSteps:=9^7) (disch:=try exact dI) only[push_cast,seval]
 | false=>
 have hbf:¬ false=true:=by decide
 rw[if_neg hbf]
 obtain⟨hf3,hf8,hf9⟩:=hform rfl
 obtain rfl:=hf3 (by omega)
 rw[show inB 0 0 12=true from rfl] at hs
 have he1I:¬ (1:Int)<(e.length:Int):=by have:=hf8 (by omega);omega
 have hq1:¬ ((9:Int)=8∧e.length=0):=fun h=>absurd h.1 (by decide)
 have hq3:¬ ((9:Int)=8∧1<e.length):=fun h=>absurd h.1 (by decide)
 have hq2:¬ ((9:Int)=10∧f.length=0):=fun h=>absurd h.1 (by decide)
 simp(maxSteps:=9^7) (disch:=try exact dI) only[push_cast,seval]
 refine ab.pure hl rfl ?_
 simp(maxSteps:=9^7) (disch:=try exact dI) only[push_cast,seval]
 refine ab.pure hj rfl ?_
 simp(maxSteps:=9^7) (disch:=try exact dI) only[push_cast,seval]
 refine ab.pure hs rfl ?_
 rw[if_neg (show ¬ ¬ aB 9 m M 0 w=0 by simp[aB])]
 rw[br hq1 hq2 hq3]
 generalize (if 64<f.length then 9 else az 9 [] f)=L at hfl ⊢
 simp(maxSteps:=9^7) (disch:=try exact dI) only[he1I,push_cast,seval]
 refine ab.pure hfl rfl ?_
 simp(maxSteps:=9^7) (disch:=try exact dI) only[push_cast,seval]
set_option maxHeartbeats 4000000 in
theorem uX (hw:∀ x∈w,x.length≤140737488351232):ag Tryz.prog aD 125 [(Typ.mk 10 m M s w e f).pv] (.int .i64 (bh (.mk 10 m M s w e f))):=by
 have hi:=aU 10 1 10
 rw[show inB 10 1 10=true from rfl] at hi
 have hu:=bG m M s w e f 10 (by omega)
 have hj:=aU 10 2 8
 rw[show inB 10 2 8=false from rfl] at hj
 have hl:=fW 10 (by omega)
 have hs:=aU s 0 12
 have hfl:=bI 10 m M s w e f
 simp only[Typ.pv_mk] at hu hfl
 rw[show bh (.mk 10 m M s w e f)=(if aQ 10 (.mk 10 m M s w e f)=true then 3 else if ¬ aB 10 m M s w=0 then aB 10 m M s w else if ¬ aF 10 e.length f.length=0 then aF 10 e.length f.length else az 10 [] f) from rfl]
 have hform:=bH (k:=10) (m:=m) (M:=M) (s:=s) (w:=w) (e:=e) (f:=f)
 generalize aQ 10 (.mk 10 m M s w e f)=b at hu hform ⊢
 refine ag.intro cY (by simp[jh]) ?_
 simp(maxSteps:=9^7) (disch:=try exact dI) only[jh,Typ.pv_mk,push_cast,seval]
 refine ab.pure hi rfl ?_
 simp(maxSteps:=9^7) (disch:=try exact dI) only[push_cast,seval]
 refine ab.pure hu rfl ?_
 cases b with
 | true=>simp(maxSteps:=9^7) (disch:=try exact dI) only[push_cast,seval]
 | false=>
 have hbf:¬ false=true:=by decide
 rw[if_neg hbf]
 obtain⟨hf3,hf8,hf9⟩:=hform rfl
 obtain rfl:=hf3 (by omega)
 rw[show inB 0 0 12=true from rfl] at hs
 have he1I:¬ (1:Int)<(e.length:Int):=by have:=hf8 (by omega);omega
 have hq1:¬ ((10:Int)=8∧e.length=0):=fun h=>absurd h.1 (by decide)
 have hq3:¬ ((10:Int)=8∧1<e.length):=fun h=>absurd h.1 (by decide)
 simp(maxSteps:=9^7) (disch:=try exact dI) only[push_cast,seval]
 refine ab.pure hl rfl ?_
 simp(maxSteps:=9^7) (disch:=try exact dI) only[push_cast,seval]
 refine ab.pure hj rfl ?_
 simp(maxSteps:=9^7) (disch:=try exact dI) only[push_cast,seval]
 refine ab.pure hs rfl ?_
 rw[if_neg (show ¬ ¬ aB 10 m M 0 w=0 by simp[aB])]
 by_cases hf0:f.length=0
 ·have hf0I:(f.length:Int)=0:=by omega
  rw[if_pos (by simp[aF,hf0]),show aF 10 e.length f.length=4 by simp[aF,hf0]]
  simp(maxSteps:=9^7) (disch:=try exact dI) only[hf0I,push_cast,seval]
 have hf0I:¬ (f.length:Int)=0:=by omega
 rw[br hq1 (fun h=>hf0 h.2) hq3]
 generalize (if 64<f.length then 9 else az 10 [] f)=L at hfl ⊢
 simp(maxSteps:=9^7) (disch:=try exact dI) only[he1I,hf0I,push_cast,seval]
 refine ab.pure hfl rfl ?_
 simp(maxSteps:=9^7) (disch:=try exact dI) only[push_cast,seval]
set_option maxHeartbeats 4000000 in
theorem IH (k:Int)(hw:∀ x∈w,x.length≤140737488351232):ag Tryz.prog aD 125 [(Typ.mk k m M s w e f).pv] (.int .i64 (bh (.mk k m M s w e f))):=by
 by_cases hk:inB k 1 10=false
 ·have hi:=aU k 1 10
  rw[hk] at hi
  rw[show bh (.mk k m M s w e f)=11 by simp[bh,hk]]
  refine ag.intro cY (by simp[jh]) ?_
  simp(maxSteps:=9^7) (disch:=try exact dI) only[jh,Typ.pv_mk,push_cast,seval]
  refine ab.pure hi rfl ?_
  simp(maxSteps:=9^7) (disch:=try exact dI) only[push_cast,seval]
 ·have hr:1≤k∧k≤10:=by simpa[inB] using hk
  have hc:k=1∨k=2∨k=3∨k=4∨k=5∨k=6∨k=7∨k=8∨k=9∨k=10:=by omega
  clear hk hr
  rcases hc with rfl | rfl | rfl | rfl | rfl | rfl | rfl | rfl | rfl | rfl
  ·exact AM m M s w e f hw
  ·exact AL m M s w e f hw
  ·exact AK m M s w e f hw
  ·exact AJ m M s w e f hw
  ·exact AI m M s w e f hw
  ·exact AH m M s w e f hw
  ·exact AG m M s w e f hw
  ·exact AF m M s w e f hw
  ·exact AE m M s w e f hw
  ·exact uX m M s w e f hw
end
end Go.Proofs.YtbojpfpliibfbaaGreatDoor

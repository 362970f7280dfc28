/- A part of the proof for FixedwidthRepresentableCardSaid. -/
import Derived.Test.YtbojpfpliibfbaaGreatDoorReRS3
import Derived.Test.YtbojpfpliibfbaaGreatDoorReRS1
set_option maxRecDepth 100000
set_option linter.unusedVariables false
set_option linter.unusedSimpArgs false
-- many steps
namespace Go.Proofs.YtbojpfpliibfbaaGreatDoor
open Go Go.Ab
attribute [local irreducible] vc
def d8:List PV:=[.str [],.int .i64 0,.int .i64 0,.bool false,.bool false,.bool false,.bool false,.bool false,.str [98,111,111,108],.int .i64 0,.int .i64 0,.bool false,.bool false,.bool false,.bool false,.bool false,.str [105,110,116],.int .i64 (-999999999999999),.int .i64 999999999999999,.bool true,.bool false,.bool false,.bool false,.bool false,.str [100,101,99,105,109,97,108],.int .i64 (-999999999999999),.int .i64 999999999999999,.bool true,.bool true,.bool false,.bool false,.bool false,.str [116,101,120,116],.int .i64 0,.int .i64 1024,.bool true,.bool false,.bool true,.bool false,.bool false,.str [98,121,116,101,115],.int .i64 0,.int .i64 1024,.bool true,.bool false,.bool false,.bool false,.bool false,.str [100,97,116,101],.int .i64 (-719162),.int .i64 2932896,.bool true,.bool false,.bool false,.bool false,.bool false,.str [116,105,109,101],.int .i64 (-62135596800000),.int .i64 253402300799999,.bool true,.bool false,.bool false,.bool false,.bool false,.str [108,105,115,116],.int .i64 0,.int .i64 256,.bool true,.bool false,.bool false,.bool true,.bool false,.str [114,101,99,111,114,100],.int .i64 0,.int .i64 0,.bool false,.bool false,.bool false,.bool false,.bool true,.str [118,97,114,105,97,110,116],.int .i64 0,.int .i64 0,.bool false,.bool false,.bool false,.bool false,.bool true]
theorem ci:ag Tryz.prog aD 229 [] (.agg d8):=by
 refine ag.intro G1 (by simp[M8]) ?_
 simp only[d8]
 simp(maxSteps:=9^7) (disch:=try exact dI) only[M8,push_cast,seval]
def loK (k:Int):Int:=if k=2 then (-999999999999999) else if k=3 then (-999999999999999) else if k=6 then (-719162) else if k=7 then (-62135596800000) else 0
def hiK (k:Int):Int:=if k=2 then 999999999999999 else if k=3 then 999999999999999 else if k=4 then 1024 else if k=5 then 1024 else if k=6 then 2932896 else if k=7 then 253402300799999 else if k=8 then 256 else 0
def aQ (k:Int)(t:Typ):Bool:=aq (decide (2≤k)&&decide (k≤8)) (decide (k=3)) (decide (k=4)) (decide (k=8)) (decide (9≤k)) t
def aB (k m M s:Int)(w:List (List UInt8)):Int:=if k=4∧0<w.length then bq m M w else if (2≤k∧k≤8)∧(M<m∨m<loK k∨hiK k<M) then 2 else if k=3∧inB s 0 12=false then 2 else 0
def aF (k:Int)(e f:Nat):Int:=if k=8∧e=0 then 4 else if k=10∧f=0 then 4 else if k=8∧1<e then 3 else if 64<f then 9 else 0
def az (k:Int):List TFd→List TFd→Int
 | _,[]=>0
 | b,g::r=>if bz k b g=0 then az k (b++[g]) r else bz k b g
theorem aO {k:Int}{f:List TFd}{i:Nat}{g:TFd}(h:f[i]? = some g):az k (f.take i) (f.drop i)=if bz k (f.take i) g=0 then az k (f.take (i+1)) (f.drop (i+1)) else bz k (f.take i) g:=by
 have hi:=(List.getElem?_eq_some_iff.1 h).1
 have he:f[i]=g:=(List.getElem?_eq_some_iff.1 h).2
 rw[List.drop_eq_getElem_cons hi,he,az,aI h]
def bh:Typ→Int
 | .mk k m M s w e f=>if inB k 1 10=false then 11 else if aQ k (.mk k m M s w e f)=true then 3 else if ¬ aB k m M s w=0 then aB k m M s w else if ¬ aF k e.length f.length=0 then aF k e.length f.length else az k [] f
section
variable (m M s:Int)(w:List (List UInt8))(e:List Typ)(f:List TFd)
set_option maxHeartbeats 4000000 in
theorem AY (hw:∀ x∈w,x.length≤140737488351232)(hl:f.length≤9000000000000):ag Tryz.prog aD 178 [(Typ.mk 1 m M s w e f).pv] (.int .i64 (bh (.mk 1 m M s w e f))):=by
 have hi:=ec 1 1 10
 rw[show inB 1 1 10=true from rfl] at hi
 have hk:=ci
 have hf:=ww 1 m M s w e f [98,111,111,108] 0 0
 simp only[Typ.pv_mk,lim] at hf
 have hx:bv true 11 8 (.pv (.agg d8)) (.pv (.int .i64 1))=some (.pv (.agg [.str [98,111,111,108],.int .i64 0,.int .i64 0,.bool false,.bool false,.bool false,.bool false,.bool false])):=rfl
 rw[show bh (.mk 1 m M s w e f)=(if aq false false false false false (.mk 1 m M s w e f)=true then 3 else if ¬ aB 1 m M s w=0 then aB 1 m M s w else if ¬ aF 1 e.length f.length=0 then aF 1 e.length f.length else az 1 [] f) from rfl]
 generalize aq false false false false false (.mk 1 m M s w e f)=b at hf ⊢
 refine ag.intro cW (by simp[jg]) ?_
 simp(maxSteps:=9^7) (disch:=try exact dI) only[jg,Typ.pv_mk,push_cast,seval]
 refine ab.pure hi rfl ?_
 simp(maxSteps:=9^7) (disch:=try exact dI) only[push_cast,seval]
 refine aA hk rfl ?_
 simp(maxSteps:=9^7) (disch:=try exact dI) only[hx,push_cast,seval]
 refine ab.pure hf rfl ?_
 cases b with
 | true=>simp(maxSteps:=9^7) (disch:=try exact dI) only[push_cast,seval]
 | false=>
 have hbf:¬ false=true:=by decide
 rw[if_neg hbf]
 rw[if_neg (show ¬ ¬ aB 1 m M s w=0 by simp[aB,loK,hiK])]
 by_cases h64:64<f.length
 ·have h64I:(64:Int)<(f.length:Int):=by omega
  rw[if_pos (by simp[aF,h64]),show aF 1 e.length f.length=9 by simp[aF,h64]]
  simp(maxSteps:=9^7) (disch:=try exact dI) only[h64I,push_cast,seval]
 have h64I:¬ (64:Int)<(f.length:Int):=by omega
 rw[if_neg (by simp[aF,h64])]
 obtain⟨R,hR⟩:∃ R,R=az 1 [] f:=⟨_,rfl⟩
 rw[← hR]
 simp(maxSteps:=9^7) (disch:=try exact dI) only[h64I,push_cast,seval]
 refine aw ([]) (fun i:Nat=>[(106,.pv (.int .i64 (i:Int)))]) (fun _=>[]) (fun i=>i≤f.length∧R=az 1 (f.take i) (f.drop i)) (fun i=>f.length - i) (0) ?_;intro e0 σ0 n0 h0;simp(maxSteps:=9^7) (disch:=try exact dI) only[push_cast,seval] at h0;obtain⟨rfl,rfl,rfl⟩:=h0;refine⟨?_,?_,?_⟩
 ·simp(maxSteps:=9^7) (disch:=try exact dI) only[push_cast,seval]
 ·exact⟨by omega,by simpa using hR⟩
 rintro i ⟨hi,hr⟩
 by_cases hlt:i<f.length
 ·have hltI:(i:Int)<(f.length:Int):=by omega
  obtain⟨g,hg⟩:∃ g,f[i]? = some g:=⟨_,List.getElem?_eq_getElem hlt⟩
  have hf:=bU 1 m M s w e f hl i g hg
  simp only[Typ.pv_mk] at hf
  rw[aO hg] at hr
  generalize bz 1 (f.take i) g=z at hf hr
  by_cases hz:z=0
  ·subst hz
   rw[if_pos rfl] at hr
   simp(maxSteps:=9^7) (disch:=try exact dI) only[push_cast,seval]
   refine ab.pure hf rfl ?_
   simp(maxSteps:=9^7) (disch:=try exact dI) only[push_cast,seval]
   exact⟨i+1,aT qsZ,⟨by omega,hr⟩,by omega⟩
  ·rw[if_neg hz] at hr
   subst hr
   simp(maxSteps:=9^7) (disch:=try exact dI) only[push_cast,seval]
   refine ab.pure hf rfl ?_
   simp(maxSteps:=9^7) (disch:=try exact dI) only[hz,push_cast,seval]
 ·obtain rfl:i=f.length:=by omega
  rw[List.drop_length,az] at hr
  subst hr
  simp(maxSteps:=9^7) (disch:=try exact dI) only[Int.lt_irrefl,push_cast,seval]
set_option maxHeartbeats 4000000 in
theorem AW (hw:∀ x∈w,x.length≤140737488351232)(hl:f.length≤9000000000000):ag Tryz.prog aD 178 [(Typ.mk 2 m M s w e f).pv] (.int .i64 (bh (.mk 2 m M s w e f))):=by
 have hi:=ec 2 1 10
 rw[show inB 2 1 10=true from rfl] at hi
 have hk:=ci
 have hf:=fy 2 m M s w e f [105,110,116] (-999999999999999) 999999999999999
 simp only[Typ.pv_mk,lim] at hf
 have hx:bv true 11 8 (.pv (.agg d8)) (.pv (.int .i64 2))=some (.pv (.agg [.str [105,110,116],.int .i64 (-999999999999999),.int .i64 999999999999999,.bool true,.bool false,.bool false,.bool false,.bool false])):=rfl
 rw[show bh (.mk 2 m M s w e f)=(if aq true false false false false (.mk 2 m M s w e f)=true then 3 else if ¬ aB 2 m M s w=0 then aB 2 m M s w else if ¬ aF 2 e.length f.length=0 then aF 2 e.length f.length else az 2 [] f) from rfl]
 generalize aq true false false false false (.mk 2 m M s w e f)=b at hf ⊢
 refine ag.intro cW (by simp[jg]) ?_
 simp(maxSteps:=9^7) (disch:=try exact dI) only[jg,Typ.pv_mk,push_cast,seval]
 refine ab.pure hi rfl ?_
 simp(maxSteps:=9^7) (disch:=try exact dI) only[push_cast,seval]
 refine aA hk rfl ?_
 simp(maxSteps:=9^7) (disch:=try exact dI) only[hx,push_cast,seval]
 refine ab.pure hf rfl ?_
 cases b with
 | true=>simp(maxSteps:=9^7) (disch:=try exact dI) only[push_cast,seval]
 | false=>
 have hbf:¬ false=true:=by decide
 rw[if_neg hbf]
 by_cases hA:M<m
 ·rw[show aB 2 m M s w=2 by simp[aB,loK,hiK,hA]]
  rw[if_pos (by decide)]
  simp(maxSteps:=9^7) (disch:=try exact dI) only[hA,push_cast,seval]
 by_cases hB:m<(-999999999999999)
 ·rw[show aB 2 m M s w=2 by simp[aB,loK,hiK,hB,hA]]
  rw[if_pos (by decide)]
  simp(maxSteps:=9^7) (disch:=try exact dI) only[hA,hB,push_cast,seval]
 by_cases hC:999999999999999<M
 ·rw[show aB 2 m M s w=2 by simp[aB,loK,hiK,hC,hA,hB]]
  rw[if_pos (by decide)]
  simp(maxSteps:=9^7) (disch:=try exact dI) only[hA,hB,hC,push_cast,seval]
 rw[if_neg (show ¬ ¬ aB 2 m M s w=0 by simp[aB,loK,hiK,hA,hB,hC])]
 by_cases h64:64<f.length
 ·have h64I:(64:Int)<(f.length:Int):=by omega
  rw[if_pos (by simp[aF,h64]),show aF 2 e.length f.length=9 by simp[aF,h64]]
  simp(maxSteps:=9^7) (disch:=try exact dI) only[hA,hB,hC,h64I,push_cast,seval]
 have h64I:¬ (64:Int)<(f.length:Int):=by omega
 rw[if_neg (by simp[aF,h64])]
 obtain⟨R,hR⟩:∃ R,R=az 2 [] f:=⟨_,rfl⟩
 rw[← hR]
 simp(maxSteps:=9^7) (disch:=try exact dI) only[hA,hB,hC,h64I,push_cast,seval]
 refine aw ([]) (fun i:Nat=>[(106,.pv (.int .i64 (i:Int)))]) (fun _=>[]) (fun i=>i≤f.length∧R=az 2 (f.take i) (f.drop i)) (fun i=>f.length - i) (0) ?_;intro e0 σ0 n0 h0;simp(maxSteps:=9^7) (disch:=try exact dI) only[push_cast,seval] at h0;obtain⟨rfl,rfl,rfl⟩:=h0;refine⟨?_,?_,?_⟩
 ·simp(maxSteps:=9^7) (disch:=try exact dI) only[push_cast,seval]
 ·exact⟨by omega,by simpa using hR⟩
 rintro i ⟨hi,hr⟩
 by_cases hlt:i<f.length
 ·have hltI:(i:Int)<(f.length:Int):=by omega
  obtain⟨g,hg⟩:∃ g,f[i]? = some g:=⟨_,List.getElem?_eq_getElem hlt⟩
  have hf:=bU 2 m M s w e f hl i g hg
  simp only[Typ.pv_mk] at hf
  rw[aO hg] at hr
  generalize bz 2 (f.take i) g=z at hf hr
  by_cases hz:z=0
  ·subst hz
   rw[if_pos rfl] at hr
   simp(maxSteps:=9^7) (disch:=try exact dI) only[push_cast,seval]
   refine ab.pure hf rfl ?_
   simp(maxSteps:=9^7) (disch:=try exact dI) only[push_cast,seval]
   exact⟨i+1,aT qsZ,⟨by omega,hr⟩,by omega⟩
  ·rw[if_neg hz] at hr
   subst hr
   simp(maxSteps:=9^7) (disch:=try exact dI) only[push_cast,seval]
   refine ab.pure hf rfl ?_
   simp(maxSteps:=9^7) (disch:=try exact dI) only[hz,push_cast,seval]
 ·obtain rfl:i=f.length:=by omega
  rw[List.drop_length,az] at hr
  subst hr
  simp(maxSteps:=9^7) (disch:=try exact dI) only[Int.lt_irrefl,push_cast,seval]
set_option maxHeartbeats 4000000 in
theorem AU (hw:∀ x∈w,x.length≤140737488351232)(hl:f.length≤9000000000000):ag Tryz.prog aD 178 [(Typ.mk 3 m M s w e f).pv] (.int .i64 (bh (.mk 3 m M s w e f))):=by
 have hi:=ec 3 1 10
 rw[show inB 3 1 10=true from rfl] at hi
 have hk:=ci
 have hf:=wz 3 m M s w e f [100,101,99,105,109,97,108] (-999999999999999) 999999999999999
 simp only[Typ.pv_mk,lim] at hf
 have hx:bv true 11 8 (.pv (.agg d8)) (.pv (.int .i64 3))=some (.pv (.agg [.str [100,101,99,105,109,97,108],.int .i64 (-999999999999999),.int .i64 999999999999999,.bool true,.bool true,.bool false,.bool false,.bool false])):=rfl
 rw[show bh (.mk 3 m M s w e f)=(if aq true true false false false (.mk 3 m M s w e f)=true then 3 else if ¬ aB 3 m M s w=0 then aB 3 m M s w else if ¬ aF 3 e.length f.length=0 then aF 3 e.length f.length else az 3 [] f) from rfl]
 generalize aq true true false false false (.mk 3 m M s w e f)=b at hf ⊢
 refine ag.intro cW (by simp[jg]) ?_
 simp(maxSteps:=9^7) (disch:=try exact dI) only[jg,Typ.pv_mk,push_cast,seval]
 refine ab.pure hi rfl ?_
 simp(maxSteps:=9^7) (disch:=try exact dI) only[push_cast,seval]
 refine aA hk rfl ?_
 simp(maxSteps:=9^7) (disch:=try exact dI) only[hx,push_cast,seval]
 refine ab.pure hf rfl ?_
 cases b with
 | true=>simp(maxSteps:=9^7) (disch:=try exact dI) only[push_cast,seval]
 | false=>
 have hbf:¬ false=true:=by decide
 rw[if_neg hbf]
 by_cases hA:M<m
 ·rw[show aB 3 m M s w=2 by simp[aB,loK,hiK,hA]]
  rw[if_pos (by decide)]
  simp(maxSteps:=9^7) (disch:=try exact dI) only[hA,push_cast,seval]
 by_cases hB:m<(-999999999999999)
 ·rw[show aB 3 m M s w=2 by simp[aB,loK,hiK,hB,hA]]
  rw[if_pos (by decide)]
  simp(maxSteps:=9^7) (disch:=try exact dI) only[hA,hB,push_cast,seval]
 by_cases hC:999999999999999<M
 ·rw[show aB 3 m M s w=2 by simp[aB,loK,hiK,hC,hA,hB]]
  rw[if_pos (by decide)]
  simp(maxSteps:=9^7) (disch:=try exact dI) only[hA,hB,hC,push_cast,seval]
 have hs:=ec s 0 12
 have hbd:aB 3 m M s w=if inB s 0 12=false then 2 else 0:=by simp[aB,loK,hiK,hA,hB,hC]
 rw[hbd]
 clear hbd
 generalize inB s 0 12=q at hs ⊢
 simp(maxSteps:=9^7) (disch:=try exact dI) only[hA,hB,hC,push_cast,seval]
 refine ab.pure hs rfl ?_
 cases q with
 | false=>rw[if_pos rfl,if_pos (by decide)];simp(maxSteps:=9^7) (disch:=try exact dI) only[push_cast,seval]
 | true=>
 rw[if_neg (show ¬ true=false by decide),if_neg (by decide)]
 by_cases h64:64<f.length
 ·have h64I:(64:Int)<(f.length:Int):=by omega
  rw[if_pos (by simp[aF,h64]),show aF 3 e.length f.length=9 by simp[aF,h64]]
  simp(maxSteps:=9^7) (disch:=try exact dI) only[h64I,push_cast,seval]
 have h64I:¬ (64:Int)<(f.length:Int):=by omega
 rw[if_neg (by simp[aF,h64])]
 obtain⟨R,hR⟩:∃ R,R=az 3 [] f:=⟨_,rfl⟩
 rw[← hR]
 simp(maxSteps:=9^7) (disch:=try exact dI) only[h64I,push_cast,seval]
 refine aw ([]) (fun i:Nat=>[(106,.pv (.int .i64 (i:Int)))]) (fun _=>[]) (fun i=>i≤f.length∧R=az 3 (f.take i) (f.drop i)) (fun i=>f.length - i) (0) ?_;intro e0 σ0 n0 h0;simp(maxSteps:=9^7) (disch:=try exact dI) only[push_cast,seval] at h0;obtain⟨rfl,rfl,rfl⟩:=h0;refine⟨?_,?_,?_⟩
 ·simp(maxSteps:=9^7) (disch:=try exact dI) only[push_cast,seval]
 ·exact⟨by omega,by simpa using hR⟩
 rintro i ⟨hi,hr⟩
 by_cases hlt:i<f.length
 ·have hltI:(i:Int)<(f.length:Int):=by omega
  obtain⟨g,hg⟩:∃ g,f[i]? = some g:=⟨_,List.getElem?_eq_getElem hlt⟩
  have hf:=bU 3 m M s w e f hl i g hg
  simp only[Typ.pv_mk] at hf
  rw[aO hg] at hr
  generalize bz 3 (f.take i) g=z at hf hr
  by_cases hz:z=0
  ·subst hz
   rw[if_pos rfl] at hr
   simp(maxSteps:=9^7) (disch:=try exact dI) only[push_cast,seval]
   refine ab.pure hf rfl ?_
   simp(maxSteps:=9^7) (disch:=try exact dI) only[push_cast,seval]
   exact⟨i+1,aT qsZ,⟨by omega,hr⟩,by omega⟩
  ·rw[if_neg hz] at hr
   subst hr
   simp(maxSteps:=9^7) (disch:=try exact dI) only[push_cast,seval]
   refine ab.pure hf rfl ?_
   simp(maxSteps:=9^7) (disch:=try exact dI) only[hz,push_cast,seval]
 ·obtain rfl:i=f.length:=by omega
  rw[List.drop_length,az] at hr
  subst hr
  simp(maxSteps:=9^7) (disch:=try exact dI) only[Int.lt_irrefl,push_cast,seval]
set_option maxHeartbeats 4000000 in
theorem AS (hw:∀ x∈w,x.length≤140737488351232)(hl:f.length≤9000000000000):ag Tryz.prog aD 178 [(Typ.mk 4 m M s w e f).pv] (.int .i64 (bh (.mk 4 m M s w e f))):=by
 have hi:=ec 4 1 10
 rw[show inB 4 1 10=true from rfl] at hi
 have hk:=ci
 have hf:=wv 4 m M s w e f [116,101,120,116] 0 1024
 simp only[Typ.pv_mk,lim] at hf
 have hx:bv true 11 8 (.pv (.agg d8)) (.pv (.int .i64 4))=some (.pv (.agg [.str [116,101,120,116],.int .i64 0,.int .i64 1024,.bool true,.bool false,.bool true,.bool false,.bool false])):=rfl
 rw[show bh (.mk 4 m M s w e f)=(if aq true false true false false (.mk 4 m M s w e f)=true then 3 else if ¬ aB 4 m M s w=0 then aB 4 m M s w else if ¬ aF 4 e.length f.length=0 then aF 4 e.length f.length else az 4 [] f) from rfl]
 generalize aq true false true false false (.mk 4 m M s w e f)=b at hf ⊢
 refine ag.intro cW (by simp[jg]) ?_
 simp(maxSteps:=9^7) (disch:=try exact dI) only[jg,Typ.pv_mk,push_cast,seval]
 refine ab.pure hi rfl ?_
 simp(maxSteps:=9^7) (disch:=try exact dI) only[push_cast,seval]
 refine aA hk rfl ?_
 simp(maxSteps:=9^7) (disch:=try exact dI) only[hx,push_cast,seval]
 refine ab.pure hf rfl ?_
 cases b with
 | true=>simp(maxSteps:=9^7) (disch:=try exact dI) only[push_cast,seval]
 | false=>
 have hbf:¬ false=true:=by decide
 rw[if_neg hbf]
 by_cases hw0:0<w.length
 ·have hw0I:(0:Int)<(w.length:Int):=by omega
  have hws:=yD 4 m M s w e f hw
  simp only[Typ.pv_mk] at hws
  rw[show aB 4 m M s w=bq m M w by simp[aB,hw0]]
  generalize bq m M w=z at hws ⊢
  simp(maxSteps:=9^7) (disch:=try exact dI) only[push_cast,seval]
  refine ab.pure hws rfl ?_
  by_cases hz:z=0
  ·subst hz
   rw[if_neg (by decide)]
   by_cases h64:64<f.length
   ·have h64I:(64:Int)<(f.length:Int):=by omega
    rw[if_pos (by simp[aF,h64]),show aF 4 e.length f.length=9 by simp[aF,h64]]
    simp(maxSteps:=9^7) (disch:=try exact dI) only[h64I,push_cast,seval]
   have h64I:¬ (64:Int)<(f.length:Int):=by omega
   rw[if_neg (by simp[aF,h64])]
   obtain⟨R,hR⟩:∃ R,R=az 4 [] f:=⟨_,rfl⟩
   rw[← hR]
   simp(maxSteps:=9^7) (disch:=try exact dI) only[h64I,push_cast,seval]
   refine aw ([]) (fun i:Nat=>[(106,.pv (.int .i64 (i:Int)))]) (fun _=>[]) (fun i=>i≤f.length∧R=az 4 (f.take i) (f.drop i)) (fun i=>f.length - i) (0) ?_;intro e0 σ0 n0 h0;simp(maxSteps:=9^7) (disch:=try exact dI) only[push_cast,seval] at h0;obtain⟨rfl,rfl,rfl⟩:=h0;refine⟨?_,?_,?_⟩
   ·simp(maxSteps:=9^7) (disch:=try exact dI) only[push_cast,seval]
   ·exact⟨by omega,by simpa using hR⟩
   rintro i ⟨hi,hr⟩
   by_cases hlt:i<f.length
   ·have hltI:(i:Int)<(f.length:Int):=by omega
    obtain⟨g,hg⟩:∃ g,f[i]? = some g:=⟨_,List.getElem?_eq_getElem hlt⟩
    have hf:=bU 4 m M s w e f hl i g hg
    simp only[Typ.pv_mk] at hf
    rw[aO hg] at hr
    generalize bz 4 (f.take i) g=z at hf hr
    by_cases hz:z=0
    ·subst hz
     rw[if_pos rfl] at hr
     simp(maxSteps:=9^7) (disch:=try exact dI) only[push_cast,seval]
     refine ab.pure hf rfl ?_
     simp(maxSteps:=9^7) (disch:=try exact dI) only[push_cast,seval]
     exact⟨i+1,aT qsZ,⟨by omega,hr⟩,by omega⟩
    ·rw[if_neg hz] at hr
     subst hr
     simp(maxSteps:=9^7) (disch:=try exact dI) only[push_cast,seval]
     refine ab.pure hf rfl ?_
     simp(maxSteps:=9^7) (disch:=try exact dI) only[hz,push_cast,seval]
   ·obtain rfl:i=f.length:=by omega
    rw[List.drop_length,az] at hr
    subst hr
    simp(maxSteps:=9^7) (disch:=try exact dI) only[Int.lt_irrefl,push_cast,seval]
  ·rw[if_pos hz]
   simp(maxSteps:=9^7) (disch:=try exact dI) only[hz,push_cast,seval]
 have hw0I:¬ (0:Int)<(w.length:Int):=by omega
 by_cases hA:M<m
 ·rw[show aB 4 m M s w=2 by simp[aB,loK,hiK,hA,hw0]]
  rw[if_pos (by decide)]
  simp(maxSteps:=9^7) (disch:=try exact dI) only[hw0I,hA,push_cast,seval]
 by_cases hB:m<0
 ·rw[show aB 4 m M s w=2 by simp[aB,loK,hiK,hB,hw0,hA]]
  rw[if_pos (by decide)]
  simp(maxSteps:=9^7) (disch:=try exact dI) only[hw0I,hA,hB,push_cast,seval]
 by_cases hC:1024<M
 ·rw[show aB 4 m M s w=2 by simp[aB,loK,hiK,hC,hw0,hA,hB]]
  rw[if_pos (by decide)]
  simp(maxSteps:=9^7) (disch:=try exact dI) only[hw0I,hA,hB,hC,push_cast,seval]
 rw[if_neg (show ¬ ¬ aB 4 m M s w=0 by simp[aB,loK,hiK,hw0,hA,hB,hC])]
 by_cases h64:64<f.length
 ·have h64I:(64:Int)<(f.length:Int):=by omega
  rw[if_pos (by simp[aF,h64]),show aF 4 e.length f.length=9 by simp[aF,h64]]
  simp(maxSteps:=9^7) (disch:=try exact dI) only[hw0I,hA,hB,hC,h64I,push_cast,seval]
 have h64I:¬ (64:Int)<(f.length:Int):=by omega
 rw[if_neg (by simp[aF,h64])]
 obtain⟨R,hR⟩:∃ R,R=az 4 [] f:=⟨_,rfl⟩
 rw[← hR]
 simp(maxSteps:=9^7) (disch:=try exact dI) only[hw0I,hA,hB,hC,h64I,push_cast,seval]
 refine aw ([]) (fun i:Nat=>[(106,.pv (.int .i64 (i:Int)))]) (fun _=>[]) (fun i=>i≤f.length∧R=az 4 (f.take i) (f.drop i)) (fun i=>f.length - i) (0) ?_;intro e0 σ0 n0 h0;simp(maxSteps:=9^7) (disch:=try exact dI) only[push_cast,seval] at h0;obtain⟨rfl,rfl,rfl⟩:=h0;refine⟨?_,?_,?_⟩
 ·simp(maxSteps:=9^7) (disch:=try exact dI) only[push_cast,seval]
 ·exact⟨by omega,by simpa using hR⟩
 rintro i ⟨hi,hr⟩
 by_cases hlt:i<f.length
 ·have hltI:(i:Int)<(f.length:Int):=by omega
  obtain⟨g,hg⟩:∃ g,f[i]? = some g:=⟨_,List.getElem?_eq_getElem hlt⟩
  have hf:=bU 4 m M s w e f hl i g hg
  simp only[Typ.pv_mk] at hf
  rw[aO hg] at hr
  generalize bz 4 (f.take i) g=z at hf hr
  by_cases hz:z=0
  ·subst hz
   rw[if_pos rfl] at hr
   simp(maxSteps:=9^7) (disch:=try exact dI) only[push_cast,seval]
   refine ab.pure hf rfl ?_
   simp(maxSteps:=9^7) (disch:=try exact dI) only[push_cast,seval]
   exact⟨i+1,aT qsZ,⟨by omega,hr⟩,by omega⟩
  ·rw[if_neg hz] at hr
   subst hr
   simp(maxSteps:=9^7) (disch:=try exact dI) only[push_cast,seval]
   refine ab.pure hf rfl ?_
   simp(maxSteps:=9^7) (disch:=try exact dI) only[hz,push_cast,seval]
 ·obtain rfl:i=f.length:=by omega
  rw[List.drop_length,az] at hr
  subst hr
  simp(maxSteps:=9^7) (disch:=try exact dI) only[Int.lt_irrefl,push_cast,seval]
set_option maxHeartbeats 4000000 in
theorem AR (hw:∀ x∈w,x.length≤140737488351232)(hl:f.length≤9000000000000):ag Tryz.prog aD 178 [(Typ.mk 5 m M s w e f).pv] (.int .i64 (bh (.mk 5 m M s w e f))):=by
 have hi:=ec 5 1 10
 rw[show inB 5 1 10=true from rfl] at hi
 have hk:=ci
 have hf:=fy 5 m M s w e f [98,121,116,101,115] 0 1024
 simp only[Typ.pv_mk,lim] at hf
 have hx:bv true 11 8 (.pv (.agg d8)) (.pv (.int .i64 5))=some (.pv (.agg [.str [98,121,116,101,115],.int .i64 0,.int .i64 1024,.bool true,.bool false,.bool false,.bool false,.bool false])):=rfl
 rw[show bh (.mk 5 m M s w e f)=(if aq true false false false false (.mk 5 m M s w e f)=true then 3 else if ¬ aB 5 m M s w=0 then aB 5 m M s w else if ¬ aF 5 e.length f.length=0 then aF 5 e.length f.length else az 5 [] f) from rfl]
 generalize aq true false false false false (.mk 5 m M s w e f)=b at hf ⊢
 refine ag.intro cW (by simp[jg]) ?_
 simp(maxSteps:=9^7) (disch:=try exact dI) only[jg,Typ.pv_mk,push_cast,seval]
 refine ab.pure hi rfl ?_
 simp(maxSteps:=9^7) (disch:=try exact dI) only[push_cast,seval]
 refine aA hk rfl ?_
 simp(maxSteps:=9^7) (disch:=try exact dI) only[hx,push_cast,seval]
 refine ab.pure hf rfl ?_
 cases b with
 | true=>simp(maxSteps:=9^7) (disch:=try exact dI) only[push_cast,seval]
 | false=>
 have hbf:¬ false=true:=by decide
 rw[if_neg hbf]
 by_cases hA:M<m
 ·rw[show aB 5 m M s w=2 by simp[aB,loK,hiK,hA]]
  rw[if_pos (by decide)]
  simp(maxSteps:=9^7) (disch:=try exact dI) only[hA,push_cast,seval]
 by_cases hB:m<0
 ·rw[show aB 5 m M s w=2 by simp[aB,loK,hiK,hB,hA]]
  rw[if_pos (by decide)]
  simp(maxSteps:=9^7) (disch:=try exact dI) only[hA,hB,push_cast,seval]
 by_cases hC:1024<M
 ·rw[show aB 5 m M s w=2 by simp[aB,loK,hiK,hC,hA,hB]]
  rw[if_pos (by decide)]
  simp(maxSteps:=9^7) (disch:=try exact dI) only[hA,hB,hC,push_cast,seval]
 rw[if_neg (show ¬ ¬ aB 5 m M s w=0 by simp[aB,loK,hiK,hA,hB,hC])]
 by_cases h64:64<f.length
 ·have h64I:(64:Int)<(f.length:Int):=by omega
  rw[if_pos (by simp[aF,h64]),show aF 5 e.length f.length=9 by simp[aF,h64]]
  simp(maxSteps:=9^7) (disch:=try exact dI) only[hA,hB,hC,h64I,push_cast,seval]
 have h64I:¬ (64:Int)<(f.length:Int):=by omega
 rw[if_neg (by simp[aF,h64])]
 obtain⟨R,hR⟩:∃ R,R=az 5 [] f:=⟨_,rfl⟩
 rw[← hR]
 simp(maxSteps:=9^7) (disch:=try exact dI) only[hA,hB,hC,h64I,push_cast,seval]
 refine aw ([]) (fun i:Nat=>[(106,.pv (.int .i64 (i:Int)))]) (fun _=>[]) (fun i=>i≤f.length∧R=az 5 (f.take i) (f.drop i)) (fun i=>f.length - i) (0) ?_;intro e0 σ0 n0 h0;simp(maxSteps:=9^7) (disch:=try exact dI) only[push_cast,seval] at h0;obtain⟨rfl,rfl,rfl⟩:=h0;refine⟨?_,?_,?_⟩
 ·simp(maxSteps:=9^7) (disch:=try exact dI) only[push_cast,seval]
 ·exact⟨by omega,by simpa using hR⟩
 rintro i ⟨hi,hr⟩
 by_cases hlt:i<f.length
 ·have hltI:(i:Int)<(f.length:Int):=by omega
  obtain⟨g,hg⟩:∃ g,f[i]? = some g:=⟨_,List.getElem?_eq_getElem hlt⟩
  have hf:=bU 5 m M s w e f hl i g hg
  simp only[Typ.pv_mk] at hf
  rw[aO hg] at hr
  generalize bz 5 (f.take i) g=z at hf hr
  by_cases hz:z=0
  ·subst hz
   rw[if_pos rfl] at hr
   simp(maxSteps:=9^7) (disch:=try exact dI) only[push_cast,seval]
   refine ab.pure hf rfl ?_
   simp(maxSteps:=9^7) (disch:=try exact dI) only[push_cast,seval]
   exact⟨i+1,aT qsZ,⟨by omega,hr⟩,by omega⟩
  ·rw[if_neg hz] at hr
   subst hr
   simp(maxSteps:=9^7) (disch:=try exact dI) only[push_cast,seval]
   refine ab.pure hf rfl ?_
   simp(maxSteps:=9^7) (disch:=try exact dI) only[hz,push_cast,seval]
 ·obtain rfl:i=f.length:=by omega
  rw[List.drop_length,az] at hr
  subst hr
  simp(maxSteps:=9^7) (disch:=try exact dI) only[Int.lt_irrefl,push_cast,seval]
set_option maxHeartbeats 4000000 in
theorem AQ (hw:∀ x∈w,x.length≤140737488351232)(hl:f.length≤9000000000000):ag Tryz.prog aD 178 [(Typ.mk 6 m M s w e f).pv] (.int .i64 (bh (.mk 6 m M s w e f))):=by
 have hi:=ec 6 1 10
 rw[show inB 6 1 10=true from rfl] at hi
 have hk:=ci
 have hf:=fy 6 m M s w e f [100,97,116,101] (-719162) 2932896
 simp only[Typ.pv_mk,lim] at hf
 have hx:bv true 11 8 (.pv (.agg d8)) (.pv (.int .i64 6))=some (.pv (.agg [.str [100,97,116,101],.int .i64 (-719162),.int .i64 2932896,.bool true,.bool false,.bool false,.bool false,.bool false])):=rfl
 rw[show bh (.mk 6 m M s w e f)=(if aq true false false false false (.mk 6 m M s w e f)=true then 3 else if ¬ aB 6 m M s w=0 then aB 6 m M s w else if ¬ aF 6 e.length f.length=0 then aF 6 e.length f.length else az 6 [] f) from rfl]
 generalize aq true false false false false (.mk 6 m M s w e f)=b at hf ⊢
 refine ag.intro cW (by simp[jg]) ?_
 simp(maxSteps:=9^7) (disch:=try exact dI) only[jg,Typ.pv_mk,push_cast,seval]
 refine ab.pure hi rfl ?_
 simp(maxSteps:=9^7) (disch:=try exact dI) only[push_cast,seval]
 refine aA hk rfl ?_
 simp(maxSteps:=9^7) (disch:=try exact dI) only[hx,push_cast,seval]
 refine ab.pure hf rfl ?_
 cases b with
 | true=>simp(maxSteps:=9^7) (disch:=try exact dI) only[push_cast,seval]
 | false=>
 have hbf:¬ false=true:=by decide
 rw[if_neg hbf]
 by_cases hA:M<m
 ·rw[show aB 6 m M s w=2 by simp[aB,loK,hiK,hA]]
  rw[if_pos (by decide)]
  simp(maxSteps:=9^7) (disch:=try exact dI) only[hA,push_cast,seval]
 by_cases hB:m<(-719162)
 ·rw[show aB 6 m M s w=2 by simp[aB,loK,hiK,hB,hA]]
  rw[if_pos (by decide)]
  simp(maxSteps:=9^7) (disch:=try exact dI) only[hA,hB,push_cast,seval]
 by_cases hC:2932896<M
 ·rw[show aB 6 m M s w=2 by simp[aB,loK,hiK,hC,hA,hB]]
  rw[if_pos (by decide)]
  simp(maxSteps:=9^7) (disch:=try exact dI) only[hA,hB,hC,push_cast,seval]
 rw[if_neg (show ¬ ¬ aB 6 m M s w=0 by simp[aB,loK,hiK,hA,hB,hC])]
 by_cases h64:64<f.length
 ·have h64I:(64:Int)<(f.length:Int):=by omega
  rw[if_pos (by simp[aF,h64]),show aF 6 e.length f.length=9 by simp[aF,h64]]
  simp(maxSteps:=9^7) (disch:=try exact dI) only[hA,hB,hC,h64I,push_cast,seval]
 have h64I:¬ (64:Int)<(f.length:Int):=by omega
 rw[if_neg (by simp[aF,h64])]
 obtain⟨R,hR⟩:∃ R,R=az 6 [] f:=⟨_,rfl⟩
 rw[← hR]
 simp(maxSteps:=9^7) (disch:=try exact dI) only[hA,hB,hC,h64I,push_cast,seval]
 refine aw ([]) (fun i:Nat=>[(106,.pv (.int .i64 (i:Int)))]) (fun _=>[]) (fun i=>i≤f.length∧R=az 6 (f.take i) (f.drop i)) (fun i=>f.length - i) (0) ?_;intro e0 σ0 n0 h0;simp(maxSteps:=9^7) (disch:=try exact dI) only[push_cast,seval] at h0;obtain⟨rfl,rfl,rfl⟩:=h0;refine⟨?_,?_,?_⟩
 ·simp(maxSteps:=9^7) (disch:=try exact dI) only[push_cast,seval]
 ·exact⟨by omega,by simpa using hR⟩
 rintro i ⟨hi,hr⟩
 by_cases hlt:i<f.length
 ·have hltI:(i:Int)<(f.length:Int):=by omega
  obtain⟨g,hg⟩:∃ g,f[i]? = some g:=⟨_,List.getElem?_eq_getElem hlt⟩
  have hf:=bU 6 m M s w e f hl i g hg
  simp only[Typ.pv_mk] at hf
  rw[aO hg] at hr
  generalize bz 6 (f.take i) g=z at hf hr
  by_cases hz:z=0
  ·subst hz
   rw[if_pos rfl] at hr
   simp(maxSteps:=9^7) (disch:=try exact dI) only[push_cast,seval]
   refine ab.pure hf rfl ?_
   simp(maxSteps:=9^7) (disch:=try exact dI) only[push_cast,seval]
   exact⟨i+1,aT qsZ,⟨by omega,hr⟩,by omega⟩
  ·rw[if_neg hz] at hr
   subst hr
   simp(maxSteps:=9^7) (disch:=try exact dI) only[push_cast,seval]
   refine ab.pure hf rfl ?_
   simp(maxSteps:=9^7) (disch:=try exact dI) only[hz,push_cast,seval]
 ·obtain rfl:i=f.length:=by omega
  rw[List.drop_length,az] at hr
  subst hr
  simp(maxSteps:=9^7) (disch:=try exact dI) only[Int.lt_irrefl,push_cast,seval]
set_option maxHeartbeats 4000000 in
theorem AP (hw:∀ x∈w,x.length≤140737488351232)(hl:f.length≤9000000000000):ag Tryz.prog aD 178 [(Typ.mk 7 m M s w e f).pv] (.int .i64 (bh (.mk 7 m M s w e f))):=by
 have hi:=ec 7 1 10
 rw[show inB 7 1 10=true from rfl] at hi
 have hk:=ci
 have hf:=fy 7 m M s w e f [116,105,109,101] (-62135596800000) 253402300799999
 simp only[Typ.pv_mk,lim] at hf
 have hx:bv true 11 8 (.pv (.agg d8)) (.pv (.int .i64 7))=some (.pv (.agg [.str [116,105,109,101],.int .i64 (-62135596800000),.int .i64 253402300799999,.bool true,.bool false,.bool false,.bool false,.bool false])):=rfl
 rw[show bh (.mk 7 m M s w e f)=(if aq true false false false false (.mk 7 m M s w e f)=true then 3 else if ¬ aB 7 m M s w=0 then aB 7 m M s w else if ¬ aF 7 e.length f.length=0 then aF 7 e.length f.length else az 7 [] f) from rfl]
 generalize aq true false false false false (.mk 7 m M s w e f)=b at hf ⊢
 refine ag.intro cW (by simp[jg]) ?_
 simp(maxSteps:=9^7) (disch:=try exact dI) only[jg,Typ.pv_mk,push_cast,seval]
 refine ab.pure hi rfl ?_
 simp(maxSteps:=9^7) (disch:=try exact dI) only[push_cast,seval]
 refine aA hk rfl ?_
 simp(maxSteps:=9^7) (disch:=try exact dI) only[hx,push_cast,seval]
 refine ab.pure hf rfl ?_
 cases b with
 | true=>simp(maxSteps:=9^7) (disch:=try exact dI) only[push_cast,seval]
 | false=>
 have hbf:¬ false=true:=by decide
 rw[if_neg hbf]
 by_cases hA:M<m
 ·rw[show aB 7 m M s w=2 by simp[aB,loK,hiK,hA]]
  rw[if_pos (by decide)]
  simp(maxSteps:=9^7) (disch:=try exact dI) only[hA,push_cast,seval]
 by_cases hB:m<(-62135596800000)
 ·rw[show aB 7 m M s w=2 by simp[aB,loK,hiK,hB,hA]]
  rw[if_pos (by decide)]
  simp(maxSteps:=9^7) (disch:=try exact dI) only[hA,hB,push_cast,seval]
 by_cases hC:253402300799999<M
 ·rw[show aB 7 m M s w=2 by simp[aB,loK,hiK,hC,hA,hB]]
  rw[if_pos (by decide)]
  simp(maxSteps:=9^7) (disch:=try exact dI) only[hA,hB,hC,push_cast,seval]
 rw[if_neg (show ¬ ¬ aB 7 m M s w=0 by simp[aB,loK,hiK,hA,hB,hC])]
 by_cases h64:64<f.length
 ·have h64I:(64:Int)<(f.length:Int):=by omega
  rw[if_pos (by simp[aF,h64]),show aF 7 e.length f.length=9 by simp[aF,h64]]
  simp(maxSteps:=9^7) (disch:=try exact dI) only[hA,hB,hC,h64I,push_cast,seval]
 have h64I:¬ (64:Int)<(f.length:Int):=by omega
 rw[if_neg (by simp[aF,h64])]
 obtain⟨R,hR⟩:∃ R,R=az 7 [] f:=⟨_,rfl⟩
 rw[← hR]
 simp(maxSteps:=9^7) (disch:=try exact dI) only[hA,hB,hC,h64I,push_cast,seval]
 refine aw ([]) (fun i:Nat=>[(106,.pv (.int .i64 (i:Int)))]) (fun _=>[]) (fun i=>i≤f.length∧R=az 7 (f.take i) (f.drop i)) (fun i=>f.length - i) (0) ?_;intro e0 σ0 n0 h0;simp(maxSteps:=9^7) (disch:=try exact dI) only[push_cast,seval] at h0;obtain⟨rfl,rfl,rfl⟩:=h0;refine⟨?_,?_,?_⟩
 ·simp(maxSteps:=9^7) (disch:=try exact dI) only[push_cast,seval]
 ·exact⟨by omega,by simpa using hR⟩
 rintro i ⟨hi,hr⟩
 by_cases hlt:i<f.length
 ·have hltI:(i:Int)<(f.length:Int):=by omega
  obtain⟨g,hg⟩:∃ g,f[i]? = some g:=⟨_,List.getElem?_eq_getElem hlt⟩
  have hf:=bU 7 m M s w e f hl i g hg
  simp only[Typ.pv_mk] at hf
  rw[aO hg] at hr
  generalize bz 7 (f.take i) g=z at hf hr
  by_cases hz:z=0
  ·subst hz
   rw[if_pos rfl] at hr
   simp(maxSteps:=9^7) (disch:=try exact dI) only[push_cast,seval]
   refine ab.pure hf rfl ?_
   simp(maxSteps:=9^7) (disch:=try exact dI) only[push_cast,seval]
   exact⟨i+1,aT qsZ,⟨by omega,hr⟩,by omega⟩
  ·rw[if_neg hz] at hr
   subst hr
   simp(maxSteps:=9^7) (disch:=try exact dI) only[push_cast,seval]
   refine ab.pure hf rfl ?_
   simp(maxSteps:=9^7) (disch:=try exact dI) only[hz,push_cast,seval]
 ·obtain rfl:i=f.length:=by omega
  rw[List.drop_length,az] at hr
  subst hr
  simp(maxSteps:=9^7) (disch:=try exact dI) only[Int.lt_irrefl,push_cast,seval]
set_option maxHeartbeats 4000000 in
theorem AO (hw:∀ x∈w,x.length≤140737488351232)(hl:f.length≤9000000000000):ag Tryz.prog aD 178 [(Typ.mk 8 m M s w e f).pv] (.int .i64 (bh (.mk 8 m M s w e f))):=by
 have hi:=ec 8 1 10
 rw[show inB 8 1 10=true from rfl] at hi
 have hk:=ci
 have hf:=wy 8 m M s w e f [108,105,115,116] 0 256
 simp only[Typ.pv_mk,lim] at hf
 have hx:bv true 11 8 (.pv (.agg d8)) (.pv (.int .i64 8))=some (.pv (.agg [.str [108,105,115,116],.int .i64 0,.int .i64 256,.bool true,.bool false,.bool false,.bool true,.bool false])):=rfl
 rw[show bh (.mk 8 m M s w e f)=(if aq true false false true false (.mk 8 m M s w e f)=true then 3 else if ¬ aB 8 m M s w=0 then aB 8 m M s w else if ¬ aF 8 e.length f.length=0 then aF 8 e.length f.length else az 8 [] f) from rfl]
 generalize aq true false false true false (.mk 8 m M s w e f)=b at hf ⊢
 refine ag.intro cW (by simp[jg]) ?_
 simp(maxSteps:=9^7) (disch:=try exact dI) only[jg,Typ.pv_mk,push_cast,seval]
 refine ab.pure hi rfl ?_
 simp(maxSteps:=9^7) (disch:=try exact dI) only[push_cast,seval]
 refine aA hk rfl ?_
 simp(maxSteps:=9^7) (disch:=try exact dI) only[hx,push_cast,seval]
 refine ab.pure hf rfl ?_
 cases b with
 | true=>simp(maxSteps:=9^7) (disch:=try exact dI) only[push_cast,seval]
 | false=>
 have hbf:¬ false=true:=by decide
 rw[if_neg hbf]
 by_cases hA:M<m
 ·rw[show aB 8 m M s w=2 by simp[aB,loK,hiK,hA]]
  rw[if_pos (by decide)]
  simp(maxSteps:=9^7) (disch:=try exact dI) only[hA,push_cast,seval]
 by_cases hB:m<0
 ·rw[show aB 8 m M s w=2 by simp[aB,loK,hiK,hB,hA]]
  rw[if_pos (by decide)]
  simp(maxSteps:=9^7) (disch:=try exact dI) only[hA,hB,push_cast,seval]
 by_cases hC:256<M
 ·rw[show aB 8 m M s w=2 by simp[aB,loK,hiK,hC,hA,hB]]
  rw[if_pos (by decide)]
  simp(maxSteps:=9^7) (disch:=try exact dI) only[hA,hB,hC,push_cast,seval]
 rw[if_neg (show ¬ ¬ aB 8 m M s w=0 by simp[aB,loK,hiK,hA,hB,hC])]
 by_cases he0:e.length=0
 ·have he0I:(e.length:Int)=0:=by omega
  rw[if_pos (by simp[aF,he0]),show aF 8 e.length f.length=4 by simp[aF,he0]]
  simp(maxSteps:=9^7) (disch:=try exact dI) only[hA,hB,hC,he0I,push_cast,seval]
 have he0I:¬ (e.length:Int)=0:=by omega
 by_cases he1:1<e.length
 ·have he1I:(1:Int)<(e.length:Int):=by omega
  rw[if_pos (by simp[aF,he0,he1]),show aF 8 e.length f.length=3 by simp[aF,he0,he1]]
  simp(maxSteps:=9^7) (disch:=try exact dI) only[hA,hB,hC,he0I,he1I,push_cast,seval]
 have he1I:¬ (1:Int)<(e.length:Int):=by omega
 by_cases h64:64<f.length
 ·have h64I:(64:Int)<(f.length:Int):=by omega
  rw[if_pos (by simp[aF,h64,he0,he1]),show aF 8 e.length f.length=9 by simp[aF,h64,he0,he1]]
  simp(maxSteps:=9^7) (disch:=try exact dI) only[hA,hB,hC,he0I,he1I,h64I,push_cast,seval]
 have h64I:¬ (64:Int)<(f.length:Int):=by omega
 rw[if_neg (by simp[aF,h64,he0,he1])]
 obtain⟨R,hR⟩:∃ R,R=az 8 [] f:=⟨_,rfl⟩
 rw[← hR]
 simp(maxSteps:=9^7) (disch:=try exact dI) only[hA,hB,hC,he0I,he1I,h64I,push_cast,seval]
 refine aw ([]) (fun i:Nat=>[(106,.pv (.int .i64 (i:Int)))]) (fun _=>[]) (fun i=>i≤f.length∧R=az 8 (f.take i) (f.drop i)) (fun i=>f.length - i) (0) ?_;intro e0 σ0 n0 h0;simp(maxSteps:=9^7) (disch:=try exact dI) only[push_cast,seval] at h0;obtain⟨rfl,rfl,rfl⟩:=h0;refine⟨?_,?_,?_⟩
 ·simp(maxSteps:=9^7) (disch:=try exact dI) only[push_cast,seval]
 ·exact⟨by omega,by simpa using hR⟩
 rintro i ⟨hi,hr⟩
 by_cases hlt:i<f.length
 ·have hltI:(i:Int)<(f.length:Int):=by omega
  obtain⟨g,hg⟩:∃ g,f[i]? = some g:=⟨_,List.getElem?_eq_getElem hlt⟩
  have hf:=bU 8 m M s w e f hl i g hg
  simp only[Typ.pv_mk] at hf
  rw[aO hg] at hr
  generalize bz 8 (f.take i) g=z at hf hr
  by_cases hz:z=0
  ·subst hz
   rw[if_pos rfl] at hr
   simp(maxSteps:=9^7) (disch:=try exact dI) only[push_cast,seval]
   refine ab.pure hf rfl ?_
   simp(maxSteps:=9^7) (disch:=try exact dI) only[push_cast,seval]
   exact⟨i+1,aT qsZ,⟨by omega,hr⟩,by omega⟩
  ·rw[if_neg hz] at hr
   subst hr
   simp(maxSteps:=9^7) (disch:=try exact dI) only[push_cast,seval]
   refine ab.pure hf rfl ?_
   simp(maxSteps:=9^7) (disch:=try exact dI) only[hz,push_cast,seval]
 ·obtain rfl:i=f.length:=by omega
  rw[List.drop_length,az] at hr
  subst hr
  simp(maxSteps:=9^7) (disch:=try exact dI) only[Int.lt_irrefl,push_cast,seval]
set_option maxHeartbeats 4000000 in
theorem AN (hw:∀ x∈w,x.length≤140737488351232)(hl:f.length≤9000000000000):ag Tryz.prog aD 178 [(Typ.mk 9 m M s w e f).pv] (.int .i64 (bh (.mk 9 m M s w e f))):=by
 have hi:=ec 9 1 10
 rw[show inB 9 1 10=true from rfl] at hi
 have hk:=ci
 have hf:=me 9 m M s w e f [114,101,99,111,114,100] 0 0
 simp only[Typ.pv_mk,lim] at hf
 have hx:bv true 11 8 (.pv (.agg d8)) (.pv (.int .i64 9))=some (.pv (.agg [.str [114,101,99,111,114,100],.int .i64 0,.int .i64 0,.bool false,.bool false,.bool false,.bool false,.bool true])):=rfl
 rw[show bh (.mk 9 m M s w e f)=(if aq false false false false true (.mk 9 m M s w e f)=true then 3 else if ¬ aB 9 m M s w=0 then aB 9 m M s w else if ¬ aF 9 e.length f.length=0 then aF 9 e.length f.length else az 9 [] f) from rfl]
 generalize aq false false false false true (.mk 9 m M s w e f)=b at hf ⊢
 refine ag.intro cW (by simp[jg]) ?_
 simp(maxSteps:=9^7) (disch:=try exact dI) only[jg,Typ.pv_mk,push_cast,seval]
 refine ab.pure hi rfl ?_
 simp(maxSteps:=9^7) (disch:=try exact dI) only[push_cast,seval]
 refine aA hk rfl ?_
 simp(maxSteps:=9^7) (disch:=try exact dI) only[hx,push_cast,seval]
 refine ab.pure hf rfl ?_
 cases b with
 | true=>simp(maxSteps:=9^7) (disch:=try exact dI) only[push_cast,seval]
 | false=>
 have hbf:¬ false=true:=by decide
 rw[if_neg hbf]
 rw[if_neg (show ¬ ¬ aB 9 m M s w=0 by simp[aB,loK,hiK])]
 by_cases h64:64<f.length
 ·have h64I:(64:Int)<(f.length:Int):=by omega
  rw[if_pos (by simp[aF,h64]),show aF 9 e.length f.length=9 by simp[aF,h64]]
  simp(maxSteps:=9^7) (disch:=try exact dI) only[h64I,push_cast,seval]
 have h64I:¬ (64:Int)<(f.length:Int):=by omega
 rw[if_neg (by simp[aF,h64])]
 obtain⟨R,hR⟩:∃ R,R=az 9 [] f:=⟨_,rfl⟩
 rw[← hR]
 simp(maxSteps:=9^7) (disch:=try exact dI) only[h64I,push_cast,seval]
 refine aw ([]) (fun i:Nat=>[(106,.pv (.int .i64 (i:Int)))]) (fun _=>[]) (fun i=>i≤f.length∧R=az 9 (f.take i) (f.drop i)) (fun i=>f.length - i) (0) ?_;intro e0 σ0 n0 h0;simp(maxSteps:=9^7) (disch:=try exact dI) only[push_cast,seval] at h0;obtain⟨rfl,rfl,rfl⟩:=h0;refine⟨?_,?_,?_⟩
 ·simp(maxSteps:=9^7) (disch:=try exact dI) only[push_cast,seval]
 ·exact⟨by omega,by simpa using hR⟩
 rintro i ⟨hi,hr⟩
 by_cases hlt:i<f.length
 ·have hltI:(i:Int)<(f.length:Int):=by omega
  obtain⟨g,hg⟩:∃ g,f[i]? = some g:=⟨_,List.getElem?_eq_getElem hlt⟩
  have hf:=bU 9 m M s w e f hl i g hg
  simp only[Typ.pv_mk] at hf
  rw[aO hg] at hr
  generalize bz 9 (f.take i) g=z at hf hr
  by_cases hz:z=0
  ·subst hz
   rw[if_pos rfl] at hr
   simp(maxSteps:=9^7) (disch:=try exact dI) only[push_cast,seval]
   refine ab.pure hf rfl ?_
   simp(maxSteps:=9^7) (disch:=try exact dI) only[push_cast,seval]
   exact⟨i+1,aT qsZ,⟨by omega,hr⟩,by omega⟩
  ·rw[if_neg hz] at hr
   subst hr
   simp(maxSteps:=9^7) (disch:=try exact dI) only[push_cast,seval]
   refine ab.pure hf rfl ?_
   simp(maxSteps:=9^7) (disch:=try exact dI) only[hz,push_cast,seval]
 ·obtain rfl:i=f.length:=by omega
  rw[List.drop_length,az] at hr
  subst hr
  simp(maxSteps:=9^7) (disch:=try exact dI) only[Int.lt_irrefl,push_cast,seval]
set_option maxHeartbeats 4000000 in
theorem uY (hw:∀ x∈w,x.length≤140737488351232)(hl:f.length≤9000000000000):ag Tryz.prog aD 178 [(Typ.mk 10 m M s w e f).pv] (.int .i64 (bh (.mk 10 m M s w e f))):=by
 have hi:=ec 10 1 10
 rw[show inB 10 1 10=true from rfl] at hi
 have hk:=ci
 have hf:=me 10 m M s w e f [118,97,114,105,97,110,116] 0 0
 simp only[Typ.pv_mk,lim] at hf
 have hx:bv true 11 8 (.pv (.agg d8)) (.pv (.int .i64 10))=some (.pv (.agg [.str [118,97,114,105,97,110,116],.int .i64 0,.int .i64 0,.bool false,.bool false,.bool false,.bool false,.bool true])):=rfl
 rw[show bh (.mk 10 m M s w e f)=(if aq false false false false true (.mk 10 m M s w e f)=true then 3 else if ¬ aB 10 m M s w=0 then aB 10 m M s w else if ¬ aF 10 e.length f.length=0 then aF 10 e.length f.length else az 10 [] f) from rfl]
 generalize aq false false false false true (.mk 10 m M s w e f)=b at hf ⊢
 refine ag.intro cW (by simp[jg]) ?_
 simp(maxSteps:=9^7) (disch:=try exact dI) only[jg,Typ.pv_mk,push_cast,seval]
 refine ab.pure hi rfl ?_
 simp(maxSteps:=9^7) (disch:=try exact dI) only[push_cast,seval]
 refine aA hk rfl ?_
 simp(maxSteps:=9^7) (disch:=try exact dI) only[hx,push_cast,seval]
 refine ab.pure hf rfl ?_
 cases b with
 | true=>simp(maxSteps:=9^7) (disch:=try exact dI) only[push_cast,seval]
 | false=>
 have hbf:¬ false=true:=by decide
 rw[if_neg hbf]
 rw[if_neg (show ¬ ¬ aB 10 m M s w=0 by simp[aB,loK,hiK])]
 by_cases hf0:f.length=0
 ·have hf0I:(f.length:Int)=0:=by omega
  rw[if_pos (by simp[aF,hf0]),show aF 10 e.length f.length=4 by simp[aF,hf0]]
  simp(maxSteps:=9^7) (disch:=try exact dI) only[hf0I,push_cast,seval]
 have hf0I:¬ (f.length:Int)=0:=by omega
 by_cases h64:64<f.length
 ·have h64I:(64:Int)<(f.length:Int):=by omega
  rw[if_pos (by simp[aF,h64,hf0]),show aF 10 e.length f.length=9 by simp[aF,h64,hf0]]
  simp(maxSteps:=9^7) (disch:=try exact dI) only[hf0I,h64I,push_cast,seval]
 have h64I:¬ (64:Int)<(f.length:Int):=by omega
 rw[if_neg (by simp[aF,h64,hf0])]
 obtain⟨R,hR⟩:∃ R,R=az 10 [] f:=⟨_,rfl⟩
 rw[← hR]
 simp(maxSteps:=9^7) (disch:=try exact dI) only[hf0I,h64I,push_cast,seval]
 refine aw ([]) (fun i:Nat=>[(106,.pv (.int .i64 (i:Int)))]) (fun _=>[]) (fun i=>i≤f.length∧R=az 10 (f.take i) (f.drop i)) (fun i=>f.length - i) (0) ?_;intro e0 σ0 n0 h0;simp(maxSteps:=9^7) (disch:=try exact dI) only[push_cast,seval] at h0;obtain⟨rfl,rfl,rfl⟩:=h0;refine⟨?_,?_,?_⟩
 ·simp(maxSteps:=9^7) (disch:=try exact dI) only[push_cast,seval]
 ·exact⟨by omega,by simpa using hR⟩
 rintro i ⟨hi,hr⟩
 by_cases hlt:i<f.length
 ·have hltI:(i:Int)<(f.length:Int):=by omega
  obtain⟨g,hg⟩:∃ g,f[i]? = some g:=⟨_,List.getElem?_eq_getElem hlt⟩
  have hf:=bU 10 m M s w e f hl i g hg
  simp only[Typ.pv_mk] at hf
  rw[aO hg] at hr
  generalize bz 10 (f.take i) g=z at hf hr
  by_cases hz:z=0
  ·subst hz
   rw[if_pos rfl] at hr
   simp(maxSteps:=9^7) (disch:=try exact dI) only[push_cast,seval]
   refine ab.pure hf rfl ?_
   simp(maxSteps:=9^7) (disch:=try exact dI) only[push_cast,seval]
   exact⟨i+1,aT qsZ,⟨by omega,hr⟩,by omega⟩
  ·rw[if_neg hz] at hr
   subst hr
   simp(maxSteps:=9^7) (disch:=try exact dI) only[push_cast,seval]
   refine ab.pure hf rfl ?_
   simp(maxSteps:=9^7) (disch:=try exact dI) only[hz,push_cast,seval]
 ·obtain rfl:i=f.length:=by omega
  rw[List.drop_length,az] at hr
  subst hr
  simp(maxSteps:=9^7) (disch:=try exact dI) only[Int.lt_irrefl,push_cast,seval]
set_option maxHeartbeats 4000000 in
theorem II (k:Int)(hw:∀ x∈w,x.length≤140737488351232)(hl:f.length≤9000000000000):ag Tryz.prog aD 178 [(Typ.mk k m M s w e f).pv] (.int .i64 (bh (.mk k m M s w e f))):=by
 by_cases hk:inB k 1 10=false
 ·have hi:=ec k 1 10
  rw[hk] at hi
  rw[show bh (.mk k m M s w e f)=11 by simp[bh,hk]]
  refine ag.intro cW (by simp[jg]) ?_
  simp(maxSteps:=9^7) (disch:=try exact dI) only[jg,Typ.pv_mk,push_cast,seval]
  refine ab.pure hi rfl ?_
  simp(maxSteps:=9^7) (disch:=try exact dI) only[push_cast,seval]
 ·have hr:1≤k∧k≤10:=by simpa[inB] using hk
  have hc:k=1∨k=2∨k=3∨k=4∨k=5∨k=6∨k=7∨k=8∨k=9∨k=10:=by omega
  clear hk hr
  rcases hc with rfl | rfl | rfl | rfl | rfl | rfl | rfl | rfl | rfl | rfl
  ·exact AY m M s w e f hw hl
  ·exact AW m M s w e f hw hl
  ·exact AU m M s w e f hw hl
  ·exact AS m M s w e f hw hl
  ·exact AR m M s w e f hw hl
  ·exact AQ m M s w e f hw hl
  ·exact AP m M s w e f hw hl
  ·exact AO m M s w e f hw hl
  ·exact AN m M s w e f hw hl
  ·exact uY m M s w e f hw hl
end
end Go.Proofs.YtbojpfpliibfbaaGreatDoor

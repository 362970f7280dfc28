/- A part of the proof for DelimitedRepresentableCardSaid. -/
import Derived.Test.YtbaaokocnegdoaaGreatDoorRepVS3
import Derived.Test.YtbaaokocnegdoaaGreatDoorRepVS1
set_option maxRecDepth 100000
set_option linter.unusedVariables false
set_option linter.unusedSimpArgs false
-- many steps
namespace Go.Proofs.YtbaaokocnegdoaaGreatDoor
open Go Go.Ab
attribute [local irreducible] vc
def d8:List PV:=[.str [],.int .i64 0,.int .i64 0,.bool false,.bool false,.bool false,.bool false,.bool false,.str [98,111,111,108],.int .i64 0,.int .i64 0,.bool false,.bool false,.bool false,.bool false,.bool false,.str [105,110,116],.int .i64 (-999999999999999),.int .i64 999999999999999,.bool true,.bool false,.bool false,.bool false,.bool false,.str [100,101,99,105,109,97,108],.int .i64 (-999999999999999),.int .i64 999999999999999,.bool true,.bool true,.bool false,.bool false,.bool false,.str [116,101,120,116],.int .i64 0,.int .i64 1024,.bool true,.bool false,.bool true,.bool false,.bool false,.str [98,121,116,101,115],.int .i64 0,.int .i64 1024,.bool true,.bool false,.bool false,.bool false,.bool false,.str [100,97,116,101],.int .i64 (-719162),.int .i64 2932896,.bool true,.bool false,.bool false,.bool false,.bool false,.str [116,105,109,101],.int .i64 (-62135596800000),.int .i64 253402300799999,.bool true,.bool false,.bool false,.bool false,.bool false,.str [108,105,115,116],.int .i64 0,.int .i64 256,.bool true,.bool false,.bool false,.bool true,.bool false,.str [114,101,99,111,114,100],.int .i64 0,.int .i64 0,.bool false,.bool false,.bool false,.bool false,.bool true,.str [118,97,114,105,97,110,116],.int .i64 0,.int .i64 0,.bool false,.bool false,.bool false,.bool false,.bool true]
theorem cg:ak Tryz.prog aD 188 [] (.agg d8):=by
 refine ak.intro Ap (by simp[Mx]) ?_
 simp only[d8]
 simp(maxSteps:=9^7) (disch:=first|exact dI|fail) only[Mx,push_cast,seval]
def loK (k:Int):Int:=if k=2 then (-999999999999999) else if k=3 then (-999999999999999) else if k=6 then (-719162) else if k=7 then (-62135596800000) else 0
def hiK (k:Int):Int:=if k=2 then 999999999999999 else if k=3 then 999999999999999 else if k=4 then 1024 else if k=5 then 1024 else if k=6 then 2932896 else if k=7 then 253402300799999 else if k=8 then 256 else 0
def aV (k:Int)(t:Typ):Bool:=am (decide (2≤k)&&decide (k≤8)) (decide (k=3)) (decide (k=4)) (decide (k=8)) (decide (9≤k)) t
def az (k m M s:Int)(w:List (List UInt8)):Int:=if k=4∧0<w.length then bq m M w else if (2≤k∧k≤8)∧(M<m∨m<loK k∨hiK k<M) then 2 else if k=3∧inB s 0 12=false then 2 else 0
def aC (k:Int)(e f:Nat):Int:=if k=8∧e=0 then 4 else if k=10∧f=0 then 4 else if k=8∧1<e then 3 else if 64<f then 9 else 0
def au (k:Int):List TFd→List TFd→Int
 | _,[]=>0
 | b,g::r=>if bw k b g=0 then au k (b++[g]) r else bw k b g
theorem aM {k:Int}{f:List TFd}{i:Nat}{g:TFd}(h:f[i]? = some g):au k (f.take i) (f.drop i)=if bw k (f.take i) g=0 then au k (f.take (i+1)) (f.drop (i+1)) else bw k (f.take i) g:=by
 have hi:=(List.getElem?_eq_some_iff.1 h).1
 have he:f[i]=g:=(List.getElem?_eq_some_iff.1 h).2
 rw[List.drop_eq_getElem_cons hi,he,au,aH h]
def bA:Typ→Int
 | .mk k m M s w e f=>if inB k 1 10=false then 11 else if aV k (.mk k m M s w e f)=true then 3 else if ¬ az k m M s w=0 then az k m M s w else if ¬ aC k e.length f.length=0 then aC k e.length f.length else au k [] f
section
variable (m M s:Int)(w:List (List UInt8))(e:List Typ)(f:List TFd)
set_option maxHeartbeats 4000000 in
theorem CJ (hw:∀ x∈w,x.length≤140737488351232)(hl:f.length≤1000000000):ak Tryz.prog aD 143 [(Typ.mk 1 m M s w e f).pv] (.int .i64 (bA (.mk 1 m M s w e f))):=by
 have hi:=ec 1 1 10
 rw[show inB 1 1 10=true from rfl] at hi
 have hk:=cg
 have hf:=yG 1 m M s w e f [98,111,111,108] 0 0
 simp only[Typ.pv_mk,lim] at hf
 have hx:bI true 11 8 (.pv (.agg d8)) (.pv (.int .i64 1))=some (.pv (.agg [.str [98,111,111,108],.int .i64 0,.int .i64 0,.bool false,.bool false,.bool false,.bool false,.bool false])):=rfl
 rw[show bA (.mk 1 m M s w e f)=(if am false false false false false (.mk 1 m M s w e f)=true then 3 else if ¬ az 1 m M s w=0 then az 1 m M s w else if ¬ aC 1 e.length f.length=0 then aC 1 e.length f.length else au 1 [] f) from rfl]
 generalize am false false false false false (.mk 1 m M s w e f)=b at hf ⊢
 refine ak.intro ct (by simp[ia]) ?_
 simp(maxSteps:=9^7) (disch:=first|exact dI|fail) only[ia,Typ.pv_mk,push_cast,seval]
 refine ab.pure hi rfl ?_
 simp(maxSteps:=9^7) (disch:=first|exact dI|fail) only[push_cast,seval]
 refine aF hk rfl ?_
 simp(maxSteps:=9^7) (disch:=first|exact dI|fail) only[hx,push_cast,seval]
 refine ab.pure hf rfl ?_
 cases b with
 | true=>simp(maxSteps:=9^7) (disch:=first|exact dI|fail) only[push_cast,seval]
 | false=>
 have hbf:¬ false=true:=by decide
 rw[if_neg hbf]
 rw[if_neg (show ¬ ¬ az 1 m M s w=0 by simp[az,loK,hiK])]
 by_cases h64:64<f.length
 ·have h64I:(64:Int)<(f.length:Int):=by omega
  rw[if_pos (by simp[aC,h64]),show aC 1 e.length f.length=9 by simp[aC,h64]]
  simp(maxSteps:=9^7) (disch:=first|exact dI|fail) only[h64I,push_cast,seval]
 have h64I:¬ (64:Int)<(f.length:Int):=by omega
 rw[if_neg (by simp[aC,h64])]
 obtain⟨R,hR⟩:∃ R,R=au 1 [] f:=⟨_,rfl⟩
 rw[← hR]
 simp(maxSteps:=9^7) (disch:=first|exact dI|fail) only[h64I,push_cast,seval]
 refine aB ([]) (fun i:Nat=>[(106,.pv (.int .i64 (i:Int)))]) (fun _=>[]) (fun i=>i≤f.length∧R=au 1 (f.take i) (f.drop i)) (fun i=>f.length - i) (0) ?_;intro e0 σ0 n0 h0;simp(maxSteps:=9^7) (disch:=first|exact dI|fail) only[push_cast,seval] at h0;obtain⟨rfl,rfl,rfl⟩:=h0;refine⟨?_,?_,?_⟩
 ·simp(maxSteps:=9^7) (disch:=first|exact dI|fail) only[push_cast,seval]
 ·exact⟨by omega,by simpa using hR⟩
 rintro i ⟨hi,hr⟩
 by_cases hlt:i<f.length
 ·have hltI:(i:Int)<(f.length:Int):=by omega
  obtain⟨g,hg⟩:∃ g,f[i]? = some g:=⟨_,List.getElem?_eq_getElem hlt⟩
  have hf:=bT 1 m M s w e f hl i g hg
  simp only[Typ.pv_mk] at hf
  rw[aM hg] at hr
  generalize bw 1 (f.take i) g=z at hf hr
  by_cases hz:z=0
  ·subst hz
   rw[if_pos rfl] at hr
   simp(maxSteps:=9^7) (disch:=first|exact dI|fail) only[push_cast,seval]
   refine ab.pure hf rfl ?_
   simp(maxSteps:=9^7) (disch:=first|exact dI|fail) only[push_cast,seval]
   exact⟨i+1,bg (by simp(maxSteps:=9^7) (disch:=first|exact dI|fail) only[push_cast,seval]),⟨by omega,hr⟩,by omega⟩
  ·rw[if_neg hz] at hr
   subst hr
   simp(maxSteps:=9^7) (disch:=first|exact dI|fail) only[push_cast,seval]
   refine ab.pure hf rfl ?_
   simp(maxSteps:=9^7) (disch:=first|exact dI|fail) only[hz,push_cast,seval]
 ·obtain rfl:i=f.length:=by omega
  rw[List.drop_length,au] at hr
  subst hr
  simp(maxSteps:=9^7) (disch:=first|exact dI|fail) only[Int.lt_irrefl,push_cast,seval]
set_option maxHeartbeats 4000000 in
theorem CI (hw:∀ x∈w,x.length≤140737488351232)(hl:f.length≤1000000000):ak Tryz.prog aD 143 [(Typ.mk 2 m M s w e f).pv] (.int .i64 (bA (.mk 2 m M s w e f))):=by
 have hi:=ec 2 1 10
 rw[show inB 2 1 10=true from rfl] at hi
 have hk:=cg
 have hf:=fI 2 m M s w e f [105,110,116] (-999999999999999) 999999999999999
 simp only[Typ.pv_mk,lim] at hf
 have hx:bI true 11 8 (.pv (.agg d8)) (.pv (.int .i64 2))=some (.pv (.agg [.str [105,110,116],.int .i64 (-999999999999999),.int .i64 999999999999999,.bool true,.bool false,.bool false,.bool false,.bool false])):=rfl
 rw[show bA (.mk 2 m M s w e f)=(if am true false false false false (.mk 2 m M s w e f)=true then 3 else if ¬ az 2 m M s w=0 then az 2 m M s w else if ¬ aC 2 e.length f.length=0 then aC 2 e.length f.length else au 2 [] f) from rfl]
 generalize am true false false false false (.mk 2 m M s w e f)=b at hf ⊢
 refine ak.intro ct (by simp[ia]) ?_
 simp(maxSteps:=9^7) (disch:=first|exact dI|fail) only[ia,Typ.pv_mk,push_cast,seval]
 refine ab.pure hi rfl ?_
 simp(maxSteps:=9^7) (disch:=first|exact dI|fail) only[push_cast,seval]
 refine aF hk rfl ?_
 simp(maxSteps:=9^7) (disch:=first|exact dI|fail) only[hx,push_cast,seval]
 refine ab.pure hf rfl ?_
 cases b with
 | true=>simp(maxSteps:=9^7) (disch:=first|exact dI|fail) only[push_cast,seval]
 | false=>
 have hbf:¬ false=true:=by decide
 rw[if_neg hbf]
 by_cases hA:M<m
 ·rw[show az 2 m M s w=2 by simp[az,loK,hiK,hA]]
  rw[if_pos (by decide)]
  simp(maxSteps:=9^7) (disch:=first|exact dI|fail) only[hA,push_cast,seval]
 by_cases hB:m<(-999999999999999)
 ·rw[show az 2 m M s w=2 by simp[az,loK,hiK,hB,hA]]
  rw[if_pos (by decide)]
  simp(maxSteps:=9^7) (disch:=first|exact dI|fail) only[hA,hB,push_cast,seval]
 by_cases hC:999999999999999<M
 ·rw[show az 2 m M s w=2 by simp[az,loK,hiK,hC,hA,hB]]
  rw[if_pos (by decide)]
  simp(maxSteps:=9^7) (disch:=first|exact dI|fail) only[hA,hB,hC,push_cast,seval]
 rw[if_neg (show ¬ ¬ az 2 m M s w=0 by simp[az,loK,hiK,hA,hB,hC])]
 by_cases h64:64<f.length
 ·have h64I:(64:Int)<(f.length:Int):=by omega
  rw[if_pos (by simp[aC,h64]),show aC 2 e.length f.length=9 by simp[aC,h64]]
  simp(maxSteps:=9^7) (disch:=first|exact dI|fail) only[hA,hB,hC,h64I,push_cast,seval]
 have h64I:¬ (64:Int)<(f.length:Int):=by omega
 rw[if_neg (by simp[aC,h64])]
 obtain⟨R,hR⟩:∃ R,R=au 2 [] f:=⟨_,rfl⟩
 rw[← hR]
 simp(maxSteps:=9^7) (disch:=first|exact dI|fail) only[hA,hB,hC,h64I,push_cast,seval]
 refine aB ([]) (fun i:Nat=>[(106,.pv (.int .i64 (i:Int)))]) (fun _=>[]) (fun i=>i≤f.length∧R=au 2 (f.take i) (f.drop i)) (fun i=>f.length - i) (0) ?_;intro e0 σ0 n0 h0;simp(maxSteps:=9^7) (disch:=first|exact dI|fail) only[push_cast,seval] at h0;obtain⟨rfl,rfl,rfl⟩:=h0;refine⟨?_,?_,?_⟩
 ·simp(maxSteps:=9^7) (disch:=first|exact dI|fail) only[push_cast,seval]
 ·exact⟨by omega,by simpa using hR⟩
 rintro i ⟨hi,hr⟩
 by_cases hlt:i<f.length
 ·have hltI:(i:Int)<(f.length:Int):=by omega
  obtain⟨g,hg⟩:∃ g,f[i]? = some g:=⟨_,List.getElem?_eq_getElem hlt⟩
  have hf:=bT 2 m M s w e f hl i g hg
  simp only[Typ.pv_mk] at hf
  rw[aM hg] at hr
  generalize bw 2 (f.take i) g=z at hf hr
  by_cases hz:z=0
  ·subst hz
   rw[if_pos rfl] at hr
   simp(maxSteps:=9^7) (disch:=first|exact dI|fail) only[push_cast,seval]
   refine ab.pure hf rfl ?_
   simp(maxSteps:=9^7) (disch:=first|exact dI|fail) only[push_cast,seval]
   exact⟨i+1,bg (by simp(maxSteps:=9^7) (disch:=first|exact dI|fail) only[push_cast,seval]),⟨by omega,hr⟩,by omega⟩
  ·rw[if_neg hz] at hr
   subst hr
   simp(maxSteps:=9^7) (disch:=first|exact dI|fail) only[push_cast,seval]
   refine ab.pure hf rfl ?_
   simp(maxSteps:=9^7) (disch:=first|exact dI|fail) only[hz,push_cast,seval]
 ·obtain rfl:i=f.length:=by omega
  rw[List.drop_length,au] at hr
  subst hr
  simp(maxSteps:=9^7) (disch:=first|exact dI|fail) only[Int.lt_irrefl,push_cast,seval]
set_option maxHeartbeats 4000000 in
theorem CH (hw:∀ x∈w,x.length≤140737488351232)(hl:f.length≤1000000000):ak Tryz.prog aD 143 [(Typ.mk 3 m M s w e f).pv] (.int .i64 (bA (.mk 3 m M s w e f))):=by
 have hi:=ec 3 1 10
 rw[show inB 3 1 10=true from rfl] at hi
 have hk:=cg
 have hf:=yI 3 m M s w e f [100,101,99,105,109,97,108] (-999999999999999) 999999999999999
 simp only[Typ.pv_mk,lim] at hf
 have hx:bI true 11 8 (.pv (.agg d8)) (.pv (.int .i64 3))=some (.pv (.agg [.str [100,101,99,105,109,97,108],.int .i64 (-999999999999999),.int .i64 999999999999999,.bool true,.bool true,.bool false,.bool false,.bool false])):=rfl
 rw[show bA (.mk 3 m M s w e f)=(if am true true false false false (.mk 3 m M s w e f)=true then 3 else if ¬ az 3 m M s w=0 then az 3 m M s w else if ¬ aC 3 e.length f.length=0 then aC 3 e.length f.length else au 3 [] f) from rfl]
 generalize am true true false false false (.mk 3 m M s w e f)=b at hf ⊢
 refine ak.intro ct (by simp[ia]) ?_
 simp(maxSteps:=9^7) (disch:=first|exact dI|fail) only[ia,Typ.pv_mk,push_cast,seval]
 refine ab.pure hi rfl ?_
 simp(maxSteps:=9^7) (disch:=first|exact dI|fail) only[push_cast,seval]
 refine aF hk rfl ?_
 simp(maxSteps:=9^7) (disch:=first|exact dI|fail) only[hx,push_cast,seval]
 refine ab.pure hf rfl ?_
 cases b with
 | true=>simp(maxSteps:=9^7) (disch:=first|exact dI|fail) only[push_cast,seval]
 | false=>
 have hbf:¬ false=true:=by decide
 rw[if_neg hbf]
 by_cases hA:M<m
 ·rw[show az 3 m M s w=2 by simp[az,loK,hiK,hA]]
  rw[if_pos (by decide)]
  simp(maxSteps:=9^7) (disch:=first|exact dI|fail) only[hA,push_cast,seval]
 by_cases hB:m<(-999999999999999)
 ·rw[show az 3 m M s w=2 by simp[az,loK,hiK,hB,hA]]
  rw[if_pos (by decide)]
  simp(maxSteps:=9^7) (disch:=first|exact dI|fail) only[hA,hB,push_cast,seval]
 by_cases hC:999999999999999<M
 ·rw[show az 3 m M s w=2 by simp[az,loK,hiK,hC,hA,hB]]
  rw[if_pos (by decide)]
  simp(maxSteps:=9^7) (disch:=first|exact dI|fail) only[hA,hB,hC,push_cast,seval]
 have hs:=ec s 0 12
 have hbd:az 3 m M s w=if inB s 0 12=false then 2 else 0:=by simp[az,loK,hiK,hA,hB,hC]
 rw[hbd]
 clear hbd
 generalize inB s 0 12=q at hs ⊢
 simp(maxSteps:=9^7) (disch:=first|exact dI|fail) only[hA,hB,hC,push_cast,seval]
 refine ab.pure hs rfl ?_
 cases q with
 | false=>rw[if_pos rfl,if_pos (by decide)];simp(maxSteps:=9^7) (disch:=first|exact dI|fail) only[push_cast,seval]
 | true=>
 rw[if_neg (show ¬ true=false by decide),if_neg (by decide)]
 by_cases h64:64<f.length
 ·have h64I:(64:Int)<(f.length:Int):=by omega
  rw[if_pos (by simp[aC,h64]),show aC 3 e.length f.length=9 by simp[aC,h64]]
  simp(maxSteps:=9^7) (disch:=first|exact dI|fail) only[h64I,push_cast,seval]
 have h64I:¬ (64:Int)<(f.length:Int):=by omega
 rw[if_neg (by simp[aC,h64])]
 obtain⟨R,hR⟩:∃ R,R=au 3 [] f:=⟨_,rfl⟩
 rw[← hR]
 simp(maxSteps:=9^7) (disch:=first|exact dI|fail) only[h64I,push_cast,seval]
 refine aB ([]) (fun i:Nat=>[(106,.pv (.int .i64 (i:Int)))]) (fun _=>[]) (fun i=>i≤f.length∧R=au 3 (f.take i) (f.drop i)) (fun i=>f.length - i) (0) ?_;intro e0 σ0 n0 h0;simp(maxSteps:=9^7) (disch:=first|exact dI|fail) only[push_cast,seval] at h0;obtain⟨rfl,rfl,rfl⟩:=h0;refine⟨?_,?_,?_⟩
 ·simp(maxSteps:=9^7) (disch:=first|exact dI|fail) only[push_cast,seval]
 ·exact⟨by omega,by simpa using hR⟩
 rintro i ⟨hi,hr⟩
 by_cases hlt:i<f.length
 ·have hltI:(i:Int)<(f.length:Int):=by omega
  obtain⟨g,hg⟩:∃ g,f[i]? = some g:=⟨_,List.getElem?_eq_getElem hlt⟩
  have hf:=bT 3 m M s w e f hl i g hg
  simp only[Typ.pv_mk] at hf
  rw[aM hg] at hr
  generalize bw 3 (f.take i) g=z at hf hr
  by_cases hz:z=0
  ·subst hz
   rw[if_pos rfl] at hr
   simp(maxSteps:=9^7) (disch:=first|exact dI|fail) only[push_cast,seval]
   refine ab.pure hf rfl ?_
   simp(maxSteps:=9^7) (disch:=first|exact dI|fail) only[push_cast,seval]
   exact⟨i+1,bg (by simp(maxSteps:=9^7) (disch:=first|exact dI|fail) only[push_cast,seval]),⟨by omega,hr⟩,by omega⟩
  ·rw[if_neg hz] at hr
   subst hr
   simp(maxSteps:=9^7) (disch:=first|exact dI|fail) only[push_cast,seval]
   refine ab.pure hf rfl ?_
   simp(maxSteps:=9^7) (disch:=first|exact dI|fail) only[hz,push_cast,seval]
 ·obtain rfl:i=f.length:=by omega
  rw[List.drop_length,au] at hr
  subst hr
  simp(maxSteps:=9^7) (disch:=first|exact dI|fail) only[Int.lt_irrefl,push_cast,seval]
set_option maxHeartbeats 4000000 in
theorem CG (hw:∀ x∈w,x.length≤140737488351232)(hl:f.length≤1000000000):ak Tryz.prog aD 143 [(Typ.mk 4 m M s w e f).pv] (.int .i64 (bA (.mk 4 m M s w e f))):=by
 have hi:=ec 4 1 10
 rw[show inB 4 1 10=true from rfl] at hi
 have hk:=cg
 have hf:=yF 4 m M s w e f [116,101,120,116] 0 1024
 simp only[Typ.pv_mk,lim] at hf
 have hx:bI true 11 8 (.pv (.agg d8)) (.pv (.int .i64 4))=some (.pv (.agg [.str [116,101,120,116],.int .i64 0,.int .i64 1024,.bool true,.bool false,.bool true,.bool false,.bool false])):=rfl
 rw[show bA (.mk 4 m M s w e f)=(if am true false true false false (.mk 4 m M s w e f)=true then 3 else if ¬ az 4 m M s w=0 then az 4 m M s w else if ¬ aC 4 e.length f.length=0 then aC 4 e.length f.length else au 4 [] f) from rfl]
 generalize am true false true false false (.mk 4 m M s w e f)=b at hf ⊢
 refine ak.intro ct (by simp[ia]) ?_
 simp(maxSteps:=9^7) (disch:=first|exact dI|fail) only[ia,Typ.pv_mk,push_cast,seval]
 refine ab.pure hi rfl ?_
 simp(maxSteps:=9^7) (disch:=first|exact dI|fail) only[push_cast,seval]
 refine aF hk rfl ?_
 simp(maxSteps:=9^7) (disch:=first|exact dI|fail) only[hx,push_cast,seval]
 refine ab.pure hf rfl ?_
 cases b with
 | true=>simp(maxSteps:=9^7) (disch:=first|exact dI|fail) only[push_cast,seval]
 | false=>
 have hbf:¬ false=true:=by decide
 rw[if_neg hbf]
 by_cases hw0:0<w.length
 ·have hw0I:(0:Int)<(w.length:Int):=by omega
  have hws:=AQ 4 m M s w e f hw
  simp only[Typ.pv_mk] at hws
  rw[show az 4 m M s w=bq m M w by simp[az,hw0]]
  generalize bq m M w=z at hws ⊢
  simp(maxSteps:=9^7) (disch:=first|exact dI|fail) only[push_cast,seval]
  refine ab.pure hws rfl ?_
  by_cases hz:z=0
  ·subst hz
   rw[if_neg (by decide)]
   by_cases h64:64<f.length
   ·have h64I:(64:Int)<(f.length:Int):=by omega
    rw[if_pos (by simp[aC,h64]),show aC 4 e.length f.length=9 by simp[aC,h64]]
    simp(maxSteps:=9^7) (disch:=first|exact dI|fail) only[h64I,push_cast,seval]
   have h64I:¬ (64:Int)<(f.length:Int):=by omega
   rw[if_neg (by simp[aC,h64])]
   obtain⟨R,hR⟩:∃ R,R=au 4 [] f:=⟨_,rfl⟩
   rw[← hR]
   simp(maxSteps:=9^7) (disch:=first|exact dI|fail) only[h64I,push_cast,seval]
   refine aB ([]) (fun i:Nat=>[(106,.pv (.int .i64 (i:Int)))]) (fun _=>[]) (fun i=>i≤f.length∧R=au 4 (f.take i) (f.drop i)) (fun i=>f.length - i) (0) ?_;intro e0 σ0 n0 h0;simp(maxSteps:=9^7) (disch:=first|exact dI|fail) only[push_cast,seval] at h0;obtain⟨rfl,rfl,rfl⟩:=h0;refine⟨?_,?_,?_⟩
   ·simp(maxSteps:=9^7) (disch:=first|exact dI|fail) only[push_cast,seval]
   ·exact⟨by omega,by simpa using hR⟩
   rintro i ⟨hi,hr⟩
   by_cases hlt:i<f.length
   ·have hltI:(i:Int)<(f.length:Int):=by omega
    obtain⟨g,hg⟩:∃ g,f[i]? = some g:=⟨_,List.getElem?_eq_getElem hlt⟩
    have hf:=bT 4 m M s w e f hl i g hg
    simp only[Typ.pv_mk] at hf
    rw[aM hg] at hr
    generalize bw 4 (f.take i) g=z at hf hr
    by_cases hz:z=0
    ·subst hz
     rw[if_pos rfl] at hr
     simp(maxSteps:=9^7) (disch:=first|exact dI|fail) only[push_cast,seval]
     refine ab.pure hf rfl ?_
     simp(maxSteps:=9^7) (disch:=first|exact dI|fail) only[push_cast,seval]
     exact⟨i+1,bg (by simp(maxSteps:=9^7) (disch:=first|exact dI|fail) only[push_cast,seval]),⟨by omega,hr⟩,by omega⟩
    ·rw[if_neg hz] at hr
     subst hr
     simp(maxSteps:=9^7) (disch:=first|exact dI|fail) only[push_cast,seval]
     refine ab.pure hf rfl ?_
     simp(maxSteps:=9^7) (disch:=first|exact dI|fail) only[hz,push_cast,seval]
   ·obtain rfl:i=f.length:=by omega
    rw[List.drop_length,au] at hr
    subst hr
    simp(maxSteps:=9^7) (disch:=first|exact dI|fail) only[Int.lt_irrefl,push_cast,seval]
  ·rw[if_pos hz]
   simp(maxSteps:=9^7) (disch:=first|exact dI|fail) only[hz,push_cast,seval]
 have hw0I:¬ (0:Int)<(w.length:Int):=by omega
 by_cases hA:M<m
 ·rw[show az 4 m M s w=2 by simp[az,loK,hiK,hA,hw0]]
  rw[if_pos (by decide)]
  simp(maxSteps:=9^7) (disch:=first|exact dI|fail) only[hw0I,hA,push_cast,seval]
 by_cases hB:m<0
 ·rw[show az 4 m M s w=2 by simp[az,loK,hiK,hB,hw0,hA]]
  rw[if_pos (by decide)]
  simp(maxSteps:=9^7) (disch:=first|exact dI|fail) only[hw0I,hA,hB,push_cast,seval]
 by_cases hC:1024<M
 ·rw[show az 4 m M s w=2 by simp[az,loK,hiK,hC,hw0,hA,hB]]
  rw[if_pos (by decide)]
  simp(maxSteps:=9^7) (disch:=first|exact dI|fail) only[hw0I,hA,hB,hC,push_cast,seval]
 rw[if_neg (show ¬ ¬ az 4 m M s w=0 by simp[az,loK,hiK,hw0,hA,hB,hC])]
 by_cases h64:64<f.length
 ·have h64I:(64:Int)<(f.length:Int):=by omega
  rw[if_pos (by simp[aC,h64]),show aC 4 e.length f.length=9 by simp[aC,h64]]
  simp(maxSteps:=9^7) (disch:=first|exact dI|fail) only[hw0I,hA,hB,hC,h64I,push_cast,seval]
 have h64I:¬ (64:Int)<(f.length:Int):=by omega
 rw[if_neg (by simp[aC,h64])]
 obtain⟨R,hR⟩:∃ R,R=au 4 [] f:=⟨_,rfl⟩
 rw[← hR]
 simp(maxSteps:=9^7) (disch:=first|exact dI|fail) only[hw0I,hA,hB,hC,h64I,push_cast,seval]
 refine aB ([]) (fun i:Nat=>[(106,.pv (.int .i64 (i:Int)))]) (fun _=>[]) (fun i=>i≤f.length∧R=au 4 (f.take i) (f.drop i)) (fun i=>f.length - i) (0) ?_;intro e0 σ0 n0 h0;simp(maxSteps:=9^7) (disch:=first|exact dI|fail) only[push_cast,seval] at h0;obtain⟨rfl,rfl,rfl⟩:=h0;refine⟨?_,?_,?_⟩
 ·simp(maxSteps:=9^7) (disch:=first|exact dI|fail) only[push_cast,seval]
 ·exact⟨by omega,by simpa using hR⟩
 rintro i ⟨hi,hr⟩
 by_cases hlt:i<f.length
 ·have hltI:(i:Int)<(f.length:Int):=by omega
  obtain⟨g,hg⟩:∃ g,f[i]? = some g:=⟨_,List.getElem?_eq_getElem hlt⟩
  have hf:=bT 4 m M s w e f hl i g hg
  simp only[Typ.pv_mk] at hf
  rw[aM hg] at hr
  generalize bw 4 (f.take i) g=z at hf hr
  by_cases hz:z=0
  ·subst hz
   rw[if_pos rfl] at hr
   simp(maxSteps:=9^7) (disch:=first|exact dI|fail) only[push_cast,seval]
   refine ab.pure hf rfl ?_
   simp(maxSteps:=9^7) (disch:=first|exact dI|fail) only[push_cast,seval]
   exact⟨i+1,bg (by simp(maxSteps:=9^7) (disch:=first|exact dI|fail) only[push_cast,seval]),⟨by omega,hr⟩,by omega⟩
  ·rw[if_neg hz] at hr
   subst hr
   simp(maxSteps:=9^7) (disch:=first|exact dI|fail) only[push_cast,seval]
   refine ab.pure hf rfl ?_
   simp(maxSteps:=9^7) (disch:=first|exact dI|fail) only[hz,push_cast,seval]
 ·obtain rfl:i=f.length:=by omega
  rw[List.drop_length,au] at hr
  subst hr
  simp(maxSteps:=9^7) (disch:=first|exact dI|fail) only[Int.lt_irrefl,push_cast,seval]
set_option maxHeartbeats 4000000 in
theorem CF (hw:∀ x∈w,x.length≤140737488351232)(hl:f.length≤1000000000):ak Tryz.prog aD 143 [(Typ.mk 5 m M s w e f).pv] (.int .i64 (bA (.mk 5 m M s w e f))):=by
 have hi:=ec 5 1 10
 rw[show inB 5 1 10=true from rfl] at hi
 have hk:=cg
 have hf:=fI 5 m M s w e f [98,121,116,101,115] 0 1024
 simp only[Typ.pv_mk,lim] at hf
 have hx:bI true 11 8 (.pv (.agg d8)) (.pv (.int .i64 5))=some (.pv (.agg [.str [98,121,116,101,115],.int .i64 0,.int .i64 1024,.bool true,.bool false,.bool false,.bool false,.bool false])):=rfl
 rw[show bA (.mk 5 m M s w e f)=(if am true false false false false (.mk 5 m M s w e f)=true then 3 else if ¬ az 5 m M s w=0 then az 5 m M s w else if ¬ aC 5 e.length f.length=0 then aC 5 e.length f.length else au 5 [] f) from rfl]
 generalize am true false false false false (.mk 5 m M s w e f)=b at hf ⊢
 refine ak.intro ct (by simp[ia]) ?_
 simp(maxSteps:=9^7) (disch:=first|exact dI|fail) only[ia,Typ.pv_mk,push_cast,seval]
 refine ab.pure hi rfl ?_
 simp(maxSteps:=9^7) (disch:=first|exact dI|fail) only[push_cast,seval]
 refine aF hk rfl ?_
 simp(maxSteps:=9^7) (disch:=first|exact dI|fail) only[hx,push_cast,seval]
 refine ab.pure hf rfl ?_
 cases b with
 | true=>simp(maxSteps:=9^7) (disch:=first|exact dI|fail) only[push_cast,seval]
 | false=>
 have hbf:¬ false=true:=by decide
 rw[if_neg hbf]
 by_cases hA:M<m
 ·rw[show az 5 m M s w=2 by simp[az,loK,hiK,hA]]
  rw[if_pos (by decide)]
  simp(maxSteps:=9^7) (disch:=first|exact dI|fail) only[hA,push_cast,seval]
 by_cases hB:m<0
 ·rw[show az 5 m M s w=2 by simp[az,loK,hiK,hB,hA]]
  rw[if_pos (by decide)]
  simp(maxSteps:=9^7) (disch:=first|exact dI|fail) only[hA,hB,push_cast,seval]
 by_cases hC:1024<M
 ·rw[show az 5 m M s w=2 by simp[az,loK,hiK,hC,hA,hB]]
  rw[if_pos (by decide)]
  simp(maxSteps:=9^7) (disch:=first|exact dI|fail) only[hA,hB,hC,push_cast,seval]
 rw[if_neg (show ¬ ¬ az 5 m M s w=0 by simp[az,loK,hiK,hA,hB,hC])]
 by_cases h64:64<f.length
 ·have h64I:(64:Int)<(f.length:Int):=by omega
  rw[if_pos (by simp[aC,h64]),show aC 5 e.length f.length=9 by simp[aC,h64]]
  simp(maxSteps:=9^7) (disch:=first|exact dI|fail) only[hA,hB,hC,h64I,push_cast,seval]
 have h64I:¬ (64:Int)<(f.length:Int):=by omega
 rw[if_neg (by simp[aC,h64])]
 obtain⟨R,hR⟩:∃ R,R=au 5 [] f:=⟨_,rfl⟩
 rw[← hR]
 simp(maxSteps:=9^7) (disch:=first|exact dI|fail) only[hA,hB,hC,h64I,push_cast,seval]
 refine aB ([]) (fun i:Nat=>[(106,.pv (.int .i64 (i:Int)))]) (fun _=>[]) (fun i=>i≤f.length∧R=au 5 (f.take i) (f.drop i)) (fun i=>f.length - i) (0) ?_;intro e0 σ0 n0 h0;simp(maxSteps:=9^7) (disch:=first|exact dI|fail) only[push_cast,seval] at h0;obtain⟨rfl,rfl,rfl⟩:=h0;refine⟨?_,?_,?_⟩
 ·simp(maxSteps:=9^7) (disch:=first|exact dI|fail) only[push_cast,seval]
 ·exact⟨by omega,by simpa using hR⟩
 rintro i ⟨hi,hr⟩
 by_cases hlt:i<f.length
 ·have hltI:(i:Int)<(f.length:Int):=by omega
  obtain⟨g,hg⟩:∃ g,f[i]? = some g:=⟨_,List.getElem?_eq_getElem hlt⟩
  have hf:=bT 5 m M s w e f hl i g hg
  simp only[Typ.pv_mk] at hf
  rw[aM hg] at hr
  generalize bw 5 (f.take i) g=z at hf hr
  by_cases hz:z=0
  ·subst hz
   rw[if_pos rfl] at hr
   simp(maxSteps:=9^7) (disch:=first|exact dI|fail) only[push_cast,seval]
   refine ab.pure hf rfl ?_
   simp(maxSteps:=9^7) (disch:=first|exact dI|fail) only[push_cast,seval]
   exact⟨i+1,bg (by simp(maxSteps:=9^7) (disch:=first|exact dI|fail) only[push_cast,seval]),⟨by omega,hr⟩,by omega⟩
  ·rw[if_neg hz] at hr
   subst hr
   simp(maxSteps:=9^7) (disch:=first|exact dI|fail) only[push_cast,seval]
   refine ab.pure hf rfl ?_
   simp(maxSteps:=9^7) (disch:=first|exact dI|fail) only[hz,push_cast,seval]
 ·obtain rfl:i=f.length:=by omega
  rw[List.drop_length,au] at hr
  subst hr
  simp(maxSteps:=9^7) (disch:=first|exact dI|fail) only[Int.lt_irrefl,push_cast,seval]
set_option maxHeartbeats 4000000 in
theorem CE (hw:∀ x∈w,x.length≤140737488351232)(hl:f.length≤1000000000):ak Tryz.prog aD 143 [(Typ.mk 6 m M s w e f).pv] (.int .i64 (bA (.mk 6 m M s w e f))):=by
 have hi:=ec 6 1 10
 rw[show inB 6 1 10=true from rfl] at hi
 have hk:=cg
 have hf:=fI 6 m M s w e f [100,97,116,101] (-719162) 2932896
 simp only[Typ.pv_mk,lim] at hf
 have hx:bI true 11 8 (.pv (.agg d8)) (.pv (.int .i64 6))=some (.pv (.agg [.str [100,97,116,101],.int .i64 (-719162),.int .i64 2932896,.bool true,.bool false,.bool false,.bool false,.bool false])):=rfl
 rw[show bA (.mk 6 m M s w e f)=(if am true false false false false (.mk 6 m M s w e f)=true then 3 else if ¬ az 6 m M s w=0 then az 6 m M s w else if ¬ aC 6 e.length f.length=0 then aC 6 e.length f.length else au 6 [] f) from rfl]
 generalize am true false false false false (.mk 6 m M s w e f)=b at hf ⊢
 refine ak.intro ct (by simp[ia]) ?_
 simp(maxSteps:=9^7) (disch:=first|exact dI|fail) only[ia,Typ.pv_mk,push_cast,seval]
 refine ab.pure hi rfl ?_
 simp(maxSteps:=9^7) (disch:=first|exact dI|fail) only[push_cast,seval]
 refine aF hk rfl ?_
 simp(maxSteps:=9^7) (disch:=first|exact dI|fail) only[hx,push_cast,seval]
 refine ab.pure hf rfl ?_
 cases b with
 | true=>simp(maxSteps:=9^7) (disch:=first|exact dI|fail) only[push_cast,seval]
 | false=>
 have hbf:¬ false=true:=by decide
 rw[if_neg hbf]
 by_cases hA:M<m
 ·rw[show az 6 m M s w=2 by simp[az,loK,hiK,hA]]
  rw[if_pos (by decide)]
  simp(maxSteps:=9^7) (disch:=first|exact dI|fail) only[hA,push_cast,seval]
 by_cases hB:m<(-719162)
 ·rw[show az 6 m M s w=2 by simp[az,loK,hiK,hB,hA]]
  rw[if_pos (by decide)]
  simp(maxSteps:=9^7) (disch:=first|exact dI|fail) only[hA,hB,push_cast,seval]
 by_cases hC:2932896<M
 ·rw[show az 6 m M s w=2 by simp[az,loK,hiK,hC,hA,hB]]
  rw[if_pos (by decide)]
  simp(maxSteps:=9^7) (disch:=first|exact dI|fail) only[hA,hB,hC,push_cast,seval]
 rw[if_neg (show ¬ ¬ az 6 m M s w=0 by simp[az,loK,hiK,hA,hB,hC])]
 by_cases h64:64<f.length
 ·have h64I:(64:Int)<(f.length:Int):=by omega
  rw[if_pos (by simp[aC,h64]),show aC 6 e.length f.length=9 by simp[aC,h64]]
  simp(maxSteps:=9^7) (disch:=first|exact dI|fail) only[hA,hB,hC,h64I,push_cast,seval]
 have h64I:¬ (64:Int)<(f.length:Int):=by omega
 rw[if_neg (by simp[aC,h64])]
 obtain⟨R,hR⟩:∃ R,R=au 6 [] f:=⟨_,rfl⟩
 rw[← hR]
 simp(maxSteps:=9^7) (disch:=first|exact dI|fail) only[hA,hB,hC,h64I,push_cast,seval]
 refine aB ([]) (fun i:Nat=>[(106,.pv (.int .i64 (i:Int)))]) (fun _=>[]) (fun i=>i≤f.length∧R=au 6 (f.take i) (f.drop i)) (fun i=>f.length - i) (0) ?_;intro e0 σ0 n0 h0;simp(maxSteps:=9^7) (disch:=first|exact dI|fail) only[push_cast,seval] at h0;obtain⟨rfl,rfl,rfl⟩:=h0;refine⟨?_,?_,?_⟩
 ·simp(maxSteps:=9^7) (disch:=first|exact dI|fail) only[push_cast,seval]
 ·exact⟨by omega,by simpa using hR⟩
 rintro i ⟨hi,hr⟩
 by_cases hlt:i<f.length
 ·have hltI:(i:Int)<(f.length:Int):=by omega
  obtain⟨g,hg⟩:∃ g,f[i]? = some g:=⟨_,List.getElem?_eq_getElem hlt⟩
  have hf:=bT 6 m M s w e f hl i g hg
  simp only[Typ.pv_mk] at hf
  rw[aM hg] at hr
  generalize bw 6 (f.take i) g=z at hf hr
  by_cases hz:z=0
  ·subst hz
   rw[if_pos rfl] at hr
   simp(maxSteps:=9^7) (disch:=first|exact dI|fail) only[push_cast,seval]
   refine ab.pure hf rfl ?_
   simp(maxSteps:=9^7) (disch:=first|exact dI|fail) only[push_cast,seval]
   exact⟨i+1,bg (by simp(maxSteps:=9^7) (disch:=first|exact dI|fail) only[push_cast,seval]),⟨by omega,hr⟩,by omega⟩
  ·rw[if_neg hz] at hr
   subst hr
   simp(maxSteps:=9^7) (disch:=first|exact dI|fail) only[push_cast,seval]
   refine ab.pure hf rfl ?_
   simp(maxSteps:=9^7) (disch:=first|exact dI|fail) only[hz,push_cast,seval]
 ·obtain rfl:i=f.length:=by omega
  rw[List.drop_length,au] at hr
  subst hr
  simp(maxSteps:=9^7) (disch:=first|exact dI|fail) only[Int.lt_irrefl,push_cast,seval]
set_option maxHeartbeats 4000000 in
theorem CD (hw:∀ x∈w,x.length≤140737488351232)(hl:f.length≤1000000000):ak Tryz.prog aD 143 [(Typ.mk 7 m M s w e f).pv] (.int .i64 (bA (.mk 7 m M s w e f))):=by
 have hi:=ec 7 1 10
 rw[show inB 7 1 10=true from rfl] at hi
 have hk:=cg
 have hf:=fI 7 m M s w e f [116,105,109,101] (-62135596800000) 253402300799999
 simp only[Typ.pv_mk,lim] at hf
 have hx:bI true 11 8 (.pv (.agg d8)) (.pv (.int .i64 7))=some (.pv (.agg [.str [116,105,109,101],.int .i64 (-62135596800000),.int .i64 253402300799999,.bool true,.bool false,.bool false,.bool false,.bool false])):=rfl
 rw[show bA (.mk 7 m M s w e f)=(if am true false false false false (.mk 7 m M s w e f)=true then 3 else if ¬ az 7 m M s w=0 then az 7 m M s w else if ¬ aC 7 e.length f.length=0 then aC 7 e.length f.length else au 7 [] f) from rfl]
 generalize am true false false false false (.mk 7 m M s w e f)=b at hf ⊢
 refine ak.intro ct (by simp[ia]) ?_
 simp(maxSteps:=9^7) (disch:=first|exact dI|fail) only[ia,Typ.pv_mk,push_cast,seval]
 refine ab.pure hi rfl ?_
 simp(maxSteps:=9^7) (disch:=first|exact dI|fail) only[push_cast,seval]
 refine aF hk rfl ?_
 simp(maxSteps:=9^7) (disch:=first|exact dI|fail) only[hx,push_cast,seval]
 refine ab.pure hf rfl ?_
 cases b with
 | true=>simp(maxSteps:=9^7) (disch:=first|exact dI|fail) only[push_cast,seval]
 | false=>
 have hbf:¬ false=true:=by decide
 rw[if_neg hbf]
 by_cases hA:M<m
 ·rw[show az 7 m M s w=2 by simp[az,loK,hiK,hA]]
  rw[if_pos (by decide)]
  simp(maxSteps:=9^7) (disch:=first|exact dI|fail) only[hA,push_cast,seval]
 by_cases hB:m<(-62135596800000)
 ·rw[show az 7 m M s w=2 by simp[az,loK,hiK,hB,hA]]
  rw[if_pos (by decide)]
  simp(maxSteps:=9^7) (disch:=first|exact dI|fail) only[hA,hB,push_cast,seval]
 by_cases hC:253402300799999<M
 ·rw[show az 7 m M s w=2 by simp[az,loK,hiK,hC,hA,hB]]
  rw[if_pos (by decide)]
  simp(maxSteps:=9^7) (disch:=first|exact dI|fail) only[hA,hB,hC,push_cast,seval]
 rw[if_neg (show ¬ ¬ az 7 m M s w=0 by simp[az,loK,hiK,hA,hB,hC])]
 by_cases h64:64<f.length
 ·have h64I:(64:Int)<(f.length:Int):=by omega
  rw[if_pos (by simp[aC,h64]),show aC 7 e.length f.length=9 by simp[aC,h64]]
  simp(maxSteps:=9^7) (disch:=first|exact dI|fail) only[hA,hB,hC,h64I,push_cast,seval]
 have h64I:¬ (64:Int)<(f.length:Int):=by omega
 rw[if_neg (by simp[aC,h64])]
 obtain⟨R,hR⟩:∃ R,R=au 7 [] f:=⟨_,rfl⟩
 rw[← hR]
 simp(maxSteps:=9^7) (disch:=first|exact dI|fail) only[hA,hB,hC,h64I,push_cast,seval]
 refine aB ([]) (fun i:Nat=>[(106,.pv (.int .i64 (i:Int)))]) (fun _=>[]) (fun i=>i≤f.length∧R=au 7 (f.take i) (f.drop i)) (fun i=>f.length - i) (0) ?_;intro e0 σ0 n0 h0;simp(maxSteps:=9^7) (disch:=first|exact dI|fail) only[push_cast,seval] at h0;obtain⟨rfl,rfl,rfl⟩:=h0;refine⟨?_,?_,?_⟩
 ·simp(maxSteps:=9^7) (disch:=first|exact dI|fail) only[push_cast,seval]
 ·exact⟨by omega,by simpa using hR⟩
 rintro i ⟨hi,hr⟩
 by_cases hlt:i<f.length
 ·have hltI:(i:Int)<(f.length:Int):=by omega
  obtain⟨g,hg⟩:∃ g,f[i]? = some g:=⟨_,List.getElem?_eq_getElem hlt⟩
  have hf:=bT 7 m M s w e f hl i g hg
  simp only[Typ.pv_mk] at hf
  rw[aM hg] at hr
  generalize bw 7 (f.take i) g=z at hf hr
  by_cases hz:z=0
  ·subst hz
   rw[if_pos rfl] at hr
   simp(maxSteps:=9^7) (disch:=first|exact dI|fail) only[push_cast,seval]
   refine ab.pure hf rfl ?_
   simp(maxSteps:=9^7) (disch:=first|exact dI|fail) only[push_cast,seval]
   exact⟨i+1,bg (by simp(maxSteps:=9^7) (disch:=first|exact dI|fail) only[push_cast,seval]),⟨by omega,hr⟩,by omega⟩
  ·rw[if_neg hz] at hr
   subst hr
   simp(maxSteps:=9^7) (disch:=first|exact dI|fail) only[push_cast,seval]
   refine ab.pure hf rfl ?_
   simp(maxSteps:=9^7) (disch:=first|exact dI|fail) only[hz,push_cast,seval]
 ·obtain rfl:i=f.length:=by omega
  rw[List.drop_length,au] at hr
  subst hr
  simp(maxSteps:=9^7) (disch:=first|exact dI|fail) only[Int.lt_irrefl,push_cast,seval]
set_option maxHeartbeats 4000000 in
theorem CC (hw:∀ x∈w,x.length≤140737488351232)(hl:f.length≤1000000000):ak Tryz.prog aD 143 [(Typ.mk 8 m M s w e f).pv] (.int .i64 (bA (.mk 8 m M s w e f))):=by
 have hi:=ec 8 1 10
 rw[show inB 8 1 10=true from rfl] at hi
 have hk:=cg
 have hf:=yH 8 m M s w e f [108,105,115,116] 0 256
 simp only[Typ.pv_mk,lim] at hf
 have hx:bI true 11 8 (.pv (.agg d8)) (.pv (.int .i64 8))=some (.pv (.agg [.str [108,105,115,116],.int .i64 0,.int .i64 256,.bool true,.bool false,.bool false,.bool true,.bool false])):=rfl
 rw[show bA (.mk 8 m M s w e f)=(if am true false false true false (.mk 8 m M s w e f)=true then 3 else if ¬ az 8 m M s w=0 then az 8 m M s w else if ¬ aC 8 e.length f.length=0 then aC 8 e.length f.length else au 8 [] f) from rfl]
 generalize am true false false true false (.mk 8 m M s w e f)=b at hf ⊢
 refine ak.intro ct (by simp[ia]) ?_
 simp(maxSteps:=9^7) (disch:=first|exact dI|fail) only[ia,Typ.pv_mk,push_cast,seval]
 refine ab.pure hi rfl ?_
 simp(maxSteps:=9^7) (disch:=first|exact dI|fail) only[push_cast,seval]
 refine aF hk rfl ?_
 simp(maxSteps:=9^7) (disch:=first|exact dI|fail) only[hx,push_cast,seval]
 refine ab.pure hf rfl ?_
 cases b with
 | true=>simp(maxSteps:=9^7) (disch:=first|exact dI|fail) only[push_cast,seval]
 | false=>
 have hbf:¬ false=true:=by decide
 rw[if_neg hbf]
 by_cases hA:M<m
 ·rw[show az 8 m M s w=2 by simp[az,loK,hiK,hA]]
  rw[if_pos (by decide)]
  simp(maxSteps:=9^7) (disch:=first|exact dI|fail) only[hA,push_cast,seval]
 by_cases hB:m<0
 ·rw[show az 8 m M s w=2 by simp[az,loK,hiK,hB,hA]]
  rw[if_pos (by decide)]
  simp(maxSteps:=9^7) (disch:=first|exact dI|fail) only[hA,hB,push_cast,seval]
 by_cases hC:256<M
 ·rw[show az 8 m M s w=2 by simp[az,loK,hiK,hC,hA,hB]]
  rw[if_pos (by decide)]
  simp(maxSteps:=9^7) (disch:=first|exact dI|fail) only[hA,hB,hC,push_cast,seval]
 rw[if_neg (show ¬ ¬ az 8 m M s w=0 by simp[az,loK,hiK,hA,hB,hC])]
 by_cases he0:e.length=0
 ·have he0I:(e.length:Int)=0:=by omega
  rw[if_pos (by simp[aC,he0]),show aC 8 e.length f.length=4 by simp[aC,he0]]
  simp(maxSteps:=9^7) (disch:=first|exact dI|fail) only[hA,hB,hC,he0I,push_cast,seval]
 have he0I:¬ (e.length:Int)=0:=by omega
 by_cases he1:1<e.length
 ·have he1I:(1:Int)<(e.length:Int):=by omega
  rw[if_pos (by simp[aC,he0,he1]),show aC 8 e.length f.length=3 by simp[aC,he0,he1]]
  simp(maxSteps:=9^7) (disch:=first|exact dI|fail) only[hA,hB,hC,he0I,he1I,push_cast,seval]
 have he1I:¬ (1:Int)<(e.length:Int):=by omega
 by_cases h64:64<f.length
 ·have h64I:(64:Int)<(f.length:Int):=by omega
  rw[if_pos (by simp[aC,h64,he0,he1]),show aC 8 e.length f.length=9 by simp[aC,h64,he0,he1]]
  simp(maxSteps:=9^7) (disch:=first|exact dI|fail) only[hA,hB,hC,he0I,he1I,h64I,push_cast,seval]
 have h64I:¬ (64:Int)<(f.length:Int):=by omega
 rw[if_neg (by simp[aC,h64,he0,he1])]
 obtain⟨R,hR⟩:∃ R,R=au 8 [] f:=⟨_,rfl⟩
 rw[← hR]
 simp(maxSteps:=9^7) (disch:=first|exact dI|fail) only[hA,hB,hC,he0I,he1I,h64I,push_cast,seval]
 refine aB ([]) (fun i:Nat=>[(106,.pv (.int .i64 (i:Int)))]) (fun _=>[]) (fun i=>i≤f.length∧R=au 8 (f.take i) (f.drop i)) (fun i=>f.length - i) (0) ?_;intro e0 σ0 n0 h0;simp(maxSteps:=9^7) (disch:=first|exact dI|fail) only[push_cast,seval] at h0;obtain⟨rfl,rfl,rfl⟩:=h0;refine⟨?_,?_,?_⟩
 ·simp(maxSteps:=9^7) (disch:=first|exact dI|fail) only[push_cast,seval]
 ·exact⟨by omega,by simpa using hR⟩
 rintro i ⟨hi,hr⟩
 by_cases hlt:i<f.length
 ·have hltI:(i:Int)<(f.length:Int):=by omega
  obtain⟨g,hg⟩:∃ g,f[i]? = some g:=⟨_,List.getElem?_eq_getElem hlt⟩
  have hf:=bT 8 m M s w e f hl i g hg
  simp only[Typ.pv_mk] at hf
  rw[aM hg] at hr
  generalize bw 8 (f.take i) g=z at hf hr
  by_cases hz:z=0
  ·subst hz
   rw[if_pos rfl] at hr
   simp(maxSteps:=9^7) (disch:=first|exact dI|fail) only[push_cast,seval]
   refine ab.pure hf rfl ?_
   simp(maxSteps:=9^7) (disch:=first|exact dI|fail) only[push_cast,seval]
   exact⟨i+1,bg (by simp(maxSteps:=9^7) (disch:=first|exact dI|fail) only[push_cast,seval]),⟨by omega,hr⟩,by omega⟩
  ·rw[if_neg hz] at hr
   subst hr
   simp(maxSteps:=9^7) (disch:=first|exact dI|fail) only[push_cast,seval]
   refine ab.pure hf rfl ?_
   simp(maxSteps:=9^7) (disch:=first|exact dI|fail) only[hz,push_cast,seval]
 ·obtain rfl:i=f.length:=by omega
  rw[List.drop_length,au] at hr
  subst hr
  simp(maxSteps:=9^7) (disch:=first|exact dI|fail) only[Int.lt_irrefl,push_cast,seval]
set_option maxHeartbeats 4000000 in
theorem CB (hw:∀ x∈w,x.length≤140737488351232)(hl:f.length≤1000000000):ak Tryz.prog aD 143 [(Typ.mk 9 m M s w e f).pv] (.int .i64 (bA (.mk 9 m M s w e f))):=by
 have hi:=ec 9 1 10
 rw[show inB 9 1 10=true from rfl] at hi
 have hk:=cg
 have hf:=my 9 m M s w e f [114,101,99,111,114,100] 0 0
 simp only[Typ.pv_mk,lim] at hf
 have hx:bI true 11 8 (.pv (.agg d8)) (.pv (.int .i64 9))=some (.pv (.agg [.str [114,101,99,111,114,100],.int .i64 0,.int .i64 0,.bool false,.bool false,.bool false,.bool false,.bool true])):=rfl
 rw[show bA (.mk 9 m M s w e f)=(if am false false false false true (.mk 9 m M s w e f)=true then 3 else if ¬ az 9 m M s w=0 then az 9 m M s w else if ¬ aC 9 e.length f.length=0 then aC 9 e.length f.length else au 9 [] f) from rfl]
 generalize am false false false false true (.mk 9 m M s w e f)=b at hf ⊢
 refine ak.intro ct (by simp[ia]) ?_
 simp(maxSteps:=9^7) (disch:=first|exact dI|fail) only[ia,Typ.pv_mk,push_cast,seval]
 refine ab.pure hi rfl ?_
 simp(maxSteps:=9^7) (disch:=first|exact dI|fail) only[push_cast,seval]
 refine aF hk rfl ?_
 simp(maxSteps:=9^7) (disch:=first|exact dI|fail) only[hx,push_cast,seval]
 refine ab.pure hf rfl ?_
 cases b with
 | true=>simp(maxSteps:=9^7) (disch:=first|exact dI|fail) only[push_cast,seval]
 | false=>
 have hbf:¬ false=true:=by decide
 rw[if_neg hbf]
 rw[if_neg (show ¬ ¬ az 9 m M s w=0 by simp[az,loK,hiK])]
 by_cases h64:64<f.length
 ·have h64I:(64:Int)<(f.length:Int):=by omega
  rw[if_pos (by simp[aC,h64]),show aC 9 e.length f.length=9 by simp[aC,h64]]
  simp(maxSteps:=9^7) (disch:=first|exact dI|fail) only[h64I,push_cast,seval]
 have h64I:¬ (64:Int)<(f.length:Int):=by omega
 rw[if_neg (by simp[aC,h64])]
 obtain⟨R,hR⟩:∃ R,R=au 9 [] f:=⟨_,rfl⟩
 rw[← hR]
 simp(maxSteps:=9^7) (disch:=first|exact dI|fail) only[h64I,push_cast,seval]
 refine aB ([]) (fun i:Nat=>[(106,.pv (.int .i64 (i:Int)))]) (fun _=>[]) (fun i=>i≤f.length∧R=au 9 (f.take i) (f.drop i)) (fun i=>f.length - i) (0) ?_;intro e0 σ0 n0 h0;simp(maxSteps:=9^7) (disch:=first|exact dI|fail) only[push_cast,seval] at h0;obtain⟨rfl,rfl,rfl⟩:=h0;refine⟨?_,?_,?_⟩
 ·simp(maxSteps:=9^7) (disch:=first|exact dI|fail) only[push_cast,seval]
 ·exact⟨by omega,by simpa using hR⟩
 rintro i ⟨hi,hr⟩
 by_cases hlt:i<f.length
 ·have hltI:(i:Int)<(f.length:Int):=by omega
  obtain⟨g,hg⟩:∃ g,f[i]? = some g:=⟨_,List.getElem?_eq_getElem hlt⟩
  have hf:=bT 9 m M s w e f hl i g hg
  simp only[Typ.pv_mk] at hf
  rw[aM hg] at hr
  generalize bw 9 (f.take i) g=z at hf hr
  by_cases hz:z=0
  ·subst hz
   rw[if_pos rfl] at hr
   simp(maxSteps:=9^7) (disch:=first|exact dI|fail) only[push_cast,seval]
   refine ab.pure hf rfl ?_
   simp(maxSteps:=9^7) (disch:=first|exact dI|fail) only[push_cast,seval]
   exact⟨i+1,bg (by simp(maxSteps:=9^7) (disch:=first|exact dI|fail) only[push_cast,seval]),⟨by omega,hr⟩,by omega⟩
  ·rw[if_neg hz] at hr
   subst hr
   simp(maxSteps:=9^7) (disch:=first|exact dI|fail) only[push_cast,seval]
   refine ab.pure hf rfl ?_
   simp(maxSteps:=9^7) (disch:=first|exact dI|fail) only[hz,push_cast,seval]
 ·obtain rfl:i=f.length:=by omega
  rw[List.drop_length,au] at hr
  subst hr
  simp(maxSteps:=9^7) (disch:=first|exact dI|fail) only[Int.lt_irrefl,push_cast,seval]
set_option maxHeartbeats 4000000 in
theorem xe (hw:∀ x∈w,x.length≤140737488351232)(hl:f.length≤1000000000):ak Tryz.prog aD 143 [(Typ.mk 10 m M s w e f).pv] (.int .i64 (bA (.mk 10 m M s w e f))):=by
 have hi:=ec 10 1 10
 rw[show inB 10 1 10=true from rfl] at hi
 have hk:=cg
 have hf:=my 10 m M s w e f [118,97,114,105,97,110,116] 0 0
 simp only[Typ.pv_mk,lim] at hf
 have hx:bI true 11 8 (.pv (.agg d8)) (.pv (.int .i64 10))=some (.pv (.agg [.str [118,97,114,105,97,110,116],.int .i64 0,.int .i64 0,.bool false,.bool false,.bool false,.bool false,.bool true])):=rfl
 rw[show bA (.mk 10 m M s w e f)=(if am false false false false true (.mk 10 m M s w e f)=true then 3 else if ¬ az 10 m M s w=0 then az 10 m M s w else if ¬ aC 10 e.length f.length=0 then aC 10 e.length f.length else au 10 [] f) from rfl]
 generalize am false false false false true (.mk 10 m M s w e f)=b at hf ⊢
 refine ak.intro ct (by simp[ia]) ?_
 simp(maxSteps:=9^7) (disch:=first|exact dI|fail) only[ia,Typ.pv_mk,push_cast,seval]
 refine ab.pure hi rfl ?_
 simp(maxSteps:=9^7) (disch:=first|exact dI|fail) only[push_cast,seval]
 refine aF hk rfl ?_
 simp(maxSteps:=9^7) (disch:=first|exact dI|fail) only[hx,push_cast,seval]
 refine ab.pure hf rfl ?_
 cases b with
 | true=>simp(maxSteps:=9^7) (disch:=first|exact dI|fail) only[push_cast,seval]
 | false=>
 have hbf:¬ false=true:=by decide
 rw[if_neg hbf]
 rw[if_neg (show ¬ ¬ az 10 m M s w=0 by simp[az,loK,hiK])]
 by_cases hf0:f.length=0
 ·have hf0I:(f.length:Int)=0:=by omega
  rw[if_pos (by simp[aC,hf0]),show aC 10 e.length f.length=4 by simp[aC,hf0]]
  simp(maxSteps:=9^7) (disch:=first|exact dI|fail) only[hf0I,push_cast,seval]
 have hf0I:¬ (f.length:Int)=0:=by omega
 by_cases h64:64<f.length
 ·have h64I:(64:Int)<(f.length:Int):=by omega
  rw[if_pos (by simp[aC,h64,hf0]),show aC 10 e.length f.length=9 by simp[aC,h64,hf0]]
  simp(maxSteps:=9^7) (disch:=first|exact dI|fail) only[hf0I,h64I,push_cast,seval]
 have h64I:¬ (64:Int)<(f.length:Int):=by omega
 rw[if_neg (by simp[aC,h64,hf0])]
 obtain⟨R,hR⟩:∃ R,R=au 10 [] f:=⟨_,rfl⟩
 rw[← hR]
 simp(maxSteps:=9^7) (disch:=first|exact dI|fail) only[hf0I,h64I,push_cast,seval]
 refine aB ([]) (fun i:Nat=>[(106,.pv (.int .i64 (i:Int)))]) (fun _=>[]) (fun i=>i≤f.length∧R=au 10 (f.take i) (f.drop i)) (fun i=>f.length - i) (0) ?_;intro e0 σ0 n0 h0;simp(maxSteps:=9^7) (disch:=first|exact dI|fail) only[push_cast,seval] at h0;obtain⟨rfl,rfl,rfl⟩:=h0;refine⟨?_,?_,?_⟩
 ·simp(maxSteps:=9^7) (disch:=first|exact dI|fail) only[push_cast,seval]
 ·exact⟨by omega,by simpa using hR⟩
 rintro i ⟨hi,hr⟩
 by_cases hlt:i<f.length
 ·have hltI:(i:Int)<(f.length:Int):=by omega
  obtain⟨g,hg⟩:∃ g,f[i]? = some g:=⟨_,List.getElem?_eq_getElem hlt⟩
  have hf:=bT 10 m M s w e f hl i g hg
  simp only[Typ.pv_mk] at hf
  rw[aM hg] at hr
  generalize bw 10 (f.take i) g=z at hf hr
  by_cases hz:z=0
  ·subst hz
   rw[if_pos rfl] at hr
   simp(maxSteps:=9^7) (disch:=first|exact dI|fail) only[push_cast,seval]
   refine ab.pure hf rfl ?_
   simp(maxSteps:=9^7) (disch:=first|exact dI|fail) only[push_cast,seval]
   exact⟨i+1,bg (by simp(maxSteps:=9^7) (disch:=first|exact dI|fail) only[push_cast,seval]),⟨by omega,hr⟩,by omega⟩
  ·rw[if_neg hz] at hr
   subst hr
   simp(maxSteps:=9^7) (disch:=first|exact dI|fail) only[push_cast,seval]
   refine ab.pure hf rfl ?_
   simp(maxSteps:=9^7) (disch:=first|exact dI|fail) only[hz,push_cast,seval]
 ·obtain rfl:i=f.length:=by omega
  rw[List.drop_length,au] at hr
  subst hr
  simp(maxSteps:=9^7) (disch:=first|exact dI|fail) only[Int.lt_irrefl,push_cast,seval]
set_option maxHeartbeats 4000000 in
theorem Km (k:Int)(hw:∀ x∈w,x.length≤140737488351232)(hl:f.length≤1000000000):ak Tryz.prog aD 143 [(Typ.mk k m M s w e f).pv] (.int .i64 (bA (.mk k m M s w e f))):=by
 by_cases hk:inB k 1 10=false
 ·have hi:=ec k 1 10
  rw[hk] at hi
  rw[show bA (.mk k m M s w e f)=11 by simp[bA,hk]]
  refine ak.intro ct (by simp[ia]) ?_
  simp(maxSteps:=9^7) (disch:=first|exact dI|fail) only[ia,Typ.pv_mk,push_cast,seval]
  refine ab.pure hi rfl ?_
  simp(maxSteps:=9^7) (disch:=first|exact dI|fail) only[push_cast,seval]
 ·have hr:1≤k∧k≤10:=by simpa[inB] using hk
  have hc:k=1∨k=2∨k=3∨k=4∨k=5∨k=6∨k=7∨k=8∨k=9∨k=10:=by omega
  clear hk hr
  rcases hc with rfl | rfl | rfl | rfl | rfl | rfl | rfl | rfl | rfl | rfl
  ·exact CJ m M s w e f hw hl
  ·exact CI m M s w e f hw hl
  ·exact CH m M s w e f hw hl
  ·exact CG m M s w e f hw hl
  ·exact CF m M s w e f hw hl
  ·exact CE m M s w e f hw hl
  ·exact CD m M s w e f hw hl
  ·exact CC m M s w e f hw hl
  ·exact CB m M s w e f hw hl
  ·exact xe m M s w e f hw hl
end
end Go.Proofs.YtbaaokocnegdoaaGreatDoor

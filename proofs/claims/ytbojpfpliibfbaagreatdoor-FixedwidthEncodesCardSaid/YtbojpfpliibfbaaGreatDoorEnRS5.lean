/- A part of the proof. -/
import Derived.Test.YtbojpfpliibfbaaGreatDoorEnRS4
set_option maxHeartbeats 16000000
set_option maxRecDepth 100000
set_option linter.unusedVariables false
set_option linter.unusedSimpArgs false
-- many steps
namespace Go.Proofs.YtbojpfpliibfbaaGreatDoor
open Go Go.Ab
attribute [local irreducible] vc
def eS:List PV:=[.str [],.int .i64 0,.int .i64 0,.bool false,.bool false,.bool false,.bool false,.bool false,.str [98,111,111,108],.int .i64 0,.int .i64 0,.bool false,.bool false,.bool false,.bool false,.bool false,.str [105,110,116],.int .i64 (-999999999999999),.int .i64 999999999999999,.bool true,.bool false,.bool false,.bool false,.bool false,.str [100,101,99,105,109,97,108],.int .i64 (-999999999999999),.int .i64 999999999999999,.bool true,.bool true,.bool false,.bool false,.bool false,.str [116,101,120,116],.int .i64 0,.int .i64 1024,.bool true,.bool false,.bool true,.bool false,.bool false,.str [98,121,116,101,115],.int .i64 0,.int .i64 1024,.bool true,.bool false,.bool false,.bool false,.bool false,.str [100,97,116,101],.int .i64 (-719162),.int .i64 2932896,.bool true,.bool false,.bool false,.bool false,.bool false,.str [116,105,109,101],.int .i64 (-62135596800000),.int .i64 253402300799999,.bool true,.bool false,.bool false,.bool false,.bool false,.str [108,105,115,116],.int .i64 0,.int .i64 256,.bool true,.bool false,.bool false,.bool true,.bool false,.str [114,101,99,111,114,100],.int .i64 0,.int .i64 0,.bool false,.bool false,.bool false,.bool false,.bool true,.str [118,97,114,105,97,110,116],.int .i64 0,.int .i64 0,.bool false,.bool false,.bool false,.bool false,.bool true]
theorem cN:am Tryz.prog az 229 [] (.agg eS):=by
 refine am.intro Pp.2 (by simp[Pp]) ?_
 simp only[eS]
 simp(disch:=try exact dI) only[Pp,push_cast,seval]
def loK (k:Int):Int:=if k=2 then (-999999999999999) else if k=3 then (-999999999999999) else if k=6 then (-719162) else if k=7 then (-62135596800000) else 0
def hiK (k:Int):Int:=if k=2 then 999999999999999 else if k=3 then 999999999999999 else if k=4 then 1024 else if k=5 then 1024 else if k=6 then 2932896 else if k=7 then 253402300799999 else if k=8 then 256 else 0
def aY (k:Int)(t:Typ):Bool:=aw (decide (2<=k)&&decide (k<=8)) (decide (k=3)) (decide (k=4)) (decide (k=8)) (decide (9<=k)) t
def aD (k m M s:Int)(w:List (List UInt8)):Int:=if k=4/\0<w.length then bG m M w else if (2<=k/\k<=8)/\(M<m\/m<loK k\/hiK k<M) then 2 else if k=3/\inB s 0 12=false then 2 else 0
def aJ (k:Int)(e f:Nat):Int:=if k=8/\e=0 then 4 else if k=10/\f=0 then 4 else if k=8/\1<e then 3 else if 64<f then 9 else 0
def aC (k:Int):List TFd->List TFd->Int
 | _,[]=>0
 | b,g::r=>if bE k b g=0 then aC k (b++[g]) r else bE k b g
theorem aX {k:Int}{f:List TFd}{i:Nat}{g:TFd}(h:f[i]? = some g):aC k (f.take i) (f.drop i)=if bE k (f.take i) g=0 then aC k (f.take (i+1)) (f.drop (i+1)) else bE k (f.take i) g:=by
 have hi:=(List.getElem?_eq_some_iff.1 h).1
 have he:f[i]=g:=(List.getElem?_eq_some_iff.1 h).2
 rw[List.drop_eq_getElem_cons hi,he,aC,aK h]
def bm:Typ->Int
 | .mk k m M s w e f=>if inB k 1 10=false then 11 else if aY k (.mk k m M s w e f)=true then 3 else if ¬ aD k m M s w=0 then aD k m M s w else if ¬ aJ k e.length f.length=0 then aJ k e.length f.length else aC k [] f
section
variable (m M s:Int)(w:List (List UInt8))(e:List Typ)(f:List TFd)
theorem D0 (hw:∀ x∈w,x.length<=140737488351232)(hl:f.length<=9000000000000):am Tryz.prog az 178 [(Typ.mk 1 m M s w e f).pv] (.int .i64 (bm (.mk 1 m M s w e f))):=by
 have hi:=e7 1 1 10
 rw[show inB 1 1 10=true from rfl] at hi
 have hk:=cN
 have hf:=Ap 1 m M s w e f [98,111,111,108] 0 0
 simp only[Typ.pv_mk,lim] at hf
 have hx:bt true 11 8 (.pv (.agg eS)) (.pv (.int .i64 1))=some (.pv (.agg [.str [98,111,111,108],.int .i64 0,.int .i64 0,.bool false,.bool false,.bool false,.bool false,.bool false])):=rfl
 rw[show bm (.mk 1 m M s w e f)=(if aw false false false false false (.mk 1 m M s w e f)=true then 3 else if ¬ aD 1 m M s w=0 then aD 1 m M s w else if ¬ aJ 1 e.length f.length=0 then aJ 1 e.length f.length else aC 1 [] f) from rfl]
 generalize aw false false false false false (.mk 1 m M s w e f)=b at hf ⊢
 refine am.intro fT.2 (by simp[fT]) ?_
 simp(disch:=try exact dI) only[fT,Typ.pv_mk,push_cast,seval]
 refine ab.pure hi rfl ?_
 refine zgZ ?_
 refine ap hk rfl ?_
 simp(disch:=try exact dI) only[hx,push_cast,seval]
 refine ab.pure hf rfl ?_
 cases b with
 | true=>simp(disch:=try exact dI) only[push_cast,seval]
 | false=>
 have hbf:¬ false=true:=by decide
 rw[if_neg hbf]
 rw[if_neg (show ¬ ¬ aD 1 m M s w=0 by simp[aD,loK,hiK])]
 by_cases h64:64<f.length
 ·have h64I:(64:Int)<(f.length:Int):=by omega
  rw[if_pos (by simp[aJ,h64]),show aJ 1 e.length f.length=9 by simp[aJ,h64]]
  simp(disch:=try exact dI) only[h64I,push_cast,seval]
 have h64I:¬ (64:Int)<(f.length:Int):=by omega
 rw[if_neg (by simp[aJ,h64])]
 obtain⟨R,hR⟩:∃ R,R=aC 1 [] f:=⟨_,rfl⟩
 rw[<- hR]
 simp(disch:=try exact dI) only[h64I,push_cast,seval]
 refine au ([]) (fun i:Nat=>[(106,.pv (.int .i64 (i:Int)))]) (fun _=>[]) (fun i=>i<=f.length/\R=aC 1 (f.take i) (f.drop i)) (fun i=>f.length - i) (0) ?_;intro e0 σ0 n0 h0;simp(disch:=try exact dI) only[push_cast,seval] at h0;obtain⟨rfl,rfl,rfl⟩:=h0;refine⟨?_,?_,?_⟩
 ·exact qsZ
 ·exact⟨by omega,by simpa using hR⟩
 rintro i ⟨hi,hr⟩
 by_cases hlt:i<f.length
 ·have hltI:(i:Int)<(f.length:Int):=by omega
  obtain⟨g,hg⟩:∃ g,f[i]? = some g:=⟨_,List.getElem?_eq_getElem hlt⟩
  have hf:=cu 1 m M s w e f hl i g hg
  simp only[Typ.pv_mk] at hf
  rw[aX hg] at hr
  generalize bE 1 (f.take i) g=z at hf hr
  by_cases hz:z=0
  ·subst hz
   rw[if_pos rfl] at hr
   refine zgZ ?_
   refine ab.pure hf rfl ?_
   refine zgZ ?_
   exact⟨i+1,aM qsZ,⟨by omega,hr⟩,by omega⟩
  ·rw[if_neg hz] at hr
   subst hr
   refine zgZ ?_
   refine ab.pure hf rfl ?_
   simp(disch:=try exact dI) only[hz,push_cast,seval]
 ·obtain rfl:i=f.length:=by omega
  rw[List.drop_length,aC] at hr
  subst hr
  simp(disch:=try exact dI) only[Int.lt_irrefl,push_cast,seval]
theorem DZ (hw:∀ x∈w,x.length<=140737488351232)(hl:f.length<=9000000000000):am Tryz.prog az 178 [(Typ.mk 2 m M s w e f).pv] (.int .i64 (bm (.mk 2 m M s w e f))):=by
 have hi:=e7 2 1 10
 rw[show inB 2 1 10=true from rfl] at hi
 have hk:=cN
 have hf:=gP 2 m M s w e f [105,110,116] (-999999999999999) 999999999999999
 simp only[Typ.pv_mk,lim] at hf
 have hx:bt true 11 8 (.pv (.agg eS)) (.pv (.int .i64 2))=some (.pv (.agg [.str [105,110,116],.int .i64 (-999999999999999),.int .i64 999999999999999,.bool true,.bool false,.bool false,.bool false,.bool false])):=rfl
 rw[show bm (.mk 2 m M s w e f)=(if aw true false false false false (.mk 2 m M s w e f)=true then 3 else if ¬ aD 2 m M s w=0 then aD 2 m M s w else if ¬ aJ 2 e.length f.length=0 then aJ 2 e.length f.length else aC 2 [] f) from rfl]
 generalize aw true false false false false (.mk 2 m M s w e f)=b at hf ⊢
 refine am.intro fT.2 (by simp[fT]) ?_
 simp(disch:=try exact dI) only[fT,Typ.pv_mk,push_cast,seval]
 refine ab.pure hi rfl ?_
 refine zgZ ?_
 refine ap hk rfl ?_
 simp(disch:=try exact dI) only[hx,push_cast,seval]
 refine ab.pure hf rfl ?_
 cases b with
 | true=>simp(disch:=try exact dI) only[push_cast,seval]
 | false=>
 have hbf:¬ false=true:=by decide
 rw[if_neg hbf]
 by_cases hA:M<m
 ·rw[show aD 2 m M s w=2 by simp[aD,loK,hiK,hA]]
  rw[if_pos (by decide)]
  simp(disch:=try exact dI) only[hA,push_cast,seval]
 by_cases hB:m<(-999999999999999)
 ·rw[show aD 2 m M s w=2 by simp[aD,loK,hiK,hB,hA]]
  rw[if_pos (by decide)]
  simp(disch:=try exact dI) only[hA,hB,push_cast,seval]
 by_cases hC:999999999999999<M
 ·rw[show aD 2 m M s w=2 by simp[aD,loK,hiK,hC,hA,hB]]
  rw[if_pos (by decide)]
  simp(disch:=try exact dI) only[hA,hB,hC,push_cast,seval]
 rw[if_neg (show ¬ ¬ aD 2 m M s w=0 by simp[aD,loK,hiK,hA,hB,hC])]
 by_cases h64:64<f.length
 ·have h64I:(64:Int)<(f.length:Int):=by omega
  rw[if_pos (by simp[aJ,h64]),show aJ 2 e.length f.length=9 by simp[aJ,h64]]
  simp(disch:=try exact dI) only[hA,hB,hC,h64I,push_cast,seval]
 have h64I:¬ (64:Int)<(f.length:Int):=by omega
 rw[if_neg (by simp[aJ,h64])]
 obtain⟨R,hR⟩:∃ R,R=aC 2 [] f:=⟨_,rfl⟩
 rw[<- hR]
 simp(disch:=try exact dI) only[hA,hB,hC,h64I,push_cast,seval]
 refine au ([]) (fun i:Nat=>[(106,.pv (.int .i64 (i:Int)))]) (fun _=>[]) (fun i=>i<=f.length/\R=aC 2 (f.take i) (f.drop i)) (fun i=>f.length - i) (0) ?_;intro e0 σ0 n0 h0;simp(disch:=try exact dI) only[push_cast,seval] at h0;obtain⟨rfl,rfl,rfl⟩:=h0;refine⟨?_,?_,?_⟩
 ·exact qsZ
 ·exact⟨by omega,by simpa using hR⟩
 rintro i ⟨hi,hr⟩
 by_cases hlt:i<f.length
 ·have hltI:(i:Int)<(f.length:Int):=by omega
  obtain⟨g,hg⟩:∃ g,f[i]? = some g:=⟨_,List.getElem?_eq_getElem hlt⟩
  have hf:=cu 2 m M s w e f hl i g hg
  simp only[Typ.pv_mk] at hf
  rw[aX hg] at hr
  generalize bE 2 (f.take i) g=z at hf hr
  by_cases hz:z=0
  ·subst hz
   rw[if_pos rfl] at hr
   refine zgZ ?_
   refine ab.pure hf rfl ?_
   refine zgZ ?_
   exact⟨i+1,aM qsZ,⟨by omega,hr⟩,by omega⟩
  ·rw[if_neg hz] at hr
   subst hr
   refine zgZ ?_
   refine ab.pure hf rfl ?_
   simp(disch:=try exact dI) only[hz,push_cast,seval]
 ·obtain rfl:i=f.length:=by omega
  rw[List.drop_length,aC] at hr
  subst hr
  simp(disch:=try exact dI) only[Int.lt_irrefl,push_cast,seval]
theorem DY (hw:∀ x∈w,x.length<=140737488351232)(hl:f.length<=9000000000000):am Tryz.prog az 178 [(Typ.mk 3 m M s w e f).pv] (.int .i64 (bm (.mk 3 m M s w e f))):=by
 have hi:=e7 3 1 10
 rw[show inB 3 1 10=true from rfl] at hi
 have hk:=cN
 have hf:=Ar 3 m M s w e f [100,101,99,105,109,97,108] (-999999999999999) 999999999999999
 simp only[Typ.pv_mk,lim] at hf
 have hx:bt true 11 8 (.pv (.agg eS)) (.pv (.int .i64 3))=some (.pv (.agg [.str [100,101,99,105,109,97,108],.int .i64 (-999999999999999),.int .i64 999999999999999,.bool true,.bool true,.bool false,.bool false,.bool false])):=rfl
 rw[show bm (.mk 3 m M s w e f)=(if aw true true false false false (.mk 3 m M s w e f)=true then 3 else if ¬ aD 3 m M s w=0 then aD 3 m M s w else if ¬ aJ 3 e.length f.length=0 then aJ 3 e.length f.length else aC 3 [] f) from rfl]
 generalize aw true true false false false (.mk 3 m M s w e f)=b at hf ⊢
 refine am.intro fT.2 (by simp[fT]) ?_
 simp(disch:=try exact dI) only[fT,Typ.pv_mk,push_cast,seval]
 refine ab.pure hi rfl ?_
 refine zgZ ?_
 refine ap hk rfl ?_
 simp(disch:=try exact dI) only[hx,push_cast,seval]
 refine ab.pure hf rfl ?_
 cases b with
 | true=>simp(disch:=try exact dI) only[push_cast,seval]
 | false=>
 have hbf:¬ false=true:=by decide
 rw[if_neg hbf]
 by_cases hA:M<m
 ·rw[show aD 3 m M s w=2 by simp[aD,loK,hiK,hA]]
  rw[if_pos (by decide)]
  simp(disch:=try exact dI) only[hA,push_cast,seval]
 by_cases hB:m<(-999999999999999)
 ·rw[show aD 3 m M s w=2 by simp[aD,loK,hiK,hB,hA]]
  rw[if_pos (by decide)]
  simp(disch:=try exact dI) only[hA,hB,push_cast,seval]
 by_cases hC:999999999999999<M
 ·rw[show aD 3 m M s w=2 by simp[aD,loK,hiK,hC,hA,hB]]
  rw[if_pos (by decide)]
  simp(disch:=try exact dI) only[hA,hB,hC,push_cast,seval]
 have hs:=e7 s 0 12
 have hbd:aD 3 m M s w=if inB s 0 12=false then 2 else 0:=by simp[aD,loK,hiK,hA,hB,hC]
 rw[hbd]
 clear hbd
 generalize inB s 0 12=q at hs ⊢
 simp(disch:=try exact dI) only[hA,hB,hC,push_cast,seval]
 refine ab.pure hs rfl ?_
 cases q with
 | false=>rw[if_pos rfl,if_pos (by decide)];simp(disch:=try exact dI) only[push_cast,seval]
 | true=>
 rw[if_neg (show ¬ true=false by decide),if_neg (by decide)]
 by_cases h64:64<f.length
 ·have h64I:(64:Int)<(f.length:Int):=by omega
  rw[if_pos (by simp[aJ,h64]),show aJ 3 e.length f.length=9 by simp[aJ,h64]]
  simp(disch:=try exact dI) only[h64I,push_cast,seval]
 have h64I:¬ (64:Int)<(f.length:Int):=by omega
 rw[if_neg (by simp[aJ,h64])]
 obtain⟨R,hR⟩:∃ R,R=aC 3 [] f:=⟨_,rfl⟩
 rw[<- hR]
 simp(disch:=try exact dI) only[h64I,push_cast,seval]
 refine au ([]) (fun i:Nat=>[(106,.pv (.int .i64 (i:Int)))]) (fun _=>[]) (fun i=>i<=f.length/\R=aC 3 (f.take i) (f.drop i)) (fun i=>f.length - i) (0) ?_;intro e0 σ0 n0 h0;simp(disch:=try exact dI) only[push_cast,seval] at h0;obtain⟨rfl,rfl,rfl⟩:=h0;refine⟨?_,?_,?_⟩
 ·exact qsZ
 ·exact⟨by omega,by simpa using hR⟩
 rintro i ⟨hi,hr⟩
 by_cases hlt:i<f.length
 ·have hltI:(i:Int)<(f.length:Int):=by omega
  obtain⟨g,hg⟩:∃ g,f[i]? = some g:=⟨_,List.getElem?_eq_getElem hlt⟩
  have hf:=cu 3 m M s w e f hl i g hg
  simp only[Typ.pv_mk] at hf
  rw[aX hg] at hr
  generalize bE 3 (f.take i) g=z at hf hr
  by_cases hz:z=0
  ·subst hz
   rw[if_pos rfl] at hr
   refine zgZ ?_
   refine ab.pure hf rfl ?_
   refine zgZ ?_
   exact⟨i+1,aM qsZ,⟨by omega,hr⟩,by omega⟩
  ·rw[if_neg hz] at hr
   subst hr
   refine zgZ ?_
   refine ab.pure hf rfl ?_
   simp(disch:=try exact dI) only[hz,push_cast,seval]
 ·obtain rfl:i=f.length:=by omega
  rw[List.drop_length,aC] at hr
  subst hr
  simp(disch:=try exact dI) only[Int.lt_irrefl,push_cast,seval]
theorem DX (hw:∀ x∈w,x.length<=140737488351232)(hl:f.length<=9000000000000):am Tryz.prog az 178 [(Typ.mk 4 m M s w e f).pv] (.int .i64 (bm (.mk 4 m M s w e f))):=by
 have hi:=e7 4 1 10
 rw[show inB 4 1 10=true from rfl] at hi
 have hk:=cN
 have hf:=Ao 4 m M s w e f [116,101,120,116] 0 1024
 simp only[Typ.pv_mk,lim] at hf
 have hx:bt true 11 8 (.pv (.agg eS)) (.pv (.int .i64 4))=some (.pv (.agg [.str [116,101,120,116],.int .i64 0,.int .i64 1024,.bool true,.bool false,.bool true,.bool false,.bool false])):=rfl
 rw[show bm (.mk 4 m M s w e f)=(if aw true false true false false (.mk 4 m M s w e f)=true then 3 else if ¬ aD 4 m M s w=0 then aD 4 m M s w else if ¬ aJ 4 e.length f.length=0 then aJ 4 e.length f.length else aC 4 [] f) from rfl]
 generalize aw true false true false false (.mk 4 m M s w e f)=b at hf ⊢
 refine am.intro fT.2 (by simp[fT]) ?_
 simp(disch:=try exact dI) only[fT,Typ.pv_mk,push_cast,seval]
 refine ab.pure hi rfl ?_
 refine zgZ ?_
 refine ap hk rfl ?_
 simp(disch:=try exact dI) only[hx,push_cast,seval]
 refine ab.pure hf rfl ?_
 cases b with
 | true=>simp(disch:=try exact dI) only[push_cast,seval]
 | false=>
 have hbf:¬ false=true:=by decide
 rw[if_neg hbf]
 by_cases hw0:0<w.length
 ·have hw0I:(0:Int)<(w.length:Int):=by omega
  have hws:=Cd 4 m M s w e f hw
  simp only[Typ.pv_mk] at hws
  rw[show aD 4 m M s w=bG m M w by simp[aD,hw0]]
  generalize bG m M w=z at hws ⊢
  refine zgZ ?_
  refine ab.pure hws rfl ?_
  by_cases hz:z=0
  ·subst hz
   rw[if_neg (by decide)]
   by_cases h64:64<f.length
   ·have h64I:(64:Int)<(f.length:Int):=by omega
    rw[if_pos (by simp[aJ,h64]),show aJ 4 e.length f.length=9 by simp[aJ,h64]]
    simp(disch:=try exact dI) only[h64I,push_cast,seval]
   have h64I:¬ (64:Int)<(f.length:Int):=by omega
   rw[if_neg (by simp[aJ,h64])]
   obtain⟨R,hR⟩:∃ R,R=aC 4 [] f:=⟨_,rfl⟩
   rw[<- hR]
   simp(disch:=try exact dI) only[h64I,push_cast,seval]
   refine au ([]) (fun i:Nat=>[(106,.pv (.int .i64 (i:Int)))]) (fun _=>[]) (fun i=>i<=f.length/\R=aC 4 (f.take i) (f.drop i)) (fun i=>f.length - i) (0) ?_;intro e0 σ0 n0 h0;simp(disch:=try exact dI) only[push_cast,seval] at h0;obtain⟨rfl,rfl,rfl⟩:=h0;refine⟨?_,?_,?_⟩
   ·exact qsZ
   ·exact⟨by omega,by simpa using hR⟩
   rintro i ⟨hi,hr⟩
   by_cases hlt:i<f.length
   ·have hltI:(i:Int)<(f.length:Int):=by omega
    obtain⟨g,hg⟩:∃ g,f[i]? = some g:=⟨_,List.getElem?_eq_getElem hlt⟩
    have hf:=cu 4 m M s w e f hl i g hg
    simp only[Typ.pv_mk] at hf
    rw[aX hg] at hr
    generalize bE 4 (f.take i) g=z at hf hr
    by_cases hz:z=0
    ·subst hz
     rw[if_pos rfl] at hr
     refine zgZ ?_
     refine ab.pure hf rfl ?_
     refine zgZ ?_
     exact⟨i+1,aM qsZ,⟨by omega,hr⟩,by omega⟩
    ·rw[if_neg hz] at hr
     subst hr
     refine zgZ ?_
     refine ab.pure hf rfl ?_
     simp(disch:=try exact dI) only[hz,push_cast,seval]
   ·obtain rfl:i=f.length:=by omega
    rw[List.drop_length,aC] at hr
    subst hr
    simp(disch:=try exact dI) only[Int.lt_irrefl,push_cast,seval]
  ·rw[if_pos hz]
   simp(disch:=try exact dI) only[hz,push_cast,seval]
 have hw0I:¬ (0:Int)<(w.length:Int):=by omega
 by_cases hA:M<m
 ·rw[show aD 4 m M s w=2 by simp[aD,loK,hiK,hA,hw0]]
  rw[if_pos (by decide)]
  simp(disch:=try exact dI) only[hw0I,hA,push_cast,seval]
 by_cases hB:m<0
 ·rw[show aD 4 m M s w=2 by simp[aD,loK,hiK,hB,hw0,hA]]
  rw[if_pos (by decide)]
  simp(disch:=try exact dI) only[hw0I,hA,hB,push_cast,seval]
 by_cases hC:1024<M
 ·rw[show aD 4 m M s w=2 by simp[aD,loK,hiK,hC,hw0,hA,hB]]
  rw[if_pos (by decide)]
  simp(disch:=try exact dI) only[hw0I,hA,hB,hC,push_cast,seval]
 rw[if_neg (show ¬ ¬ aD 4 m M s w=0 by simp[aD,loK,hiK,hw0,hA,hB,hC])]
 by_cases h64:64<f.length
 ·have h64I:(64:Int)<(f.length:Int):=by omega
  rw[if_pos (by simp[aJ,h64]),show aJ 4 e.length f.length=9 by simp[aJ,h64]]
  simp(disch:=try exact dI) only[hw0I,hA,hB,hC,h64I,push_cast,seval]
 have h64I:¬ (64:Int)<(f.length:Int):=by omega
 rw[if_neg (by simp[aJ,h64])]
 obtain⟨R,hR⟩:∃ R,R=aC 4 [] f:=⟨_,rfl⟩
 rw[<- hR]
 simp(disch:=try exact dI) only[hw0I,hA,hB,hC,h64I,push_cast,seval]
 refine au ([]) (fun i:Nat=>[(106,.pv (.int .i64 (i:Int)))]) (fun _=>[]) (fun i=>i<=f.length/\R=aC 4 (f.take i) (f.drop i)) (fun i=>f.length - i) (0) ?_;intro e0 σ0 n0 h0;simp(disch:=try exact dI) only[push_cast,seval] at h0;obtain⟨rfl,rfl,rfl⟩:=h0;refine⟨?_,?_,?_⟩
 ·exact qsZ
 ·exact⟨by omega,by simpa using hR⟩
 rintro i ⟨hi,hr⟩
 by_cases hlt:i<f.length
 ·have hltI:(i:Int)<(f.length:Int):=by omega
  obtain⟨g,hg⟩:∃ g,f[i]? = some g:=⟨_,List.getElem?_eq_getElem hlt⟩
  have hf:=cu 4 m M s w e f hl i g hg
  simp only[Typ.pv_mk] at hf
  rw[aX hg] at hr
  generalize bE 4 (f.take i) g=z at hf hr
  by_cases hz:z=0
  ·subst hz
   rw[if_pos rfl] at hr
   refine zgZ ?_
   refine ab.pure hf rfl ?_
   refine zgZ ?_
   exact⟨i+1,aM qsZ,⟨by omega,hr⟩,by omega⟩
  ·rw[if_neg hz] at hr
   subst hr
   refine zgZ ?_
   refine ab.pure hf rfl ?_
   simp(disch:=try exact dI) only[hz,push_cast,seval]
 ·obtain rfl:i=f.length:=by omega
  rw[List.drop_length,aC] at hr
  subst hr
  simp(disch:=try exact dI) only[Int.lt_irrefl,push_cast,seval]
theorem DW (hw:∀ x∈w,x.length<=140737488351232)(hl:f.length<=9000000000000):am Tryz.prog az 178 [(Typ.mk 5 m M s w e f).pv] (.int .i64 (bm (.mk 5 m M s w e f))):=by
 have hi:=e7 5 1 10
 rw[show inB 5 1 10=true from rfl] at hi
 have hk:=cN
 have hf:=gP 5 m M s w e f [98,121,116,101,115] 0 1024
 simp only[Typ.pv_mk,lim] at hf
 have hx:bt true 11 8 (.pv (.agg eS)) (.pv (.int .i64 5))=some (.pv (.agg [.str [98,121,116,101,115],.int .i64 0,.int .i64 1024,.bool true,.bool false,.bool false,.bool false,.bool false])):=rfl
 rw[show bm (.mk 5 m M s w e f)=(if aw true false false false false (.mk 5 m M s w e f)=true then 3 else if ¬ aD 5 m M s w=0 then aD 5 m M s w else if ¬ aJ 5 e.length f.length=0 then aJ 5 e.length f.length else aC 5 [] f) from rfl]
 generalize aw true false false false false (.mk 5 m M s w e f)=b at hf ⊢
 refine am.intro fT.2 (by simp[fT]) ?_
 simp(disch:=try exact dI) only[fT,Typ.pv_mk,push_cast,seval]
 refine ab.pure hi rfl ?_
 refine zgZ ?_
 refine ap hk rfl ?_
 simp(disch:=try exact dI) only[hx,push_cast,seval]
 refine ab.pure hf rfl ?_
 cases b with
 | true=>simp(disch:=try exact dI) only[push_cast,seval]
 | false=>
 have hbf:¬ false=true:=by decide
 rw[if_neg hbf]
 by_cases hA:M<m
 ·rw[show aD 5 m M s w=2 by simp[aD,loK,hiK,hA]]
  rw[if_pos (by decide)]
  simp(disch:=try exact dI) only[hA,push_cast,seval]
 by_cases hB:m<0
 ·rw[show aD 5 m M s w=2 by simp[aD,loK,hiK,hB,hA]]
  rw[if_pos (by decide)]
  simp(disch:=try exact dI) only[hA,hB,push_cast,seval]
 by_cases hC:1024<M
 ·rw[show aD 5 m M s w=2 by simp[aD,loK,hiK,hC,hA,hB]]
  rw[if_pos (by decide)]
  simp(disch:=try exact dI) only[hA,hB,hC,push_cast,seval]
 rw[if_neg (show ¬ ¬ aD 5 m M s w=0 by simp[aD,loK,hiK,hA,hB,hC])]
 by_cases h64:64<f.length
 ·have h64I:(64:Int)<(f.length:Int):=by omega
  rw[if_pos (by simp[aJ,h64]),show aJ 5 e.length f.length=9 by simp[aJ,h64]]
  simp(disch:=try exact dI) only[hA,hB,hC,h64I,push_cast,seval]
 have h64I:¬ (64:Int)<(f.length:Int):=by omega
 rw[if_neg (by simp[aJ,h64])]
 obtain⟨R,hR⟩:∃ R,R=aC 5 [] f:=⟨_,rfl⟩
 rw[<- hR]
 simp(disch:=try exact dI) only[hA,hB,hC,h64I,push_cast,seval]
 refine au ([]) (fun i:Nat=>[(106,.pv (.int .i64 (i:Int)))]) (fun _=>[]) (fun i=>i<=f.length/\R=aC 5 (f.take i) (f.drop i)) (fun i=>f.length - i) (0) ?_;intro e0 σ0 n0 h0;simp(disch:=try exact dI) only[push_cast,seval] at h0;obtain⟨rfl,rfl,rfl⟩:=h0;refine⟨?_,?_,?_⟩
 ·exact qsZ
 ·exact⟨by omega,by simpa using hR⟩
 rintro i ⟨hi,hr⟩
 by_cases hlt:i<f.length
 ·have hltI:(i:Int)<(f.length:Int):=by omega
  obtain⟨g,hg⟩:∃ g,f[i]? = some g:=⟨_,List.getElem?_eq_getElem hlt⟩
  have hf:=cu 5 m M s w e f hl i g hg
  simp only[Typ.pv_mk] at hf
  rw[aX hg] at hr
  generalize bE 5 (f.take i) g=z at hf hr
  by_cases hz:z=0
  ·subst hz
   rw[if_pos rfl] at hr
   refine zgZ ?_
   refine ab.pure hf rfl ?_
   refine zgZ ?_
   exact⟨i+1,aM qsZ,⟨by omega,hr⟩,by omega⟩
  ·rw[if_neg hz] at hr
   subst hr
   refine zgZ ?_
   refine ab.pure hf rfl ?_
   simp(disch:=try exact dI) only[hz,push_cast,seval]
 ·obtain rfl:i=f.length:=by omega
  rw[List.drop_length,aC] at hr
  subst hr
  simp(disch:=try exact dI) only[Int.lt_irrefl,push_cast,seval]
theorem DV (hw:∀ x∈w,x.length<=140737488351232)(hl:f.length<=9000000000000):am Tryz.prog az 178 [(Typ.mk 6 m M s w e f).pv] (.int .i64 (bm (.mk 6 m M s w e f))):=by
 have hi:=e7 6 1 10
 rw[show inB 6 1 10=true from rfl] at hi
 have hk:=cN
 have hf:=gP 6 m M s w e f [100,97,116,101] (-719162) 2932896
 simp only[Typ.pv_mk,lim] at hf
 have hx:bt true 11 8 (.pv (.agg eS)) (.pv (.int .i64 6))=some (.pv (.agg [.str [100,97,116,101],.int .i64 (-719162),.int .i64 2932896,.bool true,.bool false,.bool false,.bool false,.bool false])):=rfl
 rw[show bm (.mk 6 m M s w e f)=(if aw true false false false false (.mk 6 m M s w e f)=true then 3 else if ¬ aD 6 m M s w=0 then aD 6 m M s w else if ¬ aJ 6 e.length f.length=0 then aJ 6 e.length f.length else aC 6 [] f) from rfl]
 generalize aw true false false false false (.mk 6 m M s w e f)=b at hf ⊢
 refine am.intro fT.2 (by simp[fT]) ?_
 simp(disch:=try exact dI) only[fT,Typ.pv_mk,push_cast,seval]
 refine ab.pure hi rfl ?_
 refine zgZ ?_
 refine ap hk rfl ?_
 simp(disch:=try exact dI) only[hx,push_cast,seval]
 refine ab.pure hf rfl ?_
 cases b with
 | true=>simp(disch:=try exact dI) only[push_cast,seval]
 | false=>
 have hbf:¬ false=true:=by decide
 rw[if_neg hbf]
 by_cases hA:M<m
 ·rw[show aD 6 m M s w=2 by simp[aD,loK,hiK,hA]]
  rw[if_pos (by decide)]
  simp(disch:=try exact dI) only[hA,push_cast,seval]
 by_cases hB:m<(-719162)
 ·rw[show aD 6 m M s w=2 by simp[aD,loK,hiK,hB,hA]]
  rw[if_pos (by decide)]
  simp(disch:=try exact dI) only[hA,hB,push_cast,seval]
 by_cases hC:2932896<M
 ·rw[show aD 6 m M s w=2 by simp[aD,loK,hiK,hC,hA,hB]]
  rw[if_pos (by decide)]
  simp(disch:=try exact dI) only[hA,hB,hC,push_cast,seval]
 rw[if_neg (show ¬ ¬ aD 6 m M s w=0 by simp[aD,loK,hiK,hA,hB,hC])]
 by_cases h64:64<f.length
 ·have h64I:(64:Int)<(f.length:Int):=by omega
  rw[if_pos (by simp[aJ,h64]),show aJ 6 e.length f.length=9 by simp[aJ,h64]]
  simp(disch:=try exact dI) only[hA,hB,hC,h64I,push_cast,seval]
 have h64I:¬ (64:Int)<(f.length:Int):=by omega
 rw[if_neg (by simp[aJ,h64])]
 obtain⟨R,hR⟩:∃ R,R=aC 6 [] f:=⟨_,rfl⟩
 rw[<- hR]
 simp(disch:=try exact dI) only[hA,hB,hC,h64I,push_cast,seval]
 refine au ([]) (fun i:Nat=>[(106,.pv (.int .i64 (i:Int)))]) (fun _=>[]) (fun i=>i<=f.length/\R=aC 6 (f.take i) (f.drop i)) (fun i=>f.length - i) (0) ?_;intro e0 σ0 n0 h0;simp(disch:=try exact dI) only[push_cast,seval] at h0;obtain⟨rfl,rfl,rfl⟩:=h0;refine⟨?_,?_,?_⟩
 ·exact qsZ
 ·exact⟨by omega,by simpa using hR⟩
 rintro i ⟨hi,hr⟩
 by_cases hlt:i<f.length
 ·have hltI:(i:Int)<(f.length:Int):=by omega
  obtain⟨g,hg⟩:∃ g,f[i]? = some g:=⟨_,List.getElem?_eq_getElem hlt⟩
  have hf:=cu 6 m M s w e f hl i g hg
  simp only[Typ.pv_mk] at hf
  rw[aX hg] at hr
  generalize bE 6 (f.take i) g=z at hf hr
  by_cases hz:z=0
  ·subst hz
   rw[if_pos rfl] at hr
   refine zgZ ?_
   refine ab.pure hf rfl ?_
   refine zgZ ?_
   exact⟨i+1,aM qsZ,⟨by omega,hr⟩,by omega⟩
  ·rw[if_neg hz] at hr
   subst hr
   refine zgZ ?_
   refine ab.pure hf rfl ?_
   simp(disch:=try exact dI) only[hz,push_cast,seval]
 ·obtain rfl:i=f.length:=by omega
  rw[List.drop_length,aC] at hr
  subst hr
  simp(disch:=try exact dI) only[Int.lt_irrefl,push_cast,seval]
theorem DU (hw:∀ x∈w,x.length<=140737488351232)(hl:f.length<=9000000000000):am Tryz.prog az 178 [(Typ.mk 7 m M s w e f).pv] (.int .i64 (bm (.mk 7 m M s w e f))):=by
 have hi:=e7 7 1 10
 rw[show inB 7 1 10=true from rfl] at hi
 have hk:=cN
 have hf:=gP 7 m M s w e f [116,105,109,101] (-62135596800000) 253402300799999
 simp only[Typ.pv_mk,lim] at hf
 have hx:bt true 11 8 (.pv (.agg eS)) (.pv (.int .i64 7))=some (.pv (.agg [.str [116,105,109,101],.int .i64 (-62135596800000),.int .i64 253402300799999,.bool true,.bool false,.bool false,.bool false,.bool false])):=rfl
 rw[show bm (.mk 7 m M s w e f)=(if aw true false false false false (.mk 7 m M s w e f)=true then 3 else if ¬ aD 7 m M s w=0 then aD 7 m M s w else if ¬ aJ 7 e.length f.length=0 then aJ 7 e.length f.length else aC 7 [] f) from rfl]
 generalize aw true false false false false (.mk 7 m M s w e f)=b at hf ⊢
 refine am.intro fT.2 (by simp[fT]) ?_
 simp(disch:=try exact dI) only[fT,Typ.pv_mk,push_cast,seval]
 refine ab.pure hi rfl ?_
 refine zgZ ?_
 refine ap hk rfl ?_
 simp(disch:=try exact dI) only[hx,push_cast,seval]
 refine ab.pure hf rfl ?_
 cases b with
 | true=>simp(disch:=try exact dI) only[push_cast,seval]
 | false=>
 have hbf:¬ false=true:=by decide
 rw[if_neg hbf]
 by_cases hA:M<m
 ·rw[show aD 7 m M s w=2 by simp[aD,loK,hiK,hA]]
  rw[if_pos (by decide)]
  simp(disch:=try exact dI) only[hA,push_cast,seval]
 by_cases hB:m<(-62135596800000)
 ·rw[show aD 7 m M s w=2 by simp[aD,loK,hiK,hB,hA]]
  rw[if_pos (by decide)]
  simp(disch:=try exact dI) only[hA,hB,push_cast,seval]
 by_cases hC:253402300799999<M
 ·rw[show aD 7 m M s w=2 by simp[aD,loK,hiK,hC,hA,hB]]
  rw[if_pos (by decide)]
  simp(disch:=try exact dI) only[hA,hB,hC,push_cast,seval]
 rw[if_neg (show ¬ ¬ aD 7 m M s w=0 by simp[aD,loK,hiK,hA,hB,hC])]
 by_cases h64:64<f.length
 ·have h64I:(64:Int)<(f.length:Int):=by omega
  rw[if_pos (by simp[aJ,h64]),show aJ 7 e.length f.length=9 by simp[aJ,h64]]
  simp(disch:=try exact dI) only[hA,hB,hC,h64I,push_cast,seval]
 have h64I:¬ (64:Int)<(f.length:Int):=by omega
 rw[if_neg (by simp[aJ,h64])]
 obtain⟨R,hR⟩:∃ R,R=aC 7 [] f:=⟨_,rfl⟩
 rw[<- hR]
 simp(disch:=try exact dI) only[hA,hB,hC,h64I,push_cast,seval]
 refine au ([]) (fun i:Nat=>[(106,.pv (.int .i64 (i:Int)))]) (fun _=>[]) (fun i=>i<=f.length/\R=aC 7 (f.take i) (f.drop i)) (fun i=>f.length - i) (0) ?_;intro e0 σ0 n0 h0;simp(disch:=try exact dI) only[push_cast,seval] at h0;obtain⟨rfl,rfl,rfl⟩:=h0;refine⟨?_,?_,?_⟩
 ·exact qsZ
 ·exact⟨by omega,by simpa using hR⟩
 rintro i ⟨hi,hr⟩
 by_cases hlt:i<f.length
 ·have hltI:(i:Int)<(f.length:Int):=by omega
  obtain⟨g,hg⟩:∃ g,f[i]? = some g:=⟨_,List.getElem?_eq_getElem hlt⟩
  have hf:=cu 7 m M s w e f hl i g hg
  simp only[Typ.pv_mk] at hf
  rw[aX hg] at hr
  generalize bE 7 (f.take i) g=z at hf hr
  by_cases hz:z=0
  ·subst hz
   rw[if_pos rfl] at hr
   refine zgZ ?_
   refine ab.pure hf rfl ?_
   refine zgZ ?_
   exact⟨i+1,aM qsZ,⟨by omega,hr⟩,by omega⟩
  ·rw[if_neg hz] at hr
   subst hr
   refine zgZ ?_
   refine ab.pure hf rfl ?_
   simp(disch:=try exact dI) only[hz,push_cast,seval]
 ·obtain rfl:i=f.length:=by omega
  rw[List.drop_length,aC] at hr
  subst hr
  simp(disch:=try exact dI) only[Int.lt_irrefl,push_cast,seval]
theorem DT (hw:∀ x∈w,x.length<=140737488351232)(hl:f.length<=9000000000000):am Tryz.prog az 178 [(Typ.mk 8 m M s w e f).pv] (.int .i64 (bm (.mk 8 m M s w e f))):=by
 have hi:=e7 8 1 10
 rw[show inB 8 1 10=true from rfl] at hi
 have hk:=cN
 have hf:=Aq 8 m M s w e f [108,105,115,116] 0 256
 simp only[Typ.pv_mk,lim] at hf
 have hx:bt true 11 8 (.pv (.agg eS)) (.pv (.int .i64 8))=some (.pv (.agg [.str [108,105,115,116],.int .i64 0,.int .i64 256,.bool true,.bool false,.bool false,.bool true,.bool false])):=rfl
 rw[show bm (.mk 8 m M s w e f)=(if aw true false false true false (.mk 8 m M s w e f)=true then 3 else if ¬ aD 8 m M s w=0 then aD 8 m M s w else if ¬ aJ 8 e.length f.length=0 then aJ 8 e.length f.length else aC 8 [] f) from rfl]
 generalize aw true false false true false (.mk 8 m M s w e f)=b at hf ⊢
 refine am.intro fT.2 (by simp[fT]) ?_
 simp(disch:=try exact dI) only[fT,Typ.pv_mk,push_cast,seval]
 refine ab.pure hi rfl ?_
 refine zgZ ?_
 refine ap hk rfl ?_
 simp(disch:=try exact dI) only[hx,push_cast,seval]
 refine ab.pure hf rfl ?_
 cases b with
 | true=>simp(disch:=try exact dI) only[push_cast,seval]
 | false=>
 have hbf:¬ false=true:=by decide
 rw[if_neg hbf]
 by_cases hA:M<m
 ·rw[show aD 8 m M s w=2 by simp[aD,loK,hiK,hA]]
  rw[if_pos (by decide)]
  simp(disch:=try exact dI) only[hA,push_cast,seval]
 by_cases hB:m<0
 ·rw[show aD 8 m M s w=2 by simp[aD,loK,hiK,hB,hA]]
  rw[if_pos (by decide)]
  simp(disch:=try exact dI) only[hA,hB,push_cast,seval]
 by_cases hC:256<M
 ·rw[show aD 8 m M s w=2 by simp[aD,loK,hiK,hC,hA,hB]]
  rw[if_pos (by decide)]
  simp(disch:=try exact dI) only[hA,hB,hC,push_cast,seval]
 rw[if_neg (show ¬ ¬ aD 8 m M s w=0 by simp[aD,loK,hiK,hA,hB,hC])]
 by_cases he0:e.length=0
 ·have he0I:(e.length:Int)=0:=by omega
  rw[if_pos (by simp[aJ,he0]),show aJ 8 e.length f.length=4 by simp[aJ,he0]]
  simp(disch:=try exact dI) only[hA,hB,hC,he0I,push_cast,seval]
 have he0I:¬ (e.length:Int)=0:=by omega
 by_cases he1:1<e.length
 ·have he1I:(1:Int)<(e.length:Int):=by omega
  rw[if_pos (by simp[aJ,he0,he1]),show aJ 8 e.length f.length=3 by simp[aJ,he0,he1]]
  simp(disch:=try exact dI) only[hA,hB,hC,he0I,he1I,push_cast,seval]
 have he1I:¬ (1:Int)<(e.length:Int):=by omega
 by_cases h64:64<f.length
 ·have h64I:(64:Int)<(f.length:Int):=by omega
  rw[if_pos (by simp[aJ,h64,he0,he1]),show aJ 8 e.length f.length=9 by simp[aJ,h64,he0,he1]]
  simp(disch:=try exact dI) only[hA,hB,hC,he0I,he1I,h64I,push_cast,seval]
 have h64I:¬ (64:Int)<(f.length:Int):=by omega
 rw[if_neg (by simp[aJ,h64,he0,he1])]
 obtain⟨R,hR⟩:∃ R,R=aC 8 [] f:=⟨_,rfl⟩
 rw[<- hR]
 simp(disch:=try exact dI) only[hA,hB,hC,he0I,he1I,h64I,push_cast,seval]
 refine au ([]) (fun i:Nat=>[(106,.pv (.int .i64 (i:Int)))]) (fun _=>[]) (fun i=>i<=f.length/\R=aC 8 (f.take i) (f.drop i)) (fun i=>f.length - i) (0) ?_;intro e0 σ0 n0 h0;simp(disch:=try exact dI) only[push_cast,seval] at h0;obtain⟨rfl,rfl,rfl⟩:=h0;refine⟨?_,?_,?_⟩
 ·exact qsZ
 ·exact⟨by omega,by simpa using hR⟩
 rintro i ⟨hi,hr⟩
 by_cases hlt:i<f.length
 ·have hltI:(i:Int)<(f.length:Int):=by omega
  obtain⟨g,hg⟩:∃ g,f[i]? = some g:=⟨_,List.getElem?_eq_getElem hlt⟩
  have hf:=cu 8 m M s w e f hl i g hg
  simp only[Typ.pv_mk] at hf
  rw[aX hg] at hr
  generalize bE 8 (f.take i) g=z at hf hr
  by_cases hz:z=0
  ·subst hz
   rw[if_pos rfl] at hr
   refine zgZ ?_
   refine ab.pure hf rfl ?_
   refine zgZ ?_
   exact⟨i+1,aM qsZ,⟨by omega,hr⟩,by omega⟩
  ·rw[if_neg hz] at hr
   subst hr
   refine zgZ ?_
   refine ab.pure hf rfl ?_
   simp(disch:=try exact dI) only[hz,push_cast,seval]
 ·obtain rfl:i=f.length:=by omega
  rw[List.drop_length,aC] at hr
  subst hr
  simp(disch:=try exact dI) only[Int.lt_irrefl,push_cast,seval]
theorem DS (hw:∀ x∈w,x.length<=140737488351232)(hl:f.length<=9000000000000):am Tryz.prog az 178 [(Typ.mk 9 m M s w e f).pv] (.int .i64 (bm (.mk 9 m M s w e f))):=by
 have hi:=e7 9 1 10
 rw[show inB 9 1 10=true from rfl] at hi
 have hk:=cN
 have hf:=ow 9 m M s w e f [114,101,99,111,114,100] 0 0
 simp only[Typ.pv_mk,lim] at hf
 have hx:bt true 11 8 (.pv (.agg eS)) (.pv (.int .i64 9))=some (.pv (.agg [.str [114,101,99,111,114,100],.int .i64 0,.int .i64 0,.bool false,.bool false,.bool false,.bool false,.bool true])):=rfl
 rw[show bm (.mk 9 m M s w e f)=(if aw false false false false true (.mk 9 m M s w e f)=true then 3 else if ¬ aD 9 m M s w=0 then aD 9 m M s w else if ¬ aJ 9 e.length f.length=0 then aJ 9 e.length f.length else aC 9 [] f) from rfl]
 generalize aw false false false false true (.mk 9 m M s w e f)=b at hf ⊢
 refine am.intro fT.2 (by simp[fT]) ?_
 simp(disch:=try exact dI) only[fT,Typ.pv_mk,push_cast,seval]
 refine ab.pure hi rfl ?_
 refine zgZ ?_
 refine ap hk rfl ?_
 simp(disch:=try exact dI) only[hx,push_cast,seval]
 refine ab.pure hf rfl ?_
 cases b with
 | true=>simp(disch:=try exact dI) only[push_cast,seval]
 | false=>
 have hbf:¬ false=true:=by decide
 rw[if_neg hbf]
 rw[if_neg (show ¬ ¬ aD 9 m M s w=0 by simp[aD,loK,hiK])]
 by_cases h64:64<f.length
 ·have h64I:(64:Int)<(f.length:Int):=by omega
  rw[if_pos (by simp[aJ,h64]),show aJ 9 e.length f.length=9 by simp[aJ,h64]]
  simp(disch:=try exact dI) only[h64I,push_cast,seval]
 have h64I:¬ (64:Int)<(f.length:Int):=by omega
 rw[if_neg (by simp[aJ,h64])]
 obtain⟨R,hR⟩:∃ R,R=aC 9 [] f:=⟨_,rfl⟩
 rw[<- hR]
 simp(disch:=try exact dI) only[h64I,push_cast,seval]
 refine au ([]) (fun i:Nat=>[(106,.pv (.int .i64 (i:Int)))]) (fun _=>[]) (fun i=>i<=f.length/\R=aC 9 (f.take i) (f.drop i)) (fun i=>f.length - i) (0) ?_;intro e0 σ0 n0 h0;simp(disch:=try exact dI) only[push_cast,seval] at h0;obtain⟨rfl,rfl,rfl⟩:=h0;refine⟨?_,?_,?_⟩
 ·exact qsZ
 ·exact⟨by omega,by simpa using hR⟩
 rintro i ⟨hi,hr⟩
 by_cases hlt:i<f.length
 ·have hltI:(i:Int)<(f.length:Int):=by omega
  obtain⟨g,hg⟩:∃ g,f[i]? = some g:=⟨_,List.getElem?_eq_getElem hlt⟩
  have hf:=cu 9 m M s w e f hl i g hg
  simp only[Typ.pv_mk] at hf
  rw[aX hg] at hr
  generalize bE 9 (f.take i) g=z at hf hr
  by_cases hz:z=0
  ·subst hz
   rw[if_pos rfl] at hr
   refine zgZ ?_
   refine ab.pure hf rfl ?_
   refine zgZ ?_
   exact⟨i+1,aM qsZ,⟨by omega,hr⟩,by omega⟩
  ·rw[if_neg hz] at hr
   subst hr
   refine zgZ ?_
   refine ab.pure hf rfl ?_
   simp(disch:=try exact dI) only[hz,push_cast,seval]
 ·obtain rfl:i=f.length:=by omega
  rw[List.drop_length,aC] at hr
  subst hr
  simp(disch:=try exact dI) only[Int.lt_irrefl,push_cast,seval]
theorem yP (hw:∀ x∈w,x.length<=140737488351232)(hl:f.length<=9000000000000):am Tryz.prog az 178 [(Typ.mk 10 m M s w e f).pv] (.int .i64 (bm (.mk 10 m M s w e f))):=by
 have hi:=e7 10 1 10
 rw[show inB 10 1 10=true from rfl] at hi
 have hk:=cN
 have hf:=ow 10 m M s w e f [118,97,114,105,97,110,116] 0 0
 simp only[Typ.pv_mk,lim] at hf
 have hx:bt true 11 8 (.pv (.agg eS)) (.pv (.int .i64 10))=some (.pv (.agg [.str [118,97,114,105,97,110,116],.int .i64 0,.int .i64 0,.bool false,.bool false,.bool false,.bool false,.bool true])):=rfl
 rw[show bm (.mk 10 m M s w e f)=(if aw false false false false true (.mk 10 m M s w e f)=true then 3 else if ¬ aD 10 m M s w=0 then aD 10 m M s w else if ¬ aJ 10 e.length f.length=0 then aJ 10 e.length f.length else aC 10 [] f) from rfl]
 generalize aw false false false false true (.mk 10 m M s w e f)=b at hf ⊢
 refine am.intro fT.2 (by simp[fT]) ?_
 simp(disch:=try exact dI) only[fT,Typ.pv_mk,push_cast,seval]
 refine ab.pure hi rfl ?_
 refine zgZ ?_
 refine ap hk rfl ?_
 simp(disch:=try exact dI) only[hx,push_cast,seval]
 refine ab.pure hf rfl ?_
 cases b with
 | true=>simp(disch:=try exact dI) only[push_cast,seval]
 | false=>
 have hbf:¬ false=true:=by decide
 rw[if_neg hbf]
 rw[if_neg (show ¬ ¬ aD 10 m M s w=0 by simp[aD,loK,hiK])]
 by_cases hf0:f.length=0
 ·have hf0I:(f.length:Int)=0:=by omega
  rw[if_pos (by simp[aJ,hf0]),show aJ 10 e.length f.length=4 by simp[aJ,hf0]]
  simp(disch:=try exact dI) only[hf0I,push_cast,seval]
 have hf0I:¬ (f.length:Int)=0:=by omega
 by_cases h64:64<f.length
 ·have h64I:(64:Int)<(f.length:Int):=by omega
  rw[if_pos (by simp[aJ,h64,hf0]),show aJ 10 e.length f.length=9 by simp[aJ,h64,hf0]]
  simp(disch:=try exact dI) only[hf0I,h64I,push_cast,seval]
 have h64I:¬ (64:Int)<(f.length:Int):=by omega
 rw[if_neg (by simp[aJ,h64,hf0])]
 obtain⟨R,hR⟩:∃ R,R=aC 10 [] f:=⟨_,rfl⟩
 rw[<- hR]
 simp(disch:=try exact dI) only[hf0I,h64I,push_cast,seval]
 refine au ([]) (fun i:Nat=>[(106,.pv (.int .i64 (i:Int)))]) (fun _=>[]) (fun i=>i<=f.length/\R=aC 10 (f.take i) (f.drop i)) (fun i=>f.length - i) (0) ?_;intro e0 σ0 n0 h0;simp(disch:=try exact dI) only[push_cast,seval] at h0;obtain⟨rfl,rfl,rfl⟩:=h0;refine⟨?_,?_,?_⟩
 ·exact qsZ
 ·exact⟨by omega,by simpa using hR⟩
 rintro i ⟨hi,hr⟩
 by_cases hlt:i<f.length
 ·have hltI:(i:Int)<(f.length:Int):=by omega
  obtain⟨g,hg⟩:∃ g,f[i]? = some g:=⟨_,List.getElem?_eq_getElem hlt⟩
  have hf:=cu 10 m M s w e f hl i g hg
  simp only[Typ.pv_mk] at hf
  rw[aX hg] at hr
  generalize bE 10 (f.take i) g=z at hf hr
  by_cases hz:z=0
  ·subst hz
   rw[if_pos rfl] at hr
   refine zgZ ?_
   refine ab.pure hf rfl ?_
   refine zgZ ?_
   exact⟨i+1,aM qsZ,⟨by omega,hr⟩,by omega⟩
  ·rw[if_neg hz] at hr
   subst hr
   refine zgZ ?_
   refine ab.pure hf rfl ?_
   simp(disch:=try exact dI) only[hz,push_cast,seval]
 ·obtain rfl:i=f.length:=by omega
  rw[List.drop_length,aC] at hr
  subst hr
  simp(disch:=try exact dI) only[Int.lt_irrefl,push_cast,seval]
theorem Lr (k:Int)(hw:∀ x∈w,x.length<=140737488351232)(hl:f.length<=9000000000000):am Tryz.prog az 178 [(Typ.mk k m M s w e f).pv] (.int .i64 (bm (.mk k m M s w e f))):=by
 by_cases hk:inB k 1 10=false
 ·have hi:=e7 k 1 10
  rw[hk] at hi
  rw[show bm (.mk k m M s w e f)=11 by simp[bm,hk]]
  refine am.intro fT.2 (by simp[fT]) ?_
  simp(disch:=try exact dI) only[fT,Typ.pv_mk,push_cast,seval]
  refine ab.pure hi rfl ?_
  exact qsZ
 ·have hr:1<=k/\k<=10:=by simpa[inB] using hk
  have hc:k=1\/k=2\/k=3\/k=4\/k=5\/k=6\/k=7\/k=8\/k=9\/k=10:=by omega
  clear hk hr
  rcases hc with rfl | rfl | rfl | rfl | rfl | rfl | rfl | rfl | rfl | rfl
  ·exact D0 m M s w e f hw hl
  ·exact DZ m M s w e f hw hl
  ·exact DY m M s w e f hw hl
  ·exact DX m M s w e f hw hl
  ·exact DW m M s w e f hw hl
  ·exact DV m M s w e f hw hl
  ·exact DU m M s w e f hw hl
  ·exact DT m M s w e f hw hl
  ·exact DS m M s w e f hw hl
  ·exact yP m M s w e f hw hl
end
end Go.Proofs.YtbojpfpliibfbaaGreatDoor

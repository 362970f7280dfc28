/- A part of the proof. -/
import Derived.Test.YtbojpfpliibfbaaGreatDoorEnRUd
set_option maxHeartbeats 16000000
set_option maxRecDepth 100000
set_option linter.unusedVariables false
set_option linter.unusedSimpArgs false
-- many steps
namespace Go.Proofs.YtbojpfpliibfbaaGreatDoor
open Go Go.Ab
attribute [local irreducible] vc
theorem bY {k m M s:Int}{w:List (List UInt8)}{e:List Typ}{f:List TFd}(h:aY k (.mk k m M s w e f)=false):(¬ k=3->s=0)/\(¬ k=8->e.length=0)/\(¬ 9<=k->f.length=0):=by
 simp only[aY,aw,Bool.or_eq_false_iff] at h
 obtain⟨_,h2,_,h4,h5⟩:=h
 refine⟨fun a=>?_,fun a=>?_,fun a=>?_⟩
 ·rw[decide_eq_false a] at h2;simpa using h2
 ·rw[decide_eq_false a] at h4;simpa using h4
 ·rw[decide_eq_false a] at h5;simpa using h5
theorem bH {k:Int}{e f:Nat}{L:Int}(h1:¬ (k=8/\e=0))(h2:¬ (k=10/\f=0))(h3:¬ (k=8/\1<e)):(if ¬ aJ k e f=0 then aJ k e f else L)=if 64<f then 9 else L:=by
 unfold aJ;rw[if_neg h1,if_neg h2,if_neg h3]
 by_cases h:64<f<;>simp[h]
theorem iB (k:Int)(hk:k=1\/k=9\/k=10):am Tryz.prog az 185 [.int .i64 k] (.tup [.int .i64 0,.int .i64 256]):=by
 rcases hk with rfl | rfl | rfl
 all_goals
  refine am.intro Kz.2 (by simp[Kz]) ?_
  simp(disch:=try exact dI) only[Kz,push_cast,seval]
section
variable (m M s:Int)(w:List (List UInt8))(e:List Typ)(f:List TFd)
theorem DR (hw:∀ x∈w,x.length<=140737488351232):am Tryz.prog az 125 [(Typ.mk 1 m M s w e f).pv] (.int .i64 (bm (.mk 1 m M s w e f))):=by
 have hi:=bf 1 1 10
 rw[show inB 1 1 10=true from rfl] at hi
 have hu:=bW m M s w e f 1 (by omega)
 have hj:=bf 1 2 8
 rw[show inB 1 2 8=false from rfl] at hj
 have hl:=iB 1 (by omega)
 have hs:=bf s 0 12
 have hfl:=bZ 1 m M s w e f
 simp only[Typ.pv_mk] at hu hfl
 rw[show bm (.mk 1 m M s w e f)=(if aY 1 (.mk 1 m M s w e f)=true then 3 else if ¬ aD 1 m M s w=0 then aD 1 m M s w else if ¬ aJ 1 e.length f.length=0 then aJ 1 e.length f.length else aC 1 [] f) from rfl]
 have hform:=bY (k:=1) (m:=m) (M:=M) (s:=s) (w:=w) (e:=e) (f:=f)
 generalize aY 1 (.mk 1 m M s w e f)=b at hu hform ⊢
 refine am.intro fU.2 (by simp[fU]) ?_
 simp(disch:=try exact dI) only[fU,Typ.pv_mk,push_cast,seval]
 refine ab.pure hi rfl ?_
 refine zgZ ?_
 refine ab.pure hu rfl ?_
 cases b with
 | true=>simp(disch:=try exact dI) only[push_cast,seval]
 | false=>
 have hbf:¬ false=true:=by decide
 rw[if_neg hbf]
 obtain⟨hf3,hf8,hf9⟩:=hform rfl
 obtain rfl:=hf3 (by omega)
 rw[show inB 0 0 12=true from rfl] at hs
 have he1I:¬ (1:Int)<(e.length:Int):=by have:=hf8 (by omega);omega
 have hq1:¬ ((1:Int)=8/\e.length=0):=fun h=>absurd h.1 (by decide)
 have hq3:¬ ((1:Int)=8/\1<e.length):=fun h=>absurd h.1 (by decide)
 have hq2:¬ ((1:Int)=10/\f.length=0):=fun h=>absurd h.1 (by decide)
 refine zgZ ?_
 refine ab.pure hl rfl ?_
 refine zgZ ?_
 refine ab.pure hj rfl ?_
 refine zgZ ?_
 refine ab.pure hs rfl ?_
 rw[if_neg (show ¬ ¬ aD 1 m M 0 w=0 by simp[aD])]
 rw[bH hq1 hq2 hq3]
 generalize (if 64<f.length then 9 else aC 1 [] f)=L at hfl ⊢
 simp(disch:=try exact dI) only[he1I,push_cast,seval]
 refine ab.pure hfl rfl ?_
 exact qsZ
theorem DQ (hw:∀ x∈w,x.length<=140737488351232):am Tryz.prog az 125 [(Typ.mk 2 m M s w e f).pv] (.int .i64 (bm (.mk 2 m M s w e f))):=by
 have hi:=bf 2 1 10
 rw[show inB 2 1 10=true from rfl] at hi
 have hu:=bW m M s w e f 2 (by omega)
 have hj:=bf 2 2 8
 rw[show inB 2 2 8=true from rfl] at hj
 have hl:=dv 2 (by omega)
 rw[show loK 2=(-999999999999999) from rfl,show hiK 2=999999999999999 from rfl] at hl
 have hb:=dE m M s w e f 2 (-999999999999999) 999999999999999
 have hs:=bf s 0 12
 have hfl:=bZ 2 m M s w e f
 simp only[Typ.pv_mk] at hu hfl hb
 rw[show bm (.mk 2 m M s w e f)=(if aY 2 (.mk 2 m M s w e f)=true then 3 else if ¬ aD 2 m M s w=0 then aD 2 m M s w else if ¬ aJ 2 e.length f.length=0 then aJ 2 e.length f.length else aC 2 [] f) from rfl]
 have hform:=bY (k:=2) (m:=m) (M:=M) (s:=s) (w:=w) (e:=e) (f:=f)
 generalize aY 2 (.mk 2 m M s w e f)=b at hu hform ⊢
 refine am.intro fU.2 (by simp[fU]) ?_
 simp(disch:=try exact dI) only[fU,Typ.pv_mk,push_cast,seval]
 refine ab.pure hi rfl ?_
 refine zgZ ?_
 refine ab.pure hu rfl ?_
 cases b with
 | true=>simp(disch:=try exact dI) only[push_cast,seval]
 | false=>
 have hbf:¬ false=true:=by decide
 rw[if_neg hbf]
 obtain⟨hf3,hf8,hf9⟩:=hform rfl
 obtain rfl:=hf3 (by omega)
 rw[show inB 0 0 12=true from rfl] at hs
 have he1I:¬ (1:Int)<(e.length:Int):=by have:=hf8 (by omega);omega
 have hq1:¬ ((2:Int)=8/\e.length=0):=fun h=>absurd h.1 (by decide)
 have hq3:¬ ((2:Int)=8/\1<e.length):=fun h=>absurd h.1 (by decide)
 have hq2:¬ ((2:Int)=10/\f.length=0):=fun h=>absurd h.1 (by decide)
 refine zgZ ?_
 refine ab.pure hl rfl ?_
 refine zgZ ?_
 refine ab.pure hj rfl ?_
 refine zgZ ?_
 by_cases hA:M<m\/m<(-999999999999999)\/999999999999999<M
 ·rw[show aD 2 m M 0 w=2 by simp only[aD,loK,hiK];rw[if_neg (by intro h;exact absurd h.1 (by decide))];exact if_pos ⟨by decide,by simpa using hA⟩,if_pos (show ¬ (2:Int)=0 by decide)]
  rw[decide_eq_false (not_not_intro hA)] at hb
  refine ab.pure hb rfl ?_
  exact qsZ
 rw[decide_eq_true hA] at hb
 refine ab.pure hb rfl ?_
 refine zgZ ?_
 refine ab.pure hs rfl ?_
 rw[if_neg (show ¬ ¬ aD 2 m M 0 w=0 by simp[aD,loK,hiK];omega)]
 rw[bH hq1 hq2 hq3]
 generalize (if 64<f.length then 9 else aC 2 [] f)=L at hfl ⊢
 simp(disch:=try exact dI) only[he1I,push_cast,seval]
 refine ab.pure hfl rfl ?_
 exact qsZ
theorem DP (hw:∀ x∈w,x.length<=140737488351232):am Tryz.prog az 125 [(Typ.mk 3 m M s w e f).pv] (.int .i64 (bm (.mk 3 m M s w e f))):=by
 have hi:=bf 3 1 10
 rw[show inB 3 1 10=true from rfl] at hi
 have hu:=bW m M s w e f 3 (by omega)
 have hj:=bf 3 2 8
 rw[show inB 3 2 8=true from rfl] at hj
 have hl:=dv 3 (by omega)
 rw[show loK 3=(-999999999999999) from rfl,show hiK 3=999999999999999 from rfl] at hl
 have hb:=dE m M s w e f 3 (-999999999999999) 999999999999999
 have hs:=bf s 0 12
 have hfl:=bZ 3 m M s w e f
 simp only[Typ.pv_mk] at hu hfl hb
 rw[show bm (.mk 3 m M s w e f)=(if aY 3 (.mk 3 m M s w e f)=true then 3 else if ¬ aD 3 m M s w=0 then aD 3 m M s w else if ¬ aJ 3 e.length f.length=0 then aJ 3 e.length f.length else aC 3 [] f) from rfl]
 have hform:=bY (k:=3) (m:=m) (M:=M) (s:=s) (w:=w) (e:=e) (f:=f)
 generalize aY 3 (.mk 3 m M s w e f)=b at hu hform ⊢
 refine am.intro fU.2 (by simp[fU]) ?_
 simp(disch:=try exact dI) only[fU,Typ.pv_mk,push_cast,seval]
 refine ab.pure hi rfl ?_
 refine zgZ ?_
 refine ab.pure hu rfl ?_
 cases b with
 | true=>simp(disch:=try exact dI) only[push_cast,seval]
 | false=>
 have hbf:¬ false=true:=by decide
 rw[if_neg hbf]
 obtain⟨hf3,hf8,hf9⟩:=hform rfl
 have he1I:¬ (1:Int)<(e.length:Int):=by have:=hf8 (by omega);omega
 have hq1:¬ ((3:Int)=8/\e.length=0):=fun h=>absurd h.1 (by decide)
 have hq3:¬ ((3:Int)=8/\1<e.length):=fun h=>absurd h.1 (by decide)
 have hq2:¬ ((3:Int)=10/\f.length=0):=fun h=>absurd h.1 (by decide)
 refine zgZ ?_
 refine ab.pure hl rfl ?_
 refine zgZ ?_
 refine ab.pure hj rfl ?_
 refine zgZ ?_
 by_cases hA:M<m\/m<(-999999999999999)\/999999999999999<M
 ·rw[show aD 3 m M s w=2 by simp only[aD,loK,hiK];rw[if_neg (by intro h;exact absurd h.1 (by decide))];exact if_pos ⟨by decide,by simpa using hA⟩,if_pos (show ¬ (2:Int)=0 by decide)]
  rw[decide_eq_false (not_not_intro hA)] at hb
  refine ab.pure hb rfl ?_
  exact qsZ
 rw[decide_eq_true hA] at hb
 refine ab.pure hb rfl ?_
 refine zgZ ?_
 refine ab.pure hs rfl ?_
 rw[show aD 3 m M s w=if inB s 0 12=false then 2 else 0 by simp only[aD,loK,hiK];rw[if_neg (by intro h;exact absurd h.1 (by decide)),if_neg (by simpa using hA)];simp]
 generalize inB s 0 12=q
 cases q with
 | false=>rw[if_pos rfl,if_pos (by decide)];simp(disch:=try exact dI) only[push_cast,seval]
 | true=>
 rw[if_neg (show ¬ true=false by decide),if_neg (by decide)]
 rw[bH hq1 hq2 hq3]
 generalize (if 64<f.length then 9 else aC 3 [] f)=L at hfl ⊢
 simp(disch:=try exact dI) only[he1I,push_cast,seval]
 refine ab.pure hfl rfl ?_
 exact qsZ
theorem DO (hw:∀ x∈w,x.length<=140737488351232):am Tryz.prog az 125 [(Typ.mk 4 m M s w e f).pv] (.int .i64 (bm (.mk 4 m M s w e f))):=by
 have hi:=bf 4 1 10
 rw[show inB 4 1 10=true from rfl] at hi
 have hu:=bW m M s w e f 4 (by omega)
 have hj:=bf 4 2 8
 rw[show inB 4 2 8=true from rfl] at hj
 have hl:=dv 4 (by omega)
 rw[show loK 4=0 from rfl,show hiK 4=1024 from rfl] at hl
 have hb:=dE m M s w e f 4 0 1024
 have hs:=bf s 0 12
 have hfl:=bZ 4 m M s w e f
 have hws:=Cc 4 m M s w e f hw
 simp only[Typ.pv_mk] at hu hfl hb hws
 rw[show bm (.mk 4 m M s w e f)=(if aY 4 (.mk 4 m M s w e f)=true then 3 else if ¬ aD 4 m M s w=0 then aD 4 m M s w else if ¬ aJ 4 e.length f.length=0 then aJ 4 e.length f.length else aC 4 [] f) from rfl]
 have hform:=bY (k:=4) (m:=m) (M:=M) (s:=s) (w:=w) (e:=e) (f:=f)
 generalize aY 4 (.mk 4 m M s w e f)=b at hu hform ⊢
 refine am.intro fU.2 (by simp[fU]) ?_
 simp(disch:=try exact dI) only[fU,Typ.pv_mk,push_cast,seval]
 refine ab.pure hi rfl ?_
 refine zgZ ?_
 refine ab.pure hu rfl ?_
 cases b with
 | true=>simp(disch:=try exact dI) only[push_cast,seval]
 | false=>
 have hbf:¬ false=true:=by decide
 rw[if_neg hbf]
 obtain⟨hf3,hf8,hf9⟩:=hform rfl
 obtain rfl:=hf3 (by omega)
 rw[show inB 0 0 12=true from rfl] at hs
 have he1I:¬ (1:Int)<(e.length:Int):=by have:=hf8 (by omega);omega
 have hq1:¬ ((4:Int)=8/\e.length=0):=fun h=>absurd h.1 (by decide)
 have hq3:¬ ((4:Int)=8/\1<e.length):=fun h=>absurd h.1 (by decide)
 have hq2:¬ ((4:Int)=10/\f.length=0):=fun h=>absurd h.1 (by decide)
 by_cases hw0:0<w.length
 ·have hw0I:(0:Int)<(w.length:Int):=by omega
  obtain rfl:=List.length_eq_zero_iff.1 (hf9 (by omega))
  rw[bH hq1 hq2 hq3,show aD 4 m M 0 w=bG m M w by simp[aD,hw0],if_neg (show ¬ 64<([]:List TFd).length by decide),show aC 4 [] []=0 from rfl]
  generalize bG m M w=z at hws ⊢
  rw[show (if ¬ z=0 then z else 0)=z by by_cases h:z=0<;>simp[h]]
  simp(disch:=try exact dI) only[hw0I,push_cast,seval]
  refine ab.pure hws rfl ?_
  exact qsZ
 have hw0I:¬ (0:Int)<(w.length:Int):=by omega
 simp(disch:=try exact dI) only[hw0I,push_cast,seval]
 refine ab.pure hl rfl ?_
 refine zgZ ?_
 refine ab.pure hj rfl ?_
 refine zgZ ?_
 by_cases hA:M<m\/m<0\/1024<M
 ·rw[show aD 4 m M 0 w=2 by simp only[aD,loK,hiK];rw[if_neg (by omega)];exact if_pos ⟨by decide,by simpa using hA⟩,if_pos (show ¬ (2:Int)=0 by decide)]
  rw[decide_eq_false (not_not_intro hA)] at hb
  refine ab.pure hb rfl ?_
  exact qsZ
 rw[decide_eq_true hA] at hb
 refine ab.pure hb rfl ?_
 refine zgZ ?_
 refine ab.pure hs rfl ?_
 rw[if_neg (show ¬ ¬ aD 4 m M 0 w=0 by simp[aD,loK,hiK,hw0];omega)]
 rw[bH hq1 hq2 hq3]
 generalize (if 64<f.length then 9 else aC 4 [] f)=L at hfl ⊢
 simp(disch:=try exact dI) only[he1I,push_cast,seval]
 refine ab.pure hfl rfl ?_
 exact qsZ
theorem DN (hw:∀ x∈w,x.length<=140737488351232):am Tryz.prog az 125 [(Typ.mk 5 m M s w e f).pv] (.int .i64 (bm (.mk 5 m M s w e f))):=by
 have hi:=bf 5 1 10
 rw[show inB 5 1 10=true from rfl] at hi
 have hu:=bW m M s w e f 5 (by omega)
 have hj:=bf 5 2 8
 rw[show inB 5 2 8=true from rfl] at hj
 have hl:=dv 5 (by omega)
 rw[show loK 5=0 from rfl,show hiK 5=1024 from rfl] at hl
 have hb:=dE m M s w e f 5 0 1024
 have hs:=bf s 0 12
 have hfl:=bZ 5 m M s w e f
 simp only[Typ.pv_mk] at hu hfl hb
 rw[show bm (.mk 5 m M s w e f)=(if aY 5 (.mk 5 m M s w e f)=true then 3 else if ¬ aD 5 m M s w=0 then aD 5 m M s w else if ¬ aJ 5 e.length f.length=0 then aJ 5 e.length f.length else aC 5 [] f) from rfl]
 have hform:=bY (k:=5) (m:=m) (M:=M) (s:=s) (w:=w) (e:=e) (f:=f)
 generalize aY 5 (.mk 5 m M s w e f)=b at hu hform ⊢
 refine am.intro fU.2 (by simp[fU]) ?_
 simp(disch:=try exact dI) only[fU,Typ.pv_mk,push_cast,seval]
 refine ab.pure hi rfl ?_
 refine zgZ ?_
 refine ab.pure hu rfl ?_
 cases b with
 | true=>simp(disch:=try exact dI) only[push_cast,seval]
 | false=>
 have hbf:¬ false=true:=by decide
 rw[if_neg hbf]
 obtain⟨hf3,hf8,hf9⟩:=hform rfl
 obtain rfl:=hf3 (by omega)
 rw[show inB 0 0 12=true from rfl] at hs
 have he1I:¬ (1:Int)<(e.length:Int):=by have:=hf8 (by omega);omega
 have hq1:¬ ((5:Int)=8/\e.length=0):=fun h=>absurd h.1 (by decide)
 have hq3:¬ ((5:Int)=8/\1<e.length):=fun h=>absurd h.1 (by decide)
 have hq2:¬ ((5:Int)=10/\f.length=0):=fun h=>absurd h.1 (by decide)
 refine zgZ ?_
 refine ab.pure hl rfl ?_
 refine zgZ ?_
 refine ab.pure hj rfl ?_
 refine zgZ ?_
 by_cases hA:M<m\/m<0\/1024<M
 ·rw[show aD 5 m M 0 w=2 by simp only[aD,loK,hiK];rw[if_neg (by intro h;exact absurd h.1 (by decide))];exact if_pos ⟨by decide,by simpa using hA⟩,if_pos (show ¬ (2:Int)=0 by decide)]
  rw[decide_eq_false (not_not_intro hA)] at hb
  refine ab.pure hb rfl ?_
  exact qsZ
 rw[decide_eq_true hA] at hb
 refine ab.pure hb rfl ?_
 refine zgZ ?_
 refine ab.pure hs rfl ?_
 rw[if_neg (show ¬ ¬ aD 5 m M 0 w=0 by simp[aD,loK,hiK];omega)]
 rw[bH hq1 hq2 hq3]
 generalize (if 64<f.length then 9 else aC 5 [] f)=L at hfl ⊢
 simp(disch:=try exact dI) only[he1I,push_cast,seval]
 refine ab.pure hfl rfl ?_
 exact qsZ
theorem DM (hw:∀ x∈w,x.length<=140737488351232):am Tryz.prog az 125 [(Typ.mk 6 m M s w e f).pv] (.int .i64 (bm (.mk 6 m M s w e f))):=by
 have hi:=bf 6 1 10
 rw[show inB 6 1 10=true from rfl] at hi
 have hu:=bW m M s w e f 6 (by omega)
 have hj:=bf 6 2 8
 rw[show inB 6 2 8=true from rfl] at hj
 have hl:=dv 6 (by omega)
 rw[show loK 6=(-719162) from rfl,show hiK 6=2932896 from rfl] at hl
 have hb:=dE m M s w e f 6 (-719162) 2932896
 have hs:=bf s 0 12
 have hfl:=bZ 6 m M s w e f
 simp only[Typ.pv_mk] at hu hfl hb
 rw[show bm (.mk 6 m M s w e f)=(if aY 6 (.mk 6 m M s w e f)=true then 3 else if ¬ aD 6 m M s w=0 then aD 6 m M s w else if ¬ aJ 6 e.length f.length=0 then aJ 6 e.length f.length else aC 6 [] f) from rfl]
 have hform:=bY (k:=6) (m:=m) (M:=M) (s:=s) (w:=w) (e:=e) (f:=f)
 generalize aY 6 (.mk 6 m M s w e f)=b at hu hform ⊢
 refine am.intro fU.2 (by simp[fU]) ?_
 simp(disch:=try exact dI) only[fU,Typ.pv_mk,push_cast,seval]
 refine ab.pure hi rfl ?_
 refine zgZ ?_
 refine ab.pure hu rfl ?_
 cases b with
 | true=>simp(disch:=try exact dI) only[push_cast,seval]
 | false=>
 have hbf:¬ false=true:=by decide
 rw[if_neg hbf]
 obtain⟨hf3,hf8,hf9⟩:=hform rfl
 obtain rfl:=hf3 (by omega)
 rw[show inB 0 0 12=true from rfl] at hs
 have he1I:¬ (1:Int)<(e.length:Int):=by have:=hf8 (by omega);omega
 have hq1:¬ ((6:Int)=8/\e.length=0):=fun h=>absurd h.1 (by decide)
 have hq3:¬ ((6:Int)=8/\1<e.length):=fun h=>absurd h.1 (by decide)
 have hq2:¬ ((6:Int)=10/\f.length=0):=fun h=>absurd h.1 (by decide)
 refine zgZ ?_
 refine ab.pure hl rfl ?_
 refine zgZ ?_
 refine ab.pure hj rfl ?_
 refine zgZ ?_
 by_cases hA:M<m\/m<(-719162)\/2932896<M
 ·rw[show aD 6 m M 0 w=2 by simp only[aD,loK,hiK];rw[if_neg (by intro h;exact absurd h.1 (by decide))];exact if_pos ⟨by decide,by simpa using hA⟩,if_pos (show ¬ (2:Int)=0 by decide)]
  rw[decide_eq_false (not_not_intro hA)] at hb
  refine ab.pure hb rfl ?_
  exact qsZ
 rw[decide_eq_true hA] at hb
 refine ab.pure hb rfl ?_
 refine zgZ ?_
 refine ab.pure hs rfl ?_
 rw[if_neg (show ¬ ¬ aD 6 m M 0 w=0 by simp[aD,loK,hiK];omega)]
 rw[bH hq1 hq2 hq3]
 generalize (if 64<f.length then 9 else aC 6 [] f)=L at hfl ⊢
 simp(disch:=try exact dI) only[he1I,push_cast,seval]
 refine ab.pure hfl rfl ?_
 exact qsZ
theorem DL (hw:∀ x∈w,x.length<=140737488351232):am Tryz.prog az 125 [(Typ.mk 7 m M s w e f).pv] (.int .i64 (bm (.mk 7 m M s w e f))):=by
 have hi:=bf 7 1 10
 rw[show inB 7 1 10=true from rfl] at hi
 have hu:=bW m M s w e f 7 (by omega)
 have hj:=bf 7 2 8
 rw[show inB 7 2 8=true from rfl] at hj
 have hl:=dv 7 (by omega)
 rw[show loK 7=(-62135596800000) from rfl,show hiK 7=253402300799999 from rfl] at hl
 have hb:=dE m M s w e f 7 (-62135596800000) 253402300799999
 have hs:=bf s 0 12
 have hfl:=bZ 7 m M s w e f
 simp only[Typ.pv_mk] at hu hfl hb
 rw[show bm (.mk 7 m M s w e f)=(if aY 7 (.mk 7 m M s w e f)=true then 3 else if ¬ aD 7 m M s w=0 then aD 7 m M s w else if ¬ aJ 7 e.length f.length=0 then aJ 7 e.length f.length else aC 7 [] f) from rfl]
 have hform:=bY (k:=7) (m:=m) (M:=M) (s:=s) (w:=w) (e:=e) (f:=f)
 generalize aY 7 (.mk 7 m M s w e f)=b at hu hform ⊢
 refine am.intro fU.2 (by simp[fU]) ?_
 simp(disch:=try exact dI) only[fU,Typ.pv_mk,push_cast,seval]
 refine ab.pure hi rfl ?_
 refine zgZ ?_
 refine ab.pure hu rfl ?_
 cases b with
 | true=>simp(disch:=try exact dI) only[push_cast,seval]
 | false=>
 have hbf:¬ false=true:=by decide
 rw[if_neg hbf]
 obtain⟨hf3,hf8,hf9⟩:=hform rfl
 obtain rfl:=hf3 (by omega)
 rw[show inB 0 0 12=true from rfl] at hs
 have he1I:¬ (1:Int)<(e.length:Int):=by have:=hf8 (by omega);omega
 have hq1:¬ ((7:Int)=8/\e.length=0):=fun h=>absurd h.1 (by decide)
 have hq3:¬ ((7:Int)=8/\1<e.length):=fun h=>absurd h.1 (by decide)
 have hq2:¬ ((7:Int)=10/\f.length=0):=fun h=>absurd h.1 (by decide)
 refine zgZ ?_
 refine ab.pure hl rfl ?_
 refine zgZ ?_
 refine ab.pure hj rfl ?_
 refine zgZ ?_
 by_cases hA:M<m\/m<(-62135596800000)\/253402300799999<M
 ·rw[show aD 7 m M 0 w=2 by simp only[aD,loK,hiK];rw[if_neg (by intro h;exact absurd h.1 (by decide))];exact if_pos ⟨by decide,by simpa using hA⟩,if_pos (show ¬ (2:Int)=0 by decide)]
  rw[decide_eq_false (not_not_intro hA)] at hb
  refine ab.pure hb rfl ?_
  exact qsZ
 rw[decide_eq_true hA] at hb
 refine ab.pure hb rfl ?_
 refine zgZ ?_
 refine ab.pure hs rfl ?_
 rw[if_neg (show ¬ ¬ aD 7 m M 0 w=0 by simp[aD,loK,hiK];omega)]
 rw[bH hq1 hq2 hq3]
 generalize (if 64<f.length then 9 else aC 7 [] f)=L at hfl ⊢
 simp(disch:=try exact dI) only[he1I,push_cast,seval]
 refine ab.pure hfl rfl ?_
 exact qsZ
theorem DK (hw:∀ x∈w,x.length<=140737488351232):am Tryz.prog az 125 [(Typ.mk 8 m M s w e f).pv] (.int .i64 (bm (.mk 8 m M s w e f))):=by
 have hi:=bf 8 1 10
 rw[show inB 8 1 10=true from rfl] at hi
 have hu:=bW m M s w e f 8 (by omega)
 have hj:=bf 8 2 8
 rw[show inB 8 2 8=true from rfl] at hj
 have hl:=dv 8 (by omega)
 rw[show loK 8=0 from rfl,show hiK 8=256 from rfl] at hl
 have hb:=dE m M s w e f 8 0 256
 have hs:=bf s 0 12
 have hfl:=bZ 8 m M s w e f
 simp only[Typ.pv_mk] at hu hfl hb
 rw[show bm (.mk 8 m M s w e f)=(if aY 8 (.mk 8 m M s w e f)=true then 3 else if ¬ aD 8 m M s w=0 then aD 8 m M s w else if ¬ aJ 8 e.length f.length=0 then aJ 8 e.length f.length else aC 8 [] f) from rfl]
 have hform:=bY (k:=8) (m:=m) (M:=M) (s:=s) (w:=w) (e:=e) (f:=f)
 generalize aY 8 (.mk 8 m M s w e f)=b at hu hform ⊢
 refine am.intro fU.2 (by simp[fU]) ?_
 simp(disch:=try exact dI) only[fU,Typ.pv_mk,push_cast,seval]
 refine ab.pure hi rfl ?_
 refine zgZ ?_
 refine ab.pure hu rfl ?_
 cases b with
 | true=>simp(disch:=try exact dI) only[push_cast,seval]
 | false=>
 have hbf:¬ false=true:=by decide
 rw[if_neg hbf]
 obtain⟨hf3,hf8,hf9⟩:=hform rfl
 obtain rfl:=hf3 (by omega)
 rw[show inB 0 0 12=true from rfl] at hs
 have hq2:¬ ((8:Int)=10/\f.length=0):=fun h=>absurd h.1 (by decide)
 refine zgZ ?_
 refine ab.pure hl rfl ?_
 refine zgZ ?_
 refine ab.pure hj rfl ?_
 refine zgZ ?_
 by_cases hA:M<m\/m<0\/256<M
 ·rw[show aD 8 m M 0 w=2 by simp only[aD,loK,hiK];rw[if_neg (by intro h;exact absurd h.1 (by decide))];exact if_pos ⟨by decide,by simpa using hA⟩,if_pos (show ¬ (2:Int)=0 by decide)]
  rw[decide_eq_false (not_not_intro hA)] at hb
  refine ab.pure hb rfl ?_
  exact qsZ
 rw[decide_eq_true hA] at hb
 refine ab.pure hb rfl ?_
 refine zgZ ?_
 refine ab.pure hs rfl ?_
 rw[if_neg (show ¬ ¬ aD 8 m M 0 w=0 by simp[aD,loK,hiK];omega)]
 by_cases he0:e.length=0
 ·have he0I:(e.length:Int)=0:=by omega
  rw[if_pos (by simp[aJ,he0]),show aJ 8 e.length f.length=4 by simp[aJ,he0]]
  simp(disch:=try exact dI) only[he0I,push_cast,seval]
 have he0I:¬ (e.length:Int)=0:=by omega
 by_cases he1:1<e.length
 ·have he1I:(1:Int)<(e.length:Int):=by omega
  rw[if_pos (by simp[aJ,he0,he1]),show aJ 8 e.length f.length=3 by simp[aJ,he0,he1]]
  simp(disch:=try exact dI) only[he0I,he1I,push_cast,seval]
 have he1I:¬ (1:Int)<(e.length:Int):=by omega
 rw[bH (fun h=>he0 h.2) hq2 (fun h=>he1 h.2)]
 generalize (if 64<f.length then 9 else aC 8 [] f)=L at hfl ⊢
 simp(disch:=try exact dI) only[he0I,he1I,push_cast,seval]
 refine ab.pure hfl rfl ?_
 exact qsZ
theorem DJ (hw:∀ x∈w,x.length<=140737488351232):am Tryz.prog az 125 [(Typ.mk 9 m M s w e f).pv] (.int .i64 (bm (.mk 9 m M s w e f))):=by
 have hi:=bf 9 1 10
 rw[show inB 9 1 10=true from rfl] at hi
 have hu:=bW m M s w e f 9 (by omega)
 have hj:=bf 9 2 8
 rw[show inB 9 2 8=false from rfl] at hj
 have hl:=iB 9 (by omega)
 have hs:=bf s 0 12
 have hfl:=bZ 9 m M s w e f
 simp only[Typ.pv_mk] at hu hfl
 rw[show bm (.mk 9 m M s w e f)=(if aY 9 (.mk 9 m M s w e f)=true then 3 else if ¬ aD 9 m M s w=0 then aD 9 m M s w else if ¬ aJ 9 e.length f.length=0 then aJ 9 e.length f.length else aC 9 [] f) from rfl]
 have hform:=bY (k:=9) (m:=m) (M:=M) (s:=s) (w:=w) (e:=e) (f:=f)
 generalize aY 9 (.mk 9 m M s w e f)=b at hu hform ⊢
 refine am.intro fU.2 (by simp[fU]) ?_
 simp(disch:=try exact dI) only[fU,Typ.pv_mk,push_cast,seval]
 refine ab.pure hi rfl ?_
 refine zgZ ?_
 refine ab.pure hu rfl ?_
 cases b with
 | true=>simp(disch:=try exact dI) only[push_cast,seval]
 | false=>
 have hbf:¬ false=true:=by decide
 rw[if_neg hbf]
 obtain⟨hf3,hf8,hf9⟩:=hform rfl
 obtain rfl:=hf3 (by omega)
 rw[show inB 0 0 12=true from rfl] at hs
 have he1I:¬ (1:Int)<(e.length:Int):=by have:=hf8 (by omega);omega
 have hq1:¬ ((9:Int)=8/\e.length=0):=fun h=>absurd h.1 (by decide)
 have hq3:¬ ((9:Int)=8/\1<e.length):=fun h=>absurd h.1 (by decide)
 have hq2:¬ ((9:Int)=10/\f.length=0):=fun h=>absurd h.1 (by decide)
 refine zgZ ?_
 refine ab.pure hl rfl ?_
 refine zgZ ?_
 refine ab.pure hj rfl ?_
 refine zgZ ?_
 refine ab.pure hs rfl ?_
 rw[if_neg (show ¬ ¬ aD 9 m M 0 w=0 by simp[aD])]
 rw[bH hq1 hq2 hq3]
 generalize (if 64<f.length then 9 else aC 9 [] f)=L at hfl ⊢
 simp(disch:=try exact dI) only[he1I,push_cast,seval]
 refine ab.pure hfl rfl ?_
 exact qsZ
theorem yO (hw:∀ x∈w,x.length<=140737488351232):am Tryz.prog az 125 [(Typ.mk 10 m M s w e f).pv] (.int .i64 (bm (.mk 10 m M s w e f))):=by
 have hi:=bf 10 1 10
 rw[show inB 10 1 10=true from rfl] at hi
 have hu:=bW m M s w e f 10 (by omega)
 have hj:=bf 10 2 8
 rw[show inB 10 2 8=false from rfl] at hj
 have hl:=iB 10 (by omega)
 have hs:=bf s 0 12
 have hfl:=bZ 10 m M s w e f
 simp only[Typ.pv_mk] at hu hfl
 rw[show bm (.mk 10 m M s w e f)=(if aY 10 (.mk 10 m M s w e f)=true then 3 else if ¬ aD 10 m M s w=0 then aD 10 m M s w else if ¬ aJ 10 e.length f.length=0 then aJ 10 e.length f.length else aC 10 [] f) from rfl]
 have hform:=bY (k:=10) (m:=m) (M:=M) (s:=s) (w:=w) (e:=e) (f:=f)
 generalize aY 10 (.mk 10 m M s w e f)=b at hu hform ⊢
 refine am.intro fU.2 (by simp[fU]) ?_
 simp(disch:=try exact dI) only[fU,Typ.pv_mk,push_cast,seval]
 refine ab.pure hi rfl ?_
 refine zgZ ?_
 refine ab.pure hu rfl ?_
 cases b with
 | true=>simp(disch:=try exact dI) only[push_cast,seval]
 | false=>
 have hbf:¬ false=true:=by decide
 rw[if_neg hbf]
 obtain⟨hf3,hf8,hf9⟩:=hform rfl
 obtain rfl:=hf3 (by omega)
 rw[show inB 0 0 12=true from rfl] at hs
 have he1I:¬ (1:Int)<(e.length:Int):=by have:=hf8 (by omega);omega
 have hq1:¬ ((10:Int)=8/\e.length=0):=fun h=>absurd h.1 (by decide)
 have hq3:¬ ((10:Int)=8/\1<e.length):=fun h=>absurd h.1 (by decide)
 refine zgZ ?_
 refine ab.pure hl rfl ?_
 refine zgZ ?_
 refine ab.pure hj rfl ?_
 refine zgZ ?_
 refine ab.pure hs rfl ?_
 rw[if_neg (show ¬ ¬ aD 10 m M 0 w=0 by simp[aD])]
 by_cases hf0:f.length=0
 ·have hf0I:(f.length:Int)=0:=by omega
  rw[if_pos (by simp[aJ,hf0]),show aJ 10 e.length f.length=4 by simp[aJ,hf0]]
  simp(disch:=try exact dI) only[hf0I,push_cast,seval]
 have hf0I:¬ (f.length:Int)=0:=by omega
 rw[bH hq1 (fun h=>hf0 h.2) hq3]
 generalize (if 64<f.length then 9 else aC 10 [] f)=L at hfl ⊢
 simp(disch:=try exact dI) only[he1I,hf0I,push_cast,seval]
 refine ab.pure hfl rfl ?_
 exact qsZ
theorem Lq (k:Int)(hw:∀ x∈w,x.length<=140737488351232):am Tryz.prog az 125 [(Typ.mk k m M s w e f).pv] (.int .i64 (bm (.mk k m M s w e f))):=by
 by_cases hk:inB k 1 10=false
 ·have hi:=bf k 1 10
  rw[hk] at hi
  rw[show bm (.mk k m M s w e f)=11 by simp[bm,hk]]
  refine am.intro fU.2 (by simp[fU]) ?_
  simp(disch:=try exact dI) only[fU,Typ.pv_mk,push_cast,seval]
  refine ab.pure hi rfl ?_
  exact qsZ
 ·have hr:1<=k/\k<=10:=by simpa[inB] using hk
  have hc:k=1\/k=2\/k=3\/k=4\/k=5\/k=6\/k=7\/k=8\/k=9\/k=10:=by omega
  clear hk hr
  rcases hc with rfl | rfl | rfl | rfl | rfl | rfl | rfl | rfl | rfl | rfl
  ·exact DR m M s w e f hw
  ·exact DQ m M s w e f hw
  ·exact DP m M s w e f hw
  ·exact DO m M s w e f hw
  ·exact DN m M s w e f hw
  ·exact DM m M s w e f hw
  ·exact DL m M s w e f hw
  ·exact DK m M s w e f hw
  ·exact DJ m M s w e f hw
  ·exact yO m M s w e f hw
end
end Go.Proofs.YtbojpfpliibfbaaGreatDoor

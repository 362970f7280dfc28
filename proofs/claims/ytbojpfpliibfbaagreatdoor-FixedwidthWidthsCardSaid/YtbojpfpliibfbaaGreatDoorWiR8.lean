/- A part of the proof for FixedwidthWidthsCardSaid. -/
import Derived.Test.YtbojpfpliibfbaaGreatDoorWiRK12
import Derived.Test.YtbojpfpliibfbaaGreatDoorWiF
import Derived.Test.YtbojpfpliibfbaaGreatDoorWiRD2
import Derived.Test.YtbojpfpliibfbaaGreatDoorWiR12
import Derived.Test.YtbojpfpliibfbaaGreatDoorWiRUh
import Derived.Test.YtbojpfpliibfbaaGreatDoorWiRSh
import Derived.Test.YtbojpfpliibfbaaGreatDoorWiCore6
set_option maxRecDepth 100000
set_option linter.unusedVariables false
set_option linter.unusedSimpArgs false
-- many steps
namespace Go.Proofs.YtbojpfpliibfbaaGreatDoor
open Go Go.Ab
attribute [local irreducible] vc
theorem wv (a:Int):dr Tryz.prog aD 1 54 [.ptr 0 0,.pv (.int .i64 a),.pv (.int .i64 0)] [.cells 94 true [.pv (.int .i64 0),.pv (.int .i64 0)]] (.pv (.tup [])) [.cells 94 true [.pv (.int .i64 0),.pv (.int .i64 0)]]:=by
 refine dr.intro J1 (by simp[F54]) ?_
 simp(maxSteps:=9^7) (disch:=try exact dI) only[F54,push_cast,seval]
 exact ba [] qsZ
theorem rF1 (sz:Nat)(l:List PV):iw sz l 1=iz sz l 1 l[1]?:=_root_.id rfl
theorem rF2 (sz:Nat)(l:List PV):iw sz l 2=iz sz l 2 l[2]?:=_root_.id rfl
theorem kE (cs:List PV):ec [PV.agg cs]=cs.map AV.pv:=by simp[ec,PV.cells]
def fc0:List PV:=[.str [105,100],.int .i64 2,.int .i64 7,.int .i64 0,.str [],.nils,.nils]
def fc1:List PV:=[.str [110,97,109,101],.int .i64 4,.int .i64 0,.int .i64 0,.str [97,98],.nils,.nils]
def fc2:List PV:=[.str [100,97,121],.int .i64 6,.int .i64 20773,.int .i64 0,.str [],.nils,.nils]
def Hm (i:Nat):List AV:=((if i=0 then [] else if i=1 then fc0 else if i=2 then fc0++fc1 else fc0++(fc1++fc2)):List PV).map .pv
theorem CH:Hm 0=[]:=rfl
theorem CG:Hm 1=fc0.map .pv:=rfl
theorem CF:Hm 2=(fc0++fc1).map .pv:=rfl
theorem H6:Hm 3=(fc0++(fc1++fc2)).map .pv:=rfl
theorem M3:KR 7 3 5 (.cells 60 false (Hm 3))=some (.list [.agg fc0,.agg fc1,.agg fc2],[5]):=by kernel_rfl
set_option maxHeartbeats 4000000 in
theorem BY:ae Tryz.prog aD 17 [KS,HB,E9] (.tup [IU,.int .i64 0,.int .i64 0]):=by
 have h20:=Id
 have h35:=DC [3,5,10] (by decide)
 rw[show KU [3,5,10]=false by decide,if_neg (by decide),if_neg (by decide),show tw [3,5,10]=18 from rfl,show PV.list (l9 [3,5,10])=HB from rfl] at h35
 have h36:=IQ [32,32,55,97,98,32,32,32,50,48,50,54,45,49,49,45,49,54] 18
 rw[show Fk ([32,32,55,97,98,32,32,32,50,48,50,54,45,49,49,45,49,54]:List UInt8).length 18=0 from rfl] at h36
 have h37:=FE [32,32,55,97,98,32,32,32,50,48,50,54,45,49,49,45,49,54] (jq [3,5,10])
 have hseq:=xb [32,32,55,97,98,32,32,32,50,48,50,54,45,49,49,45,49,54] [3,5,10] (by decide) (by decide) (by decide)
 have ha:ae Tryz.prog aD 53 [.str [32,32,55],.agg [.int .i64 1,.str [105,100],.int .i64 1,.int .i64 2,.int .i64 0,.int .i64 999,.int .i64 0,.nils,.nils,.nils,.nils]] (.tup [.agg [.int .i64 2,.int .i64 7,.int .i64 0,.str [],.nils,.nils],.int .i64 0]):=Jh
 have hb:ae Tryz.prog aD 53 [.str [97,98,32,32,32],.agg [.int .i64 2,.str [110,97,109,101],.int .i64 2,.int .i64 4,.int .i64 1,.int .i64 5,.int .i64 0,.nils,.nils,.nils,.nils]] (.tup [.agg [.int .i64 4,.int .i64 0,.int .i64 0,.str [97,98],.nils,.nils],.int .i64 0]):=Jg
 have hc:ae Tryz.prog aD 53 [.str [50,48,50,54,45,49,49,45,49,54],.agg [.int .i64 3,.str [100,97,121],.int .i64 1,.int .i64 6,.int .i64 0,.int .i64 30000,.int .i64 0,.nils,.nils,.nils,.nils]] (.tup [.agg [.int .i64 6,.int .i64 20773,.int .i64 0,.str [],.nils,.nils],.int .i64 0]):=Jf
 have hr:ae Tryz.prog aD 55 [.list [.agg fc0,.agg fc1,.agg fc2]] IU:=zm
 have hi0:(fD [32,32,55,97,98,32,32,32,50,48,50,54,45,49,49,45,49,54] [3,5,10])[0]? = some [.int .i64 0,.str [32,32,55]]:=by kernel_rfl
 have hi1:(fD [32,32,55,97,98,32,32,32,50,48,50,54,45,49,49,45,49,54] [3,5,10])[1]? = some [.int .i64 3,.str [97,98,32,32,32]]:=by kernel_rfl
 have hi2:(fD [32,32,55,97,98,32,32,32,50,48,50,54,45,49,49,45,49,54] [3,5,10])[2]? = some [.int .i64 8,.str [50,48,50,54,45,49,49,45,49,54]]:=by kernel_rfl
 have hlx:(fD [32,32,55,97,98,32,32,32,50,48,50,54,45,49,49,45,49,54] [3,5,10]).length=3:=rfl
 generalize hX:fD [32,32,55,97,98,32,32,32,50,48,50,54,45,49,49,45,49,54] [3,5,10]=X at *
 have hw:HB = .list (jq [3,5,10]):=rfl
 simp only[E9]
 refine ae.intro KB (by simp[F17]) ?_
 simp(maxSteps:=9^7) (disch:=try exact dI) only[F17,KS,IV,push_cast,seval]
 refine ab.pure h20 rfl ?_
 simp(maxSteps:=9^7) (disch:=try exact dI) only[push_cast,seval]
 refine ab.pure h35 rfl ?_
 simp(maxSteps:=9^7) (disch:=try exact dI) only[push_cast,seval]
 refine ab.pure h36 rfl ?_
 simp(maxSteps:=9^7) (disch:=try exact dI) only[push_cast,seval]
 refine ab.pure h37 rfl ?_
 simp(maxSteps:=9^7) (disch:=try exact dI) only[push_cast,seval]
 refine sO ([(14,1,1000060,7)]) (fun i:Nat=>[]) (fun i:Nat=>[(2,.cells 34 true [.row 5 7 0 i]),(3,.cells 3 true [.pv (.int .i64 (i:Int))]),(5,.cells 60 false (Hm i))]) (fun j i=>j=i∧i≤3) (0) (hseq) ?_;intro e0 σ0 n0 h0;simp(maxSteps:=9^7) (disch:=try exact dI) only[push_cast,seval] at h0;obtain⟨rfl,rfl,rfl⟩:=h0;refine⟨?_,?_,?_,?_,?_⟩
 ·simp(maxSteps:=9^7) (disch:=try exact dI) only[CH,push_cast,seval]
 ·exact⟨rfl,by omega⟩
 ·rfl
 ·rintro j i y hy ⟨hij,hi⟩
  subst hij
  have hj3:j<3:=by have:=(List.getElem?_eq_some_iff.1 hy).1;omega
  have hjc:j=0∨j=1∨j=2:=by omega
  clear hr h20 h35 h36 h37 hseq
  rcases hjc with rfl | rfl | rfl
  ·rw[hi0] at hy
   obtain rfl:=Option.some.inj hy
   refine⟨rfl,?_⟩
   simp(maxSteps:=9^7) (disch:=try exact dI) only[CH,aJ,push_cast,seval]
   refine ab.pure ha rfl ?_
   simp(maxSteps:=9^7) (disch:=try exact dI) only[push_cast,seval]
   refine ab.lentK (wv 0) [4] rfl qsZ qsZ ?_
   simp(maxSteps:=9^7) (disch:=try exact dI) only[aJ,kE,List.map_cons,List.map_nil,List.cons_append,List.nil_append,List.drop_succ_cons,List.drop_zero,push_cast,seval]
   exact⟨1,aV (by simp(maxSteps:=9^7) (disch:=try exact dI) only[CG,fc0,push_cast,seval]),rfl,by omega⟩
  ·rw[hi1] at hy
   obtain rfl:=Option.some.inj hy
   refine⟨rfl,?_⟩
   simp(maxSteps:=9^7) (disch:=try exact dI) only[CG,fc0,rF1,push_cast,seval]
   refine ab.pure hb rfl ?_
   simp(maxSteps:=9^7) (disch:=try exact dI) only[push_cast,seval]
   refine ab.lentK (wv 3) [4] rfl qsZ qsZ ?_
   simp(maxSteps:=9^7) (disch:=try exact dI) only[rF1,kE,List.map_cons,List.map_nil,List.cons_append,List.nil_append,List.drop_succ_cons,List.drop_zero,push_cast,seval]
   exact⟨2,aV (by simp(maxSteps:=9^7) (disch:=try exact dI) only[CF,fc0,fc1,push_cast,seval]),rfl,by omega⟩
  ·rw[hi2] at hy
   obtain rfl:=Option.some.inj hy
   refine⟨rfl,?_⟩
   simp(maxSteps:=9^7) (disch:=try exact dI) only[CF,fc0,fc1,rF2,push_cast,seval]
   refine ab.pure hc rfl ?_
   simp(maxSteps:=9^7) (disch:=try exact dI) only[push_cast,seval]
   refine ab.lentK (wv 8) [4] rfl qsZ qsZ ?_
   simp(maxSteps:=9^7) (disch:=try exact dI) only[rF2,kE,List.map_cons,List.map_nil,List.cons_append,List.nil_append,List.drop_succ_cons,List.drop_zero,push_cast,seval]
   exact⟨3,aV (by simp(maxSteps:=9^7) (disch:=try exact dI) only[H6,fc0,fc1,fc2,push_cast,seval]),rfl,by omega⟩
 ·rintro j ⟨hj,hi⟩
  rw[hlx] at hj
  subst hj
  simp(maxSteps:=9^7) (disch:=try exact dI) only[M3,push_cast,seval]
  refine ab.pure hr rfl ?_
  simp(maxSteps:=9^7) (disch:=try exact dI) only[IU,push_cast,seval]
end Go.Proofs.YtbojpfpliibfbaaGreatDoor
namespace Go.Proofs.YtbojpfpliibfbaaGreatDoor
open Go Go.Ab
def Lx (f:Nat)(ps:List PV):Option PV:=
 match f with
 | 17=>match ps with
   | [a,b,c]=>if eqP 8 a KS=true∧eqP 8 b HB=true∧eqP 8 c E9=true then some (.tup [IU,.int .i64 0,.int .i64 0]) else none
   | _=>none
 | f=>Ly f ps
theorem EI:∀ f ps r,Lx f ps=some r→ae Tryz.prog aD f ps r:=by
 intro f ps r h
 unfold Lx at h
 split at h
 ·split at h
  ·split at h
   ·rename_i hh
    cases h
    rw[mj _ _ _ hh.1,mj _ _ _ hh.2.1,mj _ _ _ hh.2.2]
    exact BY
   ·cases h
  ·cases h
 ·exact fO _ _ _ h
theorem M5:uF (exF (CE.map gFn) Lx aD 5000 60) 11 []=some (.bool true):=by kernel_rfl
theorem kB:ae Tryz.prog aD 11 [] (.bool true):=ae.of_ex (jz jA) EI M5
end Go.Proofs.YtbojpfpliibfbaaGreatDoor
-- many steps
namespace Go.Proofs.YtbojpfpliibfbaaGreatDoor
open Go Go.Ab
attribute [local irreducible] vc
theorem DR {t:Typ}(h:scB t.kind=true):dZ t=false:=by
 cases hb:dZ t with
 | false=>rfl
 | true=>
   have h9:=(kH hb).1
   rw[h9] at h;cases h
set_option maxHeartbeats 4000000 in
theorem IG (t:Typ)(ht:t.ok)(he:¬ gK t=0):ae Tryz.prog aD 9 [t.pv] (.bool true):=by
 have hk:=kB
 have h28:=kO t ht
 have h27:=kY t ht
 have hfe:flE t=gK t:=if_neg he
 have h23:=f6 t ht (by rw[hfe];exact he)
 have hwe:x9 t=gK t:=if_neg he
 rw[Hj,hwe,if_neg he] at h27
 rw[hfe] at h23
 generalize gK t=z at *
 obtain⟨k,m,M,s,w,e,f⟩:=t
 simp only[Typ.pv_mk] at h23 h27 h28
 refine ae.intro Cp (by simp[F9]) ?_
 simp(maxSteps:=9^7) (disch:=try exact dI) only[F9,Typ.pv_mk,push_cast,seval]
 refine ab.pure h27 rfl ?_
 simp(maxSteps:=9^7) (disch:=try exact dI) only[push_cast,seval]
 refine ab.pure h23 rfl ?_
 simp(maxSteps:=9^7) (disch:=try exact dI) only[push_cast,seval]
 refine ab.pure hk rfl ?_
 simp(maxSteps:=9^7) (disch:=try exact dI) only[push_cast,seval]
 refine ab.pure h28 rfl ?_
 simp(maxSteps:=9^7) (disch:=try exact dI) only[he,push_cast,seval]
set_option maxHeartbeats 4000000 in
theorem ID (t:Typ)(ht:t.ok)(he:gK t=0)(hs:scB t.kind=true):ae Tryz.prog aD 9 [t.pv] (.bool true):=by
 have hk:=kB
 have h28:=kO t ht
 have h27:=kY t ht
 have hfe:flE t=11:=by rw[flE,if_pos he,DR hs];rfl
 have h23:=f6 t ht (by rw[hfe];decide)
 have hwe:x9 t=0:=by rw[x9,if_pos he,if_pos hs]
 have h29:=gY t.kind
 have h30:=(sE (tF he) ht hs).2
 rw[Hj,hwe,if_pos rfl] at h27
 rw[hfe] at h23
 rw[he] at h28
 rw[hs] at h29
 generalize fa t=W at *
 clear he hs hfe hwe
 obtain⟨k,m,M,s,w,e,f⟩:=t
 simp only[Typ.pv_mk,Typ.kind] at h23 h27 h28 h29 h30
 refine ae.intro Cp (by simp[F9]) ?_
 simp(maxSteps:=9^7) (disch:=try exact dI) only[F9,Typ.pv_mk,push_cast,seval]
 refine ab.pure h27 rfl ?_
 simp(maxSteps:=9^7) (disch:=try exact dI) only[push_cast,seval]
 refine ab.pure h23 rfl ?_
 simp(maxSteps:=9^7) (disch:=try exact dI) only[push_cast,seval]
 refine ab.pure hk rfl ?_
 simp(maxSteps:=9^7) (disch:=try exact dI) only[push_cast,seval]
 refine ab.pure h28 rfl ?_
 simp(maxSteps:=9^7) (disch:=try exact dI) only[push_cast,seval]
 refine ab.pure h29 rfl ?_
 simp(maxSteps:=9^7) (disch:=try exact dI) only[push_cast,seval]
 refine ab.pure h30 rfl ?_
 simp(maxSteps:=9^7) (disch:=try exact dI) only[push_cast,seval]
set_option maxHeartbeats 4000000 in
theorem IE (t:Typ)(ht:t.ok)(he:gK t=0)(hs:scB t.kind=false)(hf:dZ t=false):ae Tryz.prog aD 9 [t.pv] (.bool true):=by
 have hk:=kB
 have h28:=kO t ht
 have h27:=kY t ht
 have hfe:flE t=11:=by rw[flE,if_pos he,hf];rfl
 have h23:=f6 t ht (by rw[hfe];decide)
 have hwe:x9 t=11:=by rw[x9,if_pos he,hs];rfl
 have h29:=gY t.kind
 have h31:=Dd t ht
 rw[Hj,hwe,if_neg (by decide)] at h27
 rw[hfe] at h23
 rw[he] at h28
 rw[hs] at h29
 rw[hf] at h31
 clear he hs hfe hwe hf
 obtain⟨k,m,M,s,w,e,f⟩:=t
 simp only[Typ.pv_mk,Typ.kind] at h23 h27 h28 h29 h31
 refine ae.intro Cp (by simp[F9]) ?_
 simp(maxSteps:=9^7) (disch:=try exact dI) only[F9,Typ.pv_mk,push_cast,seval]
 refine ab.pure h27 rfl ?_
 simp(maxSteps:=9^7) (disch:=try exact dI) only[push_cast,seval]
 refine ab.pure h23 rfl ?_
 simp(maxSteps:=9^7) (disch:=try exact dI) only[push_cast,seval]
 refine ab.pure hk rfl ?_
 simp(maxSteps:=9^7) (disch:=try exact dI) only[push_cast,seval]
 refine ab.pure h28 rfl ?_
 simp(maxSteps:=9^7) (disch:=try exact dI) only[push_cast,seval]
 refine ab.pure h29 rfl ?_
 simp(maxSteps:=9^7) (disch:=try exact dI) only[push_cast,seval]
 refine ab.pure h31 rfl ?_
 simp(maxSteps:=9^7) (disch:=try exact dI) only[push_cast,seval]
set_option maxHeartbeats 4000000 in
theorem IF (t:Typ)(ht:t.ok)(he:gK t=0)(hf:dZ t=true):ae Tryz.prog aD 9 [t.pv] (.bool true):=by
 have hk:=kB
 have h28:=kO t ht
 have h27:=kY t ht
 have hs:scB t.kind=false:=by rw[(kH hf).1];rfl
 have hfe:flE t=0:=by rw[flE,if_pos he,if_pos hf]
 have h23:=od t ht hfe
 have hwe:x9 t=11:=by rw[x9,if_pos he,hs];rfl
 have h29:=gY t.kind
 have h31:=Dd t ht
 have hw:=fun g hg=>(wm he ht hf g hg).2
 rw[Hj,hwe,if_neg (by decide)] at h27
 rw[he] at h28
 rw[hs] at h29
 rw[hf] at h31
 clear he hs hfe hwe hf
 obtain⟨k,m,M,s,w,e,f⟩:=t
 rw[Typ.ok_mk] at ht
 have hfl:f.length≤9000000000000:=by omega
 clear ht
 simp only[Typ.pv_mk,Typ.kind,Typ.fields] at h23 h27 h28 h29 h31 hw
 have hsame:ae Tryz.prog aD 32 [.list (jm f),.list (jm f)] (.bool true):=by
  have:=HN (f.map fun g=>fa g.typ) (by rw[List.length_map];exact hfl)
  rw[List.map_map] at this
  exact this
 refine ae.intro Cp (by simp[F9]) ?_
 simp(maxSteps:=9^7) (disch:=try exact dI) only[F9,Typ.pv_mk,push_cast,seval]
 refine ab.pure h27 rfl ?_
 simp(maxSteps:=9^7) (disch:=try exact dI) only[push_cast,seval]
 refine ab.pure h23 rfl ?_
 simp(maxSteps:=9^7) (disch:=try exact dI) only[push_cast,seval]
 refine ab.pure hk rfl ?_
 simp(maxSteps:=9^7) (disch:=try exact dI) only[push_cast,seval]
 refine ab.pure h28 rfl ?_
 simp(maxSteps:=9^7) (disch:=try exact dI) only[push_cast,seval]
 refine ab.pure h29 rfl ?_
 simp(maxSteps:=9^7) (disch:=try exact dI) only[push_cast,seval]
 refine ab.pure h31 rfl ?_
 simp(maxSteps:=9^7) (disch:=try exact dI) only[push_cast,seval]
 refine aA ([(8,0,3,1)]) (fun i:Nat=>[(8,.olist 1 1 (jm (f.take i))),(9,.pv (.int .i64 (i:Int)))]) (fun _=>[]) (fun i=>i≤f.length) (fun i=>f.length - i) (0) ?_;intro e0 σ0 n0 h0;simp(maxSteps:=9^7) (disch:=try exact dI) only[push_cast,seval] at h0;obtain⟨rfl,rfl,rfl⟩:=h0;refine⟨?_,?_,?_⟩
 ·simp(maxSteps:=9^7) (disch:=try exact dI) only[jm,push_cast,seval]
 ·omega
 rintro i hi
 by_cases hlt:i<f.length
 ·have hltI:(i:Int)<(f.length:Int):=by omega
  obtain⟨g,hg⟩:∃ g,f[i]? = some g:=⟨_,List.getElem?_eq_getElem hlt⟩
  have hc:=hw g (List.mem_of_getElem? hg)
  have hst:=lf hg
  have hlen:(jm (f.take i)).length=i:=by rw[jm,List.length_map,List.length_take];omega
  obtain⟨n',nm',nd',⟨k',m',M',s',w',e',f'⟩,d'⟩:=g
  simp only[TFd.typ,Typ.pv_mk] at hc hst
  generalize fa (.mk k' m' M' s' w' e' f')=z at hc hst
  generalize jm (f.take i)=L at *
  simp(maxSteps:=9^7) (disch:=try exact dI) only[hg,Option.map_some,TFd.pv_mk,Typ.pv_mk,ag,push_cast,seval]
  refine ab.pure hc rfl ?_
  simp(maxSteps:=9^7) (disch:=try exact dI) only[hlen,push_cast,seval]
  exact⟨i+1,aV (by simp(maxSteps:=9^7) (disch:=try exact dI) only[hst,push_cast,seval]),by omega,by omega⟩
 ·obtain rfl:i=f.length:=by omega
  rw[List.take_length]
  have hlen:(jm f).length=f.length:=by rw[jm,List.length_map]
  generalize jm f=L at *
  simp(maxSteps:=9^7) (disch:=try exact dI) only[Int.lt_irrefl,hlen,push_cast,seval]
  refine ab.pure hsame rfl ?_
  simp(maxSteps:=9^7) (disch:=try exact dI) only[push_cast,seval]
theorem MZ (t:Typ)(ht:t.ok):ae Tryz.prog aD 9 [t.pv] (.bool true):=by
 by_cases he:gK t=0
 ·cases hf:dZ t with
  | true=>exact IF t ht he hf
  | false=>
    cases hs:scB t.kind with
    | true=>exact ID t ht he hs
    | false=>exact IE t ht he hs hf
 ·exact IG t ht he
end Go.Proofs.YtbojpfpliibfbaaGreatDoor
namespace Go.Proofs.YtbojpfpliibfbaaGreatDoor
open Go Go.Ab
theorem sD (p0:PV)(h0:HasT Tryz.prog 26 p0):ae Tryz.prog aD 9 [p0] (.bool true):=by
 obtain⟨t,rfl,ht⟩:=By h0
 exact MZ t ht
end Go.Proofs.YtbojpfpliibfbaaGreatDoor
namespace Go.Proofs.YtbojpfpliibfbaaGreatDoor
open Go Go.Ab Go.Lib Go.Proofs
theorem u8X:U8Extra Tryz.prog Tryz.lays196_ren:=⟨by kernel_rfl,by kernel_rfl,by kernel_rfl,by kernel_rfl,by kernel_rfl,by kernel_rfl,by kernel_rfl⟩
theorem BI {W:World}(h1:VarReads Tryz.prog W "unicode/utf8.first" firstData) (h2:VarReads Tryz.prog W "unicode/utf8.acceptRanges" acceptData)
  (h3:VarReads Tryz.prog W "internal/strconv.uint64pow10" (tabData .u64 pow10Tab)):cQ aD W (ma W):=by
 have hu:=utf8Tabs_of_readsT (U8Types.of196 Tryz.lays196) u8X h1 h2
 refine wg fun g hg=>?_
 unfold aD at hg ⊢
 by_cases e3:g=3
 ·subst e3
  exact p7 (t:=277) (e:=169) (m:=20) h3 (by kernel_rfl) (by kernel_rfl) (by kernel_rfl) (by kernel_rfl) (by kernel_rfl) (by kernel_rfl) (by kernel_rfl)
 rw[if_neg e3] at hg ⊢
 by_cases e1:g=1
 ·subst e1
  rw[if_pos rfl] at hg ⊢
  refine kf (t:=245) (e:=5) (m:=256) h1 (by kernel_rfl) (by kernel_rfl) (by kernel_rfl) (by kernel_rfl) fun o p hp=>?_
  rw[KI,List.getElem?_map,Option.map_eq_some_iff] at hp
  obtain⟨c,hc,rfl⟩:=hp
  obtain⟨hlt,hcc⟩:=List.getElem?_eq_some_iff.1 hc
  simp at hlt hcc
  subst hcc
  exact⟨_,_,rfl,hu.1 o hlt⟩
 rw[if_neg e1] at hg ⊢
 by_cases e2:g=2
 ·subst e2
  rw[if_pos rfl] at hg ⊢
  refine kf (t:=248) (e:=247) (m:=16) h2 (by kernel_rfl) (by kernel_rfl) (by kernel_rfl) (by kernel_rfl) fun o p hp=>?_
  rw[Hk,List.getElem?_map,Option.map_eq_some_iff] at hp
  obtain⟨c,hc,rfl⟩:=hp
  obtain⟨hlt,hcc⟩:=List.getElem?_eq_some_iff.1 hc
  simp at hlt hcc
  subst hcc
  have:=hu.2 (o / 2) (by omega)
  by_cases ho:o % 2=0
  ·rw[if_pos ho]
   refine⟨_,_,rfl,?_⟩
   have:=this.1
   rwa [show 2*(o / 2)=o by omega] at this
  ·rw[if_neg ho]
   refine⟨_,_,rfl,?_⟩
   have:=this.2
   rwa [show 2*(o / 2)+1=o by omega] at this
 rw[if_neg e2] at hg
 exact absurd rfl hg
end Go.Proofs.YtbojpfpliibfbaaGreatDoor

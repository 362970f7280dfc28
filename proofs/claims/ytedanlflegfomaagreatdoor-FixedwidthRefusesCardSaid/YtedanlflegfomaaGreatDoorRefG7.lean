/- A part of the proof for FixedwidthRefusesCardSaid. -/
import Derived.Test.YtedanlflegfomaaGreatDoorRefJ6
import Derived.Test.YtedanlflegfomaaGreatDoorRefGK12
import Derived.Test.YtedanlflegfomaaGreatDoorRefG5
import Derived.Test.YtedanlflegfomaaGreatDoorRefF
import Derived.Test.YtedanlflegfomaaGreatDoorRefGD2
import Derived.Test.YtedanlflegfomaaGreatDoorRefGSh
import Derived.Test.YtedanlflegfomaaGreatDoorCore6
set_option maxRecDepth 100000
set_option linter.unusedVariables false
set_option linter.unusedSimpArgs false
-- many steps
namespace Go.Proofs.YtedanlflegfomaaGreatDoor
open Go Go.Ab
attribute [local irreducible] vc
theorem B6 (s:List UInt8):aq Tryz.prog aA 12 [.str s] (.str (s.take 10000)):=by
 refine aq.intro HH (by simp[F12]) ?_
 by_cases h:s.length≤10000
 ·have hm:min (s.length:Int) 10000=(s.length:Int):=by omega
  rw[List.take_of_length_le h]
  simp(maxSteps:=9^7) (disch:=first|exact dI|fail) only[F12,hm,List.take_length,push_cast,seval]
 ·have hm:min (s.length:Int) 10000=10000:=by omega
  have hl:(10000:Int)≤(s.length:Int):=by omega
  simp(maxSteps:=9^7) (disch:=first|exact dI|fail) only[F12,hm,push_cast,seval]
theorem qh (w:List Int)(n:Nat):(bY w).take n=bY (w.take n):=by simp[bY]
theorem IV (w:List Int):aq Tryz.prog aA 13 [.list (bY w)] (.list (bY (w.take 70))):=by
 refine aq.intro HG (by simp[F13]) ?_
 rw[← qh]
 by_cases h:w.length≤70
 ·have hm:min (w.length:Int) 70=(w.length:Int):=by omega
  have e:(bY w).take 70=(bY w).take w.length:=by rw[List.take_of_length_le (by rw[aU];omega),List.take_of_length_le (by rw[aU];omega)]
  rw[e]
  simp(maxSteps:=9^7) (disch:=first|exact dI|fail) only[F13,hm,aU,push_cast,seval]
 ·have hm:min (w.length:Int) 70=70:=by omega
  have hl:(70:Int)≤(w.length:Int):=by omega
  simp(maxSteps:=9^7) (disch:=first|exact dI|fail) only[F13,hm,aU,push_cast,seval]
def ic (line:List UInt8)(v:List Nat):Nat→List UInt8
 | 0=>[]
 | n+1=>ic line v n++dQ line v n
theorem jj (line:List UInt8)(v:List Nat):∀ n,ic line v n=line.take (bP v n)
 | 0=>by simp[ic,bP]
 | n+1=>by
   rw[ic,jj line v n,dQ]
   have h:bP v n≤bP v (n+1):=by
    by_cases hlt:n<v.length
    ·obtain⟨x,hx⟩:∃ x,v[n]? = some x:=⟨_,List.getElem?_eq_getElem hlt⟩
     rw[dl hx];omega
    ·unfold bP;rw[List.take_of_length_le (by omega),List.take_of_length_le (by omega)];exact Nat.le_refl _
   have e:line.take (bP v n)=(line.take (bP v (n+1))).take (bP v n):=by rw[List.take_take,Nat.min_eq_left h]
   rw[e,List.take_append_drop]
theorem DP (line:List UInt8)(w:List Int)(hl:line.length≤10000)(hw:w.length≤70)(h8:aq Tryz.prog aA 8 [] (.bool true))(he:¬ oc line w=0)
  (h14:aq Tryz.prog aA 14 [.str line,.list (bY w)] (.tup [.nils,.int .i64 (oc line w)])):aq Tryz.prog aA 15 [.str line,.list (bY w)] (.tup [.nils,.int .i64 (oc line w)]):=by
 unfold oc at he ⊢
 by_cases hb:lA w=true
 ·rw[if_pos hb];exact sI line w (by omega) hb
 ·rw[if_neg hb] at he ⊢
  have hb':w.any rx=false∧w.length≤64:=by
   have:lA w=false:=by simpa using hb
   rw[lA,Bool.or_eq_false_iff] at this
   exact⟨this.2,by simpa using this.1⟩
  obtain⟨v,rfl,hs,hv⟩:=tT hb'.1
  rw[hs] at he ⊢
  have hne:¬ line.length=v.sum:=by
   intro h
   rw[h] at he
   exact he (by unfold fI;rw[if_neg (Int.lt_irrefl _),if_neg (Int.lt_irrefl _)])
  have:=nB line v (by omega) hv (by have:=hb'.2;rw[List.length_map] at this;exact this)
  rw[if_neg hne] at this
  rw[fg]
  exact this
set_option maxHeartbeats 4000000 in
theorem vN (h8:aq Tryz.prog aA 8 [] (.bool true))(s0:List UInt8)(w0:List Int):aq Tryz.prog aA 4 [.str s0,.list (bY w0)] (.bool true):=by
 have h12:=B6 s0
 have h13:=IV w0
 have hl:(s0.take 10000).length≤10000:=by rw[List.length_take];omega
 have hw:(w0.take 70).length≤70:=by rw[List.length_take];omega
 generalize s0.take 10000=line at *
 generalize w0.take 70=w at *
 by_cases he:oc line w=0
 ·have hb:¬ lA w=true:=fun hb=>by rw[oc,if_pos hb] at he;exact absurd he (by decide)
  have hb':w.any rx=false∧w.length≤64:=by
   have:lA w=false:=by simpa using hb
   rw[lA,Bool.or_eq_false_iff] at this
   exact⟨this.2,by simpa using this.1⟩
  obtain⟨v,rfl,hs,hv⟩:=tT hb'.1
  have hvl:v.length≤64:=by have:=hb'.2;rw[List.length_map] at this;exact this
  have hsum:v.sum=line.length:=by
   rw[oc,if_neg hb,hs,fI] at he
   by_cases c1:(line.length:Int)<(v.sum:Nat)
   ·rw[if_pos c1] at he;exact absurd he (by decide)
   ·rw[if_neg c1] at he
    by_cases c2:((v.sum:Nat):Int)<line.length
    ·rw[if_pos c2] at he;exact absurd he (by decide)
    ·omega
  have h14:=rn line v (by omega) he hvl hsum
  have h15:=nB line v (by omega) hv hvl
  rw[if_pos hsum.symm,show fI line.length ((v.sum:Nat):Int)=0 by unfold fI;rw[hsum,if_neg (Int.lt_irrefl _),if_neg (Int.lt_irrefl _)]] at h15
  rw[fg] at h13
  have hol:=jb line v v.length
  have hoa:∀ i,i<v.length→(pD line v v.length)[i]? = some (.str (dQ line v i)):=fun i hi=>by simp[pD,hi]
  have hj0:ic line v 0=[]:=rfl
  have hjl:ic line v v.length=line:=by rw[jj,nG,hsum,List.take_length]
  have hjn:∀ i,(ic line v i).length≤10000:=fun i=>by rw[jj,List.length_take];omega
  generalize pD line v v.length=L at *
  refine aq.intro Hl (by simp[F4]) ?_
  simp(maxSteps:=9^7) (disch:=first|exact dI|fail) only[F4,push_cast,seval]
  refine ae.pure h12 rfl ?_
  simp(maxSteps:=9^7) (disch:=first|exact dI|fail) only[push_cast,seval]
  refine ae.pure h13 rfl ?_
  simp(maxSteps:=9^7) (disch:=first|exact dI|fail) only[push_cast,seval]
  refine ae.pure h14 rfl ?_
  simp(maxSteps:=9^7) (disch:=first|exact dI|fail) only[push_cast,seval]
  refine ae.pure h15 rfl ?_
  simp(maxSteps:=9^7) (disch:=first|exact dI|fail) only[push_cast,seval]
  refine ae.pure h8 rfl ?_
  simp(maxSteps:=9^7) (disch:=first|exact dI|fail) only[push_cast,seval]
  refine az ([]) (fun i:Nat=>[(9,.pv (.str (ic line v i))),(10,.pv (.int .i64 (i:Int)))]) (fun _=>[]) (fun i=>i≤v.length) (fun i=>v.length - i) (0) ?_;intro e0 σ0 n0 h0;simp(maxSteps:=9^7) (disch:=first|exact dI|fail) only[push_cast,seval] at h0;obtain⟨rfl,rfl,rfl⟩:=h0;refine⟨?_,?_,?_⟩
  ·simp(maxSteps:=9^7) (disch:=first|exact dI|fail) only[hj0,push_cast,seval]
  ·omega
  rintro i hi
  by_cases hlt:i<v.length
  ·have hltI:(i:Int)<(v.length:Int):=by omega
   have hx:=hoa i hlt
   have hjs:ic line v i++dQ line v i=ic line v (i+1):=rfl
   have h1:=hjn i
   have h2:=hjn (i+1)
   rw[← hjs,List.length_append] at h2
   simp(maxSteps:=9^7) (disch:=first|exact dI|fail) only[hol,hx,hjs,push_cast,seval]
   exact⟨i+1,bl (by simp(maxSteps:=9^7) (disch:=first|exact dI|fail) only[push_cast,seval]),by omega,by omega⟩
  ·obtain rfl:i=v.length:=by omega
   simp(maxSteps:=9^7) (disch:=first|exact dI|fail) only[hol,hjl,Int.lt_irrefl,push_cast,seval]
 ·have h14:=wG line w (by omega) he
  have h15:=DP line w hl hw h8 he h14
  generalize oc line w=z at *
  refine aq.intro Hl (by simp[F4]) ?_
  simp(maxSteps:=9^7) (disch:=first|exact dI|fail) only[F4,push_cast,seval]
  refine ae.pure h12 rfl ?_
  simp(maxSteps:=9^7) (disch:=first|exact dI|fail) only[push_cast,seval]
  refine ae.pure h13 rfl ?_
  simp(maxSteps:=9^7) (disch:=first|exact dI|fail) only[push_cast,seval]
  refine ae.pure h14 rfl ?_
  simp(maxSteps:=9^7) (disch:=first|exact dI|fail) only[push_cast,seval]
  refine ae.pure h15 rfl ?_
  simp(maxSteps:=9^7) (disch:=first|exact dI|fail) only[push_cast,seval]
  refine ae.pure h8 rfl ?_
  simp(maxSteps:=9^7) (disch:=first|exact dI|fail) only[push_cast,seval]
  refine az ([]) (fun i:Nat=>[(10,.pv (.int .i64 (i:Int)))]) (fun _=>[]) (fun i=>i=0) (fun i=>1 - i) (0) ?_;intro e0 σ0 n0 h0;simp(maxSteps:=9^7) (disch:=first|exact dI|fail) only[push_cast,seval] at h0;obtain⟨rfl,rfl,rfl⟩:=h0;refine⟨?_,?_,?_⟩
  ·simp(maxSteps:=9^7) (disch:=first|exact dI|fail) only[push_cast,seval]
  ·rfl
  rintro i rfl
  simp(maxSteps:=9^7) (disch:=first|exact dI|fail) only[he,Int.lt_irrefl,push_cast,seval]
end Go.Proofs.YtedanlflegfomaaGreatDoor
set_option maxRecDepth 100000
set_option linter.unusedVariables false
set_option linter.unusedSimpArgs false
-- many steps
namespace Go.Proofs.YtedanlflegfomaaGreatDoor
open Go Go.Ab
attribute [local irreducible] vc
theorem u9 (a:Int):bu Tryz.prog aA 1 39 [.ptr 0 0,.pv (.int .i64 a),.pv (.int .i64 0)] [.cells 88 true [.pv (.int .i64 0),.pv (.int .i64 0)]] (.pv (.tup [])) [.cells 88 true [.pv (.int .i64 0),.pv (.int .i64 0)]]:=by
 refine bu.intro BJ (by simp[F39]) ?_
 simp(maxSteps:=9^7) (disch:=first|exact dI|fail) only[F39,push_cast,seval]
 exact aJ [] (by simp(maxSteps:=9^7) (disch:=first|exact dI|fail) only[push_cast,seval])
theorem rF1 (sz:Nat)(l:List PV):fF sz l 1=gu sz l 1 l[1]?:=_root_.id rfl
theorem rF2 (sz:Nat)(l:List PV):fF sz l 2=gu sz l 2 l[2]?:=_root_.id rfl
theorem jo (cs:List PV):b9 [PV.agg cs]=cs.map AV.pv:=by simp[b9,PV.cells]
def fc0:List PV:=[.str [105,100],.int .i64 2,.int .i64 7,.int .i64 0,.str [],.nils,.nils]
def fc1:List PV:=[.str [110,97,109,101],.int .i64 4,.int .i64 0,.int .i64 0,.str [97,98],.nils,.nils]
def fc2:List PV:=[.str [100,97,121],.int .i64 6,.int .i64 20773,.int .i64 0,.str [],.nils,.nils]
def EG (i:Nat):List AV:=((if i=0 then [] else if i=1 then fc0 else if i=2 then fc0++fc1 else fc0++(fc1++fc2)):List PV).map .pv
theorem Bh:EG 0=[]:=rfl
theorem Bg:EG 1=fc0.map .pv:=rfl
theorem Bf:EG 2=(fc0++fc1).map .pv:=rfl
theorem Fo:EG 3=(fc0++(fc1++fc2)).map .pv:=rfl
theorem JJ:Dp 7 3 5 (.cells 34 false (EG 3))=some (.list [.agg fc0,.agg fc1,.agg fc2],[5]):=by kernel_rfl
set_option maxHeartbeats 4000000 in
theorem Ak:aq Tryz.prog aA 10 [HX,EU,Da] (.tup [Ga,.int .i64 0,.int .i64 0]):=by
 have h20:=Fw
 have h35:=iV [3,5,10] (by decide)
 rw[show lA [3,5,10]=false by decide,if_neg (by decide),if_neg (by decide),show iq [3,5,10]=18 from rfl,show PV.list (bY [3,5,10])=EU from rfl] at h35
 have h36:=n7 [32,32,55,97,98,32,32,32,50,48,50,54,45,49,49,45,49,54] 18
 rw[show fI ([32,32,55,97,98,32,32,32,50,48,50,54,45,49,49,45,49,54]:List UInt8).length 18=0 from rfl] at h36
 have h37:=m8 [32,32,55,97,98,32,32,32,50,48,50,54,45,49,49,45,49,54] (cw [3,5,10])
 have hseq:=gX [32,32,55,97,98,32,32,32,50,48,50,54,45,49,49,45,49,54] [3,5,10] (by decide) (by decide) (by decide)
 have ha:aq Tryz.prog aA 38 [.str [32,32,55],.agg [.int .i64 1,.str [105,100],.int .i64 1,.int .i64 2,.int .i64 0,.int .i64 999,.int .i64 0,.nils,.nils,.nils,.nils]] (.tup [.agg [.int .i64 2,.int .i64 7,.int .i64 0,.str [],.nils,.nils],.int .i64 0]):=GA
 have hb:aq Tryz.prog aA 38 [.str [97,98,32,32,32],.agg [.int .i64 2,.str [110,97,109,101],.int .i64 2,.int .i64 4,.int .i64 1,.int .i64 5,.int .i64 0,.nils,.nils,.nils,.nils]] (.tup [.agg [.int .i64 4,.int .i64 0,.int .i64 0,.str [97,98],.nils,.nils],.int .i64 0]):=Gz
 have hc:aq Tryz.prog aA 38 [.str [50,48,50,54,45,49,49,45,49,54],.agg [.int .i64 3,.str [100,97,121],.int .i64 1,.int .i64 6,.int .i64 0,.int .i64 30000,.int .i64 0,.nils,.nils,.nils,.nils]] (.tup [.agg [.int .i64 6,.int .i64 20773,.int .i64 0,.str [],.nils,.nils],.int .i64 0]):=Gy
 have hr:aq Tryz.prog aA 40 [.list [.agg fc0,.agg fc1,.agg fc2]] Ga:=xV
 have hi0:(bN [32,32,55,97,98,32,32,32,50,48,50,54,45,49,49,45,49,54] [3,5,10])[0]? = some [.int .i64 0,.str [32,32,55]]:=by kernel_rfl
 have hi1:(bN [32,32,55,97,98,32,32,32,50,48,50,54,45,49,49,45,49,54] [3,5,10])[1]? = some [.int .i64 3,.str [97,98,32,32,32]]:=by kernel_rfl
 have hi2:(bN [32,32,55,97,98,32,32,32,50,48,50,54,45,49,49,45,49,54] [3,5,10])[2]? = some [.int .i64 8,.str [50,48,50,54,45,49,49,45,49,54]]:=by kernel_rfl
 have hlx:(bN [32,32,55,97,98,32,32,32,50,48,50,54,45,49,49,45,49,54] [3,5,10]).length=3:=rfl
 generalize hX:bN [32,32,55,97,98,32,32,32,50,48,50,54,45,49,49,45,49,54] [3,5,10]=X at *
 have hw:EU = .list (cw [3,5,10]):=rfl
 simp only[Da]
 refine aq.intro BK (by simp[F10]) ?_
 simp(maxSteps:=9^7) (disch:=first|exact dI|fail) only[F10,HX,Gb,push_cast,seval]
 refine ae.pure h20 rfl ?_
 simp(maxSteps:=9^7) (disch:=first|exact dI|fail) only[push_cast,seval]
 refine ae.pure h35 rfl ?_
 simp(maxSteps:=9^7) (disch:=first|exact dI|fail) only[push_cast,seval]
 refine ae.pure h36 rfl ?_
 simp(maxSteps:=9^7) (disch:=first|exact dI|fail) only[push_cast,seval]
 refine ae.pure h37 rfl ?_
 simp(maxSteps:=9^7) (disch:=first|exact dI|fail) only[push_cast,seval]
 refine rP ([(14,1,1000034,7)]) (fun i:Nat=>[]) (fun i:Nat=>[(2,.cells 30 true [.row 5 7 0 i]),(3,.cells 3 true [.pv (.int .i64 (i:Int))]),(5,.cells 34 false (EG i))]) (fun j i=>j=i∧i≤3) (0) (hseq) ?_;intro e0 σ0 n0 h0;simp(maxSteps:=9^7) (disch:=first|exact dI|fail) only[push_cast,seval] at h0;obtain⟨rfl,rfl,rfl⟩:=h0;refine⟨?_,?_,?_,?_,?_⟩
 ·simp(maxSteps:=9^7) (disch:=first|exact dI|fail) only[Bh,push_cast,seval]
 ·exact⟨rfl,by omega⟩
 ·rfl
 ·rintro j i y hy ⟨hij,hi⟩
  subst hij
  have hj3:j<3:=by have:=(List.getElem?_eq_some_iff.1 hy).1;omega
  have hjc:j=0∨j=1∨j=2:=by omega
  clear hr h20 h35 h36 h37 hseq
  rcases hjc with rfl | rfl | rfl
  ·rw[hi0] at hy
   obtain rfl:=Option.some.inj hy
   refine⟨rfl,?_⟩
   simp(maxSteps:=9^7) (disch:=first|exact dI|fail) only[Bh,aK,push_cast,seval]
   refine ae.pure ha rfl ?_
   simp(maxSteps:=9^7) (disch:=first|exact dI|fail) only[push_cast,seval]
   refine ae.lentK (u9 0) [4] rfl (by simp(maxSteps:=9^7) (disch:=first|exact dI|fail) only[push_cast,seval]) (by simp(maxSteps:=9^7) (disch:=first|exact dI|fail) only[push_cast,seval]) ?_
   simp(maxSteps:=9^7) (disch:=first|exact dI|fail) only[aK,jo,List.map_cons,List.map_nil,List.cons_append,List.nil_append,List.drop_succ_cons,List.drop_zero,push_cast,seval]
   exact⟨1,bl (by simp(maxSteps:=9^7) (disch:=first|exact dI|fail) only[Bg,fc0,push_cast,seval]),rfl,by omega⟩
  ·rw[hi1] at hy
   obtain rfl:=Option.some.inj hy
   refine⟨rfl,?_⟩
   simp(maxSteps:=9^7) (disch:=first|exact dI|fail) only[Bg,fc0,rF1,push_cast,seval]
   refine ae.pure hb rfl ?_
   simp(maxSteps:=9^7) (disch:=first|exact dI|fail) only[push_cast,seval]
   refine ae.lentK (u9 3) [4] rfl (by simp(maxSteps:=9^7) (disch:=first|exact dI|fail) only[push_cast,seval]) (by simp(maxSteps:=9^7) (disch:=first|exact dI|fail) only[push_cast,seval]) ?_
   simp(maxSteps:=9^7) (disch:=first|exact dI|fail) only[rF1,jo,List.map_cons,List.map_nil,List.cons_append,List.nil_append,List.drop_succ_cons,List.drop_zero,push_cast,seval]
   exact⟨2,bl (by simp(maxSteps:=9^7) (disch:=first|exact dI|fail) only[Bf,fc0,fc1,push_cast,seval]),rfl,by omega⟩
  ·rw[hi2] at hy
   obtain rfl:=Option.some.inj hy
   refine⟨rfl,?_⟩
   simp(maxSteps:=9^7) (disch:=first|exact dI|fail) only[Bf,fc0,fc1,rF2,push_cast,seval]
   refine ae.pure hc rfl ?_
   simp(maxSteps:=9^7) (disch:=first|exact dI|fail) only[push_cast,seval]
   refine ae.lentK (u9 8) [4] rfl (by simp(maxSteps:=9^7) (disch:=first|exact dI|fail) only[push_cast,seval]) (by simp(maxSteps:=9^7) (disch:=first|exact dI|fail) only[push_cast,seval]) ?_
   simp(maxSteps:=9^7) (disch:=first|exact dI|fail) only[rF2,jo,List.map_cons,List.map_nil,List.cons_append,List.nil_append,List.drop_succ_cons,List.drop_zero,push_cast,seval]
   exact⟨3,bl (by simp(maxSteps:=9^7) (disch:=first|exact dI|fail) only[Fo,fc0,fc1,fc2,push_cast,seval]),rfl,by omega⟩
 ·rintro j ⟨hj,hi⟩
  rw[hlx] at hj
  subst hj
  simp(maxSteps:=9^7) (disch:=first|exact dI|fail) only[JJ,push_cast,seval]
  refine ae.pure hr rfl ?_
  simp(maxSteps:=9^7) (disch:=first|exact dI|fail) only[Ga,push_cast,seval]
end Go.Proofs.YtedanlflegfomaaGreatDoor
set_option maxRecDepth 100000
set_option linter.unusedVariables false
namespace Go.Proofs.YtedanlflegfomaaGreatDoor
open Go Go.Ab
def Io (f:Nat)(ps:List PV):Option PV:=
 match f with
 | 10=>match ps with
   | [a,b,c]=>if eqP 8 a HX=true∧eqP 8 b EU=true∧eqP 8 c Da=true then some (.tup [Ga,.int .i64 0,.int .i64 0]) else none
   | _=>none
 | f=>HS f ps
theorem CL:∀ f ps r,Io f ps=some r→aq Tryz.prog aA f ps r:=by
 intro f ps r h
 unfold Io at h
 split at h
 ·split at h
  ·split at h
   ·rename_i hh
    cases h
    rw[kV _ _ _ hh.1,kV _ _ _ hh.2.1,kV _ _ _ hh.2.2]
    exact Ak
   ·cases h
  ·cases h
 ·exact cR _ _ _ h
theorem JL:px (exF (su.map gFn) Io aA 5000 60) 8 []=some (.bool true):=by kernel_rfl
theorem uA:aq Tryz.prog aA 8 [] (.bool true):=aq.of_ex (eo ep) CL JL
theorem cells_of (p0 p1:PV)(h0:HasT Tryz.prog 9 p0)(h1:HasT Tryz.prog 38 p1):aq Tryz.prog aA 4 [p0,p1] (.bool true):=by
 obtain⟨s,rfl,_⟩:=nV h0 Tryz.underlying9
 obtain⟨w,rfl,_,_⟩:=zv (f:=PV.int .i64) (Q:=I64) h1 Tryz.underlying38 I0 (fun x hx=>zO hx Tryz.underlying3)
 exact vN uA s w
end Go.Proofs.YtedanlflegfomaaGreatDoor
set_option maxRecDepth 100000
set_option linter.unusedVariables false
namespace Go.Proofs.YtedanlflegfomaaGreatDoor
open Go Go.Ab
theorem o0 (p0:PV)(h0:HasT Tryz.prog 9 p0):aq Tryz.prog aA 3 [p0] (.bool true):=by
 obtain⟨s,rfl,_⟩:=nV h0 Tryz.underlying9
 exact lW uA s
end Go.Proofs.YtedanlflegfomaaGreatDoor
set_option maxRecDepth 100000
namespace Go.Proofs.YtedanlflegfomaaGreatDoor
open Go Go.Ab Go.Lib Go.Proofs
theorem u8X:U8Extra Tryz.prog Tryz.lays196_ren:=⟨by kernel_rfl,by kernel_rfl,by kernel_rfl,by kernel_rfl,by kernel_rfl,by kernel_rfl,by kernel_rfl⟩
theorem zP {W:World}(h1:VarReads Tryz.prog W "unicode/utf8.first" firstData) (h2:VarReads Tryz.prog W "unicode/utf8.acceptRanges" acceptData)
  (h3:VarReads Tryz.prog W "internal/strconv.uint64pow10" (tabData .u64 pow10Tab)):dz aA W (kM W):=by
 have hu:=utf8Tabs_of_readsT (U8Types.of196 Tryz.lays196) u8X h1 h2
 refine uP fun g hg=>?_
 unfold aA at hg ⊢
 by_cases e3:g=3
 ·subst e3
  exact oK (t:=268) (e:=162) (m:=20) h3 (by kernel_rfl) (by kernel_rfl) (by kernel_rfl) (by kernel_rfl) (by kernel_rfl) (by kernel_rfl) (by kernel_rfl)
 rw[if_neg e3] at hg ⊢
 by_cases e1:g=1
 ·subst e1
  rw[if_pos rfl] at hg ⊢
  refine iX (t:=231) (e:=5) (m:=256) h1 (by kernel_rfl) (by kernel_rfl) (by kernel_rfl) (by kernel_rfl) fun o p hp=>?_
  rw[HN,List.getElem?_map,Option.map_eq_some_iff] at hp
  obtain⟨c,hc,rfl⟩:=hp
  obtain⟨hlt,hcc⟩:=List.getElem?_eq_some_iff.1 hc
  simp at hlt hcc
  subst hcc
  exact⟨_,_,rfl,hu.1 o hlt⟩
 rw[if_neg e1] at hg ⊢
 by_cases e2:g=2
 ·subst e2
  rw[if_pos rfl] at hg ⊢
  refine iX (t:=234) (e:=233) (m:=16) h2 (by kernel_rfl) (by kernel_rfl) (by kernel_rfl) (by kernel_rfl) fun o p hp=>?_
  rw[EE,List.getElem?_map,Option.map_eq_some_iff] at hp
  obtain⟨c,hc,rfl⟩:=hp
  obtain⟨hlt,hcc⟩:=List.getElem?_eq_some_iff.1 hc
  simp at hlt hcc
  subst hcc
  have:=hu.2 (o / 2) (by omega)
  by_cases ho:o % 2=0
  ·rw[if_pos ho]
   refine⟨_,_,rfl,?_⟩
   have:=this.1
   rwa [show 2*(o / 2)=o by omega] at this
  ·rw[if_neg ho]
   refine⟨_,_,rfl,?_⟩
   have:=this.2
   rwa [show 2*(o / 2)+1=o by omega] at this
 rw[if_neg e2] at hg
 exact absurd rfl hg
end Go.Proofs.YtedanlflegfomaaGreatDoor

/- A part of the proof. -/
import Derived.Test.YtbojpfpliibfbaaGreatDoorMxRX8
set_option maxHeartbeats 16000000
set_option maxRecDepth 100000
set_option linter.unusedVariables false
namespace Go.Proofs.YtbojpfpliibfbaaGreatDoor
open Go Go.Ab
def eqL (p:PV->PV->Bool):List PV->List PV->Bool
 | [],[]=>true
 | x::r,y::q=>p x y&&eqL p r q
 | _,_=>false
def eqP:Nat->PV->PV->Bool
 | n+1,.int k a,.int k' b=>decide (k=k')&&decide (a=b)
 | n+1,.str a,.str b=>decide (a=b)
 | n+1,.nils,.nils=>true
 | n+1,.agg a,.agg b=>eqL (eqP n) a b
 | n+1,.list a,.list b=>eqL (eqP n) a b
 | _,_,_=>false
theorem Dj {p:PV->PV->Bool}(hp:∀ x y,p x y=true->x=y):∀ a b,eqL p a b=true->a=b
 | [],[],_=>rfl
 | x::r,y::q,h=>by
   simp only[eqL,Bool.and_eq_true] at h
   rw[hp x y h.1,Dj hp r q h.2]
 | [],y::q,h=>by simp[eqL] at h
 | x::r,[],h=>by simp[eqL] at h
theorem pD:∀ n x y,eqP n x y=true->x=y
 | 0,x,y,h=>by simp[eqP] at h
 | n+1,x,y,h=>by
   unfold eqP at h
   split at h
   ·simp only[Bool.and_eq_true,decide_eq_true_eq] at h;rw[h.1,h.2]
   ·simp only[decide_eq_true_eq] at h;rw[h]
   ·rfl
   ·rw[Dj (pD _) _ _ h]
   ·rw[Dj (pD _) _ _ h]
   ·cases h
def Pp:List PV:=[.agg [.int .i64 1,.str [105,100],.int .i64 1,.int .i64 2,.int .i64 0,.int .i64 999,.int .i64 0,.nils,.nils,.nils,.nils],.agg [.int .i64 2,.str [110,97,109,101],.int .i64 2,.int .i64 4,.int .i64 1,.int .i64 5,.int .i64 0,.nils,.nils,.nils,.nils],.agg [.int .i64 3,.str [100,97,121],.int .i64 1,.int .i64 6,.int .i64 0,.int .i64 30000,.int .i64 0,.nils,.nils,.nils,.nils]]
def Q5:PV:=.agg [.int .i64 9,.int .i64 0,.int .i64 0,.int .i64 0,.nils,.nils,.list Pp]
def T5:List PV:=[.agg [.str [105,100],.int .i64 2,.int .i64 7,.int .i64 0,.str [],.nils,.nils],.agg [.str [110,97,109,101],.int .i64 4,.int .i64 0,.int .i64 0,.str [97,98],.nils,.nils],.agg [.str [100,97,121],.int .i64 6,.int .i64 20773,.int .i64 0,.str [],.nils,.nils]]
def Po:PV:=.agg [.int .i64 9,.int .i64 0,.int .i64 0,.str [],.nils,.list [.agg [.str [100,97,121],.int .i64 6,.int .i64 20773,.int .i64 0,.str [],.nils,.nils],.agg [.str [105,100],.int .i64 2,.int .i64 7,.int .i64 0,.str [],.nils,.nils],.agg [.str [110,97,109,101],.int .i64 4,.int .i64 0,.int .i64 0,.str [97,98],.nils,.nils]]]
def LM:PV:=.str [32,32,55,97,98,32,32,32,50,48,50,54,45,49,49,45,49,54]
def NN:PV:=.list [.int .i64 3,.int .i64 5,.int .i64 10]
def RO (f:Nat)(ps:List PV):Option PV:=
 match f with
 | 137=>match ps with
   | [.int .i64 n]=>if -9223372036854775808<=n/\n<=9223372036854775807 then some (.str (fX n)) else none
   | _=>none
 | 113=>match ps with
   | [.str a,.str b]=>some (.int .i64 (Lib.compareBytes a b))
   | _=>none
 | 207=>match ps with
   | [.str a]=>some (.bool (Lib.validD a))
   | _=>none
 | 45=>match ps with
   | [.str a,.int .i64 n]=>if 0<=n/\n<=9223372036854775807/\a.length*n.toNat<=140737488355328 then some (.str (Lib.repeatL a n.toNat)) else none
   | _=>none
 | _=>none
theorem ik:∀ f ps r,RO f ps=some r->ag Tryz.prog aq f ps r:=by
 intro f ps r h
 unfold RO at h
 split at h
 ·split at h
  ·split at h
   ·rename_i hh;cases h;exact r6 _ hh.1 hh.2
   ·cases h
  ·cases h
 ·split at h
  ·cases h;exact xJ _ _
  ·cases h
 ·split at h
  ·cases h;exact dv _
  ·cases h
 ·split at h
  ·split at h
   ·rename_i hh;cases h;exact jU _ _ hh.1 hh.2.1 hh.2.2
   ·cases h
  ·cases h
 ·cases h
noncomputable def gFn (p:Nat×List Nat):TabRow:=⟨p.1,p.2,(cFn Tryz.prog p.2 p.1).getD ⟨0,[],.skip⟩⟩
theorem lK {l:List (Nat×List Nat)}(h:(l.all fun p=>(cFn Tryz.prog p.2 p.1).isSome)=true):∀ r∈l.map gFn,cFn Tryz.prog r.muts r.f=some r.fn:=by
 intro r hr
 obtain⟨p,hp,rfl⟩:=List.mem_map.1 hr
 have h:=List.all_eq_true.1 h p hp
 simp only[gFn]
 cases h':cFn Tryz.prog p.2 p.1 with
 | some x=>rfl
 | none=>rw[h'] at h;cases h
def IW:List (Nat×List Nat):=[(14,[]),(11,[]),(12,[]),(42,[]),(43,[]),(44,[]),(39,[]),(46,[14]),(47,[]),(23,[]),(33,[]),(53,[]),(55,[33]),(34,[]),(35,[]),(36,[]),(37,[]),(81,[]),(82,[]),(83,[]),(85,[]),(87,[]),(88,[]),(91,[]),(92,[]),(77,[]),(78,[]),(79,[]),(97,[19]),(105,[]),(106,[]),(107,[]),(108,[]),(109,[]),(110,[]),(111,[]),(112,[]),(69,[]),(74,[]),(76,[]),(135,[]),(136,[]),(138,[]),(139,[]),(140,[]),(141,[]),(142,[]),(143,[]),(145,[]),(146,[]),(132,[]),(133,[]),(149,[]),(156,[]),(160,[]),(164,[]),(165,[]),(166,[]),(168,[]),(170,[]),(171,[]),(123,[]),(124,[]),(129,[]),(130,[]),(195,[]),(193,[]),(196,[]),(197,[]),(198,[]),(199,[]),(206,[44]),(210,[]),(211,[]),(212,[]),(213,[]),(215,[]),(224,[]),(258,[]),(228,[]),(178,[]),(179,[]),(181,[]),(242,[]),(247,[]),(248,[12]),(250,[]),(251,[]),(252,[]),(229,[]),(230,[]),(232,[]),(277,[]),(278,[]),(259,[]),(304,[])]
theorem lL:(IW.all fun p=>(cFn Tryz.prog p.2 p.1).isSome)=true:=by kernel_rfl
theorem PX:ag Tryz.prog aq 53 [.str [32,32,55],Pp.getD 0 .undef] (.tup [.agg [.int .i64 2,.int .i64 7,.int .i64 0,.str [],.nils,.nils],.int .i64 0]):=ag.of_ex (m:=5000) (n:=60) (lK lL) ik (by kernel_rfl)
theorem PW:ag Tryz.prog aq 53 [.str [97,98,32,32,32],Pp.getD 1 .undef] (.tup [.agg [.int .i64 4,.int .i64 0,.int .i64 0,.str [97,98],.nils,.nils],.int .i64 0]):=ag.of_ex (m:=5000) (n:=60) (lK lL) ik (by kernel_rfl)
theorem PU:ag Tryz.prog aq 53 [.str [50,48,50,54,45,49,49,45,49,54],Pp.getD 2 .undef] (.tup [.agg [.int .i64 6,.int .i64 20773,.int .i64 0,.str [],.nils,.nils],.int .i64 0]):=ag.of_ex (m:=5000) (n:=60) (lK lL) ik (by kernel_rfl)
theorem FW:ag Tryz.prog aq 55 [.list T5] Po:=ag.of_ex (m:=5000) (n:=60) (lK lL) ik (by kernel_rfl)
theorem Ov:ag Tryz.prog aq 12 [Q5,NN] (.int .i64 0):=ag.of_ex (m:=5000) (n:=60) (lK lL) ik (by kernel_rfl)
set_option linter.unusedSimpArgs false
attribute [local irreducible] vc
theorem Dd (a:Int):bO Tryz.prog aq 1 54 [.ptr 0 0,.pv (.int .i64 a),.pv (.int .i64 0)] [.cells 94 true [.pv (.int .i64 0),.pv (.int .i64 0)]] (.pv (.tup [])) [.cells 94 true [.pv (.int .i64 0),.pv (.int .i64 0)]]:=by
 refine bO.intro Q54.2 (by simp[Q54]) ?_
 simp(maxSteps:=9^7) (disch:=try exact dI) only[Q54,push_cast,seval]
 exact aM [] qsZ
theorem rF1 (sz:Nat)(l:List PV):e6 sz l 1=eH sz l 1 l[1]?:=_root_.id rfl
theorem rF2 (sz:Nat)(l:List PV):e6 sz l 2=eH sz l 2 l[2]?:=_root_.id rfl
theorem nt (cs:List PV):ba [PV.agg cs]=cs.map AV.pv:=by simp[ba,PV.cells]
def fc0:List PV:=[.str [105,100],.int .i64 2,.int .i64 7,.int .i64 0,.str [],.nils,.nils]
def fc1:List PV:=[.str [110,97,109,101],.int .i64 4,.int .i64 0,.int .i64 0,.str [97,98],.nils,.nils]
def fc2:List PV:=[.str [100,97,121],.int .i64 6,.int .i64 20773,.int .i64 0,.str [],.nils,.nils]
def Nf (i:Nat):List AV:=((if i=0 then [] else if i=1 then fc0 else if i=2 then fc0++fc1 else fc0++(fc1++fc2)):List PV).map .pv
theorem IZ:Nf 0=[]:=rfl
theorem IY:Nf 1=fc0.map .pv:=rfl
theorem IX:Nf 2=(fc0++fc1).map .pv:=rfl
theorem Ok:Nf 3=(fc0++(fc1++fc2)).map .pv:=rfl
theorem T4:Jk 7 3 5 (.cells 60 false (Nf 3))=some (.list [.agg fc0,.agg fc1,.agg fc2],[5]):=by kernel_rfl
theorem HY:ag Tryz.prog aq 17 [Q5,NN,LM] (.tup [Po,.int .i64 0,.int .i64 0]):=by
 have h20:=Ov
 have h35:=qE [3,5,10] (by decide)
 rw[show Id [3,5,10]=false by decide,if_neg (by decide),if_neg (by decide),show ja [3,5,10]=18 from rfl,show PV.list (db [3,5,10])=NN from rfl] at h35
 have h36:=C4 [32,32,55,97,98,32,32,32,50,48,50,54,45,49,49,45,49,54] 18
 rw[show nv ([32,32,55,97,98,32,32,32,50,48,50,54,45,49,49,45,49,54]:List UInt8).length 18=0 from rfl] at h36
 have h37:=DY [32,32,55,97,98,32,32,32,50,48,50,54,45,49,49,45,49,54] (cr [3,5,10])
 have hseq:=pO [32,32,55,97,98,32,32,32,50,48,50,54,45,49,49,45,49,54] [3,5,10] (by decide) (by decide) (by decide)
 have ha:ag Tryz.prog aq 53 [.str [32,32,55],.agg [.int .i64 1,.str [105,100],.int .i64 1,.int .i64 2,.int .i64 0,.int .i64 999,.int .i64 0,.nils,.nils,.nils,.nils]] (.tup [.agg [.int .i64 2,.int .i64 7,.int .i64 0,.str [],.nils,.nils],.int .i64 0]):=PX
 have hb:ag Tryz.prog aq 53 [.str [97,98,32,32,32],.agg [.int .i64 2,.str [110,97,109,101],.int .i64 2,.int .i64 4,.int .i64 1,.int .i64 5,.int .i64 0,.nils,.nils,.nils,.nils]] (.tup [.agg [.int .i64 4,.int .i64 0,.int .i64 0,.str [97,98],.nils,.nils],.int .i64 0]):=PW
 have hc:ag Tryz.prog aq 53 [.str [50,48,50,54,45,49,49,45,49,54],.agg [.int .i64 3,.str [100,97,121],.int .i64 1,.int .i64 6,.int .i64 0,.int .i64 30000,.int .i64 0,.nils,.nils,.nils,.nils]] (.tup [.agg [.int .i64 6,.int .i64 20773,.int .i64 0,.str [],.nils,.nils],.int .i64 0]):=PU
 have hr:ag Tryz.prog aq 55 [.list [.agg fc0,.agg fc1,.agg fc2]] Po:=FW
 have hi0:(dt [32,32,55,97,98,32,32,32,50,48,50,54,45,49,49,45,49,54] [3,5,10])[0]? = some [.int .i64 0,.str [32,32,55]]:=by kernel_rfl
 have hi1:(dt [32,32,55,97,98,32,32,32,50,48,50,54,45,49,49,45,49,54] [3,5,10])[1]? = some [.int .i64 3,.str [97,98,32,32,32]]:=by kernel_rfl
 have hi2:(dt [32,32,55,97,98,32,32,32,50,48,50,54,45,49,49,45,49,54] [3,5,10])[2]? = some [.int .i64 8,.str [50,48,50,54,45,49,49,45,49,54]]:=by kernel_rfl
 have hlx:(dt [32,32,55,97,98,32,32,32,50,48,50,54,45,49,49,45,49,54] [3,5,10]).length=3:=rfl
 generalize hX:dt [32,32,55,97,98,32,32,32,50,48,50,54,45,49,49,45,49,54] [3,5,10]=X at *
 have hw:NN = .list (cr [3,5,10]):=rfl
 simp only[LM]
 refine ag.intro Q17.2 (by simp[Q17]) ?_
 simp(maxSteps:=9^7) (disch:=try exact dI) only[Q17,Q5,Pp,push_cast,seval]
 refine ab.pure h20 rfl ?_
 simp(maxSteps:=9^7) (disch:=try exact dI) only[push_cast,seval]
 refine ab.pure h35 rfl ?_
 simp(maxSteps:=9^7) (disch:=try exact dI) only[push_cast,seval]
 refine ab.pure h36 rfl ?_
 simp(maxSteps:=9^7) (disch:=try exact dI) only[push_cast,seval]
 refine ab.pure h37 rfl ?_
 simp(maxSteps:=9^7) (disch:=try exact dI) only[push_cast,seval]
 refine sQ ([(14,1,1000060,7)]) (fun i:Nat=>[]) (fun i:Nat=>[(2,.cells 34 true [.row 5 7 0 i]),(3,.cells 3 true [.pv (.int .i64 (i:Int))]),(5,.cells 60 false (Nf i))]) (fun j i=>j=i/\i<=3) (0) (hseq) ?_;intro e0 σ0 n0 h0;simp(maxSteps:=9^7) (disch:=try exact dI) only[push_cast,seval] at h0;obtain⟨rfl,rfl,rfl⟩:=h0;refine⟨?_,?_,?_,?_,?_⟩
 ·simp(maxSteps:=9^7) (disch:=try exact dI) only[IZ,push_cast,seval]
 ·exact⟨rfl,by omega⟩
 ·rfl
 ·rintro j i y hy ⟨hij,hi⟩
  subst hij
  have hj3:j<3:=by have:=(List.getElem?_eq_some_iff.1 hy).1;omega
  have hjc:j=0\/j=1\/j=2:=by omega
  clear hr h20 h35 h36 h37 hseq
  rcases hjc with rfl | rfl | rfl
  ·rw[hi0] at hy
   obtain rfl:=Option.some.inj hy
   refine⟨rfl,?_⟩
   simp(maxSteps:=9^7) (disch:=try exact dI) only[IZ,aD,push_cast,seval]
   refine ab.pure ha rfl ?_
   simp(maxSteps:=9^7) (disch:=try exact dI) only[push_cast,seval]
   refine ab.lentK (Dd 0) [4] rfl qsZ qsZ ?_
   simp(maxSteps:=9^7) (disch:=try exact dI) only[aD,nt,List.map_cons,List.map_nil,List.cons_append,List.nil_append,List.drop_succ_cons,List.drop_zero,push_cast,seval]
   exact⟨1,aV (by simp(maxSteps:=9^7) (disch:=try exact dI) only[IY,fc0,push_cast,seval]),rfl,by omega⟩
  ·rw[hi1] at hy
   obtain rfl:=Option.some.inj hy
   refine⟨rfl,?_⟩
   simp(maxSteps:=9^7) (disch:=try exact dI) only[IY,fc0,rF1,push_cast,seval]
   refine ab.pure hb rfl ?_
   simp(maxSteps:=9^7) (disch:=try exact dI) only[push_cast,seval]
   refine ab.lentK (Dd 3) [4] rfl qsZ qsZ ?_
   simp(maxSteps:=9^7) (disch:=try exact dI) only[rF1,nt,List.map_cons,List.map_nil,List.cons_append,List.nil_append,List.drop_succ_cons,List.drop_zero,push_cast,seval]
   exact⟨2,aV (by simp(maxSteps:=9^7) (disch:=try exact dI) only[IX,fc0,fc1,push_cast,seval]),rfl,by omega⟩
  ·rw[hi2] at hy
   obtain rfl:=Option.some.inj hy
   refine⟨rfl,?_⟩
   simp(maxSteps:=9^7) (disch:=try exact dI) only[IX,fc0,fc1,rF2,push_cast,seval]
   refine ab.pure hc rfl ?_
   simp(maxSteps:=9^7) (disch:=try exact dI) only[push_cast,seval]
   refine ab.lentK (Dd 8) [4] rfl qsZ qsZ ?_
   simp(maxSteps:=9^7) (disch:=try exact dI) only[rF2,nt,List.map_cons,List.map_nil,List.cons_append,List.nil_append,List.drop_succ_cons,List.drop_zero,push_cast,seval]
   exact⟨3,aV (by simp(maxSteps:=9^7) (disch:=try exact dI) only[Ok,fc0,fc1,fc2,push_cast,seval]),rfl,by omega⟩
 ·rintro j ⟨hj,hi⟩
  rw[hlx] at hj
  subst hj
  simp(maxSteps:=9^7) (disch:=try exact dI) only[T4,push_cast,seval]
  refine ab.pure hr rfl ?_
  simp(maxSteps:=9^7) (disch:=try exact dI) only[Po,push_cast,seval]
theorem TV {T:Nat}{p:PV}{g:Nat}{lb:List PV}{xs:List (List PV)}(h:Nq Tryz.prog aq g lb xs):Nq Tryz.prog (bR T p) g lb xs:=by
 have key:∀ g,aq g≠[]->bR T p g=aq g:=by
  intro g hg
  unfold bR
  by_cases h0:g=4
  ·subst h0;exact absurd rfl hg
  ·rw[if_neg h0]
 refine⟨h.1,fun w imm lbv l J Jx O hG h1 h2 h3 h4 h5 hy hJ=>h.2 w imm lbv l J Jx O (Pd hG) h1 h2 h3 h4 h5 (fun m i x O W vals imm' kp a b c d e f g'=>?_) hJ⟩
 refine (hy m i x O W vals imm' kp a b c d e f g').mono ?_
 rintro e W' (⟨a1,a2,a3,a4,a5⟩ | hh)
 ·refine .inl ⟨a1,a2,a3,a4,fun g hg=>?_⟩
  have:=a5 g (by rw[key g hg];exact hg)
  rwa [key g hg] at this
 ·exact .inr hh
theorem RU {T:Nat}{p:PV}{k f:Nat}{args:List AV}{bs:List Blk}{v:AV}{bs':List Blk}(h:bO Tryz.prog aq k f args bs v bs'):bO Tryz.prog (bR T p) k f args bs v bs':=by
 have key:∀ g,aq g≠[]->bR T p g=aq g:=by
  intro g hg
  unfold bR
  by_cases h0:g=4
  ·subst h0;exact absurd rfl hg
  ·rw[if_neg h0]
 obtain⟨hc,h⟩:=h
 refine⟨hc,fun κ vals hS hf hsz hv=>?_⟩
 have hS1:SRel (bP κ (fun r=>lookB r (bE bs 0)) aq) κ (fun r=>lookB r (bE bs 0)):=by
  refine⟨hS.blk,hS.apart,hS.mine,hS.immLt,fun g o p hp=>hS.glob.1 g o p ?_,fun g hg=>?_⟩
  ·show (bR T _ g)[o]? = some p
   have hp':(aq g)[o]? = some p:=hp
   rw[key g (by intro e;rw[e] at hp';simp at hp')];exact hp'
  ·have hg':aq g≠[]:=hg
   have:=hS.glob.2 g (show bR T _ g≠[] by rw[key g hg'];exact hg')
   obtain⟨h1,h2,cs,T',fz,h3,h4⟩:=this
   exact⟨h1,h2,cs,T',fz,h3,h4.trans (congrArg List.length (key g hg'))⟩
 refine (h κ vals hS1 hf hsz hv).mono ?_
 rintro e w' ⟨u,v',κ',sto',next',h1,h2,he,hL,hv',hS',hf',hQ⟩
 exact⟨u,v',κ',sto',next',h1,h2,he,⟨hL.os,hL.tape,hL.output,hL.size,hL.block,hL.imm⟩,hv',⟨hS'.blk,hS'.apart,hS'.mine,hS'.immLt,SRel.glob_ext (κ:=κ.cut k) he hS.glob hL.block⟩,hf',hQ⟩
theorem Pj (a e b z:Int):bO Tryz.prog aq 1 54 [.ptr 0 0,.pv (.int .i64 b),.pv (.int .i64 z)] [.cells 94 true [.pv (.int .i64 a),.pv (.int .i64 e)]] (.pv (.tup [])) [.cells 94 true [.pv (.int .i64 (if e=0 then (if z=0 then a else b) else a)),.pv (.int .i64 (if e=0 then z else e))]]:=by
 refine bO.intro Q54.2 (by simp[Q54]) ?_
 by_cases h1:e=0
 ·subst h1
  rw[if_pos rfl,if_pos rfl]
  by_cases h2:z=0
  ·subst h2
   rw[if_pos rfl]
   simp(maxSteps:=9^7) (disch:=try exact dI) only[Q54,push_cast,seval]
   exact aM [] qsZ
  ·rw[if_neg h2]
   simp(maxSteps:=9^7) (disch:=try exact dI) only[Q54,h2,push_cast,seval]
   exact aM [] qsZ
 ·rw[if_neg h1,if_neg h1]
  simp(maxSteps:=9^7) (disch:=try exact dI) only[Q54,h1,push_cast,seval]
  exact aM [] qsZ
theorem NR (v:Val):∃ (a b c:Int) (d:List UInt8) (p q:PV),v.pv = .agg [.int .i64 a,.int .i64 b,.int .i64 c,.str d,p,q]/\p.one=true/\q.one=true:=by
 obtain⟨k,n,s,t,l,f⟩:=v
 exact⟨k,n,s,t,.list (l.map Val.pv),.list (f.map Fld.pv),by rw[Val.pv_mk],rfl,rfl⟩
theorem jH (k n s:Int)(t:List UInt8):∃ (a b c:Int) (d:List UInt8) (p q:PV),i8 k n s t = .agg [.int .i64 a,.int .i64 b,.int .i64 c,.str d,p,q]/\p.one=true/\q.one=true:=⟨k,n,s,t,.nils,.nils,rfl,rfl,rfl⟩
theorem sx (g:TFd)(s:List UInt8):∃ (a b c:Int) (d:List UInt8) (p q:PV),MH g s = .agg [.int .i64 a,.int .i64 b,.int .i64 c,.str d,p,q]/\p.one=true/\q.one=true:=by
 unfold MH
 split
 ·unfold yP
  split
  ·exact jH _ _ _ _
  ·split
   ·exact jH 0 0 0 []
   ·split
    ·unfold Ms
     split
     ·exact jH 0 0 0 []
     ·exact NR _
    ·exact jH 0 0 0 []
 ·obtain⟨a,b,c,d,h⟩:=IM g.typ.kind (rdR g.typ (cx g.typ.kind s))
  rw[h];exact jH _ _ _ _
def fC (x:TFd×List UInt8):PV:=.agg (.str x.1.name::(MH x.1 x.2).cells)
theorem Pm (x:TFd×List UInt8):∃ cs,fC x = .agg cs/\cs.length=7/\∀ q∈cs,q.one=true:=by
 obtain⟨a,b,c,d,p,q,h,hp,hq⟩:=sx x.1 x.2
 refine⟨_,rfl,by rw[h];rfl,fun y hy=>?_⟩
 rw[h] at hy
 simp only[PV.cells,List.mem_cons,List.not_mem_nil,or_false] at hy
 rcases hy with rfl | rfl | rfl | rfl | rfl | rfl | rfl<;>first | rfl | assumption
def eV (L:List (TFd×List UInt8)):List PV:=L.flatMap fun x=>(fC x).cells
theorem vz (L:List (TFd×List UInt8)):ba (L.map fC)=(eV L).map AV.pv:=by
 induction L with
 | nil=>rfl
 | cons x r ih=>
   have:ba ((x::r).map fC)=(fC x).cells.map AV.pv++ba (r.map fC):=by simp[ba]
   rw[this,ih];simp[eV]
theorem Ax (L:List (TFd×List UInt8)):(eV L).length=L.length*7:=by
 induction L with
 | nil=>rfl
 | cons x r ih=>
   have hx:(fC x).cells.length=7:=by obtain⟨cs,h,h2,_⟩:=Pm x;rw[h];exact h2
   rw[show eV (x::r)=(fC x).cells++eV r by simp[eV],List.length_append,hx,ih,List.length_cons];omega
theorem vw (L:List (TFd×List UInt8))(x:TFd×List UInt8):eV (L++[x])=eV L++(fC x).cells:=by simp[eV]
end Go.Proofs.YtbojpfpliibfbaaGreatDoor

/- A part of the proof. -/
import Derived.Test.YtbojpfpliibfbaaGreatDoorEnRE9
set_option maxHeartbeats 16000000
set_option maxRecDepth 100000
set_option linter.unusedVariables false
set_option linter.unusedSimpArgs false
-- many steps
namespace Go.Proofs.YtbojpfpliibfbaaGreatDoor
open Go Go.Ab
attribute [local irreducible] vc
theorem sw {v:Val}{T:TFd->List UInt8}:∀ (f:List TFd) (w:List Int) (acc:List UInt8),f.length=w.length->(∀ g∈f,FTx v g (T g))->(∀ (i:Nat) (g:TFd) (n:Int),f[i]? = some g->w[i]? = some n->ii g n=0)->(np T f w acc).2=0->((np T f w acc).1.length:Int)=acc.length+ib w
 | [],[],acc,_,_,_,_=>by simp[np,ib]
 | [],_::_,_,hl,_,_,_=>by simp at hl
 | _::_,[],_,hl,_,_,_=>by simp at hl
 | g::f,n::w,acc,hl,hT,hst,h=>by
   rw[np] at h ⊢
   by_cases c:g.typ.kind=4/\wrB (T g)=false
   ·rw[if_pos c] at h;cases h
   ·rw[if_neg c] at h ⊢
    obtain⟨h1,h2,h3⟩:=fD (hst 0 g n rfl rfl)
    have hp:=mA g.typ.kind (T g) n (qZ (hT g (List.mem_cons_self ..)) h1 h3)
    have ih:=sw f w (acc++yI g.typ.kind (T g) n) (by simpa using hl) (fun x hx=>hT x (List.mem_cons_of_mem _ hx)) (fun i g' n' a b=>hst (i+1) g' n' a b) h
    rw[ih,List.length_append,show ib (n::w)=n+ib w by simp[ib]]
    omega
theorem wc (t:Typ)(ht:t.ok)(w:List Int)(v:Val)(he:¬ nk t w=0):am Tryz.prog az 14 [t.pv,.list (cn w),v.pv] (.tup [.str [],.int .i64 (nk t w)]):=by
 have h12:=xN t ht w
 generalize nk t w=z at *
 obtain⟨k,m,M,s,wd,e,f⟩:=t
 obtain⟨vk,vn,vs,vt,vl,vf⟩:=v
 simp only[Typ.pv_mk,Val.pv_mk] at h12 ⊢
 refine am.intro Q14.2 (by simp[Q14]) ?_
 simp(disch:=try exact dI) only[Q14,push_cast,seval]
 refine ab.pure h12 rfl ?_
 simp(disch:=try exact dI) only[he,push_cast,seval]
theorem v8 (t:Typ)(ht:t.ok)(w:List Int)(v:Val)(he:¬ nk t w=0):am Tryz.prog az 15 [t.pv,.list (cn w),v.pv] (.tup [.str [],.int .i64 (nk t w)]):=by
 have h13:=B1 t ht w
 generalize nk t w=z at *
 obtain⟨k,m,M,s,wd,e,f⟩:=t
 obtain⟨vk,vn,vs,vt,vl,vf⟩:=v
 simp only[Typ.pv_mk,Val.pv_mk] at h13 ⊢
 refine am.intro Q15.2 (by simp[Q15]) ?_
 simp(disch:=try exact dI) only[Q15,push_cast,seval]
 refine ab.pure h13 rfl ?_
 simp(disch:=try exact dI) only[he,push_cast,seval]
theorem wa (t:Typ)(ht:t.ok)(w:List Int)(v:Val)(hv:v.ok)(he:nk t w=0)(hfit:wi t v=false):am Tryz.prog az 14 [t.pv,.list (cn w),v.pv] (.tup [.str [],.int .i64 18]):=by
 have h12:=xN t ht w
 obtain⟨hfe,_,_⟩:=fi he
 obtain⟨h0,hfl⟩:=eG hfe
 have h42:=Gx h0 ht hfl v hv
 rw[hfit] at h42
 rw[he] at h12
 clear he hfe h0 hfl hfit
 obtain⟨k,m,M,s,wd,e,f⟩:=t
 obtain⟨vk,vn,vs,vt,vl,vf⟩:=v
 simp only[Typ.pv_mk,Val.pv_mk] at h12 h42 ⊢
 refine am.intro Q14.2 (by simp[Q14]) ?_
 simp(disch:=try exact dI) only[Q14,push_cast,seval]
 refine ab.pure h12 rfl ?_
 refine zgZ ?_
 refine ab.pure h42 rfl ?_
 exact qsZ
theorem vZ (t:Typ)(ht:t.ok)(w:List Int)(v:Val)(hv:v.ok)(he:nk t w=0)(hfit:wi t v=false):am Tryz.prog az 15 [t.pv,.list (cn w),v.pv] (.tup [.str [],.int .i64 18]):=by
 have h13:=B1 t ht w
 obtain⟨hfe,_,_⟩:=fi he
 obtain⟨h0,hfl⟩:=eG hfe
 obtain⟨l,h20,hl0⟩:=Nd h0 ht hfl v hv
 have hll:¬ (l.map Mis.pv).length=0:=fun h=>by
  rw[List.length_map] at h
  rw[hl0.1 h] at hfit;cases hfit
 have hlI:(0:Int)<((l.map Mis.pv).length:Int):=by omega
 rw[he] at h13
 clear he hfe h0 hfl hfit hl0
 generalize l.map Mis.pv=L at *
 obtain⟨k,m,M,s,wd,e,f⟩:=t
 obtain⟨vk,vn,vs,vt,vl,vf⟩:=v
 simp only[Typ.pv_mk,Val.pv_mk] at h13 h20 ⊢
 refine am.intro Q15.2 (by simp[Q15]) ?_
 simp(disch:=try exact dI) only[Q15,push_cast,seval]
 refine ab.pure h13 rfl ?_
 refine zgZ ?_
 refine ab.pure h20 rfl ?_
 simp(disch:=try exact dI) only[hlI,push_cast,seval]
theorem Fa (t:Typ)(ht:t.ok)(w:List Int)(v:Val)(hv:v.ok):∃ (s:List UInt8) (e:Int),am Tryz.prog az 14 [t.pv,.list (cn w),v.pv] (.tup [.str s,.int .i64 e])/\am Tryz.prog az 15 [t.pv,.list (cn w),v.pv] (.tup [.str s,.int .i64 e])/\(e=0->(s.length:Int)=ib w/\∀ x∈w,1<=x/\x<=4096):=by
 by_cases he:nk t w=0
 ·cases hfit:wi t v with
  | false=>exact⟨[],18,wa t ht w v hv he hfit,vZ t ht w v hv he hfit,fun h=>absurd h (by decide)⟩
  | true=>
    obtain⟨hfe,hlen,hrl⟩:=fi he
    obtain⟨h0,hfl⟩:=eG hfe
    obtain⟨T,hT⟩:=Cr h0 ht hfl hfit
    have hst:=jn t.fields w 0 hlen.symm hrl
    refine⟨_,_,wb t ht w v hv he hfit T hT,v7 t ht w v hv he hfit T hT,fun h=>⟨?_,fun x hx=>?_⟩⟩
    ·have:=sw t.fields w [] hlen.symm hT hst h
     simpa using this
    ·obtain⟨i,hi,hx⟩:=List.getElem_of_mem hx
     have hw:w[i]? = some x:=by rw[List.getElem?_eq_getElem hi,hx]
     obtain⟨g,hg⟩:∃ g,t.fields[i]? = some g:=⟨_,List.getElem?_eq_getElem (by omega)⟩
     have:=fD (hst i g x hg hw)
     exact⟨this.1,this.2.1⟩
 ·exact⟨[],nk t w,wc t ht w v he,v8 t ht w v he,fun h=>absurd h he⟩
def eqL (p:PV->PV->Bool):List PV->List PV->Bool
 | [],[]=>true
 | x::r,y::q=>p x y&&eqL p r q
 | _,_=>false
def eqP:Nat->PV->PV->Bool
 | n+1,.int k a,.int k' b=>decide (k=k')&&decide (a=b)
 | n+1,.str a,.str b=>decide (a=b)
 | n+1,.nils,.nils=>true
 | n+1,.agg a,.agg b=>eqL (eqP n) a b
 | n+1,.list a,.list b=>eqL (eqP n) a b
 | _,_,_=>false
theorem AQ {p:PV->PV->Bool}(hp:∀ x y,p x y=true->x=y):∀ a b,eqL p a b=true->a=b
 | [],[],_=>rfl
 | x::r,y::q,h=>by
   simp only[eqL,Bool.and_eq_true] at h
   rw[hp x y h.1,AQ hp r q h.2]
 | [],y::q,h=>by simp[eqL] at h
 | x::r,[],h=>by simp[eqL] at h
theorem oB:∀ n x y,eqP n x y=true->x=y
 | 0,x,y,h=>by simp[eqP] at h
 | n+1,x,y,h=>by
   unfold eqP at h
   split at h
   ·simp only[Bool.and_eq_true,decide_eq_true_eq] at h;rw[h.1,h.2]
   ·simp only[decide_eq_true_eq] at h;rw[h]
   ·rfl
   ·rw[AQ (oB _) _ _ h]
   ·rw[AQ (oB _) _ _ h]
   ·cases h
def L1:List PV:=[.agg [.int .i64 1,.str [105,100],.int .i64 1,.int .i64 2,.int .i64 0,.int .i64 999,.int .i64 0,.nils,.nils,.nils,.nils],.agg [.int .i64 2,.str [110,97,109,101],.int .i64 2,.int .i64 4,.int .i64 1,.int .i64 5,.int .i64 0,.nils,.nils,.nils,.nils],.agg [.int .i64 3,.str [100,97,121],.int .i64 1,.int .i64 6,.int .i64 0,.int .i64 30000,.int .i64 0,.nils,.nils,.nils,.nils]]
def Nn:PV:=.agg [.int .i64 9,.int .i64 0,.int .i64 0,.int .i64 0,.nils,.nils,.list L1]
def Qc:List PV:=[.agg [.str [105,100],.int .i64 2,.int .i64 7,.int .i64 0,.str [],.nils,.nils],.agg [.str [110,97,109,101],.int .i64 4,.int .i64 0,.int .i64 0,.str [97,98],.nils,.nils],.agg [.str [100,97,121],.int .i64 6,.int .i64 20773,.int .i64 0,.str [],.nils,.nils]]
def LZ:PV:=.agg [.int .i64 9,.int .i64 0,.int .i64 0,.str [],.nils,.list [.agg [.str [100,97,121],.int .i64 6,.int .i64 20773,.int .i64 0,.str [],.nils,.nils],.agg [.str [105,100],.int .i64 2,.int .i64 7,.int .i64 0,.str [],.nils,.nils],.agg [.str [110,97,109,101],.int .i64 4,.int .i64 0,.int .i64 0,.str [97,98],.nils,.nils]]]
def IO:PV:=.str [32,32,55,97,98,32,32,32,50,48,50,54,45,49,49,45,49,54]
def KI:PV:=.list [.int .i64 3,.int .i64 5,.int .i64 10]
def N7 (f:Nat)(ps:List PV):Option PV:=
 match f with
 | 137=>match ps with
   | [.int .i64 n]=>if -9223372036854775808<=n/\n<=9223372036854775807 then some (.str (gh n)) else none
   | _=>none
 | 113=>match ps with
   | [.str a,.str b]=>some (.int .i64 (Lib.compareBytes a b))
   | _=>none
 | 207=>match ps with
   | [.str a]=>some (.bool (Lib.validD a))
   | _=>none
 | 45=>match ps with
   | [.str a,.int .i64 n]=>if 0<=n/\n<=9223372036854775807/\a.length*n.toNat<=140737488355328 then some (.str (Lib.repeatL a n.toNat)) else none
   | _=>none
 | _=>none
theorem iu:∀ f ps r,N7 f ps=some r->am Tryz.prog az f ps r:=by
 intro f ps r h
 unfold N7 at h
 split at h
 ·split at h
  ·split at h
   ·rename_i hh;cases h;exact qx _ hh.1 hh.2
   ·cases h
  ·cases h
 ·split at h
  ·cases h;exact vE _ _
  ·cases h
 ·split at h
  ·cases h;exact cK _
  ·cases h
 ·split at h
  ·split at h
   ·rename_i hh;cases h;exact jR _ _ hh.1 hh.2.1 hh.2.2
   ·cases h
  ·cases h
 ·cases h
noncomputable def gFn (p:Nat×List Nat):TabRow:=⟨p.1,p.2,(cFn Tryz.prog p.2 p.1).getD ⟨0,[],.skip⟩⟩
theorem ll {l:List (Nat×List Nat)}(h:(l.all fun p=>(cFn Tryz.prog p.2 p.1).isSome)=true):∀ r∈l.map gFn,cFn Tryz.prog r.muts r.f=some r.fn:=by
 intro r hr
 obtain⟨p,hp,rfl⟩:=List.mem_map.1 hr
 have h:=List.all_eq_true.1 h p hp
 simp only[gFn]
 cases h':cFn Tryz.prog p.2 p.1 with
 | some x=>rfl
 | none=>rw[h'] at h;cases h
def Gb:List (Nat×List Nat):=[(14,[]),(11,[]),(12,[]),(42,[]),(43,[]),(44,[]),(39,[]),(46,[14]),(47,[]),(23,[]),(33,[]),(53,[]),(55,[33]),(34,[]),(35,[]),(36,[]),(37,[]),(81,[]),(82,[]),(83,[]),(85,[]),(87,[]),(88,[]),(91,[]),(92,[]),(77,[]),(78,[]),(79,[]),(97,[19]),(105,[]),(106,[]),(107,[]),(108,[]),(109,[]),(110,[]),(111,[]),(112,[]),(69,[]),(74,[]),(76,[]),(135,[]),(136,[]),(138,[]),(139,[]),(140,[]),(141,[]),(142,[]),(143,[]),(145,[]),(146,[]),(132,[]),(133,[]),(149,[]),(156,[]),(160,[]),(164,[]),(165,[]),(166,[]),(168,[]),(170,[]),(171,[]),(123,[]),(124,[]),(129,[]),(130,[]),(195,[]),(193,[]),(196,[]),(197,[]),(198,[]),(199,[]),(206,[44]),(210,[]),(211,[]),(212,[]),(213,[]),(215,[]),(224,[]),(258,[]),(228,[]),(178,[]),(179,[]),(181,[]),(242,[]),(247,[]),(248,[12]),(250,[]),(251,[]),(252,[]),(229,[]),(230,[]),(232,[]),(277,[]),(278,[]),(259,[]),(304,[])]
theorem lm:(Gb.all fun p=>(cFn Tryz.prog p.2 p.1).isSome)=true:=by kernel_rfl
theorem Mq:am Tryz.prog az 53 [.str [32,32,55],L1.getD 0 .undef] (.tup [.agg [.int .i64 2,.int .i64 7,.int .i64 0,.str [],.nils,.nils],.int .i64 0]):=am.of_ex (m:=5000) (n:=60) (ll lm) iu (by kernel_rfl)
theorem Mp:am Tryz.prog az 53 [.str [97,98,32,32,32],L1.getD 1 .undef] (.tup [.agg [.int .i64 4,.int .i64 0,.int .i64 0,.str [97,98],.nils,.nils],.int .i64 0]):=am.of_ex (m:=5000) (n:=60) (ll lm) iu (by kernel_rfl)
theorem Mo:am Tryz.prog az 53 [.str [50,48,50,54,45,49,49,45,49,54],L1.getD 2 .undef] (.tup [.agg [.int .i64 6,.int .i64 20773,.int .i64 0,.str [],.nils,.nils],.int .i64 0]):=am.of_ex (m:=5000) (n:=60) (ll lm) iu (by kernel_rfl)
theorem C1:am Tryz.prog az 55 [.list Qc] LZ:=am.of_ex (m:=5000) (n:=60) (ll lm) iu (by kernel_rfl)
theorem Lj:am Tryz.prog az 12 [Nn,KI] (.int .i64 0):=am.of_ex (m:=5000) (n:=60) (ll lm) iu (by kernel_rfl)
end Go.Proofs.YtbojpfpliibfbaaGreatDoor
-- many steps
namespace Go.Proofs.YtbojpfpliibfbaaGreatDoor
open Go Go.Ab
attribute [local irreducible] vc
theorem AL (a:Int):bn Tryz.prog az 1 54 [.ptr 0 0,.pv (.int .i64 a),.pv (.int .i64 0)] [.cells 94 true [.pv (.int .i64 0),.pv (.int .i64 0)]] (.pv (.tup [])) [.cells 94 true [.pv (.int .i64 0),.pv (.int .i64 0)]]:=by
 refine bn.intro Q54.2 (by simp[Q54]) ?_
 simp(maxSteps:=9^7) (disch:=try exact dI) only[Q54,push_cast,seval]
 exact aL [] qsZ
theorem rF1 (sz:Nat)(l:List PV):fP sz l 1=fl sz l 1 l[1]?:=_root_.id rfl
theorem rF2 (sz:Nat)(l:List PV):fP sz l 2=fl sz l 2 l[2]?:=_root_.id rfl
theorem mO (cs:List PV):eT [PV.agg cs]=cs.map AV.pv:=by simp[eT,PV.cells]
def fc0:List PV:=[.str [105,100],.int .i64 2,.int .i64 7,.int .i64 0,.str [],.nils,.nils]
def fc1:List PV:=[.str [110,97,109,101],.int .i64 4,.int .i64 0,.int .i64 0,.str [97,98],.nils,.nils]
def fc2:List PV:=[.str [100,97,121],.int .i64 6,.int .i64 20773,.int .i64 0,.str [],.nils,.nils]
def Kf (i:Nat):List AV:=((if i=0 then [] else if i=1 then fc0 else if i=2 then fc0++fc1 else fc0++(fc1++fc2)):List PV).map .pv
theorem Ge:Kf 0=[]:=rfl
theorem Gd:Kf 1=fc0.map .pv:=rfl
theorem Gc:Kf 2=(fc0++fc1).map .pv:=rfl
theorem Lc:Kf 3=(fc0++(fc1++fc2)).map .pv:=rfl
theorem Qb:Nm 7 3 5 (.cells 60 false (Kf 3))=some (.list [.agg fc0,.agg fc1,.agg fc2],[5]):=by kernel_rfl
theorem Fd:am Tryz.prog az 17 [Nn,KI,IO] (.tup [LZ,.int .i64 0,.int .i64 0]):=by
 have h20:=Lj
 have h35:=Hf [3,5,10] (by decide)
 rw[show Np [3,5,10]=false by decide,if_neg (by decide),if_neg (by decide),show ib [3,5,10]=18 from rfl,show PV.list (cn [3,5,10])=KI from rfl] at h35
 have h36:=LT [32,32,55,97,98,32,32,32,50,48,50,54,45,49,49,45,49,54] 18
 rw[show I5 ([32,32,55,97,98,32,32,32,50,48,50,54,45,49,49,45,49,54]:List UInt8).length 18=0 from rfl] at h36
 have h37:=Jv [32,32,55,97,98,32,32,32,50,48,50,54,45,49,49,45,49,54] (kZ [3,5,10])
 have hseq:=Br [32,32,55,97,98,32,32,32,50,48,50,54,45,49,49,45,49,54] [3,5,10] (by decide) (by decide) (by decide)
 have ha:am Tryz.prog az 53 [.str [32,32,55],.agg [.int .i64 1,.str [105,100],.int .i64 1,.int .i64 2,.int .i64 0,.int .i64 999,.int .i64 0,.nils,.nils,.nils,.nils]] (.tup [.agg [.int .i64 2,.int .i64 7,.int .i64 0,.str [],.nils,.nils],.int .i64 0]):=Mq
 have hb:am Tryz.prog az 53 [.str [97,98,32,32,32],.agg [.int .i64 2,.str [110,97,109,101],.int .i64 2,.int .i64 4,.int .i64 1,.int .i64 5,.int .i64 0,.nils,.nils,.nils,.nils]] (.tup [.agg [.int .i64 4,.int .i64 0,.int .i64 0,.str [97,98],.nils,.nils],.int .i64 0]):=Mp
 have hc:am Tryz.prog az 53 [.str [50,48,50,54,45,49,49,45,49,54],.agg [.int .i64 3,.str [100,97,121],.int .i64 1,.int .i64 6,.int .i64 0,.int .i64 30000,.int .i64 0,.nils,.nils,.nils,.nils]] (.tup [.agg [.int .i64 6,.int .i64 20773,.int .i64 0,.str [],.nils,.nils],.int .i64 0]):=Mo
 have hr:am Tryz.prog az 55 [.list [.agg fc0,.agg fc1,.agg fc2]] LZ:=C1
 have hi0:(gY [32,32,55,97,98,32,32,32,50,48,50,54,45,49,49,45,49,54] [3,5,10])[0]? = some [.int .i64 0,.str [32,32,55]]:=by kernel_rfl
 have hi1:(gY [32,32,55,97,98,32,32,32,50,48,50,54,45,49,49,45,49,54] [3,5,10])[1]? = some [.int .i64 3,.str [97,98,32,32,32]]:=by kernel_rfl
 have hi2:(gY [32,32,55,97,98,32,32,32,50,48,50,54,45,49,49,45,49,54] [3,5,10])[2]? = some [.int .i64 8,.str [50,48,50,54,45,49,49,45,49,54]]:=by kernel_rfl
 have hlx:(gY [32,32,55,97,98,32,32,32,50,48,50,54,45,49,49,45,49,54] [3,5,10]).length=3:=rfl
 generalize hX:gY [32,32,55,97,98,32,32,32,50,48,50,54,45,49,49,45,49,54] [3,5,10]=X at *
 have hw:KI = .list (kZ [3,5,10]):=rfl
 simp only[IO]
 refine am.intro Q17.2 (by simp[Q17]) ?_
 simp(maxSteps:=9^7) (disch:=try exact dI) only[Q17,Nn,L1,push_cast,seval]
 refine ab.pure h20 rfl ?_
 simp(maxSteps:=9^7) (disch:=try exact dI) only[push_cast,seval]
 refine ab.pure h35 rfl ?_
 simp(maxSteps:=9^7) (disch:=try exact dI) only[push_cast,seval]
 refine ab.pure h36 rfl ?_
 simp(maxSteps:=9^7) (disch:=try exact dI) only[push_cast,seval]
 refine ab.pure h37 rfl ?_
 simp(maxSteps:=9^7) (disch:=try exact dI) only[push_cast,seval]
 refine wH ([(14,1,1000060,7)]) (fun i:Nat=>[]) (fun i:Nat=>[(2,.cells 34 true [.row 5 7 0 i]),(3,.cells 3 true [.pv (.int .i64 (i:Int))]),(5,.cells 60 false (Kf i))]) (fun j i=>j=i/\i<=3) (0) (hseq) ?_;intro e0 σ0 n0 h0;simp(maxSteps:=9^7) (disch:=try exact dI) only[push_cast,seval] at h0;obtain⟨rfl,rfl,rfl⟩:=h0;refine⟨?_,?_,?_,?_,?_⟩
 ·simp(maxSteps:=9^7) (disch:=try exact dI) only[Ge,push_cast,seval]
 ·exact⟨rfl,by omega⟩
 ·rfl
 ·rintro j i y hy ⟨hij,hi⟩
  subst hij
  have hj3:j<3:=by have:=(List.getElem?_eq_some_iff.1 hy).1;omega
  have hjc:j=0\/j=1\/j=2:=by omega
  clear hr h20 h35 h36 h37 hseq
  rcases hjc with rfl | rfl | rfl
  ·rw[hi0] at hy
   obtain rfl:=Option.some.inj hy
   refine⟨rfl,?_⟩
   simp(maxSteps:=9^7) (disch:=try exact dI) only[Ge,aS,push_cast,seval]
   refine ab.pure ha rfl ?_
   simp(maxSteps:=9^7) (disch:=try exact dI) only[push_cast,seval]
   refine ab.lentK (AL 0) [4] rfl qsZ qsZ ?_
   simp(maxSteps:=9^7) (disch:=try exact dI) only[aS,mO,List.map_cons,List.map_nil,List.cons_append,List.nil_append,List.drop_succ_cons,List.drop_zero,push_cast,seval]
   exact⟨1,aM (by simp(maxSteps:=9^7) (disch:=try exact dI) only[Gd,fc0,push_cast,seval]),rfl,by omega⟩
  ·rw[hi1] at hy
   obtain rfl:=Option.some.inj hy
   refine⟨rfl,?_⟩
   simp(maxSteps:=9^7) (disch:=try exact dI) only[Gd,fc0,rF1,push_cast,seval]
   refine ab.pure hb rfl ?_
   simp(maxSteps:=9^7) (disch:=try exact dI) only[push_cast,seval]
   refine ab.lentK (AL 3) [4] rfl qsZ qsZ ?_
   simp(maxSteps:=9^7) (disch:=try exact dI) only[rF1,mO,List.map_cons,List.map_nil,List.cons_append,List.nil_append,List.drop_succ_cons,List.drop_zero,push_cast,seval]
   exact⟨2,aM (by simp(maxSteps:=9^7) (disch:=try exact dI) only[Gc,fc0,fc1,push_cast,seval]),rfl,by omega⟩
  ·rw[hi2] at hy
   obtain rfl:=Option.some.inj hy
   refine⟨rfl,?_⟩
   simp(maxSteps:=9^7) (disch:=try exact dI) only[Gc,fc0,fc1,rF2,push_cast,seval]
   refine ab.pure hc rfl ?_
   simp(maxSteps:=9^7) (disch:=try exact dI) only[push_cast,seval]
   refine ab.lentK (AL 8) [4] rfl qsZ qsZ ?_
   simp(maxSteps:=9^7) (disch:=try exact dI) only[rF2,mO,List.map_cons,List.map_nil,List.cons_append,List.nil_append,List.drop_succ_cons,List.drop_zero,push_cast,seval]
   exact⟨3,aM (by simp(maxSteps:=9^7) (disch:=try exact dI) only[Lc,fc0,fc1,fc2,push_cast,seval]),rfl,by omega⟩
 ·rintro j ⟨hj,hi⟩
  rw[hlx] at hj
  subst hj
  simp(maxSteps:=9^7) (disch:=try exact dI) only[Qb,push_cast,seval]
  refine ab.pure hr rfl ?_
  simp(maxSteps:=9^7) (disch:=try exact dI) only[LZ,push_cast,seval]
def N6 (f:Nat)(ps:List PV):Option PV:=
 match f with
 | 17=>match ps with
   | [a,b,c]=>if eqP 8 a Nn=true/\eqP 8 b KI=true/\eqP 8 c IO=true then some (.tup [LZ,.int .i64 0,.int .i64 0]) else none
   | _=>none
 | f=>N7 f ps
theorem Im:∀ f ps r,N6 f ps=some r->am Tryz.prog az f ps r:=by
 intro f ps r h
 unfold N6 at h
 split at h
 ·split at h
  ·split at h
   ·rename_i hh
    cases h
    rw[oB _ _ _ hh.1,oB _ _ _ hh.2.1,oB _ _ _ hh.2.2]
    exact Fd
   ·cases h
  ·cases h
 ·exact iu _ _ _ h
theorem Qd:yF (exF (Gb.map gFn) N6 az 5000 60) 11 []=some (.bool true):=by kernel_rfl
theorem IT:am Tryz.prog az 11 [] (.bool true):=am.of_ex (ll lm) Im Qd
end Go.Proofs.YtbojpfpliibfbaaGreatDoor
-- many steps
namespace Go.Proofs.YtbojpfpliibfbaaGreatDoor
open Go Go.Ab
attribute [local irreducible] vc
theorem uO (w:List Int)(n:Nat):(cn w).take n=cn (w.take n):=by simp[cn]
theorem OM (w:List Int):am Tryz.prog az 10 [.list (cn w)] (.list (cn (w.take 70))):=by
 refine am.intro Q10.2 (by simp[Q10]) ?_
 rw[<- uO]
 by_cases h:w.length<=70
 ·have hm:min (w.length:Int) 70=(w.length:Int):=by omega
  have e:(cn w).take 70=(cn w).take w.length:=by rw[List.take_of_length_le (by rw[a8];omega),List.take_of_length_le (by rw[a8];omega)]
  rw[e]
  simp(disch:=try exact dI) only[Q10,hm,a8,push_cast,seval]
 ·have hm:min (w.length:Int) 70=70:=by omega
  have hl:(70:Int)<=(w.length:Int):=by omega
  simp(disch:=try exact dI) only[Q10,hm,a8,push_cast,seval]
end Go.Proofs.YtbojpfpliibfbaaGreatDoor
-- many steps
namespace Go.Proofs.YtbojpfpliibfbaaGreatDoor
open Go Go.Ab
attribute [local irreducible] vc
theorem rp:∀ (w:List Int),(∀ x∈w,1<=x/\x<=4096)->0<=ib w/\ib w<=4096*w.length
 | [],_=>by simp[ib]
 | x::r,h=>by
   have h1:=h x (List.mem_cons_self ..)
   have h2:=rp r fun y hy=>h y (List.mem_cons_of_mem _ hy)
   rw[show ib (x::r)=x+ib r by simp[ib],List.length_cons];omega
theorem Ho {w:List Int}{i:Nat}{n:Int}(h:w[i]? = some n):ib (w.take (i+1))=ib (w.take i)+n:=by
 rw[aK h];simp[ib]
theorem P7 (t:Typ)(ht:t.ok)(w0:List Int)(v:Val)(hv:v.ok):am Tryz.prog az 4 [t.pv,.list (cn w0),v.pv] (.bool true):=by
 have hk:=IT
 have hc:=OM w0
 have hwl:=a8 (w0.take 70)
 have hw70:(w0.take 70).length<=70:=by rw[List.length_take];omega
 obtain⟨s,e,h14,h15,hz⟩:=Fa t ht (w0.take 70) v hv
 generalize w0.take 70=w at *
 generalize cn w0=L0 at *
 have hat:=fun (i:Nat) (n:Int) (h:w[i]? = some n)=>eE h
 obtain⟨k,m,M,sc,wd,el,f⟩:=t
 obtain⟨vk,vn,vs,vt,vl,vf⟩:=v
 simp only[Typ.pv_mk,Val.pv_mk] at h14 h15 ⊢
 refine am.intro Q4.2 (by simp[Q4]) ?_
 simp(disch:=try exact dI) only[Q4,Typ.pv_mk,Val.pv_mk,push_cast,seval]
 refine ab.pure hc rfl ?_
 refine zgZ ?_
 refine ab.pure h14 rfl ?_
 refine zgZ ?_
 refine ab.pure h15 rfl ?_
 refine zgZ ?_
 refine ab.pure hk rfl ?_
 refine zgZ ?_
 by_cases he:e=0
 ·subst he
  obtain⟨hs,hb⟩:=hz rfl
  refine au ([]) (fun i:Nat=>[(11,.pv (.int .i64 (ib (w.take i)))),(12,.pv (.int .i64 (i:Int)))]) (fun _=>[]) (fun i=>i<=w.length) (fun i=>w.length - i) (0) ?_;intro e0 σ0 n0 h0;simp(disch:=try exact dI) only[push_cast,seval] at h0;obtain⟨rfl,rfl,rfl⟩:=h0;refine⟨?_,?_,?_⟩
  ·simp(disch:=try exact dI) only[List.take_zero,rn,push_cast,seval]
  ·omega
  rintro i hi
  have hsb:=rp (w.take i) fun x hx=>hb x (List.mem_of_mem_take hx)
  rw[List.length_take] at hsb
  by_cases hlt:i<w.length
  ·have hltI:(i:Int)<(w.length:Int):=by omega
   obtain⟨n,hn⟩:∃ n,w[i]? = some n:=⟨_,List.getElem?_eq_getElem hlt⟩
   have hnp:=hat i n hn
   have hnb:=hb n (List.mem_of_getElem? hn)
   have hst:=Ho hn
   generalize ib (w.take i)=S at *
   simp(disch:=try exact dI) only[hwl,hltI,hnp,push_cast,seval]
   exact⟨i+1,aM (by simp(disch:=try exact dI) only[hst,push_cast,seval]),by omega,by omega⟩
  ·obtain rfl:i=w.length:=by omega
   rw[List.take_length] at hsb ⊢
   simp(disch:=try exact dI) only[hwl,Int.lt_irrefl,hs,push_cast,seval]
 ·refine au ([]) (fun i:Nat=>[(11,.pv (.int .i64 0)),(12,.pv (.int .i64 (i:Int)))]) (fun _=>[]) (fun i=>i=0) (fun i=>1 - i) (0) ?_;intro e0 σ0 n0 h0;simp(disch:=try exact dI) only[push_cast,seval] at h0;obtain⟨rfl,rfl,rfl⟩:=h0;refine⟨?_,?_,?_⟩
  ·exact qsZ
  ·rfl
  rintro i rfl
  by_cases h0:w.length=0
  ·simp(disch:=try exact dI) only[hwl,h0,he,Int.lt_irrefl,push_cast,seval]
  ·have h0I:(0:Int)<(w.length:Int):=by omega
   simp(disch:=try exact dI) only[hwl,h0I,he,push_cast,seval]
theorem vm (p0 p1 p2:PV)(h0:HasT Tryz.prog 26 p0)(h1:HasT Tryz.prog 27 p1)(h2:HasT Tryz.prog 36 p2):am Tryz.prog az 4 [p0,p1,p2] (.bool true):=by
 obtain⟨t,rfl,ht⟩:=EM h0
 obtain⟨w,rfl,_,_⟩:=mN (f:=PV.int .i64) (Q:=I64) h1 Tryz.underlying27 OV (fun x hx=>cP hx Tryz.underlying3)
 obtain⟨v,rfl,hv⟩:=r9 h2
 exact P7 t ht w v hv
end Go.Proofs.YtbojpfpliibfbaaGreatDoor

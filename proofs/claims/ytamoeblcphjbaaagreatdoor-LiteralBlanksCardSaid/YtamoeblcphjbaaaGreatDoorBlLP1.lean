/- A part. -/
import Derived.Test.YtamoeblcphjbaaaGreatDoorBlLR4
set_option linter.unusedVariables false
set_option linter.unusedSimpArgs false
set_option maxHeartbeats 16000000
set_option maxRecDepth 100000
namespace Go.Proofs.YtamoeblcphjbaaaGreatDoor
open Go Go.Ab
structure Tk where
 kind:Int:=0
 pos:Nat:=0
 text:List UInt8:=[]
 bytes:List UInt8:=[]
 num:Int:=0
 sc:Nat:=0
 dec:Bool:=false
 exa:Bool:=false
structure Rd where
 s:List UInt8
 next:Nat
 now:Tk
 e:Int
 off:Nat
def aP (R:Rd)(i:Nat)(e:Int):Rd:=if R.e=0 then { R with e:=e,off:=i } else R
def az (c:UInt8):Bool:=decide (c.toNat=32)||decide (c.toNat=9)||decide (c.toNat=13)||decide (c.toNat=10)
def aM (c:UInt8):Bool:=(decide (97<=c.toNat)&&decide (c.toNat<=122))||(decide (65<=c.toNat)&&decide (c.toNat<=90))
def bA (c:UInt8):Bool:=aM c||isD c||decide (c.toNat=95)
def pi (c:UInt8):Bool:=decide (c∈([91,93,123,125,40,41,58,44,61,63,124]:List UInt8))
def aN (p:UInt8->Bool)(s:List UInt8)(i:Nat):Nat:=i+((s.drop i).takeWhile p).length
def eP (c:UInt8):Option Nat:=
 if 48<=c.toNat/\c.toNat<=57 then some (c.toNat - 48) else if 97<=c.toNat/\c.toNat<=102 then some (c.toNat - 87)
 else if 65<=c.toNat/\c.toNat<=70 then some (c.toNat - 55) else none
def jv:Nat->List UInt8->Option Nat
 | n,[]=>some n
 | n,c::r=>match eP c with
   | none=>none
   | some d=>jv (16*n+d) r
def eC (n:Nat):Option (List UInt8):=if n<=1114111/\¬ (55296<=n/\n<=57343) then some (Go.Utf8.encode (n:Int)).data.toList else none
def oS (c:UInt8):Option UInt8:=
 if c.toNat=34 then some 34 else if c.toNat=92 then some 92 else if c.toNat=110 then some 10 else if c.toNat=114 then some 13 else if c.toNat=116 then some 9 else none
def zz (r:List UInt8):(List UInt8×Nat)×Int:=
 match fB 125 r with
 | none=>(([],0),13)
 | some q=>
   if q.1.length<1\/6<q.1.length then (([],0),13)
   else match jv 0 q.1 with
    | none=>(([],0),13)
    | some n=>match eC n with
      | none=>(([],0),16)
      | some t=>((t,q.1.length+3),0)
def eQ (s:List UInt8):(List UInt8×Nat)×Int:=
 match s with
 | []=>(([],0),13)
 | c::r=>match oS c with
   | some b=>(([b],1),0)
   | none=>if fD [117,123] (c::r)=true then zz ((c::r).drop 2) else (([],0),13)
inductive Sc where
 | done (out:List UInt8) (next:Nat)
 | bad (i:Nat) (e:Int)
 | short
def ia:Nat->List UInt8->Nat->List UInt8->Sc
 | 0,_,_,_=>.short
 | _,[],_,_=>.short
 | f+1,c::r,i,out=>
   if c.toNat=34 then .done out (i+1) else if c.toNat<32\/c.toNat=127 then .bad i 6
   else if c.toNat=92 then
    (if r=[] then .short else if (eQ r).2=0 then ia f (r.drop (eQ r).1.2) (i+1+(eQ r).1.2) (out++(eQ r).1.1) else .bad i (eQ r).2)
   else ia f r (i+1) (out++[c])
def eb:List UInt8->Nat->Option Nat->List UInt8->Sc
 | [],_,_,_=>.short
 | c::r,i,odd,out=>
   if c.toNat=34/\odd=none then .done out (i+1)
   else match eP c with
    | none=>.bad i 13
    | some n=>match odd with
      | none=>eb r (i+1) (some n) out
      | some o=>eb r (i+1) none (out++[UInt8.ofNat (16*o+n)])
def bq (R:Rd)(i:Nat)(k:Int)(v:Bool):Sc->Rd
 | .short=>aP R i 4
 | .bad j e=>aP R j e
 | .done out j=>
   let R1:=if v=true/\Lib.validD out=false then aP R i 16 else R
   { R1 with now:={ R1.now with kind:=k,bytes:=out },next:=j }
def rI (R:Rd)(i:Nat):Rd:=bq R i 3 true (ia (R.s.length+1) (R.s.drop (i+1)) (i+1) [])
def rK (R:Rd)(i:Nat):Rd:=bq R i 4 false (eb (R.s.drop (i+2)) (i+2) none [])
def ct (s:List UInt8):List UInt8:=if s.getLast? = some 100 then s.dropLast else s
def mL (s:List UInt8)(z:Nat):Nat×Bool×Bool:=
 if s[z]? = some 46/\(s[z+1]?.any isD)=true then (aN isD s (z+1),true,false) else if s[z]? = some 100 then (z+1,true,true) else (z,false,false)
def qm (R:Rd)(i:Nat):Rd:=
 let a:=if R.s[i]? = some 45 then i+1 else i
 let z:=aN isD R.s a
 if z=a then aP R i 13
 else
  let p:=mL R.s z
  let q:=aW (ct ((R.s.take p.1).drop i))
  let R1:={ R with next:=p.1,now:={ R.now with dec:=p.2.1,exa:=p.2.2 } }
  let R2:=if q.2=0 then R1 else aP R1 i q.2
  { R2 with now:={ R2.now with kind:=2,num:=q.1.1,sc:=q.1.2 } }
def eO (R:Rd)(i:Nat)(c:UInt8):Rd:=
 if c.toNat=34 then rI R i
 else if c.toNat=120/\R.s[i+1]? = some 34 then rK R i
 else if aM c=true then { R with next:=aN bA R.s i,now:={ R.now with kind:=1 } }
 else if isD c=true\/c.toNat=45 then qm R i
 else if c.toNat=46/\R.s[i+1]? = some 46 then { R with next:=i+2,now:={ R.now with kind:=5 } }
 else if pi c=true then { R with next:=i+1,now:={ R.now with kind:=5 } }
 else aP R i 13
def de (R:Rd)(i:Nat):Rd:=if R.e=0 then { R with now:={ R.now with text:=(R.s.take R.next).drop i } } else R
def aT (R:Rd):Rd:=
 if R.e=0 then
  let i:=aN az R.s R.next
  let R1:={ R with now:={ pos:=i },next:=i }
  match R.s[i]? with
  | none=>R1
  | some c=>de (eO R1 i c) i
 else R
def isT (R:Rd)(t:List UInt8):Bool:=decide (R.e=0)&&(decide (R.now.kind=5)||decide (R.now.kind=1))&&decide (R.now.text=t)
def bp (R:Rd)(t:List UInt8):Bool×Rd:=if isT R t=true then (true,aT R) else (false,R)
def aq (R:Rd)(t:List UInt8):Rd:=if R.e=0 then (if isT R t=true then aT R else aP R R.now.pos 13) else R
def bi (R:Rd)(k:Int):Tk×Rd:=
 let R1:=if R.e=0/\R.now.kind≠k then aP R R.now.pos 13 else R
 if R1.e=0 then (R1.now,aT R1) else ({},R1)
def dm (R:Rd):List UInt8×Rd:=
 let p:=bi R 1
 (p.1.text,if p.2.e=0/\dD p.1.text=false then aP p.2 p.1.pos 12 else p.2)
def aO (R:Rd)(parse:List UInt8->Int×Int):Int×Rd:=
 let p:=bi R 3
 if p.2.e=0 then ((parse p.1.bytes).1,if (parse p.1.bytes).2=0 then p.2 else aP p.2 p.1.pos (parse p.1.bytes).2) else (0,p.2)
def bh:Val:=.mk 0 0 0 [] [] []
def dp (val:Rd->Val×Rd):Nat->Bool->List Val->Rd->List Val×Rd
 | 0,_,l,R=>(l,R)
 | k+1,first,l,R=>
   if R.e=0/\isT R [93]=false then
    let p:=val (if first=true then R else aq R [44])
    dp val k false (l++[p.1]) p.2
   else (l,R)
def jH (val:Rd->Val×Rd):Nat->Bool->List (List UInt8)->List Fld->Rd->List Fld×Rd
 | 0,_,_,l,R=>(l,R)
 | k+1,first,seen,l,R=>
   if R.e=0/\isT R [125]=false then
    let R1:=if first=true then R else aq R [44]
    let p:=dm R1
    let R2:=if p.2.e=0/\p.1∈seen then aP p.2 R1.now.pos 7 else p.2
    let q:=val (aq R2 [58])
    jH val k false (EC seen p.1) (l++[.mk p.1 q.1]) q.2
   else (l,R)
def cf (val:Rd->Val×Rd)(R:Rd)(t:Tk)(d:Nat):Val×Rd:=
 if R.e=0 then
  if isT R [40]=true then
   (if dD t.text=false then (bh,aP R t.pos 12)
   else
    let p:=val (aT R)
    (.mk 10 0 0 t.text [p.1] [],aq p.2 [41]))
  else if t.text=[116,114,117,101] then (.mk 1 1 0 [] [] [],R)
  else if t.text=[102,97,108,115,101] then (.mk 1 0 0 [] [] [],R)
  else if t.text=[100,97,116,101] then
   let p:=aO R bz
   (.mk 6 p.1 0 [] [] [],p.2)
  else if t.text=[116,105,109,101] then
   let p:=aO R br
   (.mk 7 p.1 0 [] [] [],p.2)
  else if t.text=[110,117,108,108]/\d=0 then (bh,R)
  else (bh,aP R t.pos 13)
 else (bh,R)
def aR (sort:List Fld->List Fld):Nat->Nat->Rd->Val×Rd
 | f,d,R=>
   if R.e=0 then
    let t:=R.now
    if t.kind≠2/\t.kind≠3/\t.kind≠4/\t.kind≠1/\t.text≠[91]/\t.text≠[123] then (bh,aP R t.pos 13)
    else match f with
     | 0=>(bh,aP R t.pos 23)
     | f+1=>
       let R1:=aT R
       if t.kind=2/\t.dec=true then (.mk 3 t.num t.sc [] [] [],R1)
       else if t.kind=2 then (.mk 2 t.num 0 [] [] [],R1)
       else if t.kind=3 then (.mk 4 0 0 t.bytes [] [],R1)
       else if t.kind=4 then (.mk 5 0 0 t.bytes [] [],R1)
       else if t.text=[91] then
        let p:=dp (aR sort f (d+1)) (R.s.length+2) true [] R1
        (.mk 8 0 0 [] p.1 [],aq p.2 [93])
       else if t.text=[123] then
        let p:=jH (aR sort f (d+1)) (R.s.length+2) true [] [] R1
        (.mk 9 0 0 [] [] (sort p.1),aq p.2 [125])
       else cf (aR sort f (d+1)) R1 t d
   else (bh,R)
def aY (s:List UInt8):Rd:=
 let R:Rd:=⟨s,0,{},0,0⟩
 aT (if 65536<s.length then aP R 0 5 else R)
def dR (R:Rd):Rd:=if R.e=0/\R.now.kind≠0 then aP R R.now.pos 13 else R
attribute [local irreducible] vc
theorem fH {P:UInt8->Prop}(h:∀ k:Fin 256,P (UInt8.ofNat k.val))(c:UInt8):P c:=by
 have:=h ⟨c.toNat,c.toNat_lt⟩
 simpa using this
section
variable {T:Nat}{p:PV}
theorem qG (c:UInt8):au Tryz.prog aH 162 [.int .u8 (c.toNat:Int)] (.bool (aM c)):=by
 refine au.intro Nh.2 (by simp[Nh]) ?_
 by_cases h1:97<=c.toNat
 ·have h1I:(97:Int)<=(c.toNat:Int):=by omega
  by_cases h2:c.toNat<=122
  ·have h2I:(c.toNat:Int)<=122:=by omega
   rw[show aM c=true by simp[aM,h1,h2]]
   simp(disch:=try exact dI) only[Nh,h1I,h2I,push_cast,seval]
  ·have h2I:¬ (c.toNat:Int)<=122:=by omega
   rw[show aM c=false by simp[aM,h2];omega]
   have h3I:(65:Int)<=(c.toNat:Int):=by omega
   have h4I:¬ (c.toNat:Int)<=90:=by omega
   simp(disch:=try exact dI) only[Nh,h1I,h2I,h3I,h4I,push_cast,seval]
 ·have h1I:¬ (97:Int)<=(c.toNat:Int):=by omega
  by_cases h3:65<=c.toNat
  ·have h3I:(65:Int)<=(c.toNat:Int):=by omega
   by_cases h4:c.toNat<=90
   ·have h4I:(c.toNat:Int)<=90:=by omega
    rw[show aM c=true by simp[aM,h3,h4]]
    simp(disch:=try exact dI) only[Nh,h1I,h3I,h4I,push_cast,seval]
   ·have h4I:¬ (c.toNat:Int)<=90:=by omega
    rw[show aM c=false by simp[aM,h1,h4]]
    simp(disch:=try exact dI) only[Nh,h1I,h3I,h4I,push_cast,seval]
  ·have h3I:¬ (65:Int)<=(c.toNat:Int):=by omega
   rw[show aM c=false by simp[aM,h1,h3]]
   simp(disch:=try exact dI) only[Nh,h1I,h3I,push_cast,seval]
theorem fe (c:UInt8):au Tryz.prog aH 164 [.int .u8 (c.toNat:Int)] (.bool (isD c)):=by
 refine au.intro QP.2 (by simp[QP]) ?_
 by_cases h1:48<=c.toNat
 ·have h1I:(48:Int)<=(c.toNat:Int):=by omega
  by_cases h2:c.toNat<=57
  ·have h2I:(c.toNat:Int)<=57:=by omega
   rw[show isD c=true by simp[isD,h1,h2]]
   simp(disch:=try exact dI) only[QP,h1I,h2I,push_cast,seval]
  ·have h2I:¬ (c.toNat:Int)<=57:=by omega
   rw[show isD c=false by simp[isD,h2]]
   simp(disch:=try exact dI) only[QP,h1I,h2I,push_cast,seval]
 ·have h1I:¬ (48:Int)<=(c.toNat:Int):=by omega
  rw[show isD c=false by simp[isD,h1]]
  simp(disch:=try exact dI) only[QP,h1I,push_cast,seval]
theorem Aa (c:UInt8):au Tryz.prog aH 163 [.int .u8 (c.toNat:Int)] (.bool (bA c)):=by
 have h1:=qG c
 have h2:=fe c
 unfold bA
 generalize aM c=a at *
 generalize isD c=b at *
 refine au.intro NW.2 (by simp[NW]) ?_
 cases a with
 | true=>
   rw[Bool.true_or,Bool.true_or]
   simp(disch:=try exact dI) only[NW,push_cast,seval]
   refine ae.pure h1 rfl ?_
   exact qsZ
 | false=>
   cases b with
   | true=>
     rw[Bool.false_or,Bool.true_or]
     simp(disch:=try exact dI) only[NW,push_cast,seval]
     refine ae.pure h1 rfl ?_
     refine zgZ ?_
     refine ae.pure h2 rfl ?_
     exact qsZ
   | false=>
     by_cases h3:c.toNat=95
     ·have h3I:((c.toNat:Int)=95)=True:=eq_true (by omega)
      rw[show (false||false||decide (c.toNat=95))=true by simp[h3]]
      simp(disch:=try exact dI) only[NW,push_cast,seval]
      refine ae.pure h1 rfl ?_
      refine zgZ ?_
      refine ae.pure h2 rfl ?_
      simp(disch:=try exact dI) only[h3I,push_cast,seval]
     ·have h3I:¬ (c.toNat:Int)=95:=by omega
      rw[show (false||false||decide (c.toNat=95))=false by simp[h3]]
      simp(disch:=try exact dI) only[NW,push_cast,seval]
      refine ae.pure h1 rfl ?_
      refine zgZ ?_
      refine ae.pure h2 rfl ?_
      simp(disch:=try exact dI) only[h3I,push_cast,seval]
theorem Dk (c:UInt8):0<=fA c [32,9,13,10] 0↔az c=true:=by
 revert c;exact fH (by decide +kernel)
theorem Mh (c:UInt8):0<=fA c [91,93,123,125,40,41,58,44,61,63,124] 0↔pi c=true:=by
 revert c;exact fH (by decide +kernel)
theorem H9 (c:UInt8):au Tryz.prog aH 158 [.int .u8 (c.toNat:Int)] (.bool (az c)):=by
 have h:=ku [32,9,13,10] c
 have hb:=Dk c
 generalize fA c [32,9,13,10] 0=q at *
 refine au.intro Rq.2 (by simp[Rq]) ?_
 by_cases h0:0<=q
 ·rw[hb.1 h0]
  simp(disch:=try exact dI) only[Rq,push_cast,seval]
  refine ae.pure h rfl ?_
  simp(disch:=try exact dI) only[h0,push_cast,seval]
 ·rw[show az c=false by cases hh:az c with
   | true=>exact absurd (hb.2 hh) h0
   | false=>rfl]
  simp(disch:=try exact dI) only[Rq,push_cast,seval]
  refine ae.pure h rfl ?_
  simp(disch:=try exact dI) only[h0,push_cast,seval]
def mO (c:UInt8):Int:=match eP c with
 | some n=>n
 | none=>-1
def NK (c:UInt8):UInt8:=if 65<=c.toNat/\c.toNat<=70 then c+32 else c
theorem Mj (c:UInt8):fA (NK c) [48,49,50,51,52,53,54,55,56,57,97,98,99,100,101,102] 0=mO c:=by
 revert c;exact fH (by decide +kernel)
theorem gS {c:UInt8}{n:Nat}(h:eP c=some n):n<16:=by
 have key:∀ c:UInt8,(eP c).all (fun n=>decide (n<16))=true:=fH (by decide +kernel)
 have:=key c
 rw[h] at this
 simpa using this
theorem C8 (c:UInt8):au Tryz.prog aH 208 [.int .u8 (c.toNat:Int)] (.int .i64 (mO c)):=by
 have h:=ku [48,49,50,51,52,53,54,55,56,57,97,98,99,100,101,102] (NK c)
 rw[Mj] at h
 generalize mO c=q at *
 refine au.intro QL.2 (by simp[QL]) ?_
 by_cases h1:65<=c.toNat
 ·have h1I:(65:Int)<=(c.toNat:Int):=by omega
  by_cases h2:c.toNat<=70
  ·have h2I:(c.toNat:Int)<=70:=by omega
   have hw:=fE (n:=(c.toNat:Int)+32) (by omega) (by omega)
   rw[show ((NK c).toNat:Int)=(c.toNat:Int)+32 by
    rw[NK,if_pos ⟨h1,h2⟩,UInt8.toNat_add];simp;omega] at h
   simp(disch:=try exact dI) only[QL,h1I,h2I,hw,push_cast,seval]
   refine ae.pure h rfl ?_
   exact qsZ
  ·have h2I:¬ (c.toNat:Int)<=70:=by omega
   rw[show NK c=c from if_neg (by omega)] at h
   simp(disch:=try exact dI) only[QL,h1I,h2I,push_cast,seval]
   refine ae.pure h rfl ?_
   exact qsZ
 ·have h1I:¬ (65:Int)<=(c.toNat:Int):=by omega
  rw[show NK c=c from if_neg (by omega)] at h
  simp(disch:=try exact dI) only[QL,h1I,push_cast,seval]
  refine ae.pure h rfl ?_
  exact qsZ
def rdC (R:Rd):List AV:=[.pv (.str R.s),.pv (.int .i64 (R.next:Int)),.pv (.int .i64 R.now.kind),.pv (.int .i64 (R.now.pos:Int)),.pv (.str R.now.text),.pv (.str R.now.bytes),.pv (.int .i64 R.now.num),.pv (.int .i64 (R.now.sc:Int)),.pv (.bool R.now.dec),.pv (.bool R.now.exa),.pv (.int .i64 R.e),.pv (.int .i64 (R.off:Int))]
def rdB (R:Rd):Blk:=.cells 79 true (rdC R)
def tkP (t:Tk):PV:=.agg [.int .i64 t.kind,.int .i64 (t.pos:Int),.str t.text,.str t.bytes,.int .i64 t.num,.int .i64 (t.sc:Int),.bool t.dec,.bool t.exa]
theorem bV (R:Rd)(i:Nat)(e:Int):aI Tryz.prog (bE T p) 1 92 [.ptr 0 0,.pv (.int .i64 (i:Int)),.pv (.int .i64 e)] [rdB R] (.pv (.tup [])) [rdB (aP R i e)]:=by
 refine aI.intro Q92.2 (by simp[Q92]) ?_
 by_cases h:R.e=0
 ·have hI:(R.e=0)=True:=eq_true h
  rw[aP,if_pos h]
  simp(disch:=try exact dI) only[Q92,rdB,rdC,hI,push_cast,seval]
  exact am [] (by simp(disch:=try exact dI) only[rdB,rdC,push_cast,seval])
 ·rw[aP,if_neg h]
  simp(disch:=try exact dI) only[Q92,rdB,rdC,h,push_cast,seval]
  exact am [] (by simp(disch:=try exact dI) only[rdB,rdC,push_cast,seval])
theorem eA {q:UInt8->Bool}{s:List UInt8}{i:Nat}{c:UInt8}(h:s[i]? = some c):aN q s i=if q c=true then aN q s (i+1) else i:=by
 unfold aN
 rw[aU h,List.takeWhile_cons]
 by_cases hq:q c=true
 ·rw[if_pos hq,if_pos hq,List.length_cons];omega
 ·rw[if_neg hq,if_neg hq];rfl
theorem gM {q:UInt8->Bool}{s:List UInt8}{i:Nat}(h:s.length<=i):aN q s i=i:=by
 unfold aN;rw[List.drop_eq_nil_of_le h];rfl
theorem df {q:UInt8->Bool}{s:List UInt8}{i:Nat}:i<=aN q s i:=by unfold aN;omega
theorem bI {q:UInt8->Bool}{s:List UInt8}{i:Nat}(h:i<=s.length):aN q s i<=s.length:=by
 unfold aN
 have:=(List.takeWhile_sublist q (l:=s.drop i)).length_le
 simp at this;omega
theorem OD (R:Rd)(i g:Nat)(q:UInt8->Bool)(hg:∀ c:UInt8,au Tryz.prog (bE T p) g [.int .u8 (c.toNat:Int)] (.bool (q c)))(hs:R.s.length<=65536)(hi:i<=R.s.length) :
  aI Tryz.prog (bE T p) 1 157 [.ptr 0 0,.pv (.int .i64 (i:Int)),.pv (.clo g [] [])] [rdB R] (.pv (.int .i64 (aN q R.s i:Int))) [rdB R]:=by
 generalize hK:aN q R.s i=K
 refine aI.intro Tj.2 (by simp[Tj]) ?_
 simp(disch:=try exact dI) only[Tj,rdB,rdC,push_cast,seval]
 refine aK ([]) (fun j:Nat=>[(1,.pv (.int .i64 (j:Int)))]) (fun _=>[]) (fun j=>j<=R.s.length/\aN q R.s j=K) (fun j=>R.s.length - j) (i) ?_;intro e0 σ0 n0 h0;simp(disch:=try exact dI) only[push_cast,seval] at h0;obtain⟨rfl,rfl,rfl⟩:=h0;refine⟨?_,?_,?_⟩
 ·exact qsZ
 ·exact⟨hi,hK⟩
 rintro j ⟨hj,he⟩
 by_cases hlt:j<R.s.length
 ·have hltI:(j:Int)<(R.s.length:Int):=by omega
  obtain⟨c,hc⟩:∃ c,R.s[j]? = some c:=⟨_,List.getElem?_eq_getElem hlt⟩
  have hcall:=hg c
  rw[eA hc] at he
  cases hq:q c with
  | true=>
    rw[hq] at hcall
    rw[hq,if_pos rfl] at he
    simp(disch:=try exact dI) only[hltI,hc,ag,push_cast,seval]
    refine ae.pure hcall rfl ?_
    refine zgZ ?_
    exact⟨j+1,bu qsZ,⟨by omega,he⟩,by omega⟩
  | false=>
    rw[hq] at hcall
    rw[hq,if_neg (by decide)] at he
    subst he
    simp(disch:=try exact dI) only[hltI,hc,ag,push_cast,seval]
    refine ae.pure hcall rfl ?_
    refine zgZ ?_
    exact am [] (by simp(disch:=try exact dI) only[rdB,rdC,push_cast,seval])
 ·have hltI:¬ (j:Int)<(R.s.length:Int):=by omega
  rw[gM (by omega)] at he
  subst he
  simp(disch:=try exact dI) only[hltI,push_cast,seval]
  exact am [] (by simp(disch:=try exact dI) only[rdB,rdC,push_cast,seval])
theorem yc (R:Rd)(t:List UInt8):aI Tryz.prog (bE T p) 1 131 [.ptr 0 0,.pv (.str t)] [rdB R] (.pv (.bool (isT R t))) [rdB R]:=by
 refine aI.intro N0.2 (by simp[N0]) ?_
 unfold isT
 by_cases h0:R.e=0
 ·have h0I:(R.e=0)=True:=eq_true h0
  have ht:∀ a:Bool,a=true->aI Tryz.prog (bE T p) 1 131 [.ptr 0 0,.pv (.str t)] [rdB R] (.pv (.bool (decide (R.e=0)&&a&&decide (R.now.text=t)))) [rdB R]->True:=fun _ _ _=>trivial
  by_cases h5:R.now.kind=5
  ·have h5I:(R.now.kind=5)=True:=eq_true h5
   rw[show (decide (R.e=0)&&(decide (R.now.kind=5)||decide (R.now.kind=1))&&decide (R.now.text=t))=decide (R.now.text=t) by simp[h0,h5]]
   simp(disch:=try exact dI) only[N0,rdB,rdC,h0I,h5I,push_cast,seval]
   exact am [] (by simp(disch:=try exact dI) only[rdB,rdC,push_cast,seval])
  ·by_cases h1:R.now.kind=1
   ·have h1I:(R.now.kind=1)=True:=eq_true h1
    rw[show (decide (R.e=0)&&(decide (R.now.kind=5)||decide (R.now.kind=1))&&decide (R.now.text=t))=decide (R.now.text=t) by simp[h0,h1]]
    simp(disch:=try exact dI) only[N0,rdB,rdC,h0I,h5,h1I,push_cast,seval]
    exact am [] (by simp(disch:=try exact dI) only[rdB,rdC,push_cast,seval])
   ·rw[show (decide (R.e=0)&&(decide (R.now.kind=5)||decide (R.now.kind=1))&&decide (R.now.text=t))=false by simp[h1,h5]]
    simp(disch:=try exact dI) only[N0,rdB,rdC,h0I,h5,h1,push_cast,seval]
    exact am [] (by simp(disch:=try exact dI) only[rdB,rdC,push_cast,seval])
 ·rw[show (decide (R.e=0)&&(decide (R.now.kind=5)||decide (R.now.kind=1))&&decide (R.now.text=t))=false by simp[h0]]
  simp(disch:=try exact dI) only[N0,rdB,rdC,h0,push_cast,seval]
  exact am [] (by simp(disch:=try exact dI) only[rdB,rdC,push_cast,seval])
end
def aB:Bool->AV
 | true=>.ptr 0 0
 | false=>.pv .nilp
def bB (t:Bool):List UInt8->List Blk
 | []=>[.cells 83 true [aB t,.pv .nils]]
 | b::r=>[.cells 83 true [aB t,.row 1 1 0 (r.length+1)],.cells 5 false ((aC (b::r)).map .pv)]
theorem P6 (t:Bool)(l:List UInt8):aI Tryz.prog aH 1 107 [.ptr 0 0] (bB t l) (.pv (.tup [])) (bB true l):=by
 refine aI.intro Nu (by simp[N3]) ?_
 cases l with
 | nil=>
   cases t with
   | true=>
     simp(disch:=try exact dI) only[N3,bB,aB,push_cast,seval]
     exact am [] qsZ
   | false=>
     simp(disch:=try exact dI) only[N3,bB,aB,push_cast,seval]
     exact am [] qsZ
 | cons b r=>
   cases t with
   | true=>
     simp(disch:=try exact dI) only[N3,bB,aB,push_cast,seval]
     exact am [] qsZ
   | false=>
     simp(disch:=try exact dI) only[N3,bB,aB,push_cast,seval]
     exact am [] qsZ
theorem tV (t:Bool)(l:List UInt8)(c:UInt8)(hl:l.length<=100000000):aI Tryz.prog aH 1 49 [.ptr 0 0,.pv (.int .u8 (c.toNat:Int))] (bB t l) (.pv .nili) (bB true (l++[c])):=by
 have hC:=P6 t l
 refine aI.intro Q49.2 (by simp[Q49]) ?_
 cases l with
 | nil=>
   cases t<;>(
   try simp only[bB,aB] at hC
   simp(disch:=try exact dI) only[Q49,bB,aB,push_cast,seval]
   refine ae.lentK hC [0] rfl qsZ qsZ ?_
   simp(disch:=try exact dI) only[bB,aB,push_cast,seval]
   exact am [] (by simp(disch:=try exact dI) only[aC,push_cast,seval]))
 | cons b r=>
   have hA:=fun new q=>zd (t:=5) (q:=q) (new:=new) (f:=false) (l:=b::r) (c:=c) (len:=r.length+1) rfl (by simp at hl ⊢;omega)
   cases t<;>(
   try simp only[bB,aB] at hC
   simp(disch:=try exact dI) only[Q49,bB,aB,push_cast,seval]
   refine ae.lentK hC [0,1] rfl qsZ qsZ ?_
   simp(disch:=try exact dI) only[bB,aB,hA,push_cast,seval]
   exact am [] (by simp(disch:=try exact dI) only[aC,List.length_append,push_cast,seval]))
theorem IF (t:Bool)(l k:List UInt8)(hl:l.length<=100000000)(hk:k.length<=100000000):aI Tryz.prog aH 1 50 [.ptr 0 0,.pv (.str k)] (bB t l) (.pv (.tup [.int .i64 (k.length:Int),.nili])) (bB true (l++k)):=by
 have hC:=P6 t l
 refine aI.intro Q50.2 (by simp[Q50]) ?_
 cases l with
 | nil=>
   cases k with
   | nil=>
     cases t<;>(
     try simp only[bB,aB] at hC
     simp(disch:=try exact dI) only[Q50,bB,aB,push_cast,seval]
     refine ae.lentK hC [0] rfl qsZ qsZ ?_
     simp(disch:=try exact dI) only[bB,aB,push_cast,seval]
     exact am [] qsZ)
   | cons c k=>
     simp only[List.length_cons] at hk
     cases t<;>(
     try simp only[bB,aB] at hC
     simp(disch:=try exact dI) only[Q50,bB,aB,push_cast,seval]
     refine ae.lentK hC [0] rfl qsZ qsZ ?_
     simp(disch:=try exact dI) only[bB,aB,push_cast,seval]
     exact am [] qsZ)
 | cons b r=>
   have e2:(r++k).length+1=r.length+1+k.length:=by simp;omega
   have hA:=fun new q=>Ib (t:=5) (q:=q) (new:=new) (f:=false) (l:=b::r) (k:=k) (len:=r.length+1) rfl (by simp at hl ⊢;omega)
   cases t<;>(
   try simp only[bB,aB] at hC
   simp(disch:=try exact dI) only[Q50,bB,aB,push_cast,seval]
   refine ae.lentK hC [0,1] rfl qsZ qsZ ?_
   simp(disch:=try exact dI) only[bB,aB,hA,push_cast,seval]
   exact am [] (by simp(disch:=try exact dI) only[e2,push_cast,seval]))
def stB:List UInt8->List Blk
 | []=>[.none]
 | _::_=>[.none,.none]
theorem AI (t:Bool)(l:List UInt8)(hl:l.length<=100000000):aI Tryz.prog aH 1 52 [.ptr 0 0] (bB t l) (.pv (.str l)) (stB l):=by
 refine aI.intro Q52.2 (by simp[Q52]) ?_
 cases l with
 | nil=>
   cases t<;>(
   try simp only[bB,aB] at hC
   simp(disch:=try exact dI) only[Q52,bB,aB,push_cast,seval]
   exact am [] (by simp(disch:=try exact dI) only[stB,push_cast,seval]))
 | cons b r=>
   have hA:=fun (k:Int) (q:Nat) (hk:k=((b::r).length:Int))=>ub (t:=5) (r:=q) (f:=false) (l:=b::r) hk (by simp) (by simp at hl ⊢;omega)
   cases t<;>(
   try simp only[bB,aB] at hC
   simp(disch:=try exact dI) only[Q52,bB,aB,hA,push_cast,seval]
   exact am [] (by simp(disch:=try exact dI) only[stB,push_cast,seval]))

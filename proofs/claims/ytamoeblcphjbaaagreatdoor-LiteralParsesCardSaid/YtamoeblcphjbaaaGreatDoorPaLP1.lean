/- A part of the proof. -/
import Derived.Test.YtamoeblcphjbaaaGreatDoorPaLR5
set_option maxHeartbeats 16000000
set_option maxRecDepth 100000
set_option linter.unusedVariables false
set_option linter.unusedSimpArgs false
namespace Go.Proofs.YtamoeblcphjbaaaGreatDoor
open Go Go.Ab
structure Tk where
 kind:Int:=0
 pos:Nat:=0
 text:List UInt8:=[]
 bytes:List UInt8:=[]
 num:Int:=0
 sc:Nat:=0
 dec:Bool:=false
 exa:Bool:=false
structure Rd where
 s:List UInt8
 next:Nat
 now:Tk
 e:Int
 off:Nat
def aI (R:Rd)(i:Nat)(e:Int):Rd:=if R.e=0 then { R with e:=e,off:=i } else R
def aC (c:UInt8):Bool:=decide (c.toNat=32)||decide (c.toNat=9)||decide (c.toNat=13)||decide (c.toNat=10)
def aJ (c:UInt8):Bool:=(decide (97≤c.toNat)&&decide (c.toNat≤122))||(decide (65≤c.toNat)&&decide (c.toNat≤90))
def bM (c:UInt8):Bool:=aJ c||isD c||decide (c.toNat=95)
def lq (c:UInt8):Bool:=decide (c∈([91,93,123,125,40,41,58,44,61,63,124]:List UInt8))
def aK (p:UInt8→Bool)(s:List UInt8)(i:Nat):Nat:=i+((s.drop i).takeWhile p).length
def eG (c:UInt8):Option Nat:=
 if 48≤c.toNat∧c.toNat≤57 then some (c.toNat - 48) else if 97≤c.toNat∧c.toNat≤102 then some (c.toNat - 87)
 else if 65≤c.toNat∧c.toNat≤70 then some (c.toNat - 55) else none
def js:Nat→List UInt8→Option Nat
 | n,[]=>some n
 | n,c::r=>match eG c with
   | none=>none
   | some d=>js (16*n+d) r
def eQ (n:Nat):Option (List UInt8):=if n≤1114111∧¬ (55296≤n∧n≤57343) then some (Go.Utf8.encode (n:Int)).data.toList else none
def pI (c:UInt8):Option UInt8:=
 if c.toNat=34 then some 34 else if c.toNat=92 then some 92 else if c.toNat=110 then some 10 else if c.toNat=114 then some 13 else if c.toNat=116 then some 9 else none
def xy (r:List UInt8):(List UInt8×Nat)×Int:=
 match fV 125 r with
 | none=>(([],0),13)
 | some q=>
   if q.1.length<1∨6<q.1.length then (([],0),13)
   else match js 0 q.1 with
    | none=>(([],0),13)
    | some n=>match eQ n with
      | none=>(([],0),16)
      | some t=>((t,q.1.length+3),0)
def fQ (s:List UInt8):(List UInt8×Nat)×Int:=
 match s with
 | []=>(([],0),13)
 | c::r=>match pI c with
   | some b=>(([b],1),0)
   | none=>if fP [117,123] (c::r)=true then xy ((c::r).drop 2) else (([],0),13)
inductive Sc where
 | done (out:List UInt8) (next:Nat)
 | bad (i:Nat) (e:Int)
 | short
def ir:Nat→List UInt8→Nat→List UInt8→Sc
 | 0,_,_,_=>.short
 | _,[],_,_=>.short
 | f+1,c::r,i,out=>
   if c.toNat=34 then .done out (i+1) else if c.toNat<32∨c.toNat=127 then .bad i 6
   else if c.toNat=92 then
    (if r=[] then .short else if (fQ r).2=0 then ir f (r.drop (fQ r).1.2) (i+1+(fQ r).1.2) (out++(fQ r).1.1) else .bad i (fQ r).2)
   else ir f r (i+1) (out++[c])
def en:List UInt8→Nat→Option Nat→List UInt8→Sc
 | [],_,_,_=>.short
 | c::r,i,odd,out=>
   if c.toNat=34∧odd=none then .done out (i+1)
   else match eG c with
    | none=>.bad i 13
    | some n=>match odd with
      | none=>en r (i+1) (some n) out
      | some o=>en r (i+1) none (out++[UInt8.ofNat (16*o+n)])
def bd (R:Rd)(i:Nat)(k:Int)(v:Bool):Sc→Rd
 | .short=>aI R i 4
 | .bad j e=>aI R j e
 | .done out j=>
   let R1:=if v=true∧Lib.validD out=false then aI R i 16 else R
   { R1 with now:={ R1.now with kind:=k,bytes:=out },next:=j }
def xr (R:Rd)(i:Nat):Rd:=bd R i 3 true (ir (R.s.length+1) (R.s.drop (i+1)) (i+1) [])
def xw (R:Rd)(i:Nat):Rd:=bd R i 4 false (en (R.s.drop (i+2)) (i+2) none [])
def bX (s:List UInt8):List UInt8:=if s.getLast? = some 100 then s.dropLast else s
def ma (s:List UInt8)(z:Nat):Nat×Bool×Bool:=
 if s[z]? = some 46∧(s[z+1]?.any isD)=true then (aK isD s (z+1),true,false) else if s[z]? = some 100 then (z+1,true,true) else (z,false,false)
def rp (R:Rd)(i:Nat):Rd:=
 let a:=if R.s[i]? = some 45 then i+1 else i
 let z:=aK isD R.s a
 if z=a then aI R i 13
 else
  let p:=ma R.s z
  let q:=aQ (bX ((R.s.take p.1).drop i))
  let R1:={ R with next:=p.1,now:={ R.now with dec:=p.2.1,exa:=p.2.2 } }
  let R2:=if q.2=0 then R1 else aI R1 i q.2
  { R2 with now:={ R2.now with kind:=2,num:=q.1.1,sc:=q.1.2 } }
def eS (R:Rd)(i:Nat)(c:UInt8):Rd:=
 if c.toNat=34 then xr R i
 else if c.toNat=120∧R.s[i+1]? = some 34 then xw R i
 else if aJ c=true then { R with next:=aK bM R.s i,now:={ R.now with kind:=1 } }
 else if isD c=true∨c.toNat=45 then rp R i
 else if c.toNat=46∧R.s[i+1]? = some 46 then { R with next:=i+2,now:={ R.now with kind:=5 } }
 else if lq c=true then { R with next:=i+1,now:={ R.now with kind:=5 } }
 else aI R i 13
def fb (R:Rd)(i:Nat):Rd:=if R.e=0 then { R with now:={ R.now with text:=(R.s.take R.next).drop i } } else R
def aY (R:Rd):Rd:=
 if R.e=0 then
  let i:=aK aC R.s R.next
  let R1:={ R with now:={ pos:=i },next:=i }
  match R.s[i]? with
  | none=>R1
  | some c=>fb (eS R1 i c) i
 else R
def isT (R:Rd)(t:List UInt8):Bool:=decide (R.e=0)&&(decide (R.now.kind=5)||decide (R.now.kind=1))&&decide (R.now.text=t)
def nP (R:Rd)(t:List UInt8):Bool×Rd:=if isT R t=true then (true,aY R) else (false,R)
def aq (R:Rd)(t:List UInt8):Rd:=if R.e=0 then (if isT R t=true then aY R else aI R R.now.pos 13) else R
def fe (R:Rd)(k:Int):Tk×Rd:=
 let R1:=if R.e=0∧R.now.kind≠k then aI R R.now.pos 13 else R
 if R1.e=0 then (R1.now,aY R1) else ({},R1)
def bg (R:Rd):List UInt8×Rd:=
 let p:=fe R 1
 (p.1.text,if p.2.e=0∧bC p.1.text=false then aI p.2 p.1.pos 12 else p.2)
def bh (R:Rd)(parse:List UInt8→Int×Int):Int×Rd:=
 let p:=fe R 3
 if p.2.e=0 then ((parse p.1.bytes).1,if (parse p.1.bytes).2=0 then p.2 else aI p.2 p.1.pos (parse p.1.bytes).2) else (0,p.2)
def aH:Val:=.mk 0 0 0 [] [] []
def cJ (val:Rd→Val×Rd):Nat→Bool→List Val→Rd→List Val×Rd
 | 0,_,l,R=>(l,R)
 | k+1,first,l,R=>
   if R.e=0∧isT R [93]=false then
    let p:=val (if first=true then R else aq R [44])
    cJ val k false (l++[p.1]) p.2
   else (l,R)
def iZ (val:Rd→Val×Rd):Nat→Bool→List (List UInt8)→List Fld→Rd→List Fld×Rd
 | 0,_,_,l,R=>(l,R)
 | k+1,first,seen,l,R=>
   if R.e=0∧isT R [125]=false then
    let R1:=if first=true then R else aq R [44]
    let p:=bg R1
    let R2:=if p.2.e=0∧p.1∈seen then aI p.2 R1.now.pos 7 else p.2
    let q:=val (aq R2 [58])
    iZ val k false (sn seen p.1) (l++[.mk p.1 q.1]) q.2
   else (l,R)
def bu (val:Rd→Val×Rd)(R:Rd)(t:Tk)(d:Nat):Val×Rd:=
 if R.e=0 then
  if isT R [40]=true then
   (if bC t.text=false then (aH,aI R t.pos 12)
   else
    let p:=val (aY R)
    (.mk 10 0 0 t.text [p.1] [],aq p.2 [41]))
  else if t.text=[116,114,117,101] then (.mk 1 1 0 [] [] [],R)
  else if t.text=[102,97,108,115,101] then (.mk 1 0 0 [] [] [],R)
  else if t.text=[100,97,116,101] then
   let p:=bh R b9
   (.mk 6 p.1 0 [] [] [],p.2)
  else if t.text=[116,105,109,101] then
   let p:=bh R bI
   (.mk 7 p.1 0 [] [] [],p.2)
  else if t.text=[110,117,108,108]∧d=0 then (aH,R)
  else (aH,aI R t.pos 13)
 else (aH,R)
def aG (sort:List Fld→List Fld):Nat→Nat→Rd→Val×Rd
 | f,d,R=>
   if R.e=0 then
    let t:=R.now
    if t.kind≠2∧t.kind≠3∧t.kind≠4∧t.kind≠1∧t.text≠[91]∧t.text≠[123] then (aH,aI R t.pos 13)
    else match f with
     | 0=>(aH,aI R t.pos 23)
     | f+1=>
       let R1:=aY R
       if t.kind=2∧t.dec=true then (.mk 3 t.num t.sc [] [] [],R1)
       else if t.kind=2 then (.mk 2 t.num 0 [] [] [],R1)
       else if t.kind=3 then (.mk 4 0 0 t.bytes [] [],R1)
       else if t.kind=4 then (.mk 5 0 0 t.bytes [] [],R1)
       else if t.text=[91] then
        let p:=cJ (aG sort f (d+1)) (R.s.length+2) true [] R1
        (.mk 8 0 0 [] p.1 [],aq p.2 [93])
       else if t.text=[123] then
        let p:=iZ (aG sort f (d+1)) (R.s.length+2) true [] [] R1
        (.mk 9 0 0 [] [] (sort p.1),aq p.2 [125])
       else bu (aG sort f (d+1)) R1 t d
   else (aH,R)
def bj (s:List UInt8):Rd:=
 let R:Rd:=⟨s,0,{},0,0⟩
 aY (if 65536<s.length then aI R 0 5 else R)
def cK (R:Rd):Rd:=if R.e=0∧R.now.kind≠0 then aI R R.now.pos 13 else R
end Go.Proofs.YtamoeblcphjbaaaGreatDoor
-- many steps
namespace Go.Proofs.YtamoeblcphjbaaaGreatDoor
open Go Go.Ab
attribute [local irreducible] vc
theorem og {P:UInt8→Prop}(h:∀ k:Fin 256,P (UInt8.ofNat k.val))(c:UInt8):P c:=by
 have:=h ⟨c.toNat,c.toNat_lt⟩
 simpa using this
section
variable {T:Nat}{p:PV}
theorem pw (c:UInt8):au Tryz.prog aM 162 [.int .u8 (c.toNat:Int)] (.bool (aJ c)):=by
 refine au.intro Lk (by simp[Ll]) ?_
 by_cases h1:97≤c.toNat
 ·have h1I:(97:Int)≤(c.toNat:Int):=by omega
  by_cases h2:c.toNat≤122
  ·have h2I:(c.toNat:Int)≤122:=by omega
   rw[show aJ c=true by simp[aJ,h1,h2]]
   simp(disch:=try exact dI) only[Ll,h1I,h2I,push_cast,seval]
  ·have h2I:¬ (c.toNat:Int)≤122:=by omega
   rw[show aJ c=false by simp[aJ,h2];omega]
   have h3I:(65:Int)≤(c.toNat:Int):=by omega
   have h4I:¬ (c.toNat:Int)≤90:=by omega
   simp(disch:=try exact dI) only[Ll,h1I,h2I,h3I,h4I,push_cast,seval]
 ·have h1I:¬ (97:Int)≤(c.toNat:Int):=by omega
  by_cases h3:65≤c.toNat
  ·have h3I:(65:Int)≤(c.toNat:Int):=by omega
   by_cases h4:c.toNat≤90
   ·have h4I:(c.toNat:Int)≤90:=by omega
    rw[show aJ c=true by simp[aJ,h3,h4]]
    simp(disch:=try exact dI) only[Ll,h1I,h3I,h4I,push_cast,seval]
   ·have h4I:¬ (c.toNat:Int)≤90:=by omega
    rw[show aJ c=false by simp[aJ,h1,h4]]
    simp(disch:=try exact dI) only[Ll,h1I,h3I,h4I,push_cast,seval]
  ·have h3I:¬ (65:Int)≤(c.toNat:Int):=by omega
   rw[show aJ c=false by simp[aJ,h1,h3]]
   simp(disch:=try exact dI) only[Ll,h1I,h3I,push_cast,seval]
theorem eK (c:UInt8):au Tryz.prog aM 164 [.int .u8 (c.toNat:Int)] (.bool (isD c)):=by
 refine au.intro Li (by simp[PY]) ?_
 by_cases h1:48≤c.toNat
 ·have h1I:(48:Int)≤(c.toNat:Int):=by omega
  by_cases h2:c.toNat≤57
  ·have h2I:(c.toNat:Int)≤57:=by omega
   rw[show isD c=true by simp[isD,h1,h2]]
   simp(disch:=try exact dI) only[PY,h1I,h2I,push_cast,seval]
  ·have h2I:¬ (c.toNat:Int)≤57:=by omega
   rw[show isD c=false by simp[isD,h2]]
   simp(disch:=try exact dI) only[PY,h1I,h2I,push_cast,seval]
 ·have h1I:¬ (48:Int)≤(c.toNat:Int):=by omega
  rw[show isD c=false by simp[isD,h1]]
  simp(disch:=try exact dI) only[PY,h1I,push_cast,seval]
theorem xM (c:UInt8):au Tryz.prog aM 163 [.int .u8 (c.toNat:Int)] (.bool (bM c)):=by
 have h1:=pw c
 have h2:=eK c
 unfold bM
 generalize aJ c=a at *
 generalize isD c=b at *
 refine au.intro Lj (by simp[Mm]) ?_
 cases a with
 | true=>
   rw[Bool.true_or,Bool.true_or]
   simp(disch:=try exact dI) only[Mm,push_cast,seval]
   refine ab.pure h1 rfl ?_
   exact qsZ
 | false=>
   cases b with
   | true=>
     rw[Bool.false_or,Bool.true_or]
     simp(disch:=try exact dI) only[Mm,push_cast,seval]
     refine ab.pure h1 rfl ?_
     refine zgZ ?_
     refine ab.pure h2 rfl ?_
     exact qsZ
   | false=>
     by_cases h3:c.toNat=95
     ·have h3I:((c.toNat:Int)=95)=True:=eq_true (by omega)
      rw[show (false||false||decide (c.toNat=95))=true by simp[h3]]
      simp(disch:=try exact dI) only[Mm,push_cast,seval]
      refine ab.pure h1 rfl ?_
      refine zgZ ?_
      refine ab.pure h2 rfl ?_
      simp(disch:=try exact dI) only[h3I,push_cast,seval]
     ·have h3I:¬ (c.toNat:Int)=95:=by omega
      rw[show (false||false||decide (c.toNat=95))=false by simp[h3]]
      simp(disch:=try exact dI) only[Mm,push_cast,seval]
      refine ab.pure h1 rfl ?_
      refine zgZ ?_
      refine ab.pure h2 rfl ?_
      simp(disch:=try exact dI) only[h3I,push_cast,seval]
theorem BC (c:UInt8):0≤e6 c [32,9,13,10] 0↔aC c=true:=by
 revert c;exact og (by decide +kernel)
theorem JM (c:UInt8):0≤e6 c [91,93,123,125,40,41,58,44,61,63,124] 0↔lq c=true:=by
 revert c;exact og (by decide +kernel)
theorem Gh (c:UInt8):au Tryz.prog aM 158 [.int .u8 (c.toNat:Int)] (.bool (aC c)):=by
 have h:=jG [32,9,13,10] c
 have hb:=BC c
 generalize e6 c [32,9,13,10] 0=q at *
 refine au.intro Lp (by simp[Qu]) ?_
 by_cases h0:0≤q
 ·rw[hb.1 h0]
  simp(disch:=try exact dI) only[Qu,push_cast,seval]
  refine ab.pure h rfl ?_
  simp(disch:=try exact dI) only[h0,push_cast,seval]
 ·rw[show aC c=false by cases hh:aC c with
   | true=>exact absurd (hb.2 hh) h0
   | false=>rfl]
  simp(disch:=try exact dI) only[Qu,push_cast,seval]
  refine ab.pure h rfl ?_
  simp(disch:=try exact dI) only[h0,push_cast,seval]
def lE (c:UInt8):Int:=match eG c with
 | some n=>n
 | none=>-1
def Md (c:UInt8):UInt8:=if 65≤c.toNat∧c.toNat≤70 then c+32 else c
theorem JO (c:UInt8):e6 (Md c) [48,49,50,51,52,53,54,55,56,57,97,98,99,100,101,102] 0=lE c:=by
 revert c;exact og (by decide +kernel)
theorem gv {c:UInt8}{n:Nat}(h:eG c=some n):n<16:=by
 have key:∀ c:UInt8,(eG c).all (fun n=>decide (n<16))=true:=og (by decide +kernel)
 have:=key c
 rw[h] at this
 simpa using this
theorem Bv (c:UInt8):au Tryz.prog aM 208 [.int .u8 (c.toNat:Int)] (.int .i64 (lE c)):=by
 have h:=jG [48,49,50,51,52,53,54,55,56,57,97,98,99,100,101,102] (Md c)
 rw[JO] at h
 generalize lE c=q at *
 refine au.intro KU (by simp[PQ]) ?_
 by_cases h1:65≤c.toNat
 ·have h1I:(65:Int)≤(c.toNat:Int):=by omega
  by_cases h2:c.toNat≤70
  ·have h2I:(c.toNat:Int)≤70:=by omega
   have hw:=e8 (n:=(c.toNat:Int)+32) (by omega) (by omega)
   rw[show ((Md c).toNat:Int)=(c.toNat:Int)+32 by
    rw[Md,if_pos ⟨h1,h2⟩,UInt8.toNat_add];simp;omega] at h
   simp(disch:=try exact dI) only[PQ,h1I,h2I,hw,push_cast,seval]
   refine ab.pure h rfl ?_
   exact qsZ
  ·have h2I:¬ (c.toNat:Int)≤70:=by omega
   rw[show Md c=c from if_neg (by omega)] at h
   simp(disch:=try exact dI) only[PQ,h1I,h2I,push_cast,seval]
   refine ab.pure h rfl ?_
   exact qsZ
 ·have h1I:¬ (65:Int)≤(c.toNat:Int):=by omega
  rw[show Md c=c from if_neg (by omega)] at h
  simp(disch:=try exact dI) only[PQ,h1I,push_cast,seval]
  refine ab.pure h rfl ?_
  exact qsZ
def rdC (R:Rd):List AV:=[.pv (.str R.s),.pv (.int .i64 (R.next:Int)),.pv (.int .i64 R.now.kind),.pv (.int .i64 (R.now.pos:Int)),.pv (.str R.now.text),.pv (.str R.now.bytes),.pv (.int .i64 R.now.num),.pv (.int .i64 (R.now.sc:Int)),.pv (.bool R.now.dec),.pv (.bool R.now.exa),.pv (.int .i64 R.e),.pv (.int .i64 (R.off:Int))]
def rdB (R:Rd):Blk:=.cells 79 true (rdC R)
def tkP (t:Tk):PV:=.agg [.int .i64 t.kind,.int .i64 (t.pos:Int),.str t.text,.str t.bytes,.int .i64 t.num,.int .i64 (t.sc:Int),.bool t.dec,.bool t.exa]
theorem cR (R:Rd)(i:Nat)(e:Int):aF Tryz.prog (bG T p) 1 92 [.ptr 0 0,.pv (.int .i64 (i:Int)),.pv (.int .i64 e)] [rdB R] (.pv (.tup [])) [rdB (aI R i e)]:=by
 refine aF.intro Pj (by simp[F92]) ?_
 by_cases h:R.e=0
 ·have hI:(R.e=0)=True:=eq_true h
  rw[aI,if_pos h]
  simp(disch:=try exact dI) only[F92,rdB,rdC,hI,push_cast,seval]
  exact am [] (by simp(disch:=try exact dI) only[rdB,rdC,push_cast,seval])
 ·rw[aI,if_neg h]
  simp(disch:=try exact dI) only[F92,rdB,rdC,h,push_cast,seval]
  exact am [] (by simp(disch:=try exact dI) only[rdB,rdC,push_cast,seval])
theorem fg {q:UInt8→Bool}{s:List UInt8}{i:Nat}{c:UInt8}(h:s[i]? = some c):aK q s i=if q c=true then aK q s (i+1) else i:=by
 unfold aK
 rw[aP h,List.takeWhile_cons]
 by_cases hq:q c=true
 ·rw[if_pos hq,if_pos hq,List.length_cons];omega
 ·rw[if_neg hq,if_neg hq];rfl
theorem iy {q:UInt8→Bool}{s:List UInt8}{i:Nat}(h:s.length≤i):aK q s i=i:=by
 unfold aK;rw[List.drop_eq_nil_of_le h];rfl
theorem da {q:UInt8→Bool}{s:List UInt8}{i:Nat}:i≤aK q s i:=by unfold aK;omega
theorem bq {q:UInt8→Bool}{s:List UInt8}{i:Nat}(h:i≤s.length):aK q s i≤s.length:=by
 unfold aK
 have:=(List.takeWhile_sublist q (l:=s.drop i)).length_le
 simp at this;omega
theorem Nc (R:Rd)(i g:Nat)(q:UInt8→Bool)(hg:∀ c:UInt8,au Tryz.prog (bG T p) g [.int .u8 (c.toNat:Int)] (.bool (q c)))(hs:R.s.length≤65536)(hi:i≤R.s.length) :
  aF Tryz.prog (bG T p) 1 157 [.ptr 0 0,.pv (.int .i64 (i:Int)),.pv (.clo g [] [])] [rdB R] (.pv (.int .i64 (aK q R.s i:Int))) [rdB R]:=by
 generalize hK:aK q R.s i=K
 refine aF.intro Lq (by simp[Sn]) ?_
 simp(disch:=try exact dI) only[Sn,rdB,rdC,push_cast,seval]
 refine bf ([]) (fun j:Nat=>[(1,.pv (.int .i64 (j:Int)))]) (fun _=>[]) (fun j=>j≤R.s.length∧aK q R.s j=K) (fun j=>R.s.length - j) (i) ?_;intro e0 σ0 n0 h0;simp(disch:=try exact dI) only[push_cast,seval] at h0;obtain⟨rfl,rfl,rfl⟩:=h0;refine⟨?_,?_,?_⟩
 ·exact qsZ
 ·exact⟨hi,hK⟩
 rintro j ⟨hj,he⟩
 by_cases hlt:j<R.s.length
 ·have hltI:(j:Int)<(R.s.length:Int):=by omega
  obtain⟨c,hc⟩:∃ c,R.s[j]? = some c:=⟨_,List.getElem?_eq_getElem hlt⟩
  have hcall:=hg c
  rw[fg hc] at he
  cases hq:q c with
  | true=>
    rw[hq] at hcall
    rw[hq,if_pos rfl] at he
    simp(disch:=try exact dI) only[hltI,hc,ae,push_cast,seval]
    refine ab.pure hcall rfl ?_
    refine zgZ ?_
    exact⟨j+1,bz qsZ,⟨by omega,he⟩,by omega⟩
  | false=>
    rw[hq] at hcall
    rw[hq,if_neg (by decide)] at he
    subst he
    simp(disch:=try exact dI) only[hltI,hc,ae,push_cast,seval]
    refine ab.pure hcall rfl ?_
    refine zgZ ?_
    exact am [] (by simp(disch:=try exact dI) only[rdB,rdC,push_cast,seval])
 ·have hltI:¬ (j:Int)<(R.s.length:Int):=by omega
  rw[iy (by omega)] at he
  subst he
  simp(disch:=try exact dI) only[hltI,push_cast,seval]
  exact am [] (by simp(disch:=try exact dI) only[rdB,rdC,push_cast,seval])
theorem Fy (R:Rd)(t:List UInt8):aF Tryz.prog (bG T p) 1 131 [.ptr 0 0,.pv (.str t)] [rdB R] (.pv (.bool (isT R t))) [rdB R]:=by
 refine aF.intro Lw (by simp[Mn]) ?_
 unfold isT
 by_cases h0:R.e=0
 ·have h0I:(R.e=0)=True:=eq_true h0
  have ht:∀ a:Bool,a=true→aF Tryz.prog (bG T p) 1 131 [.ptr 0 0,.pv (.str t)] [rdB R] (.pv (.bool (decide (R.e=0)&&a&&decide (R.now.text=t)))) [rdB R]→True:=fun _ _ _=>trivial
  by_cases h5:R.now.kind=5
  ·have h5I:(R.now.kind=5)=True:=eq_true h5
   rw[show (decide (R.e=0)&&(decide (R.now.kind=5)||decide (R.now.kind=1))&&decide (R.now.text=t))=decide (R.now.text=t) by simp[h0,h5]]
   simp(disch:=try exact dI) only[Mn,rdB,rdC,h0I,h5I,push_cast,seval]
   exact am [] (by simp(disch:=try exact dI) only[rdB,rdC,push_cast,seval])
  ·by_cases h1:R.now.kind=1
   ·have h1I:(R.now.kind=1)=True:=eq_true h1
    rw[show (decide (R.e=0)&&(decide (R.now.kind=5)||decide (R.now.kind=1))&&decide (R.now.text=t))=decide (R.now.text=t) by simp[h0,h1]]
    simp(disch:=try exact dI) only[Mn,rdB,rdC,h0I,h5,h1I,push_cast,seval]
    exact am [] (by simp(disch:=try exact dI) only[rdB,rdC,push_cast,seval])
   ·rw[show (decide (R.e=0)&&(decide (R.now.kind=5)||decide (R.now.kind=1))&&decide (R.now.text=t))=false by simp[h1,h5]]
    simp(disch:=try exact dI) only[Mn,rdB,rdC,h0I,h5,h1,push_cast,seval]
    exact am [] (by simp(disch:=try exact dI) only[rdB,rdC,push_cast,seval])
 ·rw[show (decide (R.e=0)&&(decide (R.now.kind=5)||decide (R.now.kind=1))&&decide (R.now.text=t))=false by simp[h0]]
  simp(disch:=try exact dI) only[Mn,rdB,rdC,h0,push_cast,seval]
  exact am [] (by simp(disch:=try exact dI) only[rdB,rdC,push_cast,seval])
end
def aB:Bool→AV
 | true=>.ptr 0 0
 | false=>.pv .nilp
def bB (t:Bool):List UInt8→List Blk
 | []=>[.cells 83 true [aB t,.pv .nils]]
 | b::r=>[.cells 83 true [aB t,.row 1 1 0 (r.length+1)],.cells 5 false ((az (b::r)).map .pv)]
theorem OF (t:Bool)(l:List UInt8):aF Tryz.prog aM 1 107 [.ptr 0 0] (bB t l) (.pv (.tup [])) (bB true l):=by
 refine aF.intro LS (by simp[Mp]) ?_
 cases l with
 | nil=>
   cases t with
   | true=>
     simp(disch:=try exact dI) only[Mp,bB,aB,push_cast,seval]
     exact am [] qsZ
   | false=>
     simp(disch:=try exact dI) only[Mp,bB,aB,push_cast,seval]
     exact am [] qsZ
 | cons b r=>
   cases t with
   | true=>
     simp(disch:=try exact dI) only[Mp,bB,aB,push_cast,seval]
     exact am [] qsZ
   | false=>
     simp(disch:=try exact dI) only[Mp,bB,aB,push_cast,seval]
     exact am [] qsZ
theorem sL (t:Bool)(l:List UInt8)(c:UInt8)(hl:l.length≤100000000):aF Tryz.prog aM 1 49 [.ptr 0 0,.pv (.int .u8 (c.toNat:Int))] (bB t l) (.pv .nili) (bB true (l++[c])):=by
 have hC:=OF t l
 refine aF.intro PG (by simp[F49]) ?_
 cases l with
 | nil=>
   cases t<;>(
   try simp only[bB,aB] at hC
   simp(disch:=try exact dI) only[F49,bB,aB,push_cast,seval]
   refine ab.lentK hC [0] rfl qsZ qsZ ?_
   simp(disch:=try exact dI) only[bB,aB,push_cast,seval]
   exact am [] (by simp(disch:=try exact dI) only[az,push_cast,seval]))
 | cons b r=>
   have hA:=fun new q=>xk (t:=5) (q:=q) (new:=new) (f:=false) (l:=b::r) (c:=c) (len:=r.length+1) rfl (by simp at hl ⊢;omega)
   cases t<;>(
   try simp only[bB,aB] at hC
   simp(disch:=try exact dI) only[F49,bB,aB,push_cast,seval]
   refine ab.lentK hC [0,1] rfl qsZ qsZ ?_
   simp(disch:=try exact dI) only[bB,aB,hA,push_cast,seval]
   exact am [] (by simp(disch:=try exact dI) only[az,List.length_append,push_cast,seval]))
theorem GE (t:Bool)(l k:List UInt8)(hl:l.length≤100000000)(hk:k.length≤100000000):aF Tryz.prog aM 1 50 [.ptr 0 0,.pv (.str k)] (bB t l) (.pv (.tup [.int .i64 (k.length:Int),.nili])) (bB true (l++k)):=by
 have hC:=OF t l
 refine aF.intro PF (by simp[F50]) ?_
 cases l with
 | nil=>
   cases k with
   | nil=>
     cases t<;>(
     try simp only[bB,aB] at hC
     simp(disch:=try exact dI) only[F50,bB,aB,push_cast,seval]
     refine ab.lentK hC [0] rfl qsZ qsZ ?_
     simp(disch:=try exact dI) only[bB,aB,push_cast,seval]
     exact am [] qsZ)
   | cons c k=>
     simp only[List.length_cons] at hk
     cases t<;>(
     try simp only[bB,aB] at hC
     simp(disch:=try exact dI) only[F50,bB,aB,push_cast,seval]
     refine ab.lentK hC [0] rfl qsZ qsZ ?_
     simp(disch:=try exact dI) only[bB,aB,push_cast,seval]
     exact am [] qsZ)
 | cons b r=>
   have e2:(r++k).length+1=r.length+1+k.length:=by simp;omega
   have hA:=fun new q=>Gj (t:=5) (q:=q) (new:=new) (f:=false) (l:=b::r) (k:=k) (len:=r.length+1) rfl (by simp at hl ⊢;omega)
   cases t<;>(
   try simp only[bB,aB] at hC
   simp(disch:=try exact dI) only[F50,bB,aB,push_cast,seval]
   refine ab.lentK hC [0,1] rfl qsZ qsZ ?_
   simp(disch:=try exact dI) only[bB,aB,hA,push_cast,seval]
   exact am [] (by simp(disch:=try exact dI) only[e2,push_cast,seval]))
def stB:List UInt8→List Blk
 | []=>[.none]
 | _::_=>[.none,.none]
theorem yz (t:Bool)(l:List UInt8)(hl:l.length≤100000000):aF Tryz.prog aM 1 52 [.ptr 0 0] (bB t l) (.pv (.str l)) (stB l):=by
 refine aF.intro CS (by simp[F52]) ?_
 cases l with
 | nil=>
   cases t<;>(
   try simp only[bB,aB] at hC
   simp(disch:=try exact dI) only[F52,bB,aB,push_cast,seval]
   exact am [] (by simp(disch:=try exact dI) only[stB,push_cast,seval]))
 | cons b r=>
   have hA:=fun (k:Int) (q:Nat) (hk:k=((b::r).length:Int))=>sQ (t:=5) (r:=q) (f:=false) (l:=b::r) hk (by simp) (by simp at hl ⊢;omega)
   cases t<;>(
   try simp only[bB,aB] at hC
   simp(disch:=try exact dI) only[F52,bB,aB,hA,push_cast,seval]
   exact am [] (by simp(disch:=try exact dI) only[stB,push_cast,seval]))
end Go.Proofs.YtamoeblcphjbaaaGreatDoor

/- A part of the proof for LiteralAgainCardSaid. -/
import Derived.Test.YtamoeblcphjbaaaGreatDoorAgLR4
import Derived.Test.YtamoeblcphjbaaaGreatDoorAgLC24
import Derived.Test.YtamoeblcphjbaaaGreatDoorAgLC11
import Derived.Test.YtamoeblcphjbaaaGreatDoorAgCore6
set_option maxRecDepth 100000
set_option linter.unusedVariables false
set_option linter.unusedSimpArgs false
-- many steps
namespace Go.Proofs.YtamoeblcphjbaaaGreatDoor
open Go Go.Ab
attribute [local irreducible] vc
def bN (i:Nat)(q:Int×Val):Int:=
 if 4096≤i then 9 else if 8<q.1 then 23 else if bQ q.2=true then 19 else if q.2.kind<1∨10<q.2.kind then 11 else if aE q.2=false then 3 else bi q.2
section
variable {i:Nat}{q:Int×Val}
theorem yk (c1:4096≤i):bN i q=9:=if_pos c1
theorem qx (c1:¬ 4096≤i)(c2:8<q.1):bN i q=23:=by unfold bN;rw[if_neg c1,if_pos c2]
theorem yj (c1:¬ 4096≤i)(c2:¬ 8<q.1)(c3:bQ q.2=true):bN i q=19:=by unfold bN;rw[if_neg c1,if_neg c2,if_pos c3]
theorem yh (c1:¬ 4096≤i)(c2:¬ 8<q.1)(c3:bQ q.2=false)(c4:q.2.kind<1∨10<q.2.kind):bN i q=11:=by unfold bN;rw[if_neg c1,if_neg c2,if_neg (by rw[c3];simp),if_pos c4]
theorem yg (c1:¬ 4096≤i)(c2:¬ 8<q.1)(c3:bQ q.2=false)(c4:¬ (q.2.kind<1∨10<q.2.kind))(c5:aE q.2=false):bN i q=3:=by unfold bN;rw[if_neg c1,if_neg c2,if_neg (by rw[c3];simp),if_neg c4,if_pos c5]
theorem yf (c1:¬ 4096≤i)(c2:¬ 8<q.1)(c3:bQ q.2=false)(c4:¬ (q.2.kind<1∨10<q.2.kind))(c5:aE q.2=true):bN i q=bi q.2:=by unfold bN;rw[if_neg c1,if_neg c2,if_neg (by rw[c3];simp),if_neg c4,if_neg (by rw[c5];simp)]
end
def mq:Nat→List (Int×Val)→Int
 | _,[]=>0
 | i,q::r=>if bN i q=0 then mq (i+1) r else bN i q
def Iq (k:Int):Nat:=if k=1 then 69 else if k=2 then 71 else if k=3 then 72 else if k=4 then 74 else if k=5 then 77 else if k=6 then 78 else if k=7 then 79 else if k=8 then 80 else if k=9 then 81 else 83
theorem Ip (v:Val)(h:1≤v.kind∧v.kind≤10):aq Tryz.prog aF (Iq v.kind) [v.pv] (.int .i64 (bi v)):=by
 have hc:v.kind=1∨v.kind=2∨v.kind=3∨v.kind=4∨v.kind=5∨v.kind=6∨v.kind=7∨v.kind=8∨v.kind=9∨v.kind=10:=by omega
 rcases hc with h | h | h | h | h | h | h | h | h | h<;>rw[h]
 ·exact IA v h
 ·exact Iz v h
 ·exact Iy v h
 ·exact Ix v h
 ·exact Iw v h
 ·exact Iv v h
 ·exact Iu v h
 ·exact It v h
 ·exact Is v h
 ·exact Ir v h
theorem kj {n sz r o:Nat}{k:IntKind}{i:Int}(h0:0≤i)(h1:i.toNat<n):ix n sz (.ptr r o) (.pv (.int k i))=some (.ptr r (o+i.toNat*sz)):=if_pos ⟨h0,h1⟩
theorem HT (x:Val)(h:1≤x.kind∧x.kind≤10):aq Tryz.prog aF 40 [x.pv] (.bool (aE x)):=HR x h
theorem Kc {xs:List (Int×Val)}{i:Nat}{q:Int×Val}(h:xs[i]? = some q):mq i (xs.drop i)=if bN i q=0 then mq (i+1) (xs.drop (i+1)) else bN i q:=by
 have hi:i<xs.length:=(List.getElem?_eq_some_iff.1 h).1
 have he:xs[i]=q:=(List.getElem?_eq_some_iff.1 h).2
 rw[List.drop_eq_getElem_cons hi,he,mq]
set_option maxHeartbeats 4000000 in
theorem jL (n:Nat)(v:Val)(hd:gm n v)(hv:v.ok):aq Tryz.prog aF 15 [v.pv] (.int .i64 (mq 0 (bt n 1 v))):=by
 have hseq:=oC n v hd hv
 have h243:=qU v
 have h242:=D2
 generalize hxs:bt n 1 v=xs at *
 obtain⟨R,hR⟩:∃ R,R=mq 0 xs:=⟨_,rfl⟩
 rw[← hR]
 obtain⟨k,a,s,t,l,fs⟩:=v
 simp only[Val.pv_mk,yw] at h243 h242 hseq
 refine aq.intro OS (by simp[F15]) ?_
 simp(disch:=try exact dI) only[F15,Val.pv_mk,push_cast,seval]
 refine ab.pure h242 rfl ?_
 simp(disch:=try exact dI) only[zI,sX,push_cast,seval]
 refine ab.pure h243 rfl ?_
 simp(disch:=try exact dI) only[push_cast,seval]
 refine LM ([]) (fun i:Nat=>[]) (fun i:Nat=>[(2,.cells 3 true [.pv (.int .i64 (i:Int))])]) (fun j i=>j=i∧i≤4096∧R=mq i (xs.drop i)) (0) (hseq) ?_;intro e0 σ0 n0 h0;simp(disch:=try exact dI) only[push_cast,seval] at h0;obtain⟨rfl,rfl,rfl⟩:=h0;refine⟨?_,?_,?_,?_,?_⟩
 ·simp(disch:=try exact dI) only[push_cast,seval]
 ·exact⟨rfl,by omega,by simpa using hR⟩
 ·rfl
 ·rintro j i y hy ⟨hij,hj4,hr⟩
  subst hij
  obtain⟨q,hq⟩:∃ q,xs[j]? = some q:=by
   cases h:xs[j]? with
   | none=>simp[h] at hy
   | some q=>exact⟨q,rfl⟩
  have hye:y=CS q:=by simpa[hq] using hy.symm
  subst hye
  rw[Kc hq] at hr
  have hjl:j<xs.length:=(List.getElem?_eq_some_iff.1 hq).1
  obtain⟨lv,x⟩:=q
  have h111:=re x
  have hrule:=Ip x
  have huse:=HT x
  obtain⟨k',n',s',t',l',f'⟩:=x
  simp only[Val.pv_mk,Val.kind] at h111 hrule huse
  refine⟨rfl,?_⟩
  simp only[CS,Val.pv_mk]
  clear hy h242 h243 hseq
  by_cases c1:4096≤j
  ·have e:bN j (lv,Val.mk k' n' s' t' l' f')=9:=if_pos c1
   rw[e,if_neg (by omega)] at hr
   subst hr
   simp(disch:=try exact dI) only[push_cast,seval]
  ·have hj1:¬ (4096:Int)<(j:Int)+1:=by omega
   by_cases c2:8<lv
   ·have e:bN j (lv,Val.mk k' n' s' t' l' f')=23:=qx c1 c2
    rw[e,if_neg (by omega)] at hr
    subst hr
    simp(disch:=try exact dI) only[push_cast,seval]
   ·cases c3:bQ (Val.mk k' n' s' t' l' f') with
    | true=>
      have e:bN j (lv,Val.mk k' n' s' t' l' f')=19:=yj c1 c2 c3
      rw[e,if_neg (by omega)] at hr
      subst hr
      rw[c3] at h111
      simp(disch:=try exact dI) only[push_cast,seval]
      refine ab.pure h111 rfl ?_
      simp(disch:=try exact dI) only[push_cast,seval]
    | false=>
      rw[c3] at h111
      by_cases c4:k'<1∨10<k'
      ·have e:bN j (lv,Val.mk k' n' s' t' l' f')=11:=yh c1 c2 c3 c4
       rw[e,if_neg (by omega)] at hr
       subst hr
       rcases c4 with c4 | c4
       ·simp(disch:=try exact dI) only[push_cast,seval]
        refine ab.pure h111 rfl ?_
        simp(disch:=try exact dI) only[push_cast,seval]
       ·simp(disch:=try exact dI) only[push_cast,seval]
        refine ab.pure h111 rfl ?_
        simp(disch:=try exact dI) only[push_cast,seval]
      ·have huse:=huse (by omega)
       have hrule:=hrule (by omega)
       cases c5:aE (Val.mk k' n' s' t' l' f') with
       | false=>
         have e:bN j (lv,Val.mk k' n' s' t' l' f')=3:=yg c1 c2 c3 c4 c5
         rw[e,if_neg (by omega)] at hr
         subst hr
         rw[c5] at huse
         simp(disch:=try exact dI) only[push_cast,seval]
         refine ab.pure h111 rfl ?_
         simp(disch:=try exact dI) only[push_cast,seval]
         refine ab.pure huse rfl ?_
         simp(disch:=try exact dI) only[push_cast,seval]
       | true=>
         have e:bN j (lv,Val.mk k' n' s' t' l' f')=bi (Val.mk k' n' s' t' l' f'):=yf c1 c2 c3 c4 c5
         rw[e] at hr
         rw[c5] at huse
         generalize bi (Val.mk k' n' s' t' l' f')=z at hr hrule
         have hkc:([AV.pv PV.nilf,AV.pv (PV.clo 69 [] []),AV.pv (PV.clo 71 [] []),AV.pv (PV.clo 72 [] []),AV.pv (PV.clo 74 [] []),AV.pv (PV.clo 77 [] []),AV.pv (PV.clo 78 [] []),AV.pv (PV.clo 79 [] []),AV.pv (PV.clo 80 [] []),AV.pv (PV.clo 81 [] []),AV.pv (PV.clo 83 [] [])]:List AV)[k'.toNat*1]? = some (.pv (.clo (Iq k') [] [])):=by
          have hc:k'=1∨k'=2∨k'=3∨k'=4∨k'=5∨k'=6∨k'=7∨k'=8∨k'=9∨k'=10:=by omega
          rcases hc with h | h | h | h | h | h | h | h | h | h<;>rw[h]<;>rfl
         generalize Iq k'=rf at hkc hrule
         by_cases hz:z=0
         ·rw[if_pos hz] at hr
          subst hz
          simp(disch:=try exact dI) only[push_cast,seval]
          refine ab.pure h111 rfl ?_
          simp(disch:=try exact dI) only[push_cast,seval]
          refine ab.pure huse rfl ?_
          simp(disch:=try exact dI) only[kj,hkc,push_cast,seval]
          refine ab.pure hrule rfl ?_
          simp(disch:=try exact dI) only[push_cast,seval]
          exact⟨j+1,bT qsZ,rfl,by omega,hr⟩
         ·rw[if_neg hz] at hr
          subst hr
          simp(disch:=try exact dI) only[push_cast,seval]
          refine ab.pure h111 rfl ?_
          simp(disch:=try exact dI) only[push_cast,seval]
          refine ab.pure huse rfl ?_
          simp(disch:=try exact dI) only[kj,hkc,push_cast,seval]
          refine ab.pure hrule rfl ?_
          simp(disch:=try exact dI) only[push_cast,seval]
 ·rintro j ⟨hj,hj4,hr⟩
  simp only[List.length_map] at hj
  subst hj
  rw[List.drop_length] at hr
  rw[show R=0 from hr]
  simp(disch:=try exact dI) only[push_cast,seval]
end Go.Proofs.YtamoeblcphjbaaaGreatDoor
namespace Go.Proofs.YtamoeblcphjbaaaGreatDoor
open Go Go.Ab
structure Tk where
 kind:Int:=0
 pos:Nat:=0
 text:List UInt8:=[]
 bytes:List UInt8:=[]
 num:Int:=0
 sc:Nat:=0
 dec:Bool:=false
 exa:Bool:=false
structure Rd where
 s:List UInt8
 next:Nat
 now:Tk
 e:Int
 off:Nat
def aZ (R:Rd)(i:Nat)(e:Int):Rd:=if R.e=0 then { R with e:=e,off:=i } else R
def aR (c:UInt8):Bool:=decide (c.toNat=32)||decide (c.toNat=9)||decide (c.toNat=13)||decide (c.toNat=10)
def aO (c:UInt8):Bool:=(decide (97≤c.toNat)&&decide (c.toNat≤122))||(decide (65≤c.toNat)&&decide (c.toNat≤90))
def cQ (c:UInt8):Bool:=aO c||isD c||decide (c.toNat=95)
def CP (c:UInt8):Bool:=decide (c∈([91,93,123,125,40,41,58,44,61,63,124]:List UInt8))
def bx (p:UInt8→Bool)(s:List UInt8)(i:Nat):Nat:=i+((s.drop i).takeWhile p).length
def pm (c:UInt8):Option Nat:=
 if 48≤c.toNat∧c.toNat≤57 then some (c.toNat - 48) else if 97≤c.toNat∧c.toNat≤102 then some (c.toNat - 87)
 else if 65≤c.toNat∧c.toNat≤70 then some (c.toNat - 55) else none
def lD:Nat→List UInt8→Option Nat
 | n,[]=>some n
 | n,c::r=>match pm c with
   | none=>none
   | some d=>lD (16*n+d) r
def fi (n:Nat):Option (List UInt8):=if n≤1114111∧¬ (55296≤n∧n≤57343) then some (Go.Utf8.encode (n:Int)).data.toList else none
def p8 (c:UInt8):Option UInt8:=
 if c.toNat=34 then some 34 else if c.toNat=92 then some 92 else if c.toNat=110 then some 10 else if c.toNat=114 then some 13 else if c.toNat=116 then some 9 else none
def wg (r:List UInt8):(List UInt8×Nat)×Int:=
 match iP 125 r with
 | none=>(([],0),13)
 | some q=>
   if q.1.length<1∨6<q.1.length then (([],0),13)
   else match lD 0 q.1 with
    | none=>(([],0),13)
    | some n=>match fi n with
      | none=>(([],0),16)
      | some t=>((t,q.1.length+3),0)
def gl (s:List UInt8):(List UInt8×Nat)×Int:=
 match s with
 | []=>(([],0),13)
 | c::r=>match p8 c with
   | some b=>(([b],1),0)
   | none=>if fO [117,123] (c::r)=true then wg ((c::r).drop 2) else (([],0),13)
inductive Sc where
 | done (out:List UInt8) (next:Nat)
 | bad (i:Nat) (e:Int)
 | short
def ji:Nat→List UInt8→Nat→List UInt8→Sc
 | 0,_,_,_=>.short
 | _,[],_,_=>.short
 | f+1,c::r,i,out=>
   if c.toNat=34 then .done out (i+1) else if c.toNat<32∨c.toNat=127 then .bad i 6
   else if c.toNat=92 then
    (if r=[] then .short else if (gl r).2=0 then ji f (r.drop (gl r).1.2) (i+1+(gl r).1.2) (out++(gl r).1.1) else .bad i (gl r).2)
   else ji f r (i+1) (out++[c])
def i7:List UInt8→Nat→Option Nat→List UInt8→Sc
 | [],_,_,_=>.short
 | c::r,i,odd,out=>
   if c.toNat=34∧odd=none then .done out (i+1)
   else match pm c with
    | none=>.bad i 13
    | some n=>match odd with
      | none=>i7 r (i+1) (some n) out
      | some o=>i7 r (i+1) none (out++[UInt8.ofNat (16*o+n)])
def bp (R:Rd)(i:Nat)(k:Int)(v:Bool):Sc→Rd
 | .short=>aZ R i 4
 | .bad j e=>aZ R j e
 | .done out j=>
   let R1:=if v=true∧Lib.validD out=false then aZ R i 16 else R
   { R1 with now:={ R1.now with kind:=k,bytes:=out },next:=j }
def sA (R:Rd)(i:Nat):Rd:=bp R i 3 true (ji (R.s.length+1) (R.s.drop (i+1)) (i+1) [])
def tA (R:Rd)(i:Nat):Rd:=bp R i 4 false (i7 (R.s.drop (i+2)) (i+2) none [])
def cY (s:List UInt8):List UInt8:=if s.getLast? = some 100 then s.dropLast else s
def vE (s:List UInt8)(z:Nat):Nat×Bool×Bool:=
 if s[z]? = some 46∧(s[z+1]?.any isD)=true then (bx isD s (z+1),true,false) else if s[z]? = some 100 then (z+1,true,true) else (z,false,false)
def p7 (R:Rd)(i:Nat):Rd:=
 let a:=if R.s[i]? = some 45 then i+1 else i
 let z:=bx isD R.s a
 if z=a then aZ R i 13
 else
  let p:=vE R.s z
  let q:=bg (cY ((R.s.take p.1).drop i))
  let R1:={ R with next:=p.1,now:={ R.now with dec:=p.2.1,exa:=p.2.2 } }
  let R2:=if q.2=0 then R1 else aZ R1 i q.2
  { R2 with now:={ R2.now with kind:=2,num:=q.1.1,sc:=q.1.2 } }
def dC (R:Rd)(i:Nat)(c:UInt8):Rd:=
 if c.toNat=34 then sA R i
 else if c.toNat=120∧R.s[i+1]? = some 34 then tA R i
 else if aO c=true then { R with next:=bx cQ R.s i,now:={ R.now with kind:=1 } }
 else if isD c=true∨c.toNat=45 then p7 R i
 else if c.toNat=46∧R.s[i+1]? = some 46 then { R with next:=i+2,now:={ R.now with kind:=5 } }
 else if CP c=true then { R with next:=i+1,now:={ R.now with kind:=5 } }
 else aZ R i 13
def eB (R:Rd)(i:Nat):Rd:=if R.e=0 then { R with now:={ R.now with text:=(R.s.take R.next).drop i } } else R
def bm (R:Rd):Rd:=
 if R.e=0 then
  let i:=bx aR R.s R.next
  let R1:={ R with now:={ pos:=i },next:=i }
  match R.s[i]? with
  | none=>R1
  | some c=>eB (dC R1 i c) i
 else R
def isT (R:Rd)(t:List UInt8):Bool:=decide (R.e=0)&&(decide (R.now.kind=5)||decide (R.now.kind=1))&&decide (R.now.text=t)
def nE (R:Rd)(t:List UInt8):Bool×Rd:=if isT R t=true then (true,bm R) else (false,R)
def aD (R:Rd)(t:List UInt8):Rd:=if R.e=0 then (if isT R t=true then bm R else aZ R R.now.pos 13) else R
def eZ (R:Rd)(k:Int):Tk×Rd:=
 let R1:=if R.e=0∧R.now.kind≠k then aZ R R.now.pos 13 else R
 if R1.e=0 then (R1.now,bm R1) else ({},R1)
def db (R:Rd):List UInt8×Rd:=
 let p:=eZ R 1
 (p.1.text,if p.2.e=0∧bA p.1.text=false then aZ p.2 p.1.pos 12 else p.2)
def ba (R:Rd)(parse:List UInt8→Int×Int):Int×Rd:=
 let p:=eZ R 3
 if p.2.e=0 then ((parse p.1.bytes).1,if (parse p.1.bytes).2=0 then p.2 else aZ p.2 p.1.pos (parse p.1.bytes).2) else (0,p.2)
def aP:Val:=.mk 0 0 0 [] [] []
def cw (val:Rd→Val×Rd):Nat→Bool→List Val→Rd→List Val×Rd
 | 0,_,l,R=>(l,R)
 | k+1,first,l,R=>
   if R.e=0∧isT R [93]=false then
    let p:=val (if first=true then R else aD R [44])
    cw val k false (l++[p.1]) p.2
   else (l,R)
def gC (val:Rd→Val×Rd):Nat→Bool→List (List UInt8)→List Fld→Rd→List Fld×Rd
 | 0,_,_,l,R=>(l,R)
 | k+1,first,seen,l,R=>
   if R.e=0∧isT R [125]=false then
    let R1:=if first=true then R else aD R [44]
    let p:=db R1
    let R2:=if p.2.e=0∧p.1∈seen then aZ p.2 R1.now.pos 7 else p.2
    let q:=val (aD R2 [58])
    gC val k false (qk seen p.1) (l++[.mk p.1 q.1]) q.2
   else (l,R)
def bJ (val:Rd→Val×Rd)(R:Rd)(t:Tk)(d:Nat):Val×Rd:=
 if R.e=0 then
  if isT R [40]=true then
   (if bA t.text=false then (aP,aZ R t.pos 12)
   else
    let p:=val (bm R)
    (.mk 10 0 0 t.text [p.1] [],aD p.2 [41]))
  else if t.text=[116,114,117,101] then (.mk 1 1 0 [] [] [],R)
  else if t.text=[102,97,108,115,101] then (.mk 1 0 0 [] [] [],R)
  else if t.text=[100,97,116,101] then
   let p:=ba R cn
   (.mk 6 p.1 0 [] [] [],p.2)
  else if t.text=[116,105,109,101] then
   let p:=ba R bP
   (.mk 7 p.1 0 [] [] [],p.2)
  else if t.text=[110,117,108,108]∧d=0 then (aP,R)
  else (aP,aZ R t.pos 13)
 else (aP,R)
def aI (sort:List Fld→List Fld):Nat→Nat→Rd→Val×Rd
 | f,d,R=>
   if R.e=0 then
    let t:=R.now
    if t.kind≠2∧t.kind≠3∧t.kind≠4∧t.kind≠1∧t.text≠[91]∧t.text≠[123] then (aP,aZ R t.pos 13)
    else match f with
     | 0=>(aP,aZ R t.pos 23)
     | f+1=>
       let R1:=bm R
       if t.kind=2∧t.dec=true then (.mk 3 t.num t.sc [] [] [],R1)
       else if t.kind=2 then (.mk 2 t.num 0 [] [] [],R1)
       else if t.kind=3 then (.mk 4 0 0 t.bytes [] [],R1)
       else if t.kind=4 then (.mk 5 0 0 t.bytes [] [],R1)
       else if t.text=[91] then
        let p:=cw (aI sort f (d+1)) (R.s.length+2) true [] R1
        (.mk 8 0 0 [] p.1 [],aD p.2 [93])
       else if t.text=[123] then
        let p:=gC (aI sort f (d+1)) (R.s.length+2) true [] [] R1
        (.mk 9 0 0 [] [] (sort p.1),aD p.2 [125])
       else bJ (aI sort f (d+1)) R1 t d
   else (aP,R)
def ce (s:List UInt8):Rd:=
 let R:Rd:=⟨s,0,{},0,0⟩
 bm (if 65536<s.length then aZ R 0 5 else R)
def gi (R:Rd):Rd:=if R.e=0∧R.now.kind≠0 then aZ R R.now.pos 13 else R
end Go.Proofs.YtamoeblcphjbaaaGreatDoor

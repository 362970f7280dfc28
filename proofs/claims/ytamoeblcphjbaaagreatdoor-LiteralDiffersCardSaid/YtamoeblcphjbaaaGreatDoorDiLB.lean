/- A part of the proof for LiteralDiffersCardSaid. -/
import Derived.Test.YtamoeblcphjbaaaGreatDoorDiLC1
import Derived.Test.YtamoeblcphjbaaaGreatDoorDiLD
import Derived.Test.YtamoeblcphjbaaaGreatDoorCore6
import Derived.Test.YtamoeblcphjbaaaGreatDoorDiF
import Derived.Test.YtamoeblcphjbaaaGreatDoorDiLR6
set_option maxRecDepth 100000
set_option linter.unusedVariables false
set_option linter.unusedSimpArgs false
namespace Go.Proofs.YtamoeblcphjbaaaGreatDoor
open Go Go.Ab
attribute [local irreducible] vc
def aB:Bool→AV
 | true=>.ptr 0 0
 | false=>.pv .nilp
def bB (t:Bool):List UInt8→List Blk
 | []=>[.cells 83 true [aB t,.pv .nils]]
 | b::r=>[.cells 83 true [aB t,.row 1 1 0 (r.length+1)],.cells 5 false ((ap (b::r)).map .pv)]
theorem copyB (t:Bool)(l:List UInt8):kj Tryz.prog aC 1 107 [.ptr 0 0] (bB t l) (.pv (.tup [])) (bB true l):=by
 refine kj.intro EE (by simp[EZ]) ?_
 cases l with
 | nil=>
   cases t with
   | true=>
     simp(disch:=try exact dI) only[EZ,bB,aB,push_cast,seval]
     exact dB [] qsZ
   | false=>
     simp(disch:=try exact dI) only[EZ,bB,aB,push_cast,seval]
     exact dB [] qsZ
 | cons b r=>
   cases t with
   | true=>
     simp(disch:=try exact dI) only[EZ,bB,aB,push_cast,seval]
     exact dB [] qsZ
   | false=>
     simp(disch:=try exact dI) only[EZ,bB,aB,push_cast,seval]
     exact dB [] qsZ
theorem AQ (t:Bool)(l:List UInt8)(c:UInt8)(hl:l.length≤100000000):kj Tryz.prog aC 1 49 [.ptr 0 0,.pv (.int .u8 (c.toNat:Int))] (bB t l) (.pv .nili) (bB true (l++[c])):=by
 have hC:=copyB t l
 refine kj.intro Hx (by simp[F49]) ?_
 cases l with
 | nil=>
   cases t<;>(
   try simp only[bB,aB] at hC
   simp(disch:=try exact dI) only[F49,bB,aB,push_cast,seval]
   refine ab.lentK hC [0] rfl qsZ qsZ ?_
   simp(disch:=try exact dI) only[bB,aB,push_cast,seval]
   exact dB [] (by simp(disch:=try exact dI) only[ap,push_cast,seval]))
 | cons b r=>
   have hA:=fun new q=>rA (t:=5) (q:=q) (new:=new) (f:=false) (l:=b::r) (c:=c) (len:=r.length+1) rfl (by simp at hl ⊢;omega)
   cases t<;>(
   try simp only[bB,aB] at hC
   simp(disch:=try exact dI) only[F49,bB,aB,push_cast,seval]
   refine ab.lentK hC [0,1] rfl qsZ qsZ ?_
   simp(disch:=try exact dI) only[bB,aB,hA,push_cast,seval]
   exact dB [] (by simp(disch:=try exact dI) only[ap,List.length_append,push_cast,seval]))
theorem rQ (t:Bool)(l k:List UInt8)(hl:l.length≤100000000)(hk:k.length≤100000000):kj Tryz.prog aC 1 50 [.ptr 0 0,.pv (.str k)] (bB t l) (.pv (.tup [.int .i64 (k.length:Int),.nili])) (bB true (l++k)):=by
 have hC:=copyB t l
 refine kj.intro Hw (by simp[F50]) ?_
 cases l with
 | nil=>
   cases k with
   | nil=>
     cases t<;>(
     try simp only[bB,aB] at hC
     simp(disch:=try exact dI) only[F50,bB,aB,push_cast,seval]
     refine ab.lentK hC [0] rfl qsZ qsZ ?_
     simp(disch:=try exact dI) only[bB,aB,push_cast,seval]
     exact dB [] qsZ)
   | cons c k=>
     simp only[List.length_cons] at hk
     cases t<;>(
     try simp only[bB,aB] at hC
     simp(disch:=try exact dI) only[F50,bB,aB,push_cast,seval]
     refine ab.lentK hC [0] rfl qsZ qsZ ?_
     simp(disch:=try exact dI) only[bB,aB,push_cast,seval]
     exact dB [] qsZ)
 | cons b r=>
   have e2:(r++k).length+1=r.length+1+k.length:=by simp;omega
   have hA:=fun new q=>AC (t:=5) (q:=q) (new:=new) (f:=false) (l:=b::r) (k:=k) (len:=r.length+1) rfl (by simp at hl ⊢;omega)
   cases t<;>(
   try simp only[bB,aB] at hC
   simp(disch:=try exact dI) only[F50,bB,aB,push_cast,seval]
   refine ab.lentK hC [0,1] rfl qsZ qsZ ?_
   simp(disch:=try exact dI) only[bB,aB,hA,push_cast,seval]
   exact dB [] (by simp(disch:=try exact dI) only[e2,push_cast,seval]))
def stB:List UInt8→List Blk
 | []=>[.none]
 | _::_=>[.none,.none]
theorem mt (t:Bool)(l:List UInt8)(hl:l.length≤100000000):kj Tryz.prog aC 1 52 [.ptr 0 0] (bB t l) (.pv (.str l)) (stB l):=by
 refine kj.intro Hv (by simp[F52]) ?_
 cases l with
 | nil=>
   cases t<;>(
   try simp only[bB,aB] at hC
   simp(disch:=try exact dI) only[F52,bB,aB,push_cast,seval]
   exact dB [] (by simp(disch:=try exact dI) only[stB,push_cast,seval]))
 | cons b r=>
   have hA:=fun (k:Int) (q:Nat) (hk:k=((b::r).length:Int))=>wZ (t:=5) (r:=q) (f:=false) (l:=b::r) hk (by simp) (by simp at hl ⊢;omega)
   cases t<;>(
   try simp only[bB,aB] at hC
   simp(disch:=try exact dI) only[F52,bB,aB,hA,push_cast,seval]
   exact dB [] (by simp(disch:=try exact dI) only[stB,push_cast,seval]))
end Go.Proofs.YtamoeblcphjbaaaGreatDoor
-- many steps
namespace Go.Proofs.YtamoeblcphjbaaaGreatDoor
open Go Go.Ab
attribute [local irreducible] vc
theorem Gy {c b:UInt8}{r:List UInt8}(h:vE c=some b):oW (c::r)=(([b],1),0):=by
 simp only[oW,h]
theorem Gx {c:UInt8}{r:List UInt8}(h:vE c=none):oW (c::r)=if Bh [117,123] (c::r)=true then Gw ((c::r).drop 2) else (([],0),13):=by
 show (match vE c with
  | some b=>(([b],1),0)
  | none=>if Bh [117,123] (c::r)=true then Gw ((c::r).drop 2) else (([],0),13))=_
 rw[h]
def I3 (k:Nat):Option Nat→(List UInt8×Nat)×Int
 | none=>(([],0),13)
 | some n=>match kW n with
   | none=>(([],0),16)
   | some t=>((t,k+3),0)
theorem Gv {u d e:List UInt8}(h:EW 125 u=some (d,e))(hd:¬ (d.length<1∨6<d.length)):Gw u=I3 d.length (EU 0 d):=by
 unfold Gw;rw[h]
 refine (if_neg hd).trans ?_
 unfold I3
 cases EU 0 d with
 | none=>rfl
 | some n=>cases kW n<;>rfl
end Go.Proofs.YtamoeblcphjbaaaGreatDoor
-- many steps
namespace Go.Proofs.YtamoeblcphjbaaaGreatDoor
open Go Go.Ab
attribute [local irreducible] vc
theorem Cc {f:Nat}{c:UInt8}{r:List UInt8}{i:Nat}{o:List UInt8}(h:c.toNat=34):pJ (f+1) (c::r) i o = .done o (i+1):=by rw[pJ,if_pos h]
theorem pI {f:Nat}{c:UInt8}{r:List UInt8}{i:Nat}{o:List UInt8}(h:¬ c.toNat=34)(h2:¬ (c.toNat<32∨c.toNat=127))(h3:¬ c.toNat=92):pJ (f+1) (c::r) i o=pJ f r (i+1) (o++[c]):=by rw[pJ,if_neg h,if_neg h2,if_neg h3]
theorem nT {f:Nat}{c:UInt8}{r:List UInt8}{i:Nat}{o:List UInt8}(h:c.toNat=92)(h2:r≠[]):pJ (f+1) (c::r) i o=if (oW r).2=0 then pJ f (r.drop (oW r).1.2) (i+1+(oW r).1.2) (o++(oW r).1.1) else .bad i (oW r).2:=by rw[pJ,if_neg (by omega),if_neg (by omega),if_pos h,if_neg h2]
section
variable {T:Nat}{p:PV}
end
end Go.Proofs.YtamoeblcphjbaaaGreatDoor
-- many steps
namespace Go.Proofs.YtamoeblcphjbaaaGreatDoor
open Go Go.Ab
attribute [local irreducible] vc
theorem DL {c:UInt8}{r:List UInt8}{i:Nat}{out:List UInt8}(h:c.toNat=34):rH (c::r) i none out = .done out (i+1):=by rw[rH,if_pos ⟨h,rfl⟩]
theorem DK {c:UInt8}(h:c.toNat=34):Bw c=none:=by unfold Bw;rw[if_neg (by omega),if_neg (by omega),if_neg (by omega)]
theorem Gi {c:UInt8}{r:List UInt8}{i n:Nat}{out:List UInt8}(hv:Bw c=some n):rH (c::r) i none out=rH r (i+1) (some n) out:=by
 have h:¬ c.toNat=34:=fun h=>by rw[DK h] at hv;cases hv
 rw[rH,if_neg (fun q=>h q.1),hv]
theorem Gh {c:UInt8}{r:List UInt8}{i n o:Nat}{out:List UInt8}(hv:Bw c=some n):rH (c::r) i (some o) out=rH r (i+1) none (out++[UInt8.ofNat (16*o+n)]):=by
 rw[rH,if_neg (fun q=>by cases q.2),hv]
section
variable {T:Nat}{p:PV}
end
end Go.Proofs.YtamoeblcphjbaaaGreatDoor
-- many steps
namespace Go.Proofs.YtamoeblcphjbaaaGreatDoor
open Go Go.Ab
attribute [local irreducible] vc
section
variable {T:Nat}{p:PV}
def JQ (R:Rd)(i:Nat)(w:Nat×Bool×Bool)(q:(Int×Nat)×Int):Rd:=
 let R1:={ R with next:=w.1,now:={ R.now with dec:=w.2.1,exa:=w.2.2 } }
 let R2:=if q.2=0 then R1 else bK R1 i q.2
 { R2 with now:={ R2.now with kind:=2,num:=q.1.1,sc:=q.1.2 } }
theorem FX {R:Rd}{i a:Nat}{x y:Bool}{n:Int}{sc:Nat}:JQ R i (a,x,y) ((n,sc),0) = { R with next:=a,now:={ R.now with dec:=x,exa:=y,kind:=2,num:=n,sc:=sc } }:=rfl
theorem FW {R:Rd}{i a z:Nat}{w:Nat×Bool×Bool}(ha:(if R.s[i]? = some 45 then i+1 else i)=a)(hz:fg isD R.s a=z)(h:¬ z=a)(hw:ER R.s z=w):H6 R i=JQ R i w (om (GF ((R.s.take w.1).drop i))):=by
 unfold H6
 simp only[ha,hz,hw]
 exact if_neg h
theorem F0 {s:List UInt8}{z:Nat}(h:s[z]? = some 46∧(s[z+1]?.any isD)=true):ER s z=(fg isD s (z+1),true,false):=if_pos h
theorem FZ {s:List UInt8}{z:Nat}(h:¬ (s[z]? = some 46∧(s[z+1]?.any isD)=true))(h2:s[z]? = some 100):ER s z=(z+1,true,true):=(if_neg h).trans (if_pos h2)
theorem FY {s:List UInt8}{z:Nat}(h:¬ (s[z]? = some 46∧(s[z+1]?.any isD)=true))(h2:¬ s[z]? = some 100):ER s z=(z,false,false):=(if_neg h).trans (if_neg h2)
end
end Go.Proofs.YtamoeblcphjbaaaGreatDoor
namespace Go.Proofs.YtamoeblcphjbaaaGreatDoor
open Go Go.Ab
theorem Gq {R:Rd}{i:Nat}{e:Int}(he:e≠0):(bK R i e).e≠0:=by
 unfold bK;split
 ·exact he
 ·assumption
theorem Jm {R:Rd}(h:R.e=0)(hi:R.s.length≤fg bD R.s R.next):fE R = { R with now:={ pos:=fg bD R.s R.next },next:=fg bD R.s R.next }:=by
 unfold fE
 rw[if_pos h]
 simp only
 rw[List.getElem?_eq_none hi]
theorem Jk {R:Rd}{c:UInt8}(h:R.e=0)(hi:R.s[fg bD R.s R.next]? = some c):fE R=kr (zO { R with now:={ pos:=fg bD R.s R.next },next:=fg bD R.s R.next } (fg bD R.s R.next) c) (fg bD R.s R.next):=by
 unfold fE
 rw[if_pos h]
 simp only
 rw[hi]
end Go.Proofs.YtamoeblcphjbaaaGreatDoor
-- many steps
namespace Go.Proofs.YtamoeblcphjbaaaGreatDoor
open Go Go.Ab
attribute [local irreducible] vc
def wL:List UInt8:=[48,49,50,51,52,53,54,55,56,57,97,98,99,100,101,102]
def hxB (n:Nat):UInt8:=wL.getD n 0
theorem vj {n:Nat}(h:n<16):wL[n]? = some (hxB n):=by
 unfold hxB
 rw[List.getD_eq_getElem?_getD,List.getElem?_eq_getElem (by simpa[wL] using h)];rfl
def ki (c:UInt8):List UInt8:=(if 16≤c.toNat then [hxB (c.toNat / 16)] else [])++[hxB (c.toNat % 16)]
def bP (c:UInt8):List UInt8:=
 if c.toNat=34∨c.toNat=92 then [92,c] else if c.toNat=10 then [92,110] else if c.toNat=13 then [92,114] else if c.toNat=9 then [92,116]
 else if c.toNat<32∨c.toNat=127 then 92::117::123::(ki c++[125]) else [c]
def aH (s:List UInt8):List UInt8:=34::(s.flatMap bP++[34])
theorem Ar (c:UInt8):(bP c).length≤6:=by
 unfold bP ki
 repeat' split
 all_goals simp
theorem eV (s:List UInt8):(s.flatMap bP).length≤6*s.length:=by
 induction s with
 | nil=>simp
 | cons c r ih=>have:=Ar c;simp only[List.flatMap_cons,List.length_append,List.length_cons];omega
theorem jr (a b:List UInt8):ap (a++b)=ap a++ap b:=by simp[ap]
theorem dh (a:List UInt8):(ap a).length=a.length:=by simp[ap]
theorem eU {s:List UInt8}{i:Nat}{c:UInt8}(h:s[i]? = some c)(f:UInt8→List UInt8):(s.take (i+1)).flatMap f=(s.take i).flatMap f++f c:=by
 rw[aQ h];simp
theorem Aq {c:UInt8}(h:c.toNat=34∨c.toNat=92):bP c=[92,c]:=if_pos h
theorem D1 {c:UInt8}(h:c.toNat=10):bP c=[92,110]:=by unfold bP;rw[if_neg (by omega),if_pos h]
theorem D0 {c:UInt8}(h:c.toNat=13):bP c=[92,114]:=by unfold bP;rw[if_neg (by omega),if_neg (by omega),if_pos h]
theorem DZ {c:UInt8}(h:c.toNat=9):bP c=[92,116]:=by unfold bP;rw[if_neg (by omega),if_neg (by omega),if_neg (by omega),if_pos h]
theorem DY {c:UInt8}(h:c.toNat<32∨c.toNat=127)(h1:¬ c.toNat=10)(h2:¬ c.toNat=13)(h3:¬ c.toNat=9):bP c=92::117::123::(ki c++[125]):=by
 unfold bP;rw[if_neg (by omega),if_neg h1,if_neg h2,if_neg h3,if_pos h]
theorem Ap {c:UInt8}(h:¬ (c.toNat<32∨c.toNat=127))(h0:¬ (c.toNat=34∨c.toNat=92)):bP c=[c]:=by
 unfold bP;rw[if_neg h0,if_neg (by omega),if_neg (by omega),if_neg (by omega),if_neg h]
set_option maxHeartbeats 4000000 in
theorem yP (s:List UInt8)(hs:s.length≤100000):aq Tryz.prog aC 21 [.str s] (.str (aH s)):=by
 refine aq.intro HJ (by simp[F21]) ?_
 simp(disch:=try exact dI) only[F21,push_cast,seval]
 refine aX ([]) (fun i:Nat=>[(4,.olist 0 1 (ap (34::(s.take i).flatMap bP))),(5,.pv (.int .i64 (i:Int)))]) (fun _=>[]) (fun i=>i≤s.length) (fun i=>s.length - i) (0) ?_;intro e0 σ0 n0 h0;simp(disch:=try exact dI) only[push_cast,seval] at h0;obtain⟨rfl,rfl,rfl⟩:=h0;refine⟨?_,?_,?_⟩
 ·simp(disch:=try exact dI) only[push_cast,seval]
  exact .refl _
 ·omega
 ·rintro i hi
  by_cases hlt:i<s.length
  ·obtain⟨c,hc⟩:∃ c,s[i]? = some c:=⟨_,List.getElem?_eq_getElem hlt⟩
   have hltI:(i:Int)<(s.length:Int):=by omega
   have hB:ap (34::(s.take (i+1)).flatMap bP)=ap (34::(s.take i).flatMap bP)++ap (bP c):=by
    rw[eU hc,← List.cons_append,jr]
   have hl:(ap (34::(s.take i).flatMap bP)).length≤600001:=by
    have:=eV (s.take i)
    rw[dh,List.length_cons]
    rw[List.length_take] at this
    omega
   generalize ap (34::(s.take i).flatMap bP)=Q at *
   by_cases h1:c.toNat=34∨c.toNat=92
   ·have hE:ap (bP c)=[.int .u8 92,.int .u8 (c.toNat:Int)]:=by rw[Aq h1];rfl
    rw[hE] at hB
    by_cases h34:c.toNat=34
    ·have h34I:(c.toNat:Int)=34:=by omega
     simp(disch:=try exact dI) only[hltI,hc,h34I,push_cast,seval]
     exact⟨i+1,bX (by simp(disch:=try exact dI) only[hB,h34I,push_cast,seval]),by omega,by omega⟩
    ·have h34I:¬ (c.toNat:Int)=34:=by omega
     have h92I:(c.toNat:Int)=92:=by omega
     simp(disch:=try exact dI) only[hltI,hc,h34I,h92I,push_cast,seval]
     exact⟨i+1,bX (by simp(disch:=try exact dI) only[hB,h92I,push_cast,seval]),by omega,by omega⟩
   ·have h34I:¬ (c.toNat:Int)=34:=by omega
    have h92I:¬ (c.toNat:Int)=92:=by omega
    by_cases h10:c.toNat=10
    ·have h10I:(c.toNat:Int)=10:=by omega
     have hE:ap (bP c)=[.int .u8 92,.int .u8 110]:=by rw[D1 h10];rfl
     rw[hE] at hB
     clear h34I h92I
     simp(disch:=try exact dI) only[hltI,hc,h10I,push_cast,seval]
     exact⟨i+1,bX (by simp(disch:=try exact dI) only[hB,push_cast,seval]),by omega,by omega⟩
    have h10I:¬ (c.toNat:Int)=10:=by omega
    by_cases h13:c.toNat=13
    ·have h13I:(c.toNat:Int)=13:=by omega
     have hE:ap (bP c)=[.int .u8 92,.int .u8 114]:=by rw[D0 h13];rfl
     rw[hE] at hB
     clear h34I h92I h10I
     simp(disch:=try exact dI) only[hltI,hc,h13I,push_cast,seval]
     exact⟨i+1,bX (by simp(disch:=try exact dI) only[hB,push_cast,seval]),by omega,by omega⟩
    have h13I:¬ (c.toNat:Int)=13:=by omega
    by_cases h9:c.toNat=9
    ·have h9I:(c.toNat:Int)=9:=by omega
     have hE:ap (bP c)=[.int .u8 92,.int .u8 116]:=by rw[DZ h9];rfl
     rw[hE] at hB
     clear h34I h92I h10I h13I
     simp(disch:=try exact dI) only[hltI,hc,h9I,push_cast,seval]
     exact⟨i+1,bX (by simp(disch:=try exact dI) only[hB,push_cast,seval]),by omega,by omega⟩
    have h9I:¬ (c.toNat:Int)=9:=by omega
    by_cases h5:c.toNat<32∨c.toNat=127
    ·obtain⟨q,hqN⟩:∃ q,q=c.toNat / 16:=⟨_,rfl⟩
     obtain⟨m,hmN⟩:∃ m,m=c.toNat % 16:=⟨_,rfl⟩
     have hq:((c.toNat:Int) / 16)=(q:Int):=by omega
     have hm:((c.toNat:Int) % 16)=(m:Int):=by omega
     have hxq:=vj (n:=q) (by omega)
     have hxm:=vj (n:=m) (by omega)
     unfold wL at hxq hxm
     have hE:=congrArg ap (DY h5 h10 h13 h9)
     unfold ki at hE
     rw[← hqN,← hmN] at hE
     by_cases h16:16≤c.toNat
     ·have h16I:(16:Int)≤(c.toNat:Int):=by omega
      rw[if_pos h16] at hE
      replace hE:ap (bP c)=[.int .u8 92,.int .u8 117,.int .u8 123,.int .u8 ((hxB q).toNat:Int),.int .u8 ((hxB m).toNat:Int),.int .u8 125]:=hE
      rw[hE] at hB
      by_cases h32:c.toNat<32
      ·have h32I:(c.toNat:Int)<32:=by omega
       simp(disch:=try exact dI) only[hltI,hc,h34I,h92I,h10I,h13I,h9I,h32I,h16I,hq,hm,hxq,hxm,push_cast,seval]
       exact⟨i+1,bX (by simp(disch:=try exact dI) only[hB,List.append_assoc,List.cons_append,List.nil_append,push_cast,seval]),by omega,by omega⟩
      ·have h32I:¬ (c.toNat:Int)<32:=by omega
       have h127:((c.toNat:Int)=127)=True:=eq_true (by omega)
       simp(disch:=try exact dI) only[hltI,hc,h34I,h92I,h10I,h13I,h9I,h32I,h127,h16I,hq,hm,hxq,hxm,push_cast,seval]
       exact⟨i+1,bX (by simp(disch:=try exact dI) only[hB,List.append_assoc,List.cons_append,List.nil_append,push_cast,seval]),by omega,by omega⟩
     ·have h16I:¬ (16:Int)≤(c.toNat:Int):=by omega
      rw[if_neg h16] at hE
      replace hE:ap (bP c)=[.int .u8 92,.int .u8 117,.int .u8 123,.int .u8 ((hxB m).toNat:Int),.int .u8 125]:=hE
      rw[hE] at hB
      have h32I:(c.toNat:Int)<32:=by omega
      simp(disch:=try exact dI) only[hltI,hc,h34I,h92I,h10I,h13I,h9I,h32I,h16I,hm,hxm,push_cast,seval]
      exact⟨i+1,bX (by simp(disch:=try exact dI) only[hB,List.append_assoc,List.cons_append,List.nil_append,push_cast,seval]),by omega,by omega⟩
    ·have h32I:¬ (c.toNat:Int)<32:=by omega
     have h127I:¬ (c.toNat:Int)=127:=by omega
     have hE:ap (bP c)=[.int .u8 (c.toNat:Int)]:=by rw[Ap h5 h1];rfl
     rw[hE] at hB
     simp(disch:=try exact dI) only[hltI,hc,h34I,h92I,h10I,h13I,h9I,h32I,h127I,push_cast,seval]
     exact⟨i+1,bX (by simp(disch:=try exact dI) only[hB,push_cast,seval]),by omega,by omega⟩
  ·have hltI:¬ (i:Int)<(s.length:Int):=by omega
   obtain rfl:i=s.length:=by omega
   have hl:(ap (34::(s.take s.length).flatMap bP)).length≤600001:=by
    have:=eV s
    rw[dh,List.length_cons,List.take_length]
    omega
   have hU:u8s (ap (34::(s.take s.length).flatMap bP)++[.int .u8 34])=some (aH s):=by
    rw[List.take_length,show ap (34::s.flatMap bP)++[.int .u8 34]=ap (aH s) by simp[ap,aH]]
    exact eG _
   generalize ap (34::(s.take s.length).flatMap bP)=Q at *
   simp(disch:=try exact dI) only[hltI,hU,push_cast,seval]
end Go.Proofs.YtamoeblcphjbaaaGreatDoor

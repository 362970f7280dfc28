/- A part of the proof for LiteralAgainCardSaid. -/
import Derived.Test.YtamoeblcphjbaaaGreatDoorAgLR6
import Derived.Test.YtamoeblcphjbaaaGreatDoorAgF
import Derived.Test.YtamoeblcphjbaaaGreatDoorAgLC1
import Derived.Test.YtamoeblcphjbaaaGreatDoorAgLD
import Derived.Test.YtamoeblcphjbaaaGreatDoorAgCore6
set_option maxRecDepth 100000
set_option linter.unusedVariables false
set_option linter.unusedSimpArgs false
-- many steps
namespace Go.Proofs.YtamoeblcphjbaaaGreatDoor
open Go Go.Ab
attribute [local irreducible] vc
theorem eT {P:UInt8→Prop}(h:∀ k:Fin 256,P (UInt8.ofNat k.val))(c:UInt8):P c:=by
 have:=h ⟨c.toNat,c.toNat_lt⟩
 simpa using this
section
variable {T:Nat}{p:PV}
theorem pi (c:UInt8):aq Tryz.prog aF 162 [.int .u8 (c.toNat:Int)] (.bool (aO c)):=by
 refine aq.intro KZ (by simp[K0]) ?_
 by_cases h1:97≤c.toNat
 ·have h1I:(97:Int)≤(c.toNat:Int):=by omega
  by_cases h2:c.toNat≤122
  ·have h2I:(c.toNat:Int)≤122:=by omega
   rw[show aO c=true by simp[aO,h1,h2]]
   simp(disch:=try exact dI) only[K0,h1I,h2I,push_cast,seval]
  ·have h2I:¬ (c.toNat:Int)≤122:=by omega
   rw[show aO c=false by simp[aO,h2];omega]
   have h3I:(65:Int)≤(c.toNat:Int):=by omega
   have h4I:¬ (c.toNat:Int)≤90:=by omega
   simp(disch:=try exact dI) only[K0,h1I,h2I,h3I,h4I,push_cast,seval]
 ·have h1I:¬ (97:Int)≤(c.toNat:Int):=by omega
  by_cases h3:65≤c.toNat
  ·have h3I:(65:Int)≤(c.toNat:Int):=by omega
   by_cases h4:c.toNat≤90
   ·have h4I:(c.toNat:Int)≤90:=by omega
    rw[show aO c=true by simp[aO,h3,h4]]
    simp(disch:=try exact dI) only[K0,h1I,h3I,h4I,push_cast,seval]
   ·have h4I:¬ (c.toNat:Int)≤90:=by omega
    rw[show aO c=false by simp[aO,h1,h4]]
    simp(disch:=try exact dI) only[K0,h1I,h3I,h4I,push_cast,seval]
  ·have h3I:¬ (65:Int)≤(c.toNat:Int):=by omega
   rw[show aO c=false by simp[aO,h1,h3]]
   simp(disch:=try exact dI) only[K0,h1I,h3I,push_cast,seval]
theorem eP (c:UInt8):aq Tryz.prog aF 164 [.int .u8 (c.toNat:Int)] (.bool (isD c)):=by
 refine aq.intro KX (by simp[OR]) ?_
 by_cases h1:48≤c.toNat
 ·have h1I:(48:Int)≤(c.toNat:Int):=by omega
  by_cases h2:c.toNat≤57
  ·have h2I:(c.toNat:Int)≤57:=by omega
   rw[show isD c=true by simp[isD,h1,h2]]
   simp(disch:=try exact dI) only[OR,h1I,h2I,push_cast,seval]
  ·have h2I:¬ (c.toNat:Int)≤57:=by omega
   rw[show isD c=false by simp[isD,h2]]
   simp(disch:=try exact dI) only[OR,h1I,h2I,push_cast,seval]
 ·have h1I:¬ (48:Int)≤(c.toNat:Int):=by omega
  rw[show isD c=false by simp[isD,h1]]
  simp(disch:=try exact dI) only[OR,h1I,push_cast,seval]
theorem xr (c:UInt8):aq Tryz.prog aF 163 [.int .u8 (c.toNat:Int)] (.bool (cQ c)):=by
 have h1:=pi c
 have h2:=eP c
 unfold cQ
 generalize aO c=a at *
 generalize isD c=b at *
 refine aq.intro KY (by simp[LI]) ?_
 cases a with
 | true=>
   rw[Bool.true_or,Bool.true_or]
   simp(disch:=try exact dI) only[LI,push_cast,seval]
   refine ab.pure h1 rfl ?_
   simp(disch:=try exact dI) only[push_cast,seval]
 | false=>
   cases b with
   | true=>
     rw[Bool.false_or,Bool.true_or]
     simp(disch:=try exact dI) only[LI,push_cast,seval]
     refine ab.pure h1 rfl ?_
     simp(disch:=try exact dI) only[push_cast,seval]
     refine ab.pure h2 rfl ?_
     simp(disch:=try exact dI) only[push_cast,seval]
   | false=>
     by_cases h3:c.toNat=95
     ·have h3I:((c.toNat:Int)=95)=True:=eq_true (by omega)
      rw[show (false||false||decide (c.toNat=95))=true by simp[h3]]
      simp(disch:=try exact dI) only[LI,push_cast,seval]
      refine ab.pure h1 rfl ?_
      simp(disch:=try exact dI) only[push_cast,seval]
      refine ab.pure h2 rfl ?_
      simp(disch:=try exact dI) only[h3I,push_cast,seval]
     ·have h3I:¬ (c.toNat:Int)=95:=by omega
      rw[show (false||false||decide (c.toNat=95))=false by simp[h3]]
      simp(disch:=try exact dI) only[LI,push_cast,seval]
      refine ab.pure h1 rfl ?_
      simp(disch:=try exact dI) only[push_cast,seval]
      refine ab.pure h2 rfl ?_
      simp(disch:=try exact dI) only[h3I,push_cast,seval]
theorem Ba (c:UInt8):0≤e9 c [32,9,13,10] 0↔aR c=true:=by
 revert c;exact eT (by decide +kernel)
theorem JB (c:UInt8):0≤e9 c [91,93,123,125,40,41,58,44,61,63,124] 0↔CP c=true:=by
 revert c;exact eT (by decide +kernel)
theorem Ge (c:UInt8):aq Tryz.prog aF 158 [.int .u8 (c.toNat:Int)] (.bool (aR c)):=by
 have h:=jF [32,9,13,10] c
 have hb:=Ba c
 generalize e9 c [32,9,13,10] 0=q at *
 refine aq.intro K4 (by simp[Ps]) ?_
 by_cases h0:0≤q
 ·rw[hb.1 h0]
  simp(disch:=try exact dI) only[Ps,push_cast,seval]
  refine ab.pure h rfl ?_
  simp(disch:=try exact dI) only[h0,push_cast,seval]
 ·rw[show aR c=false by cases hh:aR c with
   | true=>exact absurd (hb.2 hh) h0
   | false=>rfl]
  simp(disch:=try exact dI) only[Ps,push_cast,seval]
  refine ab.pure h rfl ?_
  simp(disch:=try exact dI) only[h0,push_cast,seval]
def Hh (c:UInt8):Int:=match pm c with
 | some n=>n
 | none=>-1
def Lx (c:UInt8):UInt8:=if 65≤c.toNat∧c.toNat≤70 then c+32 else c
theorem JD (c:UInt8):e9 (Lx c) [48,49,50,51,52,53,54,55,56,57,97,98,99,100,101,102] 0=Hh c:=by
 revert c;exact eT (by decide +kernel)
theorem m6 {c:UInt8}{n:Nat}(h:pm c=some n):n<16:=by
 have key:∀ c:UInt8,(pm c).all (fun n=>decide (n<16))=true:=eT (by decide +kernel)
 have:=key c
 rw[h] at this
 simpa using this
theorem A2 (c:UInt8):aq Tryz.prog aF 208 [.int .u8 (c.toNat:Int)] (.int .i64 (Hh c)):=by
 have h:=jF [48,49,50,51,52,53,54,55,56,57,97,98,99,100,101,102] (Lx c)
 rw[JD] at h
 generalize Hh c=q at *
 refine aq.intro KE (by simp[OK]) ?_
 by_cases h1:65≤c.toNat
 ·have h1I:(65:Int)≤(c.toNat:Int):=by omega
  by_cases h2:c.toNat≤70
  ·have h2I:(c.toNat:Int)≤70:=by omega
   have hw:=mB (n:=(c.toNat:Int)+32) (by omega) (by omega)
   rw[show ((Lx c).toNat:Int)=(c.toNat:Int)+32 by
    rw[Lx,if_pos ⟨h1,h2⟩,UInt8.toNat_add];simp;omega] at h
   simp(disch:=try exact dI) only[OK,h1I,h2I,hw,push_cast,seval]
   refine ab.pure h rfl ?_
   simp(disch:=try exact dI) only[push_cast,seval]
  ·have h2I:¬ (c.toNat:Int)≤70:=by omega
   rw[show Lx c=c from if_neg (by omega)] at h
   simp(disch:=try exact dI) only[OK,h1I,h2I,push_cast,seval]
   refine ab.pure h rfl ?_
   simp(disch:=try exact dI) only[push_cast,seval]
 ·have h1I:¬ (65:Int)≤(c.toNat:Int):=by omega
  rw[show Lx c=c from if_neg (by omega)] at h
  simp(disch:=try exact dI) only[OK,h1I,push_cast,seval]
  refine ab.pure h rfl ?_
  simp(disch:=try exact dI) only[push_cast,seval]
def rdC (R:Rd):List AV:=[.pv (.str R.s),.pv (.int .i64 (R.next:Int)),.pv (.int .i64 R.now.kind),.pv (.int .i64 (R.now.pos:Int)),.pv (.str R.now.text),.pv (.str R.now.bytes),.pv (.int .i64 R.now.num),.pv (.int .i64 (R.now.sc:Int)),.pv (.bool R.now.dec),.pv (.bool R.now.exa),.pv (.int .i64 R.e),.pv (.int .i64 (R.off:Int))]
def rdB (R:Rd):Blk:=.cells 79 true (rdC R)
def tkP (t:Tk):PV:=.agg [.int .i64 t.kind,.int .i64 (t.pos:Int),.str t.text,.str t.bytes,.int .i64 t.num,.int .i64 (t.sc:Int),.bool t.dec,.bool t.exa]
theorem cW (R:Rd)(i:Nat)(e:Int):aQ Tryz.prog (dM T p) 1 92 [.ptr 0 0,.pv (.int .i64 (i:Int)),.pv (.int .i64 e)] [rdB R] (.pv (.tup [])) [rdB (aZ R i e)]:=by
 refine aQ.intro N3 (by simp[F92]) ?_
 by_cases h:R.e=0
 ·have hI:(R.e=0)=True:=eq_true h
  rw[aZ,if_pos h]
  simp(disch:=try exact dI) only[F92,rdB,rdC,hI,push_cast,seval]
  exact ap [] (by simp(disch:=try exact dI) only[rdB,rdC,push_cast,seval])
 ·rw[aZ,if_neg h]
  simp(disch:=try exact dI) only[F92,rdB,rdC,h,push_cast,seval]
  exact ap [] (by simp(disch:=try exact dI) only[rdB,rdC,push_cast,seval])
theorem sF {q:UInt8→Bool}{s:List UInt8}{i:Nat}{c:UInt8}(h:s[i]? = some c):bx q s i=if q c=true then bx q s (i+1) else i:=by
 unfold bx
 rw[bV h,List.takeWhile_cons]
 by_cases hq:q c=true
 ·rw[if_pos hq,if_pos hq,List.length_cons];omega
 ·rw[if_neg hq,if_neg hq];rfl
theorem yu {q:UInt8→Bool}{s:List UInt8}{i:Nat}(h:s.length≤i):bx q s i=i:=by
 unfold bx;rw[List.drop_eq_nil_of_le h];rfl
theorem fM {q:UInt8→Bool}{s:List UInt8}{i:Nat}:i≤bx q s i:=by unfold bx;omega
theorem dq {q:UInt8→Bool}{s:List UInt8}{i:Nat}(h:i≤s.length):bx q s i≤s.length:=by
 unfold bx
 have:=(List.takeWhile_sublist q (l:=s.drop i)).length_le
 simp at this;omega
set_option maxHeartbeats 1000000 in
theorem Mn (R:Rd)(i g:Nat)(q:UInt8→Bool)(hg:∀ c:UInt8,aq Tryz.prog (dM T p) g [.int .u8 (c.toNat:Int)] (.bool (q c)))(hs:R.s.length≤65536)(hi:i≤R.s.length) :
  aQ Tryz.prog (dM T p) 1 157 [.ptr 0 0,.pv (.int .i64 (i:Int)),.pv (.clo g [] [])] [rdB R] (.pv (.int .i64 (bx q R.s i:Int))) [rdB R]:=by
 generalize hK:bx q R.s i=K
 refine aQ.intro K5 (by simp[Rf]) ?_
 simp(disch:=try exact dI) only[Rf,rdB,rdC,push_cast,seval]
 refine be ([]) (fun j:Nat=>[(1,.pv (.int .i64 (j:Int)))]) (fun _=>[]) (fun j=>j≤R.s.length∧bx q R.s j=K) (fun j=>R.s.length - j) (i) ?_;intro e0 σ0 n0 h0;simp(disch:=try exact dI) only[push_cast,seval] at h0;obtain⟨rfl,rfl,rfl⟩:=h0;refine⟨?_,?_,?_⟩
 ·simp(disch:=try exact dI) only[push_cast,seval]
 ·exact⟨hi,hK⟩
 rintro j ⟨hj,he⟩
 by_cases hlt:j<R.s.length
 ·have hltI:(j:Int)<(R.s.length:Int):=by omega
  obtain⟨c,hc⟩:∃ c,R.s[j]? = some c:=⟨_,List.getElem?_eq_getElem hlt⟩
  have hcall:=hg c
  rw[sF hc] at he
  cases hq:q c with
  | true=>
    rw[hq] at hcall
    rw[hq,if_pos rfl] at he
    simp(disch:=try exact dI) only[hltI,hc,ag,push_cast,seval]
    refine ab.pure hcall rfl ?_
    simp(disch:=try exact dI) only[push_cast,seval]
    exact⟨j+1,bT qsZ,⟨by omega,he⟩,by omega⟩
  | false=>
    rw[hq] at hcall
    rw[hq,if_neg (by decide)] at he
    subst he
    simp(disch:=try exact dI) only[hltI,hc,ag,push_cast,seval]
    refine ab.pure hcall rfl ?_
    simp(disch:=try exact dI) only[push_cast,seval]
    exact ap [] (by simp(disch:=try exact dI) only[rdB,rdC,push_cast,seval])
 ·have hltI:¬ (j:Int)<(R.s.length:Int):=by omega
  rw[yu (by omega)] at he
  subst he
  simp(disch:=try exact dI) only[hltI,push_cast,seval]
  exact ap [] (by simp(disch:=try exact dI) only[rdB,rdC,push_cast,seval])
set_option maxHeartbeats 1000000 in
theorem Fx (R:Rd)(t:List UInt8):aQ Tryz.prog (dM T p) 1 131 [.ptr 0 0,.pv (.str t)] [rdB R] (.pv (.bool (isT R t))) [rdB R]:=by
 refine aQ.intro Lc (by simp[LJ]) ?_
 unfold isT
 by_cases h0:R.e=0
 ·have h0I:(R.e=0)=True:=eq_true h0
  have ht:∀ a:Bool,a=true→aQ Tryz.prog (dM T p) 1 131 [.ptr 0 0,.pv (.str t)] [rdB R] (.pv (.bool (decide (R.e=0)&&a&&decide (R.now.text=t)))) [rdB R]→True:=fun _ _ _=>trivial
  by_cases h5:R.now.kind=5
  ·have h5I:(R.now.kind=5)=True:=eq_true h5
   rw[show (decide (R.e=0)&&(decide (R.now.kind=5)||decide (R.now.kind=1))&&decide (R.now.text=t))=decide (R.now.text=t) by simp[h0,h5]]
   simp(disch:=try exact dI) only[LJ,rdB,rdC,h0I,h5I,push_cast,seval]
   exact ap [] (by simp(disch:=try exact dI) only[rdB,rdC,push_cast,seval])
  ·by_cases h1:R.now.kind=1
   ·have h1I:(R.now.kind=1)=True:=eq_true h1
    rw[show (decide (R.e=0)&&(decide (R.now.kind=5)||decide (R.now.kind=1))&&decide (R.now.text=t))=decide (R.now.text=t) by simp[h0,h1]]
    simp(disch:=try exact dI) only[LJ,rdB,rdC,h0I,h5,h1I,push_cast,seval]
    exact ap [] (by simp(disch:=try exact dI) only[rdB,rdC,push_cast,seval])
   ·rw[show (decide (R.e=0)&&(decide (R.now.kind=5)||decide (R.now.kind=1))&&decide (R.now.text=t))=false by simp[h1,h5]]
    simp(disch:=try exact dI) only[LJ,rdB,rdC,h0I,h5,h1,push_cast,seval]
    exact ap [] (by simp(disch:=try exact dI) only[rdB,rdC,push_cast,seval])
 ·rw[show (decide (R.e=0)&&(decide (R.now.kind=5)||decide (R.now.kind=1))&&decide (R.now.text=t))=false by simp[h0]]
  simp(disch:=try exact dI) only[LJ,rdB,rdC,h0,push_cast,seval]
  exact ap [] (by simp(disch:=try exact dI) only[rdB,rdC,push_cast,seval])
end
end Go.Proofs.YtamoeblcphjbaaaGreatDoor
namespace Go.Proofs.YtamoeblcphjbaaaGreatDoor
open Go Go.Ab
attribute [local irreducible] vc
def aB:Bool→AV
 | true=>.ptr 0 0
 | false=>.pv .nilp
def bB (t:Bool):List UInt8→List Blk
 | []=>[.cells 83 true [aB t,.pv .nils]]
 | b::r=>[.cells 83 true [aB t,.row 1 1 0 (r.length+1)],.cells 5 false ((aA (b::r)).map .pv)]
theorem copyB (t:Bool)(l:List UInt8):aQ Tryz.prog aF 1 107 [.ptr 0 0] (bB t l) (.pv (.tup [])) (bB true l):=by
 refine aQ.intro Li (by simp[LK]) ?_
 cases l with
 | nil=>
   cases t with
   | true=>
     simp(disch:=try exact dI) only[LK,bB,aB,push_cast,seval]
     exact ap [] qsZ
   | false=>
     simp(disch:=try exact dI) only[LK,bB,aB,push_cast,seval]
     exact ap [] qsZ
 | cons b r=>
   cases t with
   | true=>
     simp(disch:=try exact dI) only[LK,bB,aB,push_cast,seval]
     exact ap [] qsZ
   | false=>
     simp(disch:=try exact dI) only[LK,bB,aB,push_cast,seval]
     exact ap [] qsZ
theorem lH (t:Bool)(l:List UInt8)(c:UInt8)(hl:l.length≤100000000):aQ Tryz.prog aF 1 49 [.ptr 0 0,.pv (.int .u8 (c.toNat:Int))] (bB t l) (.pv .nili) (bB true (l++[c])):=by
 have hC:=copyB t l
 refine aQ.intro Ot (by simp[F49]) ?_
 cases l with
 | nil=>
   cases t<;>(
   try simp only[bB,aB] at hC
   simp(disch:=try exact dI) only[F49,bB,aB,push_cast,seval]
   refine ab.lentK hC [0] rfl qsZ qsZ ?_
   simp(disch:=try exact dI) only[bB,aB,push_cast,seval]
   exact ap [] (by simp(disch:=try exact dI) only[aA,push_cast,seval]))
 | cons b r=>
   have hA:=fun new q=>wP (t:=5) (q:=q) (new:=new) (f:=false) (l:=b::r) (c:=c) (len:=r.length+1) rfl (by simp at hl ⊢;omega)
   cases t<;>(
   try simp only[bB,aB] at hC
   simp(disch:=try exact dI) only[F49,bB,aB,push_cast,seval]
   refine ab.lentK hC [0,1] rfl qsZ qsZ ?_
   simp(disch:=try exact dI) only[bB,aB,hA,push_cast,seval]
   exact ap [] (by simp(disch:=try exact dI) only[aA,List.length_append,push_cast,seval]))
theorem nR (t:Bool)(l k:List UInt8)(hl:l.length≤100000000)(hk:k.length≤100000000):aQ Tryz.prog aF 1 50 [.ptr 0 0,.pv (.str k)] (bB t l) (.pv (.tup [.int .i64 (k.length:Int),.nili])) (bB true (l++k)):=by
 have hC:=copyB t l
 refine aQ.intro Oq (by simp[F50]) ?_
 cases l with
 | nil=>
   cases k with
   | nil=>
     cases t<;>(
     try simp only[bB,aB] at hC
     simp(disch:=try exact dI) only[F50,bB,aB,push_cast,seval]
     refine ab.lentK hC [0] rfl qsZ qsZ ?_
     simp(disch:=try exact dI) only[bB,aB,push_cast,seval]
     exact ap [] qsZ)
   | cons c k=>
     simp only[List.length_cons] at hk
     cases t<;>(
     try simp only[bB,aB] at hC
     simp(disch:=try exact dI) only[F50,bB,aB,push_cast,seval]
     refine ab.lentK hC [0] rfl qsZ qsZ ?_
     simp(disch:=try exact dI) only[bB,aB,push_cast,seval]
     exact ap [] qsZ)
 | cons b r=>
   have e2:(r++k).length+1=r.length+1+k.length:=by simp;omega
   have hA:=fun new q=>Gg (t:=5) (q:=q) (new:=new) (f:=false) (l:=b::r) (k:=k) (len:=r.length+1) rfl (by simp at hl ⊢;omega)
   cases t<;>(
   try simp only[bB,aB] at hC
   simp(disch:=try exact dI) only[F50,bB,aB,push_cast,seval]
   refine ab.lentK hC [0,1] rfl qsZ qsZ ?_
   simp(disch:=try exact dI) only[bB,aB,hA,push_cast,seval]
   exact ap [] (by simp(disch:=try exact dI) only[e2,push_cast,seval]))
def stB:List UInt8→List Blk
 | []=>[.none]
 | _::_=>[.none,.none]
theorem jW (t:Bool)(l:List UInt8)(hl:l.length≤100000000):aQ Tryz.prog aF 1 52 [.ptr 0 0] (bB t l) (.pv (.str l)) (stB l):=by
 refine aQ.intro CE (by simp[F52]) ?_
 cases l with
 | nil=>
   cases t<;>(
   try simp only[bB,aB] at hC
   simp(disch:=try exact dI) only[F52,bB,aB,push_cast,seval]
   exact ap [] (by simp(disch:=try exact dI) only[stB,push_cast,seval]))
 | cons b r=>
   have hA:=fun (k:Int) (q:Nat) (hk:k=((b::r).length:Int))=>sm (t:=5) (r:=q) (f:=false) (l:=b::r) hk (by simp) (by simp at hl ⊢;omega)
   cases t<;>(
   try simp only[bB,aB] at hC
   simp(disch:=try exact dI) only[F52,bB,aB,hA,push_cast,seval]
   exact ap [] (by simp(disch:=try exact dI) only[stB,push_cast,seval]))
end Go.Proofs.YtamoeblcphjbaaaGreatDoor

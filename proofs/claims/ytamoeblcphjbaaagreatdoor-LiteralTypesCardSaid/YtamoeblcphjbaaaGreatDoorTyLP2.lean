/- A part. -/
import Derived.Test.YtamoeblcphjbaaaGreatDoorTyLR5
set_option linter.unusedVariables false
set_option linter.unusedSimpArgs false
set_option maxHeartbeats 16000000
set_option maxRecDepth 100000
open List renaming length_cons->WG,getElem?_eq_getElem->WE,take_length->WV
namespace Go.Proofs.YtamoeblcphjbaaaGreatDoor
open Go Go.Ab
attribute [local irreducible] vc
theorem fP {P:UInt8->Prop}(h:∀ k:Fin 256,P (UInt8.ofNat k.val))(c:UInt8):P c:=by
 have:=h ⟨c.toNat,c.toNat_lt⟩
 simpa using this
section
variable {T:Nat}{p:PV}
theorem r4 (c:UInt8):am Tryz.prog aC 162 [.int .u8 (c.toNat:Int)] (.bool (aY c)):=by
 refine am.intro Py.2 (by simp[Py]) ?_
 by_cases h1:97<=c.toNat
 ·have h1I:(97:Int)<=(c.toNat:Int):=by omega
  by_cases h2:c.toNat<=122
  ·have h2I:(c.toNat:Int)<=122:=by omega
   rw[show aY c=true by simp[aY,h1,h2]]
   simp(disch:=try exact dI) only[Py,h1I,h2I,push_cast,seval]
  ·have h2I:¬ (c.toNat:Int)<=122:=by omega
   rw[show aY c=false by simp[aY,h2];omega]
   have h3I:(65:Int)<=(c.toNat:Int):=by omega
   have h4I:¬ (c.toNat:Int)<=90:=by omega
   simp(disch:=try exact dI) only[Py,h1I,h2I,h3I,h4I,push_cast,seval]
 ·have h1I:¬ (97:Int)<=(c.toNat:Int):=by omega
  by_cases h3:65<=c.toNat
  ·have h3I:(65:Int)<=(c.toNat:Int):=by omega
   by_cases h4:c.toNat<=90
   ·have h4I:(c.toNat:Int)<=90:=by omega
    rw[show aY c=true by simp[aY,h3,h4]]
    simp(disch:=try exact dI) only[Py,h1I,h3I,h4I,push_cast,seval]
   ·have h4I:¬ (c.toNat:Int)<=90:=by omega
    rw[show aY c=false by simp[aY,h1,h4]]
    simp(disch:=try exact dI) only[Py,h1I,h3I,h4I,push_cast,seval]
  ·have h3I:¬ (65:Int)<=(c.toNat:Int):=by omega
   rw[show aY c=false by simp[aY,h1,h3]]
   simp(disch:=try exact dI) only[Py,h1I,h3I,push_cast,seval]
theorem gU (c:UInt8):am Tryz.prog aC 164 [.int .u8 (c.toNat:Int)] (.bool (isD c)):=by
 refine am.intro S5.2 (by simp[S5]) ?_
 by_cases h1:48<=c.toNat
 ·have h1I:(48:Int)<=(c.toNat:Int):=by omega
  by_cases h2:c.toNat<=57
  ·have h2I:(c.toNat:Int)<=57:=by omega
   rw[show isD c=true by simp[isD,h1,h2]]
   simp(disch:=try exact dI) only[S5,h1I,h2I,push_cast,seval]
  ·have h2I:¬ (c.toNat:Int)<=57:=by omega
   rw[show isD c=false by simp[isD,h2]]
   simp(disch:=try exact dI) only[S5,h1I,h2I,push_cast,seval]
 ·have h1I:¬ (48:Int)<=(c.toNat:Int):=by omega
  rw[show isD c=false by simp[isD,h1]]
  simp(disch:=try exact dI) only[S5,h1I,push_cast,seval]
theorem Mn (c:UInt8):am Tryz.prog aC 163 [.int .u8 (c.toNat:Int)] (.bool (db c)):=by
 have h1:=r4 c
 have h2:=gU c
 unfold db
 generalize aY c=a at *
 generalize isD c=b at *
 refine am.intro P4.2 (by simp[P4]) ?_
 cases a with
 | true=>
   rw[Bool.true_or,Bool.true_or]
   simp(disch:=try exact dI) only[P4,push_cast,seval]
   refine ae.pure h1 rfl ?_
   exact qsZ
 | false=>
   cases b with
   | true=>
     rw[Bool.false_or,Bool.true_or]
     simp(disch:=try exact dI) only[P4,push_cast,seval]
     refine ae.pure h1 rfl ?_
     refine zgZ ?_
     refine ae.pure h2 rfl ?_
     exact qsZ
   | false=>
     by_cases h3:c.toNat=95
     ·have h3I:((c.toNat:Int)=95)=True:=eq_true (by omega)
      rw[show (false||false||decide (c.toNat=95))=true by simp[h3]]
      simp(disch:=try exact dI) only[P4,push_cast,seval]
      refine ae.pure h1 rfl ?_
      refine zgZ ?_
      refine ae.pure h2 rfl ?_
      simp(disch:=try exact dI) only[h3I,push_cast,seval]
     ·have h3I:¬ (c.toNat:Int)=95:=by omega
      rw[show (false||false||decide (c.toNat=95))=false by simp[h3]]
      simp(disch:=try exact dI) only[P4,push_cast,seval]
      refine ae.pure h1 rfl ?_
      refine zgZ ?_
      refine ae.pure h2 rfl ?_
      simp(disch:=try exact dI) only[h3I,push_cast,seval]
theorem EJ (c:UInt8):0<=fZ c [32,9,13,10] 0↔aW c=true:=by
 revert c;exact fP (by decide +kernel)
theorem Oq (c:UInt8):0<=fZ c [91,93,123,125,40,41,58,44,61,63,124] 0↔vP c=true:=by
 revert c;exact fP (by decide +kernel)
theorem Kc (c:UInt8):am Tryz.prog aC 158 [.int .u8 (c.toNat:Int)] (.bool (aW c)):=by
 have h:=lk [32,9,13,10] c
 have hb:=EJ c
 generalize fZ c [32,9,13,10] 0=q at *
 refine am.intro Tz.2 (by simp[Tz]) ?_
 by_cases h0:0<=q
 ·rw[hb.1 h0]
  simp(disch:=try exact dI) only[Tz,push_cast,seval]
  refine ae.pure h rfl ?_
  simp(disch:=try exact dI) only[h0,push_cast,seval]
 ·rw[show aW c=false by cases hh:aW c with
   | true=>exact absurd (hb.2 hh) h0
   | false=>rfl]
  simp(disch:=try exact dI) only[Tz,push_cast,seval]
  refine ae.pure h rfl ?_
  simp(disch:=try exact dI) only[h0,push_cast,seval]
def Lu (c:UInt8):Int:=match r8 c with
 | some n=>n
 | none=>-1
def PS (c:UInt8):UInt8:=if 65<=c.toNat/\c.toNat<=70 then c+32 else c
theorem Ou (c:UInt8):fZ (PS c) [48,49,50,51,52,53,54,55,56,57,97,98,99,100,101,102] 0=Lu c:=by
 revert c;exact fP (by decide +kernel)
theorem pP {c:UInt8}{n:Nat}(h:r8 c=some n):n<16:=by
 have key:∀ c:UInt8,(r8 c).all (fun n=>decide (n<16))=true:=fP (by decide +kernel)
 have:=key c
 rw[h] at this
 simpa using this
theorem Ew (c:UInt8):am Tryz.prog aC 208 [.int .u8 (c.toNat:Int)] (.int .i64 (Lu c)):=by
 have h:=lk [48,49,50,51,52,53,54,55,56,57,97,98,99,100,101,102] (PS c)
 rw[Ou] at h
 generalize Lu c=q at *
 refine am.intro S2.2 (by simp[S2]) ?_
 by_cases h1:65<=c.toNat
 ·have h1I:(65:Int)<=(c.toNat:Int):=by omega
  by_cases h2:c.toNat<=70
  ·have h2I:(c.toNat:Int)<=70:=by omega
   have hw:=oU (n:=(c.toNat:Int)+32) (by omega) (by omega)
   rw[show ((PS c).toNat:Int)=(c.toNat:Int)+32 by
    rw[PS,if_pos ⟨h1,h2⟩,UInt8.toNat_add];simp;omega] at h
   simp(disch:=try exact dI) only[S2,h1I,h2I,hw,push_cast,seval]
   refine ae.pure h rfl ?_
   exact qsZ
  ·have h2I:¬ (c.toNat:Int)<=70:=by omega
   rw[show PS c=c from if_neg (by omega)] at h
   simp(disch:=try exact dI) only[S2,h1I,h2I,push_cast,seval]
   refine ae.pure h rfl ?_
   exact qsZ
 ·have h1I:¬ (65:Int)<=(c.toNat:Int):=by omega
  rw[show PS c=c from if_neg (by omega)] at h
  simp(disch:=try exact dI) only[S2,h1I,push_cast,seval]
  refine ae.pure h rfl ?_
  exact qsZ
def rdC (R:Rd):List AV:=[.pv (.str R.s),.pv (.int .i64 (R.next:Int)),.pv (.int .i64 R.now.kind),.pv (.int .i64 (R.now.pos:Int)),.pv (.str R.now.text),.pv (.str R.now.bytes),.pv (.int .i64 R.now.num),.pv (.int .i64 (R.now.sc:Int)),.pv (.bool R.now.dec),.pv (.bool R.now.exa),.pv (.int .i64 R.e),.pv (.int .i64 (R.off:Int))]
def rdB (R:Rd):Blk:=.cells 79 true (rdC R)
def tkP (t:Tk):PV:=.agg [.int .i64 t.kind,.int .i64 (t.pos:Int),.str t.text,.str t.bytes,.int .i64 t.num,.int .i64 (t.sc:Int),.bool t.dec,.bool t.exa]
theorem cD (R:Rd)(i:Nat)(e:Int):aP Tryz.prog (ci T p) 1 92 [.ptr 0 0,.pv (.int .i64 (i:Int)),.pv (.int .i64 e)] [rdB R] (.pv (.tup [])) [rdB (ba R i e)]:=by
 refine aP.intro Q92.2 (by simp[Q92]) ?_
 by_cases h:R.e=0
 ·have hI:(R.e=0)=True:=eq_true h
  rw[ba,if_pos h]
  simp(disch:=try exact dI) only[Q92,rdB,rdC,hI,push_cast,seval]
  exact au [] (by simp(disch:=try exact dI) only[rdB,rdC,push_cast,seval])
 ·rw[ba,if_neg h]
  simp(disch:=try exact dI) only[Q92,rdB,rdC,h,push_cast,seval]
  exact au [] (by simp(disch:=try exact dI) only[rdB,rdC,push_cast,seval])
theorem wa {q:UInt8->Bool}{s:List UInt8}{i:Nat}{c:UInt8}(h:s[i]? = some c):bR q s i=if q c=true then bR q s (i+1) else i:=by
 unfold bR
 rw[dm h,List.takeWhile_cons]
 by_cases hq:q c=true
 ·rw[if_pos hq,if_pos hq,WG];omega
 ·rw[if_neg hq,if_neg hq];rfl
theorem Cm {q:UInt8->Bool}{s:List UInt8}{i:Nat}(h:s.length<=i):bR q s i=i:=by
 unfold bR;rw[List.drop_eq_nil_of_le h];rfl
theorem kv {q:UInt8->Bool}{s:List UInt8}{i:Nat}:i<=bR q s i:=by unfold bR;omega
theorem fp {q:UInt8->Bool}{s:List UInt8}{i:Nat}(h:i<=s.length):bR q s i<=s.length:=by
 unfold bR
 have:=(List.takeWhile_sublist q (l:=s.drop i)).length_le
 simp at this;omega
theorem QJ (R:Rd)(i g:Nat)(q:UInt8->Bool)(hg:∀ c:UInt8,am Tryz.prog (ci T p) g [.int .u8 (c.toNat:Int)] (.bool (q c)))(hs:R.s.length<=65536)(hi:i<=R.s.length) :
  aP Tryz.prog (ci T p) 1 157 [.ptr 0 0,.pv (.int .i64 (i:Int)),.pv (.clo g [] [])] [rdB R] (.pv (.int .i64 (bR q R.s i:Int))) [rdB R]:=by
 generalize hK:bR q R.s i=K
 refine aP.intro Vx.2 (by simp[Vx]) ?_
 simp(disch:=try exact dI) only[Vx,rdB,rdC,push_cast,seval]
 refine aG ([]) (fun j:Nat=>[(1,.pv (.int .i64 (j:Int)))]) (fun _=>[]) (fun j=>j<=R.s.length/\bR q R.s j=K) (fun j=>R.s.length - j) (i) ?_;intro e0 σ0 n0 h0;simp(disch:=try exact dI) only[push_cast,seval] at h0;obtain⟨rfl,rfl,rfl⟩:=h0;refine⟨?_,?_,?_⟩
 ·exact qsZ
 ·exact⟨hi,hK⟩
 rintro j ⟨hj,he⟩
 by_cases hlt:j<R.s.length
 ·have hltI:(j:Int)<(R.s.length:Int):=by omega
  obtain⟨c,hc⟩:∃ c,R.s[j]? = some c:=⟨_,WE hlt⟩
  have hcall:=hg c
  rw[wa hc] at he
  cases hq:q c with
  | true=>
    rw[hq] at hcall
    rw[hq,if_pos rfl] at he
    simp(disch:=try exact dI) only[hltI,hc,aq,push_cast,seval]
    refine ae.pure hcall rfl ?_
    refine zgZ ?_
    exact⟨j+1,bl qsZ,⟨by omega,he⟩,by omega⟩
  | false=>
    rw[hq] at hcall
    rw[hq,if_neg (by decide)] at he
    subst he
    simp(disch:=try exact dI) only[hltI,hc,aq,push_cast,seval]
    refine ae.pure hcall rfl ?_
    refine zgZ ?_
    exact au [] (by simp(disch:=try exact dI) only[rdB,rdC,push_cast,seval])
 ·have hltI:¬ (j:Int)<(R.s.length:Int):=by omega
  rw[Cm (by omega)] at he
  subst he
  simp(disch:=try exact dI) only[hltI,push_cast,seval]
  exact au [] (by simp(disch:=try exact dI) only[rdB,rdC,push_cast,seval])
theorem Am (R:Rd)(t:List UInt8):aP Tryz.prog (ci T p) 1 131 [.ptr 0 0,.pv (.str t)] [rdB R] (.pv (.bool (isT R t))) [rdB R]:=by
 refine aP.intro P8.2 (by simp[P8]) ?_
 unfold isT
 by_cases h0:R.e=0
 ·have h0I:(R.e=0)=True:=eq_true h0
  have ht:∀ a:Bool,a=true->aP Tryz.prog (ci T p) 1 131 [.ptr 0 0,.pv (.str t)] [rdB R] (.pv (.bool (decide (R.e=0)&&a&&decide (R.now.text=t)))) [rdB R]->True:=fun _ _ _=>trivial
  by_cases h5:R.now.kind=5
  ·have h5I:(R.now.kind=5)=True:=eq_true h5
   rw[show (decide (R.e=0)&&(decide (R.now.kind=5)||decide (R.now.kind=1))&&decide (R.now.text=t))=decide (R.now.text=t) by simp[h0,h5]]
   simp(disch:=try exact dI) only[P8,rdB,rdC,h0I,h5I,push_cast,seval]
   exact au [] (by simp(disch:=try exact dI) only[rdB,rdC,push_cast,seval])
  ·by_cases h1:R.now.kind=1
   ·have h1I:(R.now.kind=1)=True:=eq_true h1
    rw[show (decide (R.e=0)&&(decide (R.now.kind=5)||decide (R.now.kind=1))&&decide (R.now.text=t))=decide (R.now.text=t) by simp[h0,h1]]
    simp(disch:=try exact dI) only[P8,rdB,rdC,h0I,h5,h1I,push_cast,seval]
    exact au [] (by simp(disch:=try exact dI) only[rdB,rdC,push_cast,seval])
   ·rw[show (decide (R.e=0)&&(decide (R.now.kind=5)||decide (R.now.kind=1))&&decide (R.now.text=t))=false by simp[h1,h5]]
    simp(disch:=try exact dI) only[P8,rdB,rdC,h0I,h5,h1,push_cast,seval]
    exact au [] (by simp(disch:=try exact dI) only[rdB,rdC,push_cast,seval])
 ·rw[show (decide (R.e=0)&&(decide (R.now.kind=5)||decide (R.now.kind=1))&&decide (R.now.text=t))=false by simp[h0]]
  simp(disch:=try exact dI) only[P8,rdB,rdC,h0,push_cast,seval]
  exact au [] (by simp(disch:=try exact dI) only[rdB,rdC,push_cast,seval])
end
def aB:Bool->AV
 | true=>.ptr 0 0
 | false=>.pv .nilp
def bB (t:Bool):List UInt8->List Blk
 | []=>[.cells 83 true [aB t,.pv .nils]]
 | b::r=>[.cells 83 true [aB t,.row 1 1 0 (r.length+1)],.cells 5 false ((aD (b::r)).map .pv)]
theorem R6 (t:Bool)(l:List UInt8):aP Tryz.prog aC 1 107 [.ptr 0 0] (bB t l) (.pv (.tup [])) (bB true l):=by
 refine aP.intro PE (by simp[Qb]) ?_
 cases l with
 | nil=>
   cases t with
   | true=>
     simp(disch:=try exact dI) only[Qb,bB,aB,push_cast,seval]
     exact au [] qsZ
   | false=>
     simp(disch:=try exact dI) only[Qb,bB,aB,push_cast,seval]
     exact au [] qsZ
 | cons b r=>
   cases t with
   | true=>
     simp(disch:=try exact dI) only[Qb,bB,aB,push_cast,seval]
     exact au [] qsZ
   | false=>
     simp(disch:=try exact dI) only[Qb,bB,aB,push_cast,seval]
     exact au [] qsZ
theorem nM (t:Bool)(l:List UInt8)(c:UInt8)(hl:l.length<=100000000):aP Tryz.prog aC 1 49 [.ptr 0 0,.pv (.int .u8 (c.toNat:Int))] (bB t l) (.pv .nili) (bB true (l++[c])):=by
 have hC:=R6 t l
 refine aP.intro Q49.2 (by simp[Q49]) ?_
 cases l with
 | nil=>
   cases t<;>(
   try simp only[bB,aB] at hC
   simp(disch:=try exact dI) only[Q49,bB,aB,push_cast,seval]
   refine ae.lentK hC [0] rfl qsZ qsZ ?_
   simp(disch:=try exact dI) only[bB,aB,push_cast,seval]
   exact au [] (by simp(disch:=try exact dI) only[aD,push_cast,seval]))
 | cons b r=>
   have hA:=fun new q=>A6 (t:=5) (q:=q) (new:=new) (f:=false) (l:=b::r) (c:=c) (len:=r.length+1) rfl (by simp at hl ⊢;omega)
   cases t<;>(
   try simp only[bB,aB] at hC
   simp(disch:=try exact dI) only[Q49,bB,aB,push_cast,seval]
   refine ae.lentK hC [0,1] rfl qsZ qsZ ?_
   simp(disch:=try exact dI) only[bB,aB,hA,push_cast,seval]
   exact au [] (by simp(disch:=try exact dI) only[aD,List.length_append,push_cast,seval]))
theorem qC (t:Bool)(l k:List UInt8)(hl:l.length<=100000000)(hk:k.length<=100000000):aP Tryz.prog aC 1 50 [.ptr 0 0,.pv (.str k)] (bB t l) (.pv (.tup [.int .i64 (k.length:Int),.nili])) (bB true (l++k)):=by
 have hC:=R6 t l
 refine aP.intro Q50.2 (by simp[Q50]) ?_
 cases l with
 | nil=>
   cases k with
   | nil=>
     cases t<;>(
     try simp only[bB,aB] at hC
     simp(disch:=try exact dI) only[Q50,bB,aB,push_cast,seval]
     refine ae.lentK hC [0] rfl qsZ qsZ ?_
     simp(disch:=try exact dI) only[bB,aB,push_cast,seval]
     exact au [] qsZ)
   | cons c k=>
     simp only[WG] at hk
     cases t<;>(
     try simp only[bB,aB] at hC
     simp(disch:=try exact dI) only[Q50,bB,aB,push_cast,seval]
     refine ae.lentK hC [0] rfl qsZ qsZ ?_
     simp(disch:=try exact dI) only[bB,aB,push_cast,seval]
     exact au [] qsZ)
 | cons b r=>
   have e2:(r++k).length+1=r.length+1+k.length:=by simp;omega
   have hA:=fun new q=>Ke (t:=5) (q:=q) (new:=new) (f:=false) (l:=b::r) (k:=k) (len:=r.length+1) rfl (by simp at hl ⊢;omega)
   cases t<;>(
   try simp only[bB,aB] at hC
   simp(disch:=try exact dI) only[Q50,bB,aB,push_cast,seval]
   refine ae.lentK hC [0,1] rfl qsZ qsZ ?_
   simp(disch:=try exact dI) only[bB,aB,hA,push_cast,seval]
   exact au [] (by simp(disch:=try exact dI) only[e2,push_cast,seval]))
def stB:List UInt8->List Blk
 | []=>[.none]
 | _::_=>[.none,.none]
theorem lN (t:Bool)(l:List UInt8)(hl:l.length<=100000000):aP Tryz.prog aC 1 52 [.ptr 0 0] (bB t l) (.pv (.str l)) (stB l):=by
 refine aP.intro Q52.2 (by simp[Q52]) ?_
 cases l with
 | nil=>
   cases t<;>(
   try simp only[bB,aB] at hC
   simp(disch:=try exact dI) only[Q52,bB,aB,push_cast,seval]
   exact au [] (by simp(disch:=try exact dI) only[stB,push_cast,seval]))
 | cons b r=>
   have hA:=fun (k:Int) (q:Nat) (hk:k=((b::r).length:Int))=>vG (t:=5) (r:=q) (f:=false) (l:=b::r) hk (by simp) (by simp at hl ⊢;omega)
   cases t<;>(
   try simp only[bB,aB] at hC
   simp(disch:=try exact dI) only[Q52,bB,aB,hA,push_cast,seval]
   exact au [] (by simp(disch:=try exact dI) only[stB,push_cast,seval]))
theorem C7 (s p:List UInt8):am Tryz.prog aC 151 [.str s,.str p] (.bool (ii p s)):=by
 have h:=mM s p
 change am Tryz.prog aC 203 [.str s,.str p] (.bool (ii p s)) at h
 generalize ii p s=b at *
 refine am.intro Vz.2 (by simp[Vz]) ?_
 simp(disch:=try exact dI) only[Vz,push_cast,seval]
 refine ae.pure h rfl ?_
 exact qsZ
theorem GU (s p:List UInt8):am Tryz.prog aC 260 [.str s,.str p] (.str (if ii p s=true then s.drop p.length else s)):=by
 have h:=mM s p
 change am Tryz.prog aC 203 [.str s,.str p] (.bool (ii p s)) at h
 have hle:ii p s=true->p.length<=s.length:=fun h=>(of_decide_eq_true h).2
 generalize ii p s=b at *
 refine am.intro To.2 (by simp[To]) ?_
 cases b with
 | true=>
   have hl:=hle rfl
   rw[if_pos rfl]
   simp(disch:=try exact dI) only[To,push_cast,seval]
   refine ae.pure h rfl ?_
   simp(disch:=try exact dI) only[WV,push_cast,seval]
 | false=>
   rw[if_neg (by decide)]
   simp(disch:=try exact dI) only[To,push_cast,seval]
   refine ae.pure h rfl ?_
   exact qsZ
theorem GV (s p:List UInt8):am Tryz.prog aC 235 [.str s,.str p] (.str (if ii p s=true then s.drop p.length else s)):=by
 have h:=GU s p
 generalize (if ii p s=true then s.drop p.length else s)=q at *
 refine am.intro Ve.2 (by simp[Ve]) ?_
 simp(disch:=try exact dI) only[Ve,push_cast,seval]
 refine ae.pure h rfl ?_
 exact qsZ
theorem Al (n:Nat):am Tryz.prog aC 219 [.int .i64 (n:Int)] (.bool (decide (n<=1114111/\¬ (55296<=n/\n<=57343)))):=by
 have h0:(0:Int)<=(n:Int):=by omega
 refine am.intro P0.2 (by simp[P0]) ?_
 by_cases h1:n<=1114111
 ·have h1I:(n:Int)<=1114111:=by omega
  by_cases h2:n<55296
  ·have h2I:(n:Int)<55296:=by omega
   rw[show decide (n<=1114111/\¬ (55296<=n/\n<=57343))=true from decide_eq_true ⟨h1,by omega⟩]
   simp(disch:=try exact dI) only[P0,h0,h1I,h2I,push_cast,seval]
  ·have h2I:¬ (n:Int)<55296:=by omega
   by_cases h3:57343<n
   ·have h3I:(57343:Int)<(n:Int):=by omega
    rw[show decide (n<=1114111/\¬ (55296<=n/\n<=57343))=true from decide_eq_true ⟨h1,by omega⟩]
    simp(disch:=try exact dI) only[P0,h0,h1I,h2I,h3I,push_cast,seval]
   ·have h3I:¬ (57343:Int)<(n:Int):=by omega
    rw[show decide (n<=1114111/\¬ (55296<=n/\n<=57343))=false from decide_eq_false (by omega)]
    simp(disch:=try exact dI) only[P0,h0,h1I,h2I,h3I,push_cast,seval]
 ·have h1I:¬ (n:Int)<=1114111:=by omega
  rw[show decide (n<=1114111/\¬ (55296<=n/\n<=57343))=false from decide_eq_false (by omega)]
  simp(disch:=try exact dI) only[P0,h0,h1I,push_cast,seval]
def Fg:Option (List UInt8)->PV
 | some t=>.tup [.str t,.int .i64 0]
 | none=>.tup [.str [],.int .i64 2]
theorem Ff (n:Nat):am Tryz.prog aC 182 [.int .i64 (n:Int)] (Fg (gu n)):=by
 have h:=Al n
 refine am.intro Tx.2 (by simp[Tx]) ?_
 unfold gu
 by_cases hc:n<=1114111/\¬ (55296<=n/\n<=57343)
 ·rw[decide_eq_true hc] at h
  rw[if_pos hc,Fg]
  have hw:IntKind.i32.wrap (n:Int)=(n:Int):=by simp[IntKind.wrap,IntKind.bits,IntKind.signed];omega
  simp(disch:=try exact dI) only[Tx,push_cast,seval]
  refine ae.pure h rfl ?_
  simp(disch:=try exact dI) only[hw,push_cast,seval]
 ·rw[decide_eq_false hc] at h
  rw[if_neg hc,Fg]
  simp(disch:=try exact dI) only[Tx,push_cast,seval]
  refine ae.pure h rfl ?_
  exact qsZ
theorem Ov (c:UInt8):(match sY c with
  | some b=>0<=fZ c [34,92,110,114,116] 0/\fZ c [34,92,110,114,116] 0<=4/\(([34,92,10,13,9]:List UInt8).take ((fZ c [34,92,110,114,116] 0).toNat+1)).drop (fZ c [34,92,110,114,116] 0).toNat=[b]
  | none=>fZ c [34,92,110,114,116] 0 = -1):=by
 have key:∀ c:UInt8,(match sY c with
  | some b=>decide (0<=fZ c [34,92,110,114,116] 0/\fZ c [34,92,110,114,116] 0<=4/\(([34,92,10,13,9]:List UInt8).take ((fZ c [34,92,110,114,116] 0).toNat+1)).drop (fZ c [34,92,110,114,116] 0).toNat=[b])
  | none=>decide (fZ c [34,92,110,114,116] 0 = -1))=true:=fP (by decide +kernel)
 have h:=key c
 cases hE:sY c with
 | none=>rw[hE] at h;exact of_decide_eq_true h
 | some b=>rw[hE] at h;exact of_decide_eq_true h
theorem E9 {c b:UInt8}{r:List UInt8}(h:sY c=some b):ke (c::r)=(([b],1),0):=by
 simp only[ke,h]
theorem E8 {c:UInt8}{r:List UInt8}(h:sY c=none):ke (c::r)=if ii [117,123] (c::r)=true then JT ((c::r).drop 2) else (([],0),13):=by
 show (match sY c with
  | some b=>(([b],1),0)
  | none=>if ii [117,123] (c::r)=true then JT ((c::r).drop 2) else (([],0),13))=_
 rw[h]
def LG (k:Nat):Option Nat->(List UInt8×Nat)×Int
 | none=>(([],0),13)
 | some n=>match gu n with
   | none=>(([],0),16)
   | some t=>((t,k+3),0)
theorem LF {u:List UInt8}(h:ki 125 u=none):JT u=(([],0),13):=by unfold JT;rw[h]
theorem E6 {u d e:List UInt8}(h:ki 125 u=some (d,e))(hd:d.length<1\/6<d.length):JT u=(([],0),13):=by unfold JT;rw[h];exact if_pos hd
theorem E7 {u d e:List UInt8}(h:ki 125 u=some (d,e))(hd:¬ (d.length<1\/6<d.length)):JT u=LG d.length (nH 0 d):=by
 unfold JT;rw[h]
 refine (if_neg hd).trans ?_
 unfold LG
 cases nH 0 d with
 | none=>rfl
 | some n=>cases gu n<;>rfl
theorem Ev:∀ (l:List UInt8) (n m:Nat),nH n l=some m->m+1<=(n+1)*16 ^ l.length
 | [],n,m,h=>by simp[nH] at h;subst h;simp
 | c::r,n,m,h=>by
   rw[nH] at h
   cases hc:r8 c with
   | none=>rw[hc] at h;simp at h
   | some d=>
     rw[hc] at h
     have hd:=pP hc
     have:=Ev r _ m h
     refine Nat.le_trans this ?_
     rw[WG,Nat.pow_succ,Nat.mul_comm (16 ^ r.length) 16,<- Nat.mul_assoc]
     exact Nat.mul_le_mul_right _ (by omega)
theorem pS:∀ (l:List UInt8) (n:Nat) (c:UInt8) (r:List UInt8),nH n (l++c::r)=(nH n l).bind fun m=>nH m (c::r)
 | [],n,c,r=>rfl
 | b::l,n,c,r=>by
   rw[List.cons_append,nH,nH]
   cases r8 b with
   | none=>rfl
   | some d=>exact pS l _ c r
def E5 (q:(List UInt8×Nat)×Int):PV:=.tup [.str q.1.1,.int .i64 (q.1.2:Int),.int .i64 q.2]
theorem OZ (d:UInt8)(s:List UInt8):p8 d s = .tup [.str ((ki d s).getD (s,[])).1,.str ((ki d s).getD (s,[])).2,.bool (ki d s).isSome]:=by
 unfold p8
 cases h:ki d s with
 | none=>rfl
 | some q=>rfl
theorem sn (s:List UInt8)(h0:s≠[])(hs:s.length<=65536):am Tryz.prog aC 207 [.str s] (E5 (ke s)):=by
 obtain⟨c,r,rfl⟩:∃ c r,s=c::r:=by
  cases s with
  | nil=>exact absurd rfl h0
  | cons c r=>exact⟨c,r,rfl⟩
 have hk:=lk [34,92,110,114,116] c
 have hf:=Ov c
 have hc0:(c::r)[0]? = some c:=rfl
 cases hE:sY c with
 | some b=>
   rw[hE] at hf
   obtain⟨q,hq⟩:∃ q,q=fZ c [34,92,110,114,116] 0:=⟨_,rfl⟩
   rw[<- hq] at hf hk
   obtain⟨f1,f2,f3⟩:=hf
   obtain⟨m,rfl⟩:∃ m:Nat,q=m:=⟨q.toNat,by omega⟩
   rw[Int.toNat_natCast] at f3
   have f3':List.drop m (34::List.take m [92,10,13,9])=[b]:=f3
   rw[E9 hE]
   unfold E5
   have hm:m<=4:=by omega
   refine am.intro qy.2 (by simp[qy]) ?_
   simp(disch:=try exact dI) only[qy,hc0,aq,push_cast,seval]
   refine ae.pure hk rfl ?_
   simp(disch:=try exact dI) only[f3',push_cast,seval]
 | none=>
   rw[hE] at hf
   rw[E8 hE]
   have hf':fZ c [34,92,110,114,116] 0 = -1:=hf
   rw[hf'] at hk
   have ht:=GV (c::r) [117,123]
   have hp:=C7 (c::r) [117,123]
   rw[show ([117,123]:List UInt8).length=2 from rfl] at ht
   cases hP:ii [117,123] (c::r) with
   | false=>
     rw[hP] at ht hp
     rw[if_neg (by decide)] at ht
     rw[if_neg (by decide)]
     unfold E5
     have hcu:=Fy 125 (c::r) (by omega)
     rw[OZ] at hcu
     generalize ((ki 125 (c::r)).getD (c::r,[])).1=x at *
     generalize ((ki 125 (c::r)).getD (c::r,[])).2=y at *
     generalize (ki 125 (c::r)).isSome=z at *
     refine am.intro qy.2 (by simp[qy]) ?_
     simp(disch:=try exact dI) only[qy,hc0,aq,push_cast,seval]
     refine ae.pure hk rfl ?_
     refine zgZ ?_
     refine ae.pure ht rfl ?_
     refine zgZ ?_
     refine ae.pure hcu rfl ?_
     refine zgZ ?_
     refine ae.pure hp rfl ?_
     exact qsZ
   | true=>
     rw[hP] at ht hp
     rw[if_pos rfl] at ht
     rw[if_pos rfl]
     obtain⟨U,hU⟩:∃ U,U=(c::r).drop 2:=⟨_,rfl⟩
     have hUl:U.length<=65536:=by rw[hU,List.length_drop];omega
     rw[<- hU] at ht ⊢
     have hcu:=Fy 125 U (by omega)
     cases hC:ki 125 U with
     | none=>
       simp only[p8,hC] at hcu
       rw[LF hC]
       unfold E5
       refine am.intro qy.2 (by simp[qy]) ?_
       simp(disch:=try exact dI) only[qy,hc0,aq,push_cast,seval]
       refine ae.pure hk rfl ?_
       refine zgZ ?_
       refine ae.pure ht rfl ?_
       refine zgZ ?_
       refine ae.pure hcu rfl ?_
       refine zgZ ?_
       refine ae.pure hp rfl ?_
       exact qsZ
     | some q=>
       obtain⟨d,e⟩:=q
       simp only[p8,hC] at hcu
       by_cases hd1:d.length<1
       ·have hd1I:(d.length:Int)<1:=by omega
        rw[E6 hC (.inl hd1)]
        unfold E5
        refine am.intro qy.2 (by simp[qy]) ?_
        simp(disch:=try exact dI) only[qy,hc0,aq,push_cast,seval]
        refine ae.pure hk rfl ?_
        refine zgZ ?_
        refine ae.pure ht rfl ?_
        refine zgZ ?_
        refine ae.pure hcu rfl ?_
        refine zgZ ?_
        refine ae.pure hp rfl ?_
        simp(disch:=try exact dI) only[hd1I,push_cast,seval]
       have hd1I:¬ (d.length:Int)<1:=by omega
       by_cases hd6:6<d.length
       ·have hd6I:(6:Int)<(d.length:Int):=by omega
        rw[E6 hC (.inr hd6)]
        unfold E5
        refine am.intro qy.2 (by simp[qy]) ?_
        simp(disch:=try exact dI) only[qy,hc0,aq,push_cast,seval]
        refine ae.pure hk rfl ?_
        refine zgZ ?_
        refine ae.pure ht rfl ?_
        refine zgZ ?_
        refine ae.pure hcu rfl ?_
        refine zgZ ?_
        refine ae.pure hp rfl ?_
        simp(disch:=try exact dI) only[hd1I,hd6I,push_cast,seval]
       have hd6I:¬ (6:Int)<(d.length:Int):=by omega
       rw[E7 hC (by omega)]
       obtain⟨X,hX⟩:∃ X,X=LG d.length (nH 0 d):=⟨_,rfl⟩
       rw[<- hX]
       refine am.intro qy.2 (by simp[qy]) ?_
       simp(disch:=try exact dI) only[qy,hc0,aq,push_cast,seval]
       refine ae.pure hk rfl ?_
       refine zgZ ?_
       refine ae.pure ht rfl ?_
       refine zgZ ?_
       refine ae.pure hcu rfl ?_
       refine zgZ ?_
       refine ae.pure hp rfl ?_
       simp(disch:=try exact dI) only[hd1I,hd6I,push_cast,seval]
       refine aG ([]) (fun y:Nat×Nat=>[(9,.pv (.int .i64 (y.2:Int))),(47,.pv (.int .i64 (y.1:Int)))]) (fun _=>[]) (fun y=>y.1<=d.length/\nH 0 (d.take y.1)=some y.2) (fun y=>d.length - y.1) ((0,0)) ?_;intro e0 σ0 n0 h0;simp(disch:=try exact dI) only[push_cast,seval] at h0;obtain⟨rfl,rfl,rfl⟩:=h0;refine⟨?_,?_,?_⟩
       ·exact qsZ
       ·exact⟨by simp,by simp[nH]⟩
       rintro⟨i,n⟩ ⟨hi,hn⟩
       simp only at hi hn
       have hb:=Ev _ _ _ hn
       have hp16:16 ^ (d.take i).length<=16 ^ 6:=Nat.pow_le_pow_right (by omega) (by simp;omega)
       have hn6:n<16777216:=by omega
       by_cases hlt:i<d.length
       ·have hltI:(i:Int)<(d.length:Int):=by omega
        obtain⟨b,hbc⟩:∃ b,d[i]? = some b:=⟨_,WE hlt⟩
        have h208:=Ew b
        have hts:=aK hbc
        unfold Lu at h208
        cases hv:r8 b with
        | none=>
          rw[hv] at h208
          have hno:nH 0 d=none:=by
           have e:d=d.take i++b::d.drop (i+1):=by rw[<- dm hbc,List.take_append_drop]
           rw[e,pS,hn]
           simp[nH,hv]
          rw[hno] at hX
          rw[show X=(([],0),13) from hX]
          unfold E5
          simp(disch:=try exact dI) only[hltI,hbc,aq,push_cast,seval]
          refine ae.pure h208 rfl ?_
          exact qsZ
        | some v=>
          rw[hv] at h208
          have hv16:=pP hv
          have hvI:¬ (v:Int)<0:=by omega
          simp(disch:=try exact dI) only[hltI,hbc,aq,push_cast,seval]
          refine ae.pure h208 rfl ?_
          simp(disch:=try exact dI) only[hvI,push_cast,seval]
          refine⟨(i+1,16*n+v),bl qsZ,⟨by simp only;omega,?_⟩,by simp only;omega⟩
          simp only
          rw[hts,pS,hn]
          simp[nH,hv]
       ·have hltI:¬ (i:Int)<(d.length:Int):=by omega
        obtain rfl:i=d.length:=by omega
        rw[WV] at hn
        rw[hn] at hX
        have he:=Ff n
        cases hpt:gu n with
        | none=>
          rw[hpt] at he
          simp only[LG,hpt] at hX
          rw[hX]
          unfold E5
          simp(disch:=try exact dI) only[hltI,push_cast,seval]
          refine ae.pure he rfl ?_
          simp(disch:=try exact dI) only[Fg,push_cast,seval]
        | some t=>
          rw[hpt] at he
          simp only[LG,hpt] at hX
          rw[hX]
          unfold E5
          simp(disch:=try exact dI) only[hltI,push_cast,seval]
          refine ae.pure he rfl ?_
          simp(disch:=try exact dI) only[Fg,push_cast,seval]
          omega

/- A part of the proof for LiteralAgainCardSaid. -/
import Derived.Test.YtamoeblcphjbaaaGreatDoorAgLQ4
set_option maxRecDepth 100000
set_option linter.unusedVariables false
set_option linter.unusedSimpArgs false
-- many steps
namespace Go.Proofs.YtamoeblcphjbaaaGreatDoor
open Go Go.Ab
attribute [local irreducible] vc
theorem zx (s:List UInt8):-1000000000000000000≤(cn s).1∧(cn s).1≤1000000000000000000:=by
 unfold cn
 split
 ·rename_i y m d hn
  rcases Hp y m d with h | h
  ·have:=mn h;omega
  ·unfold lu at h ⊢
   split
   ·rename_i hh;rw[if_pos hh] at h;cases h
   ·simp
 ·simp
theorem EQ (s:List UInt8):I64 (cn s).1:=by
 have:=zx s
 unfold I64;omega
theorem EO (s:List UInt8):I64 (bP s).1:=by
 by_cases h:(bP s).2=0
 ·obtain⟨y,m,d,hh,mi,sec,ms,h1,h2,h3,h4,h5,h6,h7⟩:=q0 (s:=s) (n:=(bP s).1) (by rw[← h])
  have:=fq h1
  unfold I64;omega
 ·have:(bP s).1=0:=by
   unfold bP at h ⊢
   split
   ·rename_i y m d hh mi sec r hn
    rw[hn] at h
    simp only at h
    split
    ·rename_i ms hms
     rw[hms] at h
     simp only at h
     unfold uG at h ⊢
     split
     ·rfl
     ·rename_i hc
      rw[if_neg hc] at h
      exact absurd rfl h
    ·rfl
   ·rfl
  rw[this];exact cB
theorem eE {k n s:Int}{t:List UInt8}(hk:I64 k)(hn:I64 n)(hs:I64 s)(ht:t.length≤300000):(Val.mk k n s t [] []).ok:=by
 rw[Val.ok_mk]
 exact⟨hk,hn,hs,by omega,by simp,(fun x hx=>by cases hx),by simp,fun x hx=>by cases hx⟩
theorem iK {n:Int}(h:0≤n)(h2:n≤1000):I64 n:=by unfold I64;omega
theorem dL:aP.ok:=eE cB cB cB (by simp)
theorem G5 {val:Rd→Val×Rd}{s:List UInt8}(hv:xe val s){R:Rd}{t:Tk}{d:Nat}(hR:OkR R)(hT:OkT R)(hs:R.s=s)(ht:t.text.length≤65536) :
  (bJ val R t d).1.ok∧fR R (bJ val R t d).2:=by
 unfold bJ
 split
 ·split
  ·split
   ·exact⟨dL,cb (by decide)⟩
   ·have h1:=(cL hR hT).1
    obtain⟨g1,g2,g3⟩:=hv (bm R) h1.1 h1.2.1 (h1.2.2.1.trans hs)
    refine⟨?_,h1.trans (g2.trans (br g2.1 g2.2.1))⟩
    rw[Val.ok_mk]
    refine⟨iK (by omega) (by omega),cB,cB,by omega,by simp,fun x hx=>?_,by simp,fun x hx=>by cases hx⟩
    rw[List.mem_singleton.1 hx];exact g1
  split
  ·exact⟨eE (iK (by omega) (by omega)) (iK (by omega) (by omega)) cB (by simp),.refl hR hT⟩
  split
  ·exact⟨eE (iK (by omega) (by omega)) cB cB (by simp),.refl hR hT⟩
  split
  ·have h1:=jZ cn EQ hR hT
   exact⟨eE (iK (by omega) (by omega)) h1.2 cB (by simp),h1.1⟩
  split
  ·have h1:=jZ bP EO hR hT
   exact⟨eE (iK (by omega) (by omega)) h1.2 cB (by simp),h1.1⟩
  split
  ·exact⟨dL,.refl hR hT⟩
  ·exact⟨dL,cb (by decide)⟩
 ·exact⟨dL,.refl hR hT⟩
section
variable {T:Nat}{p:PV}
theorem Al {val:Rd→Val×Rd}{R:Rd}{t:Tk}{d:Nat}(h0:R.e=0)(hi:isT R [40]=true)(hn:bA t.text=true):bJ val R t d=(.mk 10 0 0 t.text [(val (bm R)).1] [],aD (val (bm R)).2 [41]):=by
 unfold bJ
 rw[if_pos h0,if_pos hi,if_neg (by rw[hn];decide)]
theorem Je {val:Rd→Val×Rd}{R:Rd}{t:Tk}{d:Nat}(h0:R.e=0)(hi:isT R [40]=true)(hn:bA t.text=false):bJ val R t d=(aP,aZ R t.pos 12):=by
 unfold bJ
 rw[if_pos h0,if_pos hi,if_pos hn]
theorem kA {val:Rd→Val×Rd}{R:Rd}{t:Tk}{d:Nat}(h0:R.e=0)(hi:isT R [40]=false):bJ val R t d =
  if t.text=[116,114,117,101] then (.mk 1 1 0 [] [] [],R)
  else if t.text=[102,97,108,115,101] then (.mk 1 0 0 [] [] [],R)
  else if t.text=[100,97,116,101] then (.mk 6 (ba R cn).1 0 [] [] [],(ba R cn).2)
  else if t.text=[116,105,109,101] then (.mk 7 (ba R bP).1 0 [] [] [],(ba R bP).2)
  else if t.text=[110,117,108,108]∧d=0 then (aP,R)
  else (aP,aZ R t.pos 13):=by
 unfold bJ
 rw[if_pos h0,if_neg (by rw[hi];decide)]
theorem Jd {val:Rd→Val×Rd}{R:Rd}{t:Tk}{d:Nat}(h0:¬ R.e=0):bJ val R t d=(aP,R):=by
 unfold bJ
 rw[if_neg h0]
set_option maxHeartbeats 8000000 in
theorem Ff (val:Rd→Val×Rd)(s:List UInt8)(d:Nat)(hd:d≤10)(hv:xe val s)(hc:Pk T p val s (d+1))(R:Rd)(t:Tk)(hR:OkR R)(hT:OkT R)(hs:R.s=s)(ht:t.text.length≤65536) :
  aQ Tryz.prog (dM T p) 1 100 [.ptr 0 0,.pv (tkP t),.pv (.int .i64 (d:Int))] [rdB R] (.pv (bJ val R t d).1.pv) [rdB (bJ val R t d).2]:=by
 by_cases h0:R.e=0
 ·have h0I:(R.e=0)=True:=eq_true h0
  have his:=Fx (T:=T) (p:=p) R [40]
  have hnm:=toE (T:=T) (p:=p) (mS t.text)
  cases hi:isT R [40] with
  | true=>
    rw[hi] at his
    cases hn:bA t.text with
    | true=>
      rw[hn] at hnm
      rw[Al h0 hi hn]
      have h1:=(cL hR hT).1
      obtain⟨g1,g2,g3⟩:=hv (bm R) h1.1 h1.2.1 (h1.2.2.1.trans hs)
      have hadv:=en (T:=T) (p:=p) R hR
      have hcall:=hc (bm R) h1.1 h1.2.1 (h1.2.2.1.trans hs)
      generalize bm R=L1 at *
      generalize val L1=q at *
      obtain⟨v,L2⟩:=q
      simp only at g1 g2 hcall ⊢
      have hex:=bU (T:=T) (p:=p) L2 [41] g2.1
      have hvr:=toE (T:=T) (p:=p) (uB t.text v (by omega) g1)
      obtain⟨w1,w2,w3,w4,w5,w6⟩:=v
      simp only[rdB,rdC,tkP,Val.pv_mk,List.map_cons,List.map_nil] at his hadv hcall hex hvr ⊢
      refine aQ.intro dV (by simp[lG]) ?_
      simp(disch:=try exact dI) only[lG,h0I,push_cast,seval]
      refine ab.lentK his [0] rfl qsZ qsZ ?_
      simp(disch:=try exact dI) only[push_cast,seval]
      refine ab.pure hnm rfl ?_
      simp(disch:=try exact dI) only[push_cast,seval]
      refine ab.lentK hadv [0] rfl qsZ qsZ ?_
      simp(disch:=try exact dI) only[push_cast,seval]
      refine ab.lentK hcall [0] rfl qsZ qsZ ?_
      simp(disch:=try exact dI) only[push_cast,seval]
      refine ab.lentK hex [0] rfl qsZ qsZ ?_
      simp(disch:=try exact dI) only[push_cast,seval]
      refine ab.pure hvr rfl ?_
      simp(disch:=try exact dI) only[push_cast,seval]
      exact ap [] qsZ
    | false=>
      rw[hn] at hnm
      rw[Je h0 hi hn]
      have hf:=cW (T:=T) (p:=p) R t.pos 12
      simp only[rdB,rdC,tkP,aP,Val.pv_mk] at his hf ⊢
      refine aQ.intro dV (by simp[lG]) ?_
      simp(disch:=try exact dI) only[lG,h0I,push_cast,seval]
      refine ab.lentK his [0] rfl qsZ qsZ ?_
      simp(disch:=try exact dI) only[push_cast,seval]
      refine ab.pure hnm rfl ?_
      simp(disch:=try exact dI) only[push_cast,seval]
      refine ab.lentK hf [0] rfl qsZ qsZ ?_
      simp(disch:=try exact dI) only[push_cast,seval]
      exact ap [] qsZ
  | false=>
    rw[hi] at his
    rw[kA h0 hi]
    by_cases t1:t.text=[116,114,117,101]
    ·have b1:decide (t.text=[116,114,117,101])=true:=decide_eq_true t1
     rw[if_pos t1]
     have hb:=toE (T:=T) (p:=p) (Cf true)
     simp only[rdB,rdC,tkP,Val.pv_mk,if_true] at his hb ⊢
     refine aQ.intro dV (by simp[lG]) ?_
     simp(disch:=try exact dI) only[lG,h0I,push_cast,seval]
     refine ab.lentK his [0] rfl qsZ qsZ ?_
     simp(disch:=try exact dI) only[b1,push_cast,seval]
     refine ab.pure hb rfl ?_
     simp(disch:=try exact dI) only[push_cast,seval]
     exact ap [] qsZ
    have b1:decide (t.text=[116,114,117,101])=false:=decide_eq_false t1
    rw[if_neg t1]
    by_cases t2:t.text=[102,97,108,115,101]
    ·have b2:decide (t.text=[102,97,108,115,101])=true:=decide_eq_true t2
     rw[if_pos t2]
     have hb:=toE (T:=T) (p:=p) (Cf false)
     rw[if_neg (by decide)] at hb
     simp only[rdB,rdC,tkP,Val.pv_mk] at his hb ⊢
     refine aQ.intro dV (by simp[lG]) ?_
     simp(disch:=try exact dI) only[lG,h0I,push_cast,seval]
     refine ab.lentK his [0] rfl qsZ qsZ ?_
     simp(disch:=try exact dI) only[b1,b2,push_cast,seval]
     refine ab.pure hb rfl ?_
     simp(disch:=try exact dI) only[push_cast,seval]
     exact ap [] qsZ
    have b2:decide (t.text=[102,97,108,115,101])=false:=decide_eq_false t2
    rw[if_neg t2]
    by_cases t3:t.text=[100,97,116,101]
    ·have b3:decide (t.text=[100,97,116,101])=true:=decide_eq_true t3
     rw[if_pos t3]
     have hm:=oT (T:=T) (p:=p) R hR 128 cn IU
     generalize ba R cn=q at *
     obtain⟨n,L⟩:=q
     have hb:=toE (T:=T) (p:=p) (J4 n)
     simp only[rdB,rdC,tkP,Val.pv_mk] at his hb hm ⊢
     refine aQ.intro dV (by simp[lG]) ?_
     simp(disch:=try exact dI) only[lG,h0I,push_cast,seval]
     refine ab.lentK his [0] rfl qsZ qsZ ?_
     simp(disch:=try exact dI) only[b1,b2,b3,push_cast,seval]
     refine ab.lentK hm [0] rfl qsZ qsZ ?_
     simp(disch:=try exact dI) only[push_cast,seval]
     refine ab.pure hb rfl ?_
     simp(disch:=try exact dI) only[push_cast,seval]
     exact ap [] qsZ
    have b3:decide (t.text=[100,97,116,101])=false:=decide_eq_false t3
    rw[if_neg t3]
    by_cases t4:t.text=[116,105,109,101]
    ·have b4:decide (t.text=[116,105,109,101])=true:=decide_eq_true t4
     rw[if_pos t4]
     have hm:=oT (T:=T) (p:=p) R hR 130 bP qY
     generalize ba R bP=q at *
     obtain⟨n,L⟩:=q
     have hb:=toE (T:=T) (p:=p) (HY n)
     simp only[rdB,rdC,tkP,Val.pv_mk] at his hb hm ⊢
     refine aQ.intro dV (by simp[lG]) ?_
     simp(disch:=try exact dI) only[lG,h0I,push_cast,seval]
     refine ab.lentK his [0] rfl qsZ qsZ ?_
     simp(disch:=try exact dI) only[b1,b2,b3,b4,push_cast,seval]
     refine ab.lentK hm [0] rfl qsZ qsZ ?_
     simp(disch:=try exact dI) only[push_cast,seval]
     refine ab.pure hb rfl ?_
     simp(disch:=try exact dI) only[push_cast,seval]
     exact ap [] qsZ
    have b4:decide (t.text=[116,105,109,101])=false:=decide_eq_false t4
    rw[if_neg t4]
    have hf:=cW (T:=T) (p:=p) R t.pos 13
    by_cases t5:t.text=[110,117,108,108]
    ·have b5:decide (t.text=[110,117,108,108])=true:=decide_eq_true t5
     by_cases hd0:d=0
     ·subst hd0
      rw[if_pos ⟨t5,rfl⟩]
      simp only[rdB,rdC,tkP,aP,Val.pv_mk] at his hf ⊢
      refine aQ.intro dV (by simp[lG]) ?_
      simp(disch:=try exact dI) only[lG,h0I,push_cast,seval]
      refine ab.lentK his [0] rfl qsZ qsZ ?_
      simp(disch:=try exact dI) only[b1,b2,b3,b4,b5,push_cast,seval]
      exact ap [] qsZ
     ·have hdI:¬ (d:Int)=0:=by omega
      rw[if_neg (fun q=>hd0 q.2)]
      simp only[rdB,rdC,tkP,aP,Val.pv_mk] at his hf ⊢
      refine aQ.intro dV (by simp[lG]) ?_
      simp(disch:=try exact dI) only[lG,h0I,push_cast,seval]
      refine ab.lentK his [0] rfl qsZ qsZ ?_
      simp(disch:=try exact dI) only[b1,b2,b3,b4,b5,hdI,push_cast,seval]
      refine ab.lentK hf [0] rfl qsZ qsZ ?_
      simp(disch:=try exact dI) only[push_cast,seval]
      exact ap [] qsZ
    ·have b5:decide (t.text=[110,117,108,108])=false:=decide_eq_false t5
     rw[if_neg (fun q=>t5 q.1)]
     simp only[rdB,rdC,tkP,aP,Val.pv_mk] at his hf ⊢
     refine aQ.intro dV (by simp[lG]) ?_
     simp(disch:=try exact dI) only[lG,h0I,push_cast,seval]
     refine ab.lentK his [0] rfl qsZ qsZ ?_
     simp(disch:=try exact dI) only[b1,b2,b3,b4,b5,push_cast,seval]
     refine ab.lentK hf [0] rfl qsZ qsZ ?_
     simp(disch:=try exact dI) only[push_cast,seval]
     exact ap [] qsZ
 ·rw[Jd h0]
  simp only[rdB,rdC,tkP,aP,Val.pv_mk]
  refine aQ.intro dV (by simp[lG]) ?_
  simp(disch:=try exact dI) only[lG,h0,push_cast,seval]
  exact ap [] qsZ
end
end Go.Proofs.YtamoeblcphjbaaaGreatDoor

/- A part of the proof. -/
import Derived.Test.YtamoeblcphjbaaaGreatDoorPaLQ4
set_option maxHeartbeats 16000000
set_option maxRecDepth 100000
set_option linter.unusedVariables false
set_option linter.unusedSimpArgs false
-- many steps
namespace Go.Proofs.YtamoeblcphjbaaaGreatDoor
open Go Go.Ab
attribute [local irreducible] vc
theorem Ac (s:List UInt8):-1000000000000000000≤(b9 s).1∧(b9 s).1≤1000000000000000000:=by
 unfold b9
 split
 ·rename_i y m d hn
  rcases Hw y m d with h | h
  ·have:=mA h;omega
  ·unfold mB at h ⊢
   split
   ·rename_i hh;rw[if_pos hh] at h;cases h
   ·simp
 ·simp
theorem EP (s:List UInt8):I64 (b9 s).1:=by
 have:=Ac s
 unfold I64;omega
theorem EN (s:List UInt8):I64 (bI s).1:=by
 by_cases h:(bI s).2=0
 ·obtain⟨y,m,d,hh,mi,sec,ms,h1,h2,h3,h4,h5,h6,h7⟩:=ri (s:=s) (n:=(bI s).1) (by rw[← h])
  have:=fv h1
  unfold I64;omega
 ·have:(bI s).1=0:=by
   unfold bI at h ⊢
   split
   ·rename_i y m d hh mi sec r hn
    rw[hn] at h
    simp only at h
    split
    ·rename_i ms hms
     rw[hms] at h
     simp only at h
     unfold yg at h ⊢
     split
     ·rfl
     ·rename_i hc
      rw[if_neg hc] at h
      exact absurd rfl h
    ·rfl
   ·rfl
  rw[this];exact cD
theorem eD {k n s:Int}{t:List UInt8}(hk:I64 k)(hn:I64 n)(hs:I64 s)(ht:t.length≤300000):(Val.mk k n s t [] []).ok:=by
 rw[Val.ok_mk]
 exact⟨hk,hn,hs,by omega,by simp,(fun x hx=>by cases hx),by simp,fun x hx=>by cases hx⟩
theorem iN {n:Int}(h:0≤n)(h2:n≤1000):I64 n:=by unfold I64;omega
theorem cU:aH.ok:=eD cD cD cD (by simp)
theorem NM {val:Rd→Val×Rd}{s:List UInt8}(hv:xB val s){R:Rd}{t:Tk}{d:Nat}(hR:OkR R)(hT:OkT R)(hs:R.s=s)(ht:t.text.length≤65536) :
  (bu val R t d).1.ok∧fO R (bu val R t d).2:=by
 unfold bu
 split
 ·split
  ·split
   ·exact⟨cU,bY (by decide)⟩
   ·have h1:=(df hR hT).1
    obtain⟨g1,g2,g3⟩:=hv (aY R) h1.1 h1.2.1 (h1.2.2.1.trans hs)
    refine⟨?_,h1.trans (g2.trans (bN g2.1 g2.2.1))⟩
    rw[Val.ok_mk]
    refine⟨iN (by omega) (by omega),cD,cD,by omega,by simp,fun x hx=>?_,by simp,fun x hx=>by cases hx⟩
    rw[List.mem_singleton.1 hx];exact g1
  split
  ·exact⟨eD (iN (by omega) (by omega)) (iN (by omega) (by omega)) cD (by simp),.refl hR hT⟩
  split
  ·exact⟨eD (iN (by omega) (by omega)) cD cD (by simp),.refl hR hT⟩
  split
  ·have h1:=jX b9 EP hR hT
   exact⟨eD (iN (by omega) (by omega)) h1.2 cD (by simp),h1.1⟩
  split
  ·have h1:=jX bI EN hR hT
   exact⟨eD (iN (by omega) (by omega)) h1.2 cD (by simp),h1.1⟩
  split
  ·exact⟨cU,.refl hR hT⟩
  ·exact⟨cU,bY (by decide)⟩
 ·exact⟨cU,.refl hR hT⟩
section
variable {T:Nat}{p:PV}
theorem AM {val:Rd→Val×Rd}{R:Rd}{t:Tk}{d:Nat}(h0:R.e=0)(hi:isT R [40]=true)(hn:bC t.text=true):bu val R t d=(.mk 10 0 0 t.text [(val (aY R)).1] [],aq (val (aY R)).2 [41]):=by
 unfold bu
 rw[if_pos h0,if_pos hi,if_neg (by rw[hn];decide)]
theorem AL {val:Rd→Val×Rd}{R:Rd}{t:Tk}{d:Nat}(h0:R.e=0)(hi:isT R [40]=true)(hn:bC t.text=false):bu val R t d=(aH,aI R t.pos 12):=by
 unfold bu
 rw[if_pos h0,if_pos hi,if_pos hn]
theorem AK {val:Rd→Val×Rd}{R:Rd}{t:Tk}{d:Nat}(h0:R.e=0)(hi:isT R [40]=false):bu val R t d =
  if t.text=[116,114,117,101] then (.mk 1 1 0 [] [] [],R)
  else if t.text=[102,97,108,115,101] then (.mk 1 0 0 [] [] [],R)
  else if t.text=[100,97,116,101] then (.mk 6 (bh R b9).1 0 [] [] [],(bh R b9).2)
  else if t.text=[116,105,109,101] then (.mk 7 (bh R bI).1 0 [] [] [],(bh R bI).2)
  else if t.text=[110,117,108,108]∧d=0 then (aH,R)
  else (aH,aI R t.pos 13):=by
 unfold bu
 rw[if_pos h0,if_neg (by rw[hi];decide)]
theorem AJ {val:Rd→Val×Rd}{R:Rd}{t:Tk}{d:Nat}(h0:¬ R.e=0):bu val R t d=(aH,R):=by
 unfold bu
 rw[if_neg h0]
theorem Fc (val:Rd→Val×Rd)(s:List UInt8)(d:Nat)(hd:d≤10)(hv:xB val s)(hc:Qm T p val s (d+1))(R:Rd)(t:Tk)(hR:OkR R)(hT:OkT R)(hs:R.s=s)(ht:t.text.length≤65536) :
  aF Tryz.prog (bG T p) 1 100 [.ptr 0 0,.pv (tkP t),.pv (.int .i64 (d:Int))] [rdB R] (.pv (bu val R t d).1.pv) [rdB (bu val R t d).2]:=by
 by_cases h0:R.e=0
 ·have h0I:(R.e=0)=True:=eq_true h0
  have his:=Fy (T:=T) (p:=p) R [40]
  have hnm:=toE (T:=T) (p:=p) (m7 t.text)
  cases hi:isT R [40] with
  | true=>
    rw[hi] at his
    cases hn:bC t.text with
    | true=>
      rw[hn] at hnm
      rw[AM h0 hi hn]
      have h1:=(df hR hT).1
      obtain⟨g1,g2,g3⟩:=hv (aY R) h1.1 h1.2.1 (h1.2.2.1.trans hs)
      have hadv:=ep (T:=T) (p:=p) R hR
      have hcall:=hc (aY R) h1.1 h1.2.1 (h1.2.2.1.trans hs)
      generalize aY R=L1 at *
      generalize val L1=q at *
      obtain⟨v,L2⟩:=q
      simp only at g1 g2 hcall ⊢
      have hex:=bO (T:=T) (p:=p) L2 [41] g2.1
      have hvr:=toE (T:=T) (p:=p) (ve t.text v (by omega) g1)
      obtain⟨w1,w2,w3,w4,w5,w6⟩:=v
      simp only[rdB,rdC,tkP,Val.pv_mk,List.map_cons,List.map_nil] at his hadv hcall hex hvr ⊢
      refine aF.intro dX (by simp[lH]) ?_
      simp(disch:=try exact dI) only[lH,h0I,push_cast,seval]
      refine ab.lentK his [0] rfl qsZ qsZ ?_
      refine zgZ ?_
      refine ab.pure hnm rfl ?_
      refine zgZ ?_
      refine ab.lentK hadv [0] rfl qsZ qsZ ?_
      refine zgZ ?_
      refine ab.lentK hcall [0] rfl qsZ qsZ ?_
      refine zgZ ?_
      refine ab.lentK hex [0] rfl qsZ qsZ ?_
      refine zgZ ?_
      refine ab.pure hvr rfl ?_
      refine zgZ ?_
      exact am [] qsZ
    | false=>
      rw[hn] at hnm
      rw[AL h0 hi hn]
      have hf:=cR (T:=T) (p:=p) R t.pos 12
      simp only[rdB,rdC,tkP,aH,Val.pv_mk] at his hf ⊢
      refine aF.intro dX (by simp[lH]) ?_
      simp(disch:=try exact dI) only[lH,h0I,push_cast,seval]
      refine ab.lentK his [0] rfl qsZ qsZ ?_
      refine zgZ ?_
      refine ab.pure hnm rfl ?_
      refine zgZ ?_
      refine ab.lentK hf [0] rfl qsZ qsZ ?_
      refine zgZ ?_
      exact am [] qsZ
  | false=>
    rw[hi] at his
    rw[AK h0 hi]
    by_cases t1:t.text=[116,114,117,101]
    ·have b1:decide (t.text=[116,114,117,101])=true:=decide_eq_true t1
     rw[if_pos t1]
     have hb:=toE (T:=T) (p:=p) (Cv true)
     simp only[rdB,rdC,tkP,Val.pv_mk,if_true] at his hb ⊢
     refine aF.intro dX (by simp[lH]) ?_
     simp(disch:=try exact dI) only[lH,h0I,push_cast,seval]
     refine ab.lentK his [0] rfl qsZ qsZ ?_
     simp(disch:=try exact dI) only[b1,push_cast,seval]
     refine ab.pure hb rfl ?_
     refine zgZ ?_
     exact am [] qsZ
    have b1:decide (t.text=[116,114,117,101])=false:=decide_eq_false t1
    rw[if_neg t1]
    by_cases t2:t.text=[102,97,108,115,101]
    ·have b2:decide (t.text=[102,97,108,115,101])=true:=decide_eq_true t2
     rw[if_pos t2]
     have hb:=toE (T:=T) (p:=p) (Cv false)
     rw[if_neg (by decide)] at hb
     simp only[rdB,rdC,tkP,Val.pv_mk] at his hb ⊢
     refine aF.intro dX (by simp[lH]) ?_
     simp(disch:=try exact dI) only[lH,h0I,push_cast,seval]
     refine ab.lentK his [0] rfl qsZ qsZ ?_
     simp(disch:=try exact dI) only[b1,b2,push_cast,seval]
     refine ab.pure hb rfl ?_
     refine zgZ ?_
     exact am [] qsZ
    have b2:decide (t.text=[102,97,108,115,101])=false:=decide_eq_false t2
    rw[if_neg t2]
    by_cases t3:t.text=[100,97,116,101]
    ·have b3:decide (t.text=[100,97,116,101])=true:=decide_eq_true t3
     rw[if_pos t3]
     have hm:=pd (T:=T) (p:=p) R hR 128 b9 Ad
     generalize bh R b9=q at *
     obtain⟨n,L⟩:=q
     have hb:=toE (T:=T) (p:=p) (Ke n)
     simp only[rdB,rdC,tkP,Val.pv_mk] at his hb hm ⊢
     refine aF.intro dX (by simp[lH]) ?_
     simp(disch:=try exact dI) only[lH,h0I,push_cast,seval]
     refine ab.lentK his [0] rfl qsZ qsZ ?_
     simp(disch:=try exact dI) only[b1,b2,b3,push_cast,seval]
     refine ab.lentK hm [0] rfl qsZ qsZ ?_
     refine zgZ ?_
     refine ab.pure hb rfl ?_
     refine zgZ ?_
     exact am [] qsZ
    have b3:decide (t.text=[100,97,116,101])=false:=decide_eq_false t3
    rw[if_neg t3]
    by_cases t4:t.text=[116,105,109,101]
    ·have b4:decide (t.text=[116,105,109,101])=true:=decide_eq_true t4
     rw[if_pos t4]
     have hm:=pd (T:=T) (p:=p) R hR 130 bI kh
     generalize bh R bI=q at *
     obtain⟨n,L⟩:=q
     have hb:=toE (T:=T) (p:=p) (H0 n)
     simp only[rdB,rdC,tkP,Val.pv_mk] at his hb hm ⊢
     refine aF.intro dX (by simp[lH]) ?_
     simp(disch:=try exact dI) only[lH,h0I,push_cast,seval]
     refine ab.lentK his [0] rfl qsZ qsZ ?_
     simp(disch:=try exact dI) only[b1,b2,b3,b4,push_cast,seval]
     refine ab.lentK hm [0] rfl qsZ qsZ ?_
     refine zgZ ?_
     refine ab.pure hb rfl ?_
     refine zgZ ?_
     exact am [] qsZ
    have b4:decide (t.text=[116,105,109,101])=false:=decide_eq_false t4
    rw[if_neg t4]
    have hf:=cR (T:=T) (p:=p) R t.pos 13
    by_cases t5:t.text=[110,117,108,108]
    ·have b5:decide (t.text=[110,117,108,108])=true:=decide_eq_true t5
     by_cases hd0:d=0
     ·subst hd0
      rw[if_pos ⟨t5,rfl⟩]
      simp only[rdB,rdC,tkP,aH,Val.pv_mk] at his hf ⊢
      refine aF.intro dX (by simp[lH]) ?_
      simp(disch:=try exact dI) only[lH,h0I,push_cast,seval]
      refine ab.lentK his [0] rfl qsZ qsZ ?_
      simp(disch:=try exact dI) only[b1,b2,b3,b4,b5,push_cast,seval]
      exact am [] qsZ
     ·have hdI:¬ (d:Int)=0:=by omega
      rw[if_neg (fun q=>hd0 q.2)]
      simp only[rdB,rdC,tkP,aH,Val.pv_mk] at his hf ⊢
      refine aF.intro dX (by simp[lH]) ?_
      simp(disch:=try exact dI) only[lH,h0I,push_cast,seval]
      refine ab.lentK his [0] rfl qsZ qsZ ?_
      simp(disch:=try exact dI) only[b1,b2,b3,b4,b5,hdI,push_cast,seval]
      refine ab.lentK hf [0] rfl qsZ qsZ ?_
      refine zgZ ?_
      exact am [] qsZ
    ·have b5:decide (t.text=[110,117,108,108])=false:=decide_eq_false t5
     rw[if_neg (fun q=>t5 q.1)]
     simp only[rdB,rdC,tkP,aH,Val.pv_mk] at his hf ⊢
     refine aF.intro dX (by simp[lH]) ?_
     simp(disch:=try exact dI) only[lH,h0I,push_cast,seval]
     refine ab.lentK his [0] rfl qsZ qsZ ?_
     simp(disch:=try exact dI) only[b1,b2,b3,b4,b5,push_cast,seval]
     refine ab.lentK hf [0] rfl qsZ qsZ ?_
     refine zgZ ?_
     exact am [] qsZ
 ·rw[AJ h0]
  simp only[rdB,rdC,tkP,aH,Val.pv_mk]
  refine aF.intro dX (by simp[lH]) ?_
  simp(disch:=try exact dI) only[lH,h0,push_cast,seval]
  exact am [] qsZ
end
end Go.Proofs.YtamoeblcphjbaaaGreatDoor

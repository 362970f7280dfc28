/- A part of the proof for LiteralFieldsCardSaid. -/
import Derived.Test.YtamoeblcphjbaaaGreatDoorFlLQ4
set_option maxRecDepth 100000
set_option linter.unusedVariables false
set_option linter.unusedSimpArgs false
-- many steps
namespace Go.Proofs.YtamoeblcphjbaaaGreatDoor
open Go Go.Ab
attribute [local irreducible] vc
theorem Ar (s:List UInt8):-1000000000000000000≤(cI s).1∧(cI s).1≤1000000000000000000:=by
 unfold cI
 split
 ·rename_i y m d hn
  rcases H4 y m d with h | h
  ·have:=mo h;omega
  ·unfold lr at h ⊢
   split
   ·rename_i hh;rw[if_pos hh] at h;cases h
   ·simp
 ·simp
theorem Fu (s:List UInt8):I64 (cI s).1:=by
 have:=Ar s
 unfold I64;omega
theorem Fs (s:List UInt8):I64 (ci s).1:=by
 by_cases h:(ci s).2=0
 ·obtain⟨y,m,d,hh,mi,sec,ms,h1,h2,h3,h4,h5,h6,h7⟩:=rh (s:=s) (n:=(ci s).1) (by rw[← h])
  have:=fk h1
  unfold I64;omega
 ·have:(ci s).1=0:=by
   unfold ci at h ⊢
   split
   ·rename_i y m d hh mi sec r hn
    rw[hn] at h
    simp only at h
    split
    ·rename_i ms hms
     rw[hms] at h
     simp only at h
     unfold ve at h ⊢
     split
     ·rfl
     ·rename_i hc
      rw[if_neg hc] at h
      exact absurd rfl h
    ·rfl
   ·rfl
  rw[this];exact ct
theorem eB {k n s:Int}{t:List UInt8}(hk:I64 k)(hn:I64 n)(hs:I64 s)(ht:t.length≤300000):(Val.mk k n s t [] []).ok:=by
 rw[Val.ok_mk]
 exact⟨hk,hn,hs,by omega,by simp,(fun x hx=>by cases hx),by simp,fun x hx=>by cases hx⟩
theorem iA {n:Int}(h:0≤n)(h2:n≤1000):I64 n:=by unfold I64;omega
theorem dJ:bc.ok:=eB ct ct ct (by simp)
theorem ND {val:Rd→Val×Rd}{s:List UInt8}(hv:G9 val s){R:Rd}{t:Tk}{d:Nat}(hR:OkR R)(hT:OkT R)(hs:R.s=s)(ht:t.text.length≤65536) :
  (cn val R t d).1.ok∧fN R (cn val R t d).2:=by
 unfold cn
 split
 ·split
  ·split
   ·exact⟨dJ,bY (by decide)⟩
   ·have h1:=(fq hR hT).1
    obtain⟨g1,g2,g3⟩:=hv (bt R) h1.1 h1.2.1 (h1.2.2.1.trans hs)
    refine⟨?_,h1.trans (g2.trans (cB g2.1 g2.2.1))⟩
    rw[Val.ok_mk]
    refine⟨iA (by omega) (by omega),ct,ct,by omega,by simp,fun x hx=>?_,by simp,fun x hx=>by cases hx⟩
    rw[List.mem_singleton.1 hx];exact g1
  split
  ·exact⟨eB (iA (by omega) (by omega)) (iA (by omega) (by omega)) ct (by simp),.refl hR hT⟩
  split
  ·exact⟨eB (iA (by omega) (by omega)) ct ct (by simp),.refl hR hT⟩
  split
  ·have h1:=jU cI Fu hR hT
   exact⟨eB (iA (by omega) (by omega)) h1.2 ct (by simp),h1.1⟩
  split
  ·have h1:=jU ci Fs hR hT
   exact⟨eB (iA (by omega) (by omega)) h1.2 ct (by simp),h1.1⟩
  split
  ·exact⟨dJ,.refl hR hT⟩
  ·exact⟨dJ,bY (by decide)⟩
 ·exact⟨dJ,.refl hR hT⟩
section
variable {T:Nat}{p:PV}
theorem AR {val:Rd→Val×Rd}{R:Rd}{t:Tk}{d:Nat}(h0:R.e=0)(hi:isT R [40]=true)(hn:bn t.text=true):cn val R t d=(.mk 10 0 0 t.text [(val (bt R)).1] [],aD (val (bt R)).2 [41]):=by
 unfold cn
 rw[if_pos h0,if_pos hi,if_neg (by rw[hn];decide)]
theorem JU {val:Rd→Val×Rd}{R:Rd}{t:Tk}{d:Nat}(h0:R.e=0)(hi:isT R [40]=true)(hn:bn t.text=false):cn val R t d=(bc,ba R t.pos 12):=by
 unfold cn
 rw[if_pos h0,if_pos hi,if_pos hn]
theorem kv {val:Rd→Val×Rd}{R:Rd}{t:Tk}{d:Nat}(h0:R.e=0)(hi:isT R [40]=false):cn val R t d =
  if t.text=[116,114,117,101] then (.mk 1 1 0 [] [] [],R)
  else if t.text=[102,97,108,115,101] then (.mk 1 0 0 [] [] [],R)
  else if t.text=[100,97,116,101] then (.mk 6 (bE R cI).1 0 [] [] [],(bE R cI).2)
  else if t.text=[116,105,109,101] then (.mk 7 (bE R ci).1 0 [] [] [],(bE R ci).2)
  else if t.text=[110,117,108,108]∧d=0 then (bc,R)
  else (bc,ba R t.pos 13):=by
 unfold cn
 rw[if_pos h0,if_neg (by rw[hi];decide)]
theorem JT {val:Rd→Val×Rd}{R:Rd}{t:Tk}{d:Nat}(h0:¬ R.e=0):cn val R t d=(bc,R):=by
 unfold cn
 rw[if_neg h0]
set_option maxHeartbeats 8000000 in
theorem FU (val:Rd→Val×Rd)(s:List UInt8)(d:Nat)(hd:d≤10)(hv:G9 val s)(hc:Qd T p val s (d+1))(R:Rd)(t:Tk)(hR:OkR R)(hT:OkT R)(hs:R.s=s)(ht:t.text.length≤65536) :
  aR Tryz.prog (dD T p) 1 100 [.ptr 0 0,.pv (tkP t),.pv (.int .i64 (d:Int))] [rdB R] (.pv (cn val R t d).1.pv) [rdB (cn val R t d).2]:=by
 by_cases h0:R.e=0
 ·have h0I:(R.e=0)=True:=eq_true h0
  have his:=Gb (T:=T) (p:=p) R [40]
  have hnm:=toE (T:=T) (p:=p) (m4 t.text)
  cases hi:isT R [40] with
  | true=>
    rw[hi] at his
    cases hn:bn t.text with
    | true=>
      rw[hn] at hnm
      rw[AR h0 hi hn]
      have h1:=(fq hR hT).1
      obtain⟨g1,g2,g3⟩:=hv (bt R) h1.1 h1.2.1 (h1.2.2.1.trans hs)
      have hadv:=d9 (T:=T) (p:=p) R hR
      have hcall:=hc (bt R) h1.1 h1.2.1 (h1.2.2.1.trans hs)
      generalize bt R=L1 at *
      generalize val L1=q at *
      obtain⟨v,L2⟩:=q
      simp only at g1 g2 hcall ⊢
      have hex:=bQ (T:=T) (p:=p) L2 [41] g2.1
      have hvr:=toE (T:=T) (p:=p) (uZ t.text v (by omega) g1)
      obtain⟨w1,w2,w3,w4,w5,w6⟩:=v
      simp only[rdB,rdC,tkP,Val.pv_mk,List.map_cons,List.map_nil] at his hadv hcall hex hvr ⊢
      refine aR.intro dQ (by simp[lE]) ?_
      simp(disch:=try exact dI) only[lE,h0I,push_cast,seval]
      refine ab.lentK his [0] rfl qsZ qsZ ?_
      simp(disch:=try exact dI) only[push_cast,seval]
      refine ab.pure hnm rfl ?_
      simp(disch:=try exact dI) only[push_cast,seval]
      refine ab.lentK hadv [0] rfl qsZ qsZ ?_
      simp(disch:=try exact dI) only[push_cast,seval]
      refine ab.lentK hcall [0] rfl qsZ qsZ ?_
      simp(disch:=try exact dI) only[push_cast,seval]
      refine ab.lentK hex [0] rfl qsZ qsZ ?_
      simp(disch:=try exact dI) only[push_cast,seval]
      refine ab.pure hvr rfl ?_
      simp(disch:=try exact dI) only[push_cast,seval]
      exact ap [] qsZ
    | false=>
      rw[hn] at hnm
      rw[JU h0 hi hn]
      have hf:=cL (T:=T) (p:=p) R t.pos 12
      simp only[rdB,rdC,tkP,bc,Val.pv_mk] at his hf ⊢
      refine aR.intro dQ (by simp[lE]) ?_
      simp(disch:=try exact dI) only[lE,h0I,push_cast,seval]
      refine ab.lentK his [0] rfl qsZ qsZ ?_
      simp(disch:=try exact dI) only[push_cast,seval]
      refine ab.pure hnm rfl ?_
      simp(disch:=try exact dI) only[push_cast,seval]
      refine ab.lentK hf [0] rfl qsZ qsZ ?_
      simp(disch:=try exact dI) only[push_cast,seval]
      exact ap [] qsZ
  | false=>
    rw[hi] at his
    rw[kv h0 hi]
    by_cases t1:t.text=[116,114,117,101]
    ·have b1:decide (t.text=[116,114,117,101])=true:=decide_eq_true t1
     rw[if_pos t1]
     have hb:=toE (T:=T) (p:=p) (CO true)
     simp only[rdB,rdC,tkP,Val.pv_mk,if_true] at his hb ⊢
     refine aR.intro dQ (by simp[lE]) ?_
     simp(disch:=try exact dI) only[lE,h0I,push_cast,seval]
     refine ab.lentK his [0] rfl qsZ qsZ ?_
     simp(disch:=try exact dI) only[b1,push_cast,seval]
     refine ab.pure hb rfl ?_
     simp(disch:=try exact dI) only[push_cast,seval]
     exact ap [] qsZ
    have b1:decide (t.text=[116,114,117,101])=false:=decide_eq_false t1
    rw[if_neg t1]
    by_cases t2:t.text=[102,97,108,115,101]
    ·have b2:decide (t.text=[102,97,108,115,101])=true:=decide_eq_true t2
     rw[if_pos t2]
     have hb:=toE (T:=T) (p:=p) (CO false)
     rw[if_neg (by decide)] at hb
     simp only[rdB,rdC,tkP,Val.pv_mk] at his hb ⊢
     refine aR.intro dQ (by simp[lE]) ?_
     simp(disch:=try exact dI) only[lE,h0I,push_cast,seval]
     refine ab.lentK his [0] rfl qsZ qsZ ?_
     simp(disch:=try exact dI) only[b1,b2,push_cast,seval]
     refine ab.pure hb rfl ?_
     simp(disch:=try exact dI) only[push_cast,seval]
     exact ap [] qsZ
    have b2:decide (t.text=[102,97,108,115,101])=false:=decide_eq_false t2
    rw[if_neg t2]
    by_cases t3:t.text=[100,97,116,101]
    ·have b3:decide (t.text=[100,97,116,101])=true:=decide_eq_true t3
     rw[if_pos t3]
     have hm:=o7 (T:=T) (p:=p) R hR 128 cI JA
     generalize bE R cI=q at *
     obtain⟨n,L⟩:=q
     have hb:=toE (T:=T) (p:=p) (KK n)
     simp only[rdB,rdC,tkP,Val.pv_mk] at his hb hm ⊢
     refine aR.intro dQ (by simp[lE]) ?_
     simp(disch:=try exact dI) only[lE,h0I,push_cast,seval]
     refine ab.lentK his [0] rfl qsZ qsZ ?_
     simp(disch:=try exact dI) only[b1,b2,b3,push_cast,seval]
     refine ab.lentK hm [0] rfl qsZ qsZ ?_
     simp(disch:=try exact dI) only[push_cast,seval]
     refine ab.pure hb rfl ?_
     simp(disch:=try exact dI) only[push_cast,seval]
     exact ap [] qsZ
    have b3:decide (t.text=[100,97,116,101])=false:=decide_eq_false t3
    rw[if_neg t3]
    by_cases t4:t.text=[116,105,109,101]
    ·have b4:decide (t.text=[116,105,109,101])=true:=decide_eq_true t4
     rw[if_pos t4]
     have hm:=o7 (T:=T) (p:=p) R hR 130 ci re
     generalize bE R ci=q at *
     obtain⟨n,L⟩:=q
     have hb:=toE (T:=T) (p:=p) (IC n)
     simp only[rdB,rdC,tkP,Val.pv_mk] at his hb hm ⊢
     refine aR.intro dQ (by simp[lE]) ?_
     simp(disch:=try exact dI) only[lE,h0I,push_cast,seval]
     refine ab.lentK his [0] rfl qsZ qsZ ?_
     simp(disch:=try exact dI) only[b1,b2,b3,b4,push_cast,seval]
     refine ab.lentK hm [0] rfl qsZ qsZ ?_
     simp(disch:=try exact dI) only[push_cast,seval]
     refine ab.pure hb rfl ?_
     simp(disch:=try exact dI) only[push_cast,seval]
     exact ap [] qsZ
    have b4:decide (t.text=[116,105,109,101])=false:=decide_eq_false t4
    rw[if_neg t4]
    have hf:=cL (T:=T) (p:=p) R t.pos 13
    by_cases t5:t.text=[110,117,108,108]
    ·have b5:decide (t.text=[110,117,108,108])=true:=decide_eq_true t5
     by_cases hd0:d=0
     ·subst hd0
      rw[if_pos ⟨t5,rfl⟩]
      simp only[rdB,rdC,tkP,bc,Val.pv_mk] at his hf ⊢
      refine aR.intro dQ (by simp[lE]) ?_
      simp(disch:=try exact dI) only[lE,h0I,push_cast,seval]
      refine ab.lentK his [0] rfl qsZ qsZ ?_
      simp(disch:=try exact dI) only[b1,b2,b3,b4,b5,push_cast,seval]
      exact ap [] qsZ
     ·have hdI:¬ (d:Int)=0:=by omega
      rw[if_neg (fun q=>hd0 q.2)]
      simp only[rdB,rdC,tkP,bc,Val.pv_mk] at his hf ⊢
      refine aR.intro dQ (by simp[lE]) ?_
      simp(disch:=try exact dI) only[lE,h0I,push_cast,seval]
      refine ab.lentK his [0] rfl qsZ qsZ ?_
      simp(disch:=try exact dI) only[b1,b2,b3,b4,b5,hdI,push_cast,seval]
      refine ab.lentK hf [0] rfl qsZ qsZ ?_
      simp(disch:=try exact dI) only[push_cast,seval]
      exact ap [] qsZ
    ·have b5:decide (t.text=[110,117,108,108])=false:=decide_eq_false t5
     rw[if_neg (fun q=>t5 q.1)]
     simp only[rdB,rdC,tkP,bc,Val.pv_mk] at his hf ⊢
     refine aR.intro dQ (by simp[lE]) ?_
     simp(disch:=try exact dI) only[lE,h0I,push_cast,seval]
     refine ab.lentK his [0] rfl qsZ qsZ ?_
     simp(disch:=try exact dI) only[b1,b2,b3,b4,b5,push_cast,seval]
     refine ab.lentK hf [0] rfl qsZ qsZ ?_
     simp(disch:=try exact dI) only[push_cast,seval]
     exact ap [] qsZ
 ·rw[JT h0]
  simp only[rdB,rdC,tkP,bc,Val.pv_mk]
  refine aR.intro dQ (by simp[lE]) ?_
  simp(disch:=try exact dI) only[lE,h0,push_cast,seval]
  exact ap [] qsZ
end
end Go.Proofs.YtamoeblcphjbaaaGreatDoor

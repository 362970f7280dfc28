/- A part of the proof for LiteralReadsCardSaid. -/
import Derived.Test.YtamoeblcphjbaaaGreatDoorRdLQ4
set_option maxRecDepth 100000
set_option linter.unusedVariables false
set_option linter.unusedSimpArgs false
-- many steps
namespace Go.Proofs.YtamoeblcphjbaaaGreatDoor
open Go Go.Ab
attribute [local irreducible] vc
theorem ze (s:List UInt8):-1000000000000000000≤(cI s).1∧(cI s).1≤1000000000000000000:=by
 unfold cI
 split
 ·rename_i y m d hn
  rcases GZ y m d with h | h
  ·have:=lT h;omega
  ·unfold kX at h ⊢
   split
   ·rename_i hh;rw[if_pos hh] at h;cases h
   ·simp
 ·simp
theorem Ep (s:List UInt8):I64 (cI s).1:=by
 have:=ze s
 unfold I64;omega
theorem En (s:List UInt8):I64 (cb s).1:=by
 by_cases h:(cb s).2=0
 ·obtain⟨y,m,d,hh,mi,sec,ms,h1,h2,h3,h4,h5,h6,h7⟩:=qH (s:=s) (n:=(cb s).1) (by rw[← h])
  have:=ff h1
  unfold I64;omega
 ·have:(cb s).1=0:=by
   unfold cb at h ⊢
   split
   ·rename_i y m d hh mi sec r hn
    rw[hn] at h
    simp only at h
    split
    ·rename_i ms hms
     rw[hms] at h
     simp only at h
     unfold uq at h ⊢
     split
     ·rfl
     ·rename_i hc
      rw[if_neg hc] at h
      exact absurd rfl h
    ·rfl
   ·rfl
  rw[this];exact cp
theorem eu {k n s:Int}{t:List UInt8}(hk:I64 k)(hn:I64 n)(hs:I64 s)(ht:t.length≤300000):(Val.mk k n s t [] []).ok:=by
 rw[Val.ok_mk]
 exact⟨hk,hn,hs,by omega,by simp,(fun x hx=>by cases hx),by simp,fun x hx=>by cases hx⟩
theorem iu {n:Int}(h:0≤n)(h2:n≤1000):I64 n:=by unfold I64;omega
theorem dC:ba.ok:=eu cp cp cp (by simp)
theorem My {val:Rd→Val×Rd}{s:List UInt8}(hv:F3 val s){R:Rd}{t:Tk}{d:Nat}(hR:OkR R)(hT:OkT R)(hs:R.s=s)(ht:t.text.length≤65536) :
  (cj val R t d).1.ok∧fI R (cj val R t d).2:=by
 unfold cj
 split
 ·split
  ·split
   ·exact⟨dC,bV (by decide)⟩
   ·have h1:=(fk hR hT).1
    obtain⟨g1,g2,g3⟩:=hv (bq R) h1.1 h1.2.1 (h1.2.2.1.trans hs)
    refine⟨?_,h1.trans (g2.trans (cy g2.1 g2.2.1))⟩
    rw[Val.ok_mk]
    refine⟨iu (by omega) (by omega),cp,cp,by omega,by simp,fun x hx=>?_,by simp,fun x hx=>by cases hx⟩
    rw[List.mem_singleton.1 hx];exact g1
  split
  ·exact⟨eu (iu (by omega) (by omega)) (iu (by omega) (by omega)) cp (by simp),.refl hR hT⟩
  split
  ·exact⟨eu (iu (by omega) (by omega)) cp cp (by simp),.refl hR hT⟩
  split
  ·have h1:=jH cI Ep hR hT
   exact⟨eu (iu (by omega) (by omega)) h1.2 cp (by simp),h1.1⟩
  split
  ·have h1:=jH cb En hR hT
   exact⟨eu (iu (by omega) (by omega)) h1.2 cp (by simp),h1.1⟩
  split
  ·exact⟨dC,.refl hR hT⟩
  ·exact⟨dC,bV (by decide)⟩
 ·exact⟨dC,.refl hR hT⟩
section
variable {T:Nat}{p:PV}
theorem zI {val:Rd→Val×Rd}{R:Rd}{t:Tk}{d:Nat}(h0:R.e=0)(hi:isT R [40]=true)(hn:bu t.text=true):cj val R t d=(.mk 10 0 0 t.text [(val (bq R)).1] [],aE (val (bq R)).2 [41]):=by
 unfold cj
 rw[if_pos h0,if_pos hi,if_neg (by rw[hn];decide)]
theorem IQ {val:Rd→Val×Rd}{R:Rd}{t:Tk}{d:Nat}(h0:R.e=0)(hi:isT R [40]=true)(hn:bu t.text=false):cj val R t d=(ba,aZ R t.pos 12):=by
 unfold cj
 rw[if_pos h0,if_pos hi,if_pos hn]
theorem ka {val:Rd→Val×Rd}{R:Rd}{t:Tk}{d:Nat}(h0:R.e=0)(hi:isT R [40]=false):cj val R t d =
  if t.text=[116,114,117,101] then (.mk 1 1 0 [] [] [],R)
  else if t.text=[102,97,108,115,101] then (.mk 1 0 0 [] [] [],R)
  else if t.text=[100,97,116,101] then (.mk 6 (bz R cI).1 0 [] [] [],(bz R cI).2)
  else if t.text=[116,105,109,101] then (.mk 7 (bz R cb).1 0 [] [] [],(bz R cb).2)
  else if t.text=[110,117,108,108]∧d=0 then (ba,R)
  else (ba,aZ R t.pos 13):=by
 unfold cj
 rw[if_pos h0,if_neg (by rw[hi];decide)]
theorem IP {val:Rd→Val×Rd}{R:Rd}{t:Tk}{d:Nat}(h0:¬ R.e=0):cj val R t d=(ba,R):=by
 unfold cj
 rw[if_neg h0]
set_option maxHeartbeats 8000000 in
theorem EQ (val:Rd→Val×Rd)(s:List UInt8)(d:Nat)(hd:d≤10)(hv:F3 val s)(hc:O8 T p val s (d+1))(R:Rd)(t:Tk)(hR:OkR R)(hT:OkT R)(hs:R.s=s)(ht:t.text.length≤65536) :
  aP Tryz.prog (dD T p) 1 100 [.ptr 0 0,.pv (tkP t),.pv (.int .i64 (d:Int))] [rdB R] (.pv (cj val R t d).1.pv) [rdB (cj val R t d).2]:=by
 by_cases h0:R.e=0
 ·have h0I:(R.e=0)=True:=eq_true h0
  have his:=E6 (T:=T) (p:=p) R [40]
  have hnm:=toE (T:=T) (p:=p) (mD t.text)
  cases hi:isT R [40] with
  | true=>
    rw[hi] at his
    cases hn:bu t.text with
    | true=>
      rw[hn] at hnm
      rw[zI h0 hi hn]
      have h1:=(fk hR hT).1
      obtain⟨g1,g2,g3⟩:=hv (bq R) h1.1 h1.2.1 (h1.2.2.1.trans hs)
      have hadv:=d6 (T:=T) (p:=p) R hR
      have hcall:=hc (bq R) h1.1 h1.2.1 (h1.2.2.1.trans hs)
      generalize bq R=L1 at *
      generalize val L1=q at *
      obtain⟨v,L2⟩:=q
      simp only at g1 g2 hcall ⊢
      have hex:=bO (T:=T) (p:=p) L2 [41] g2.1
      have hvr:=toE (T:=T) (p:=p) (uh t.text v (by omega) g1)
      obtain⟨w1,w2,w3,w4,w5,w6⟩:=v
      simp only[rdB,rdC,tkP,Val.pv_mk,List.map_cons,List.map_nil] at his hadv hcall hex hvr ⊢
      refine aP.intro dM (by simp[lg]) ?_
      simp(disch:=try exact dI) only[lg,h0I,push_cast,seval]
      refine ab.lentK his [0] rfl qsZ qsZ ?_
      simp(disch:=try exact dI) only[push_cast,seval]
      refine ab.pure hnm rfl ?_
      simp(disch:=try exact dI) only[push_cast,seval]
      refine ab.lentK hadv [0] rfl qsZ qsZ ?_
      simp(disch:=try exact dI) only[push_cast,seval]
      refine ab.lentK hcall [0] rfl qsZ qsZ ?_
      simp(disch:=try exact dI) only[push_cast,seval]
      refine ab.lentK hex [0] rfl qsZ qsZ ?_
      simp(disch:=try exact dI) only[push_cast,seval]
      refine ab.pure hvr rfl ?_
      simp(disch:=try exact dI) only[push_cast,seval]
      exact ap [] qsZ
    | false=>
      rw[hn] at hnm
      rw[IQ h0 hi hn]
      have hf:=cL (T:=T) (p:=p) R t.pos 12
      simp only[rdB,rdC,tkP,ba,Val.pv_mk] at his hf ⊢
      refine aP.intro dM (by simp[lg]) ?_
      simp(disch:=try exact dI) only[lg,h0I,push_cast,seval]
      refine ab.lentK his [0] rfl qsZ qsZ ?_
      simp(disch:=try exact dI) only[push_cast,seval]
      refine ab.pure hnm rfl ?_
      simp(disch:=try exact dI) only[push_cast,seval]
      refine ab.lentK hf [0] rfl qsZ qsZ ?_
      simp(disch:=try exact dI) only[push_cast,seval]
      exact ap [] qsZ
  | false=>
    rw[hi] at his
    rw[ka h0 hi]
    by_cases t1:t.text=[116,114,117,101]
    ·have b1:decide (t.text=[116,114,117,101])=true:=decide_eq_true t1
     rw[if_pos t1]
     have hb:=toE (T:=T) (p:=p) (BP true)
     simp only[rdB,rdC,tkP,Val.pv_mk,if_true] at his hb ⊢
     refine aP.intro dM (by simp[lg]) ?_
     simp(disch:=try exact dI) only[lg,h0I,push_cast,seval]
     refine ab.lentK his [0] rfl qsZ qsZ ?_
     simp(disch:=try exact dI) only[b1,push_cast,seval]
     refine ab.pure hb rfl ?_
     simp(disch:=try exact dI) only[push_cast,seval]
     exact ap [] qsZ
    have b1:decide (t.text=[116,114,117,101])=false:=decide_eq_false t1
    rw[if_neg t1]
    by_cases t2:t.text=[102,97,108,115,101]
    ·have b2:decide (t.text=[102,97,108,115,101])=true:=decide_eq_true t2
     rw[if_pos t2]
     have hb:=toE (T:=T) (p:=p) (BP false)
     rw[if_neg (by decide)] at hb
     simp only[rdB,rdC,tkP,Val.pv_mk] at his hb ⊢
     refine aP.intro dM (by simp[lg]) ?_
     simp(disch:=try exact dI) only[lg,h0I,push_cast,seval]
     refine ab.lentK his [0] rfl qsZ qsZ ?_
     simp(disch:=try exact dI) only[b1,b2,push_cast,seval]
     refine ab.pure hb rfl ?_
     simp(disch:=try exact dI) only[push_cast,seval]
     exact ap [] qsZ
    have b2:decide (t.text=[102,97,108,115,101])=false:=decide_eq_false t2
    rw[if_neg t2]
    by_cases t3:t.text=[100,97,116,101]
    ·have b3:decide (t.text=[100,97,116,101])=true:=decide_eq_true t3
     rw[if_pos t3]
     have hm:=oB (T:=T) (p:=p) R hR 128 cI Iv
     generalize bz R cI=q at *
     obtain⟨n,L⟩:=q
     have hb:=toE (T:=T) (p:=p) (JJ n)
     simp only[rdB,rdC,tkP,Val.pv_mk] at his hb hm ⊢
     refine aP.intro dM (by simp[lg]) ?_
     simp(disch:=try exact dI) only[lg,h0I,push_cast,seval]
     refine ab.lentK his [0] rfl qsZ qsZ ?_
     simp(disch:=try exact dI) only[b1,b2,b3,push_cast,seval]
     refine ab.lentK hm [0] rfl qsZ qsZ ?_
     simp(disch:=try exact dI) only[push_cast,seval]
     refine ab.pure hb rfl ?_
     simp(disch:=try exact dI) only[push_cast,seval]
     exact ap [] qsZ
    have b3:decide (t.text=[100,97,116,101])=false:=decide_eq_false t3
    rw[if_neg t3]
    by_cases t4:t.text=[116,105,109,101]
    ·have b4:decide (t.text=[116,105,109,101])=true:=decide_eq_true t4
     rw[if_pos t4]
     have hm:=oB (T:=T) (p:=p) R hR 130 cb qF
     generalize bz R cb=q at *
     obtain⟨n,L⟩:=q
     have hb:=toE (T:=T) (p:=p) (Hz n)
     simp only[rdB,rdC,tkP,Val.pv_mk] at his hb hm ⊢
     refine aP.intro dM (by simp[lg]) ?_
     simp(disch:=try exact dI) only[lg,h0I,push_cast,seval]
     refine ab.lentK his [0] rfl qsZ qsZ ?_
     simp(disch:=try exact dI) only[b1,b2,b3,b4,push_cast,seval]
     refine ab.lentK hm [0] rfl qsZ qsZ ?_
     simp(disch:=try exact dI) only[push_cast,seval]
     refine ab.pure hb rfl ?_
     simp(disch:=try exact dI) only[push_cast,seval]
     exact ap [] qsZ
    have b4:decide (t.text=[116,105,109,101])=false:=decide_eq_false t4
    rw[if_neg t4]
    have hf:=cL (T:=T) (p:=p) R t.pos 13
    by_cases t5:t.text=[110,117,108,108]
    ·have b5:decide (t.text=[110,117,108,108])=true:=decide_eq_true t5
     by_cases hd0:d=0
     ·subst hd0
      rw[if_pos ⟨t5,rfl⟩]
      simp only[rdB,rdC,tkP,ba,Val.pv_mk] at his hf ⊢
      refine aP.intro dM (by simp[lg]) ?_
      simp(disch:=try exact dI) only[lg,h0I,push_cast,seval]
      refine ab.lentK his [0] rfl qsZ qsZ ?_
      simp(disch:=try exact dI) only[b1,b2,b3,b4,b5,push_cast,seval]
      exact ap [] qsZ
     ·have hdI:¬ (d:Int)=0:=by omega
      rw[if_neg (fun q=>hd0 q.2)]
      simp only[rdB,rdC,tkP,ba,Val.pv_mk] at his hf ⊢
      refine aP.intro dM (by simp[lg]) ?_
      simp(disch:=try exact dI) only[lg,h0I,push_cast,seval]
      refine ab.lentK his [0] rfl qsZ qsZ ?_
      simp(disch:=try exact dI) only[b1,b2,b3,b4,b5,hdI,push_cast,seval]
      refine ab.lentK hf [0] rfl qsZ qsZ ?_
      simp(disch:=try exact dI) only[push_cast,seval]
      exact ap [] qsZ
    ·have b5:decide (t.text=[110,117,108,108])=false:=decide_eq_false t5
     rw[if_neg (fun q=>t5 q.1)]
     simp only[rdB,rdC,tkP,ba,Val.pv_mk] at his hf ⊢
     refine aP.intro dM (by simp[lg]) ?_
     simp(disch:=try exact dI) only[lg,h0I,push_cast,seval]
     refine ab.lentK his [0] rfl qsZ qsZ ?_
     simp(disch:=try exact dI) only[b1,b2,b3,b4,b5,push_cast,seval]
     refine ab.lentK hf [0] rfl qsZ qsZ ?_
     simp(disch:=try exact dI) only[push_cast,seval]
     exact ap [] qsZ
 ·rw[IP h0]
  simp only[rdB,rdC,tkP,ba,Val.pv_mk]
  refine aP.intro dM (by simp[lg]) ?_
  simp(disch:=try exact dI) only[lg,h0,push_cast,seval]
  exact ap [] qsZ
end
end Go.Proofs.YtamoeblcphjbaaaGreatDoor

/- A part of the proof for LiteralQuotesCardSaid. -/
import Derived.Test.YtamoeblcphjbaaaGreatDoorQuLQ4
set_option maxRecDepth 100000
set_option linter.unusedVariables false
set_option linter.unusedSimpArgs false
-- many steps
namespace Go.Proofs.YtamoeblcphjbaaaGreatDoor
open Go Go.Ab
attribute [local irreducible] vc
theorem yJ (s:List UInt8):-1000000000000000000≤(dw s).1∧(dw s).1≤1000000000000000000:=by
 unfold dw
 split
 ·rename_i y m d hn
  rcases GO y m d with h | h
  ·have:=kw h;omega
  ·unfold kx at h ⊢
   split
   ·rename_i hh;rw[if_pos hh] at h;cases h
   ·simp
 ·simp
theorem D7 (s:List UInt8):I64 (dw s).1:=by
 have:=yJ s
 unfold I64;omega
theorem D5 (s:List UInt8):I64 (cy s).1:=by
 by_cases h:(cy s).2=0
 ·obtain⟨y,m,d,hh,mi,sec,ms,h1,h2,h3,h4,h5,h6,h7⟩:=pr (s:=s) (n:=(cy s).1) (by rw[← h])
  have:=jx h1
  unfold I64;omega
 ·have:(cy s).1=0:=by
   unfold cy at h ⊢
   split
   ·rename_i y m d hh mi sec r hn
    rw[hn] at h
    simp only at h
    split
    ·rename_i ms hms
     rw[hms] at h
     simp only at h
     unfold wY at h ⊢
     split
     ·rfl
     ·rename_i hc
      rw[if_neg hc] at h
      exact absurd rfl h
    ·rfl
   ·rfl
  rw[this];exact bI
theorem cQ {k n s:Int}{t:List UInt8}(hk:I64 k)(hn:I64 n)(hs:I64 s)(ht:t.length≤300000):(Val.mk k n s t [] []).ok:=by
 rw[Val.ok_mk]
 exact⟨hk,hn,hs,by omega,by simp,(fun x hx=>by cases hx),by simp,fun x hx=>by cases hx⟩
theorem ff {n:Int}(h:0≤n)(h2:n≤1000):I64 n:=by unfold I64;omega
theorem dh:aR.ok:=cQ bI bI bI (by simp)
theorem Mo {val:Rd→Val×Rd}{s:List UInt8}(hv:FY val s){R:Rd}{t:Tk}{d:Nat}(hR:OkR R)(hT:OkT R)(hs:R.s=s)(ht:t.text.length≤65536) :
  (cj val R t d).1.ok∧eW R (cj val R t d).2:=by
 unfold cj
 split
 ·split
  ·split
   ·exact⟨dh,bH (by decide)⟩
   ·have h1:=(eE hR hT).1
    obtain⟨g1,g2,g3⟩:=hv (bi R) h1.1 h1.2.1 (h1.2.2.1.trans hs)
    refine⟨?_,h1.trans (g2.trans (b9 g2.1 g2.2.1))⟩
    rw[Val.ok_mk]
    refine⟨ff (by omega) (by omega),bI,bI,by omega,by simp,fun x hx=>?_,by simp,fun x hx=>by cases hx⟩
    rw[List.mem_singleton.1 hx];exact g1
  split
  ·exact⟨cQ (ff (by omega) (by omega)) (ff (by omega) (by omega)) bI (by simp),.refl hR hT⟩
  split
  ·exact⟨cQ (ff (by omega) (by omega)) bI bI (by simp),.refl hR hT⟩
  split
  ·have h1:=iE dw D7 hR hT
   exact⟨cQ (ff (by omega) (by omega)) h1.2 bI (by simp),h1.1⟩
  split
  ·have h1:=iE cy D5 hR hT
   exact⟨cQ (ff (by omega) (by omega)) h1.2 bI (by simp),h1.1⟩
  split
  ·exact⟨dh,.refl hR hT⟩
  ·exact⟨dh,bH (by decide)⟩
 ·exact⟨dh,.refl hR hT⟩
section
variable {T:Nat}{p:PV}
theorem IH {val:Rd→Val×Rd}{R:Rd}{t:Tk}{d:Nat}(h0:R.e=0)(hi:isT R [40]=true)(hn:db t.text=true):cj val R t d=(.mk 10 0 0 t.text [(val (bi R)).1] [],aD (val (bi R)).2 [41]):=by
 unfold cj
 rw[if_pos h0,if_pos hi,if_neg (by rw[hn];decide)]
theorem IG {val:Rd→Val×Rd}{R:Rd}{t:Tk}{d:Nat}(h0:R.e=0)(hi:isT R [40]=true)(hn:db t.text=false):cj val R t d=(aR,aQ R t.pos 12):=by
 unfold cj
 rw[if_pos h0,if_pos hi,if_pos hn]
theorem IF {val:Rd→Val×Rd}{R:Rd}{t:Tk}{d:Nat}(h0:R.e=0)(hi:isT R [40]=false):cj val R t d =
  if t.text=[116,114,117,101] then (.mk 1 1 0 [] [] [],R)
  else if t.text=[102,97,108,115,101] then (.mk 1 0 0 [] [] [],R)
  else if t.text=[100,97,116,101] then (.mk 6 (bT R dw).1 0 [] [] [],(bT R dw).2)
  else if t.text=[116,105,109,101] then (.mk 7 (bT R cy).1 0 [] [] [],(bT R cy).2)
  else if t.text=[110,117,108,108]∧d=0 then (aR,R)
  else (aR,aQ R t.pos 13):=by
 unfold cj
 rw[if_pos h0,if_neg (by rw[hi];decide)]
theorem IE {val:Rd→Val×Rd}{R:Rd}{t:Tk}{d:Nat}(h0:¬ R.e=0):cj val R t d=(aR,R):=by
 unfold cj
 rw[if_neg h0]
set_option maxHeartbeats 8000000 in
theorem EC (val:Rd→Val×Rd)(s:List UInt8)(d:Nat)(hd:d≤10)(hv:FY val s)(hc:Oy T p val s (d+1))(R:Rd)(t:Tk)(hR:OkR R)(hT:OkT R)(hs:R.s=s)(ht:t.text.length≤65536) :
  aL Tryz.prog (di T p) 1 100 [.ptr 0 0,.pv (tkP t),.pv (.int .i64 (d:Int))] [rdB R] (.pv (cj val R t d).1.pv) [rdB (cj val R t d).2]:=by
 by_cases h0:R.e=0
 ·have h0I:(R.e=0)=True:=eq_true h0
  have his:=ES (T:=T) (p:=p) R [40]
  have hnm:=toE (T:=T) (p:=p) (k8 t.text)
  cases hi:isT R [40] with
  | true=>
    rw[hi] at his
    cases hn:db t.text with
    | true=>
      rw[hn] at hnm
      rw[IH h0 hi hn]
      have h1:=(eE hR hT).1
      obtain⟨g1,g2,g3⟩:=hv (bi R) h1.1 h1.2.1 (h1.2.2.1.trans hs)
      have hadv:=dC (T:=T) (p:=p) R hR
      have hcall:=hc (bi R) h1.1 h1.2.1 (h1.2.2.1.trans hs)
      generalize bi R=L1 at *
      generalize val L1=q at *
      obtain⟨v,L2⟩:=q
      simp only at g1 g2 hcall ⊢
      have hex:=bw (T:=T) (p:=p) L2 [41] g2.1
      have hvr:=toE (T:=T) (p:=p) (sO t.text v (by omega) g1)
      obtain⟨w1,w2,w3,w4,w5,w6⟩:=v
      simp only[rdB,rdC,tkP,Val.pv_mk,List.map_cons,List.map_nil] at his hadv hcall hex hvr ⊢
      refine aL.intro dt (by simp[jU]) ?_
      simp(maxSteps:=9^7) (disch:=first|exact dI|fail) only[jU,h0I,push_cast,seval]
      refine ab.lentK his [0] rfl (by simp(maxSteps:=9^7) (disch:=first|exact dI|fail) only[push_cast,seval]) (by simp(maxSteps:=9^7) (disch:=first|exact dI|fail) only[push_cast,seval]) ?_
      simp(maxSteps:=9^7) (disch:=first|exact dI|fail) only[push_cast,seval]
      refine ab.pure hnm rfl ?_
      simp(maxSteps:=9^7) (disch:=first|exact dI|fail) only[push_cast,seval]
      refine ab.lentK hadv [0] rfl (by simp(maxSteps:=9^7) (disch:=first|exact dI|fail) only[push_cast,seval]) (by simp(maxSteps:=9^7) (disch:=first|exact dI|fail) only[push_cast,seval]) ?_
      simp(maxSteps:=9^7) (disch:=first|exact dI|fail) only[push_cast,seval]
      refine ab.lentK hcall [0] rfl (by simp(maxSteps:=9^7) (disch:=first|exact dI|fail) only[push_cast,seval]) (by simp(maxSteps:=9^7) (disch:=first|exact dI|fail) only[push_cast,seval]) ?_
      simp(maxSteps:=9^7) (disch:=first|exact dI|fail) only[push_cast,seval]
      refine ab.lentK hex [0] rfl (by simp(maxSteps:=9^7) (disch:=first|exact dI|fail) only[push_cast,seval]) (by simp(maxSteps:=9^7) (disch:=first|exact dI|fail) only[push_cast,seval]) ?_
      simp(maxSteps:=9^7) (disch:=first|exact dI|fail) only[push_cast,seval]
      refine ab.pure hvr rfl ?_
      simp(maxSteps:=9^7) (disch:=first|exact dI|fail) only[push_cast,seval]
      exact ap [] (by simp(maxSteps:=9^7) (disch:=first|exact dI|fail) only[push_cast,seval])
    | false=>
      rw[hn] at hnm
      rw[IG h0 hi hn]
      have hf:=cl (T:=T) (p:=p) R t.pos 12
      simp only[rdB,rdC,tkP,aR,Val.pv_mk] at his hf ⊢
      refine aL.intro dt (by simp[jU]) ?_
      simp(maxSteps:=9^7) (disch:=first|exact dI|fail) only[jU,h0I,push_cast,seval]
      refine ab.lentK his [0] rfl (by simp(maxSteps:=9^7) (disch:=first|exact dI|fail) only[push_cast,seval]) (by simp(maxSteps:=9^7) (disch:=first|exact dI|fail) only[push_cast,seval]) ?_
      simp(maxSteps:=9^7) (disch:=first|exact dI|fail) only[push_cast,seval]
      refine ab.pure hnm rfl ?_
      simp(maxSteps:=9^7) (disch:=first|exact dI|fail) only[push_cast,seval]
      refine ab.lentK hf [0] rfl (by simp(maxSteps:=9^7) (disch:=first|exact dI|fail) only[push_cast,seval]) (by simp(maxSteps:=9^7) (disch:=first|exact dI|fail) only[push_cast,seval]) ?_
      simp(maxSteps:=9^7) (disch:=first|exact dI|fail) only[push_cast,seval]
      exact ap [] (by simp(maxSteps:=9^7) (disch:=first|exact dI|fail) only[push_cast,seval])
  | false=>
    rw[hi] at his
    rw[IF h0 hi]
    by_cases t1:t.text=[116,114,117,101]
    ·have b1:decide (t.text=[116,114,117,101])=true:=decide_eq_true t1
     rw[if_pos t1]
     have hb:=toE (T:=T) (p:=p) (BG true)
     simp only[rdB,rdC,tkP,Val.pv_mk,if_true] at his hb ⊢
     refine aL.intro dt (by simp[jU]) ?_
     simp(maxSteps:=9^7) (disch:=first|exact dI|fail) only[jU,h0I,push_cast,seval]
     refine ab.lentK his [0] rfl (by simp(maxSteps:=9^7) (disch:=first|exact dI|fail) only[push_cast,seval]) (by simp(maxSteps:=9^7) (disch:=first|exact dI|fail) only[push_cast,seval]) ?_
     simp(maxSteps:=9^7) (disch:=first|exact dI|fail) only[b1,push_cast,seval]
     refine ab.pure hb rfl ?_
     simp(maxSteps:=9^7) (disch:=first|exact dI|fail) only[push_cast,seval]
     exact ap [] (by simp(maxSteps:=9^7) (disch:=first|exact dI|fail) only[push_cast,seval])
    have b1:decide (t.text=[116,114,117,101])=false:=decide_eq_false t1
    rw[if_neg t1]
    by_cases t2:t.text=[102,97,108,115,101]
    ·have b2:decide (t.text=[102,97,108,115,101])=true:=decide_eq_true t2
     rw[if_pos t2]
     have hb:=toE (T:=T) (p:=p) (BG false)
     rw[if_neg (by decide)] at hb
     simp only[rdB,rdC,tkP,Val.pv_mk] at his hb ⊢
     refine aL.intro dt (by simp[jU]) ?_
     simp(maxSteps:=9^7) (disch:=first|exact dI|fail) only[jU,h0I,push_cast,seval]
     refine ab.lentK his [0] rfl (by simp(maxSteps:=9^7) (disch:=first|exact dI|fail) only[push_cast,seval]) (by simp(maxSteps:=9^7) (disch:=first|exact dI|fail) only[push_cast,seval]) ?_
     simp(maxSteps:=9^7) (disch:=first|exact dI|fail) only[b1,b2,push_cast,seval]
     refine ab.pure hb rfl ?_
     simp(maxSteps:=9^7) (disch:=first|exact dI|fail) only[push_cast,seval]
     exact ap [] (by simp(maxSteps:=9^7) (disch:=first|exact dI|fail) only[push_cast,seval])
    have b2:decide (t.text=[102,97,108,115,101])=false:=decide_eq_false t2
    rw[if_neg t2]
    by_cases t3:t.text=[100,97,116,101]
    ·have b3:decide (t.text=[100,97,116,101])=true:=decide_eq_true t3
     rw[if_pos t3]
     have hm:=m9 (T:=T) (p:=p) R hR 128 dw Ip
     generalize bT R dw=q at *
     obtain⟨n,L⟩:=q
     have hb:=toE (T:=T) (p:=p) (JC n)
     simp only[rdB,rdC,tkP,Val.pv_mk] at his hb hm ⊢
     refine aL.intro dt (by simp[jU]) ?_
     simp(maxSteps:=9^7) (disch:=first|exact dI|fail) only[jU,h0I,push_cast,seval]
     refine ab.lentK his [0] rfl (by simp(maxSteps:=9^7) (disch:=first|exact dI|fail) only[push_cast,seval]) (by simp(maxSteps:=9^7) (disch:=first|exact dI|fail) only[push_cast,seval]) ?_
     simp(maxSteps:=9^7) (disch:=first|exact dI|fail) only[b1,b2,b3,push_cast,seval]
     refine ab.lentK hm [0] rfl (by simp(maxSteps:=9^7) (disch:=first|exact dI|fail) only[push_cast,seval]) (by simp(maxSteps:=9^7) (disch:=first|exact dI|fail) only[push_cast,seval]) ?_
     simp(maxSteps:=9^7) (disch:=first|exact dI|fail) only[push_cast,seval]
     refine ab.pure hb rfl ?_
     simp(maxSteps:=9^7) (disch:=first|exact dI|fail) only[push_cast,seval]
     exact ap [] (by simp(maxSteps:=9^7) (disch:=first|exact dI|fail) only[push_cast,seval])
    have b3:decide (t.text=[100,97,116,101])=false:=decide_eq_false t3
    rw[if_neg t3]
    by_cases t4:t.text=[116,105,109,101]
    ·have b4:decide (t.text=[116,105,109,101])=true:=decide_eq_true t4
     rw[if_pos t4]
     have hm:=m9 (T:=T) (p:=p) R hR 130 cy pq
     generalize bT R cy=q at *
     obtain⟨n,L⟩:=q
     have hb:=toE (T:=T) (p:=p) (Hj n)
     simp only[rdB,rdC,tkP,Val.pv_mk] at his hb hm ⊢
     refine aL.intro dt (by simp[jU]) ?_
     simp(maxSteps:=9^7) (disch:=first|exact dI|fail) only[jU,h0I,push_cast,seval]
     refine ab.lentK his [0] rfl (by simp(maxSteps:=9^7) (disch:=first|exact dI|fail) only[push_cast,seval]) (by simp(maxSteps:=9^7) (disch:=first|exact dI|fail) only[push_cast,seval]) ?_
     simp(maxSteps:=9^7) (disch:=first|exact dI|fail) only[b1,b2,b3,b4,push_cast,seval]
     refine ab.lentK hm [0] rfl (by simp(maxSteps:=9^7) (disch:=first|exact dI|fail) only[push_cast,seval]) (by simp(maxSteps:=9^7) (disch:=first|exact dI|fail) only[push_cast,seval]) ?_
     simp(maxSteps:=9^7) (disch:=first|exact dI|fail) only[push_cast,seval]
     refine ab.pure hb rfl ?_
     simp(maxSteps:=9^7) (disch:=first|exact dI|fail) only[push_cast,seval]
     exact ap [] (by simp(maxSteps:=9^7) (disch:=first|exact dI|fail) only[push_cast,seval])
    have b4:decide (t.text=[116,105,109,101])=false:=decide_eq_false t4
    rw[if_neg t4]
    have hf:=cl (T:=T) (p:=p) R t.pos 13
    by_cases t5:t.text=[110,117,108,108]
    ·have b5:decide (t.text=[110,117,108,108])=true:=decide_eq_true t5
     by_cases hd0:d=0
     ·subst hd0
      rw[if_pos ⟨t5,rfl⟩]
      simp only[rdB,rdC,tkP,aR,Val.pv_mk] at his hf ⊢
      refine aL.intro dt (by simp[jU]) ?_
      simp(maxSteps:=9^7) (disch:=first|exact dI|fail) only[jU,h0I,push_cast,seval]
      refine ab.lentK his [0] rfl (by simp(maxSteps:=9^7) (disch:=first|exact dI|fail) only[push_cast,seval]) (by simp(maxSteps:=9^7) (disch:=first|exact dI|fail) only[push_cast,seval]) ?_
      simp(maxSteps:=9^7) (disch:=first|exact dI|fail) only[b1,b2,b3,b4,b5,push_cast,seval]
      exact ap [] (by simp(maxSteps:=9^7) (disch:=first|exact dI|fail) only[push_cast,seval])
     ·have hdI:¬ (d:Int)=0:=by omega
      rw[if_neg (fun q=>hd0 q.2)]
      simp only[rdB,rdC,tkP,aR,Val.pv_mk] at his hf ⊢
      refine aL.intro dt (by simp[jU]) ?_
      simp(maxSteps:=9^7) (disch:=first|exact dI|fail) only[jU,h0I,push_cast,seval]
      refine ab.lentK his [0] rfl (by simp(maxSteps:=9^7) (disch:=first|exact dI|fail) only[push_cast,seval]) (by simp(maxSteps:=9^7) (disch:=first|exact dI|fail) only[push_cast,seval]) ?_
      simp(maxSteps:=9^7) (disch:=first|exact dI|fail) only[b1,b2,b3,b4,b5,hdI,push_cast,seval]
      refine ab.lentK hf [0] rfl (by simp(maxSteps:=9^7) (disch:=first|exact dI|fail) only[push_cast,seval]) (by simp(maxSteps:=9^7) (disch:=first|exact dI|fail) only[push_cast,seval]) ?_
      simp(maxSteps:=9^7) (disch:=first|exact dI|fail) only[push_cast,seval]
      exact ap [] (by simp(maxSteps:=9^7) (disch:=first|exact dI|fail) only[push_cast,seval])
    ·have b5:decide (t.text=[110,117,108,108])=false:=decide_eq_false t5
     rw[if_neg (fun q=>t5 q.1)]
     simp only[rdB,rdC,tkP,aR,Val.pv_mk] at his hf ⊢
     refine aL.intro dt (by simp[jU]) ?_
     simp(maxSteps:=9^7) (disch:=first|exact dI|fail) only[jU,h0I,push_cast,seval]
     refine ab.lentK his [0] rfl (by simp(maxSteps:=9^7) (disch:=first|exact dI|fail) only[push_cast,seval]) (by simp(maxSteps:=9^7) (disch:=first|exact dI|fail) only[push_cast,seval]) ?_
     simp(maxSteps:=9^7) (disch:=first|exact dI|fail) only[b1,b2,b3,b4,b5,push_cast,seval]
     refine ab.lentK hf [0] rfl (by simp(maxSteps:=9^7) (disch:=first|exact dI|fail) only[push_cast,seval]) (by simp(maxSteps:=9^7) (disch:=first|exact dI|fail) only[push_cast,seval]) ?_
     simp(maxSteps:=9^7) (disch:=first|exact dI|fail) only[push_cast,seval]
     exact ap [] (by simp(maxSteps:=9^7) (disch:=first|exact dI|fail) only[push_cast,seval])
 ·rw[IE h0]
  simp only[rdB,rdC,tkP,aR,Val.pv_mk]
  refine aL.intro dt (by simp[jU]) ?_
  simp(maxSteps:=9^7) (disch:=first|exact dI|fail) only[jU,h0,push_cast,seval]
  exact ap [] (by simp(maxSteps:=9^7) (disch:=first|exact dI|fail) only[push_cast,seval])
end
end Go.Proofs.YtamoeblcphjbaaaGreatDoor

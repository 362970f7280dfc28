/- A part of the proof for LiteralQuotesCardSaid. -/
import Derived.Test.YtamoeblcphjbaaaGreatDoorQuLP8
set_option maxRecDepth 100000
set_option linter.unusedVariables false
set_option linter.unusedSimpArgs false
-- many steps
namespace Go.Proofs.YtamoeblcphjbaaaGreatDoor
open Go Go.Ab
attribute [local irreducible] vc
theorem Iu {R:Rd}{i:Nat}{e:Int}(he:e≠0):OkR (aQ R i e):=fun h=>absurd h (bJ he)
section
variable {T:Nat}{p:PV}
theorem BZ (R:Rd)(t:List UInt8)(hR:OkR R):aL Tryz.prog (di T p) 1 132 [.ptr 0 0,.pv (.str t)] [rdB R] (.pv (.bool (lP R t).1)) [rdB (lP R t).2]:=by
 have h1:=ES (T:=T) (p:=p) R t
 have h2:=dC (T:=T) (p:=p) R hR
 unfold lP
 simp only[rdB,rdC] at h1 h2
 cases hi:isT R t with
 | true=>
   rw[hi] at h1
   rw[if_pos rfl]
   generalize tkP R.now=was at *
   refine aL.intro Cg (by simp[Oj]) ?_
   simp(maxSteps:=9^7) (disch:=first|exact dI|fail) only[Oj,rdB,rdC,push_cast,seval]
   refine ab.lentK h1 [0] rfl (by simp(maxSteps:=9^7) (disch:=first|exact dI|fail) only[push_cast,seval]) (by simp(maxSteps:=9^7) (disch:=first|exact dI|fail) only[push_cast,seval]) ?_
   simp(maxSteps:=9^7) (disch:=first|exact dI|fail) only[push_cast,seval]
   refine ab.lentK h2 [0] rfl (by simp(maxSteps:=9^7) (disch:=first|exact dI|fail) only[push_cast,seval]) (by simp(maxSteps:=9^7) (disch:=first|exact dI|fail) only[push_cast,seval]) ?_
   simp(maxSteps:=9^7) (disch:=first|exact dI|fail) only[push_cast,seval]
   exact ap [] (by simp(maxSteps:=9^7) (disch:=first|exact dI|fail) only[rdB,rdC,push_cast,seval])
 | false=>
   rw[hi] at h1
   rw[if_neg (by decide)]
   refine aL.intro Cg (by simp[Oj]) ?_
   simp(maxSteps:=9^7) (disch:=first|exact dI|fail) only[Oj,rdB,rdC,push_cast,seval]
   refine ab.lentK h1 [0] rfl (by simp(maxSteps:=9^7) (disch:=first|exact dI|fail) only[push_cast,seval]) (by simp(maxSteps:=9^7) (disch:=first|exact dI|fail) only[push_cast,seval]) ?_
   simp(maxSteps:=9^7) (disch:=first|exact dI|fail) only[push_cast,seval]
   exact ap [] (by simp(maxSteps:=9^7) (disch:=first|exact dI|fail) only[rdB,rdC,push_cast,seval])
theorem bw (R:Rd)(t:List UInt8)(hR:OkR R):aL Tryz.prog (di T p) 1 121 [.ptr 0 0,.pv (.str t)] [rdB R] (.pv (.tup [])) [rdB (aD R t)]:=by
 have h1:=BZ (T:=T) (p:=p) R t hR
 unfold aD
 by_cases h0:R.e=0
 ·have h0I:(R.e=0)=True:=eq_true h0
  rw[if_pos h0]
  unfold lP at h1
  simp only[rdB,rdC] at h1
  cases hi:isT R t with
  | true=>
    rw[hi,if_pos rfl] at h1
    rw[if_pos rfl]
    simp only at h1
    refine aL.intro qO (by simp[KN]) ?_
    simp(maxSteps:=9^7) (disch:=first|exact dI|fail) only[KN,rdB,rdC,h0I,push_cast,seval]
    refine ab.lentK h1 [0] rfl (by simp(maxSteps:=9^7) (disch:=first|exact dI|fail) only[push_cast,seval]) (by simp(maxSteps:=9^7) (disch:=first|exact dI|fail) only[push_cast,seval]) ?_
    simp(maxSteps:=9^7) (disch:=first|exact dI|fail) only[push_cast,seval]
    exact ap [] (by simp(maxSteps:=9^7) (disch:=first|exact dI|fail) only[rdB,rdC,push_cast,seval])
  | false=>
    rw[hi,if_neg (by decide)] at h1
    rw[if_neg (by decide)]
    have hf:=cl (T:=T) (p:=p) R R.now.pos 13
    simp only[rdB,rdC] at h1 hf
    refine aL.intro qO (by simp[KN]) ?_
    simp(maxSteps:=9^7) (disch:=first|exact dI|fail) only[KN,rdB,rdC,h0I,push_cast,seval]
    refine ab.lentK h1 [0] rfl (by simp(maxSteps:=9^7) (disch:=first|exact dI|fail) only[push_cast,seval]) (by simp(maxSteps:=9^7) (disch:=first|exact dI|fail) only[push_cast,seval]) ?_
    simp(maxSteps:=9^7) (disch:=first|exact dI|fail) only[push_cast,seval]
    refine ab.lentK hf [0] rfl (by simp(maxSteps:=9^7) (disch:=first|exact dI|fail) only[push_cast,seval]) (by simp(maxSteps:=9^7) (disch:=first|exact dI|fail) only[push_cast,seval]) ?_
    simp(maxSteps:=9^7) (disch:=first|exact dI|fail) only[push_cast,seval]
    exact ap [] (by simp(maxSteps:=9^7) (disch:=first|exact dI|fail) only[rdB,rdC,push_cast,seval])
 ·rw[if_neg h0]
  refine aL.intro qO (by simp[KN]) ?_
  simp(maxSteps:=9^7) (disch:=first|exact dI|fail) only[KN,rdB,rdC,h0,push_cast,seval]
  exact ap [] (by simp(maxSteps:=9^7) (disch:=first|exact dI|fail) only[rdB,rdC,push_cast,seval])
theorem w9 {R:Rd}{k:Int}(h:R.e=0)(hk:R.now.kind=k):e7 R k=(R.now,bi R):=by
 have e:(if R.e=0∧R.now.kind≠k then aQ R R.now.pos 13 else R)=R:=if_neg (fun q=>q.2 hk)
 unfold e7
 rw[e]
 exact if_pos h
theorem take_2 {R:Rd}{k:Int}(h:R.e=0)(hk:¬ R.now.kind=k):e7 R k=({},aQ R R.now.pos 13):=by
 have e:(if R.e=0∧R.now.kind≠k then aQ R R.now.pos 13 else R)=aQ R R.now.pos 13:=if_pos ⟨h,hk⟩
 unfold e7
 rw[e]
 exact if_neg (bJ (by decide))
theorem take_3 {R:Rd}{k:Int}(h:¬ R.e=0):e7 R k=({},R):=by
 have e:(if R.e=0∧R.now.kind≠k then aQ R R.now.pos 13 else R)=R:=if_neg (fun q=>h q.1)
 unfold e7
 rw[e]
 exact if_neg h
theorem xa (R:Rd)(k:Int)(hR:OkR R):aL Tryz.prog (di T p) 1 134 [.ptr 0 0,.pv (.int .i64 k)] [rdB R] (.pv (tkP (e7 R k).1)) [rdB (e7 R k).2]:=by
 by_cases h0:R.e=0
 ·have h0I:(R.e=0)=True:=eq_true h0
  by_cases hk:R.now.kind=k
  ·rw[w9 h0 hk]
   have hkI:(R.now.kind=k)=True:=eq_true hk
   have h2:=dC (T:=T) (p:=p) R hR
   simp only[rdB,rdC,tkP] at h2 ⊢
   refine aL.intro qL (by simp[KH]) ?_
   simp(maxSteps:=9^7) (disch:=first|exact dI|fail) only[KH,h0I,hkI,push_cast,seval]
   refine ab.lentK h2 [0] rfl (by simp(maxSteps:=9^7) (disch:=first|exact dI|fail) only[push_cast,seval]) (by simp(maxSteps:=9^7) (disch:=first|exact dI|fail) only[push_cast,seval]) ?_
   simp(maxSteps:=9^7) (disch:=first|exact dI|fail) only[push_cast,seval]
   exact ap [] (by simp(maxSteps:=9^7) (disch:=first|exact dI|fail) only[push_cast,seval])
  ·rw[take_2 h0 hk]
   have hf:=cl (T:=T) (p:=p) R R.now.pos 13
   have he:=bJ (R:=R) (i:=R.now.pos) (e:=13) (by decide)
   simp only[rdB,rdC,tkP] at hf ⊢
   refine aL.intro qL (by simp[KH]) ?_
   simp(maxSteps:=9^7) (disch:=first|exact dI|fail) only[KH,h0I,hk,push_cast,seval]
   refine ab.lentK hf [0] rfl (by simp(maxSteps:=9^7) (disch:=first|exact dI|fail) only[push_cast,seval]) (by simp(maxSteps:=9^7) (disch:=first|exact dI|fail) only[push_cast,seval]) ?_
   simp(maxSteps:=9^7) (disch:=first|exact dI|fail) only[he,push_cast,seval]
   exact ap [] (by simp(maxSteps:=9^7) (disch:=first|exact dI|fail) only[push_cast,seval])
 ·rw[take_3 h0]
  simp only[rdB,rdC,tkP]
  refine aL.intro qL (by simp[KH]) ?_
  simp(maxSteps:=9^7) (disch:=first|exact dI|fail) only[KH,h0,push_cast,seval]
  exact ap [] (by simp(maxSteps:=9^7) (disch:=first|exact dI|fail) only[push_cast,seval])
theorem zl (R:Rd)(hR:OkR R):aL Tryz.prog (di T p) 1 166 [.ptr 0 0] [rdB R] (.pv (.str (dz R).1)) [rdB (dz R).2]:=by
 have h1:=xa (T:=T) (p:=p) R 1 hR
 unfold dz
 generalize e7 R 1=Q at *
 obtain⟨t,L⟩:=Q
 simp only[rdB,rdC,tkP] at h1 ⊢
 by_cases h0:L.e=0
 ·have h0I:(L.e=0)=True:=eq_true h0
  have hn:=toE (T:=T) (p:=p) (k8 t.text)
  cases hb:db t.text with
  | true=>
    rw[hb] at hn
    rw[if_neg (fun q=>by cases q.2)]
    refine aL.intro qK (by simp[Kr]) ?_
    simp(maxSteps:=9^7) (disch:=first|exact dI|fail) only[Kr,push_cast,seval]
    refine ab.lentK h1 [0] rfl (by simp(maxSteps:=9^7) (disch:=first|exact dI|fail) only[push_cast,seval]) (by simp(maxSteps:=9^7) (disch:=first|exact dI|fail) only[push_cast,seval]) ?_
    simp(maxSteps:=9^7) (disch:=first|exact dI|fail) only[h0I,push_cast,seval]
    refine ab.pure hn rfl ?_
    simp(maxSteps:=9^7) (disch:=first|exact dI|fail) only[push_cast,seval]
    exact ap [] (by simp(maxSteps:=9^7) (disch:=first|exact dI|fail) only[push_cast,seval])
  | false=>
    rw[hb] at hn
    rw[if_pos ⟨h0,rfl⟩]
    have hf:=cl (T:=T) (p:=p) L t.pos 12
    simp only[rdB,rdC] at hf
    refine aL.intro qK (by simp[Kr]) ?_
    simp(maxSteps:=9^7) (disch:=first|exact dI|fail) only[Kr,push_cast,seval]
    refine ab.lentK h1 [0] rfl (by simp(maxSteps:=9^7) (disch:=first|exact dI|fail) only[push_cast,seval]) (by simp(maxSteps:=9^7) (disch:=first|exact dI|fail) only[push_cast,seval]) ?_
    simp(maxSteps:=9^7) (disch:=first|exact dI|fail) only[h0I,push_cast,seval]
    refine ab.pure hn rfl ?_
    simp(maxSteps:=9^7) (disch:=first|exact dI|fail) only[push_cast,seval]
    refine ab.lentK hf [0] rfl (by simp(maxSteps:=9^7) (disch:=first|exact dI|fail) only[push_cast,seval]) (by simp(maxSteps:=9^7) (disch:=first|exact dI|fail) only[push_cast,seval]) ?_
    simp(maxSteps:=9^7) (disch:=first|exact dI|fail) only[push_cast,seval]
    exact ap [] (by simp(maxSteps:=9^7) (disch:=first|exact dI|fail) only[push_cast,seval])
 ·rw[if_neg (fun q=>h0 q.1)]
  refine aL.intro qK (by simp[Kr]) ?_
  simp(maxSteps:=9^7) (disch:=first|exact dI|fail) only[Kr,push_cast,seval]
  refine ab.lentK h1 [0] rfl (by simp(maxSteps:=9^7) (disch:=first|exact dI|fail) only[push_cast,seval]) (by simp(maxSteps:=9^7) (disch:=first|exact dI|fail) only[push_cast,seval]) ?_
  simp(maxSteps:=9^7) (disch:=first|exact dI|fail) only[h0,push_cast,seval]
  exact ap [] (by simp(maxSteps:=9^7) (disch:=first|exact dI|fail) only[push_cast,seval])
theorem m9 (R:Rd)(hR:OkR R)(g:Nat)(ps:List UInt8→Int×Int)(hg:∀ s,aw Tryz.prog aF g [.str s] (.tup [.int .i64 (ps s).1,.int .i64 (ps s).2])):aL Tryz.prog (di T p) 1 127 [.ptr 0 0,.pv (.clo g [] [])] [rdB R] (.pv (.int .i64 (bT R ps).1)) [rdB (bT R ps).2]:=by
 have h1:=xa (T:=T) (p:=p) R 3 hR
 unfold bT
 generalize e7 R 3=Q at *
 obtain⟨t,L⟩:=Q
 simp only[rdB,rdC,tkP] at h1 ⊢
 by_cases h0:L.e=0
 ·have h0I:(L.e=0)=True:=eq_true h0
  rw[if_pos h0]
  have hn:=toE (T:=T) (p:=p) (hg t.bytes)
  generalize ps t.bytes=q at *
  obtain⟨n,e⟩:=q
  simp only at hn ⊢
  by_cases he:e=0
  ·subst he
   rw[if_pos rfl]
   refine aL.intro qN (by simp[KM]) ?_
   simp(maxSteps:=9^7) (disch:=first|exact dI|fail) only[KM,push_cast,seval]
   refine ab.lentK h1 [0] rfl (by simp(maxSteps:=9^7) (disch:=first|exact dI|fail) only[push_cast,seval]) (by simp(maxSteps:=9^7) (disch:=first|exact dI|fail) only[push_cast,seval]) ?_
   simp(maxSteps:=9^7) (disch:=first|exact dI|fail) only[h0I,push_cast,seval]
   refine ab.pure hn rfl ?_
   simp(maxSteps:=9^7) (disch:=first|exact dI|fail) only[push_cast,seval]
   exact ap [] (by simp(maxSteps:=9^7) (disch:=first|exact dI|fail) only[push_cast,seval])
  ·rw[if_neg he]
   have hf:=cl (T:=T) (p:=p) L t.pos e
   simp only[rdB,rdC] at hf
   refine aL.intro qN (by simp[KM]) ?_
   simp(maxSteps:=9^7) (disch:=first|exact dI|fail) only[KM,push_cast,seval]
   refine ab.lentK h1 [0] rfl (by simp(maxSteps:=9^7) (disch:=first|exact dI|fail) only[push_cast,seval]) (by simp(maxSteps:=9^7) (disch:=first|exact dI|fail) only[push_cast,seval]) ?_
   simp(maxSteps:=9^7) (disch:=first|exact dI|fail) only[h0I,push_cast,seval]
   refine ab.pure hn rfl ?_
   simp(maxSteps:=9^7) (disch:=first|exact dI|fail) only[he,push_cast,seval]
   refine ab.lentK hf [0] rfl (by simp(maxSteps:=9^7) (disch:=first|exact dI|fail) only[push_cast,seval]) (by simp(maxSteps:=9^7) (disch:=first|exact dI|fail) only[push_cast,seval]) ?_
   simp(maxSteps:=9^7) (disch:=first|exact dI|fail) only[push_cast,seval]
   exact ap [] (by simp(maxSteps:=9^7) (disch:=first|exact dI|fail) only[push_cast,seval])
 ·rw[if_neg h0]
  refine aL.intro qN (by simp[KM]) ?_
  simp(maxSteps:=9^7) (disch:=first|exact dI|fail) only[KM,push_cast,seval]
  refine ab.lentK h1 [0] rfl (by simp(maxSteps:=9^7) (disch:=first|exact dI|fail) only[push_cast,seval]) (by simp(maxSteps:=9^7) (disch:=first|exact dI|fail) only[push_cast,seval]) ?_
  simp(maxSteps:=9^7) (disch:=first|exact dI|fail) only[h0,push_cast,seval]
  exact ap [] (by simp(maxSteps:=9^7) (disch:=first|exact dI|fail) only[push_cast,seval])
theorem E9 (R:Rd):aL Tryz.prog (di T p) 1 47 [.ptr 0 0] [rdB R] (.pv (.tup [])) [rdB (jp R)]:=by
 unfold jp
 by_cases h0:R.e=0
 ·have h0I:(R.e=0)=True:=eq_true h0
  by_cases hk:R.now.kind=0
  ·have hkI:(R.now.kind=0)=True:=eq_true hk
   rw[if_neg (fun q=>q.2 hk)]
   refine aL.intro Ca (by simp[F47]) ?_
   simp(maxSteps:=9^7) (disch:=first|exact dI|fail) only[F47,rdB,rdC,h0I,hkI,push_cast,seval]
   exact ap [] (by simp(maxSteps:=9^7) (disch:=first|exact dI|fail) only[rdB,rdC,push_cast,seval])
  ·rw[if_pos ⟨h0,hk⟩]
   have hf:=cl (T:=T) (p:=p) R R.now.pos 13
   simp only[rdB,rdC] at hf
   refine aL.intro Ca (by simp[F47]) ?_
   simp(maxSteps:=9^7) (disch:=first|exact dI|fail) only[F47,rdB,rdC,h0I,hk,push_cast,seval]
   refine ab.lentK hf [0] rfl (by simp(maxSteps:=9^7) (disch:=first|exact dI|fail) only[push_cast,seval]) (by simp(maxSteps:=9^7) (disch:=first|exact dI|fail) only[push_cast,seval]) ?_
   simp(maxSteps:=9^7) (disch:=first|exact dI|fail) only[push_cast,seval]
   exact ap [] (by simp(maxSteps:=9^7) (disch:=first|exact dI|fail) only[rdB,rdC,push_cast,seval])
 ·rw[if_neg (fun q=>h0 q.1)]
  refine aL.intro Ca (by simp[F47]) ?_
  simp(maxSteps:=9^7) (disch:=first|exact dI|fail) only[F47,rdB,rdC,h0,push_cast,seval]
  exact ap [] (by simp(maxSteps:=9^7) (disch:=first|exact dI|fail) only[rdB,rdC,push_cast,seval])
def rd0 (s:List UInt8):Rd:=⟨s,0,{},0,0⟩
theorem iG {s:List UInt8}(h:65536<s.length):bY s=⟨s,0,{},5,0⟩:=by
 unfold bY
 simp only[if_pos h]
 rfl
theorem iF {s:List UInt8}(h:¬ 65536<s.length):bY s=bi (rd0 s):=by
 unfold bY
 simp only[if_neg h]
 rfl
theorem yZ {s:List UInt8}(h:s.length≤65536):OkR (rd0 s):=fun _=>⟨h,Nat.le_refl _,Nat.zero_le _,fun h=>absurd rfl h⟩
theorem rx (s:List UInt8):OkR (bY s):=by
 by_cases h:65536<s.length
 ·rw[iG h];intro h;exact absurd (show (5:Int)=0 from h) (by decide)
 ·rw[iF h];exact (GW (yZ (by omega))).1
theorem Hr (s:List UInt8):aL Tryz.prog (di T p) 0 45 [.pv (.str s)] [] (.ptr 0 0) [rdB (bY s)]:=by
 by_cases h:65536<s.length
 ·have hI:(65536:Int)<(s.length:Int):=by omega
  rw[iG h]
  have hf:=cl (T:=T) (p:=p) (rd0 s) 0 5
  have ha:=dC (T:=T) (p:=p) ⟨s,0,{},5,0⟩ (fun h=>absurd (show (5:Int)=0 from h) (by decide))
  rw[vV (by simp)] at ha
  rw[show aQ (rd0 s) 0 5=⟨s,0,{},5,0⟩ from rfl] at hf
  simp only[rdB,rdC,rd0,tkP] at hf ha ⊢
  refine aL.intro G0 (by simp[F45]) ?_
  simp(maxSteps:=9^7) (disch:=first|exact dI|fail) only[F45,hI,push_cast,seval]
  refine ab.lentK hf [0] rfl (by simp(maxSteps:=9^7) (disch:=first|exact dI|fail) only[push_cast,seval]) (by simp(maxSteps:=9^7) (disch:=first|exact dI|fail) only[push_cast,seval]) ?_
  simp(maxSteps:=9^7) (disch:=first|exact dI|fail) only[push_cast,seval]
  refine ab.lentK ha [0] rfl (by simp(maxSteps:=9^7) (disch:=first|exact dI|fail) only[push_cast,seval]) (by simp(maxSteps:=9^7) (disch:=first|exact dI|fail) only[push_cast,seval]) ?_
  simp(maxSteps:=9^7) (disch:=first|exact dI|fail) only[push_cast,seval]
  exact ap [] (by simp(maxSteps:=9^7) (disch:=first|exact dI|fail) only[push_cast,seval])
 ·have hI:¬ (65536:Int)<(s.length:Int):=by omega
  rw[iF h]
  have ha:=dC (T:=T) (p:=p) (rd0 s) (yZ (by omega))
  generalize bi (rd0 s)=L at *
  simp only[rdB,rdC,rd0,tkP] at ha ⊢
  refine aL.intro G0 (by simp[F45]) ?_
  simp(maxSteps:=9^7) (disch:=first|exact dI|fail) only[F45,hI,push_cast,seval]
  refine ab.lentK ha [0] rfl (by simp(maxSteps:=9^7) (disch:=first|exact dI|fail) only[push_cast,seval]) (by simp(maxSteps:=9^7) (disch:=first|exact dI|fail) only[push_cast,seval]) ?_
  simp(maxSteps:=9^7) (disch:=first|exact dI|fail) only[push_cast,seval]
  exact ap [] (by simp(maxSteps:=9^7) (disch:=first|exact dI|fail) only[push_cast,seval])
end
end Go.Proofs.YtamoeblcphjbaaaGreatDoor

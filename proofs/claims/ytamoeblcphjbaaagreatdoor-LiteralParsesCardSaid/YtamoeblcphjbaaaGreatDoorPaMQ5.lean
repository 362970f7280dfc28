/- A part of the proof. -/
import Derived.Test.YtamoeblcphjbaaaGreatDoorPaMQ3
import Derived.Test.YtamoeblcphjbaaaGreatDoorPaMQ13
import Derived.Test.YtamoeblcphjbaaaGreatDoorPaMQ10
set_option maxHeartbeats 16000000
set_option maxRecDepth 100000
set_option linter.unusedVariables false
set_option linter.unusedSimpArgs false
-- many steps
namespace Go.Proofs.YtamoeblcphjbaaaGreatDoor
open Go Go.Ab
attribute [local irreducible] vc
section
variable {T:Nat}{p:PV}{Q:AExit→St→Prop}
def RG (M:Mo):Mo:={ M with nx:=aK aC M.s M.nx,k:=0,p:=aK aC M.s M.nx,x:=[],v:=[] }
theorem Jl {M:Mo}{c:UInt8}(h0:M.e=0)(hc:M.s[aK aC M.s M.nx]? = some c):nextM M=kr (g9 (rM (RG M) (aK aC M.s M.nx) c) (aK aC M.s M.nx)) (aK aC M.s M.nx):=by
 unfold nextM
 rw[hc]
 simp only
 rw[if_pos h0]
 rfl
theorem Jn {M:Mo}(h:¬ M.e=0∨M.s[aK aC M.s M.nx]? = none):nextM M=RG M:=by
 unfold nextM
 cases hc:M.s[aK aC M.s M.nx]? with
 | none=>rfl
 | some c=>
   rcases h with h | h
   ·simp only;rw[if_neg h];rfl
   ·rw[hc] at h;cases h
theorem zz (M:Mo)(a:Nat)(v:Bool)(Z:Sc):(cZ M a v Z).2.k=M.k∧(cZ M a v Z).2.s=M.s:=by
 rcases zD M a v Z with h | ⟨e,i,h⟩
 ·rw[h];exact⟨rfl,rfl⟩
 ·rw[h,JX,bw];exact⟨rfl,rfl⟩
theorem Rc (M:Mo)(i:Nat)(c:UInt8)(hc:M.s[i]? = some c)(hs:M.s.length≤65536)(hk:M.k=0)(h0:M.e=0)(hQ:SL Q (moB (kr (g9 (rM M i c) i) i)))(n0:Nat)(hn:¬ n0=0) :
  vc Tryz.prog (bG T p) 1 KI (xC (vc Tryz.prog (bG T p) 1 GA Q) Q) ⟨[(0,.ptr 0 0),(2,.pv (.int .i64 (i:Int))),(3,.pv (.int .u8 (c.toNat:Int))),(4,.pv (.int .i64 ((i:Int)+1)))],[(0,moB M)],n0⟩:=by
 have hi:i<M.s.length:=(List.getElem?_eq_some_iff.1 hc).1
 have hends:=A5 (M:=M) hc
 unfold rM at hQ hends
 have e0:(i:Int)+1=((i+1:Nat):Int):=by omega
 unfold KI
 by_cases h1:c.toNat=34
 ·have hI:((c.toNat:Int)=34)=True:=eq_true (by omega)
  rw[if_pos h1] at hQ hends
  have hst:=MO (T:=T) (p:=p) { M with k:=115 } i hs hi
  have hkk:=zz { M with k:=115 } i true (ir (M.s.length+1) (M.s.drop (i+1)) (i+1) [])
  change (C9 { M with k:=115 } i).2.k=115∧(C9 { M with k:=115 } i).2.s=M.s at hkk
  generalize C9 { M with k:=115 } i=q at *
  obtain⟨⟨o,j⟩,N⟩:=q
  simp only at hst hkk hends hQ
  have ht:=lP (T:=T) (p:=p) (Q:=Q) { N with v:=o } i j hends.1 (by rw[hkk.2];exact hends.2.1) (by rw[hkk.2];exact hs) [] hQ
  simp only[moB,moC,Int.cast_ofNat_Int,Int.natCast_add] at hst ht ⊢
  simp(disch:=try exact dI) only[hI,push_cast,seval]
  refine ab.lentK hst [0] rfl qsZ qsZ ?_
  refine zgZ ?_
  exact ht _
 have hI:¬ (c.toNat:Int)=34:=by omega
 rw[if_neg h1] at hQ hends
 have hl:=toE (T:=T) (p:=p) (px c)
 have hd:=toE (T:=T) (p:=p) (dO c)
 by_cases h2:c.toNat=120∧M.s[i+1]? = some 34
 ·obtain⟨g1,g2⟩:=h2
  have hI2:((c.toNat:Int)=120)=True:=eq_true (by omega)
  have hi1:i+1<M.s.length:=(List.getElem?_eq_some_iff.1 g2).1
  have hi1I:(i:Int)+1<(M.s.length:Int):=by omega
  have h34:((34:UInt8).toNat:Int)=34:=rfl
  rw[if_pos ⟨g1,g2⟩] at hQ hends
  have hst:=Gd (T:=T) (p:=p) { M with k:=120 } i hs (show i+2≤M.s.length by omega)
  have hkk:=zz { M with k:=120 } i false (en (M.s.drop (i+2)) (i+2) none [])
  change (Dd { M with k:=120 } i).2.k=120∧(Dd { M with k:=120 } i).2.s=M.s at hkk
  generalize Dd { M with k:=120 } i=q at *
  obtain⟨⟨o,j⟩,N⟩:=q
  simp only at hst hkk hends hQ
  have ht:=lP (T:=T) (p:=p) (Q:=Q) { N with v:=o } i j hends.1 (by rw[hkk.2];exact hends.2.1) (by rw[hkk.2];exact hs) [] hQ
  simp only[moB,moC,Int.cast_ofNat_Int,Int.natCast_add] at hst ht ⊢
  simp(disch:=try exact dI) only[hI,hI2,hi1I,g2,ae,h34,push_cast,seval]
  refine ab.lentK hst [0] rfl qsZ qsZ ?_
  refine zgZ ?_
  exact ht _
 rw[if_neg h2] at hQ hends
 have hx:(∃ b:Bool,decide ((c.toNat:Int)=120)=b∧(b=true→(i+1<M.s.length→∃ d,M.s[i+1]? = some d∧¬ (d.toNat:Int)=34))):=by
  refine⟨_,rfl,fun hb hl=>?_⟩
  have hb':c.toNat=120:=by have:=of_decide_eq_true hb;omega
  obtain⟨d,hd⟩:∃ d,M.s[i+1]? = some d:=⟨_,List.getElem?_eq_getElem hl⟩
  refine⟨d,hd,fun q=>h2 ⟨hb',?_⟩⟩
  rw[hd,UInt8.toNat_inj.1 (show d.toNat=(34:UInt8).toNat by have:(34:UInt8).toNat=34:=rfl;omega)]
 by_cases h3:aJ c=true
 ·rw[if_pos h3] at hQ hends
  rw[h3] at hl
  simp only at hends hQ
  have ht:=fun X=>lP (T:=T) (p:=p) (Q:=Q) { M with k:=119 } i (aK bM M.s (i+1)) hends.1 hends.2.1 hs X hQ
  have hw:=fun (K:AExit→St→Prop) (X:List (Nat×AV)) h=>Mr (T:=T) (p:=p) (Q:=K) M i (i+1) (.pv (.int .u8 (c.toNat:Int))) (by omega) hs X h
  simp only[moB,moC,Int.cast_ofNat_Int,Int.natCast_add] at hw ht ⊢
  by_cases hc2:c.toNat=120
  ·have hI2:((c.toNat:Int)=120)=True:=eq_true (by omega)
   by_cases hi1:i+1<M.s.length
   ·have hi1I:(i:Int)+1<(M.s.length:Int):=by omega
    obtain⟨b,hb,hbb⟩:=hx
    obtain⟨d,hd1,hd2⟩:=hbb (by rw[← hb];exact decide_eq_true (by omega)) hi1
    simp(disch:=try exact dI) only[hI,hI2,hi1I,hd1,ae,hd2,push_cast,seval]
    refine ab.pure hl rfl ?_
    refine zgZ ?_
    refine hw _ _ (fun n=>?_) _
    refine zgZ ?_
    exact ht [] _
   ·have hi1I:¬ (i:Int)+1<(M.s.length:Int):=by omega
    simp(disch:=try exact dI) only[hI,hI2,hi1I,push_cast,seval]
    refine ab.pure hl rfl ?_
    refine zgZ ?_
    refine hw _ _ (fun n=>?_) _
    refine zgZ ?_
    exact ht [] _
  ·have hI2:¬ (c.toNat:Int)=120:=by omega
   simp(disch:=try exact dI) only[hI,hI2,push_cast,seval]
   refine ab.pure hl rfl ?_
   refine zgZ ?_
   refine hw _ _ (fun n=>?_) _
   refine zgZ ?_
   exact ht [] _
 rw[if_neg h3] at hQ hends
 have h3f:aJ c=false:=by simpa using h3
 have hI2:¬ (c.toNat:Int)=120:=fun h=>by
  have:c=120:=UInt8.toNat_inj.1 (show c.toNat=120 by omega)
  subst this
  exact absurd h3f (by decide)
 rw[h3f] at hl
 by_cases h4:isD c=true∨(c.toNat=45∧(M.s[i+1]?.any isD)=true)
 ·rw[if_pos h4] at hQ hends
  simp only at hends hQ
  have ht:=fun X=>lP (T:=T) (p:=p) (Q:=Q) { M with k:=110 } i (ma M.s (aK isD M.s (i+1))).1 hends.1 hends.2.1 hs X hQ
  have hw:=fun (K:AExit→St→Prop) (X:List (Nat×AV)) h=>QZ (T:=T) (p:=p) (Q:=K) M i (i+1) (.pv (.int .u8 (c.toNat:Int))) (by omega) hs X h
  simp only[moB,moC,Int.cast_ofNat_Int,Int.natCast_add] at hw ht ⊢
  by_cases h5:isD c=true
  ·rw[h5] at hd
   simp(disch:=try exact dI) only[hI,hI2,push_cast,seval]
   refine ab.pure hl rfl ?_
   refine zgZ ?_
   refine ab.pure hd rfl ?_
   refine zgZ ?_
   refine hw _ _ (fun n=>?_) _
   refine zgZ ?_
   exact ht [] _
  ·have h5f:isD c=false:=by simpa using h5
   obtain⟨g1,g2⟩:=h4.resolve_left h5
   have hI45:((c.toNat:Int)=45)=True:=eq_true (by omega)
   rw[h5f] at hd
   cases hb:M.s[i+1]? with
   | none=>rw[hb] at g2;cases g2
   | some b=>
     rw[hb] at g2
     have hi1:i+1<M.s.length:=(List.getElem?_eq_some_iff.1 hb).1
     have hi1I:(i:Int)+1<(M.s.length:Int):=by omega
     have hd2:=toE (T:=T) (p:=p) (dO b)
     rw[show isD b=true from g2] at hd2
     simp(disch:=try exact dI) only[hI,hI2,push_cast,seval]
     refine ab.pure hl rfl ?_
     refine zgZ ?_
     refine ab.pure hd rfl ?_
     simp(disch:=try exact dI) only[hI45,hi1I,hb,ae,push_cast,seval]
     refine ab.pure hd2 rfl ?_
     refine zgZ ?_
     refine hw _ _ (fun n=>?_) _
     refine zgZ ?_
     exact ht [] _
 rw[if_neg h4] at hQ hends
 have h5f:isD c=false:=by
  cases h:isD c with
  | false=>rfl
  | true=>exact absurd (.inl h) h4
 rw[h5f] at hd
 have key:∀ (F:Prop),(decide ((c.toNat:Int)=45)=false→F)→(c.toNat=45→¬ i+1<M.s.length→F)→(c.toNat=45→∀ b,M.s[i+1]? = some b→isD b=false→F)→F:=by
  intro F f1 f2 f3
  by_cases h45:c.toNat=45
  ·by_cases hi1:i+1<M.s.length
   ·obtain⟨b,hb⟩:∃ b,M.s[i+1]? = some b:=⟨_,List.getElem?_eq_getElem hi1⟩
    refine f3 h45 b hb ?_
    cases hD:isD b with
    | false=>rfl
    | true=>exact absurd (.inr ⟨h45,by rw[hb];exact hD⟩) h4
   ·exact f2 h45 hi1
  ·exact f1 (decide_eq_false (by omega))
 by_cases h6:c.toNat=46∧M.s[i+1]? = some 46
 ·obtain⟨g1,g2⟩:=h6
  rw[if_pos ⟨g1,g2⟩] at hQ hends
  simp only at hends hQ
  have hi1:i+1<M.s.length:=(List.getElem?_eq_some_iff.1 g2).1
  have hi1I:(i:Int)+1<(M.s.length:Int):=by omega
  have h46:((46:UInt8).toNat:Int)=46:=rfl
  have hI45:¬ (c.toNat:Int)=45:=by omega
  have hI46:((c.toNat:Int)=46)=True:=eq_true (by omega)
  have ht:=lP (T:=T) (p:=p) (Q:=Q) { M with k:=46 } i (i+2) hends.1 hends.2.1 hs [] hQ
  simp only[moB,moC,Int.cast_ofNat_Int,Int.natCast_add] at ht ⊢
  simp(disch:=try exact dI) only[hI,hI2,push_cast,seval]
  refine ab.pure hl rfl ?_
  refine zgZ ?_
  refine ab.pure hd rfl ?_
  simp(disch:=try exact dI) only[hI45,hI46,hi1I,g2,ae,h46,push_cast,seval]
  exact ht _
 rw[if_neg h6] at hQ hends
 have ht:=fun X=>lP (T:=T) (p:=p) (Q:=Q) (if lq c=true then { M with k:=c.toNat } else aU M 13 i) i (i+1) (by omega) (by
  split
  ·exact hi
  ·rw[bw];exact hi) (by
  split
  ·exact hs
  ·rw[bw];exact hs) X (by
  by_cases hb:lq c=true
  ·rw[if_pos hb] at hQ ⊢;exact hQ
  ·rw[if_neg hb] at hQ ⊢;exact hQ)
 have hw:=fun (K:AExit→St→Prop) (X:List (Nat×AV)) h=>QD (T:=T) (p:=p) (Q:=K) M i (i+1) c hk h0 X h
 simp only[Int.cast_ofNat_Int,Int.natCast_add] at ht
 generalize hR:moB (if lq c=true then { M with k:=c.toNat } else aU M 13 i)=B at *
 simp only[moB,moC,Int.cast_ofNat_Int,Int.natCast_add] at hw ⊢
 have key2:∀ (F:Prop),(decide ((c.toNat:Int)=46)=false→F)→(c.toNat=46→¬ i+1<M.s.length→F)→(c.toNat=46→∀ b,M.s[i+1]? = some b→¬ (b.toNat:Int)=46→F)→F:=by
  intro F f1 f2 f3
  by_cases h46:c.toNat=46
  ·by_cases hi1:i+1<M.s.length
   ·obtain⟨b,hb⟩:∃ b,M.s[i+1]? = some b:=⟨_,List.getElem?_eq_getElem hi1⟩
    refine f3 h46 b hb fun q=>h6 ⟨h46,?_⟩
    rw[hb,UInt8.toNat_inj.1 (show b.toNat=(46:UInt8).toNat by have:(46:UInt8).toNat=46:=rfl;omega)]
   ·exact f2 h46 hi1
  ·exact f1 (decide_eq_false (by omega))
 refine key _ (fun k45=>?_) (fun k45 hi1=>?_) (fun k45 b hb hD=>?_)
 ·have hI45:¬ (c.toNat:Int)=45:=of_decide_eq_false k45
  refine key2 _ (fun k46=>?_) (fun k46 hi1=>?_) (fun k46 b hb hD=>?_)
  ·have hI46:¬ (c.toNat:Int)=46:=of_decide_eq_false k46
   simp(disch:=try exact dI) only[hI,hI2,push_cast,seval]
   refine ab.pure hl rfl ?_
   refine zgZ ?_
   refine ab.pure hd rfl ?_
   simp(disch:=try exact dI) only[hI45,hI46,push_cast,seval]
   refine hw _ _ (fun X n=>?_) _ (by omega)
   refine zgZ ?_
   exact ht _ _
  ·have hI46:((c.toNat:Int)=46)=True:=eq_true (by omega)
   have hi1I:¬ (i:Int)+1<(M.s.length:Int):=by omega
   simp(disch:=try exact dI) only[hI,hI2,push_cast,seval]
   refine ab.pure hl rfl ?_
   refine zgZ ?_
   refine ab.pure hd rfl ?_
   simp(disch:=try exact dI) only[hI45,hI46,hi1I,push_cast,seval]
   refine hw _ _ (fun X n=>?_) _ (by omega)
   refine zgZ ?_
   exact ht _ _
  ·have hI46:((c.toNat:Int)=46)=True:=eq_true (by omega)
   have hi1:i+1<M.s.length:=(List.getElem?_eq_some_iff.1 hb).1
   have hi1I:(i:Int)+1<(M.s.length:Int):=by omega
   simp(disch:=try exact dI) only[hI,hI2,push_cast,seval]
   refine ab.pure hl rfl ?_
   refine zgZ ?_
   refine ab.pure hd rfl ?_
   simp(disch:=try exact dI) only[hI45,hI46,hi1I,hb,ae,hD,push_cast,seval]
   refine hw _ _ (fun X n=>?_) _ (by omega)
   refine zgZ ?_
   exact ht _ _
 ·have hI45:((c.toNat:Int)=45)=True:=eq_true (by omega)
  have hI46:¬ (c.toNat:Int)=46:=by omega
  have hi1I:¬ (i:Int)+1<(M.s.length:Int):=by omega
  simp(disch:=try exact dI) only[hI,hI2,push_cast,seval]
  refine ab.pure hl rfl ?_
  refine zgZ ?_
  refine ab.pure hd rfl ?_
  simp(disch:=try exact dI) only[hI45,hi1I,hI46,push_cast,seval]
  refine hw _ _ (fun X n=>?_) _ (by omega)
  refine zgZ ?_
  exact ht _ _
 ·have hI45:((c.toNat:Int)=45)=True:=eq_true (by omega)
  have hI46:¬ (c.toNat:Int)=46:=by omega
  have hi1:i+1<M.s.length:=(List.getElem?_eq_some_iff.1 hb).1
  have hi1I:(i:Int)+1<(M.s.length:Int):=by omega
  have hd2:=toE (T:=T) (p:=p) (dO b)
  rw[hD] at hd2
  simp(disch:=try exact dI) only[hI,hI2,push_cast,seval]
  refine ab.pure hl rfl ?_
  refine zgZ ?_
  refine ab.pure hd rfl ?_
  simp(disch:=try exact dI) only[hI45,hi1I,hb,ae,push_cast,seval]
  refine ab.pure hd2 rfl ?_
  simp(disch:=try exact dI) only[hI46,push_cast,seval]
  refine hw _ _ (fun X n=>?_) _ (by omega)
  refine zgZ ?_
  exact ht _ _
theorem G7 (M:Mo)(hM:CQ M):aF Tryz.prog (bG T p) 1 53 [.ptr 0 0] [moB M] (.pv (.tup [])) [moB (nextM M)]:=by
 obtain⟨hs,hn⟩:=hM
 have hwm:=bq (q:=aC) hn
 have hnc:=fun c=>Jl (M:=M) (c:=c)
 have hn0:=Jn (M:=M)
 have hclr:RG M = { M with nx:=aK aC M.s M.nx,k:=0,p:=aK aC M.s M.nx,x:=[],v:=[] }:=rfl
 obtain⟨w,hw⟩:∃ w,w=aK aC M.s M.nx:=⟨_,rfl⟩
 rw[← hw] at hnc hn0 hclr hwm
 refine aF.intro PE (by simp[F53]) ?_
 simp only[F53]
 generalize nextM M=MX at *
 simp only[moB,moC]
 refine zgZ ?_
 refine f7 ([]) (fun _:Nat=>[]) (fun y=>[(0,.cells 95 true [.pv (.str M.s),.pv (.int .i64 (y:Int)),.pv (.int .u8 (M.k:Int)),.pv (.int .i64 (M.p:Int)),.pv (.str M.x),.pv (.str M.v),.pv (.int .i64 M.e),.pv (.int .i64 (M.bad:Int))])]) (fun y=>y≤M.s.length∧aK aC M.s y=w) (fun y=>M.s.length - y) (M.nx) ([0]) (fun y=>y=w) ?_;intro e0 σ0 n0 h0;simp(disch:=try exact dI) only[push_cast,seval] at h0;obtain⟨rfl,rfl,rfl⟩:=h0;refine⟨?_,?_,?_,?_⟩
 ·exact qsZ
 ·exact⟨hn,hw.symm⟩
 ·rintro y ⟨hy,hyw⟩
  by_cases hlt:y<M.s.length
  ·obtain⟨b,hb⟩:∃ b,M.s[y]? = some b:=⟨_,List.getElem?_eq_getElem hlt⟩
   have hltI:(y:Int)<(M.s.length:Int):=by omega
   rw[fg hb] at hyw
   by_cases hB:aC b=true
   ·rw[if_pos hB] at hyw
    have hc:b.toNat=32∨b.toNat=9∨b.toNat=13∨b.toNat=10:=by
     simpa[aC,or_assoc] using hB
    rcases hc with hc | hc | hc | hc
    ·have a1:((b.toNat:Int)=32)=True:=eq_true (by omega)
     simp(disch:=try exact dI) only[sx,hltI,hb,ae,a1,push_cast,seval]
     exact⟨y+1,bz qsZ,⟨by omega,hyw⟩,by omega⟩
    ·have a1:¬ (b.toNat:Int)=32:=by omega
     have a2:((b.toNat:Int)=9)=True:=eq_true (by omega)
     simp(disch:=try exact dI) only[sx,hltI,hb,ae,a1,a2,push_cast,seval]
     exact⟨y+1,bz qsZ,⟨by omega,hyw⟩,by omega⟩
    ·have a1:¬ (b.toNat:Int)=32:=by omega
     have a2:¬ (b.toNat:Int)=9:=by omega
     have a3:¬ (b.toNat:Int)=10:=by omega
     have a4:((b.toNat:Int)=13)=True:=eq_true (by omega)
     simp(disch:=try exact dI) only[sx,hltI,hb,ae,a1,a2,a3,a4,push_cast,seval]
     exact⟨y+1,bz qsZ,⟨by omega,hyw⟩,by omega⟩
    ·have a1:¬ (b.toNat:Int)=32:=by omega
     have a2:¬ (b.toNat:Int)=9:=by omega
     have a3:((b.toNat:Int)=10)=True:=eq_true (by omega)
     simp(disch:=try exact dI) only[sx,hltI,hb,ae,a1,a2,a3,push_cast,seval]
     exact⟨y+1,bz qsZ,⟨by omega,hyw⟩,by omega⟩
   ·rw[if_neg hB] at hyw
    have hc:¬ b.toNat=32∧¬ b.toNat=9∧¬ b.toNat=13∧¬ b.toNat=10:=by
     simpa[aC,not_or,and_assoc] using hB
    have a1:¬ (b.toNat:Int)=32:=by omega
    have a2:¬ (b.toNat:Int)=9:=by omega
    have a3:¬ (b.toNat:Int)=10:=by omega
    have a4:¬ (b.toNat:Int)=13:=by omega
    simp(disch:=try exact dI) only[sx,hltI,hb,ae,a1,a2,a3,a4,push_cast,seval]
    exact⟨y,hyw,qsZ⟩
  ·have hltI:¬ (y:Int)<(M.s.length:Int):=by omega
   rw[iy (by omega)] at hyw
   simp(disch:=try exact dI) only[sx,hltI,push_cast,seval]
   exact⟨y,hyw,qsZ⟩
 intro y hy s1 hs1;simp(disch:=try exact dI) only[push_cast,seval] at hs1;subst hs1
 subst hy
 by_cases hlt:y<M.s.length
 ·have hltI:(y:Int)<(M.s.length:Int):=by omega
  have hgeI:¬ (M.s.length:Int)≤(y:Int):=by omega
  obtain⟨c,hc⟩:∃ c,M.s[y]? = some c:=⟨_,List.getElem?_eq_getElem hlt⟩
  by_cases h0:M.e=0
  ·have h0I:(M.e=0)=True:=eq_true h0
   rw[hnc c h0 hc,hclr]
   have hlx:=fun (Q:AExit→St→Prop) h=>Rc (T:=T) (p:=p) (Q:=Q) { M with nx:=y,k:=0,p:=y,x:=[],v:=[] } y c hc hs rfl h0 h
   generalize kr (g9 (rM { M with nx:=y,k:=0,p:=y,x:=[],v:=[] } y c) y) y=N at *
   simp only[moB,moC,Int.cast_ofNat_Int,Int.natCast_add] at hlx ⊢
   simp(disch:=try exact dI) only[hgeI,h0I,hltI,hc,ae,push_cast,seval]
   refine hlx _ ⟨fun e n=>?_,fun e n m c hm=>?_,fun e n m c hm=>?_⟩ _ (by omega)
   ·refine zgZ ?_
    exact am [] qsZ
   ·refine zgZ ?_
    exact am [] (by simp(disch:=try exact dI) only[hm,push_cast,seval])
   ·refine zgZ ?_
    exact am [] (by simp(disch:=try exact dI) only[hm,push_cast,seval])
  ·rw[hn0 (.inl h0),hclr]
   simp only[moB,moC]
   simp(disch:=try exact dI) only[hgeI,h0,push_cast,seval]
   exact am [] qsZ
 ·have hgeI:(M.s.length:Int)≤(y:Int):=by omega
  rw[hn0 (.inr (List.getElem?_eq_none (by omega))),hclr]
  simp only[moB,moC]
  simp(disch:=try exact dI) only[hgeI,push_cast,seval]
  exact am [] qsZ
end
end Go.Proofs.YtamoeblcphjbaaaGreatDoor
-- many steps
namespace Go.Proofs.YtamoeblcphjbaaaGreatDoor
open Go Go.Ab
attribute [local irreducible] vc
def mo0 (s:List UInt8):Mo:={ s:=s,nx:=0 }
def BJ (s:List UInt8)(M:Mo):Mo:=if M.e=0∧M.p<s.length then aU M 13 M.p else M
theorem Id {s:List UInt8}{M:Mo}{R:Rd}(hM:OkM M)(hs:M.s=s)(h:Sim M R):Sim (BJ s M) (cK R):=by
 unfold BJ cK
 by_cases h0:R.e=0
 ·obtain⟨a,b,d⟩:=j2 h h0
  obtain⟨g1,g2,g3,g4⟩:=hM.2.2 a
  have hn:=hM.1.2
  by_cases hk:M.k=0
  ·have hp:=g4 hk
   rw[if_neg (fun q=>by have:=q.2;rw[hp,hs] at this;omega),if_neg (fun q=>q.2 ((sW d).1 hk))]
   exact h
  ·have hp:=g2 hk
   rw[if_pos ⟨a,by rw[← hs];omega⟩,if_pos ⟨h0,fun q=>hk ((sW d).2 q)⟩,d.1]
   exact bR (by decide) h
 ·rw[if_neg (fun q=>h0 ((gH h).1 q.1)),if_neg (fun q=>h0 q.1)]
  exact h
section
variable {T:Nat}{p:PV}
theorem nextC (T:Nat)(p:PV):jw T p:=fun M h=>G7 M h
theorem I4 (s:List UInt8)(hsl:s.length≤65536):au Tryz.prog (bG T p) 24 [.str s] (.tup [(fp s).1.pv,.int .i64 (fp s).2.1,.int .i64 (fp s).2.2]):=by
 have hM0:CQ (mo0 s):=⟨hsl,Nat.zero_le _⟩
 have hn:=G7 (T:=T) (p:=p) (mo0 s) hM0
 have hM1:=m6 hM0
 have hM1s:(nextM (mo0 s)).s=s:=iH _
 have hv:=xS (nextC T p) s hsl 8 0 rfl (nextM (mo0 s)) hM1 hM1s
 have hst:=(gD s 8 0 (nextM (mo0 s)) hM1 hM1s).1
 have hS1:Sim (nextM (mo0 s)) (bj s):=by
  rw[iv (by omega)]
  exact ff (tG hsl) rfl rfl rfl rfl
 obtain⟨k1,k2⟩:=ou s hsl 8 0 (nextM (mo0 s)) (bj s) hM1 (jC s) (gO s) (mS s) hS1
 have hok:=(ob s hsl 8 0 (bj s) (jC s) (gO s) (mS s)).1
 have hoff:(cK (aG srt 8 0 (bj s)).2).e=0→(cK (aG srt 8 0 (bj s)).2).off=0:=by
  have h1:Off (rd0 s) (bj s):=by rw[iv (by omega)];exact dx _
  have h2:=h1.trans (oW srt 8 0 (bj s))
  have h3:Off (aG srt 8 0 (bj s)).2 (cK (aG srt 8 0 (bj s)).2):=by
   unfold cK
   split
   ·exact bJ (by decide)
   ·exact .refl _
  exact fun q=>((h2.trans h3) q).2
 have hfin:=Id hst.1 (hst.2.1.trans hM1s) k1
 have hmono:(cK (aG srt 8 0 (bj s)).2).e=0→(aG srt 8 0 (bj s)).2.e=0:=by
  intro q
  unfold cK at q
  split at q
  ·rename_i h;exact h.1
  ·exact q
 unfold fp
 generalize aG srt 8 0 (bj s)=w at *
 obtain⟨u,R1⟩:=w
 simp only at k1 k2 hok hoff hfin hmono ⊢
 generalize dt 8 0 (nextM (mo0 s))=q at *
 obtain⟨v,M2⟩:=q
 simp only at hv k1 k2 hfin
 have hf:=dC (T:=T) (p:=p) M2 M2.p 13
 have h16:=toE (T:=T) (p:=p) (rr u)
 have h15:=toE (T:=T) (p:=p) (Cg u hok)
 have hm0:moB (mo0 s) = .cells 95 true [.pv (.str s),.pv (.int .i64 0),.pv (.int .u8 0),.pv (.int .i64 0),.pv (.str []),.pv (.str []),.pv (.int .i64 0),.pv (.int .i64 0)]:=rfl
 rw[hm0] at hn
 generalize nextM (mo0 s)=M1 at *
 unfold Qi
 generalize cK R1=R2 at *
 generalize OL u=c at *
 generalize dh u=b at *
 by_cases hR:R2.e=0
 ·-- no error
  have huv:v=u:=k2 (hmono hR)
  subst huv
  have hof:=hoff hR
  have hM2:BJ s M2=M2:=by
   unfold BJ
   refine if_neg fun q=>?_
   have:=(gH hfin).2 hR
   unfold BJ at this
   rw[if_pos q] at this
   exact dB (by decide) this
  have he0:M2.e=0:=by rw[← hM2];exact (gH hfin).2 hR
  have heI:(M2.e=0)=True:=eq_true he0
  have hpl:¬ (M2.p:Int)<(s.length:Int):=by
   intro q
   have:BJ s M2=aU M2 13 M2.p:=if_pos ⟨he0,by omega⟩
   rw[hM2] at this
   rw[this] at he0
   exact dB (by decide) he0
  rw[if_pos hR,hof]
  obtain⟨w1,w2,w3,w4,w5,w6⟩:=v
  simp only[moB,moC,Val.pv_mk] at hn hv hf h15 h16
  by_cases hc:c=0
  ·have hcI:(c=0)=True:=eq_true hc
   have e2:(if b=true then ((Val.mk w1 w2 w3 w4 w5 w6),(0:Int),(0:Int)) else if c=0 then (.mk w1 w2 w3 w4 w5 w6,0,0) else (aH,((0:Nat):Int),c))=(.mk w1 w2 w3 w4 w5 w6,0,0):=by
    rw[if_pos hc];cases b<;>rfl
   rw[e2]
   simp only[Val.pv_mk]
   refine au.intro qp (by simp[F24]) ?_
   simp(disch:=try exact dI) only[F24,push_cast,seval]
   refine ab.lentK hn [1] rfl qsZ qsZ ?_
   refine zgZ ?_
   refine ab.lentK hv [1] rfl qsZ qsZ ?_
   simp(disch:=try exact dI) only[heI,hpl,push_cast,seval]
   refine ab.pure h15 rfl ?_
   simp(disch:=try exact dI) only[hcI,push_cast,seval]
  ·cases b with
   | true=>
     rw[if_pos rfl]
     simp only[Val.pv_mk]
     refine au.intro qp (by simp[F24]) ?_
     simp(disch:=try exact dI) only[F24,push_cast,seval]
     refine ab.lentK hn [1] rfl qsZ qsZ ?_
     refine zgZ ?_
     refine ab.lentK hv [1] rfl qsZ qsZ ?_
     simp(disch:=try exact dI) only[heI,hpl,push_cast,seval]
     refine ab.pure h15 rfl ?_
     simp(disch:=try exact dI) only[hc,push_cast,seval]
     refine ab.pure h16 rfl ?_
     exact qsZ
   | false=>
     rw[if_neg (by decide),if_neg hc]
     simp only[Val.pv_mk,aH,Int.cast_ofNat_Int,List.map_nil]
     refine au.intro qp (by simp[F24]) ?_
     simp(disch:=try exact dI) only[F24,push_cast,seval]
     refine ab.lentK hn [1] rfl qsZ qsZ ?_
     refine zgZ ?_
     refine ab.lentK hv [1] rfl qsZ qsZ ?_
     simp(disch:=try exact dI) only[heI,hpl,push_cast,seval]
     refine ab.pure h15 rfl ?_
     simp(disch:=try exact dI) only[hc,push_cast,seval]
     refine ab.pure h16 rfl ?_
     exact qsZ
 ·-- an error
  rw[if_neg hR]
  obtain⟨_,x⟩:=hfin
  have hx:(BJ s M2).e=R2.e∧(BJ s M2).bad=R2.off:=by
   rcases x with ⟨x1,_⟩ | ⟨_,x2,x3⟩
   ·exact absurd x1 hR
   ·exact⟨x2,x3⟩
  obtain⟨hx1,hx2⟩:=hx
  rw[← hx1,← hx2]
  have hne:¬ (BJ s M2).e=0:=by rw[hx1];exact hR
  clear hx1 hx2 x
  obtain⟨w1,w2,w3,w4,w5,w6⟩:=v
  simp only[moB,moC,Val.pv_mk] at hn hv hf
  by_cases hq:M2.e=0∧M2.p<s.length
  ·have e1:BJ s M2=aU M2 13 M2.p:=if_pos hq
   rw[e1] at hne ⊢
   have heI:(M2.e=0)=True:=eq_true hq.1
   have hpl:(M2.p:Int)<(s.length:Int):=by omega
   generalize aU M2 13 M2.p=M3 at *
   simp only[Val.pv_mk,aH,List.map_nil]
   refine au.intro qp (by simp[F24]) ?_
   simp(disch:=try exact dI) only[F24,push_cast,seval]
   refine ab.lentK hn [1] rfl qsZ qsZ ?_
   refine zgZ ?_
   refine ab.lentK hv [1] rfl qsZ qsZ ?_
   simp(disch:=try exact dI) only[heI,hpl,push_cast,seval]
   refine ab.lentK hf [1] rfl qsZ qsZ ?_
   simp(disch:=try exact dI) only[hne,push_cast,seval]
  ·have e1:BJ s M2=M2:=if_neg hq
   rw[e1] at hne ⊢
   simp only[Val.pv_mk,aH,List.map_nil]
   refine au.intro qp (by simp[F24]) ?_
   simp(disch:=try exact dI) only[F24,push_cast,seval]
   refine ab.lentK hn [1] rfl qsZ qsZ ?_
   refine zgZ ?_
   refine ab.lentK hv [1] rfl qsZ qsZ ?_
   simp(disch:=try exact dI) only[hne,push_cast,seval]
end
end Go.Proofs.YtamoeblcphjbaaaGreatDoor

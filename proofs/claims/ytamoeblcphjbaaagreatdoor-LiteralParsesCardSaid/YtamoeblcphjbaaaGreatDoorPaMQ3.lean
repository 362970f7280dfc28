/- A part of the proof. -/
import Derived.Test.YtamoeblcphjbaaaGreatDoorPaMQ1
set_option maxRecDepth 100000
set_option linter.unusedVariables false
set_option linter.unusedSimpArgs false
-- many steps
namespace Go.Proofs.YtamoeblcphjbaaaGreatDoor
open Go Go.Ab
attribute [local irreducible] vc
section
variable {T:Nat}{p:PV}{Q:AExit→St→Prop}
def SL (Q:AExit→St→Prop)(B:Blk):Prop:=(∀ e n,Q .norm ⟨e,[(0,B)],n⟩)∧(∀ e n m c,m≠0→Q .norm ⟨e,[(m,c),(0,B)],n⟩)∧∀ e n m c,m≠0→Q .norm ⟨e,[(0,B),(m,c)],n⟩
theorem lP (M:Mo)(i j:Nat)(hij:i<j)(hj:j≤M.s.length)(hs:M.s.length≤65536)(X:List (Nat×AV))(hQ:SL Q (moB (kr (g9 (M,j) i) i)))(n0:Nat) :
  vc Tryz.prog (bG T p) 1 GA Q ⟨(0,.ptr 0 0)::(2,.pv (.int .i64 (i:Int)))::(4,.pv (.int .i64 (j:Int)))::X,[(0,moB M)],n0⟩:=by
 unfold GA
 by_cases h0:M.e=0
 ·have h0I:(M.e=0)=True:=eq_true h0
  have hE:g9 (M,j) i = { M with x:=(M.s.take j).drop i,nx:=j }:=by unfold g9;rw[if_pos h0]
  rw[hE] at hQ
  by_cases hk:M.k=110
  ·have hkI:((M.k:Int)=110)=True:=eq_true (by omega)
   have hX:(M.s.take j).drop i≠[]:=by
    intro q
    have:=congrArg List.length q
    rw[List.length_drop,List.length_take,List.length_nil] at this
    omega
   have hXl:((M.s.take j).drop i).length≤65536:=by rw[List.length_drop,List.length_take];omega
   have hd:=toE (T:=T) (p:=p) (pL ((M.s.take j).drop i) (by omega) hX)
   have hp:=bm (T:=T) (p:=p) (bX ((M.s.take j).drop i))
   have hf:=dC (T:=T) (p:=p) { M with x:=(M.s.take j).drop i,nx:=j } i (aQ (bX ((M.s.take j).drop i))).2
   unfold kr at hQ
   rw[if_pos ⟨hk,h0⟩] at hQ
   simp only at hQ
   generalize aQ (bX ((M.s.take j).drop i))=r at *
   obtain⟨⟨n,sc⟩,e⟩:=r
   simp only at hp hQ hf
   by_cases he:e=0
   ·have heI:(e=0)=True:=eq_true he
    rw[if_pos he] at hQ
    simp only[moB,moC,Int.cast_ofNat_Int] at hQ ⊢
    simp(disch:=try exact dI) only[h0I,hkI,push_cast,seval]
    refine ab.pure hd rfl ?_
    refine zgZ ?_
    refine ab.pure hp rfl ?_
    simp(disch:=try exact dI) only[heI,push_cast,seval]
    exact hQ.2.1 _ _ _ _ (by omega)
   ·rw[if_neg he] at hQ
    simp only[moB,moC,Int.cast_ofNat_Int] at hQ hf ⊢
    simp(disch:=try exact dI) only[h0I,hkI,push_cast,seval]
    refine ab.pure hd rfl ?_
    refine zgZ ?_
    refine ab.pure hp rfl ?_
    simp(disch:=try exact dI) only[he,push_cast,seval]
    refine ab.lentK hf [0] rfl qsZ qsZ ?_
    refine zgZ ?_
    exact hQ.2.2 _ _ _ _ (by omega)
  ·have hkI:¬ (M.k:Int)=110:=by omega
   rw[G4 (M:={ M with x:=(M.s.take j).drop i,nx:=j }) hk] at hQ
   simp only[moB,moC,Int.cast_ofNat_Int] at hQ ⊢
   simp(disch:=try exact dI) only[h0I,hkI,push_cast,seval]
   exact hQ.1 _ _
 ·have hE:g9 (M,j) i=M:=by unfold g9;rw[if_neg h0]
  have hN:kr M i=M:=by unfold kr;rw[if_neg (fun q=>h0 q.2)]
  rw[hE,hN] at hQ
  simp only[moB,moC,Int.cast_ofNat_Int] at hQ ⊢
  by_cases hk:M.k=110
  ·have hkI:((M.k:Int)=110)=True:=eq_true (by omega)
   simp(disch:=try exact dI) only[h0,hkI,push_cast,seval]
   exact hQ.1 _ _
  ·have hkI:¬ (M.k:Int)=110:=by omega
   simp(disch:=try exact dI) only[h0,hkI,push_cast,seval]
   exact hQ.1 _ _
theorem Mr (M:Mo)(i a:Nat)(v3:AV)(ha:a≤M.s.length)(hs:M.s.length≤65536)(X:List (Nat×AV))(hQ:∀ n,Q .norm ⟨[(0,.ptr 0 0),(2,.pv (.int .i64 (i:Int))),(4,.pv (.int .i64 (aK bM M.s a:Int)))],[(0,moB { M with k:=119 })],n⟩)(n0:Nat) :
  vc Tryz.prog (bG T p) 1 KE Q ⟨(0,.ptr 0 0)::(2,.pv (.int .i64 (i:Int)))::(3,v3)::(4,.pv (.int .i64 (a:Int)))::X,[(0,moB M)],n0⟩:=by
 obtain⟨w,hw⟩:∃ w,w=aK bM M.s a:=⟨_,rfl⟩
 rw[← hw] at hQ
 unfold KE
 simp only[moB,moC,Int.cast_ofNat_Int] at hQ ⊢
 refine zgZ ?_
 refine f7 ([]) (fun y:Nat=>[(4,.pv (.int .i64 (y:Int)))]) (fun _=>[]) (fun y=>y≤M.s.length∧aK bM M.s y=w) (fun y=>M.s.length - y) (a) ([0,2,4]) (fun y=>y=w) ?_;intro e0 σ0 n0 h0;simp(disch:=try exact dI) only[push_cast,seval] at h0;obtain⟨rfl,rfl,rfl⟩:=h0;refine⟨?_,?_,?_,?_⟩
 ·exact qsZ
 ·exact⟨ha,hw.symm⟩
 ·rintro y ⟨hy,hyw⟩
  by_cases hlt:y<M.s.length
  ·obtain⟨b,hb⟩:∃ b,M.s[y]? = some b:=⟨_,List.getElem?_eq_getElem hlt⟩
   have hltI:(y:Int)<(M.s.length:Int):=by omega
   rw[fg hb] at hyw
   have hl:=toE (T:=T) (p:=p) (px b)
   have hd:=toE (T:=T) (p:=p) (dO b)
   cases hL:aJ b with
   | true=>
     rw[hL] at hl
     rw[if_pos (by unfold bM;rw[hL];rfl)] at hyw
     simp(disch:=try exact dI) only[hltI,hb,ae,push_cast,seval]
     refine ab.pure hl rfl ?_
     refine zgZ ?_
     exact⟨y+1,bz qsZ,⟨by omega,hyw⟩,by omega⟩
   | false=>
     rw[hL] at hl
     cases hD:isD b with
     | true=>
       rw[hD] at hd
       rw[if_pos (by unfold bM;rw[hL,hD];rfl)] at hyw
       simp(disch:=try exact dI) only[hltI,hb,ae,push_cast,seval]
       refine ab.pure hl rfl ?_
       simp(disch:=try exact dI) only[hb,ae,push_cast,seval]
       refine ab.pure hd rfl ?_
       refine zgZ ?_
       exact⟨y+1,bz qsZ,⟨by omega,hyw⟩,by omega⟩
     | false=>
       rw[hD] at hd
       by_cases h95:b.toNat=95
       ·have h95I:((b.toNat:Int)=95)=True:=eq_true (by omega)
        rw[if_pos (by unfold bM;rw[hL,hD];simp[h95])] at hyw
        simp(disch:=try exact dI) only[hltI,hb,ae,push_cast,seval]
        refine ab.pure hl rfl ?_
        simp(disch:=try exact dI) only[hb,ae,push_cast,seval]
        refine ab.pure hd rfl ?_
        simp(disch:=try exact dI) only[hb,ae,h95I,push_cast,seval]
        exact⟨y+1,bz qsZ,⟨by omega,hyw⟩,by omega⟩
       ·have h95I:¬ (b.toNat:Int)=95:=by omega
        rw[if_neg (by unfold bM;rw[hL,hD];simp[h95])] at hyw
        simp(disch:=try exact dI) only[hltI,hb,ae,push_cast,seval]
        refine ab.pure hl rfl ?_
        simp(disch:=try exact dI) only[hb,ae,push_cast,seval]
        refine ab.pure hd rfl ?_
        simp(disch:=try exact dI) only[hb,ae,h95I,push_cast,seval]
        exact⟨y,hyw,qsZ⟩
  ·have hltI:¬ (y:Int)<(M.s.length:Int):=by omega
   rw[iy (by omega)] at hyw
   simp(disch:=try exact dI) only[hltI,push_cast,seval]
   exact⟨y,hyw,qsZ⟩
 intro y hy s1 hs1;simp(disch:=try exact dI) only[push_cast,seval] at hs1;subst hs1
 subst hy
 refine zgZ ?_
 exact hQ _
theorem Rz {F:St→Prop}(M:Mo)(i a:Nat)(v3:AV)(ha:a≤M.s.length)(hs:M.s.length≤65536)(X:List (Nat×AV))(hF:∀ n,F ⟨[(0,.ptr 0 0),(2,.pv (.int .i64 (i:Int))),(4,.pv (.int .i64 (aK isD M.s a:Int)))],[(0,moB M)],n⟩)(n0:Nat) :
  vc Tryz.prog (bG T p) 1 KK (xC F Q) ⟨(0,.ptr 0 0)::(2,.pv (.int .i64 (i:Int)))::(3,v3)::(4,.pv (.int .i64 (a:Int)))::X,[(0,moB M)],n0⟩:=by
 obtain⟨w,hw⟩:∃ w,w=aK isD M.s a:=⟨_,rfl⟩
 rw[← hw] at hF
 unfold KK
 simp only[moB,moC,Int.cast_ofNat_Int] at hF ⊢
 refine zgZ ?_
 refine f7 ([]) (fun y:Nat=>[(4,.pv (.int .i64 (y:Int)))]) (fun _=>[]) (fun y=>y≤M.s.length∧aK isD M.s y=w) (fun y=>M.s.length - y) (a) ([0,2,4]) (fun y=>y=w) ?_;intro e0 σ0 n0 h0;simp(disch:=try exact dI) only[push_cast,seval] at h0;obtain⟨rfl,rfl,rfl⟩:=h0;refine⟨?_,?_,?_,?_⟩
 ·exact qsZ
 ·exact⟨ha,hw.symm⟩
 ·rintro y ⟨hy,hyw⟩
  by_cases hlt:y<M.s.length
  ·obtain⟨b,hb⟩:∃ b,M.s[y]? = some b:=⟨_,List.getElem?_eq_getElem hlt⟩
   have hltI:(y:Int)<(M.s.length:Int):=by omega
   rw[fg hb] at hyw
   have hd:=toE (T:=T) (p:=p) (dO b)
   cases hD:isD b with
   | true=>
     rw[hD] at hd
     rw[if_pos hD] at hyw
     simp(disch:=try exact dI) only[hltI,hb,ae,push_cast,seval]
     refine ab.pure hd rfl ?_
     refine zgZ ?_
     exact⟨y+1,bz qsZ,⟨by omega,hyw⟩,by omega⟩
   | false=>
     rw[hD] at hd
     rw[if_neg (by rw[hD];decide)] at hyw
     simp(disch:=try exact dI) only[hltI,hb,ae,push_cast,seval]
     refine ab.pure hd rfl ?_
     refine zgZ ?_
     exact⟨y,hyw,qsZ⟩
  ·have hltI:¬ (y:Int)<(M.s.length:Int):=by omega
   rw[iy (by omega)] at hyw
   simp(disch:=try exact dI) only[hltI,push_cast,seval]
   exact⟨y,hyw,qsZ⟩
 intro y hy s1 hs1;simp(disch:=try exact dI) only[push_cast,seval] at hs1;subst hs1
 subst hy
 exact hF _
theorem Oy {F:St→Prop}(M:Mo)(i a:Nat)(ha:a≤M.s.length)(hs:M.s.length≤65536)(X:List (Nat×AV))(hF:∀ n,F ⟨[(0,.ptr 0 0),(2,.pv (.int .i64 (i:Int))),(4,.pv (.int .i64 (aK isD M.s a:Int)))],[(0,moB M)],n⟩)(n0:Nat) :
  vc Tryz.prog (bG T p) 1 KJ (xC F Q) ⟨(0,.ptr 0 0)::(2,.pv (.int .i64 (i:Int)))::(4,.pv (.int .i64 (a:Int)))::X,[(0,moB M)],n0⟩:=by
 obtain⟨w,hw⟩:∃ w,w=aK isD M.s a:=⟨_,rfl⟩
 rw[← hw] at hF
 unfold KJ
 simp only[moB,moC,Int.cast_ofNat_Int] at hF ⊢
 refine zgZ ?_
 refine f7 ([]) (fun y:Nat=>[(4,.pv (.int .i64 (y:Int)))]) (fun _=>[]) (fun y=>y≤M.s.length∧aK isD M.s y=w) (fun y=>M.s.length - y) (a) ([0,2,4]) (fun y=>y=w) ?_;intro e0 σ0 n0 h0;simp(disch:=try exact dI) only[push_cast,seval] at h0;obtain⟨rfl,rfl,rfl⟩:=h0;refine⟨?_,?_,?_,?_⟩
 ·exact qsZ
 ·exact⟨ha,hw.symm⟩
 ·rintro y ⟨hy,hyw⟩
  by_cases hlt:y<M.s.length
  ·obtain⟨b,hb⟩:∃ b,M.s[y]? = some b:=⟨_,List.getElem?_eq_getElem hlt⟩
   have hltI:(y:Int)<(M.s.length:Int):=by omega
   rw[fg hb] at hyw
   have hd:=toE (T:=T) (p:=p) (dO b)
   cases hD:isD b with
   | true=>
     rw[hD] at hd
     rw[if_pos hD] at hyw
     simp(disch:=try exact dI) only[hltI,hb,ae,push_cast,seval]
     refine ab.pure hd rfl ?_
     refine zgZ ?_
     exact⟨y+1,bz qsZ,⟨by omega,hyw⟩,by omega⟩
   | false=>
     rw[hD] at hd
     rw[if_neg (by rw[hD];decide)] at hyw
     simp(disch:=try exact dI) only[hltI,hb,ae,push_cast,seval]
     refine ab.pure hd rfl ?_
     refine zgZ ?_
     exact⟨y,hyw,qsZ⟩
  ·have hltI:¬ (y:Int)<(M.s.length:Int):=by omega
   rw[iy (by omega)] at hyw
   simp(disch:=try exact dI) only[hltI,push_cast,seval]
   exact⟨y,hyw,qsZ⟩
 intro y hy s1 hs1;simp(disch:=try exact dI) only[push_cast,seval] at hs1;subst hs1
 subst hy
 exact hF _
end
end Go.Proofs.YtamoeblcphjbaaaGreatDoor
-- many steps
namespace Go.Proofs.YtamoeblcphjbaaaGreatDoor
open Go Go.Ab
attribute [local irreducible] vc
section
variable {T:Nat}{p:PV}{Q:AExit→St→Prop}
theorem Of {F:St→Prop}(M:Mo)(i z:Nat)(hz:z≤M.s.length)(hs:M.s.length≤65536)(hF:∀ X n,F ⟨(0,.ptr 0 0)::(2,.pv (.int .i64 (i:Int)))::(4,.pv (.int .i64 ((ma M.s z).1:Int)))::X,[(0,moB M)],n⟩)(n0:Nat) :
  vc Tryz.prog (bG T p) 1 KH (xC F Q) ⟨[(0,.ptr 0 0),(2,.pv (.int .i64 (i:Int))),(4,.pv (.int .i64 (z:Int)))],[(0,moB M)],n0⟩:=by
 unfold KH
 have e_d:∀ b:UInt8,¬ b=46→¬ (M.s[z]? = some 46∧(M.s[z+1]?.any isD)=true)∨¬ M.s[z]? = some b:=fun b hb=>by
  by_cases h:M.s[z]? = some b
  ·exact .inl (fun q=>hb (Option.some.inj (h.symm.trans q.1)))
  ·exact .inr h
 by_cases hzl:z<M.s.length
 ·obtain⟨b,hb⟩:∃ b,M.s[z]? = some b:=⟨_,List.getElem?_eq_getElem hzl⟩
  have hzI:(z:Int)<(M.s.length:Int):=by omega
  by_cases h46:b=46
  ·subst h46
   have h46I:((46:UInt8).toNat:Int)=46:=rfl
   by_cases h1:z+1<M.s.length
   ·obtain⟨d,hd⟩:∃ d,M.s[z+1]? = some d:=⟨_,List.getElem?_eq_getElem h1⟩
    have h1I:(z:Int)+1<(M.s.length:Int):=by omega
    have hdg:=toE (T:=T) (p:=p) (dO d)
    cases hD:isD d with
    | true=>
      rw[hD] at hdg
      rw[tL ⟨hb,by rw[hd];exact hD⟩] at hF
      have hE:=fun F h=>Oy (T:=T) (p:=p) (Q:=Q) (F:=F) M i (z+1) (by omega) hs [] h
      simp only[moB,moC,Int.cast_ofNat_Int,Int.natCast_add] at hF hE ⊢
      simp(disch:=try exact dI) only[h1I,hzI,hb,hd,ae,h46I,push_cast,seval]
      refine ab.pure hdg rfl ?_
      refine zgZ ?_
      refine hE _ (fun n=>?_) _
      exact hF [] _
    | false=>
      rw[hD] at hdg
      rw[eh (fun q=>by rw[hd] at q;have:=q.2;rw[show (some d).any isD=isD d from rfl,hD] at this;cases this) (by rw[hb];decide)] at hF
      simp only[moB,moC,Int.cast_ofNat_Int,Int.natCast_add] at hF ⊢
      simp(disch:=try exact dI) only[h1I,hzI,hb,hd,ae,h46I,push_cast,seval]
      refine ab.pure hdg rfl ?_
      simp(disch:=try exact dI) only[hzI,hb,ae,h46I,push_cast,seval]
      exact hF _ _
   ·have h1I:¬ (z:Int)+1<(M.s.length:Int):=by omega
    rw[eh (fun q=>by rw[List.getElem?_eq_none (by omega:M.s.length≤z+1)] at q;cases q.2) (by rw[hb];decide)] at hF
    simp only[moB,moC,Int.cast_ofNat_Int,Int.natCast_add] at hF ⊢
    simp(disch:=try exact dI) only[h1I,hzI,hb,ae,h46I,push_cast,seval]
    exact hF _ _
  ·have h46I:¬ (b.toNat:Int)=46:=fun h=>h46 (UInt8.toNat_inj.1 (by simpa using (show b.toNat=46 by omega)))
   have hn:¬ (M.s[z]? = some 46∧(M.s[z+1]?.any isD)=true):=fun q=>h46 (Option.some.inj (hb.symm.trans q.1))
   by_cases h100:b=100
   ·subst h100
    have hI:((100:UInt8).toNat:Int)=100:=rfl
    rw[l9 hn hb] at hF
    simp only[moB,moC,Int.cast_ofNat_Int,Int.natCast_add] at hF ⊢
    by_cases h1:z+1<M.s.length
    ·have h1I:(z:Int)+1<(M.s.length:Int):=by omega
     simp(disch:=try exact dI) only[h1I,hzI,hb,ae,hI,push_cast,seval]
     exact hF _ _
    ·have h1I:¬ (z:Int)+1<(M.s.length:Int):=by omega
     simp(disch:=try exact dI) only[h1I,hzI,hb,ae,hI,push_cast,seval]
     exact hF _ _
   ·have hI:¬ (b.toNat:Int)=100:=fun h=>h100 (UInt8.toNat_inj.1 (by simpa using (show b.toNat=100 by omega)))
    rw[eh hn (fun q=>h100 (Option.some.inj (hb.symm.trans q)))] at hF
    simp only[moB,moC,Int.cast_ofNat_Int,Int.natCast_add] at hF ⊢
    by_cases h1:z+1<M.s.length
    ·have h1I:(z:Int)+1<(M.s.length:Int):=by omega
     simp(disch:=try exact dI) only[h1I,hzI,hb,ae,hI,h46I,push_cast,seval]
     exact hF _ _
    ·have h1I:¬ (z:Int)+1<(M.s.length:Int):=by omega
     simp(disch:=try exact dI) only[h1I,hzI,hb,ae,hI,h46I,push_cast,seval]
     exact hF _ _
 ·have hzI:¬ (z:Int)<(M.s.length:Int):=by omega
  have h1I:¬ (z:Int)+1<(M.s.length:Int):=by omega
  have hnn:=List.getElem?_eq_none (l:=M.s) (i:=z) (by omega)
  rw[eh (fun q=>by rw[hnn] at q;cases q.1) (by rw[hnn];intro q;cases q)] at hF
  simp only[moB,moC,Int.cast_ofNat_Int,Int.natCast_add] at hF ⊢
  simp(disch:=try exact dI) only[h1I,hzI,push_cast,seval]
  exact hF _ _
theorem QZ (M:Mo)(i a:Nat)(v3:AV)(ha:a≤M.s.length)(hs:M.s.length≤65536)(X:List (Nat×AV))(hQ:∀ n,Q .norm ⟨[(0,.ptr 0 0),(2,.pv (.int .i64 (i:Int))),(4,.pv (.int .i64 ((ma M.s (aK isD M.s a)).1:Int)))],[(0,moB { M with k:=110 })],n⟩)(n0:Nat) :
  vc Tryz.prog (bG T p) 1 KG Q ⟨(0,.ptr 0 0)::(2,.pv (.int .i64 (i:Int)))::(3,v3)::(4,.pv (.int .i64 (a:Int)))::X,[(0,moB M)],n0⟩:=by
 unfold KG
 refine zgZ ?_
 refine Rz M i a v3 ha hs X (fun n=>?_) _
 refine zgZ ?_
 refine Of M i _ (bq ha) hs (fun X n=>?_) _
 simp only[moB,moC,Int.cast_ofNat_Int,Int.natCast_add] at hQ ⊢
 refine zgZ ?_
 exact hQ _
def DP:List UInt8:=[91,93,123,125,40,41,58,44,61,63,124]
theorem MJ {i:Nat}(h:i<11):∃ x:UInt8,DP[i]? = some x∧([PV.int .u8 91,.int .u8 93,.int .u8 123,.int .u8 125,.int .u8 40,.int .u8 41,.int .u8 58,.int .u8 44,.int .u8 61,.int .u8 63,.int .u8 124]:List PV)[i]? = some (.int .u8 (x.toNat:Int)):=by
 have hl:i<DP.length:=h
 refine⟨DP[i],List.getElem?_eq_getElem hl,?_⟩
 exact pV (s:=DP) (List.getElem?_eq_getElem hl)
def DR (c:UInt8)(i:Nat):Nat:=if c∈DP.take i then c.toNat else 0
theorem DQ {c:UInt8}{i:Nat}(h:DP[i]? = some c):DR c (i+1)=c.toNat:=by
 unfold DR
 rw[bA h,if_pos (by simp)]
theorem yx {c x:UInt8}{i:Nat}(h:DP[i]? = some x)(hx:¬ x=c):DR c (i+1)=DR c i:=by
 unfold DR
 rw[bA h]
 have:(c∈DP.take i++[x])↔c∈DP.take i:=by
  rw[List.mem_append,List.mem_singleton]
  exact⟨fun q=>q.elim id fun q=>absurd q.symm hx,.inl⟩
 simp only[this]
theorem QD (M:Mo)(i a:Nat)(c:UInt8)(hk:M.k=0)(hM:M.e=0)(X:List (Nat×AV))(hQ:∀ X n,Q .norm ⟨(0,.ptr 0 0)::(2,.pv (.int .i64 (i:Int)))::(4,.pv (.int .i64 (a:Int)))::X,[(0,moB (if lq c=true then { M with k:=c.toNat } else aU M 13 i))],n⟩)(n0:Nat)(hn:¬ n0=0) :
  vc Tryz.prog (bG T p) 1 KF Q ⟨(0,.ptr 0 0)::(2,.pv (.int .i64 (i:Int)))::(3,.pv (.int .u8 (c.toNat:Int)))::(4,.pv (.int .i64 (a:Int)))::X,[(0,moB M)],n0⟩:=by
 have hf:=dC (T:=T) (p:=p) M i 13
 have h00:DR c 0=0:=rfl
 have h11:DR c 11=if lq c=true then c.toNat else 0:=by
  unfold DR lq
  simp only[decide_eq_true_eq]
  rfl
 unfold KF
 obtain⟨ms,mn,mk,mp,mx,mv,me,mb⟩:=M
 simp only at hk hM
 subst hk
 subst hM
 simp only[moB,moC,Int.cast_ofNat_Int,Int.natCast_add] at hQ hf ⊢
 simp(disch:=try exact dI) only[hn,push_cast,seval]
 refine f7 ([]) (fun y:Nat=>[(108,.pv (.int .i64 (y:Int)))]) (fun y=>[(0,.cells 95 true [.pv (.str ms),.pv (.int .i64 (mn:Int)),.pv (.int .u8 (DR c y:Int)),.pv (.int .i64 (mp:Int)),.pv (.str mx),.pv (.str mv),.pv (.int .i64 0),.pv (.int .i64 (mb:Int))])]) (fun y=>y≤11) (fun y=>11 - y) (0) ([0,2,4]) (fun y=>y=11) ?_;intro e0 σ0 n0 h0;simp(disch:=try exact dI) only[push_cast,seval] at h0;obtain⟨rfl,rfl,rfl⟩:=h0;refine⟨?_,?_,?_,?_⟩
 ·simp(disch:=try exact dI) only[h00,hn,push_cast,seval]
 ·omega
 ·intro y hy
  by_cases hlt:y<11
  ·obtain⟨x,hx,hx2⟩:=MJ hlt
   have hltI:(y:Int)<11:=by omega
   by_cases hxc:x=c
   ·subst hxc
    have hh:=DQ hx
    simp(disch:=try exact dI) only[hn,hltI,hx2,push_cast,seval]
    exact⟨y+1,bz (by simp(disch:=try exact dI) only[hh,hn,push_cast,seval]),by omega,by omega⟩
   ·have hh:=yx hx hxc
    have hxI:¬ (x.toNat:Int)=(c.toNat:Int):=fun h=>hxc (UInt8.toNat_inj.1 (by omega))
    simp(disch:=try exact dI) only[hn,hltI,hx2,hxI,push_cast,seval]
    exact⟨y+1,bz (by simp(disch:=try exact dI) only[hh,hn,push_cast,seval]),by omega,by omega⟩
  ·have hltI:¬ (y:Int)<11:=by omega
   simp(disch:=try exact dI) only[hn,hltI,push_cast,seval]
   exact⟨y,by omega,by simp(disch:=try exact dI) only[hn,push_cast,seval]⟩
 intro y hy s1 hs1
 simp(disch:=try exact dI) only[hn,push_cast,seval] at hs1
 subst hs1
 subst hy
 cases hb:lq c with
 | true=>
   rw[hb,if_pos rfl] at h11
   simp only[hb,if_true] at hQ
   have hc0:¬ (c.toNat:Int)=0:=fun h=>by
    have:c=0:=UInt8.toNat_inj.1 (show c.toNat=0 by omega)
    subst this
    exact absurd hb (by decide)
   simp(disch:=try exact dI) only[h11,hc0,push_cast,seval]
   exact hQ _ _
 | false=>
   rw[hb,if_neg (by decide)] at h11
   simp only[hb,Bool.false_eq_true,if_false] at hQ
   simp(disch:=try exact dI) only[h11,push_cast,seval]
   refine ab.lentK hf [0] rfl qsZ qsZ ?_
   refine zgZ ?_
   exact hQ [] _
end
end Go.Proofs.YtamoeblcphjbaaaGreatDoor

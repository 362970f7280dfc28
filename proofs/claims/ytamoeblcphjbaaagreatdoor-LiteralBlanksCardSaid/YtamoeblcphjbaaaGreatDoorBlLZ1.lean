/- A part. -/
import Derived.Test.YtamoeblcphjbaaaGreatDoorBlLX5
import Derived.Lib.ValidLaws
set_option linter.unusedVariables false
set_option linter.unusedSimpArgs false
set_option maxHeartbeats 16000000
set_option maxRecDepth 100000
open List renaming length_append->Us,length_singleton->UL
namespace Go.Proofs.YtamoeblcphjbaaaGreatDoor
open Go Go.Ab
theorem Ck {M:Mo}(he:(nextM M).e=0)(hk:(nextM M).k≠0):(nextM M).x=(M.s.take (nextM M).nx).drop (aN az M.s M.nx):=by
 unfold nextM at he hk ⊢
 cases hc:M.s[aN az M.s M.nx]? with
 | none=>
   rw[hc] at hk
   exact absurd rfl hk
 | some c=>
   rw[hc] at hk he
   simp only at hk he ⊢
   by_cases h0:M.e=0
   ·rw[if_pos h0] at he ⊢
    have h2:=vg (M:={ M with nx:=aN az M.s M.nx,k:=0,p:=aN az M.s M.nx,x:=[],v:=[] }) hc
    generalize rJ { M with nx:=aN az M.s M.nx,k:=0,p:=aN az M.s M.nx,x:=[],v:=[] } (aN az M.s M.nx) c=q at *
    rcases Cd (gX q (aN az M.s M.nx)) (aN az M.s M.nx) with h | ⟨e,hne,h⟩
    ·rw[h] at he ⊢
     unfold gX at he ⊢
     by_cases hq:q.1.e=0
     ·rw[if_pos hq]
      simp only
      rw[h2.2.2.1]
     ·rw[if_neg hq] at he
      exact absurd he hq
    ·rw[h] at he
     exact absurd he (Dv hne)
   ·rw[if_neg h0] at hk
    exact absurd rfl hk
def EO:Nat->List (List UInt8)->Mo->List (List UInt8)×Mo
 | 0,l,M=>(l,M)
 | k+1,l,M=>if M.e=0/\¬ M.k=0 then EO k (l++[M.x]) (nextM M) else (l,M)
theorem rT {k:Nat}{l:List (List UInt8)}{M:Mo}(h:¬ (M.e=0/\¬ M.k=0)):EO k l M=(l,M):=by
 cases k with
 | zero=>rfl
 | succ k=>rw[EO];exact if_neg h
theorem As {k:Nat}{l:List (List UInt8)}{M:Mo}(h:M.e=0/\¬ M.k=0):EO (k+1) l M=EO k (l++[M.x]) (nextM M):=by
 rw[EO];exact if_pos h
theorem Ar {s:List UInt8}:∀ (k:Nat) (l:List (List UInt8)) (M:Mo) (i:Nat),Sim M (A s i)->OkR (A s i)->OkM M->M.s=s->(M.e=0->M.k≠0->M.x=(A s i).now.text) ->
  (M.e=0->s.length+1 - M.p<k)->(∀ r,TokL s i r->TokL s 0 (l++r))->(EO k l M).2.e=0->TokL s 0 (EO k l M).1
 | 0,l,M,i,_,_,_,_,_,h1,_,he=>absurd (h1 he) (by omega)
 | k+1,l,M,i,hS,hR,hM,hs,hx,h1,h2,he=>by
   by_cases h:M.e=0/\¬ M.k=0
   ·rw[As h] at he ⊢
    obtain⟨h0,hk⟩:=h
    have hR0:(A s i).e=0:=(uq hS).1 h0
    have hk2:(A s i).now.kind≠0:=fun q=>hk ((mX (r7 hS hR0).2.2).2 q)
    have hnx:=(r7 hS hR0).2.1
    have hAs:(A s i).s=s:=hS.1.symm.trans hs
    have hAo:(A s i).off=0:=by
     rcases jD hR0 with ⟨m,_,e⟩ | ⟨tx,r0,_,_,e,_⟩
     ·rw[e]
     ·rw[e]
    have hadv:aT (A s i)=A s (A s i).next:=by
     have:=Ik hR0 hAo
     rw[hAs] at this
     exact this
    have hS2:=FC hR hS
    rw[hadv] at hS2
    have hR2:OkR (A s (A s i).next):=by rw[<- hadv];exact (nU hR).1
    obtain⟨hM2,hlt⟩:=m8 hM
    have hp:=(hM.2.2 h0).1
    have hb:=hM.1.2
    rw[hs] at hb
    refine Ar k (l++[M.x]) (nextM M) (A s i).next hS2 hR2 hM2.1 (by rw[gP];exact hs) (fun e0 ek=>?_) (fun e0=>?_) (fun r hr=>?_) he
    ·rw[Ck e0 ek,hnx,hs]
     have hA0:(A s (A s i).next).e=0:=(uq hS2).1 e0
     rcases jD hA0 with ⟨m,_,e⟩ | ⟨tx,r0,t1,t2,t3,_⟩
     ·have:(A s (A s i).next).now.kind=0:=by rw[e]
      exact absurd ((mX (r7 hS2 hA0).2.2).2 this) ek
     ·rw[(r7 hS2 hA0).2.1]
      generalize A s (A s i).next=L at *
      rw[t3]
      exact b9 t2
    ·have:=h1 h0
     have:=hlt e0 hk
     omega
    ·rw[List.append_assoc,List.singleton_append,hx h0 hk]
     exact h2 _ (.cons hR0 hk2 hr)
   ·rw[rT h] at he ⊢
    have hk:M.k=0:=Classical.byContradiction fun q=>h ⟨he,q⟩
    have hR0:(A s i).e=0:=(uq hS).1 he
    have:=h2 [] (.nil hR0 ((mX (r7 hS hR0).2.2).1 hk))
    simpa using this
def mo0 (s:List UInt8):Mo:={ s:=s,nx:=0 }
theorem B9 {s:List UInt8}(hs:s.length<=65536):Nk (mo0 s):=⟨hs,Nat.zero_le _⟩
def rS (s:List UInt8):List (List UInt8)×Mo:=EO (s.length+2) [] (nextM (mo0 s))
theorem Fa {s:List UInt8}(hs:s.length<=65536)(he:(rS s).2.e=0):TokL s 0 (rS s).1:=by
 have hR:OkR ⟨s,0,{},0,0⟩:=uS hs
 have hS:Sim (nextM (mo0 s)) (A s 0):=fL (M:=mo0 s) (R:=⟨s,0,{},0,0⟩) hR rfl rfl rfl rfl
 have hM:=ow (B9 hs)
 refine Ar (s.length+2) [] (nextM (mo0 s)) 0 hS (nU hR).1 hM (gP _) (fun e0 ek=>?_) (fun e0=>by omega) (fun r hr=>hr) he
 rw[Ck e0 ek]
 have hA0:(A s 0).e=0:=(uq hS).1 e0
 rcases jD hA0 with ⟨m,_,e⟩ | ⟨tx,r0,t1,t2,t3,_⟩
 ·have:(A s 0).now.kind=0:=by rw[e]
  exact absurd ((mX (r7 hS hA0).2.2).2 this) ek
 ·rw[(r7 hS hA0).2.1]
  generalize A s 0=L at *
  rw[t3]
  exact b9 t2
theorem MV (x:List UInt8):jk 1 1 [.pv (.str x)]=some (.pv (.list [.str x]),[]):=rfl
def wV (b:UInt8):List UInt8:=if b.toNat % 4=0 then [32] else if b.toNat % 4=1 then [10] else if b.toNat % 4=2 then [9,32] else [13,10]
def gL (bl:List UInt8)(l:List (List UInt8)):List (List UInt8×List UInt8):=l.zipIdx.map fun p=>(wV (bl[p.2]?.getD 0),p.1)
theorem Kn (b:UInt8):wV b≠[]/\(∀ c∈wV b,az c=true)/\(wV b).length<=2:=by
 unfold wV
 split
 ·decide
 split
 ·decide
 split<;>decide
theorem ur (bl:List UInt8)(l:List (List UInt8)):(gL bl l).map Prod.snd=l:=by
 unfold gL
 rw[List.map_map]
 exact List.zipIdx_map_fst 0 l
theorem AU (bl:List UInt8)(l:List (List UInt8)):∀ x∈gL bl l,x.1≠[]/\(∀ c∈x.1,az c=true)/\x.1.length<=2:=fun x hx=>by
 obtain⟨y,_,rfl⟩:=List.mem_map.1 hx
 exact Kn _
theorem Km {bl:List UInt8}{l:List (List UInt8)}{i:Nat}{x:List UInt8}(h:l[i]? = some x):(gL bl l)[i]? = some (wV (bl[i]?.getD 0),x):=by
 unfold gL
 simp[h]
theorem jb:∀ a b:List (List UInt8×List UInt8),bv (a++b)=bv a++bv b
 | [],b=>rfl
 | x::r,b=>by rw[List.cons_append,bv,jb r b,bv];simp
theorem r4 {bl:List UInt8}{l:List (List UInt8)}{i:Nat}{x:List UInt8}(h:l[i]? = some x):bv ((gL bl l).take (i+1))=bv ((gL bl l).take i)++wV (bl[i]?.getD 0)++x:=by
 have h2:=Km (bl:=bl) h
 rw[bc h2,jb]
 simp[bv]
theorem AQ {L:List (List UInt8×List UInt8)}(i:Nat):(bv (L.take i)).length<=(bv L).length:=by
 have:=congrArg (fun l=>(bv l).length) (List.take_append_drop i L)
 simp only[jb,Us] at this
 omega
attribute [local irreducible] vc
theorem Qn (x:Typ):jk 7 1 [.pv x.pv]=some (.pv (.list [x.pv]),[]):=by
 obtain⟨w1,w2,w3,w4,w5,w6,w7⟩:=x
 rw[Ul]
 exact fS rfl rfl
section
variable {T:Nat}{p:PV}
theorem G7 (K:Int)(hK:K=2\/K=5)(R:Rd)(d:Nat)(hd:d<8)(hR:OkR R)(hT:OkT R)(h0:R.e=0)(hk:R.now.kind=1)(hw:bt R.now.text=K)(kd:Rd->Typ×Rd)(val:Rd->Val×Rd)(s:List UInt8)(hsl:s.length<=65536)(hks:zm kd s)(hkc:N2 T p kd s (d+1))(hs:R.s=s) :
  aI Tryz.prog (bE T p) 1 56 [.ptr 0 0,.pv (.int .i64 (d:Int))] [rdB R] (.pv (bX kd val K (aq (aT R) [40])).1.pv) [rdB (aq (bX kd val K (aq (aT R) [40])).2 [41])]:=by
 have h0I:(R.e=0)=True:=eq_true h0
 have hkI:(R.now.kind=1)=True:=eq_true hk
 have hdI:¬ (8:Int)<=(d:Int):=by omega
 have hadv:=bx (T:=T) (p:=p) R hR
 have hfind:=toE (T:=T) (p:=p) (e9 R.now.text)
 have hst:=(aQ hR hT).1
 have hK0:¬ K=0:=by omega
 rw[hw,if_neg hK0] at hfind
 have hop:=aJ (T:=T) (p:=p) (aT R) [40] hst.1
 have s0:=aG (t:=[40]) hst.1 hst.2.1
 have hs2:(aq (aT R) [40]).s=s:=s0.2.2.1.trans (hst.2.2.1.trans hs)
 clear hst hR hT
 generalize aT R=R1 at *
 generalize aq R1 [40]=R2 at *
 have hB:=rR (T:=T) (p:=p) K 0 0 0 R2 s0.1 s0.2.1
 have s2:=(cu (b:=cm) (fun R h ht=>⟨(bF h ht).1,(bF h ht).2.1⟩) s0.1 s0.2.1).1
 have e1:bX kd val K R2=(.mk K (dF cm R2).1.1 (dF cm R2).1.2 0 [] [] [],(dF cm R2).2):=by
  rcases hK with rfl | rfl<;>rfl
 rw[e1]
 clear e1
 generalize dF cm R2=Q at *
 obtain⟨⟨a,b⟩,L⟩:=Q
 simp only at hB s2 ⊢
 have hE:=aJ (T:=T) (p:=p) L [41] s2.1
 simp only[rdB,rdC,tkP,tyB,tyC,Ul] at hadv hop hB hE ⊢
 rcases hK with rfl | rfl
 all_goals
  refine aI.intro Q56.2 (by simp[Q56]) ?_
  simp(disch:=try exact dI) only[Q56,h0I,hkI,hdI,push_cast,seval]
  refine ae.lentK hadv [0] rfl qsZ qsZ ?_
  refine zgZ ?_
  refine ae.pure hfind rfl ?_
  refine zgZ ?_
  refine ae.lentK hop [0] rfl qsZ qsZ ?_
  refine zgZ ?_
  refine ae.lentK hB [0,12] rfl qsZ qsZ ?_
  refine zgZ ?_
  refine ae.lentK hE [0] rfl qsZ qsZ ?_
  refine zgZ ?_
  exact am [] qsZ
theorem CM (K:Int)(hK:K=4)(R:Rd)(d:Nat)(hd:d<8)(hR:OkR R)(hT:OkT R)(h0:R.e=0)(hk:R.now.kind=1)(hw:bt R.now.text=K)(kd:Rd->Typ×Rd)(val:Rd->Val×Rd)(s:List UInt8)(hsl:s.length<=65536)(hks:zm kd s)(hkc:N2 T p kd s (d+1))(hs:R.s=s) :
  aI Tryz.prog (bE T p) 1 56 [.ptr 0 0,.pv (.int .i64 (d:Int))] [rdB R] (.pv (bX kd val K (aq (aT R) [40])).1.pv) [rdB (aq (bX kd val K (aq (aT R) [40])).2 [41])]:=by
 have h0I:(R.e=0)=True:=eq_true h0
 have hkI:(R.now.kind=1)=True:=eq_true hk
 have hdI:¬ (8:Int)<=(d:Int):=by omega
 have hadv:=bx (T:=T) (p:=p) R hR
 have hfind:=toE (T:=T) (p:=p) (e9 R.now.text)
 have hst:=(aQ hR hT).1
 have hK0:¬ K=0:=by omega
 rw[hw,if_neg hK0] at hfind
 have hop:=aJ (T:=T) (p:=p) (aT R) [40] hst.1
 have s0:=aG (t:=[40]) hst.1 hst.2.1
 have hs2:(aq (aT R) [40]).s=s:=s0.2.2.1.trans (hst.2.2.1.trans hs)
 clear hst hR hT
 generalize aT R=R1 at *
 generalize aq R1 [40]=R2 at *
 have hB:=rR (T:=T) (p:=p) K 0 0 0 R2 s0.1 s0.2.1
 have s2:=(cu (b:=cm) (fun R h ht=>⟨(bF h ht).1,(bF h ht).2.1⟩) s0.1 s0.2.1).1
 subst hK
 by_cases hq:R2.e=0/\R2.now.kind=3
 ·obtain⟨q0,q3⟩:=hq
  have q0I:(R2.e=0)=True:=eq_true q0
  have q3I:(R2.now.kind=3)=True:=eq_true q3
  have e1:bX kd val 4 R2=(.mk 4 0 0 0 (gG (R2.s.length+3) true [] R2).1 [] [],(gG (R2.s.length+3) true [] R2).2):=by
   unfold bX
   rw[if_neg (by decide),if_neg (by decide),if_neg (by decide),if_neg (by decide),if_pos ⟨rfl,q0,q3⟩]
  rw[e1]
  clear e1 hB s2
  obtain⟨Z,hZ⟩:∃ Z,Z=gG (R2.s.length+3) true [] R2:=⟨_,rfl⟩
  rw[<- hZ]
  rw[hs2] at hZ
  simp only[rdB,rdC,tkP] at hadv hop ⊢
  refine aI.intro Q56.2 (by simp[Q56]) ?_
  simp(disch:=try exact dI) only[Q56,h0I,hkI,hdI,push_cast,seval]
  refine ae.lentK hadv [0] rfl qsZ qsZ ?_
  refine zgZ ?_
  refine ae.pure hfind rfl ?_
  refine zgZ ?_
  refine ae.lentK hop [0] rfl qsZ qsZ ?_
  simp(disch:=try exact dI) only[q0I,q3I,push_cast,seval]
  refine aK ([(8,5,9,1)]) (fun y:Bool×List (List UInt8)×Rd=>[(10,.pv (.bool y.1))]) (fun y=>[(0,rdB y.2.2),(3,.cells 48 true [.pv (.int .i64 4),.pv (.int .i64 0),.pv (.int .i64 0),.pv (.int .i64 0),.olist 4 1 (y.2.1.map PV.str),.pv .nils,.pv .nils])]) (fun y=>OkR y.2.2/\OkT y.2.2/\y.2.2.s=s/\y.2.1.length+msr y.2.2<=s.length+1/\∃ k,msr y.2.2<k/\Z=gG k y.1 y.2.1 y.2.2) (fun y=>msr y.2.2) ((true,[],R2)) ?_;intro e0 σ0 n0 h0;simp(disch:=try exact dI) only[push_cast,seval] at h0;obtain⟨rfl,rfl,rfl⟩:=h0;refine⟨?_,?_,?_⟩
  ·simp(disch:=try exact dI) only[rdB,rdC,push_cast,seval]
  ·refine⟨s0.1,s0.2.1,hs2,?_,s.length+3,?_,hZ⟩
   ·simp only[List.length_nil,msr,hs2];split<;>omega
   ·simp only[msr,hs2];split<;>omega
  rintro⟨b,l,L⟩ ⟨h1,h2,h3,h4,k,hk',hZk⟩
  simp only at h1 h2 h3 h4 hk' hZk
  obtain⟨k,rfl⟩:∃ j,k=j+1:=⟨k - 1,by omega⟩
  have hex:=aJ (T:=T) (p:=p) L [41] h1
  have hl:l.length<=65540:=by omega
  by_cases he:L.e=0
  rotate_left
  ·rw[tW he] at hZk
   subst hZk
   simp only[rdB,rdC] at hex
   simp(disch:=try exact dI) only[rdB,rdC,he,push_cast,seval]
   refine ae.lentK hex [0] rfl qsZ qsZ ?_
   refine zgZ ?_
   exact am [] (by simp(disch:=try exact dI) only[rdB,rdC,Ul,push_cast,seval])
  have heI:(L.e=0)=True:=eq_true he
  cases b with
  | true=>
    rw[tZ he] at hZk
    have hcall:=i7 (T:=T) (p:=p) L 3 h1
    have g2:=cE (k:=3) h1 h2
    have hm:=fo h1 he g2 (il h1 h2 (by decide))
    generalize bi L 3=q at *
    obtain⟨x,L2⟩:=q
    simp only at hcall hZk g2 hm
    have hmp:(l++[x.bytes]).map PV.str=l.map PV.str++[.str x.bytes]:=by simp
    have hbs:=MV x.bytes
    simp only[rdB,rdC,tkP] at hcall
    simp(disch:=try exact dI) only[rdB,rdC,heI,push_cast,seval]
    refine aX hcall [0] rfl qsZ qsZ ?_
    simp(disch:=try exact dI) only[hbs,push_cast,seval]
    exact⟨(false,l++[x.bytes],L2),bu (by simp(disch:=try exact dI) only[rdB,rdC,hmp,push_cast,seval]),⟨g2.1,g2.2.1,g2.2.2.1.trans h3,by simp only[Us,UL];omega,k,by simp only;omega,hZk⟩,by simp only;omega⟩
  | false=>
    have hac:=eM (T:=T) (p:=p) L [124] h1
    have hav:bp L [124]=if isT L [124]=true then (true,aT L) else (false,L):=rfl
    rw[hav] at hac
    cases hi:isT L [124] with
    | true=>
      rw[hi,if_pos rfl] at hac
      rw[tY he hi] at hZk
      obtain⟨a1,a2⟩:=aQ h1 h2
      have hcall:=i7 (T:=T) (p:=p) (aT L) 3 a1.1
      have g2':=cE (k:=3) a1.1 a1.2.1
      have g2:=a1.trans g2'
      have hm:msr (bi (aT L) 3).2<msr L:=fo h1 he g2 fun q=>by
       have:=il a1.1 a1.2.1 (k:=3) (by decide) q
       have:=(a1.2.2.2 (g2'.2.2.2 q).1).2
       omega
      generalize aT L=L1 at *
      generalize bi L1 3=q at *
      obtain⟨x,L2⟩:=q
      simp only at hcall hZk g2 hm
      have hmp:(l++[x.bytes]).map PV.str=l.map PV.str++[.str x.bytes]:=by simp
      have hbs:=MV x.bytes
      simp only[rdB,rdC,tkP] at hcall hac
      simp(disch:=try exact dI) only[rdB,rdC,heI,push_cast,seval]
      refine ae.lentK hac [0] rfl qsZ qsZ ?_
      refine zgZ ?_
      refine aX hcall [0] rfl qsZ qsZ ?_
      simp(disch:=try exact dI) only[hbs,push_cast,seval]
      exact⟨(false,l++[x.bytes],L2),bu (by simp(disch:=try exact dI) only[rdB,rdC,hmp,push_cast,seval]),⟨g2.1,g2.2.1,g2.2.2.1.trans h3,by simp only[Us,UL];omega,k,by simp only;omega,hZk⟩,by simp only;omega⟩
    | false=>
      rw[hi,if_neg (by decide)] at hac
      rw[tX he hi] at hZk
      subst hZk
      simp only[rdB,rdC] at hex hac
      simp(disch:=try exact dI) only[rdB,rdC,heI,push_cast,seval]
      refine ae.lentK hac [0] rfl qsZ qsZ ?_
      refine zgZ ?_
      refine ae.lentK hex [0] rfl qsZ qsZ ?_
      refine zgZ ?_
      exact am [] (by simp(disch:=try exact dI) only[rdB,rdC,Ul,push_cast,seval])
 ·have e1:bX kd val 4 R2=(.mk 4 (dF cm R2).1.1 (dF cm R2).1.2 0 [] [] [],(dF cm R2).2):=by
   unfold bX
   rw[if_neg (by decide),if_neg (by decide),if_neg (by decide),if_neg (by decide),if_neg (fun q=>hq q.2)]
   rfl
  rw[e1]
  clear e1
  generalize dF cm R2=Q at *
  obtain⟨⟨a,b⟩,L⟩:=Q
  simp only at hB s2 ⊢
  have hE:=aJ (T:=T) (p:=p) L [41] s2.1
  simp only[rdB,rdC,tkP,tyB,tyC,Ul] at hadv hop hB hE ⊢
  by_cases q0:R2.e=0
  ·have q0I:(R2.e=0)=True:=eq_true q0
   have q3:¬ R2.now.kind=3:=fun q=>hq ⟨q0,q⟩
   refine aI.intro Q56.2 (by simp[Q56]) ?_
   simp(disch:=try exact dI) only[Q56,h0I,hkI,hdI,push_cast,seval]
   refine ae.lentK hadv [0] rfl qsZ qsZ ?_
   refine zgZ ?_
   refine ae.pure hfind rfl ?_
   refine zgZ ?_
   refine ae.lentK hop [0] rfl qsZ qsZ ?_
   simp(disch:=try exact dI) only[q0I,q3,push_cast,seval]
   refine ae.lentK hB [0,12] rfl qsZ qsZ ?_
   refine zgZ ?_
   refine ae.lentK hE [0] rfl qsZ qsZ ?_
   refine zgZ ?_
   exact am [] qsZ
  ·refine aI.intro Q56.2 (by simp[Q56]) ?_
   simp(disch:=try exact dI) only[Q56,h0I,hkI,hdI,push_cast,seval]
   refine ae.lentK hadv [0] rfl qsZ qsZ ?_
   refine zgZ ?_
   refine ae.pure hfind rfl ?_
   refine zgZ ?_
   refine ae.lentK hop [0] rfl qsZ qsZ ?_
   simp(disch:=try exact dI) only[q0,push_cast,seval]
   refine ae.lentK hB [0,12] rfl qsZ qsZ ?_
   refine zgZ ?_
   refine ae.lentK hE [0] rfl qsZ qsZ ?_
   refine zgZ ?_
   exact am [] qsZ
theorem CN (K:Int)(hK:K=8)(R:Rd)(d:Nat)(hd:d<8)(hR:OkR R)(hT:OkT R)(h0:R.e=0)(hk:R.now.kind=1)(hw:bt R.now.text=K)(kd:Rd->Typ×Rd)(val:Rd->Val×Rd)(s:List UInt8)(hsl:s.length<=65536)(hks:zm kd s)(hkc:N2 T p kd s (d+1))(hs:R.s=s) :
  aI Tryz.prog (bE T p) 1 56 [.ptr 0 0,.pv (.int .i64 (d:Int))] [rdB R] (.pv (bX kd val K (aq (aT R) [40])).1.pv) [rdB (aq (bX kd val K (aq (aT R) [40])).2 [41])]:=by
 have h0I:(R.e=0)=True:=eq_true h0
 have hkI:(R.now.kind=1)=True:=eq_true hk
 have hdI:¬ (8:Int)<=(d:Int):=by omega
 have hadv:=bx (T:=T) (p:=p) R hR
 have hfind:=toE (T:=T) (p:=p) (e9 R.now.text)
 have hst:=(aQ hR hT).1
 have hK0:¬ K=0:=by omega
 rw[hw,if_neg hK0] at hfind
 have hop:=aJ (T:=T) (p:=p) (aT R) [40] hst.1
 have s0:=aG (t:=[40]) hst.1 hst.2.1
 have hs2:(aq (aT R) [40]).s=s:=s0.2.2.1.trans (hst.2.2.1.trans hs)
 clear hst hR hT
 generalize aT R=R1 at *
 generalize aq R1 [40]=R2 at *
 have hB:=rR (T:=T) (p:=p) K 0 0 0 R2 s0.1 s0.2.1
 have s2:=(cu (b:=cm) (fun R h ht=>⟨(bF h ht).1,(bF h ht).2.1⟩) s0.1 s0.2.1).1
 subst hK
 have hX:=aJ (T:=T) (p:=p) (dF cm R2).2 [44] s2.1
 have s3:=s2.trans (aG (t:=[44]) s2.1 s2.2.1)
 have hN:=hkc (aq (dF cm R2).2 [44]) s3.1 s3.2.1 (s3.2.2.1.trans hs2)
 have s4:=(hks (aq (dF cm R2).2 [44]) s3.1 s3.2.1 (s3.2.2.1.trans hs2)).2.1
 have e1:bX kd val 8 R2=(.mk 8 (dF cm R2).1.1 (dF cm R2).1.2 0 [] [(kd (aq (dF cm R2).2 [44])).1] [],(kd (aq (dF cm R2).2 [44])).2):=rfl
 rw[e1]
 clear e1
 generalize dF cm R2=Q at *
 obtain⟨⟨a,b⟩,L⟩:=Q
 simp only at hB s2 hX s3 hN s4 ⊢
 generalize aq L [44]=L2 at *
 generalize kd L2=q at *
 obtain⟨x,L3⟩:=q
 simp only at hN s4 ⊢
 have hE:=aJ (T:=T) (p:=p) L3 [41] s4.1
 have hbs:=Qn x
 obtain⟨t1,t2,t3,t4,t5,t6,t7⟩:=x
 simp only[rdB,rdC,tkP,tyB,tyC,Ul,List.map_cons,List.map_nil] at hadv hop hB hX hN hE hbs ⊢
 refine aI.intro Q56.2 (by simp[Q56]) ?_
 simp(disch:=try exact dI) only[Q56,h0I,hkI,hdI,push_cast,seval]
 refine ae.lentK hadv [0] rfl qsZ qsZ ?_
 refine zgZ ?_
 refine ae.pure hfind rfl ?_
 refine zgZ ?_
 refine ae.lentK hop [0] rfl qsZ qsZ ?_
 refine zgZ ?_
 refine ae.lentK hB [0,12] rfl qsZ qsZ ?_
 refine zgZ ?_
 refine ae.lentK hX [0] rfl qsZ qsZ ?_
 refine zgZ ?_
 refine ae.lentK hN [0] rfl qsZ qsZ ?_
 simp(disch:=try exact dI) only[hbs,push_cast,seval]
 refine ae.lentK hE [0] rfl qsZ qsZ ?_
 refine zgZ ?_
 exact am [] qsZ
end
section
variable {T:Nat}{p:PV}
theorem Pu (val:Rd->Val×Rd)(s:List UInt8)(hsl:s.length<=65536)(hv:mI val s)(hvc:Nd T p val s 0):∀ f d,f+d=8->N2 T p (cU val f) s d:=by
 intro f
 induction f with
 | zero=>
   intro d hd R hR hT hs
   obtain rfl:d=8:=by omega
   by_cases h0:¬ R.e=0
   ·rw[oD h0];exact CP R 8 h0
   have h0:R.e=0:=Classical.not_not.1 h0
   by_cases hk:¬ R.now.kind=1
   ·rw[fV h0 hk];exact vr R 8 h0 hk
   have hk:R.now.kind=1:=Classical.not_not.1 hk
   rw[kq h0 hk];exact CQ R h0 hk
 | succ f ih=>
   intro d hd R hR hT hs
   by_cases h0:¬ R.e=0
   ·rw[oD h0];exact CP R d h0
   have h0:R.e=0:=Classical.not_not.1 h0
   by_cases hk:¬ R.now.kind=1
   ·rw[fV h0 hk];exact vr R d h0 hk
   have hk:R.now.kind=1:=Classical.not_not.1 hk
   have hd8:d<8:=by omega
   by_cases w0:bt R.now.text=0
   ·rw[vj h0 hk w0];exact L8 R d hd8 hR hT h0 hk w0
   by_cases w1:bt R.now.text=1
   ·rw[kr h0 hk w1];exact CS R d hd8 hR hT h0 hk w1
   rw[vm h0 hk w0 w1]
   have ihS:=CT s hsl hv f
   have ihC:=ih (d+1) (by omega)
   have hle:=qJ R.now.text
   obtain⟨K,hK⟩:∃ K,bt R.now.text=K:=⟨_,rfl⟩
   rw[hK] at w0 w1 hle ⊢
   have hc:K=3\/K=6\/K=7\/(K=9\/K=10)\/(K=2\/K=5)\/K=4\/K=8:=by omega
   rcases hc with rfl | rfl | rfl | h | h | h | h
   ·exact G8 R d hd8 hR hT h0 hk hK _ _
   ·exact CR R d hd8 hR hT h0 hk hK _ _
   ·exact CL R d hd8 hR hT h0 hk hK _ _
   ·exact CO K h R d hd8 hR hT h0 hk hK _ _ s hsl ihS ihC hv hvc hs
   ·exact G7 K h R d hd8 hR hT h0 hk hK _ _ s hsl ihS ihC hs
   ·exact CM K h R d hd8 hR hT h0 hk hK _ _ s hsl ihS ihC hs
   ·exact CN K h R d hd8 hR hT h0 hk hK _ _ s hsl ihS ihC hs
theorem Pv (s:List UInt8):(cU (aR srt 8 0) 8 (aY s)).1.ok/\aI Tryz.prog (bE T p) 1 56 [.ptr 0 0,.pv (.int .i64 0)] [rdB (aY s)] (.pv (cU (aR srt 8 0) 8 (aY s)).1.pv) [rdB (cU (aR srt 8 0) 8 (aY s)).2]:=by
 by_cases h:s.length<=65536
 ·exact⟨(CT s h (ig s h 8 0) 8 _ (d9 s) (di s) (fK s)).1,Pu (aR srt 8 0) s h (ig s h 8 0) (IJ s h 8 0 rfl) 8 0 rfl _ (d9 s) (di s) (fK s)⟩
 ·have he:¬ (aY s).e=0:=by rw[ja (by omega)];exact fun h=>absurd (show (5:Int)=0 from h) (by decide)
  rw[oD he]
  exact⟨dz,CP (aY s) 0 he⟩
end
def dh:Typ->List Typ
 | .mk k _ _ _ _ e f=>if k=8 then e else if k=9\/k=10 then f.map TFd.typ else []
theorem Gp (k m M s:Int)(w:List (List UInt8))(e:List Typ)(fs:List TFd)(hf:fs.length*104<=140737488351232):au Tryz.prog aH 143 [(Typ.mk k m M s w e fs).pv] (.list ((dh (.mk k m M s w e fs)).map Typ.pv)):=by
 by_cases h8:k=8
 ·rw[show dh (.mk k m M s w e fs)=e from if_pos h8]
  subst h8
  refine au.intro Iw.2 (by simp[Iw]) ?_
  simp(disch:=try exact dI) only[Iw,Ul,push_cast,seval]
 ·by_cases h9:k=9\/k=10
  ·rw[show dh (.mk k m M s w e fs)=fs.map TFd.typ by simp only[dh];rw[if_neg h8,if_pos h9]]
   have key:∀ c:Bool,True:=fun _=>trivial
   rcases h9 with rfl | rfl
   all_goals
    refine au.intro Iw.2 (by simp[Iw]) ?_
    simp(disch:=try exact dI) only[Iw,Ul,push_cast,seval]
    refine aK ([]) (fun i:Nat=>[(3,.olist 0 7 (((fs.take i).map TFd.typ).map Typ.pv)),(22,.pv (.int .i64 (i:Int)))]) (fun _=>[]) (fun i=>i<=fs.length) (fun i=>fs.length - i) (0) ?_;intro e0 σ0 n0 h0;simp(disch:=try exact dI) only[push_cast,seval] at h0;obtain⟨rfl,rfl,rfl⟩:=h0;refine⟨?_,?_,?_⟩
    ·exact qsZ
    ·omega
    rintro i hi
    by_cases hlt:i<fs.length
    ·have hltI:(i:Int)<(fs.length:Int):=by omega
     obtain⟨c,hc⟩:∃ c,fs[i]? = some c:=⟨_,List.getElem?_eq_getElem hlt⟩
     have hts:=bc hc
     obtain⟨n',nm',nd',⟨k',m',M',s',w',e',f'⟩,d'⟩:=c
     simp(disch:=try exact dI) only[hc,Option.map_some,Ue,Ul,aw,push_cast,seval]
     exact⟨i+1,bu (by simp(disch:=try exact dI) only[hts,List.map_append,TFd.typ,Ul,push_cast,seval]),by omega,by omega⟩
    ·have he:i=fs.length:=by omega
     subst he
     simp(disch:=try exact dI) only[List.take_length,sI,push_cast,seval]
  ·rw[show dh (.mk k m M s w e fs)=[] by simp only[dh];rw[if_neg h8,if_neg h9]]
   have h9':¬ k=9:=by omega
   have h10:¬ k=10:=by omega
   refine au.intro Iw.2 (by simp[Iw]) ?_
   simp(disch:=try exact dI) only[Iw,Ul,push_cast,seval]
open Go.RowKit

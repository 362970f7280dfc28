/- A part. -/
import Derived.Test.YtamoeblcphjbaaaGreatDoorTyLQ3
set_option linter.unusedVariables false
set_option linter.unusedSimpArgs false
set_option maxHeartbeats 16000000
set_option maxRecDepth 100000
open List renaming length_nil->WL,getElem?_eq_getElem->WE,flatMap_cons->Xf,length_append->WF,length_cons->WG,cons_append->WQ,length_take->Xd,append_assoc->WS,nil_append->WO,take_length->WV,all_eq_true->W8
namespace Go.Proofs.YtamoeblcphjbaaaGreatDoor
open Go Go.Ab
attribute [local irreducible] vc
def fY (t:Tk):Prop:=t.kind=2\/t.kind=3\/t.kind=4\/t.kind=1\/t.text=[91]\/t.text=[123]
theorem GK {so:List Fld->List Fld}{f d:Nat}{R:Rd}(h:¬ R.e=0):aS so f d R=(b9,R):=by
 cases f<;>(unfold aS;rw[if_neg h])
theorem oX {so:List Fld->List Fld}{f d:Nat}{R:Rd}(h:R.e=0)(h2:¬ fY R.now):aS so f d R=(b9,ba R R.now.pos 13):=by
 have h3:R.now.kind≠2/\R.now.kind≠3/\R.now.kind≠4/\R.now.kind≠1/\R.now.text≠[91]/\R.now.text≠[123]:=by
  unfold fY at h2
  refine⟨fun q=>h2 (.inl q),fun q=>h2 (.inr (.inl q)),fun q=>h2 (.inr (.inr (.inl q))),fun q=>h2 (.inr (.inr (.inr (.inl q)))),fun q=>h2 (.inr (.inr (.inr (.inr (.inl q))))),fun q=>h2 (.inr (.inr (.inr (.inr (.inr q)))))⟩
 cases f<;>(unfold aS;rw[if_pos h];exact if_pos h3)
theorem xq {t:Tk}(h:fY t):¬ (t.kind≠2/\t.kind≠3/\t.kind≠4/\t.kind≠1/\t.text≠[91]/\t.text≠[123]):=by
 rintro⟨q1,q2,q3,q4,q5,q6⟩
 rcases h with h | h | h | h | h | h
 ·exact q1 h
 ·exact q2 h
 ·exact q3 h
 ·exact q4 h
 ·exact q5 h
 ·exact q6 h
theorem vF {so:List Fld->List Fld}{d:Nat}{R:Rd}(h:R.e=0)(h2:fY R.now):aS so 0 d R=(b9,ba R R.now.pos 23):=by
 unfold aS;rw[if_pos h];exact if_neg (xq h2)
def eL (so:List Fld->List Fld)(f d:Nat)(R:Rd):Val×Rd:=
 if R.now.kind=2/\R.now.dec=true then (.mk 3 R.now.num R.now.sc [] [] [],bi R)
 else if R.now.kind=2 then (.mk 2 R.now.num 0 [] [] [],bi R)
 else if R.now.kind=3 then (.mk 4 0 0 R.now.bytes [] [],bi R)
 else if R.now.kind=4 then (.mk 5 0 0 R.now.bytes [] [],bi R)
 else if R.now.text=[91] then (.mk 8 0 0 [] (fB (aS so f (d+1)) (R.s.length+2) true [] (bi R)).1 [],aw (fB (aS so f (d+1)) (R.s.length+2) true [] (bi R)).2 [93])
 else if R.now.text=[123] then (.mk 9 0 0 [] [] (so (pl (aS so f (d+1)) (R.s.length+2) true [] [] (bi R)).1),aw (pl (aS so f (d+1)) (R.s.length+2) true [] [] (bi R)).2 [125])
 else dc (aS so f (d+1)) (bi R) R.now d
theorem ga {so:List Fld->List Fld}{f d:Nat}{R:Rd}(h:R.e=0)(h2:fY R.now):aS so (f+1) d R=eL so f d R:=by
 rw[aS,if_pos h];exact if_neg (xq h2)
theorem Qq {l:List Fld}(h:∀ x∈l,x.ok):∀ x∈srt l,x.ok:=fun x hx=>h x ((pd l).mem_iff.1 hx)
theorem EF {R:Rd}(hT:OkT R)(h0:R.e=0)(h:fY R.now):R.now.kind≠0:=by
 intro hk
 have ht:=(hT h0).2.2.2.2 hk
 rcases h with h | h | h | h | h | h
 ·rw[hk] at h;cases h
 ·rw[hk] at h;cases h
 ·rw[hk] at h;cases h
 ·rw[hk] at h;cases h
 ·rw[ht] at h;cases h
 ·rw[ht] at h;cases h
theorem vC (s:List UInt8)(hsl:s.length<=65536):∀ f d,ye (aS srt f d) s
 | 0,d=>fun R hR hT hs=>by
   by_cases h0:R.e=0
   ·by_cases hg:fY R.now
    ·rw[vF h0 hg];exact⟨ff,br (by decide),fun h=>absurd h (bY (by decide))⟩
    ·rw[oX h0 hg];exact⟨ff,br (by decide),fun h=>absurd h (bY (by decide))⟩
   ·rw[GK h0];exact⟨ff,.refl hR hT,fun h=>absurd h h0⟩
 | f+1,d=>fun R hR hT hs=>by
   by_cases h0:¬ R.e=0
   ·rw[GK h0];exact⟨ff,.refl hR hT,fun h=>absurd h h0⟩
   have h0:R.e=0:=Classical.not_not.1 h0
   by_cases hg:¬ fY R.now
   ·rw[oX h0 hg];exact⟨ff,br (by decide),fun h=>absurd h (bY (by decide))⟩
   have hg:fY R.now:=Classical.not_not.1 hg
   rw[ga h0 hg]
   have ih:=vC s hsl f (d+1)
   obtain⟨a1,a2⟩:=bq hR hT
   have hk:=EF hT h0 hg
   obtain⟨t1,t2,t3,t4,_⟩:=hT h0
   have has1:=a1.2.2.1.trans hs
   have key:∀ (v:Val) (R':Rd),v.ok->cE (bi R) R'->v.ok/\cE R R'/\(R'.e=0->R.now.pos<R'.now.pos):=by
    intro v R' hv hst
    refine⟨hv,a1.trans hst,fun he=>?_⟩
    have q1:=hst.2.2.2 he
    have q2:=a2 q1.1 hk
    omega
   have hst:=cE.refl a1.1 a1.2.1
   unfold eL
   split
   ·exact key _ _ (fx (d9 (by omega) (by omega)) t1 (d9 (by omega) (by omega)) (by simp)) hst
   split
   ·exact key _ _ (fx (d9 (by omega) (by omega)) t1 bD (by simp)) hst
   split
   ·exact key _ _ (fx (d9 (by omega) (by omega)) bD bD t4) hst
   split
   ·exact key _ _ (fx (d9 (by omega) (by omega)) bD bD t4) hst
   split
   ·obtain⟨k1,k2,k3⟩:=wP ih (R.s.length+2) true [] (bi R) a1.1 a1.2.1 has1 (fun x hx=>by cases hx)
    refine key _ _ ?_ (k2.trans (aO k2.1 k2.2.1))
    rw[WC]
    rw[hs] at k3 ⊢
    simp only[WL] at k3
    rw[hs] at k1
    exact⟨d9 (by omega) (by omega),bD,bD,by simp,by omega,k1,by simp,fun x hx=>by cases hx⟩
   split
   ·obtain⟨k1,k2,k3⟩:=CF ih (R.s.length+2) true [] [] (bi R) a1.1 a1.2.1 has1 (fun x hx=>by cases hx)
    refine key _ _ ?_ (k2.trans (aO k2.1 k2.2.1))
    rw[WC]
    rw[hs] at k3 ⊢
    simp only[WL] at k3
    rw[hs] at k1
    exact⟨d9 (by omega) (by omega),bD,bD,by simp,by simp,(fun x hx=>by cases hx),by rw[jM];omega,Qq k1⟩
   ·have q:=Rl (d:=d) ih a1.1 a1.2.1 has1 t3
    exact key _ _ q.1 q.2
theorem KM {t:Tk}(h:fY t):((t.kind=2)=True/\t.dec=true)\/((t.kind=2)=True/\t.dec=false)\/((t.kind=2)=False/\(t.kind=3)=True)\/((t.kind=2)=False/\(t.kind=3)=False/\(t.kind=4)=True)\/((t.kind=2)=False/\(t.kind=3)=False/\(t.kind=4)=False/\(t.kind=1)=True/\decide (t.text=[91])=true)\/((t.kind=2)=False/\(t.kind=3)=False/\(t.kind=4)=False/\(t.kind=1)=False/\decide (t.text=[91])=true)\/((t.kind=2)=False/\(t.kind=3)=False/\(t.kind=4)=False/\(t.kind=1)=True/\decide (t.text=[91])=false/\decide (t.text=[123])=true)\/((t.kind=2)=False/\(t.kind=3)=False/\(t.kind=4)=False/\(t.kind=1)=False/\decide (t.text=[91])=false/\decide (t.text=[123])=true)\/((t.kind=2)=False/\(t.kind=3)=False/\(t.kind=4)=False/\(t.kind=1)=True/\decide (t.text=[91])=false/\decide (t.text=[123])=false):=by
 unfold fY at h
 by_cases n2:t.kind=2
 ·cases hd:t.dec<;>simp[n2]
 by_cases n3:t.kind=3
 ·simp[n3]
 by_cases n4:t.kind=4
 ·simp[n4]
 by_cases n1:t.kind=1<;>by_cases x1:t.text=[91]<;>by_cases x2:t.text=[123]<;>simp_all
theorem Qg {t:Tk}(h:¬ fY t):(t.kind=2)=False/\(t.kind=3)=False/\(t.kind=4)=False/\(t.kind=1)=False/\decide (t.text=[91])=false/\decide (t.text=[123])=false:=by
 unfold fY at h
 simp only[not_or] at h
 obtain⟨h1,h2,h3,h4,h5,h6⟩:=h
 exact⟨eq_false h1,eq_false h2,eq_false h3,eq_false h4,decide_eq_false h5,decide_eq_false h6⟩
section
variable {T:Nat}{p:PV}
theorem BI (R:Rd)(d:Nat)(h0:¬ R.e=0):aP Tryz.prog (ci T p) 1 46 [.ptr 0 0,.pv (.int .i64 (d:Int))] [rdB R] (.pv b9.pv) [rdB R]:=by
 simp only[rdB,rdC,b9,WD]
 refine aP.intro Q46.2 (by simp[Q46]) ?_
 simp(disch:=try exact dI) only[Q46,h0,push_cast,seval]
 exact au [] qsZ
theorem BH (R:Rd)(d:Nat)(h0:R.e=0)(hg:¬ fY R.now):aP Tryz.prog (ci T p) 1 46 [.ptr 0 0,.pv (.int .i64 (d:Int))] [rdB R] (.pv b9.pv) [rdB (ba R R.now.pos 13)]:=by
 have hf13:=cD (T:=T) (p:=p) R R.now.pos 13
 have h0I:(R.e=0)=True:=eq_true h0
 have hk:=Qg hg
 simp only[rdB,rdC,b9,WD] at hf13 ⊢
 refine aP.intro Q46.2 (by simp[Q46]) ?_
 simp(disch:=try exact dI) only[Q46,h0I,hk,push_cast,seval]
 refine ae.lentK hf13 [0] rfl qsZ qsZ ?_
 refine zgZ ?_
 exact au [] qsZ
theorem Qf (s:List UInt8)(hsl:s.length<=65536):∀ f d,f+d=8->Pv T p (aS srt f d) s d:=by
 intro f
 induction f with
 | zero=>
   intro d hd R hR hT hs
   obtain rfl:d=8:=by omega
   have hf23:=cD (T:=T) (p:=p) R R.now.pos 23
   by_cases h0:¬ R.e=0
   ·rw[GK h0];exact BI R 8 h0
   have h0:R.e=0:=Classical.not_not.1 h0
   have h0I:(R.e=0)=True:=eq_true h0
   by_cases hg:¬ fY R.now
   ·rw[oX h0 hg];exact BH R 8 h0 hg
   have hg:fY R.now:=Classical.not_not.1 hg
   rw[vF h0 hg]
   simp only[rdB,rdC,b9,WD] at hf23 ⊢
   rcases KM hg with hk | hk | hk | hk | hk | hk | hk | hk | hk
   all_goals
    refine aP.intro Q46.2 (by simp[Q46]) ?_
    simp(disch:=try exact dI) only[Q46,h0I,hk,push_cast,seval]
    refine ae.lentK hf23 [0] rfl qsZ (by simp(disch:=try exact dI) only[hk,push_cast,seval]) ?_
    refine zgZ ?_
    exact au [] qsZ
 | succ f ih=>
   intro d hd R hR hT hs
   have ih:=ih (d+1) (by omega)
   have ihS:=vC s hsl f (d+1)
   have hdI:¬ (8:Int)<=(d:Int):=by omega
   by_cases h0:¬ R.e=0
   ·rw[GK h0];exact BI R d h0
   have h0:R.e=0:=Classical.not_not.1 h0
   have h0I:(R.e=0)=True:=eq_true h0
   by_cases hg:¬ fY R.now
   ·rw[oX h0 hg];exact BH R d h0 hg
   have hg:fY R.now:=Classical.not_not.1 hg
   obtain⟨t1,t2,t3,t4,_⟩:=hT h0
   have hadv:=bL (T:=T) (p:=p) R hR
   obtain⟨a1,a2⟩:=bq hR hT
   have has1:=a1.2.2.1.trans hs
   obtain⟨Z,hZ⟩:∃ Z,Z=eL srt f d R:=⟨_,rfl⟩
   rw[ga h0 hg,<- hZ]
   unfold eL at hZ
   have hl:=Ru (T:=T) (p:=p) (aS srt f (d+1)) s d (by omega) ihS ih (bi R) a1.1 a1.2.1 has1 hsl
   have hr:=T2 (T:=T) (p:=p) (aS srt f (d+1)) s d (by omega) ihS ih (bi R) a1.1 a1.2.1 has1 hsl
   have hn:=IU (T:=T) (p:=p) (aS srt f (d+1)) s d (by omega) ihS ih (bi R) R.now a1.1 a1.2.1 has1 t3
   rw[hs] at hZ
   generalize fB (aS srt f (d+1)) (s.length+2) true [] (bi R)=q1 at *
   generalize pl (aS srt f (d+1)) (s.length+2) true [] [] (bi R)=q2 at *
   generalize dc (aS srt f (d+1)) (bi R) R.now d=q3 at *
   generalize bi R=L1 at *
   obtain⟨⟨w1,w2,w3,w4,w5,w6⟩,L2⟩:=q3
   simp only[rdB,rdC,tkP,WD] at hadv hl hr hn
   have b1:=toE (T:=T) (p:=p) (UJ R.now.num R.now.sc)
   have b2:=toE (T:=T) (p:=p) (Uj R.now.num)
   have b3:=toE (T:=T) (p:=p) (Qj R.now.bytes)
   have b4:=toE (T:=T) (p:=p) (UT R.now.bytes)
   have hne:(([123]:List UInt8)=[91])=False:=eq_false (by decide)
   simp only[WD] at b1 b2 b3 b4
   rcases KM hg with hk | hk | hk | hk | hk | hk | hk | hk | hk
   all_goals
    have hk2:=hk
    try simp only[decide_eq_true_eq,decide_eq_false_iff_not] at hk2
    simp only[hk2,hne,and_true,and_false,false_and,true_and,if_true,if_false,Bool.false_eq_true] at hZ
    subst hZ
    simp only[WD,rdB,rdC]
    refine aP.intro Q46.2 (by simp[Q46]) ?_
    simp(disch:=try exact dI) only[Q46,h0I,hdI,hk,push_cast,seval]
    refine ae.lentK hadv [0] rfl qsZ (by simp(disch:=try exact dI) only[hk,push_cast,seval]) ?_
    simp(disch:=try exact dI) only[hk,push_cast,seval]
    first | refine ae.pure b1 rfl ?_ | refine ae.pure b2 rfl ?_ | refine ae.pure b3 rfl ?_ | refine ae.pure b4 rfl ?_ | refine ae.lentK hl [0] rfl qsZ qsZ ?_ | refine ae.lentK hr [0] rfl qsZ qsZ ?_ | refine ae.lentK hn [0] rfl qsZ qsZ ?_
    refine zgZ ?_
    exact au [] qsZ
end
def Gz:List UInt8:=[48,49,50,51,52,53,54,55,56,57,97,98,99,100,101,102]
def hxB (n:Nat):UInt8:=Gz.getD n 0
theorem Ep {n:Nat}(h:n<16):Gz[n]? = some (hxB n):=by
 unfold hxB
 rw[List.getD_eq_getElem?_getD,WE (by simpa[Gz] using h)];rfl
def qx (c:UInt8):List UInt8:=(if 16<=c.toNat then [hxB (c.toNat / 16)] else [])++[hxB (c.toNat % 16)]
def dz (c:UInt8):List UInt8:=
 if c.toNat=34\/c.toNat=92 then [92,c] else if c.toNat=10 then [92,110] else if c.toNat=13 then [92,114] else if c.toNat=9 then [92,116]
 else if c.toNat<32\/c.toNat=127 then 92::117::123::(qx c++[125]) else [c]
def aA (s:List UInt8):List UInt8:=34::(s.flatMap dz++[34])
theorem JU (c:UInt8):(dz c).length<=6:=by
 unfold dz qx
 repeat' split
 all_goals simp
theorem js (s:List UInt8):(s.flatMap dz).length<=6*s.length:=by
 induction s with
 | nil=>simp
 | cons c r ih=>have:=JU c;simp only[Xf,WF,WG];omega
theorem oQ (a b:List UInt8):aD (a++b)=aD a++aD b:=by simp[aD]
theorem fL (a:List UInt8):(aD a).length=a.length:=by simp[aD]
theorem jr {s:List UInt8}{i:Nat}{c:UInt8}(h:s[i]? = some c)(f:UInt8->List UInt8):(s.take (i+1)).flatMap f=(s.take i).flatMap f++f c:=by
 rw[aK h];simp
theorem JS {c:UInt8}(h:c.toNat=34\/c.toNat=92):dz c=[92,c]:=if_pos h
theorem ON {c:UInt8}(h:c.toNat=10):dz c=[92,110]:=by unfold dz;rw[if_neg (by omega),if_pos h]
theorem OM {c:UInt8}(h:c.toNat=13):dz c=[92,114]:=by unfold dz;rw[if_neg (by omega),if_neg (by omega),if_pos h]
theorem OL {c:UInt8}(h:c.toNat=9):dz c=[92,116]:=by unfold dz;rw[if_neg (by omega),if_neg (by omega),if_neg (by omega),if_pos h]
theorem OK {c:UInt8}(h:c.toNat<32\/c.toNat=127)(h1:¬ c.toNat=10)(h2:¬ c.toNat=13)(h3:¬ c.toNat=9):dz c=92::117::123::(qx c++[125]):=by
 unfold dz;rw[if_neg (by omega),if_neg h1,if_neg h2,if_neg h3,if_pos h]
theorem JR {c:UInt8}(h:¬ (c.toNat<32\/c.toNat=127))(h0:¬ (c.toNat=34\/c.toNat=92)):dz c=[c]:=by
 unfold dz;rw[if_neg h0,if_neg (by omega),if_neg (by omega),if_neg (by omega),if_neg h]
theorem wn (s:List UInt8)(hs:s.length<=100000):am Tryz.prog aC 21 [.str s] (.str (aA s)):=by
 refine am.intro Q21.2 (by simp[Q21]) ?_
 simp(disch:=try exact dI) only[Q21,push_cast,seval]
 refine aG ([]) (fun i:Nat=>[(4,.olist 0 1 (aD (34::(s.take i).flatMap dz))),(5,.pv (.int .i64 (i:Int)))]) (fun _=>[]) (fun i=>i<=s.length) (fun i=>s.length - i) (0) ?_;intro e0 σ0 n0 h0;simp(disch:=try exact dI) only[push_cast,seval] at h0;obtain⟨rfl,rfl,rfl⟩:=h0;refine⟨?_,?_,?_⟩
 ·refine zgZ ?_
  exact .refl _
 ·omega
 ·rintro i hi
  by_cases hlt:i<s.length
  ·obtain⟨c,hc⟩:∃ c,s[i]? = some c:=⟨_,WE hlt⟩
   have hltI:(i:Int)<(s.length:Int):=by omega
   have hB:aD (34::(s.take (i+1)).flatMap dz)=aD (34::(s.take i).flatMap dz)++aD (dz c):=by
    rw[jr hc,<- WQ,oQ]
   have hl:(aD (34::(s.take i).flatMap dz)).length<=600001:=by
    have:=js (s.take i)
    rw[fL,WG]
    rw[Xd] at this
    omega
   generalize aD (34::(s.take i).flatMap dz)=Q at *
   by_cases h1:c.toNat=34\/c.toNat=92
   ·have hE:aD (dz c)=[.int .u8 92,.int .u8 (c.toNat:Int)]:=by rw[JS h1];rfl
    rw[hE] at hB
    by_cases h34:c.toNat=34
    ·have h34I:(c.toNat:Int)=34:=by omega
     simp(disch:=try exact dI) only[hltI,hc,h34I,push_cast,seval]
     exact⟨i+1,bl (by simp(disch:=try exact dI) only[hB,h34I,push_cast,seval]),by omega,by omega⟩
    ·have h34I:¬ (c.toNat:Int)=34:=by omega
     have h92I:(c.toNat:Int)=92:=by omega
     simp(disch:=try exact dI) only[hltI,hc,h34I,h92I,push_cast,seval]
     exact⟨i+1,bl (by simp(disch:=try exact dI) only[hB,h92I,push_cast,seval]),by omega,by omega⟩
   ·have h34I:¬ (c.toNat:Int)=34:=by omega
    have h92I:¬ (c.toNat:Int)=92:=by omega
    by_cases h10:c.toNat=10
    ·have h10I:(c.toNat:Int)=10:=by omega
     have hE:aD (dz c)=[.int .u8 92,.int .u8 110]:=by rw[ON h10];rfl
     rw[hE] at hB
     clear h34I h92I
     simp(disch:=try exact dI) only[hltI,hc,h10I,push_cast,seval]
     exact⟨i+1,bl (by simp(disch:=try exact dI) only[hB,push_cast,seval]),by omega,by omega⟩
    have h10I:¬ (c.toNat:Int)=10:=by omega
    by_cases h13:c.toNat=13
    ·have h13I:(c.toNat:Int)=13:=by omega
     have hE:aD (dz c)=[.int .u8 92,.int .u8 114]:=by rw[OM h13];rfl
     rw[hE] at hB
     clear h34I h92I h10I
     simp(disch:=try exact dI) only[hltI,hc,h13I,push_cast,seval]
     exact⟨i+1,bl (by simp(disch:=try exact dI) only[hB,push_cast,seval]),by omega,by omega⟩
    have h13I:¬ (c.toNat:Int)=13:=by omega
    by_cases h9:c.toNat=9
    ·have h9I:(c.toNat:Int)=9:=by omega
     have hE:aD (dz c)=[.int .u8 92,.int .u8 116]:=by rw[OL h9];rfl
     rw[hE] at hB
     clear h34I h92I h10I h13I
     simp(disch:=try exact dI) only[hltI,hc,h9I,push_cast,seval]
     exact⟨i+1,bl (by simp(disch:=try exact dI) only[hB,push_cast,seval]),by omega,by omega⟩
    have h9I:¬ (c.toNat:Int)=9:=by omega
    by_cases h5:c.toNat<32\/c.toNat=127
    ·obtain⟨q,hqN⟩:∃ q,q=c.toNat / 16:=⟨_,rfl⟩
     obtain⟨m,hmN⟩:∃ m,m=c.toNat % 16:=⟨_,rfl⟩
     have hq:((c.toNat:Int) / 16)=(q:Int):=by omega
     have hm:((c.toNat:Int) % 16)=(m:Int):=by omega
     have hxq:=Ep (n:=q) (by omega)
     have hxm:=Ep (n:=m) (by omega)
     unfold Gz at hxq hxm
     have hE:=congrArg aD (OK h5 h10 h13 h9)
     unfold qx at hE
     rw[<- hqN,<- hmN] at hE
     by_cases h16:16<=c.toNat
     ·have h16I:(16:Int)<=(c.toNat:Int):=by omega
      rw[if_pos h16] at hE
      replace hE:aD (dz c)=[.int .u8 92,.int .u8 117,.int .u8 123,.int .u8 ((hxB q).toNat:Int),.int .u8 ((hxB m).toNat:Int),.int .u8 125]:=hE
      rw[hE] at hB
      by_cases h32:c.toNat<32
      ·have h32I:(c.toNat:Int)<32:=by omega
       simp(disch:=try exact dI) only[hltI,hc,h34I,h92I,h10I,h13I,h9I,h32I,h16I,hq,hm,hxq,hxm,push_cast,seval]
       exact⟨i+1,bl (by simp(disch:=try exact dI) only[hB,WS,WQ,WO,push_cast,seval]),by omega,by omega⟩
      ·have h32I:¬ (c.toNat:Int)<32:=by omega
       have h127:((c.toNat:Int)=127)=True:=eq_true (by omega)
       simp(disch:=try exact dI) only[hltI,hc,h34I,h92I,h10I,h13I,h9I,h32I,h127,h16I,hq,hm,hxq,hxm,push_cast,seval]
       exact⟨i+1,bl (by simp(disch:=try exact dI) only[hB,WS,WQ,WO,push_cast,seval]),by omega,by omega⟩
     ·have h16I:¬ (16:Int)<=(c.toNat:Int):=by omega
      rw[if_neg h16] at hE
      replace hE:aD (dz c)=[.int .u8 92,.int .u8 117,.int .u8 123,.int .u8 ((hxB m).toNat:Int),.int .u8 125]:=hE
      rw[hE] at hB
      have h32I:(c.toNat:Int)<32:=by omega
      simp(disch:=try exact dI) only[hltI,hc,h34I,h92I,h10I,h13I,h9I,h32I,h16I,hm,hxm,push_cast,seval]
      exact⟨i+1,bl (by simp(disch:=try exact dI) only[hB,WS,WQ,WO,push_cast,seval]),by omega,by omega⟩
    ·have h32I:¬ (c.toNat:Int)<32:=by omega
     have h127I:¬ (c.toNat:Int)=127:=by omega
     have hE:aD (dz c)=[.int .u8 (c.toNat:Int)]:=by rw[JR h5 h1];rfl
     rw[hE] at hB
     simp(disch:=try exact dI) only[hltI,hc,h34I,h92I,h10I,h13I,h9I,h32I,h127I,push_cast,seval]
     exact⟨i+1,bl (by simp(disch:=try exact dI) only[hB,push_cast,seval]),by omega,by omega⟩
  ·have hltI:¬ (i:Int)<(s.length:Int):=by omega
   obtain rfl:i=s.length:=by omega
   have hl:(aD (34::(s.take s.length).flatMap dz)).length<=600001:=by
    have:=js s
    rw[fL,WG,WV]
    omega
   have hU:u8s (aD (34::(s.take s.length).flatMap dz)++[.int .u8 34])=some (aA s):=by
    rw[WV,show aD (34::s.flatMap dz)++[.int .u8 34]=aD (aA s) by simp[aD,aA]]
    exact iQ _
   generalize aD (34::(s.take s.length).flatMap dz)=Q at *
   simp(disch:=try exact dI) only[hltI,hU,push_cast,seval]
def hx2 (c:UInt8):List UInt8:=[hxB (c.toNat / 16),hxB (c.toNat % 16)]
def ox (s:List UInt8):List UInt8:=120::34::(s.flatMap hx2++[34])
theorem gD (s:List UInt8):(s.flatMap hx2).length=2*s.length:=by
 induction s with
 | nil=>simp
 | cons c r ih=>simp only[Xf,WF,WG,ih,hx2,WL];omega
theorem Oj (s:List UInt8)(hs:s.length<=100000):am Tryz.prog aC 23 [.str s] (.str (ox s)):=by
 refine am.intro Q23.2 (by simp[Q23]) ?_
 simp(disch:=try exact dI) only[Q23,push_cast,seval]
 refine aG ([]) (fun i:Nat=>[(4,.olist 0 1 (aD (120::34::(s.take i).flatMap hx2))),(5,.pv (.int .i64 (i:Int)))]) (fun _=>[]) (fun i=>i<=s.length) (fun i=>s.length - i) (0) ?_;intro e0 σ0 n0 h0;simp(disch:=try exact dI) only[push_cast,seval] at h0;obtain⟨rfl,rfl,rfl⟩:=h0;refine⟨?_,?_,?_⟩
 ·refine zgZ ?_
  exact .refl _
 ·omega
 ·rintro i hi
  by_cases hlt:i<s.length
  ·obtain⟨c,hc⟩:∃ c,s[i]? = some c:=⟨_,WE hlt⟩
   have hltI:(i:Int)<(s.length:Int):=by omega
   obtain⟨q,hqN⟩:∃ q,q=c.toNat / 16:=⟨_,rfl⟩
   obtain⟨m,hmN⟩:∃ m,m=c.toNat % 16:=⟨_,rfl⟩
   have hq:((c.toNat:Int) / 16)=(q:Int):=by omega
   have hm:((c.toNat:Int) % 16)=(m:Int):=by omega
   have hcl:=c.toNat_lt
   have hxq:=Ep (n:=q) (by omega)
   have hxm:=Ep (n:=m) (by omega)
   unfold Gz at hxq hxm
   have hB:aD (120::34::(s.take (i+1)).flatMap hx2)=aD (120::34::(s.take i).flatMap hx2)++[.int .u8 ((hxB q).toNat:Int),.int .u8 ((hxB m).toNat:Int)]:=by
    rw[jr hc,<- WQ,<- WQ,oQ,hqN,hmN];rfl
   have hl:(aD (120::34::(s.take i).flatMap hx2)).length<=600001:=by
    have:=gD (s.take i)
    rw[fL,WG,WG]
    rw[Xd] at this
    omega
   generalize aD (120::34::(s.take i).flatMap hx2)=Q at *
   simp(disch:=try exact dI) only[hltI,hc,hq,hm,hxq,hxm,push_cast,seval]
   exact⟨i+1,bl (by simp(disch:=try exact dI) only[hB,push_cast,seval]),by omega,by omega⟩
  ·have hltI:¬ (i:Int)<(s.length:Int):=by omega
   obtain rfl:i=s.length:=by omega
   have hl:(aD (120::34::(s.take s.length).flatMap hx2)).length<=600001:=by
    have:=gD s
    rw[fL,WG,WG,WV]
    omega
   have hU:u8s (aD (120::34::(s.take s.length).flatMap hx2)++[.int .u8 34])=some (ox s):=by
    rw[WV,show aD (120::34::s.flatMap hx2)++[.int .u8 34]=aD (ox s) by simp[aD,ox]]
    exact iQ _
   generalize aD (120::34::(s.take s.length).flatMap hx2)=Q at *
   simp(disch:=try exact dI) only[hltI,hU,push_cast,seval]
noncomputable def Uu (p:Nat×List Nat):TabRow:=⟨p.1,p.2,(cFn Tryz.prog p.2 p.1).getD ⟨0,[],.skip⟩⟩
theorem ME {l:List (Nat×List Nat)}(h:(l.all fun p=>(cFn Tryz.prog p.2 p.1).isSome)=true):∀ r∈l.map Uu,cFn Tryz.prog r.muts r.f=some r.fn:=by
 intro r hr
 obtain⟨p,hp,rfl⟩:=List.mem_map.1 hr
 have h:=W8.1 h p hp
 simp only[Uu]
 cases h':cFn Tryz.prog p.2 p.1 with
 | some x=>rfl
 | none=>rw[h'] at h;cases h
def VV (f:Nat)(ps:List PV):Option PV:=none
def K3:List (Nat×List Nat):=[(51,[]),(108,[]),(179,[]),(217,[]),(218,[]),(247,[])]
def isS (l:List UInt8):Option PV->Bool
 | some (.str k)=>decide (k=l)
 | _=>false
theorem RD {l:List UInt8}{o:Option PV}(h:isS l o=true):o=some (.str l):=by
 unfold isS at h
 split at h
 ·simp only[decide_eq_true_eq] at h;rw[h]
 ·cases h
def N3:List Nat:=127::List.range 32
theorem Qs:(K3.all fun p=>(cFn Tryz.prog p.2 p.1).isSome)=true:=by kernel_rfl
theorem Wi:(N3.all fun n=>isS (qx (UInt8.ofNat n)) (zy (exF (K3.map Uu) VV aC 200 20) 51 [.int .i64 (n:Int),.int .i64 16]))=true:=by kernel_rfl
theorem JD (c:UInt8)(h:c.toNat<32\/c.toNat=127):am Tryz.prog aC 51 [.int .i64 (c.toNat:Int),.int .i64 16] (.str (qx c)):=by
 have hm:c.toNat∈N3:=by
  simp only[N3,List.mem_cons,List.mem_range];omega
 have:=W8.1 Wi _ hm
 rw[UInt8.ofNat_toNat] at this
 exact am.of_ex (O:=VV) (ME Qs) (fun f ps r h=>by cases h) (RD this)
theorem kq (c:UInt8)(l:List UInt8):bB true (c::l)=[.cells 83 true [.ptr 0 0,.row 1 1 0 (l.length+1)],.cells 5 false ((aD (c::l)).map .pv)]:=rfl
theorem wB (M:List UInt8)(d:UInt8)(h:M.length<=10000000):aP Tryz.prog aC 1 49 [.ptr 0 0,.pv (.int .u8 (d.toNat:Int))] [.cells 83 true [.ptr 0 0,.row 1 1 0 (M.length+1)],.cells 5 false ((aD (34::M)).map .pv)]
  (.pv .nili) [.cells 83 true [.ptr 0 0,.row 1 1 0 ((M++[d]).length+1)],.cells 5 false ((aD (34::(M++[d]))).map .pv)]:=by
 have h:=nM true (34::M) d (by rw[WG];omega)
 rw[WQ,kq,kq] at h;exact h
theorem wS (M k:List UInt8)(h:M.length<=10000000)(hk:k.length<=10000000):aP Tryz.prog aC 1 50 [.ptr 0 0,.pv (.str k)] [.cells 83 true [.ptr 0 0,.row 1 1 0 (M.length+1)],.cells 5 false ((aD (34::M)).map .pv)]
  (.pv (.tup [.int .i64 (k.length:Int),.nili])) [.cells 83 true [.ptr 0 0,.row 1 1 0 ((M++k).length+1)],.cells 5 false ((aD (34::(M++k))).map .pv)]:=by
 have h:=qC true (34::M) k (by rw[WG];omega) (by omega)
 rw[WQ,kq,kq] at h;exact h
theorem mj (s:List UInt8)(hs:s.length<=100000):am Tryz.prog aC 20 [.str s] (.str (aA s)):=by
 have hB0:=nM false [] 34 (by simp)
 simp only[bB,aB,WO] at hB0
 refine am.intro Q20.2 (by simp[Q20]) ?_
 simp(disch:=try exact dI) only[Q20,push_cast,seval]
 refine ae.lentK hB0 [0] rfl qsZ qsZ ?_
 refine zgZ ?_
 refine aG ([]) (fun i:Nat=>[(9,.pv (.int .i64 (i:Int)))]) (fun i=>[(0,.cells 83 true [.ptr 0 0,.row 1 1 0 (((s.take i).flatMap dz).length+1)]),(1,.cells 5 false ((aD (34::(s.take i).flatMap dz)).map .pv))]) (fun i=>i<=s.length) (fun i=>s.length - i) (0) ?_;intro e0 σ0 n0 h0;simp(disch:=try exact dI) only[push_cast,seval] at h0;obtain⟨rfl,rfl,rfl⟩:=h0;refine⟨?_,?_,?_⟩
 ·simp(disch:=try exact dI) only[List.flatMap_nil,WL,Nat.zero_add,push_cast,seval]
 ·omega
 ·rintro i hi
  have hl:((s.take i).flatMap dz).length<=600000:=by
   have:=js (s.take i)
   rw[Xd] at this
   omega
  by_cases hlt:i<s.length
  ·obtain⟨c,hc⟩:∃ c,s[i]? = some c:=⟨_,WE hlt⟩
   have hltI:(i:Int)<(s.length:Int):=by omega
   have hB:=jr hc dz
   generalize (s.take i).flatMap dz=M at *
   by_cases h1:c.toNat=34\/c.toNat=92
   ·rw[JS h1,show M++[92,c]=M++[92]++[c] by simp] at hB
    have k1:=wB M 92 (by omega)
    have k2:=wB (M++[92]) c (by simp;omega)
    rw[show (((92:UInt8).toNat:Nat):Int)=92 from rfl] at k1
    by_cases h34:c.toNat=34
    ·have h34I:((c.toNat:Int)=34)=True:=eq_true (by omega)
     simp(disch:=try exact dI) only[hltI,hc,h34I,push_cast,seval]
     refine ae.lentK k1 [0,1] rfl qsZ qsZ ?_
     refine zgZ ?_
     refine ae.lentK k2 [0,2] rfl qsZ qsZ ?_
     refine zgZ ?_
     exact⟨i+1,bl (by simp(disch:=try exact dI) only[hB,push_cast,seval]),by omega,by omega⟩
    ·have h34I:¬ (c.toNat:Int)=34:=by omega
     have h92I:((c.toNat:Int)=92)=True:=eq_true (by omega)
     simp(disch:=try exact dI) only[hltI,hc,h34I,h92I,push_cast,seval]
     refine ae.lentK k1 [0,1] rfl qsZ qsZ ?_
     refine zgZ ?_
     refine ae.lentK k2 [0,2] rfl qsZ qsZ ?_
     refine zgZ ?_
     exact⟨i+1,bl (by simp(disch:=try exact dI) only[hB,push_cast,seval]),by omega,by omega⟩
   ·have h34I:¬ (c.toNat:Int)=34:=by omega
    have h92I:¬ (c.toNat:Int)=92:=by omega
    by_cases h10:c.toNat=10
    ·have h10I:((c.toNat:Int)=10)=True:=eq_true (by omega)
     rw[ON h10] at hB
     have k1:=wS M [92,110] (by omega) (by simp)
     simp(disch:=try exact dI) only[hltI,hc,h34I,h92I,h10I,push_cast,seval]
     refine ae.lentK k1 [0,1] rfl qsZ qsZ ?_
     refine zgZ ?_
     exact⟨i+1,bl (by simp(disch:=try exact dI) only[hB,push_cast,seval]),by omega,by omega⟩
    have h10I:¬ (c.toNat:Int)=10:=by omega
    by_cases h13:c.toNat=13
    ·have h13I:((c.toNat:Int)=13)=True:=eq_true (by omega)
     rw[OM h13] at hB
     have k1:=wS M [92,114] (by omega) (by simp)
     simp(disch:=try exact dI) only[hltI,hc,h34I,h92I,h10I,h13I,push_cast,seval]
     refine ae.lentK k1 [0,1] rfl qsZ qsZ ?_
     refine zgZ ?_
     exact⟨i+1,bl (by simp(disch:=try exact dI) only[hB,push_cast,seval]),by omega,by omega⟩
    have h13I:¬ (c.toNat:Int)=13:=by omega
    by_cases h9:c.toNat=9
    ·have h9I:((c.toNat:Int)=9)=True:=eq_true (by omega)
     rw[OL h9] at hB
     have k1:=wS M [92,116] (by omega) (by simp)
     simp(disch:=try exact dI) only[hltI,hc,h34I,h92I,h10I,h13I,h9I,push_cast,seval]
     refine ae.lentK k1 [0,1] rfl qsZ qsZ ?_
     refine zgZ ?_
     exact⟨i+1,bl (by simp(disch:=try exact dI) only[hB,push_cast,seval]),by omega,by omega⟩
    have h9I:¬ (c.toNat:Int)=9:=by omega
    by_cases h5:c.toNat<32\/c.toNat=127
    ·have hf:=JD c h5
     have hxl:(qx c).length<=2:=by unfold qx;split<;>simp
     rw[OK h5 h10 h13 h9] at hB
     generalize qx c=X at *
     have k1:=wS M (92::117::123::(X++[125])) (by omega) (by simp;omega)
     by_cases h32:c.toNat<32
     ·have h32I:(c.toNat:Int)<32:=by omega
      simp(disch:=try exact dI) only[hltI,hc,h34I,h92I,h10I,h13I,h9I,h32I,push_cast,seval]
      refine ae.pure hf rfl ?_
      refine zgZ ?_
      refine ae.lentK k1 [0,1] rfl qsZ qsZ ?_
      refine zgZ ?_
      exact⟨i+1,bl (by simp(disch:=try exact dI) only[hB,push_cast,seval]),by omega,by omega⟩
     ·have h32I:¬ (c.toNat:Int)<32:=by omega
      have h127:((c.toNat:Int)=127)=True:=eq_true (by omega)
      simp(disch:=try exact dI) only[hltI,hc,h34I,h92I,h10I,h13I,h9I,h32I,h127,push_cast,seval]
      refine ae.pure hf rfl ?_
      refine zgZ ?_
      refine ae.lentK k1 [0,1] rfl qsZ qsZ ?_
      refine zgZ ?_
      exact⟨i+1,bl (by simp(disch:=try exact dI) only[hB,push_cast,seval]),by omega,by omega⟩
    ·have h32I:¬ (c.toNat:Int)<32:=by omega
     have h127I:¬ (c.toNat:Int)=127:=by omega
     rw[JR h5 h1] at hB
     have k1:=wB M c (by omega)
     simp(disch:=try exact dI) only[hltI,hc,h34I,h92I,h10I,h13I,h9I,h32I,h127I,push_cast,seval]
     refine ae.lentK k1 [0,1] rfl qsZ qsZ ?_
     refine zgZ ?_
     exact⟨i+1,bl (by simp(disch:=try exact dI) only[hB,push_cast,seval]),by omega,by omega⟩
  ·have hltI:¬ (i:Int)<(s.length:Int):=by omega
   obtain rfl:i=s.length:=by omega
   have hq:aA s=34::((s.take s.length).flatMap dz++[34]):=by rw[WV];rfl
   rw[hq]
   generalize (s.take s.length).flatMap dz=M at *
   have k1:=wB M 34 (by omega)
   have k2:=lN true (34::(M++[34])) (by simp;omega)
   rw[kq] at k2
   rw[show (((34:UInt8).toNat:Nat):Int)=34 from rfl] at k1
   simp(disch:=try exact dI) only[hltI,push_cast,seval]
   refine ae.lentK k1 [0,1] rfl qsZ qsZ ?_
   refine zgZ ?_
   refine ae.lentK k2 [0,2] rfl qsZ qsZ ?_
   exact qsZ

/- A part of the proof. -/
import Derived.Test.YtbojpfpliibfbaaGreatDoorCaRS1
set_option maxHeartbeats 16000000
set_option maxRecDepth 100000
set_option linter.unusedVariables false
set_option linter.unusedSimpArgs false
namespace Go.Proofs.YtbojpfpliibfbaaGreatDoor
open Go Go.Ab
attribute [local irreducible] vc
def cB (k:Int)(before:List TFd):TFd->Int
 | .mk n nm nd _ d=>if cJ nm=false then 12 else if inB n 1 9999=false then 2 else if before.any (nT n nm)=true then 7 else if inB nd 1 3=false then 11 else if k=10/\¬ nd=1 then 11
   else if nd=3/\d.length=0 then 4 else if 1<d.length then 3 else if ¬ nd=3/\0<d.length then 3 else 0
theorem Gq (k m M s:Int)(w:List (List UInt8))(e:List Typ)(fs:List TFd)(hl:fs.length<=9000000000000)(i:Nat)(g:TFd)(hg:fs[i]? = some g) :
  ag Tryz.prog au 232 [(Typ.mk k m M s w e fs).pv,.int .i64 (i:Int)] (.int .i64 (cB k (fs.take i) g)):=by
 obtain⟨n,nm,nd,⟨k',m',M',s',w',e',f'⟩,d⟩:=g
 have hlt:i<fs.length:=by
  rcases Nat.lt_or_ge i fs.length with h | h
  ·exact h
  ·rw[List.getElem?_eq_none h] at hg;cases hg
 have hfp:(fs.map TFd.pv)[i]? = some (TFd.mk n nm nd (.mk k' m' M' s' w' e' f') d).pv:=by simp[hg]
 have hn:=q8 nm
 have hi1:=o9 n 1 9999
 have hi2:=o9 nd 1 3
 have hc:=rK n nm nd k' m' M' s' w' e' f' d (fs.take i) (by simp;omega)
 rw[List.map_take] at hc
 simp only[eN] at hc
 simp only[cB]
 generalize (fs.take i).any (nT n nm)=q at hc ⊢
 refine ag.intro Rp.2 (by simp[Rp]) ?_
 generalize cJ nm=b1 at hn ⊢
 generalize inB n 1 9999=b2 at hi1 ⊢
 generalize inB nd 1 3=b3 at hi2 ⊢
 simp(disch:=try exact dI) only[Rp,Typ.pv_mk,TFd.pv_mk,hg,Option.map_some,push_cast,seval]
 refine ab.pure hn rfl ?_
 cases b1 with
 | false=>simp(disch:=try exact dI) only[push_cast,seval]
 | true=>
 refine zgZ ?_
 refine ab.pure hi1 rfl ?_
 cases b2 with
 | false=>simp(disch:=try exact dI) only[push_cast,seval]
 | true=>
 refine zgZ ?_
 refine ab.lentK hc [3] rfl qsZ qsZ ?_
 cases q with
 | true=>simp(disch:=try exact dI) only[push_cast,seval]
 | false=>
 refine zgZ ?_
 refine ab.pure hi2 rfl ?_
 cases b3 with
 | false=>simp(disch:=try exact dI) only[push_cast,seval]
 | true=>
 by_cases hk:k=10/\¬ nd=1
 ·obtain⟨hk,hnd⟩:=hk
  subst hk
  rw[if_pos (show (10:Int)=10/\¬ nd=1 from⟨rfl,hnd⟩)]
  simp(disch:=try exact dI) only[hnd,push_cast,seval]
 rw[if_neg hk]
 have hfin:∀ (x:Int),x=(if nd=3/\d.length=0 then (4:Int) else if 1<d.length then 3 else if ¬ nd=3/\0<d.length then 3 else 0)->x=4/\nd=3/\d.length=0\/x=3/\1<d.length\/x=3/\¬ nd=3/\d.length=1\/x=0/\nd=3/\d.length=1\/x=0/\¬ nd=3/\d.length=0:=by
  intro x hx
  split at hx
  ·omega
  ·split at hx
   ·omega
   ·split at hx<;>omega
 obtain⟨x,hx⟩:∃ x,x=(if nd=3/\d.length=0 then (4:Int) else if 1<d.length then 3 else if ¬ nd=3/\0<d.length then 3 else 0):=⟨_,rfl⟩
 have hc5:=hfin x hx
 rw[<- hx]
 clear hfin hx
 have hk':k=10/\nd=1\/¬ k=10:=by
  by_cases h:k=10
  ·exact .inl ⟨h,Decidable.byContradiction fun hh=>hk ⟨h,hh⟩⟩
  ·exact .inr h
 clear hk
 rcases hc5 with ⟨rfl,rfl,h0⟩ | ⟨rfl,h1⟩ | ⟨rfl,hnd,h0⟩ | ⟨rfl,rfl,h0⟩ | ⟨rfl,hnd,h0⟩
 ·rcases hk' with ⟨_,hh⟩ | hk
  ·exact absurd hh (by decide)
  ·have h0I:(d.length:Int)=0:=by omega
   simp(disch:=try exact dI) only[hk,h0I,push_cast,seval]
 ·have h0I:¬ (d.length:Int)=0:=by omega
  have h1I:(1:Int)<d.length:=by omega
  rcases hk' with ⟨rfl,rfl⟩ | hk
  ·simp(disch:=try exact dI) only[h0I,h1I,push_cast,seval]
  ·by_cases hnd:nd=3
   ·simp(disch:=try exact dI) only[hk,hnd,h0I,h1I,push_cast,seval]
   ·simp(disch:=try exact dI) only[hk,hnd,h0I,h1I,push_cast,seval]
 ·have h0I:(d.length:Int)=1:=by omega
  rcases hk' with ⟨rfl,rfl⟩ | hk
  ·simp(disch:=try exact dI) only[h0I,push_cast,seval]
  ·simp(disch:=try exact dI) only[hk,hnd,h0I,push_cast,seval]
 ·have h0I:(d.length:Int)=1:=by omega
  rcases hk' with ⟨_,hh⟩ | hk
  ·exact absurd hh (by decide)
  ·simp(disch:=try exact dI) only[hk,h0I,push_cast,seval]
 ·have h0I:(d.length:Int)=0:=by omega
  rcases hk' with ⟨rfl,rfl⟩ | hk
  ·simp(disch:=try exact dI) only[h0I,push_cast,seval]
  ·simp(disch:=try exact dI) only[hk,hnd,h0I,push_cast,seval]
def Bh:List PV:=[.str [],.int .i64 0,.int .i64 0,.bool false,.bool false,.bool false,.bool false,.bool false,.str [98,111,111,108],.int .i64 0,.int .i64 0,.bool false,.bool false,.bool false,.bool false,.bool false,.str [105,110,116],.int .i64 (-999999999999999),.int .i64 999999999999999,.bool true,.bool false,.bool false,.bool false,.bool false,.str [100,101,99,105,109,97,108],.int .i64 (-999999999999999),.int .i64 999999999999999,.bool true,.bool true,.bool false,.bool false,.bool false,.str [116,101,120,116],.int .i64 0,.int .i64 1024,.bool true,.bool false,.bool true,.bool false,.bool false,.str [98,121,116,101,115],.int .i64 0,.int .i64 1024,.bool true,.bool false,.bool false,.bool false,.bool false,.str [100,97,116,101],.int .i64 (-719162),.int .i64 2932896,.bool true,.bool false,.bool false,.bool false,.bool false,.str [116,105,109,101],.int .i64 (-62135596800000),.int .i64 253402300799999,.bool true,.bool false,.bool false,.bool false,.bool false,.str [108,105,115,116],.int .i64 0,.int .i64 256,.bool true,.bool false,.bool false,.bool true,.bool false,.str [114,101,99,111,114,100],.int .i64 0,.int .i64 0,.bool false,.bool false,.bool false,.bool false,.bool true,.str [118,97,114,105,97,110,116],.int .i64 0,.int .i64 0,.bool false,.bool false,.bool false,.bool false,.bool true]
theorem FT:ag Tryz.prog au 229 [] (.agg Bh):=by
 refine ag.intro Rq.2 (by simp[Rq]) ?_
 simp only[Bh]
 simp(disch:=try exact dI) only[Rq,push_cast,seval]
def loK (k:Int):Int:=if k=2 then (-999999999999999) else if k=3 then (-999999999999999) else if k=6 then (-719162) else if k=7 then (-62135596800000) else 0
def hiK (k:Int):Int:=if k=2 then 999999999999999 else if k=3 then 999999999999999 else if k=4 then 1024 else if k=5 then 1024 else if k=6 then 2932896 else if k=7 then 253402300799999 else if k=8 then 256 else 0
def fE (k:Int)(t:Typ):Bool:=aL (decide (2<=k)&&decide (k<=8)) (decide (k=3)) (decide (k=4)) (decide (k=8)) (decide (9<=k)) t
def dh (k m M s:Int)(w:List (List UInt8)):Int:=if k=4/\0<w.length then eH m M w else if (2<=k/\k<=8)/\(M<m\/m<loK k\/hiK k<M) then 2 else if k=3/\inB s 0 12=false then 2 else 0
def cG (k:Int)(e f:Nat):Int:=if k=8/\e=0 then 4 else if k=10/\f=0 then 4 else if k=8/\1<e then 3 else if 64<f then 9 else 0
def b9 (k:Int):List TFd->List TFd->Int
 | _,[]=>0
 | b,g::r=>if cB k b g=0 then b9 k (b++[g]) r else cB k b g
theorem ph {k:Int}{f:List TFd}{i:Nat}{g:TFd}(h:f[i]? = some g):b9 k (f.take i) (f.drop i)=if cB k (f.take i) g=0 then b9 k (f.take (i+1)) (f.drop (i+1)) else cB k (f.take i) g:=by
 have hi:=(List.getElem?_eq_some_iff.1 h).1
 have he:f[i]=g:=(List.getElem?_eq_some_iff.1 h).2
 rw[List.drop_eq_getElem_cons hi,he,b9,aM h]
def dK:Typ->Int
 | .mk k m M s w e f=>if inB k 1 10=false then 11 else if fE k (.mk k m M s w e f)=true then 3 else if ¬ dh k m M s w=0 then dh k m M s w else if ¬ cG k e.length f.length=0 then cG k e.length f.length else b9 k [] f
section
variable (m M s:Int)(w:List (List UInt8))(e:List Typ)(f:List TFd)
theorem MV (k:Int)(hk:1<=k/\k<=10):∃ nm,dA true 11 8 (.pv (.agg Bh)) (.pv (.int .i64 k))=some (.pv (lim nm (loK k) (hiK k) (decide (2<=k)&&decide (k<=8)) (decide (k=3)) (decide (k=4)) (decide (k=8)) (decide (9<=k)))) /\
  ag Tryz.prog au 230 [(Typ.mk k m M s w e f).pv,lim nm (loK k) (hiK k) (decide (2<=k)&&decide (k<=8)) (decide (k=3)) (decide (k=4)) (decide (k=8)) (decide (9<=k))] (.int .i64 (if fE k (.mk k m M s w e f)=true then 3 else 0)):=by
 have hc:k=1\/k=2\/k=3\/k=4\/k=5\/k=6\/k=7\/k=8\/k=9\/k=10:=by omega
 rcases hc with rfl | rfl | rfl | rfl | rfl | rfl | rfl | rfl | rfl | rfl
 all_goals first | exact⟨_,rfl,BK _ m M s w e f _ _ _⟩ | exact⟨_,rfl,BN _ m M s w e f _ _ _⟩ | exact⟨_,rfl,BM _ m M s w e f _ _ _⟩ | exact⟨_,rfl,BI _ m M s w e f _ _ _⟩ | exact⟨_,rfl,BL _ m M s w e f _ _ _⟩ | exact⟨_,rfl,BJ _ m M s w e f _ _ _⟩
theorem Nf (k:Int)(hw:∀ x∈w,x.length<=140737488351232)(hl:f.length<=9000000000000)(hwl:w.length<=9000000000000)(hel:e.length<=9000000000000):ag Tryz.prog au 178 [(Typ.mk k m M s w e f).pv] (.int .i64 (dK (.mk k m M s w e f))):=by
 have hi:=o9 k 1 10
 by_cases hk:inB k 1 10=false
 ·rw[hk] at hi
  rw[show dK (.mk k m M s w e f)=11 by simp[dK,hk]]
  refine ag.intro Mg.2 (by simp[Mg]) ?_
  simp(disch:=try exact dI) only[Mg,Typ.pv_mk,push_cast,seval]
  refine ab.pure hi rfl ?_
  exact qsZ
 have hk:inB k 1 10=true:=by simpa using hk
 have hr:1<=k/\k<=10:=by simpa[inB] using hk
 rw[hk] at hi
 obtain⟨nm,hx,hf⟩:=MV m M s w e f k hr
 have hks:=FT
 have h190:=DJ k m M s w e f hw
 have hsc:=o9 s 0 12
 obtain⟨R,hR⟩:∃ R,R=b9 k [] f:=⟨_,rfl⟩
 rw[show dK (.mk k m M s w e f)=if fE k (.mk k m M s w e f)=true then 3 else if ¬ dh k m M s w=0 then dh k m M s w else if ¬ cG k e.length f.length=0 then cG k e.length f.length else R by rw[dK,if_neg (by rw[hk];decide),hR]]
 simp only[Typ.pv_mk,lim] at hf hx h190
 generalize fE k (.mk k m M s w e f)=b at hf ⊢
 refine ag.intro Mg.2 (by simp[Mg]) ?_
 simp(disch:=try exact dI) only[Mg,Typ.pv_mk,push_cast,seval]
 refine ab.pure hi rfl ?_
 refine zgZ ?_
 refine aq hks rfl ?_
 simp(disch:=try exact dI) only[hx,push_cast,seval]
 refine ab.pure hf rfl ?_
 cases b with
 | true=>
   rw[if_pos rfl]
   exact qsZ
 | false=>
 rw[if_neg (show ¬ false=true by decide)]
 obtain⟨lo,hlo⟩:∃ lo,lo=loK k:=⟨_,rfl⟩
 obtain⟨hi',hhi⟩:∃ hi',hi'=hiK k:=⟨_,rfl⟩
 rw[<- hlo,<- hhi]
 by_cases hw4:k=4/\0<w.length
 case' pos=>
  have hw0I:(0:Int)<(w.length:Int):=by omega
  have h4:k=4:=hw4.1
  rw[show dh k m M s w=eH m M w by unfold dh;rw[if_pos hw4]]
  generalize eH m M w=z at h190 ⊢
  simp(disch:=try exact dI) only[eq_true h4,hw0I,push_cast,seval]
  refine ab.pure h190 rfl ?_
  by_cases hz:z=0
  case' neg=>rw[if_pos hz];simp(disch:=try exact dI) only[hz,push_cast,seval]
  case' pos=>rw[if_neg (by simpa using hz)]
 case' neg=>
  by_cases h4:k=4
  case' pos=>
   have hw0I:¬ (0:Int)<(w.length:Int):=by omega
   have h4':=eq_true h4
  case' neg=>
   have hw0I:=h4
   have h4':=eq_false h4
  all_goals
   by_cases hb:2<=k/\k<=8
   case' neg=>
    have hB:(decide (2<=k)&&decide (k<=8))=false:=by simp;omega
    have h3:¬ k=3:=by omega
    rw[show dh k m M s w=0 by unfold dh;rw[if_neg hw4,if_neg (fun h=>hb h.1)];exact if_neg fun h=>h3 h.1,if_neg (by simp)]
    simp(disch:=try exact dI) only[h4',hw0I,hB,eq_false h3,push_cast,seval]
   case' pos=>
    have hB:(decide (2<=k)&&decide (k<=8))=true:=by simp;omega
    by_cases hbad:M<m\/m<lo\/hi'<M
    case' pos=>
     rw[show dh k m M s w=2 by unfold dh;rw[if_neg hw4,if_pos ⟨hb,by rw[<- hlo,<- hhi];exact hbad⟩],if_pos (by decide)]
     rcases hbad with h | h | h
     ·simp(disch:=try exact dI) only[h4',hw0I,hB,h,push_cast,seval]
     ·by_cases g:M<m
      ·simp(disch:=try exact dI) only[h4',hw0I,hB,g,push_cast,seval]
      ·simp(disch:=try exact dI) only[h4',hw0I,hB,g,h,push_cast,seval]
     ·by_cases g:M<m
      ·simp(disch:=try exact dI) only[h4',hw0I,hB,g,push_cast,seval]
      ·by_cases g':m<lo
       ·simp(disch:=try exact dI) only[h4',hw0I,hB,g,g',push_cast,seval]
       ·simp(disch:=try exact dI) only[h4',hw0I,hB,g,g',h,push_cast,seval]
    case' neg=>
     have n1:¬ M<m:=fun h=>hbad (.inl h)
     have n2:¬ m<lo:=fun h=>hbad (.inr (.inl h))
     have n3:¬ hi'<M:=fun h=>hbad (.inr (.inr h))
     have hb0:dh k m M s w=if k=3/\inB s 0 12=false then 2 else 0:=by unfold dh;rw[if_neg hw4,if_neg (fun h=>hbad (by rw[hlo,hhi];exact h.2))]
     by_cases h3:k=3
     case' neg=>
      rw[show dh k m M s w=0 by rw[hb0];exact if_neg fun h=>h3 h.1,if_neg (by simp)]
      simp(disch:=try exact dI) only[h4',hw0I,hB,n1,n2,n3,eq_false h3,push_cast,seval]
     case' pos=>
      have h4':=eq_false (show ¬ k=4 by omega)
      rw[show dh k m M s w=if inB s 0 12=false then 2 else 0 by rw[hb0];simp only[h3,true_and]]
      generalize inB s 0 12=q at hsc ⊢
      simp(disch:=try exact dI) only[h4',hw0I,hB,n1,n2,n3,eq_true h3,push_cast,seval]
      refine ab.pure hsc rfl ?_
      cases q
      case' false=>rw[if_pos rfl,if_pos (by decide)];simp(disch:=try exact dI) only[push_cast,seval]
      case' true=>rw[if_neg (show ¬ true=false by decide),if_neg (by decide)]
 any_goals omega
 all_goals
  have hcs:(k=8/\e.length=0)\/(k=8/\¬ e.length=0/\1<e.length)\/(k=10/\f.length=0)\/((¬ (k=8/\e.length=0)/\¬ (k=10/\f.length=0))/\¬ (k=8/\1<e.length)):=by omega
  rcases hcs with ⟨h8,he⟩ | ⟨h8,he,he1⟩ | ⟨h8,he⟩ | ⟨⟨h1,h2⟩,h3⟩
  ·rw[if_pos (by simp[cG,h8,he]),show cG k e.length f.length=4 by simp[cG,h8,he]]
   have he:(e.length:Int)=0:=by omega
   simp(disch:=try exact dI) only[eq_true h8,he,push_cast,seval]
   all_goals omega
  ·rw[if_pos (by simp[cG,h8,he,he1]),show cG k e.length f.length=3 by simp[cG,h8,he,he1]]
   have he:¬ (e.length:Int)=0:=by omega
   have he1:(1:Int)<(e.length:Int):=by omega
   have h10:¬ k=10:=by omega
   simp(disch:=try exact dI) only[eq_true h8,eq_false h10,he,he1,push_cast,seval]
   all_goals omega
  ·have h8':¬ k=8:=by omega
   rw[if_pos (by simp[cG,h8,he]),show cG k e.length f.length=4 by simp[cG,h8,he]]
   have he:(f.length:Int)=0:=by omega
   simp(disch:=try exact dI) only[eq_true h8,eq_false h8',he,push_cast,seval]
   all_goals omega
  ·have hs0:64<f.length\/cG k e.length f.length=0:=by
    by_cases h:64<f.length
    ·exact .inl h
    ·exact .inr (by unfold cG;rw[if_neg h1,if_neg h2,if_neg h3,if_neg h])
   have hs9:64<f.length->cG k e.length f.length=9:=fun h=>by unfold cG;rw[if_neg h1,if_neg h2,if_neg h3,if_pos h]
   generalize cG k e.length f.length=z at hs0 hs9 ⊢
   by_cases a:k=8
   case' pos=>
    have b:¬ k=10:=by omega
    have g:¬ (e.length:Int)=0:=by omega
    have g':¬ (1:Int)<(e.length:Int):=by omega
    first
    | omega
    | simp(disch:=try exact dI) only[eq_true a,eq_false b,g,g',push_cast,seval]
   case' neg=>
    by_cases b:k=10
    case' pos=>
     have g:¬ (f.length:Int)=0:=by omega
     first
     | omega
     | simp(disch:=try exact dI) only[eq_false a,eq_true b,g,push_cast,seval]
    case' neg=>try simp(disch:=try exact dI) only[eq_false a,eq_false b,push_cast,seval]
   all_goals
    by_cases h64:64<f.length
    case' pos=>
     have h64I:(64:Int)<(f.length:Int):=by omega
     rw[hs9 h64,if_pos (by decide)]
     simp(disch:=try exact dI) only[h64I,push_cast,seval]
    case' neg=>
     have h64I:¬ (64:Int)<(f.length:Int):=by omega
     rw[hs0.resolve_left h64,if_neg (show ¬ ¬ (0:Int)=0 by decide)]
     simp(disch:=try exact dI) only[h64I,push_cast,seval]
     refine az ([]) (fun i:Nat=>[(106,.pv (.int .i64 (i:Int)))]) (fun _=>[]) (fun i=>i<=f.length/\R=b9 k (f.take i) (f.drop i)) (fun i=>f.length - i) (0) ?_;intro e0 σ0 n0 h0;simp(disch:=try exact dI) only[push_cast,seval] at h0;obtain⟨rfl,rfl,rfl⟩:=h0;refine⟨?_,?_,?_⟩
     ·exact qsZ
     ·exact⟨by omega,by simpa using hR⟩
     rintro i ⟨hi,hr⟩
     by_cases hlt:i<f.length
     ·have hltI:(i:Int)<(f.length:Int):=by omega
      obtain⟨g,hg⟩:∃ g,f[i]? = some g:=⟨_,List.getElem?_eq_getElem hlt⟩
      have hfi:=Gq k m M s w e f hl i g hg
      simp only[Typ.pv_mk] at hfi
      rw[ph hg] at hr
      generalize cB k (f.take i) g=z2 at hfi hr
      by_cases hz2:z2=0
      ·subst hz2
       rw[if_pos rfl] at hr
       refine zgZ ?_
       refine ab.pure hfi rfl ?_
       refine zgZ ?_
       exact⟨i+1,aZ qsZ,⟨by omega,hr⟩,by omega⟩
      ·rw[if_neg hz2] at hr
       subst hr
       refine zgZ ?_
       refine ab.pure hfi rfl ?_
       simp(disch:=try exact dI) only[hz2,push_cast,seval]
     ·obtain rfl:i=f.length:=by omega
      rw[List.drop_length,b9] at hr
      subst hr
      simp(disch:=try exact dI) only[Int.lt_irrefl,push_cast,seval]
end
def cm:Typ->List Typ
 | .mk k _ _ _ _ e f=>if k=8 then e else if k=9\/k=10 then f.map TFd.typ else []
theorem Fd (k m M s:Int)(w:List (List UInt8))(e:List Typ)(fs:List TFd)(hf:fs.length*104<=140737488351232):ag Tryz.prog au 179 [(Typ.mk k m M s w e fs).pv] (.list ((cm (.mk k m M s w e fs)).map Typ.pv)):=by
 by_cases h8:k=8
 ·rw[show cm (.mk k m M s w e fs)=e from if_pos h8]
  subst h8
  refine ag.intro G9.2 (by simp[G9]) ?_
  simp(disch:=try exact dI) only[G9,Typ.pv_mk,push_cast,seval]
 ·by_cases h9:k=9\/k=10
  ·rw[show cm (.mk k m M s w e fs)=fs.map TFd.typ by simp only[cm];rw[if_neg h8,if_pos h9]]
   have key:∀ c:Bool,True:=fun _=>trivial
   rcases h9 with rfl | rfl
   all_goals
    refine ag.intro G9.2 (by simp[G9]) ?_
    simp(disch:=try exact dI) only[G9,Typ.pv_mk,push_cast,seval]
    refine az ([]) (fun i:Nat=>[(3,.olist 0 7 (((fs.take i).map TFd.typ).map Typ.pv)),(22,.pv (.int .i64 (i:Int)))]) (fun _=>[]) (fun i=>i<=fs.length) (fun i=>fs.length - i) (0) ?_;intro e0 σ0 n0 h0;simp(disch:=try exact dI) only[push_cast,seval] at h0;obtain⟨rfl,rfl,rfl⟩:=h0;refine⟨?_,?_,?_⟩
    ·exact qsZ
    ·omega
    rintro i hi
    by_cases hlt:i<fs.length
    ·have hltI:(i:Int)<(fs.length:Int):=by omega
     obtain⟨c,hc⟩:∃ c,fs[i]? = some c:=⟨_,List.getElem?_eq_getElem hlt⟩
     have hts:=aM hc
     obtain⟨n',nm',nd',⟨k',m',M',s',w',e',f'⟩,d'⟩:=c
     simp(disch:=try exact dI) only[hc,Option.map_some,TFd.pv_mk,Typ.pv_mk,am,push_cast,seval]
     exact⟨i+1,aZ (by simp(disch:=try exact dI) only[hts,List.map_append,TFd.typ,Typ.pv_mk,push_cast,seval]),by omega,by omega⟩
    ·have he:i=fs.length:=by omega
     subst he
     simp(disch:=try exact dI) only[List.take_length,qU,push_cast,seval]
  ·rw[show cm (.mk k m M s w e fs)=[] by simp only[cm];rw[if_neg h8,if_neg h9]]
   have h9':¬ k=9:=by omega
   have h10:¬ k=10:=by omega
   refine ag.intro G9.2 (by simp[G9]) ?_
   simp(disch:=try exact dI) only[G9,Typ.pv_mk,push_cast,seval]
def xy:Nat->Val->Prop
 | 0,_=>False
 | n+1,v=>(∀ x∈v.lst,xy n x)/\∀ x∈v.fields,xy n x.value
theorem lf:∀ (n:Nat) (v:Val),xy n v->xy (n+1) v
 | 0,_,h=>h.elim
 | n+1,v,h=>⟨fun x hx=>lf n x (h.1 x hx),fun x hx=>lf n x.value (h.2 x hx)⟩
theorem nI {n m:Nat}(h:n<=m){v:Val}(hv:xy n v):xy m v:=by
 induction h with
 | refl=>exact hv
 | step _ ih=>exact lf _ _ ih
theorem rR {α:Type}(g:α->Val):∀ l:List α,(∀ x∈l,∃ n,xy n (g x))->∃ n,∀ x∈l,xy n (g x)
 | [],_=>⟨0,by simp⟩
 | x::r,h=>by
   obtain⟨n,hn⟩:=h x (by simp)
   obtain⟨m,hm⟩:=rR g r fun y hy=>h y (List.mem_cons_of_mem _ hy)
   refine⟨max n m,fun y hy=>?_⟩
   rcases List.mem_cons.1 hy with rfl | hy
   ·exact nI (Nat.le_max_left _ _) hn
   ·exact nI (Nat.le_max_right _ _) (hm y hy)
theorem nJ (v:Val):∃ n,xy n v:=by
 obtain⟨k,n,s,t,l,fs⟩:=v
 have h1:∀ x∈l,∃ n,xy n x:=fun x hx=>nJ x
 have h2:∀ x∈fs,∃ n,xy n x.value:=fun x hx=>by
  obtain⟨nm,y⟩:=x
  exact nJ y
 obtain⟨a,ha⟩:=rR id l h1
 obtain⟨b,hb⟩:=rR Fld.value fs h2
 exact⟨max a b+1,fun x hx=>nI (Nat.le_max_left _ _) (ha x hx),fun x hx=>nI (Nat.le_max_right _ _) (hb x hx)⟩
termination_by SizeOf.sizeOf v
decreasing_by
 ·have:=List.sizeOf_lt_of_mem hx;simp;omega
 ·have:=List.sizeOf_lt_of_mem hx;simp at this ⊢;omega
theorem nC:∀ (n:Nat) (v:Val),xy n v->kU n v
 | 0,_,h=>h
 | n+1,v,h=>fun x hx=>by
   unfold cx at hx
   split at hx
   ·exact nC n x (h.1 x hx)
   ·split at hx
    ·obtain⟨y,hy,rfl⟩:=List.mem_map.1 hx
     exact nC n _ (h.2 y hy)
    ·simp at hx
noncomputable def lvl (v:Val):Nat:=(nJ v).choose
theorem Kk (v:Val):xy (lvl v) v:=(nJ v).choose_spec
theorem ju (v:Val):kU (lvl v) v:=nC _ v (Kk v)
noncomputable def H9 (v:Val):Int:=pu 0 (eR (lvl v) 1 v)
theorem Lc (v:Val)(hv:v.ok):ag Tryz.prog au 233 [v.pv] (.int .i64 (H9 v)):=tV _ v (ju v) hv
theorem tT:∀ (xs:List (Int×Val)) (i:Nat),i<=4096->pu i xs=0->i+xs.length<=4096
 | [],i,h,_=>by simpa using h
 | q::r,i,h,h0=>by
   rw[pu] at h0
   by_cases h1:a8 i q=0
   ·rw[if_pos h1] at h0
    have hi:¬ 4096<=i:=fun hh=>by rw[IU hh] at h1;cases h1
    have:=tT r (i+1) (by omega) h0
    rw[List.length_cons];omega
   ·rw[if_neg h1] at h0;exact absurd h0 h1
end Go.Proofs.YtbojpfpliibfbaaGreatDoor

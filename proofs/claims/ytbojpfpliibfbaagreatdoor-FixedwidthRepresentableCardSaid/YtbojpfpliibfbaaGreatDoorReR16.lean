/- A part of the proof for FixedwidthRepresentableCardSaid. -/
import Derived.Test.YtbojpfpliibfbaaGreatDoorReR12
import Derived.Test.YtbojpfpliibfbaaGreatDoorReRWC
import Derived.Test.YtbojpfpliibfbaaGreatDoorReRR2
set_option maxRecDepth 100000
set_option linter.unusedVariables false
set_option linter.unusedSimpArgs false
-- many steps
namespace Go.Proofs.YtbojpfpliibfbaaGreatDoor
open Go Go.Ab
attribute [local irreducible] vc
theorem lc (s:List UInt8)(hs:s.length≤140737488351232):ag Tryz.prog aD 41 [.str s] (.bool (wrB s)):=by
 obtain⟨R,hR⟩:∃ R,R=wrB s:=⟨_,rfl⟩
 rw[← hR]
 refine ag.intro Kt (by simp[F41]) ?_
 simp(maxSteps:=9^7) (disch:=try exact dI) only[F41,push_cast,seval]
 refine aw ([]) (fun i:Nat=>[(3,.pv (.int .i64 (i:Int)))]) (fun _=>[]) (fun i=>i≤s.length∧(s.take i).any nO=false) (fun i=>s.length - i) (0) ?_;intro e0 σ0 n0 h0;simp(maxSteps:=9^7) (disch:=try exact dI) only[push_cast,seval] at h0;obtain⟨rfl,rfl,rfl⟩:=h0;refine⟨?_,?_,?_⟩
 ·simp(maxSteps:=9^7) (disch:=try exact dI) only[push_cast,seval]
 ·exact⟨by omega,by simp⟩
 rintro i ⟨hi,hn⟩
 by_cases hlt:i<s.length
 ·have hltI:(i:Int)<(s.length:Int):=by omega
  obtain⟨c,hc⟩:∃ c,s[i]? = some c:=⟨_,List.getElem?_eq_getElem hlt⟩
  by_cases h:c.toNat<32
  ·have hI:(c.toNat:Int)<32:=by omega
   have:R=false:=by
    rw[hR,wrB,List.any_eq_true.2 ⟨c,List.mem_of_getElem? hc,by simp[nO,h]⟩];simp
   subst this
   simp(maxSteps:=9^7) (disch:=try exact dI) only[hc,hI,push_cast,seval]
  ·have hI:¬ (c.toNat:Int)<32:=by omega
   have hsn:(s.take (i+1)).any nO=false:=by rw[aI hc,List.any_append,hn];simp[nO,h]
   simp(maxSteps:=9^7) (disch:=try exact dI) only[hc,hI,push_cast,seval]
   exact⟨i+1,aT qsZ,⟨by omega,hsn⟩,by omega⟩
 ·obtain rfl:i=s.length:=by omega
  rw[List.take_length] at hn
  have hR2:R=!sH s:=by rw[hR,wrB,hn];simp
  subst hR2
  by_cases h0:s=[]
  ·subst h0
   rw[show sH []=false from rfl]
   simp(maxSteps:=9^7) (disch:=try exact dI) only[Int.lt_irrefl,push_cast,seval]
  ·have hp:0<s.length:=List.length_pos_iff.2 h0
   obtain⟨q,hq⟩:∃ q,s.length=q+1:=⟨s.length - 1,by omega⟩
   obtain⟨c,hc⟩:∃ c,s[q]? = some c:=⟨_,List.getElem?_eq_getElem (by omega)⟩
   have hE:sH s=decide (c=32):=by unfold sH;rw[hq,Nat.add_sub_cancel,hc];simp
   rw[hE]
   by_cases h:c=32
   ·subst h
    rw[decide_eq_true rfl]
    simp(maxSteps:=9^7) (disch:=try exact dI) only[Int.lt_irrefl,h0,hq,Int.add_sub_cancel,hc,push_cast,seval]
   ·rw[decide_eq_false h]
    have hcI:¬ (c.toNat:Int)=32:=by
     intro h'
     exact h (UInt8.toNat_inj.1 (by have:(32:UInt8).toNat=32:=rfl;omega))
    simp(maxSteps:=9^7) (disch:=try exact dI) only[Int.lt_irrefl,h0,hq,Int.add_sub_cancel,hc,hcI,push_cast,seval]
def jj (s:List UInt8):Bool:=!wrB s
theorem Ms (s:List UInt8)(hs:s.length≤140737488351232):ag Tryz.prog aD 38 [.str s] (.bool (jj s)):=by
 have h:=sM s hs
 unfold jj
 generalize wrB s=b at *
 refine ag.intro Kw (by simp[F38]) ?_
 simp(maxSteps:=9^7) (disch:=try exact dI) only[F38,push_cast,seval]
 refine ab.pure h rfl ?_
 simp(maxSteps:=9^7) (disch:=try exact dI) only[push_cast,seval]
theorem Ft (l:List (List UInt8))(hw:∀ x∈l,x.length≤140737488351232)(hl:l.length≤9000000000000):ag Tryz.prog aD 76 [.list (l.map PV.str),.clo 38 [] []] (.int .i64 (dy jj l 0)):=by
 refine ag.intro Kf (by simp[F76]) ?_
 simp(maxSteps:=9^7) (disch:=try exact dI) only[F76,push_cast,seval]
 refine aw ([]) (fun m:Nat=>[(8,.pv (.int .i64 (m:Int)))]) (fun m=>[]) (fun m=>m≤l.length∧dy jj l 0=dy jj (l.drop m) m) (fun m=>l.length - m) (0) ?_;intro e0 σ0 n0 h0;simp(maxSteps:=9^7) (disch:=try exact dI) only[push_cast,seval] at h0;obtain⟨rfl,rfl,rfl⟩:=h0;refine⟨?_,?_,?_⟩
 ·simp(maxSteps:=9^7) (disch:=try exact dI) only[push_cast,seval]
 ·exact⟨by omega,by simp⟩
 ·rintro m ⟨hm,he⟩
  by_cases hlt:m<l.length
  ·have hltI:(m:Int)<l.length:=by omega
   obtain⟨x,hx⟩:∃ x,l[m]? = some x:=⟨_,List.getElem?_eq_getElem hlt⟩
   have hcall:=Ms x (hw x (List.mem_of_getElem? hx))
   simp(maxSteps:=9^7) (disch:=try exact dI) only[hx,Option.map_some,push_cast,seval]
   refine ab.pure hcall rfl ?_
   cases hqx:jj x with
   | true=>
     rw[he,dn hx hqx]
     simp(maxSteps:=9^7) (disch:=try exact dI) only[push_cast,seval]
   | false=>
     rw[cl hx hqx] at he
     simp(maxSteps:=9^7) (disch:=try exact dI) only[push_cast,seval]
     exact⟨m+1,aT qsZ,⟨by omega,he⟩,by omega⟩
  ·have hltI:¬ (m:Int)<l.length:=by omega
   rw[he,dp hlt]
   simp(maxSteps:=9^7) (disch:=try exact dI) only[push_cast,seval]
theorem r6 (l:List (List UInt8))(hw:∀ x∈l,x.length≤140737488351232)(hl:l.length≤9000000000000):ag Tryz.prog aD 37 [.list (l.map PV.str),.clo 38 [] []] (.bool (l.any jj)):=by
 have h94:=Ft l hw hl
 have hfa:=dS (p:=jj) l
 refine ag.intro Kx (by simp[F37]) ?_
 rcases bB (p:=jj) l 0 with ⟨h1,h2⟩ | ⟨k,x,h1,h2,h3⟩
 ·rw[h2] at h94
  rw[h1] at hfa
  rw[← hfa]
  simp(maxSteps:=9^7) (disch:=try exact dI) only[F37,push_cast,seval]
  refine ab.pure h94 rfl ?_
  simp(maxSteps:=9^7) (disch:=try exact dI) only[push_cast,seval]
  exact .refl _
 ·rw[h3] at h94
  rw[h2] at hfa
  rw[← hfa]
  have hk:(0:Int)≤((0+k:Nat):Int):=by omega
  generalize ((0+k:Nat):Int)=z at *
  simp(maxSteps:=9^7) (disch:=try exact dI) only[F37,push_cast,seval]
  refine ab.pure h94 rfl ?_
  simp(maxSteps:=9^7) (disch:=try exact dI) only[push_cast,seval]
  exact .refl _
def ca:Typ→Bool
 | .mk k m _ _ w _ _=>if k=4∧0<w.length then w.any fun x=>decide (x=[]) else (decide (k=4)||decide (k=5))&&decide (m=0)
theorem FL (k m M s:Int)(w:List (List UInt8))(e:List Typ)(f:List TFd)(hw:w.length≤9000000000000):ag Tryz.prog aD 36 [(Typ.mk k m M s w e f).pv] (.bool (ca (.mk k m M s w e f))):=by
 have hc:=j0 w [] hw
 refine ag.intro Ky (by simp[F36]) ?_
 by_cases h4:k=4
 ·subst h4
  by_cases h0:0<w.length
  ·have h0I:(0:Int)<(w.length:Int):=by omega
   rw[show ca (.mk 4 m M s w e f)=w.any fun x=>decide (x=[]) from if_pos ⟨rfl,h0⟩]
   generalize (w.any fun x=>decide (x=[]))=b at hc ⊢
   simp(maxSteps:=9^7) (disch:=try exact dI) only[F36,Typ.pv_mk,h0I,push_cast,seval]
   refine ab.pure hc rfl ?_
   simp(maxSteps:=9^7) (disch:=try exact dI) only[push_cast,seval]
  ·have h0I:¬ (0:Int)<(w.length:Int):=by omega
   rw[show ca (.mk 4 m M s w e f)=decide (m=0) by simp only[ca];rw[if_neg (fun h=>h0 h.2)];simp]
   by_cases hm:m=0
   ·rw[decide_eq_true hm]
    simp(maxSteps:=9^7) (disch:=try exact dI) only[F36,Typ.pv_mk,h0I,hm,push_cast,seval]
   ·rw[decide_eq_false hm]
    simp(maxSteps:=9^7) (disch:=try exact dI) only[F36,Typ.pv_mk,h0I,hm,push_cast,seval]
 ·by_cases h5:k=5
  ·subst h5
   rw[show ca (.mk 5 m M s w e f)=decide (m=0) by simp only[ca];rw[if_neg (fun h=>h4 h.1)];simp]
   by_cases hm:m=0
   ·rw[decide_eq_true hm]
    simp(maxSteps:=9^7) (disch:=try exact dI) only[F36,Typ.pv_mk,hm,push_cast,seval]
   ·rw[decide_eq_false hm]
    simp(maxSteps:=9^7) (disch:=try exact dI) only[F36,Typ.pv_mk,hm,push_cast,seval]
  ·rw[show ca (.mk k m M s w e f)=false by simp only[ca];rw[if_neg (fun h=>h4 h.1)];simp[h4,h5]]
   simp(maxSteps:=9^7) (disch:=try exact dI) only[F36,Typ.pv_mk,h4,h5,push_cast,seval]
theorem uQ {k m M s:Int}{w:List (List UInt8)}{e:List Typ}{f:List TFd}(h:bh (.mk k m M s w e f)=0)(h4:¬ k=4):w.length=0:=by
 have hf:=oR h
 simp only[aQ,aq,Bool.or_eq_false_iff] at hf
 have:=hf.2.2.1
 rw[decide_eq_false h4] at this
 simpa using this
theorem HC (k m M s:Int)(w:List (List UInt8))(e:List Typ)(f:List TFd)(hw:w.length≤9000000000000)(h:bh (.mk k m M s w e f)=0):ag Tryz.prog aD 40 [(Typ.mk k m M s w e f).pv] (.bool (ca (.mk k m M s w e f))):=by
 have hwd:=uQ h
 obtain⟨R,hR⟩:∃ R,R=ca (.mk k m M s w e f):=⟨_,rfl⟩
 rw[← hR]
 refine ag.intro Ku (by simp[F40]) ?_
 by_cases h45:k=4∨k=5
 ·have hR0:w.length=0→R=decide (m=0):=fun h0=>by
   rw[hR];simp only[ca]
   rw[if_neg (by omega)]
   rcases h45 with rfl | rfl<;>simp
  have hR1:0<w.length→R=w.any fun x=>decide (x=[]):=fun h0=>by
   rw[hR];simp only[ca]
   rw[if_pos ⟨Decidable.byContradiction fun h4=>by have:=hwd h4;omega,h0⟩]
  clear hwd hR h
  have key:∀ (kk:Int),(kk=4∨kk=5)→k=kk→True:=fun _ _ _=>trivial
  rcases h45 with rfl | rfl
  ·simp(maxSteps:=9^7) (disch:=try exact dI) only[F40,Typ.pv_mk,push_cast,seval]
   refine aw ([]) (fun i:Nat=>[(3,.pv (.int .i64 (i:Int)))]) (fun _=>[]) (fun i=>i≤w.length∧((w.take i).any fun x=>decide (x=[]))=false) (fun i=>w.length - i) (0) ?_;intro e0 σ0 n0 h0;simp(maxSteps:=9^7) (disch:=try exact dI) only[push_cast,seval] at h0;obtain⟨rfl,rfl,rfl⟩:=h0;refine⟨?_,?_,?_⟩
   ·simp(maxSteps:=9^7) (disch:=try exact dI) only[push_cast,seval]
   ·exact⟨by omega,by simp⟩
   rintro i ⟨hi,hn⟩
   by_cases hlt:i<w.length
   ·have hltI:(i:Int)<(w.length:Int):=by omega
    obtain⟨x,hx⟩:∃ x,w[i]? = some x:=⟨_,List.getElem?_eq_getElem hlt⟩
    by_cases hxe:x=[]
    ·have:R=true:=by rw[hR1 (by omega)];exact List.any_eq_true.2 ⟨x,List.mem_of_getElem? hx,by simp[hxe]⟩
     subst this
     subst hxe
     simp(maxSteps:=9^7) (disch:=try exact dI) only[hx,Option.map_some,push_cast,seval]
    ·have hsn:((w.take (i+1)).any fun x=>decide (x=[]))=false:=by rw[aI hx,List.any_append,hn];simp[hxe]
     simp(maxSteps:=9^7) (disch:=try exact dI) only[hx,Option.map_some,hxe,push_cast,seval]
     exact⟨i+1,aT qsZ,⟨by omega,hsn⟩,by omega⟩
   ·obtain rfl:i=w.length:=by omega
    rw[List.take_length] at hn
    by_cases h0:w.length=0
    ·rw[hR0 h0]
     by_cases hm:m=0
     ·rw[decide_eq_true hm]
      simp(maxSteps:=9^7) (disch:=try exact dI) only[Int.lt_irrefl,h0,hm,push_cast,seval]
     ·rw[decide_eq_false hm]
      simp(maxSteps:=9^7) (disch:=try exact dI) only[Int.lt_irrefl,h0,hm,push_cast,seval]
    ·have h0I:¬ (w.length:Int)=0:=by omega
     have:R=false:=by rw[hR1 (by omega)];exact hn
     subst this
     simp(maxSteps:=9^7) (disch:=try exact dI) only[Int.lt_irrefl,h0I,push_cast,seval]
  ·simp(maxSteps:=9^7) (disch:=try exact dI) only[F40,Typ.pv_mk,push_cast,seval]
   refine aw ([]) (fun i:Nat=>[(3,.pv (.int .i64 (i:Int)))]) (fun _=>[]) (fun i=>i≤w.length∧((w.take i).any fun x=>decide (x=[]))=false) (fun i=>w.length - i) (0) ?_;intro e0 σ0 n0 h0;simp(maxSteps:=9^7) (disch:=try exact dI) only[push_cast,seval] at h0;obtain⟨rfl,rfl,rfl⟩:=h0;refine⟨?_,?_,?_⟩
   ·simp(maxSteps:=9^7) (disch:=try exact dI) only[push_cast,seval]
   ·exact⟨by omega,by simp⟩
   rintro i ⟨hi,hn⟩
   by_cases hlt:i<w.length
   ·have hltI:(i:Int)<(w.length:Int):=by omega
    obtain⟨x,hx⟩:∃ x,w[i]? = some x:=⟨_,List.getElem?_eq_getElem hlt⟩
    by_cases hxe:x=[]
    ·have:R=true:=by rw[hR1 (by omega)];exact List.any_eq_true.2 ⟨x,List.mem_of_getElem? hx,by simp[hxe]⟩
     subst this
     subst hxe
     simp(maxSteps:=9^7) (disch:=try exact dI) only[hx,Option.map_some,push_cast,seval]
    ·have hsn:((w.take (i+1)).any fun x=>decide (x=[]))=false:=by rw[aI hx,List.any_append,hn];simp[hxe]
     simp(maxSteps:=9^7) (disch:=try exact dI) only[hx,Option.map_some,hxe,push_cast,seval]
     exact⟨i+1,aT qsZ,⟨by omega,hsn⟩,by omega⟩
   ·obtain rfl:i=w.length:=by omega
    rw[List.take_length] at hn
    by_cases h0:w.length=0
    ·rw[hR0 h0]
     by_cases hm:m=0
     ·rw[decide_eq_true hm]
      simp(maxSteps:=9^7) (disch:=try exact dI) only[Int.lt_irrefl,h0,hm,push_cast,seval]
     ·rw[decide_eq_false hm]
      simp(maxSteps:=9^7) (disch:=try exact dI) only[Int.lt_irrefl,h0,hm,push_cast,seval]
    ·have h0I:¬ (w.length:Int)=0:=by omega
     have:R=false:=by rw[hR1 (by omega)];exact hn
     subst this
     simp(maxSteps:=9^7) (disch:=try exact dI) only[Int.lt_irrefl,h0I,push_cast,seval]
 ·have h4:¬ k=4:=fun h=>h45 (.inl h)
  have h5:¬ k=5:=fun h=>h45 (.inr h)
  have:R=false:=by rw[hR];simp only[ca];rw[if_neg (fun h=>h4 h.1)];simp[h4,h5]
  subst this
  simp(maxSteps:=9^7) (disch:=try exact dI) only[F40,Typ.pv_mk,h4,h5,push_cast,seval]
end Go.Proofs.YtbojpfpliibfbaaGreatDoor
namespace Go.Proofs.YtbojpfpliibfbaaGreatDoor
open Go Go.Ab Go.RowKit Go.Shelf
attribute [local irreducible] vc
attribute [local go_sem] Oper.semAt_some
def jp (w:List Nat)(i:Nat):Nat:=(w.take i).sum
def xy (line:List UInt8)(w:List Nat)(i:Nat):List UInt8:=(line.take (jp w (i+1))).drop (jp w i)
def jq (w:List Nat):List PV:=w.map fun (n:Nat)=>PV.int .i64 (n:Int)
def fF (line:List UInt8)(w:List Nat):List (List PV):=(List.range w.length).map fun i=>[.int .i64 (jp w i:Int),.str (xy line w i)]
theorem EU (w:List Nat):∀ i,jp w i≤w.sum:=fun i=>by
 unfold jp
 conv=>rhs;rw[← List.take_append_drop i w]
 rw[List.sum_append];omega
theorem uI {w:List Nat}{i:Nat}{n:Nat}(h:w[i]? = some n):jp w (i+1)=jp w i+n:=by
 unfold jp;rw[aI h,List.sum_append];simp
theorem Ji {W:World}{imm:Nat→Nat→Prop}{p:PV}{u:Value}(hc:p.cells=[p])(h:PRel W imm (.eptr [p] 0 0) u):∃ b o v,u = .pointer (some ⟨b,o,none⟩)∧imm b o∧W.cell? ⟨b,o,none⟩=some v∧v.oneCell'=true∧PRel W imm p v:=by
 generalize hl:[p]=l at h
 cases h with
 | eptr _ b off c sz g _ _ h1 h2 h3 h4 h5 h6=>
   subst hl
   obtain⟨q1,q2,q3⟩:=h4 0 p 0 p rfl (by rw[hc];rfl)
   have q4:=h5 0 p 0 p rfl (by rw[hc];rfl)
   exact⟨b,off+0*sz+0,g 0 0,rfl,q1,q2,q3,q4⟩
set_option maxHeartbeats 4000000 in
theorem xu (line:List UInt8)(w:List Nat)(hs:w.sum≤line.length)(hl:line.length≤1000000)(hw:w.length≤1000000):Lp Tryz.prog aD 104 [.eptr [.list (jq w)] 0 0,.eptr [.str line] 0 0] (fF line w):=by
 refine⟨by kernel_rfl,fun W imm lbv l J Jx O hG himm hsz hlb hgrow hlt hround hJ=>?_⟩
 have hp:=hlb 0 _ rfl
 have hq:=hlb 1 _ rfl
 obtain⟨p,q,rfl⟩:∃ p q,lbv = #[p,q]:=by
  obtain⟨l⟩:=lbv
  match l,hsz with
  | [p,q],_=>exact⟨p,q,rfl⟩
 replace hp:PRel W imm (.eptr [.list (jq w)] 0 0) p:=by simpa using hp
 replace hq:PRel W imm (.eptr [.str line] 0 0) q:=by simpa using hq
 obtain⟨b1,o1,v1,rfl,i1,c1,s1,r1⟩:=Ji rfl hp
 obtain⟨b2,o2,v2,rfl,i2,c2,s2,r2⟩:=Ji rfl hq
 obtain⟨rfl,_⟩:=kh r2
 simp only[List.append_toArray,List.cons_append,List.nil_append]
 refine callsIn_of_wp Tryz.func104 rfl trivial ?_ rfl
 simp only[Tryz.ntmps104,List.size_toArray,List.length_cons,List.length_nil,Nat.reduceAdd,Nat.reduceSub,Array.replicate_succ,Array.replicate_zero,List.push_toArray,List.append_toArray,List.nil_append,List.cons_append]
 generalize hL:jq w=L at r1
 cases r1 with
 | lnil A c hc=>
   have hw0:w=[]:=by cases w with
    | nil=>rfl
    | cons x r=>simp[jq] at hL
   subst hw0
   gi_wp2
   gi_loopw [9] (fun p wr=>p = .int .i64 0∧wr=W) (fun p wr=>0)
   case atStart=>exact⟨rfl,rfl⟩
   case round=>
    obtain⟨rfl,rfl⟩:=hrel
    gi_wp2
    go_end0
    exact⟨⟨_,rfl⟩,.inl ⟨_,hJ⟩⟩
 | list _ b3 off3 c3 sz3 g3 k1 k2 k3 k4 k5=>
   subst hL
   have hel:∀ (i n:Nat),w[i]? = some n→imm b3 (off3+i)∧W.cell? ⟨b3,off3+i,none⟩=some (.int .i64 (n:Int)):=fun i n hn=>by
    have hx:(jq w)[i]? = some (.int .i64 (n:Int)):=by simp[jq,hn]
    have hz:sz3=1:=(k3 i _ hx).symm
    subst hz
    obtain⟨q1,q2,q3⟩:=k4 i _ 0 _ hx rfl
    have q4:=k5 i _ 0 _ hx rfl
    generalize g3 i 0=u at q2 q4
    cases q4
    exact⟨by simpa using q1,by simpa using q2⟩
   have hlen:(jq w).length=w.length:=by simp[jq]
   rw[hlen] at c1 k1
   clear k3 k4 k5 hp hq r2 hlb
   gi_wp2
   gi_loopw [4,9] (fun p4 p9 wr=>∃ (k:Nat) (O':Nat→Nat→Prop),p4 = .int .i64 (jp w k:Int)∧p9 = .int .i64 (k:Int)∧k≤w.length∧J k O' wr∧Kept imm O' W wr∧kZ wr) (fun p4 p9 wr=>w.length - (intOf p9).toNat)
   case atStart=>exact⟨0,O,rfl,rfl,Nat.zero_le _,hJ,⟨Nat.le_refl _,fun b o hb=>(himm b o hb).2,fun _ _ _ _ h=>h⟩,hG.2⟩
   case round=>
    obtain⟨k,O',rfl,rfl,hk,hJk,hKk,hGk⟩:=hrel
    by_cases hlt':k<w.length
    ·obtain⟨n,hn⟩:∃ n,w[k]? = some n:=⟨_,List.getElem?_eq_getElem hlt'⟩
     obtain⟨i3,c3'⟩:=hel k n hn
     have w3:=hKk.cell _ _ _ i3 c3'
     have w2:=hKk.cell _ _ _ i2 c2
     have hkI:(k:Int)<(w.length:Int):=by omega
     have hk0:(0:Int)≤(k:Int):=by omega
     have hst:=uI hn
     have hle:=EU w (k+1)
     have hsl:=fun (w':World)=>run_slice_string (P:=Tryz.prog) w' 9 (⟨line.toArray⟩:ByteArray) .i64 .i64 (jp w k:Int) ((jp w k:Int)+(n:Int)) Tryz.underlying9 (by omega) (by omega) (by simp[ByteArray.size];omega)
     have hx:(fF line w)[k]? = some [.int .i64 (jp w k:Int),.str (xy line w k)]:=by simp[fF,hlt']
     have he:(ByteArray.extract ⟨line.toArray⟩ (jp w k) (jp w k+n)).data.toList=xy line w k:=by
      simp only[ByteArray.data_extract,Array.toList_extract,List.extract_eq_take_drop,xy,hst,List.drop_take]
     have hstr:PRel wr imm (.str (xy line w k)) (.string (ByteArray.extract ⟨line.toArray⟩ (jp w k) (jp w k+n))):=by
      rw[← he]
      exact .str _ (by simp[ByteArray.size,ByteArray.data_extract];unfold maxLen;omega)
     obtain⟨fn,tmps,assign,body,hy,hR⟩:=hround 0 k _ O' wr #[.int .i64 (jp w k:Int),.string (ByteArray.extract ⟨line.toArray⟩ (jp w k) (jp w k+n))] imm imm hJk hx rfl (fun j y hy=>by
      match j,hy with
      | 0,hy=>simp at hy;subst hy;exact .int _ _
      | 1,hy=>simp at hy;subst hy;exact hstr
      | j+2,hy=>simp at hy) (fun b o h=>.inl h) (fun b o h=>h) (fun b o hb=>⟨Nat.lt_of_lt_of_le (himm b o hb).1 hKk.size,hKk.out b o hb⟩)
     have hkw:wrap64 ((k:Int)+1)=((k+1:Nat):Int):=by unfold wrap64;omega
     have hpw:wrap64 ((jp w k:Int)+(n:Int))=(jp w (k+1):Int):=by rw[hst];unfold wrap64;omega
     have hmu:w.length - (intOf (.int .i64 (wrap64 ((k:Int)+1)))).toNat<w.length - (intOf (.int .i64 (k:Int))).toNat:=by
      rw[hkw]
      exact Nat.sub_lt_sub_left hlt' (Nat.lt_succ_self k)
     gi_wp2
     refine⟨rfl,hR.mono ?_⟩
     rintro e W2 (⟨rfl,⟨O2,hJ2,ho2⟩,hsz2,hc2,hG2⟩ | ⟨rfl,hx2⟩)
     ·have hK2:Kept imm O2 W W2:=hKk.trans ⟨hsz2,ho2,hc2⟩
      gi_wp2
      exact⟨⟨k+1,O2,congrArg _ hpw,congrArg _ hkw,hlt',hJ2,hK2,hG2⟩,hmu⟩
     ·gi_wp2
      refine bodyPost_ret (results_none rfl _ _ _) rfl ?_
      exact⟨⟨_,rfl⟩,.inr hx2⟩
    ·obtain rfl:k=w.length:=by omega
     gi_wp2
     go_end0
     exact⟨⟨_,rfl⟩,.inl ⟨O',by simpa[fF] using hJk⟩⟩
end Go.Proofs.YtbojpfpliibfbaaGreatDoor

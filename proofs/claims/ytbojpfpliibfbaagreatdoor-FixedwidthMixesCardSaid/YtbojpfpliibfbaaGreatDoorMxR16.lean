/- A part of the proof. -/
import Derived.Test.YtbojpfpliibfbaaGreatDoorMxR11
set_option maxHeartbeats 16000000
set_option maxRecDepth 100000
set_option linter.unusedVariables false
set_option linter.unusedSimpArgs false
namespace Go.Proofs.YtbojpfpliibfbaaGreatDoor
open Go Go.Ab
attribute [local irreducible] vc
def BQ (s:List UInt8):Bool:=!wrB s
theorem Ss (s:List UInt8)(hs:s.length<=140737488351232):ag Tryz.prog aq 38 [.str s] (.bool (BQ s)):=by
 have h:=jC s hs
 unfold BQ
 generalize wrB s=b at *
 refine ag.intro Q38.2 (by simp[Q38]) ?_
 simp(disch:=try exact dI) only[Q38,push_cast,seval]
 refine ab.pure h rfl ?_
 exact qsZ
theorem LU (l:List (List UInt8))(hw:∀ x∈l,x.length<=140737488351232)(hl:l.length<=9000000000000):ag Tryz.prog aq 76 [.list (l.map PV.str),.clo 38 [] []] (.int .i64 (dF BQ l 0)):=by
 refine ag.intro Q76.2 (by simp[Q76]) ?_
 simp(disch:=try exact dI) only[Q76,push_cast,seval]
 refine az ([]) (fun m:Nat=>[(8,.pv (.int .i64 (m:Int)))]) (fun m=>[]) (fun m=>m<=l.length/\dF BQ l 0=dF BQ (l.drop m) m) (fun m=>l.length - m) (0) ?_;intro e0 σ0 n0 h0;simp(disch:=try exact dI) only[push_cast,seval] at h0;obtain⟨rfl,rfl,rfl⟩:=h0;refine⟨?_,?_,?_⟩
 ·exact qsZ
 ·exact⟨by omega,by simp⟩
 ·rintro m ⟨hm,he⟩
  by_cases hlt:m<l.length
  ·have hltI:(m:Int)<l.length:=by omega
   obtain⟨x,hx⟩:∃ x,l[m]? = some x:=⟨_,List.getElem?_eq_getElem hlt⟩
   have hcall:=Ss x (hw x (List.mem_of_getElem? hx))
   simp(disch:=try exact dI) only[hx,Option.map_some,push_cast,seval]
   refine ab.pure hcall rfl ?_
   cases hqx:BQ x with
   | true=>
     rw[he,dA hx hqx]
     exact qsZ
   | false=>
     rw[ci hx hqx] at he
     refine zgZ ?_
     exact⟨m+1,aV qsZ,⟨by omega,he⟩,by omega⟩
  ·have hltI:¬ (m:Int)<l.length:=by omega
   rw[he,dB hlt]
   exact qsZ
theorem xG (l:List (List UInt8))(hw:∀ x∈l,x.length<=140737488351232)(hl:l.length<=9000000000000):ag Tryz.prog aq 37 [.list (l.map PV.str),.clo 38 [] []] (.bool (l.any BQ)):=by
 have h94:=LU l hw hl
 have hfa:=dr (p:=BQ) l
 refine ag.intro Q37.2 (by simp[Q37]) ?_
 rcases bA (p:=BQ) l 0 with ⟨h1,h2⟩ | ⟨k,x,h1,h2,h3⟩
 ·rw[h2] at h94
  rw[h1] at hfa
  rw[<- hfa]
  simp(disch:=try exact dI) only[Q37,push_cast,seval]
  refine ab.pure h94 rfl ?_
  refine zgZ ?_
  exact .refl _
 ·rw[h3] at h94
  rw[h2] at hfa
  rw[<- hfa]
  have hk:(0:Int)<=((0+k:Nat):Int):=by omega
  generalize ((0+k:Nat):Int)=z at *
  simp(disch:=try exact dI) only[Q37,push_cast,seval]
  refine ab.pure h94 rfl ?_
  refine zgZ ?_
  exact .refl _
def aX:Typ->Bool
 | .mk k m _ _ w _ _=>if k=4/\0<w.length then w.any fun x=>decide (x=[]) else (decide (k=4)||decide (k=5))&&decide (m=0)
theorem Mo (k m M s:Int)(w:List (List UInt8))(e:List Typ)(f:List TFd)(hw:w.length<=9000000000000):ag Tryz.prog aq 36 [(Typ.mk k m M s w e f).pv] (.bool (aX (.mk k m M s w e f))):=by
 have hc:=iG w [] hw
 refine ag.intro Q36.2 (by simp[Q36]) ?_
 by_cases h4:k=4
 ·subst h4
  by_cases h0:0<w.length
  ·have h0I:(0:Int)<(w.length:Int):=by omega
   rw[show aX (.mk 4 m M s w e f)=w.any fun x=>decide (x=[]) from if_pos ⟨rfl,h0⟩]
   generalize (w.any fun x=>decide (x=[]))=b at hc ⊢
   simp(disch:=try exact dI) only[Q36,Typ.pv_mk,h0I,push_cast,seval]
   refine ab.pure hc rfl ?_
   exact qsZ
  ·have h0I:¬ (0:Int)<(w.length:Int):=by omega
   rw[show aX (.mk 4 m M s w e f)=decide (m=0) by simp only[aX];rw[if_neg (fun h=>h0 h.2)];simp]
   by_cases hm:m=0
   ·rw[decide_eq_true hm]
    simp(disch:=try exact dI) only[Q36,Typ.pv_mk,h0I,hm,push_cast,seval]
   ·rw[decide_eq_false hm]
    simp(disch:=try exact dI) only[Q36,Typ.pv_mk,h0I,hm,push_cast,seval]
 ·by_cases h5:k=5
  ·subst h5
   rw[show aX (.mk 5 m M s w e f)=decide (m=0) by simp only[aX];rw[if_neg (fun h=>h4 h.1)];simp]
   by_cases hm:m=0
   ·rw[decide_eq_true hm]
    simp(disch:=try exact dI) only[Q36,Typ.pv_mk,hm,push_cast,seval]
   ·rw[decide_eq_false hm]
    simp(disch:=try exact dI) only[Q36,Typ.pv_mk,hm,push_cast,seval]
  ·rw[show aX (.mk k m M s w e f)=false by simp only[aX];rw[if_neg (fun h=>h4 h.1)];simp[h4,h5]]
   simp(disch:=try exact dI) only[Q36,Typ.pv_mk,h4,h5,push_cast,seval]
theorem BC {k m M s:Int}{w:List (List UInt8)}{e:List Typ}{f:List TFd}(h:dM (.mk k m M s w e f)=0)(h4:¬ k=4):w.length=0:=by
 have hf:=mW h
 simp only[fG,aK,Bool.or_eq_false_iff] at hf
 have:=hf.2.2.1
 rw[decide_eq_false h4] at this
 simpa using this
theorem Na (k m M s:Int)(w:List (List UInt8))(e:List Typ)(f:List TFd)(hw:w.length<=9000000000000)(h:dM (.mk k m M s w e f)=0):ag Tryz.prog aq 40 [(Typ.mk k m M s w e f).pv] (.bool (aX (.mk k m M s w e f))):=by
 have hwd:=BC h
 obtain⟨R,hR⟩:∃ R,R=aX (.mk k m M s w e f):=⟨_,rfl⟩
 rw[<- hR]
 refine ag.intro Q40.2 (by simp[Q40]) ?_
 by_cases h45:k=4\/k=5
 ·have hR0:w.length=0->R=decide (m=0):=fun h0=>by
   rw[hR];simp only[aX]
   rw[if_neg (by omega)]
   rcases h45 with rfl | rfl<;>simp
  have hR1:0<w.length->R=w.any fun x=>decide (x=[]):=fun h0=>by
   rw[hR];simp only[aX]
   rw[if_pos ⟨Decidable.byContradiction fun h4=>by have:=hwd h4;omega,h0⟩]
  clear hwd hR h
  have key:∀ (kk:Int),(kk=4\/kk=5)->k=kk->True:=fun _ _ _=>trivial
  rcases h45 with rfl | rfl
  ·simp(disch:=try exact dI) only[Q40,Typ.pv_mk,push_cast,seval]
   refine az ([]) (fun i:Nat=>[(3,.pv (.int .i64 (i:Int)))]) (fun _=>[]) (fun i=>i<=w.length/\((w.take i).any fun x=>decide (x=[]))=false) (fun i=>w.length - i) (0) ?_;intro e0 σ0 n0 h0;simp(disch:=try exact dI) only[push_cast,seval] at h0;obtain⟨rfl,rfl,rfl⟩:=h0;refine⟨?_,?_,?_⟩
   ·exact qsZ
   ·exact⟨by omega,by simp⟩
   rintro i ⟨hi,hn⟩
   by_cases hlt:i<w.length
   ·have hltI:(i:Int)<(w.length:Int):=by omega
    obtain⟨x,hx⟩:∃ x,w[i]? = some x:=⟨_,List.getElem?_eq_getElem hlt⟩
    by_cases hxe:x=[]
    ·have:R=true:=by rw[hR1 (by omega)];exact List.any_eq_true.2 ⟨x,List.mem_of_getElem? hx,by simp[hxe]⟩
     subst this
     subst hxe
     simp(disch:=try exact dI) only[hx,Option.map_some,push_cast,seval]
    ·have hsn:((w.take (i+1)).any fun x=>decide (x=[]))=false:=by rw[aH hx,List.any_append,hn];simp[hxe]
     simp(disch:=try exact dI) only[hx,Option.map_some,hxe,push_cast,seval]
     exact⟨i+1,aV qsZ,⟨by omega,hsn⟩,by omega⟩
   ·obtain rfl:i=w.length:=by omega
    rw[List.take_length] at hn
    by_cases h0:w.length=0
    ·rw[hR0 h0]
     by_cases hm:m=0
     ·rw[decide_eq_true hm]
      simp(disch:=try exact dI) only[Int.lt_irrefl,h0,hm,push_cast,seval]
     ·rw[decide_eq_false hm]
      simp(disch:=try exact dI) only[Int.lt_irrefl,h0,hm,push_cast,seval]
    ·have h0I:¬ (w.length:Int)=0:=by omega
     have:R=false:=by rw[hR1 (by omega)];exact hn
     subst this
     simp(disch:=try exact dI) only[Int.lt_irrefl,h0I,push_cast,seval]
  ·simp(disch:=try exact dI) only[Q40,Typ.pv_mk,push_cast,seval]
   refine az ([]) (fun i:Nat=>[(3,.pv (.int .i64 (i:Int)))]) (fun _=>[]) (fun i=>i<=w.length/\((w.take i).any fun x=>decide (x=[]))=false) (fun i=>w.length - i) (0) ?_;intro e0 σ0 n0 h0;simp(disch:=try exact dI) only[push_cast,seval] at h0;obtain⟨rfl,rfl,rfl⟩:=h0;refine⟨?_,?_,?_⟩
   ·exact qsZ
   ·exact⟨by omega,by simp⟩
   rintro i ⟨hi,hn⟩
   by_cases hlt:i<w.length
   ·have hltI:(i:Int)<(w.length:Int):=by omega
    obtain⟨x,hx⟩:∃ x,w[i]? = some x:=⟨_,List.getElem?_eq_getElem hlt⟩
    by_cases hxe:x=[]
    ·have:R=true:=by rw[hR1 (by omega)];exact List.any_eq_true.2 ⟨x,List.mem_of_getElem? hx,by simp[hxe]⟩
     subst this
     subst hxe
     simp(disch:=try exact dI) only[hx,Option.map_some,push_cast,seval]
    ·have hsn:((w.take (i+1)).any fun x=>decide (x=[]))=false:=by rw[aH hx,List.any_append,hn];simp[hxe]
     simp(disch:=try exact dI) only[hx,Option.map_some,hxe,push_cast,seval]
     exact⟨i+1,aV qsZ,⟨by omega,hsn⟩,by omega⟩
   ·obtain rfl:i=w.length:=by omega
    rw[List.take_length] at hn
    by_cases h0:w.length=0
    ·rw[hR0 h0]
     by_cases hm:m=0
     ·rw[decide_eq_true hm]
      simp(disch:=try exact dI) only[Int.lt_irrefl,h0,hm,push_cast,seval]
     ·rw[decide_eq_false hm]
      simp(disch:=try exact dI) only[Int.lt_irrefl,h0,hm,push_cast,seval]
    ·have h0I:¬ (w.length:Int)=0:=by omega
     have:R=false:=by rw[hR1 (by omega)];exact hn
     subst this
     simp(disch:=try exact dI) only[Int.lt_irrefl,h0I,push_cast,seval]
 ·have h4:¬ k=4:=fun h=>h45 (.inl h)
  have h5:¬ k=5:=fun h=>h45 (.inr h)
  have:R=false:=by rw[hR];simp only[aX];rw[if_neg (fun h=>h4 h.1)];simp[h4,h5]
  subst this
  simp(disch:=try exact dI) only[Q40,Typ.pv_mk,h4,h5,push_cast,seval]
open Go.RowKit Go.Shelf
attribute [local go_sem] Oper.semAt_some
def bQ (w:List Nat)(i:Nat):Nat:=(w.take i).sum
def ew (line:List UInt8)(w:List Nat)(i:Nat):List UInt8:=(line.take (bQ w (i+1))).drop (bQ w i)
def cr (w:List Nat):List PV:=w.map fun (n:Nat)=>PV.int .i64 (n:Int)
def dt (line:List UInt8)(w:List Nat):List (List PV):=(List.range w.length).map fun i=>[.int .i64 (bQ w i:Int),.str (ew line w i)]
theorem Bu (w:List Nat):∀ i,bQ w i<=w.sum:=fun i=>by
 unfold bQ
 conv=>rhs;rw[<- List.take_append_drop i w]
 rw[List.sum_append];omega
theorem j2 {w:List Nat}{i:Nat}{n:Nat}(h:w[i]? = some n):bQ w (i+1)=bQ w i+n:=by
 unfold bQ;rw[aH h,List.sum_append];simp
theorem Pu {W:World}{imm:Nat->Nat->Prop}{p:PV}{u:Value}(hc:p.cells=[p])(h:PRel W imm (.eptr [p] 0 0) u):∃ b o v,u = .pointer (some ⟨b,o,none⟩)/\imm b o/\W.cell? ⟨b,o,none⟩=some v/\v.oneCell'=true/\PRel W imm p v:=by
 generalize hl:[p]=l at h
 cases h with
 | eptr _ b off c sz g _ _ h1 h2 h3 h4 h5 h6=>
   subst hl
   obtain⟨q1,q2,q3⟩:=h4 0 p 0 p rfl (by rw[hc];rfl)
   have q4:=h5 0 p 0 p rfl (by rw[hc];rfl)
   exact⟨b,off+0*sz+0,g 0 0,rfl,q1,q2,q3,q4⟩
theorem pO (line:List UInt8)(w:List Nat)(hs:w.sum<=line.length)(hl:line.length<=1000000)(hw:w.length<=1000000):Nq Tryz.prog aq 104 [.eptr [.list (cr w)] 0 0,.eptr [.str line] 0 0] (dt line w):=by
 refine⟨by kernel_rfl,fun W imm lbv l J Jx O hG himm hsz hlb hgrow hlt hround hJ=>?_⟩
 have hp:=hlb 0 _ rfl
 have hq:=hlb 1 _ rfl
 obtain⟨p,q,rfl⟩:∃ p q,lbv = #[p,q]:=by
  obtain⟨l⟩:=lbv
  match l,hsz with
  | [p,q],_=>exact⟨p,q,rfl⟩
 replace hp:PRel W imm (.eptr [.list (cr w)] 0 0) p:=by simpa using hp
 replace hq:PRel W imm (.eptr [.str line] 0 0) q:=by simpa using hq
 obtain⟨b1,o1,v1,rfl,i1,c1,s1,r1⟩:=Pu rfl hp
 obtain⟨b2,o2,v2,rfl,i2,c2,s2,r2⟩:=Pu rfl hq
 obtain⟨rfl,_⟩:=jM r2
 simp only[List.append_toArray,List.cons_append,List.nil_append]
 refine callsIn_of_wp Tryz.func104 rfl trivial ?_ rfl
 simp only[Tryz.ntmps104,List.size_toArray,List.length_cons,List.length_nil,Nat.reduceAdd,Nat.reduceSub,Array.replicate_succ,Array.replicate_zero,List.push_toArray,List.append_toArray,List.nil_append,List.cons_append]
 generalize hL:cr w=L at r1
 cases r1 with
 | lnil A c hc=>
   have hw0:w=[]:=by cases w with
    | nil=>rfl
    | cons x r=>simp[cr] at hL
   subst hw0
   gi_wp2
   gi_loopw [9] (fun p wr=>p = .int .i64 0/\wr=W) (fun p wr=>0)
   case atStart=>exact⟨rfl,rfl⟩
   case round=>
    obtain⟨rfl,rfl⟩:=hrel
    gi_wp2
    go_end0
    exact⟨⟨_,rfl⟩,.inl ⟨_,hJ⟩⟩
 | list _ b3 off3 c3 sz3 g3 k1 k2 k3 k4 k5=>
   subst hL
   have hel:∀ (i n:Nat),w[i]? = some n->imm b3 (off3+i)/\W.cell? ⟨b3,off3+i,none⟩=some (.int .i64 (n:Int)):=fun i n hn=>by
    have hx:(cr w)[i]? = some (.int .i64 (n:Int)):=by simp[cr,hn]
    have hz:sz3=1:=(k3 i _ hx).symm
    subst hz
    obtain⟨q1,q2,q3⟩:=k4 i _ 0 _ hx rfl
    have q4:=k5 i _ 0 _ hx rfl
    generalize g3 i 0=u at q2 q4
    cases q4
    exact⟨by simpa using q1,by simpa using q2⟩
   have hlen:(cr w).length=w.length:=by simp[cr]
   rw[hlen] at c1 k1
   clear k3 k4 k5 hp hq r2 hlb
   gi_wp2
   gi_loopw [4,9] (fun p4 p9 wr=>∃ (k:Nat) (O':Nat->Nat->Prop),p4 = .int .i64 (bQ w k:Int)/\p9 = .int .i64 (k:Int)/\k<=w.length/\J k O' wr/\Kept imm O' W wr/\nP wr) (fun p4 p9 wr=>w.length - (intOf p9).toNat)
   case atStart=>exact⟨0,O,rfl,rfl,Nat.zero_le _,hJ,⟨Nat.le_refl _,fun b o hb=>(himm b o hb).2,fun _ _ _ _ h=>h⟩,hG.2⟩
   case round=>
    obtain⟨k,O',rfl,rfl,hk,hJk,hKk,hGk⟩:=hrel
    by_cases hlt':k<w.length
    ·obtain⟨n,hn⟩:∃ n,w[k]? = some n:=⟨_,List.getElem?_eq_getElem hlt'⟩
     obtain⟨i3,c3'⟩:=hel k n hn
     have w3:=hKk.cell _ _ _ i3 c3'
     have w2:=hKk.cell _ _ _ i2 c2
     have hkI:(k:Int)<(w.length:Int):=by omega
     have hk0:(0:Int)<=(k:Int):=by omega
     have hst:=j2 hn
     have hle:=Bu w (k+1)
     have hsl:=fun (w':World)=>run_slice_string (P:=Tryz.prog) w' 9 (⟨line.toArray⟩:ByteArray) .i64 .i64 (bQ w k:Int) ((bQ w k:Int)+(n:Int)) Tryz.underlying9 (by omega) (by omega) (by simp[ByteArray.size];omega)
     have hx:(dt line w)[k]? = some [.int .i64 (bQ w k:Int),.str (ew line w k)]:=by simp[dt,hlt']
     have he:(ByteArray.extract ⟨line.toArray⟩ (bQ w k) (bQ w k+n)).data.toList=ew line w k:=by
      simp only[ByteArray.data_extract,Array.toList_extract,List.extract_eq_take_drop,ew,hst,List.drop_take]
     have hstr:PRel wr imm (.str (ew line w k)) (.string (ByteArray.extract ⟨line.toArray⟩ (bQ w k) (bQ w k+n))):=by
      rw[<- he]
      exact .str _ (by simp[ByteArray.size,ByteArray.data_extract];unfold maxLen;omega)
     obtain⟨fn,tmps,assign,body,hy,hR⟩:=hround 0 k _ O' wr #[.int .i64 (bQ w k:Int),.string (ByteArray.extract ⟨line.toArray⟩ (bQ w k) (bQ w k+n))] imm imm hJk hx rfl (fun j y hy=>by
      match j,hy with
      | 0,hy=>simp at hy;subst hy;exact .int _ _
      | 1,hy=>simp at hy;subst hy;exact hstr
      | j+2,hy=>simp at hy) (fun b o h=>.inl h) (fun b o h=>h) (fun b o hb=>⟨Nat.lt_of_lt_of_le (himm b o hb).1 hKk.size,hKk.out b o hb⟩)
     have hkw:wrap64 ((k:Int)+1)=((k+1:Nat):Int):=by unfold wrap64;omega
     have hpw:wrap64 ((bQ w k:Int)+(n:Int))=(bQ w (k+1):Int):=by rw[hst];unfold wrap64;omega
     have hmu:w.length - (intOf (.int .i64 (wrap64 ((k:Int)+1)))).toNat<w.length - (intOf (.int .i64 (k:Int))).toNat:=by
      rw[hkw]
      exact Nat.sub_lt_sub_left hlt' (Nat.lt_succ_self k)
     gi_wp2
     refine⟨rfl,hR.mono ?_⟩
     rintro e W2 (⟨rfl,⟨O2,hJ2,ho2⟩,hsz2,hc2,hG2⟩ | ⟨rfl,hx2⟩)
     ·have hK2:Kept imm O2 W W2:=hKk.trans ⟨hsz2,ho2,hc2⟩
      gi_wp2
      exact⟨⟨k+1,O2,congrArg _ hpw,congrArg _ hkw,hlt',hJ2,hK2,hG2⟩,hmu⟩
     ·gi_wp2
      refine bodyPost_ret (results_none rfl _ _ _) rfl ?_
      exact⟨⟨_,rfl⟩,.inr hx2⟩
    ·obtain rfl:k=w.length:=by omega
     gi_wp2
     go_end0
     exact⟨⟨_,rfl⟩,.inl ⟨O',by simpa[dt] using hJk⟩⟩
def db (w:List Int):List PV:=w.map (PV.int .i64)
theorem ct (l:List Int):(db l).length=l.length:=by simp[db]
theorem jr {l:List Int}{i:Nat}{x:Int}(h:l[i]? = some x):(db l)[i]? = some (.int .i64 x):=by simp[db,h]
def Eh (x:Int):Bool:=decide (x<1)||decide (4096<x)
theorem SI (x:Int):ag Tryz.prog aq 103 [.int .i64 x] (.bool (Eh x)):=by
 unfold Eh
 refine ag.intro Rk.2 (by simp[Rk]) ?_
 by_cases h1:x<1
 ·rw[decide_eq_true h1,Bool.true_or]
  simp(disch:=try exact dI) only[Rk,h1,push_cast,seval]
 ·rw[decide_eq_false h1,Bool.false_or]
  simp(disch:=try exact dI) only[Rk,h1,push_cast,seval]
theorem Ho (l:List Int)(g:Nat)(q:Int->Bool)(hq:∀ x∈l,ag Tryz.prog aq g [.int .i64 x] (.bool (q x)))(hl:l.length<=1000000000) :
  ag Tryz.prog aq 155 [.list (db l),.clo g [] []] (.int .i64 (dF q l 0)):=by
 refine ag.intro Tn.2 (by simp[Tn]) ?_
 simp(disch:=try exact dI) only[Tn,ct,push_cast,seval]
 refine az ([]) (fun m:Nat=>[(8,.pv (.int .i64 (m:Int)))]) (fun m=>[]) (fun m=>m<=l.length/\dF q l 0=dF q (l.drop m) m) (fun m=>l.length - m) (0) ?_;intro e0 σ0 n0 h0;simp(disch:=try exact dI) only[push_cast,seval] at h0;obtain⟨rfl,rfl,rfl⟩:=h0;refine⟨?_,?_,?_⟩
 ·exact qsZ
 ·exact⟨by omega,by simp⟩
 ·rintro m ⟨hm,he⟩
  by_cases hlt:m<l.length
  ·have hltI:(m:Int)<l.length:=by omega
   obtain⟨x,hx⟩:∃ x,l[m]? = some x:=⟨_,List.getElem?_eq_getElem hlt⟩
   have hcall:=hq x (List.mem_of_getElem? hx)
   have hx':=jr hx
   simp(disch:=try exact dI) only[hx',push_cast,seval]
   refine ab.pure hcall rfl ?_
   cases hqx:q x with
   | true=>
     rw[he,dA hx hqx]
     exact qsZ
   | false=>
     rw[ci hx hqx] at he
     refine zgZ ?_
     exact⟨m+1,aV qsZ,⟨by omega,he⟩,by omega⟩
  ·have hltI:¬ (m:Int)<l.length:=by omega
   rw[he,dB hlt]
   exact qsZ
theorem xE (l:List Int)(g:Nat)(q:Int->Bool)(hq:∀ x∈l,ag Tryz.prog aq g [.int .i64 x] (.bool (q x)))(hl:l.length<=1000000000) :
  ag Tryz.prog aq 102 [.list (db l),.clo g [] []] (.bool (l.any q)):=by
 have h94:=Ho l g q hq hl
 have hfa:=dr (p:=q) l
 refine ag.intro Rl.2 (by simp[Rl]) ?_
 rcases bA (p:=q) l 0 with ⟨h1,h2⟩ | ⟨k,x,h1,h2,h3⟩
 ·rw[h2] at h94
  rw[h1] at hfa
  rw[<- hfa]
  simp(disch:=try exact dI) only[Rl,push_cast,seval]
  refine ab.pure h94 rfl ?_
  refine zgZ ?_
  rfl
 ·rw[h3] at h94
  rw[h2] at hfa
  rw[<- hfa]
  have hk:(0:Int)<=((0+k:Nat):Int):=by omega
  generalize ((0+k:Nat):Int)=z at *
  simp(disch:=try exact dI) only[Rl,push_cast,seval]
  refine ab.pure h94 rfl ?_
  refine zgZ ?_
  rfl
def Id (w:List Int):Bool:=decide (64<w.length)||w.any Eh
def ja (w:List Int):Int:=w.sum
theorem Fv:ja []=0:=rfl
theorem Af {w:List Int}{i:Nat}{x:Int}(h:w[i]? = some x):ja (w.take (i+1))=ja (w.take i)+x:=by
 unfold ja;rw[aH h,List.sum_append];simp
theorem dW {w:List Int}(h:w.any Eh=false){x:Int}(hx:x∈w):1<=x/\x<=4096:=by
 have:=List.any_eq_false.1 h x hx
 simp only[Eh,Bool.or_eq_true,decide_eq_true_eq,not_or] at this
 omega
theorem jL:∀ (w:List Int),(∀ x∈w,1<=x/\x<=4096)->0<=ja w/\ja w<=4096*w.length
 | [],_=>by simp[ja]
 | x::r,h=>by
   have h1:=h x (List.mem_cons_self ..)
   have h2:=jL r fun y hy=>h y (List.mem_cons_of_mem _ hy)
   simp only[ja,List.sum_cons,List.length_cons] at *
   omega
theorem qE (w:List Int)(hl:w.length<=1000000):ag Tryz.prog aq 50 [.list (db w)] (.tup [.int .i64 (if Id w=true then 0 else ja w),.int .i64 (if Id w=true then 2 else 0)]):=by
 have h78:=xE w 103 Eh (fun x _=>SI x) (by omega)
 unfold Id
 by_cases h64:64<w.length
 ·have h64I:(64:Int)<(w.length:Int):=by omega
  rw[if_pos (by simp[h64]),if_pos (by simp[h64])]
  refine ag.intro Q50.2 (by simp[Q50]) ?_
  simp(disch:=try exact dI) only[Q50,ct,h64I,push_cast,seval]
 have h64I:¬ (64:Int)<(w.length:Int):=by omega
 rw[decide_eq_false h64,Bool.false_or]
 cases hb:w.any Eh with
 | true=>
   rw[hb] at h78
   rw[if_pos rfl,if_pos rfl]
   refine ag.intro Q50.2 (by simp[Q50]) ?_
   simp(disch:=try exact dI) only[Q50,ct,h64I,push_cast,seval]
   refine ab.pure h78 rfl ?_
   exact qsZ
 | false=>
   rw[hb] at h78
   rw[if_neg (by decide),if_neg (by decide)]
   have hr:=fun x hx=>dW hb (x:=x) hx
   refine ag.intro Q50.2 (by simp[Q50]) ?_
   simp(disch:=try exact dI) only[Q50,ct,h64I,push_cast,seval]
   refine ab.pure h78 rfl ?_
   simp(disch:=try exact dI) only[ct,push_cast,seval]
   refine az ([]) (fun i:Nat=>[(4,.pv (.int .i64 (ja (w.take i)))),(16,.pv (.int .i64 (i:Int)))]) (fun _=>[]) (fun i=>i<=w.length) (fun i=>w.length - i) (0) ?_;intro e0 σ0 n0 h0;simp(disch:=try exact dI) only[push_cast,seval] at h0;obtain⟨rfl,rfl,rfl⟩:=h0;refine⟨?_,?_,?_⟩
   ·simp(disch:=try exact dI) only[List.take_zero,Fv,push_cast,seval]
   ·omega
   rintro i hi
   have hsm:=jL (w.take i) fun x hx=>hr x (List.mem_of_mem_take hx)
   rw[List.length_take] at hsm
   by_cases hlt:i<w.length
   ·have hltI:(i:Int)<(w.length:Int):=by omega
    obtain⟨x,hx⟩:∃ x,w[i]? = some x:=⟨_,List.getElem?_eq_getElem hlt⟩
    have hst:=Af hx
    have hxr:=hr x (List.mem_of_getElem? hx)
    have hx':=jr hx
    simp(disch:=try exact dI) only[hx',push_cast,seval]
    exact⟨i+1,aV (by simp(disch:=try exact dI) only[hst,push_cast,seval]),by omega,by omega⟩
   ·obtain rfl:i=w.length:=by omega
    rw[List.take_length]
    simp(disch:=try exact dI) only[Int.lt_irrefl,push_cast,seval]
def nv (n:Nat)(s:Int):Int:=if (n:Int)<s then 4 else if s<(n:Int) then 5 else 0
theorem C4 (line:List UInt8)(s:Int):ag Tryz.prog aq 51 [.str line,.int .i64 s] (.int .i64 (nv line.length s)):=by
 unfold nv
 refine ag.intro Q51.2 (by simp[Q51]) ?_
 by_cases h1:(line.length:Int)<s
 ·rw[if_pos h1]
  simp(disch:=try exact dI) only[Q51,h1,push_cast,seval]
 ·rw[if_neg h1]
  by_cases h2:s<(line.length:Int)
  ·rw[if_pos h2]
   simp(disch:=try exact dI) only[Q51,h1,h2,push_cast,seval]
  ·rw[if_neg h2]
   simp(disch:=try exact dI) only[Q51,h1,h2,push_cast,seval]
theorem DY (line:List UInt8)(w:List PV):ag Tryz.prog aq 52 [.str line,.list w] (.clo 104 [] [.eptr [.list w] 0 0,.eptr [.str line] 0 0]):=by
 refine ag.intro Q52.2 (by simp[Q52]) ?_
 simp(disch:=try exact dI) only[Q52,push_cast,seval]
theorem BY {w:List Int}(h:w.any Eh=false):∃ v:List Nat,w=v.map (fun n:Nat=>(n:Int))/\ja w=(v.sum:Nat)/\∀ x∈v,1<=x/\x<=4096:=by
 refine⟨w.map Int.toNat,?_,?_,fun x hx=>?_⟩
 ·rw[List.map_map]
  conv=>lhs;rw[<- List.map_id w]
  refine List.map_congr_left fun x hx=>?_
  have:=dW h hx
  simp only[Function.comp,id];omega
 ·have:∀ (l:List Int),(∀ x∈l,1<=x/\x<=4096)->ja l=((l.map Int.toNat).sum:Nat):=by
   intro l hl
   induction l with
   | nil=>rfl
   | cons x r ih=>
     have h1:=hl x (List.mem_cons_self ..)
     have h2:=ih fun y hy=>hl y (List.mem_cons_of_mem _ hy)
     simp only[ja,List.sum_cons,List.map_cons] at *
     omega
  exact this w fun x hx=>dW h hx
 ·obtain⟨y,hy,rfl⟩:=List.mem_map.1 hx
  have:=dW h hy
  omega
theorem fy (v:List Nat):db (v.map fun n:Nat=>(n:Int))=cr v:=by simp[db,cr]
end Go.Proofs.YtbojpfpliibfbaaGreatDoor

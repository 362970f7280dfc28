/- A part of the proof for FixedwidthWidthsCardSaid. -/
import Derived.Test.YtbojpfpliibfbaaGreatDoorWiRSh
import Derived.Test.YtbojpfpliibfbaaGreatDoorWiRR2
import Derived.Test.YtbojpfpliibfbaaGreatDoorWiF
import Derived.Test.YtbojpfpliibfbaaGreatDoorWiCore6
set_option maxRecDepth 100000
set_option linter.unusedVariables false
namespace Go.Proofs.YtbojpfpliibfbaaGreatDoor
open Go Go.Ab
def eqL (p:PV→PV→Bool):List PV→List PV→Bool
 | [],[]=>true
 | x::r,y::q=>p x y&&eqL p r q
 | _,_=>false
def eqP:Nat→PV→PV→Bool
 | n+1,.int k a,.int k' b=>decide (k=k')&&decide (a=b)
 | n+1,.str a,.str b=>decide (a=b)
 | n+1,.nils,.nils=>true
 | n+1,.agg a,.agg b=>eqL (eqP n) a b
 | n+1,.list a,.list b=>eqL (eqP n) a b
 | _,_,_=>false
theorem wB {p:PV→PV→Bool}(hp:∀ x y,p x y=true→x=y):∀ a b,eqL p a b=true→a=b
 | [],[],_=>rfl
 | x::r,y::q,h=>by
   simp only[eqL,Bool.and_eq_true] at h
   rw[hp x y h.1,wB hp r q h.2]
 | [],y::q,h=>by simp[eqL] at h
 | x::r,[],h=>by simp[eqL] at h
theorem mj:∀ n x y,eqP n x y=true→x=y
 | 0,x,y,h=>by simp[eqP] at h
 | n+1,x,y,h=>by
   unfold eqP at h
   split at h
   ·simp only[Bool.and_eq_true,decide_eq_true_eq] at h;rw[h.1,h.2]
   ·simp only[decide_eq_true_eq] at h;rw[h]
   ·rfl
   ·rw[wB (mj _) _ _ h]
   ·rw[wB (mj _) _ _ h]
   ·cases h
def IV:List PV:=[.agg [.int .i64 1,.str [105,100],.int .i64 1,.int .i64 2,.int .i64 0,.int .i64 999,.int .i64 0,.nils,.nils,.nils,.nils],.agg [.int .i64 2,.str [110,97,109,101],.int .i64 2,.int .i64 4,.int .i64 1,.int .i64 5,.int .i64 0,.nils,.nils,.nils,.nils],.agg [.int .i64 3,.str [100,97,121],.int .i64 1,.int .i64 6,.int .i64 0,.int .i64 30000,.int .i64 0,.nils,.nils,.nils,.nils]]
def KS:PV:=.agg [.int .i64 9,.int .i64 0,.int .i64 0,.int .i64 0,.nils,.nils,.list IV]
def M4:List PV:=[.agg [.str [105,100],.int .i64 2,.int .i64 7,.int .i64 0,.str [],.nils,.nils],.agg [.str [110,97,109,101],.int .i64 4,.int .i64 0,.int .i64 0,.str [97,98],.nils,.nils],.agg [.str [100,97,121],.int .i64 6,.int .i64 20773,.int .i64 0,.str [],.nils,.nils]]
def IU:PV:=.agg [.int .i64 9,.int .i64 0,.int .i64 0,.str [],.nils,.list [.agg [.str [100,97,121],.int .i64 6,.int .i64 20773,.int .i64 0,.str [],.nils,.nils],.agg [.str [105,100],.int .i64 2,.int .i64 7,.int .i64 0,.str [],.nils,.nils],.agg [.str [110,97,109,101],.int .i64 4,.int .i64 0,.int .i64 0,.str [97,98],.nils,.nils]]]
def E9:PV:=.str [32,32,55,97,98,32,32,32,50,48,50,54,45,49,49,45,49,54]
def HB:PV:=.list [.int .i64 3,.int .i64 5,.int .i64 10]
def Ly (f:Nat)(ps:List PV):Option PV:=
 match f with
 | 137=>match ps with
   | [.int .i64 n]=>if -9223372036854775808≤n∧n≤9223372036854775807 then some (.str (kC n)) else none
   | _=>none
 | 113=>match ps with
   | [.str a,.str b]=>some (.int .i64 (Lib.compareBytes a b))
   | _=>none
 | 207=>match ps with
   | [.str a]=>some (.bool (Lib.validD a))
   | _=>none
 | 45=>match ps with
   | [.str a,.int .i64 n]=>if 0≤n∧n≤9223372036854775807∧a.length*n.toNat≤140737488355328 then some (.str (Lib.repeatL a n.toNat)) else none
   | _=>none
 | _=>none
theorem fO:∀ f ps r,Ly f ps=some r→ae Tryz.prog aD f ps r:=by
 intro f ps r h
 unfold Ly at h
 split at h
 ·split at h
  ·split at h
   ·rename_i hh;cases h;exact vQ _ hh.1 hh.2
   ·cases h
  ·cases h
 ·split at h
  ·cases h;exact rW _ _
  ·cases h
 ·split at h
  ·cases h;exact dc _
  ·cases h
 ·split at h
  ·split at h
   ·rename_i hh;cases h;exact lx _ _ hh.1 hh.2.1 hh.2.2
   ·cases h
  ·cases h
 ·cases h
noncomputable def gFn (p:Nat×List Nat):TabRow:=⟨p.1,p.2,(cFn Tryz.prog p.2 p.1).getD ⟨0,[],.skip⟩⟩
theorem jz {l:List (Nat×List Nat)}(h:(l.all fun p=>(cFn Tryz.prog p.2 p.1).isSome)=true):∀ r∈l.map gFn,cFn Tryz.prog r.muts r.f=some r.fn:=by
 intro r hr
 obtain⟨p,hp,rfl⟩:=List.mem_map.1 hr
 have h:=List.all_eq_true.1 h p hp
 simp only[gFn]
 cases h':cFn Tryz.prog p.2 p.1 with
 | some x=>rfl
 | none=>rw[h'] at h;cases h
def CE:List (Nat×List Nat):=[(14,[]),(11,[]),(12,[]),(42,[]),(43,[]),(44,[]),(39,[]),(46,[14]),(47,[]),(23,[]),(33,[]),(53,[]),(55,[33]),(34,[]),(35,[]),(36,[]),(37,[]),(81,[]),(82,[]),(83,[]),(85,[]),(87,[]),(88,[]),(91,[]),(92,[]),(77,[]),(78,[]),(79,[]),(97,[19]),(105,[]),(106,[]),(107,[]),(108,[]),(109,[]),(110,[]),(111,[]),(112,[]),(69,[]),(74,[]),(76,[]),(135,[]),(136,[]),(138,[]),(139,[]),(140,[]),(141,[]),(142,[]),(143,[]),(145,[]),(146,[]),(132,[]),(133,[]),(149,[]),(156,[]),(160,[]),(164,[]),(165,[]),(166,[]),(168,[]),(170,[]),(171,[]),(123,[]),(124,[]),(129,[]),(130,[]),(195,[]),(193,[]),(196,[]),(197,[]),(198,[]),(199,[]),(206,[44]),(210,[]),(211,[]),(212,[]),(213,[]),(215,[]),(224,[]),(258,[]),(228,[]),(178,[]),(179,[]),(181,[]),(242,[]),(247,[]),(248,[12]),(250,[]),(251,[]),(252,[]),(229,[]),(230,[]),(232,[]),(277,[]),(278,[]),(259,[]),(304,[])]
theorem jA:(CE.all fun p=>(cFn Tryz.prog p.2 p.1).isSome)=true:=by kernel_rfl
theorem Jh:ae Tryz.prog aD 53 [.str [32,32,55],IV.getD 0 .undef] (.tup [.agg [.int .i64 2,.int .i64 7,.int .i64 0,.str [],.nils,.nils],.int .i64 0]):=ae.of_ex (m:=5000) (n:=60) (jz jA) fO (by kernel_rfl)
theorem Jg:ae Tryz.prog aD 53 [.str [97,98,32,32,32],IV.getD 1 .undef] (.tup [.agg [.int .i64 4,.int .i64 0,.int .i64 0,.str [97,98],.nils,.nils],.int .i64 0]):=ae.of_ex (m:=5000) (n:=60) (jz jA) fO (by kernel_rfl)
theorem Jf:ae Tryz.prog aD 53 [.str [50,48,50,54,45,49,49,45,49,54],IV.getD 2 .undef] (.tup [.agg [.int .i64 6,.int .i64 20773,.int .i64 0,.str [],.nils,.nils],.int .i64 0]):=ae.of_ex (m:=5000) (n:=60) (jz jA) fO (by kernel_rfl)
theorem zm:ae Tryz.prog aD 55 [.list M4] IU:=ae.of_ex (m:=5000) (n:=60) (jz jA) fO (by kernel_rfl)
theorem Id:ae Tryz.prog aD 12 [KS,HB] (.int .i64 0):=ae.of_ex (m:=5000) (n:=60) (jz jA) fO (by kernel_rfl)
end Go.Proofs.YtbojpfpliibfbaaGreatDoor
set_option linter.unusedSimpArgs false
namespace Go.Proofs.YtbojpfpliibfbaaGreatDoor
open Go Go.Ab Go.RowKit Go.Shelf
attribute [local irreducible] vc
attribute [local go_sem] Oper.semAt_some
def jp (w:List Nat)(i:Nat):Nat:=(w.take i).sum
def xj (line:List UInt8)(w:List Nat)(i:Nat):List UInt8:=(line.take (jp w (i+1))).drop (jp w i)
def jq (w:List Nat):List PV:=w.map fun (n:Nat)=>PV.int .i64 (n:Int)
def fD (line:List UInt8)(w:List Nat):List (List PV):=(List.range w.length).map fun i=>[.int .i64 (jp w i:Int),.str (xj line w i)]
theorem EF (w:List Nat):∀ i,jp w i≤w.sum:=fun i=>by
 unfold jp
 conv=>rhs;rw[← List.take_append_drop i w]
 rw[List.sum_append];omega
theorem uA {w:List Nat}{i:Nat}{n:Nat}(h:w[i]? = some n):jp w (i+1)=jp w i+n:=by
 unfold jp;rw[aL h,List.sum_append];simp
theorem I0 {W:World}{imm:Nat→Nat→Prop}{p:PV}{u:Value}(hc:p.cells=[p])(h:PRel W imm (.eptr [p] 0 0) u):∃ b o v,u = .pointer (some ⟨b,o,none⟩)∧imm b o∧W.cell? ⟨b,o,none⟩=some v∧v.oneCell'=true∧PRel W imm p v:=by
 generalize hl:[p]=l at h
 cases h with
 | eptr _ b off c sz g _ _ h1 h2 h3 h4 h5 h6=>
   subst hl
   obtain⟨q1,q2,q3⟩:=h4 0 p 0 p rfl (by rw[hc];rfl)
   have q4:=h5 0 p 0 p rfl (by rw[hc];rfl)
   exact⟨b,off+0*sz+0,g 0 0,rfl,q1,q2,q3,q4⟩
set_option maxHeartbeats 4000000 in
theorem xb (line:List UInt8)(w:List Nat)(hs:w.sum≤line.length)(hl:line.length≤1000000)(hw:w.length≤1000000):KW Tryz.prog aD 104 [.eptr [.list (jq w)] 0 0,.eptr [.str line] 0 0] (fD line w):=by
 refine⟨by kernel_rfl,fun W imm lbv l J Jx O hG himm hsz hlb hgrow hlt hround hJ=>?_⟩
 have hp:=hlb 0 _ rfl
 have hq:=hlb 1 _ rfl
 obtain⟨p,q,rfl⟩:∃ p q,lbv = #[p,q]:=by
  obtain⟨l⟩:=lbv
  match l,hsz with
  | [p,q],_=>exact⟨p,q,rfl⟩
 replace hp:PRel W imm (.eptr [.list (jq w)] 0 0) p:=by simpa using hp
 replace hq:PRel W imm (.eptr [.str line] 0 0) q:=by simpa using hq
 obtain⟨b1,o1,v1,rfl,i1,c1,s1,r1⟩:=I0 rfl hp
 obtain⟨b2,o2,v2,rfl,i2,c2,s2,r2⟩:=I0 rfl hq
 obtain⟨rfl,_⟩:=kg r2
 simp only[List.append_toArray,List.cons_append,List.nil_append]
 refine callsIn_of_wp Tryz.func104 rfl trivial ?_ rfl
 simp only[Tryz.ntmps104,List.size_toArray,List.length_cons,List.length_nil,Nat.reduceAdd,Nat.reduceSub,Array.replicate_succ,Array.replicate_zero,List.push_toArray,List.append_toArray,List.nil_append,List.cons_append]
 generalize hL:jq w=L at r1
 cases r1 with
 | lnil A c hc=>
   have hw0:w=[]:=by cases w with
    | nil=>rfl
    | cons x r=>simp[jq] at hL
   subst hw0
   gi_wp2
   gi_loopw [9] (fun p wr=>p = .int .i64 0∧wr=W) (fun p wr=>0)
   case atStart=>exact⟨rfl,rfl⟩
   case round=>
    obtain⟨rfl,rfl⟩:=hrel
    gi_wp2
    go_end0
    exact⟨⟨_,rfl⟩,.inl ⟨_,hJ⟩⟩
 | list _ b3 off3 c3 sz3 g3 k1 k2 k3 k4 k5=>
   subst hL
   have hel:∀ (i n:Nat),w[i]? = some n→imm b3 (off3+i)∧W.cell? ⟨b3,off3+i,none⟩=some (.int .i64 (n:Int)):=fun i n hn=>by
    have hx:(jq w)[i]? = some (.int .i64 (n:Int)):=by simp[jq,hn]
    have hz:sz3=1:=(k3 i _ hx).symm
    subst hz
    obtain⟨q1,q2,q3⟩:=k4 i _ 0 _ hx rfl
    have q4:=k5 i _ 0 _ hx rfl
    generalize g3 i 0=u at q2 q4
    cases q4
    exact⟨by simpa using q1,by simpa using q2⟩
   have hlen:(jq w).length=w.length:=by simp[jq]
   rw[hlen] at c1 k1
   clear k3 k4 k5 hp hq r2 hlb
   gi_wp2
   gi_loopw [4,9] (fun p4 p9 wr=>∃ (k:Nat) (O':Nat→Nat→Prop),p4 = .int .i64 (jp w k:Int)∧p9 = .int .i64 (k:Int)∧k≤w.length∧J k O' wr∧Kept imm O' W wr∧k8 wr) (fun p4 p9 wr=>w.length - (intOf p9).toNat)
   case atStart=>exact⟨0,O,rfl,rfl,Nat.zero_le _,hJ,⟨Nat.le_refl _,fun b o hb=>(himm b o hb).2,fun _ _ _ _ h=>h⟩,hG.2⟩
   case round=>
    obtain⟨k,O',rfl,rfl,hk,hJk,hKk,hGk⟩:=hrel
    by_cases hlt':k<w.length
    ·obtain⟨n,hn⟩:∃ n,w[k]? = some n:=⟨_,List.getElem?_eq_getElem hlt'⟩
     obtain⟨i3,c3'⟩:=hel k n hn
     have w3:=hKk.cell _ _ _ i3 c3'
     have w2:=hKk.cell _ _ _ i2 c2
     have hkI:(k:Int)<(w.length:Int):=by omega
     have hk0:(0:Int)≤(k:Int):=by omega
     have hst:=uA hn
     have hle:=EF w (k+1)
     have hsl:=fun (w':World)=>run_slice_string (P:=Tryz.prog) w' 9 (⟨line.toArray⟩:ByteArray) .i64 .i64 (jp w k:Int) ((jp w k:Int)+(n:Int)) Tryz.underlying9 (by omega) (by omega) (by simp[ByteArray.size];omega)
     have hx:(fD line w)[k]? = some [.int .i64 (jp w k:Int),.str (xj line w k)]:=by simp[fD,hlt']
     have he:(ByteArray.extract ⟨line.toArray⟩ (jp w k) (jp w k+n)).data.toList=xj line w k:=by
      simp only[ByteArray.data_extract,Array.toList_extract,List.extract_eq_take_drop,xj,hst,List.drop_take]
     have hstr:PRel wr imm (.str (xj line w k)) (.string (ByteArray.extract ⟨line.toArray⟩ (jp w k) (jp w k+n))):=by
      rw[← he]
      exact .str _ (by simp[ByteArray.size,ByteArray.data_extract];unfold maxLen;omega)
     obtain⟨fn,tmps,assign,body,hy,hR⟩:=hround 0 k _ O' wr #[.int .i64 (jp w k:Int),.string (ByteArray.extract ⟨line.toArray⟩ (jp w k) (jp w k+n))] imm imm hJk hx rfl (fun j y hy=>by
      match j,hy with
      | 0,hy=>simp at hy;subst hy;exact .int _ _
      | 1,hy=>simp at hy;subst hy;exact hstr
      | j+2,hy=>simp at hy) (fun b o h=>.inl h) (fun b o h=>h) (fun b o hb=>⟨Nat.lt_of_lt_of_le (himm b o hb).1 hKk.size,hKk.out b o hb⟩)
     have hkw:wrap64 ((k:Int)+1)=((k+1:Nat):Int):=by unfold wrap64;omega
     have hpw:wrap64 ((jp w k:Int)+(n:Int))=(jp w (k+1):Int):=by rw[hst];unfold wrap64;omega
     have hmu:w.length - (intOf (.int .i64 (wrap64 ((k:Int)+1)))).toNat<w.length - (intOf (.int .i64 (k:Int))).toNat:=by
      rw[hkw]
      exact Nat.sub_lt_sub_left hlt' (Nat.lt_succ_self k)
     gi_wp2
     refine⟨rfl,hR.mono ?_⟩
     rintro e W2 (⟨rfl,⟨O2,hJ2,ho2⟩,hsz2,hc2,hG2⟩ | ⟨rfl,hx2⟩)
     ·have hK2:Kept imm O2 W W2:=hKk.trans ⟨hsz2,ho2,hc2⟩
      gi_wp2
      exact⟨⟨k+1,O2,congrArg _ hpw,congrArg _ hkw,hlt',hJ2,hK2,hG2⟩,hmu⟩
     ·gi_wp2
      refine bodyPost_ret (results_none rfl _ _ _) rfl ?_
      exact⟨⟨_,rfl⟩,.inr hx2⟩
    ·obtain rfl:k=w.length:=by omega
     gi_wp2
     go_end0
     exact⟨⟨_,rfl⟩,.inl ⟨O',by simpa[fD] using hJk⟩⟩
end Go.Proofs.YtbojpfpliibfbaaGreatDoor
-- many steps
namespace Go.Proofs.YtbojpfpliibfbaaGreatDoor
open Go Go.Ab
attribute [local irreducible] vc
def l9 (w:List Int):List PV:=w.map (PV.int .i64)
theorem eh (l:List Int):(l9 l).length=l.length:=by simp[l9]
theorem pa {l:List Int}{i:Nat}{x:Int}(h:l[i]? = some x):(l9 l)[i]? = some (.int .i64 x):=by simp[l9,h]
def FM (x:Int):Bool:=decide (x<1)||decide (4096<x)
theorem L5 (x:Int):ae Tryz.prog aD 103 [.int .i64 x] (.bool (FM x)):=by
 unfold FM
 refine ae.intro Hg (by simp[K3]) ?_
 by_cases h1:x<1
 ·rw[decide_eq_true h1,Bool.true_or]
  simp(maxSteps:=9^7) (disch:=try exact dI) only[K3,h1,push_cast,seval]
 ·rw[decide_eq_false h1,Bool.false_or]
  simp(maxSteps:=9^7) (disch:=try exact dI) only[K3,h1,push_cast,seval]
theorem Bs (l:List Int)(g:Nat)(q:Int→Bool)(hq:∀ x∈l,ae Tryz.prog aD g [.int .i64 x] (.bool (q x)))(hl:l.length≤1000000000) :
  ae Tryz.prog aD 155 [.list (l9 l),.clo g [] []] (.int .i64 (eb q l 0)):=by
 refine ae.intro G1 (by simp[ME]) ?_
 simp(maxSteps:=9^7) (disch:=try exact dI) only[ME,eh,push_cast,seval]
 refine aA ([]) (fun m:Nat=>[(8,.pv (.int .i64 (m:Int)))]) (fun m=>[]) (fun m=>m≤l.length∧eb q l 0=eb q (l.drop m) m) (fun m=>l.length - m) (0) ?_;intro e0 σ0 n0 h0;simp(maxSteps:=9^7) (disch:=try exact dI) only[push_cast,seval] at h0;obtain⟨rfl,rfl,rfl⟩:=h0;refine⟨?_,?_,?_⟩
 ·simp(maxSteps:=9^7) (disch:=try exact dI) only[push_cast,seval]
 ·exact⟨by omega,by simp⟩
 ·rintro m ⟨hm,he⟩
  by_cases hlt:m<l.length
  ·have hltI:(m:Int)<l.length:=by omega
   obtain⟨x,hx⟩:∃ x,l[m]? = some x:=⟨_,List.getElem?_eq_getElem hlt⟩
   have hcall:=hq x (List.mem_of_getElem? hx)
   have hx':=pa hx
   simp(maxSteps:=9^7) (disch:=try exact dI) only[hx',push_cast,seval]
   refine ab.pure hcall rfl ?_
   cases hqx:q x with
   | true=>
     rw[he,em hx hqx]
     simp(maxSteps:=9^7) (disch:=try exact dI) only[push_cast,seval]
   | false=>
     rw[da hx hqx] at he
     simp(maxSteps:=9^7) (disch:=try exact dI) only[push_cast,seval]
     exact⟨m+1,aV qsZ,⟨by omega,he⟩,by omega⟩
  ·have hltI:¬ (m:Int)<l.length:=by omega
   rw[he,en hlt]
   simp(maxSteps:=9^7) (disch:=try exact dI) only[push_cast,seval]
theorem rT (l:List Int)(g:Nat)(q:Int→Bool)(hq:∀ x∈l,ae Tryz.prog aD g [.int .i64 x] (.bool (q x)))(hl:l.length≤1000000000) :
  ae Tryz.prog aD 102 [.list (l9 l),.clo g [] []] (.bool (l.any q)):=by
 have h94:=Bs l g q hq hl
 have hfa:=fx (p:=q) l
 refine ae.intro Hh (by simp[K4]) ?_
 rcases bS (p:=q) l 0 with ⟨h1,h2⟩ | ⟨k,x,h1,h2,h3⟩
 ·rw[h2] at h94
  rw[h1] at hfa
  rw[← hfa]
  simp(maxSteps:=9^7) (disch:=try exact dI) only[K4,push_cast,seval]
  refine ab.pure h94 rfl ?_
  simp(maxSteps:=9^7) (disch:=try exact dI) only[push_cast,seval]
  rfl
 ·rw[h3] at h94
  rw[h2] at hfa
  rw[← hfa]
  have hk:(0:Int)≤((0+k:Nat):Int):=by omega
  generalize ((0+k:Nat):Int)=z at *
  simp(maxSteps:=9^7) (disch:=try exact dI) only[K4,push_cast,seval]
  refine ab.pure h94 rfl ?_
  simp(maxSteps:=9^7) (disch:=try exact dI) only[push_cast,seval]
  rfl
def KU (w:List Int):Bool:=decide (64<w.length)||w.any FM
def tw (w:List Int):Int:=w.sum
theorem yN:tw []=0:=rfl
theorem tt {w:List Int}{i:Nat}{x:Int}(h:w[i]? = some x):tw (w.take (i+1))=tw (w.take i)+x:=by
 unfold tw;rw[aL h,List.sum_append];simp
theorem xF {w:List Int}(h:w.any FM=false){x:Int}(hx:x∈w):1≤x∧x≤4096:=by
 have:=List.any_eq_false.1 h x hx
 simp only[FM,Bool.or_eq_true,decide_eq_true_eq,not_or] at this
 omega
theorem tv:∀ (w:List Int),(∀ x∈w,1≤x∧x≤4096)→0≤tw w∧tw w≤4096*w.length
 | [],_=>by simp[tw]
 | x::r,h=>by
   have h1:=h x (List.mem_cons_self ..)
   have h2:=tv r fun y hy=>h y (List.mem_cons_of_mem _ hy)
   simp only[tw,List.sum_cons,List.length_cons] at *
   omega
theorem DC (w:List Int)(hl:w.length≤1000000):ae Tryz.prog aD 50 [.list (l9 w)] (.tup [.int .i64 (if KU w=true then 0 else tw w),.int .i64 (if KU w=true then 2 else 0)]):=by
 have h78:=rT w 103 FM (fun x _=>L5 x) (by omega)
 unfold KU
 by_cases h64:64<w.length
 ·have h64I:(64:Int)<(w.length:Int):=by omega
  rw[if_pos (by simp[h64]),if_pos (by simp[h64])]
  refine ae.intro xS (by simp[F50]) ?_
  simp(maxSteps:=9^7) (disch:=try exact dI) only[F50,eh,h64I,push_cast,seval]
 have h64I:¬ (64:Int)<(w.length:Int):=by omega
 rw[decide_eq_false h64,Bool.false_or]
 cases hb:w.any FM with
 | true=>
   rw[hb] at h78
   rw[if_pos rfl,if_pos rfl]
   refine ae.intro xS (by simp[F50]) ?_
   simp(maxSteps:=9^7) (disch:=try exact dI) only[F50,eh,h64I,push_cast,seval]
   refine ab.pure h78 rfl ?_
   simp(maxSteps:=9^7) (disch:=try exact dI) only[push_cast,seval]
 | false=>
   rw[hb] at h78
   rw[if_neg (by decide),if_neg (by decide)]
   have hr:=fun x hx=>xF hb (x:=x) hx
   refine ae.intro xS (by simp[F50]) ?_
   simp(maxSteps:=9^7) (disch:=try exact dI) only[F50,eh,h64I,push_cast,seval]
   refine ab.pure h78 rfl ?_
   simp(maxSteps:=9^7) (disch:=try exact dI) only[eh,push_cast,seval]
   refine aA ([]) (fun i:Nat=>[(4,.pv (.int .i64 (tw (w.take i)))),(16,.pv (.int .i64 (i:Int)))]) (fun _=>[]) (fun i=>i≤w.length) (fun i=>w.length - i) (0) ?_;intro e0 σ0 n0 h0;simp(maxSteps:=9^7) (disch:=try exact dI) only[push_cast,seval] at h0;obtain⟨rfl,rfl,rfl⟩:=h0;refine⟨?_,?_,?_⟩
   ·simp(maxSteps:=9^7) (disch:=try exact dI) only[List.take_zero,yN,push_cast,seval]
   ·omega
   rintro i hi
   have hsm:=tv (w.take i) fun x hx=>hr x (List.mem_of_mem_take hx)
   rw[List.length_take] at hsm
   by_cases hlt:i<w.length
   ·have hltI:(i:Int)<(w.length:Int):=by omega
    obtain⟨x,hx⟩:∃ x,w[i]? = some x:=⟨_,List.getElem?_eq_getElem hlt⟩
    have hst:=tt hx
    have hxr:=hr x (List.mem_of_getElem? hx)
    have hx':=pa hx
    simp(maxSteps:=9^7) (disch:=try exact dI) only[hx',push_cast,seval]
    exact⟨i+1,aV (by simp(maxSteps:=9^7) (disch:=try exact dI) only[hst,push_cast,seval]),by omega,by omega⟩
   ·obtain rfl:i=w.length:=by omega
    rw[List.take_length]
    simp(maxSteps:=9^7) (disch:=try exact dI) only[Int.lt_irrefl,push_cast,seval]
def Fk (n:Nat)(s:Int):Int:=if (n:Int)<s then 4 else if s<(n:Int) then 5 else 0
theorem IQ (line:List UInt8)(s:Int):ae Tryz.prog aD 51 [.str line,.int .i64 s] (.int .i64 (Fk line.length s)):=by
 unfold Fk
 refine ae.intro J4 (by simp[F51]) ?_
 by_cases h1:(line.length:Int)<s
 ·rw[if_pos h1]
  simp(maxSteps:=9^7) (disch:=try exact dI) only[F51,h1,push_cast,seval]
 ·rw[if_neg h1]
  by_cases h2:s<(line.length:Int)
  ·rw[if_pos h2]
   simp(maxSteps:=9^7) (disch:=try exact dI) only[F51,h1,h2,push_cast,seval]
  ·rw[if_neg h2]
   simp(maxSteps:=9^7) (disch:=try exact dI) only[F51,h1,h2,push_cast,seval]
theorem FE (line:List UInt8)(w:List PV):ae Tryz.prog aD 52 [.str line,.list w] (.clo 104 [] [.eptr [.list w] 0 0,.eptr [.str line] 0 0]):=by
 refine ae.intro J3 (by simp[F52]) ?_
 simp(maxSteps:=9^7) (disch:=try exact dI) only[F52,push_cast,seval]
end Go.Proofs.YtbojpfpliibfbaaGreatDoor

/- A part of the proof. -/
import Derived.Test.YtbojpfpliibfbaaGreatDoorDeR11
set_option maxHeartbeats 16000000
set_option maxRecDepth 100000
set_option linter.unusedVariables false
set_option linter.unusedSimpArgs false
namespace Go.Proofs.YtbojpfpliibfbaaGreatDoor
open Go Go.Ab Go.RowKit Go.Shelf
attribute [local irreducible] vc
attribute [local go_sem] Oper.semAt_some
def cE (w:List Nat)(i:Nat):Nat:=(w.take i).sum
def bJ (line:List UInt8)(w:List Nat)(i:Nat):List UInt8:=(line.take (cE w (i+1))).drop (cE w i)
def ct (w:List Nat):List PV:=w.map fun (n:Nat)=>PV.int .i64 (n:Int)
def dA (line:List UInt8)(w:List Nat):List (List PV):=(List.range w.length).map fun i=>[.int .i64 (cE w i:Int),.str (bJ line w i)]
theorem ni (w:List Nat):∀ i,cE w i<=w.sum:=fun i=>by
 unfold cE
 conv=>rhs;rw[<- List.take_append_drop i w]
 rw[List.sum_append];omega
theorem eU {w:List Nat}{i:Nat}{n:Nat}(h:w[i]? = some n):cE w (i+1)=cE w i+n:=by
 unfold cE;rw[aB h,List.sum_append];simp
theorem N6 {W:World}{imm:Nat->Nat->Prop}{p:PV}{u:Value}(hc:p.cells=[p])(h:PRel W imm (.eptr [p] 0 0) u):∃ b o v,u = .pointer (some ⟨b,o,none⟩)/\imm b o/\W.cell? ⟨b,o,none⟩=some v/\v.oneCell'=true/\PRel W imm p v:=by
 generalize hl:[p]=l at h
 cases h with
 | eptr _ b off c sz g _ _ h1 h2 h3 h4 h5 h6=>
   subst hl
   obtain⟨q1,q2,q3⟩:=h4 0 p 0 p rfl (by rw[hc];rfl)
   have q4:=h5 0 p 0 p rfl (by rw[hc];rfl)
   exact⟨b,off+0*sz+0,g 0 0,rfl,q1,q2,q3,q4⟩
theorem pS (line:List UInt8)(w:List Nat)(hs:w.sum<=line.length)(hl:line.length<=1000000)(hw:w.length<=1000000):L6 Tryz.prog ap 104 [.eptr [.list (ct w)] 0 0,.eptr [.str line] 0 0] (dA line w):=by
 refine⟨by kernel_rfl,fun W imm lbv l J Jx O hG himm hsz hlb hgrow hlt hround hJ=>?_⟩
 have hp:=hlb 0 _ rfl
 have hq:=hlb 1 _ rfl
 obtain⟨p,q,rfl⟩:∃ p q,lbv = #[p,q]:=by
  obtain⟨l⟩:=lbv
  match l,hsz with
  | [p,q],_=>exact⟨p,q,rfl⟩
 replace hp:PRel W imm (.eptr [.list (ct w)] 0 0) p:=by simpa using hp
 replace hq:PRel W imm (.eptr [.str line] 0 0) q:=by simpa using hq
 obtain⟨b1,o1,v1,rfl,i1,c1,s1,r1⟩:=N6 rfl hp
 obtain⟨b2,o2,v2,rfl,i2,c2,s2,r2⟩:=N6 rfl hq
 obtain⟨rfl,_⟩:=jZ r2
 simp only[List.append_toArray,List.cons_append,List.nil_append]
 refine callsIn_of_wp Tryz.func104 rfl trivial ?_ rfl
 simp only[Tryz.ntmps104,List.size_toArray,List.length_cons,List.length_nil,Nat.reduceAdd,Nat.reduceSub,Array.replicate_succ,Array.replicate_zero,List.push_toArray,List.append_toArray,List.nil_append,List.cons_append]
 generalize hL:ct w=L at r1
 cases r1 with
 | lnil A c hc=>
   have hw0:w=[]:=by cases w with
    | nil=>rfl
    | cons x r=>simp[ct] at hL
   subst hw0
   gi_wp2
   gi_loopw [9] (fun p wr=>p = .int .i64 0/\wr=W) (fun p wr=>0)
   case atStart=>exact⟨rfl,rfl⟩
   case round=>
    obtain⟨rfl,rfl⟩:=hrel
    gi_wp2
    go_end0
    exact⟨⟨_,rfl⟩,.inl ⟨_,hJ⟩⟩
 | list _ b3 off3 c3 sz3 g3 k1 k2 k3 k4 k5=>
   subst hL
   have hel:∀ (i n:Nat),w[i]? = some n->imm b3 (off3+i)/\W.cell? ⟨b3,off3+i,none⟩=some (.int .i64 (n:Int)):=fun i n hn=>by
    have hx:(ct w)[i]? = some (.int .i64 (n:Int)):=by simp[ct,hn]
    have hz:sz3=1:=(k3 i _ hx).symm
    subst hz
    obtain⟨q1,q2,q3⟩:=k4 i _ 0 _ hx rfl
    have q4:=k5 i _ 0 _ hx rfl
    generalize g3 i 0=u at q2 q4
    cases q4
    exact⟨by simpa using q1,by simpa using q2⟩
   have hlen:(ct w).length=w.length:=by simp[ct]
   rw[hlen] at c1 k1
   clear k3 k4 k5 hp hq r2 hlb
   gi_wp2
   gi_loopw [4,9] (fun p4 p9 wr=>∃ (k:Nat) (O':Nat->Nat->Prop),p4 = .int .i64 (cE w k:Int)/\p9 = .int .i64 (k:Int)/\k<=w.length/\J k O' wr/\Kept imm O' W wr/\nZ wr) (fun p4 p9 wr=>w.length - (intOf p9).toNat)
   case atStart=>exact⟨0,O,rfl,rfl,Nat.zero_le _,hJ,⟨Nat.le_refl _,fun b o hb=>(himm b o hb).2,fun _ _ _ _ h=>h⟩,hG.2⟩
   case round=>
    obtain⟨k,O',rfl,rfl,hk,hJk,hKk,hGk⟩:=hrel
    by_cases hlt':k<w.length
    ·obtain⟨n,hn⟩:∃ n,w[k]? = some n:=⟨_,List.getElem?_eq_getElem hlt'⟩
     obtain⟨i3,c3'⟩:=hel k n hn
     have w3:=hKk.cell _ _ _ i3 c3'
     have w2:=hKk.cell _ _ _ i2 c2
     have hkI:(k:Int)<(w.length:Int):=by omega
     have hk0:(0:Int)<=(k:Int):=by omega
     have hst:=eU hn
     have hle:=ni w (k+1)
     have hsl:=fun (w':World)=>run_slice_string (P:=Tryz.prog) w' 9 (⟨line.toArray⟩:ByteArray) .i64 .i64 (cE w k:Int) ((cE w k:Int)+(n:Int)) Tryz.underlying9 (by omega) (by omega) (by simp[ByteArray.size];omega)
     have hx:(dA line w)[k]? = some [.int .i64 (cE w k:Int),.str (bJ line w k)]:=by simp[dA,hlt']
     have he:(ByteArray.extract ⟨line.toArray⟩ (cE w k) (cE w k+n)).data.toList=bJ line w k:=by
      simp only[ByteArray.data_extract,Array.toList_extract,List.extract_eq_take_drop,bJ,hst,List.drop_take]
     have hstr:PRel wr imm (.str (bJ line w k)) (.string (ByteArray.extract ⟨line.toArray⟩ (cE w k) (cE w k+n))):=by
      rw[<- he]
      exact .str _ (by simp[ByteArray.size,ByteArray.data_extract];unfold maxLen;omega)
     obtain⟨fn,tmps,assign,body,hy,hR⟩:=hround 0 k _ O' wr #[.int .i64 (cE w k:Int),.string (ByteArray.extract ⟨line.toArray⟩ (cE w k) (cE w k+n))] imm imm hJk hx rfl (fun j y hy=>by
      match j,hy with
      | 0,hy=>simp at hy;subst hy;exact .int _ _
      | 1,hy=>simp at hy;subst hy;exact hstr
      | j+2,hy=>simp at hy) (fun b o h=>.inl h) (fun b o h=>h) (fun b o hb=>⟨Nat.lt_of_lt_of_le (himm b o hb).1 hKk.size,hKk.out b o hb⟩)
     have hkw:wrap64 ((k:Int)+1)=((k+1:Nat):Int):=by unfold wrap64;omega
     have hpw:wrap64 ((cE w k:Int)+(n:Int))=(cE w (k+1):Int):=by rw[hst];unfold wrap64;omega
     have hmu:w.length - (intOf (.int .i64 (wrap64 ((k:Int)+1)))).toNat<w.length - (intOf (.int .i64 (k:Int))).toNat:=by
      rw[hkw]
      exact Nat.sub_lt_sub_left hlt' (Nat.lt_succ_self k)
     gi_wp2
     refine⟨rfl,hR.mono ?_⟩
     rintro e W2 (⟨rfl,⟨O2,hJ2,ho2⟩,hsz2,hc2,hG2⟩ | ⟨rfl,hx2⟩)
     ·have hK2:Kept imm O2 W W2:=hKk.trans ⟨hsz2,ho2,hc2⟩
      gi_wp2
      exact⟨⟨k+1,O2,congrArg _ hpw,congrArg _ hkw,hlt',hJ2,hK2,hG2⟩,hmu⟩
     ·gi_wp2
      refine bodyPost_ret (results_none rfl _ _ _) rfl ?_
      exact⟨⟨_,rfl⟩,.inr hx2⟩
    ·obtain rfl:k=w.length:=by omega
     gi_wp2
     go_end0
     exact⟨⟨_,rfl⟩,.inl ⟨O',by simpa[dA] using hJk⟩⟩
def bX (w:List Int):List PV:=w.map (PV.int .i64)
theorem aX (l:List Int):(bX l).length=l.length:=by simp[bX]
theorem jA {l:List Int}{i:Nat}{x:Int}(h:l[i]? = some x):(bX l)[i]? = some (.int .i64 x):=by simp[bX,h]
def DW (x:Int):Bool:=decide (x<1)||decide (4096<x)
theorem Rq (x:Int):ak Tryz.prog ap 103 [.int .i64 x] (.bool (DW x)):=by
 unfold DW
 refine ak.intro P3.2 (by simp[P3]) ?_
 by_cases h1:x<1
 ·rw[decide_eq_true h1,Bool.true_or]
  simp(disch:=try exact dI) only[P3,h1,push_cast,seval]
 ·rw[decide_eq_false h1,Bool.false_or]
  simp(disch:=try exact dI) only[P3,h1,push_cast,seval]
theorem Gd (l:List Int)(g:Nat)(q:Int->Bool)(hq:∀ x∈l,ak Tryz.prog ap g [.int .i64 x] (.bool (q x)))(hl:l.length<=1000000000) :
  ak Tryz.prog ap 155 [.list (bX l),.clo g [] []] (.int .i64 (dt q l 0)):=by
 refine ak.intro R9.2 (by simp[R9]) ?_
 simp(disch:=try exact dI) only[R9,aX,push_cast,seval]
 refine am ([]) (fun m:Nat=>[(8,.pv (.int .i64 (m:Int)))]) (fun m=>[]) (fun m=>m<=l.length/\dt q l 0=dt q (l.drop m) m) (fun m=>l.length - m) (0) ?_;intro e0 σ0 n0 h0;simp(disch:=try exact dI) only[push_cast,seval] at h0;obtain⟨rfl,rfl,rfl⟩:=h0;refine⟨?_,?_,?_⟩
 ·exact qsZ
 ·exact⟨by omega,by simp⟩
 ·rintro m ⟨hm,he⟩
  by_cases hlt:m<l.length
  ·have hltI:(m:Int)<l.length:=by omega
   obtain⟨x,hx⟩:∃ x,l[m]? = some x:=⟨_,List.getElem?_eq_getElem hlt⟩
   have hcall:=hq x (List.mem_of_getElem? hx)
   have hx':=jA hx
   simp(disch:=try exact dI) only[hx',push_cast,seval]
   refine ab.pure hcall rfl ?_
   cases hqx:q x with
   | true=>
     rw[he,di hx hqx]
     exact qsZ
   | false=>
     rw[b9 hx hqx] at he
     refine zgZ ?_
     exact⟨m+1,aI qsZ,⟨by omega,he⟩,by omega⟩
  ·have hltI:¬ (m:Int)<l.length:=by omega
   rw[he,dj hlt]
   exact qsZ
theorem xx (l:List Int)(g:Nat)(q:Int->Bool)(hq:∀ x∈l,ak Tryz.prog ap g [.int .i64 x] (.bool (q x)))(hl:l.length<=1000000000) :
  ak Tryz.prog ap 102 [.list (bX l),.clo g [] []] (.bool (l.any q)):=by
 have h94:=Gd l g q hq hl
 have hfa:=dz (p:=q) l
 refine ak.intro P4.2 (by simp[P4]) ?_
 rcases bp (p:=q) l 0 with ⟨h1,h2⟩ | ⟨k,x,h1,h2,h3⟩
 ·rw[h2] at h94
  rw[h1] at hfa
  rw[<- hfa]
  simp(disch:=try exact dI) only[P4,push_cast,seval]
  refine ab.pure h94 rfl ?_
  refine zgZ ?_
  rfl
 ·rw[h3] at h94
  rw[h2] at hfa
  rw[<- hfa]
  have hk:(0:Int)<=((0+k:Nat):Int):=by omega
  generalize ((0+k:Nat):Int)=z at *
  simp(disch:=try exact dI) only[P4,push_cast,seval]
  refine ab.pure h94 rfl ?_
  refine zgZ ?_
  rfl
def Is (w:List Int):Bool:=decide (64<w.length)||w.any DW
def jY (w:List Int):Int:=w.sum
theorem En:jY []=0:=rfl
theorem y8 {w:List Int}{i:Nat}{x:Int}(h:w[i]? = some x):jY (w.take (i+1))=jY (w.take i)+x:=by
 unfold jY;rw[aB h,List.sum_append];simp
theorem fk {w:List Int}(h:w.any DW=false){x:Int}(hx:x∈w):1<=x/\x<=4096:=by
 have:=List.any_eq_false.1 h x hx
 simp only[DW,Bool.or_eq_true,decide_eq_true_eq,not_or] at this
 omega
theorem qO:∀ (w:List Int),(∀ x∈w,1<=x/\x<=4096)->0<=jY w/\jY w<=4096*w.length
 | [],_=>by simp[jY]
 | x::r,h=>by
   have h1:=h x (List.mem_cons_self ..)
   have h2:=qO r fun y hy=>h y (List.mem_cons_of_mem _ hy)
   simp only[jY,List.sum_cons,List.length_cons] at *
   omega
theorem qH (w:List Int)(hl:w.length<=1000000):ak Tryz.prog ap 50 [.list (bX w)] (.tup [.int .i64 (if Is w=true then 0 else jY w),.int .i64 (if Is w=true then 2 else 0)]):=by
 have h78:=xx w 103 DW (fun x _=>Rq x) (by omega)
 unfold Is
 by_cases h64:64<w.length
 ·have h64I:(64:Int)<(w.length:Int):=by omega
  rw[if_pos (by simp[h64]),if_pos (by simp[h64])]
  refine ak.intro Q50.2 (by simp[Q50]) ?_
  simp(disch:=try exact dI) only[Q50,aX,h64I,push_cast,seval]
 have h64I:¬ (64:Int)<(w.length:Int):=by omega
 rw[decide_eq_false h64,Bool.false_or]
 cases hb:w.any DW with
 | true=>
   rw[hb] at h78
   rw[if_pos rfl,if_pos rfl]
   refine ak.intro Q50.2 (by simp[Q50]) ?_
   simp(disch:=try exact dI) only[Q50,aX,h64I,push_cast,seval]
   refine ab.pure h78 rfl ?_
   exact qsZ
 | false=>
   rw[hb] at h78
   rw[if_neg (by decide),if_neg (by decide)]
   have hr:=fun x hx=>fk hb (x:=x) hx
   refine ak.intro Q50.2 (by simp[Q50]) ?_
   simp(disch:=try exact dI) only[Q50,aX,h64I,push_cast,seval]
   refine ab.pure h78 rfl ?_
   simp(disch:=try exact dI) only[aX,push_cast,seval]
   refine am ([]) (fun i:Nat=>[(4,.pv (.int .i64 (jY (w.take i)))),(16,.pv (.int .i64 (i:Int)))]) (fun _=>[]) (fun i=>i<=w.length) (fun i=>w.length - i) (0) ?_;intro e0 σ0 n0 h0;simp(disch:=try exact dI) only[push_cast,seval] at h0;obtain⟨rfl,rfl,rfl⟩:=h0;refine⟨?_,?_,?_⟩
   ·simp(disch:=try exact dI) only[List.take_zero,En,push_cast,seval]
   ·omega
   rintro i hi
   have hsm:=qO (w.take i) fun x hx=>hr x (List.mem_of_mem_take hx)
   rw[List.length_take] at hsm
   by_cases hlt:i<w.length
   ·have hltI:(i:Int)<(w.length:Int):=by omega
    obtain⟨x,hx⟩:∃ x,w[i]? = some x:=⟨_,List.getElem?_eq_getElem hlt⟩
    have hst:=y8 hx
    have hxr:=hr x (List.mem_of_getElem? hx)
    have hx':=jA hx
    simp(disch:=try exact dI) only[hx',push_cast,seval]
    exact⟨i+1,aI (by simp(disch:=try exact dI) only[hst,push_cast,seval]),by omega,by omega⟩
   ·obtain rfl:i=w.length:=by omega
    rw[List.take_length]
    simp(disch:=try exact dI) only[Int.lt_irrefl,push_cast,seval]
def f9 (n:Nat)(s:Int):Int:=if (n:Int)<s then 4 else if s<(n:Int) then 5 else 0
theorem Cb (line:List UInt8)(s:Int):ak Tryz.prog ap 51 [.str line,.int .i64 s] (.int .i64 (f9 line.length s)):=by
 unfold f9
 refine ak.intro Q51.2 (by simp[Q51]) ?_
 by_cases h1:(line.length:Int)<s
 ·rw[if_pos h1]
  simp(disch:=try exact dI) only[Q51,h1,push_cast,seval]
 ·rw[if_neg h1]
  by_cases h2:s<(line.length:Int)
  ·rw[if_pos h2]
   simp(disch:=try exact dI) only[Q51,h1,h2,push_cast,seval]
  ·rw[if_neg h2]
   simp(disch:=try exact dI) only[Q51,h1,h2,push_cast,seval]
theorem Da (line:List UInt8)(w:List PV):ak Tryz.prog ap 52 [.str line,.list w] (.clo 104 [] [.eptr [.list w] 0 0,.eptr [.str line] 0 0]):=by
 refine ak.intro Q52.2 (by simp[Q52]) ?_
 simp(disch:=try exact dI) only[Q52,push_cast,seval]
def yb (line:List UInt8)(w:List Nat)(n:Nat):List PV:=(List.range n).map fun i=>.str (bJ line w i)
theorem Ft (line:List UInt8)(w:List Nat):yb line w 0=[]:=rfl
theorem AG (line:List UInt8)(w:List Nat)(n:Nat):yb line w (n+1)=yb line w n++[.str (bJ line w n)]:=by simp[yb,List.range_succ]
theorem tq (line:List UInt8)(w:List Nat)(n:Nat):(yb line w n).length=n:=by simp[yb]
theorem Ke {w:List Int}(h:w.any DW=false):∃ v:List Nat,w=v.map (fun n:Nat=>(n:Int))/\jY w=(v.sum:Nat)/\∀ x∈v,1<=x/\x<=4096:=by
 refine⟨w.map Int.toNat,?_,?_,fun x hx=>?_⟩
 ·rw[List.map_map]
  conv=>lhs;rw[<- List.map_id w]
  refine List.map_congr_left fun x hx=>?_
  have:=fk h hx
  simp only[Function.comp,id];omega
 ·have:∀ (l:List Int),(∀ x∈l,1<=x/\x<=4096)->jY l=((l.map Int.toNat).sum:Nat):=by
   intro l hl
   induction l with
   | nil=>rfl
   | cons x r ih=>
     have h1:=hl x (List.mem_cons_self ..)
     have h2:=ih fun y hy=>hl y (List.mem_cons_of_mem _ hy)
     simp only[jY,List.sum_cons,List.map_cons] at *
     omega
  exact this w fun x hx=>fk h hx
 ·obtain⟨y,hy,rfl⟩:=List.mem_map.1 hx
  have:=fk h hy
  omega
theorem dU (v:List Nat):bX (v.map fun n:Nat=>(n:Int))=ct v:=by simp[bX,ct]
def jd (g:TFd)(n:Int):Int:=if n<1\/4096<n then 2 else if n<ij g.typ then 5 else if g.need=2/\aY g.typ=true then 19 else if g.typ.words.any lz=true then 6 else 0
def qu:List TFd->List Int->Int->Int
 | g::f,n::w,s=>if jd g n=0 then qu f w (s+n) else jd g n
 | [],_,s=>if 65536<s then 9 else 0
 | _,[],s=>if 65536<s then 9 else 0
theorem oy {f:List TFd}{w:List Int}{i:Nat}{g:TFd}{n:Int}(hg:f[i]? = some g)(hn:w[i]? = some n)(s:Int):qu (f.drop i) (w.drop i) s=if jd g n=0 then qu (f.drop (i+1)) (w.drop (i+1)) (s+n) else jd g n:=by
 have h1:=(List.getElem?_eq_some_iff.1 hg)
 have h2:=(List.getElem?_eq_some_iff.1 hn)
 obtain⟨hi,he⟩:=h1
 obtain⟨hj,hf⟩:=h2
 rw[List.drop_eq_getElem_cons hi,List.drop_eq_getElem_cons hj,he,hf,qu]
noncomputable def n7 (t:Typ)(w:List Int):Int:=if flE t=0 then (if w.length<t.fields.length then 4 else if t.fields.length<w.length then 5 else qu t.fields w 0) else flE t
structure FldOk (g:TFd):Prop where
 wid:ak Tryz.prog ap 35 [g.typ.pv] (.int .i64 (ij g.typ))/\ak Tryz.prog ap 30 [g.typ.pv] (.int .i64 (ij g.typ))
 emp:ak Tryz.prog ap 36 [g.typ.pv] (.bool (aY g.typ))/\ak Tryz.prog ap 40 [g.typ.pv] (.bool (aY g.typ))
 wrd:g.typ.words.length<=9000000000000/\∀ x∈g.typ.words,x.length<=140737488351232
theorem B5 {t:Typ}(h:lX t=0)(ht:t.ok)(hf:dW t=true):∀ g∈t.fields,FldOk g:=fun g hg=>by
 have hw:=KH h ht hf g hg
 have hty:=j5 h
 obtain⟨h9,_,hs⟩:=fy hf
 obtain⟨k,m,M,s,w,e,f⟩:=t
 rw[Typ.ok_mk] at ht
 have ho:=jU (hty.2.2 (.inl h9) g hg).1
 have hgt:=(cL (ht.2.2.2.2.2.2.2.2.2 g hg)).1
 obtain⟨n',nm',nd',⟨k',m',M',s',w',e',f'⟩,d'⟩:=g
 simp only[TFd.typ] at hw ho hgt ⊢
 rw[Typ.ok_mk] at hgt
 have hwl:w'.length<=9000000000000:=by omega
 exact⟨hw,⟨KX k' m' M' s' w' e' f' hwl,LN k' m' M' s' w' e' f' hwl ho⟩,hwl,hgt.2.2.2.2.2.1⟩
theorem EL (t:Typ)(ht:t.ok)(w:List Int)(he:flE t=0)(hlen:w.length=t.fields.length):ak Tryz.prog ap 12 [t.pv,.list (bX w)] (.int .i64 (qu t.fields w 0)):=by
 have h34:=Ib t ht
 obtain⟨h0,hfl⟩:=kT he
 have hfo:=B5 h0 ht hfl
 rw[he] at h34
 clear he h0 hfl
 obtain⟨k,m,M,s,wd,e,f⟩:=t
 rw[Typ.ok_mk] at ht
 have hf:f.length<=9000000000000:=by omega
 clear ht
 simp only[Typ.pv_mk,Typ.fields] at h34 hfo hlen ⊢
 obtain⟨R,hR⟩:∃ R,R=qu f w 0:=⟨_,rfl⟩
 rw[<- hR]
 have hwl:=aX w
 have hlI:(w.length:Int)=(f.length:Int):=by omega
 refine ak.intro Q12.2 (by simp[Q12]) ?_
 simp(disch:=try exact dI) only[Q12,Typ.pv_mk,hwl,hlI,Int.lt_irrefl,push_cast,seval]
 refine ab.pure h34 rfl ?_
 simp(disch:=try exact dI) only[hwl,hlI,Int.lt_irrefl,push_cast,seval]
 refine am ([]) (fun x:Nat×Int=>[(6,.pv (.int .i64 x.2)),(31,.pv (.int .i64 (x.1:Int)))]) (fun _=>[]) (fun x=>x.1<=f.length/\R=qu (f.drop x.1) (w.drop x.1) x.2/\0<=x.2/\x.2<=4096*(x.1:Int)) (fun x=>f.length - x.1) ((0,0)) ?_;intro e0 σ0 n0 h0;simp(disch:=try exact dI) only[push_cast,seval] at h0;obtain⟨rfl,rfl,rfl⟩:=h0;refine⟨?_,?_,?_⟩
 ·exact qsZ
 ·exact⟨by simp,by simpa using hR,by simp,by simp⟩
 rintro⟨i,S⟩ ⟨hi,hr,hS,hS2⟩
 simp only at hi hr hS hS2
 by_cases hlt:i<f.length
 ·have hltI:(i:Int)<(f.length:Int):=by omega
  obtain⟨g,hg⟩:∃ g,f[i]? = some g:=⟨_,List.getElem?_eq_getElem hlt⟩
  obtain⟨n,hn⟩:∃ n,w[i]? = some n:=⟨_,List.getElem?_eq_getElem (by omega)⟩
  have hnp:=jA hn
  rw[oy hg hn] at hr
  obtain⟨⟨hw,_⟩,⟨hem,_⟩,hwdl,hwd⟩:=hfo g (List.mem_of_getElem? hg)
  have hcn:=xz g.typ.words hwd hwdl
  obtain⟨z,hz⟩:∃ z,z=jd g n:=⟨_,rfl⟩
  rw[<- hz] at hr
  simp only[jd] at hz
  generalize ij g.typ=W at *
  generalize aY g.typ=E at *
  generalize g.typ.words.any lz=B at *
  obtain⟨nd,hnd⟩:∃ q,q=g.need:=⟨_,rfl⟩
  rw[<- hnd] at hz
  obtain⟨n',nm',nd',⟨k',m',M',s',w',e',f'⟩,d'⟩:=g
  simp only[TFd.typ,TFd.need,Typ.words] at hw hem hcn hnd
  subst hnd
  simp only[Typ.pv_mk] at hw hem
  by_cases c1:n<1\/4096<n
  ·rw[if_pos c1] at hz
   subst hz
   rw[if_neg (by decide)] at hr
   subst hr
   rcases c1 with c1 | c1
   ·simp(disch:=try exact dI) only[hg,Option.map_some,TFd.pv_mk,Typ.pv_mk,ag,hnp,c1,push_cast,seval]
   ·have c2:¬ n<1:=by omega
    simp(disch:=try exact dI) only[hg,Option.map_some,TFd.pv_mk,Typ.pv_mk,ag,hnp,c1,c2,push_cast,seval]
  have c1a:¬ n<1:=fun h=>c1 (.inl h)
  have c1b:¬ 4096<n:=fun h=>c1 (.inr h)
  rw[if_neg c1] at hz
  by_cases c2:n<W
  ·rw[if_pos c2] at hz
   subst hz
   rw[if_neg (by decide)] at hr
   subst hr
   simp(disch:=try exact dI) only[hg,Option.map_some,TFd.pv_mk,Typ.pv_mk,ag,hnp,c1a,c1b,push_cast,seval]
   refine ae hw rfl ?_
   simp(disch:=try exact dI) only[c2,push_cast,seval]
  rw[if_neg c2] at hz
  by_cases c3:nd=2
  ·subst c3
   cases E with
   | true=>
     rw[if_pos ⟨rfl,rfl⟩] at hz
     subst hz
     rw[if_neg (by decide)] at hr
     subst hr
     simp(disch:=try exact dI) only[hg,Option.map_some,TFd.pv_mk,Typ.pv_mk,ag,hnp,c1a,c1b,push_cast,seval]
     refine ae hw rfl ?_
     simp(disch:=try exact dI) only[c2,push_cast,seval]
     refine ab.pure hem rfl ?_
     exact qsZ
   | false=>
     rw[if_neg (fun h=>absurd h.2 (by decide))] at hz
     cases B with
     | true=>
       rw[if_pos rfl] at hz
       subst hz
       rw[if_neg (by decide)] at hr
       subst hr
       simp(disch:=try exact dI) only[hg,Option.map_some,TFd.pv_mk,Typ.pv_mk,ag,hnp,c1a,c1b,push_cast,seval]
       refine ae hw rfl ?_
       simp(disch:=try exact dI) only[c2,push_cast,seval]
       refine ab.pure hem rfl ?_
       refine zgZ ?_
       refine ab.pure hcn rfl ?_
       exact qsZ
     | false=>
       rw[if_neg (show ¬ false=true by decide)] at hz
       subst hz
       rw[if_pos rfl] at hr
       simp(disch:=try exact dI) only[hg,Option.map_some,TFd.pv_mk,Typ.pv_mk,ag,hnp,c1a,c1b,push_cast,seval]
       refine ae hw rfl ?_
       simp(disch:=try exact dI) only[c2,push_cast,seval]
       refine ab.pure hem rfl ?_
       refine zgZ ?_
       refine ab.pure hcn rfl ?_
       simp(disch:=try exact dI) only[hnp,push_cast,seval]
       exact⟨(i+1,S+n),aI qsZ,⟨by simp only;omega,hr,by simp only;omega,by simp only;omega⟩,by simp only;omega⟩
  ·rw[if_neg (fun h=>c3 h.1)] at hz
   cases B with
   | true=>
     rw[if_pos rfl] at hz
     subst hz
     rw[if_neg (by decide)] at hr
     subst hr
     simp(disch:=try exact dI) only[hg,Option.map_some,TFd.pv_mk,Typ.pv_mk,ag,hnp,c1a,c1b,push_cast,seval]
     refine ae hw rfl ?_
     simp(disch:=try exact dI) only[c2,c3,push_cast,seval]
     refine ab.pure hcn rfl ?_
     exact qsZ
   | false=>
     rw[if_neg (show ¬ false=true by decide)] at hz
     subst hz
     rw[if_pos rfl] at hr
     simp(disch:=try exact dI) only[hg,Option.map_some,TFd.pv_mk,Typ.pv_mk,ag,hnp,c1a,c1b,push_cast,seval]
     refine ae hw rfl ?_
     simp(disch:=try exact dI) only[c2,c3,push_cast,seval]
     refine ab.pure hcn rfl ?_
     simp(disch:=try exact dI) only[hnp,push_cast,seval]
     exact⟨(i+1,S+n),aI qsZ,⟨by simp only;omega,hr,by simp only;omega,by simp only;omega⟩,by simp only;omega⟩
 ·obtain rfl:i=f.length:=by omega
  rw[List.drop_length,qu] at hr
  subst hr
  by_cases h9:65536<S
  ·rw[if_pos h9]
   simp(disch:=try exact dI) only[Int.lt_irrefl,h9,push_cast,seval]
  ·rw[if_neg h9]
   simp(disch:=try exact dI) only[Int.lt_irrefl,h9,push_cast,seval]
theorem zC (t:Typ)(ht:t.ok)(w:List Int):ak Tryz.prog ap 12 [t.pv,.list (bX w)] (.int .i64 (n7 t w)):=by
 have h34:=Ib t ht
 unfold n7
 by_cases he:flE t=0
 ·rw[if_pos he]
  by_cases h1:w.length<t.fields.length
  ·rw[if_pos h1]
   rw[he] at h34
   have hwl:=aX w
   have h1I:(w.length:Int)<(t.fields.length:Int):=by omega
   obtain⟨k,m,M,s,wd,e,f⟩:=t
   simp only[Typ.pv_mk,Typ.fields] at h34 h1I ⊢
   refine ak.intro Q12.2 (by simp[Q12]) ?_
   simp(disch:=try exact dI) only[Q12,Typ.pv_mk,hwl,h1I,push_cast,seval]
   refine ab.pure h34 rfl ?_
   simp(disch:=try exact dI) only[hwl,h1I,push_cast,seval]
  rw[if_neg h1]
  by_cases h2:t.fields.length<w.length
  ·rw[if_pos h2]
   rw[he] at h34
   have hwl:=aX w
   have h1I:¬ (w.length:Int)<(t.fields.length:Int):=by omega
   have h2I:(t.fields.length:Int)<(w.length:Int):=by omega
   obtain⟨k,m,M,s,wd,e,f⟩:=t
   simp only[Typ.pv_mk,Typ.fields] at h34 h1I h2I ⊢
   refine ak.intro Q12.2 (by simp[Q12]) ?_
   simp(disch:=try exact dI) only[Q12,Typ.pv_mk,hwl,h1I,h2I,push_cast,seval]
   refine ab.pure h34 rfl ?_
   simp(disch:=try exact dI) only[hwl,h1I,h2I,push_cast,seval]
  rw[if_neg h2]
  exact EL t ht w he (by omega)
 ·rw[if_neg he]
  generalize flE t=z at *
  obtain⟨k,m,M,s,wd,e,f⟩:=t
  simp only[Typ.pv_mk] at h34 ⊢
  refine ak.intro Q12.2 (by simp[Q12]) ?_
  simp(disch:=try exact dI) only[Q12,Typ.pv_mk,push_cast,seval]
  refine ab.pure h34 rfl ?_
  simp(disch:=try exact dI) only[he,push_cast,seval]
end Go.Proofs.YtbojpfpliibfbaaGreatDoor

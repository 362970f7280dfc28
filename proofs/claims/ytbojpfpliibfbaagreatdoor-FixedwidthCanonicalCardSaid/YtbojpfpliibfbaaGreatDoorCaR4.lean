/- A part of the proof. -/
import Derived.Test.YtbojpfpliibfbaaGreatDoorCaR11
set_option maxHeartbeats 16000000
set_option maxRecDepth 100000
set_option linter.unusedVariables false
set_option linter.unusedSimpArgs false
namespace Go.Proofs.YtbojpfpliibfbaaGreatDoor
open Go Go.Ab Go.RowKit Go.Shelf
attribute [local irreducible] vc
attribute [local go_sem] Oper.semAt_some
def cg (w:List Nat)(i:Nat):Nat:=(w.take i).sum
def bd (line:List UInt8)(w:List Nat)(i:Nat):List UInt8:=(line.take (cg w (i+1))).drop (cg w i)
def cS (w:List Nat):List PV:=w.map fun (n:Nat)=>PV.int .i64 (n:Int)
def du (line:List UInt8)(w:List Nat):List (List PV):=(List.range w.length).map fun i=>[.int .i64 (cg w i:Int),.str (bd line w i)]
theorem qJ (w:List Nat):∀ i,cg w i<=w.sum:=fun i=>by
 unfold cg
 conv=>rhs;rw[<- List.take_append_drop i w]
 rw[List.sum_append];omega
theorem dQ {w:List Nat}{i:Nat}{n:Nat}(h:w[i]? = some n):cg w (i+1)=cg w i+n:=by
 unfold cg;rw[aM h,List.sum_append];simp
theorem NW {W:World}{imm:Nat->Nat->Prop}{p:PV}{u:Value}(hc:p.cells=[p])(h:PRel W imm (.eptr [p] 0 0) u):∃ b o v,u = .pointer (some ⟨b,o,none⟩)/\imm b o/\W.cell? ⟨b,o,none⟩=some v/\v.oneCell'=true/\PRel W imm p v:=by
 generalize hl:[p]=l at h
 cases h with
 | eptr _ b off c sz g _ _ h1 h2 h3 h4 h5 h6=>
   subst hl
   obtain⟨q1,q2,q3⟩:=h4 0 p 0 p rfl (by rw[hc];rfl)
   have q4:=h5 0 p 0 p rfl (by rw[hc];rfl)
   exact⟨b,off+0*sz+0,g 0 0,rfl,q1,q2,q3,q4⟩
theorem pw (line:List UInt8)(w:List Nat)(hs:w.sum<=line.length)(hl:line.length<=1000000)(hw:w.length<=1000000):L6 Tryz.prog au 104 [.eptr [.list (cS w)] 0 0,.eptr [.str line] 0 0] (du line w):=by
 refine⟨by kernel_rfl,fun W imm lbv l J Jx O hG himm hsz hlb hgrow hlt hround hJ=>?_⟩
 have hp:=hlb 0 _ rfl
 have hq:=hlb 1 _ rfl
 obtain⟨p,q,rfl⟩:∃ p q,lbv = #[p,q]:=by
  obtain⟨l⟩:=lbv
  match l,hsz with
  | [p,q],_=>exact⟨p,q,rfl⟩
 replace hp:PRel W imm (.eptr [.list (cS w)] 0 0) p:=by simpa using hp
 replace hq:PRel W imm (.eptr [.str line] 0 0) q:=by simpa using hq
 obtain⟨b1,o1,v1,rfl,i1,c1,s1,r1⟩:=NW rfl hp
 obtain⟨b2,o2,v2,rfl,i2,c2,s2,r2⟩:=NW rfl hq
 obtain⟨rfl,_⟩:=jN r2
 simp only[List.append_toArray,List.cons_append,List.nil_append]
 refine callsIn_of_wp Tryz.func104 rfl trivial ?_ rfl
 simp only[Tryz.ntmps104,List.size_toArray,List.length_cons,List.length_nil,Nat.reduceAdd,Nat.reduceSub,Array.replicate_succ,Array.replicate_zero,List.push_toArray,List.append_toArray,List.nil_append,List.cons_append]
 generalize hL:cS w=L at r1
 cases r1 with
 | lnil A c hc=>
   have hw0:w=[]:=by cases w with
    | nil=>rfl
    | cons x r=>simp[cS] at hL
   subst hw0
   gi_wp2
   gi_loopw [9] (fun p wr=>p = .int .i64 0/\wr=W) (fun p wr=>0)
   case atStart=>exact⟨rfl,rfl⟩
   case round=>
    obtain⟨rfl,rfl⟩:=hrel
    gi_wp2
    go_end0
    exact⟨⟨_,rfl⟩,.inl ⟨_,hJ⟩⟩
 | list _ b3 off3 c3 sz3 g3 k1 k2 k3 k4 k5=>
   subst hL
   have hel:∀ (i n:Nat),w[i]? = some n->imm b3 (off3+i)/\W.cell? ⟨b3,off3+i,none⟩=some (.int .i64 (n:Int)):=fun i n hn=>by
    have hx:(cS w)[i]? = some (.int .i64 (n:Int)):=by simp[cS,hn]
    have hz:sz3=1:=(k3 i _ hx).symm
    subst hz
    obtain⟨q1,q2,q3⟩:=k4 i _ 0 _ hx rfl
    have q4:=k5 i _ 0 _ hx rfl
    generalize g3 i 0=u at q2 q4
    cases q4
    exact⟨by simpa using q1,by simpa using q2⟩
   have hlen:(cS w).length=w.length:=by simp[cS]
   rw[hlen] at c1 k1
   clear k3 k4 k5 hp hq r2 hlb
   gi_wp2
   gi_loopw [4,9] (fun p4 p9 wr=>∃ (k:Nat) (O':Nat->Nat->Prop),p4 = .int .i64 (cg w k:Int)/\p9 = .int .i64 (k:Int)/\k<=w.length/\J k O' wr/\Kept imm O' W wr/\nP wr) (fun p4 p9 wr=>w.length - (intOf p9).toNat)
   case atStart=>exact⟨0,O,rfl,rfl,Nat.zero_le _,hJ,⟨Nat.le_refl _,fun b o hb=>(himm b o hb).2,fun _ _ _ _ h=>h⟩,hG.2⟩
   case round=>
    obtain⟨k,O',rfl,rfl,hk,hJk,hKk,hGk⟩:=hrel
    by_cases hlt':k<w.length
    ·obtain⟨n,hn⟩:∃ n,w[k]? = some n:=⟨_,List.getElem?_eq_getElem hlt'⟩
     obtain⟨i3,c3'⟩:=hel k n hn
     have w3:=hKk.cell _ _ _ i3 c3'
     have w2:=hKk.cell _ _ _ i2 c2
     have hkI:(k:Int)<(w.length:Int):=by omega
     have hk0:(0:Int)<=(k:Int):=by omega
     have hst:=dQ hn
     have hle:=qJ w (k+1)
     have hsl:=fun (w':World)=>run_slice_string (P:=Tryz.prog) w' 9 (⟨line.toArray⟩:ByteArray) .i64 .i64 (cg w k:Int) ((cg w k:Int)+(n:Int)) Tryz.underlying9 (by omega) (by omega) (by simp[ByteArray.size];omega)
     have hx:(du line w)[k]? = some [.int .i64 (cg w k:Int),.str (bd line w k)]:=by simp[du,hlt']
     have he:(ByteArray.extract ⟨line.toArray⟩ (cg w k) (cg w k+n)).data.toList=bd line w k:=by
      simp only[ByteArray.data_extract,Array.toList_extract,List.extract_eq_take_drop,bd,hst,List.drop_take]
     have hstr:PRel wr imm (.str (bd line w k)) (.string (ByteArray.extract ⟨line.toArray⟩ (cg w k) (cg w k+n))):=by
      rw[<- he]
      exact .str _ (by simp[ByteArray.size,ByteArray.data_extract];unfold maxLen;omega)
     obtain⟨fn,tmps,assign,body,hy,hR⟩:=hround 0 k _ O' wr #[.int .i64 (cg w k:Int),.string (ByteArray.extract ⟨line.toArray⟩ (cg w k) (cg w k+n))] imm imm hJk hx rfl (fun j y hy=>by
      match j,hy with
      | 0,hy=>simp at hy;subst hy;exact .int _ _
      | 1,hy=>simp at hy;subst hy;exact hstr
      | j+2,hy=>simp at hy) (fun b o h=>.inl h) (fun b o h=>h) (fun b o hb=>⟨Nat.lt_of_lt_of_le (himm b o hb).1 hKk.size,hKk.out b o hb⟩)
     have hkw:wrap64 ((k:Int)+1)=((k+1:Nat):Int):=by unfold wrap64;omega
     have hpw:wrap64 ((cg w k:Int)+(n:Int))=(cg w (k+1):Int):=by rw[hst];unfold wrap64;omega
     have hmu:w.length - (intOf (.int .i64 (wrap64 ((k:Int)+1)))).toNat<w.length - (intOf (.int .i64 (k:Int))).toNat:=by
      rw[hkw]
      exact Nat.sub_lt_sub_left hlt' (Nat.lt_succ_self k)
     gi_wp2
     refine⟨rfl,hR.mono ?_⟩
     rintro e W2 (⟨rfl,⟨O2,hJ2,ho2⟩,hsz2,hc2,hG2⟩ | ⟨rfl,hx2⟩)
     ·have hK2:Kept imm O2 W W2:=hKk.trans ⟨hsz2,ho2,hc2⟩
      gi_wp2
      exact⟨⟨k+1,O2,congrArg _ hpw,congrArg _ hkw,hlt',hJ2,hK2,hG2⟩,hmu⟩
     ·gi_wp2
      refine bodyPost_ret (results_none rfl _ _ _) rfl ?_
      exact⟨⟨_,rfl⟩,.inr hx2⟩
    ·obtain rfl:k=w.length:=by omega
     gi_wp2
     go_end0
     exact⟨⟨_,rfl⟩,.inl ⟨O',by simpa[du] using hJk⟩⟩
def bJ (w:List Int):List PV:=w.map (PV.int .i64)
theorem bq (l:List Int):(bJ l).length=l.length:=by simp[bJ]
theorem jw {l:List Int}{i:Nat}{x:Int}(h:l[i]? = some x):(bJ l)[i]? = some (.int .i64 x):=by simp[bJ,h]
def Dd (x:Int):Bool:=decide (x<1)||decide (4096<x)
theorem Q3 (x:Int):ag Tryz.prog au 103 [.int .i64 x] (.bool (Dd x)):=by
 unfold Dd
 refine ag.intro PK.2 (by simp[PK]) ?_
 by_cases h1:x<1
 ·rw[decide_eq_true h1,Bool.true_or]
  simp(disch:=try exact dI) only[PK,h1,push_cast,seval]
 ·rw[decide_eq_false h1,Bool.false_or]
  simp(disch:=try exact dI) only[PK,h1,push_cast,seval]
theorem FZ (l:List Int)(g:Nat)(q:Int->Bool)(hq:∀ x∈l,ag Tryz.prog au g [.int .i64 x] (.bool (q x)))(hl:l.length<=1000000000) :
  ag Tryz.prog au 155 [.list (bJ l),.clo g [] []] (.int .i64 (eC q l 0)):=by
 refine ag.intro RC.2 (by simp[RC]) ?_
 simp(disch:=try exact dI) only[RC,bq,push_cast,seval]
 refine az ([]) (fun m:Nat=>[(8,.pv (.int .i64 (m:Int)))]) (fun m=>[]) (fun m=>m<=l.length/\eC q l 0=eC q (l.drop m) m) (fun m=>l.length - m) (0) ?_;intro e0 σ0 n0 h0;simp(disch:=try exact dI) only[push_cast,seval] at h0;obtain⟨rfl,rfl,rfl⟩:=h0;refine⟨?_,?_,?_⟩
 ·exact qsZ
 ·exact⟨by omega,by simp⟩
 ·rintro m ⟨hm,he⟩
  by_cases hlt:m<l.length
  ·have hltI:(m:Int)<l.length:=by omega
   obtain⟨x,hx⟩:∃ x,l[m]? = some x:=⟨_,List.getElem?_eq_getElem hlt⟩
   have hcall:=hq x (List.mem_of_getElem? hx)
   have hx':=jw hx
   simp(disch:=try exact dI) only[hx',push_cast,seval]
   refine ab.pure hcall rfl ?_
   cases hqx:q x with
   | true=>
     rw[he,eA hx hqx]
     exact qsZ
   | false=>
     rw[cK hx hqx] at he
     refine zgZ ?_
     exact⟨m+1,aZ qsZ,⟨by omega,he⟩,by omega⟩
  ·have hltI:¬ (m:Int)<l.length:=by omega
   rw[he,eB hlt]
   exact qsZ
theorem wQ (l:List Int)(g:Nat)(q:Int->Bool)(hq:∀ x∈l,ag Tryz.prog au g [.int .i64 x] (.bool (q x)))(hl:l.length<=1000000000) :
  ag Tryz.prog au 102 [.list (bJ l),.clo g [] []] (.bool (l.any q)):=by
 have h94:=FZ l g q hq hl
 have hfa:=dr (p:=q) l
 refine ag.intro PL.2 (by simp[PL]) ?_
 rcases bL (p:=q) l 0 with ⟨h1,h2⟩ | ⟨k,x,h1,h2,h3⟩
 ·rw[h2] at h94
  rw[h1] at hfa
  rw[<- hfa]
  simp(disch:=try exact dI) only[PL,push_cast,seval]
  refine ab.pure h94 rfl ?_
  refine zgZ ?_
  rfl
 ·rw[h3] at h94
  rw[h2] at hfa
  rw[<- hfa]
  have hk:(0:Int)<=((0+k:Nat):Int):=by omega
  generalize ((0+k:Nat):Int)=z at *
  simp(disch:=try exact dI) only[PL,push_cast,seval]
  refine ab.pure h94 rfl ?_
  refine zgZ ?_
  rfl
def GQ (w:List Int):Bool:=decide (64<w.length)||w.any Dd
def je (w:List Int):Int:=w.sum
theorem Ee:je []=0:=rfl
theorem yN {w:List Int}{i:Nat}{x:Int}(h:w[i]? = some x):je (w.take (i+1))=je (w.take i)+x:=by
 unfold je;rw[aM h,List.sum_append];simp
theorem d9 {w:List Int}(h:w.any Dd=false){x:Int}(hx:x∈w):1<=x/\x<=4096:=by
 have:=List.any_eq_false.1 h x hx
 simp only[Dd,Bool.or_eq_true,decide_eq_true_eq,not_or] at this
 omega
theorem mP:∀ (w:List Int),(∀ x∈w,1<=x/\x<=4096)->0<=je w/\je w<=4096*w.length
 | [],_=>by simp[je]
 | x::r,h=>by
   have h1:=h x (List.mem_cons_self ..)
   have h2:=mP r fun y hy=>h y (List.mem_cons_of_mem _ hy)
   simp only[je,List.sum_cons,List.length_cons] at *
   omega
theorem p8 (w:List Int)(hl:w.length<=1000000):ag Tryz.prog au 50 [.list (bJ w)] (.tup [.int .i64 (if GQ w=true then 0 else je w),.int .i64 (if GQ w=true then 2 else 0)]):=by
 have h78:=wQ w 103 Dd (fun x _=>Q3 x) (by omega)
 unfold GQ
 by_cases h64:64<w.length
 ·have h64I:(64:Int)<(w.length:Int):=by omega
  rw[if_pos (by simp[h64]),if_pos (by simp[h64])]
  refine ag.intro Q50.2 (by simp[Q50]) ?_
  simp(disch:=try exact dI) only[Q50,bq,h64I,push_cast,seval]
 have h64I:¬ (64:Int)<(w.length:Int):=by omega
 rw[decide_eq_false h64,Bool.false_or]
 cases hb:w.any Dd with
 | true=>
   rw[hb] at h78
   rw[if_pos rfl,if_pos rfl]
   refine ag.intro Q50.2 (by simp[Q50]) ?_
   simp(disch:=try exact dI) only[Q50,bq,h64I,push_cast,seval]
   refine ab.pure h78 rfl ?_
   exact qsZ
 | false=>
   rw[hb] at h78
   rw[if_neg (by decide),if_neg (by decide)]
   have hr:=fun x hx=>d9 hb (x:=x) hx
   refine ag.intro Q50.2 (by simp[Q50]) ?_
   simp(disch:=try exact dI) only[Q50,bq,h64I,push_cast,seval]
   refine ab.pure h78 rfl ?_
   simp(disch:=try exact dI) only[bq,push_cast,seval]
   refine az ([]) (fun i:Nat=>[(4,.pv (.int .i64 (je (w.take i)))),(16,.pv (.int .i64 (i:Int)))]) (fun _=>[]) (fun i=>i<=w.length) (fun i=>w.length - i) (0) ?_;intro e0 σ0 n0 h0;simp(disch:=try exact dI) only[push_cast,seval] at h0;obtain⟨rfl,rfl,rfl⟩:=h0;refine⟨?_,?_,?_⟩
   ·simp(disch:=try exact dI) only[List.take_zero,Ee,push_cast,seval]
   ·omega
   rintro i hi
   have hsm:=mP (w.take i) fun x hx=>hr x (List.mem_of_mem_take hx)
   rw[List.length_take] at hsm
   by_cases hlt:i<w.length
   ·have hltI:(i:Int)<(w.length:Int):=by omega
    obtain⟨x,hx⟩:∃ x,w[i]? = some x:=⟨_,List.getElem?_eq_getElem hlt⟩
    have hst:=yN hx
    have hxr:=hr x (List.mem_of_getElem? hx)
    have hx':=jw hx
    simp(disch:=try exact dI) only[hx',push_cast,seval]
    exact⟨i+1,aZ (by simp(disch:=try exact dI) only[hst,push_cast,seval]),by omega,by omega⟩
   ·obtain rfl:i=w.length:=by omega
    rw[List.take_length]
    simp(disch:=try exact dI) only[Int.lt_irrefl,push_cast,seval]
def iC (n:Nat)(s:Int):Int:=if (n:Int)<s then 4 else if s<(n:Int) then 5 else 0
theorem BP (line:List UInt8)(s:Int):ag Tryz.prog au 51 [.str line,.int .i64 s] (.int .i64 (iC line.length s)):=by
 unfold iC
 refine ag.intro Q51.2 (by simp[Q51]) ?_
 by_cases h1:(line.length:Int)<s
 ·rw[if_pos h1]
  simp(disch:=try exact dI) only[Q51,h1,push_cast,seval]
 ·rw[if_neg h1]
  by_cases h2:s<(line.length:Int)
  ·rw[if_pos h2]
   simp(disch:=try exact dI) only[Q51,h1,h2,push_cast,seval]
  ·rw[if_neg h2]
   simp(disch:=try exact dI) only[Q51,h1,h2,push_cast,seval]
theorem CS (line:List UInt8)(w:List PV):ag Tryz.prog au 52 [.str line,.list w] (.clo 104 [] [.eptr [.list w] 0 0,.eptr [.str line] 0 0]):=by
 refine ag.intro Q52.2 (by simp[Q52]) ?_
 simp(disch:=try exact dI) only[Q52,push_cast,seval]
def Dz (line:List UInt8)(w:List Nat)(n:Nat):List PV:=(List.range n).map fun i=>.str (bd line w i)
theorem Fh (line:List UInt8)(w:List Nat):Dz line w 0=[]:=rfl
theorem At (line:List UInt8)(w:List Nat)(n:Nat):Dz line w (n+1)=Dz line w n++[.str (bd line w n)]:=by simp[Dz,List.range_succ]
theorem Fi (line:List UInt8)(w:List Nat)(n:Nat):(Dz line w n).length=n:=by simp[Dz]
theorem AO {w:List Int}(h:w.any Dd=false):∃ v:List Nat,w=v.map (fun n:Nat=>(n:Int))/\je w=(v.sum:Nat)/\∀ x∈v,1<=x/\x<=4096:=by
 refine⟨w.map Int.toNat,?_,?_,fun x hx=>?_⟩
 ·rw[List.map_map]
  conv=>lhs;rw[<- List.map_id w]
  refine List.map_congr_left fun x hx=>?_
  have:=d9 h hx
  simp only[Function.comp,id];omega
 ·have:∀ (l:List Int),(∀ x∈l,1<=x/\x<=4096)->je l=((l.map Int.toNat).sum:Nat):=by
   intro l hl
   induction l with
   | nil=>rfl
   | cons x r ih=>
     have h1:=hl x (List.mem_cons_self ..)
     have h2:=ih fun y hy=>hl y (List.mem_cons_of_mem _ hy)
     simp only[je,List.sum_cons,List.map_cons] at *
     omega
  exact this w fun x hx=>d9 h hx
 ·obtain⟨y,hy,rfl⟩:=List.mem_map.1 hx
  have:=d9 h hy
  omega
theorem fu (v:List Nat):bJ (v.map fun n:Nat=>(n:Int))=cS v:=by simp[bJ,cS]
def gl (g:TFd)(n:Int):Int:=if n<1\/4096<n then 2 else if n<dm g.typ then 5 else if g.need=2/\aT g.typ=true then 19 else if g.typ.words.any AG=true then 6 else 0
def xH:List TFd->List Int->Int->Int
 | g::f,n::w,s=>if gl g n=0 then xH f w (s+n) else gl g n
 | [],_,s=>if 65536<s then 9 else 0
 | _,[],s=>if 65536<s then 9 else 0
theorem zh {f:List TFd}{w:List Int}{i:Nat}{g:TFd}{n:Int}(hg:f[i]? = some g)(hn:w[i]? = some n)(s:Int):xH (f.drop i) (w.drop i) s=if gl g n=0 then xH (f.drop (i+1)) (w.drop (i+1)) (s+n) else gl g n:=by
 have h1:=(List.getElem?_eq_some_iff.1 hg)
 have h2:=(List.getElem?_eq_some_iff.1 hn)
 obtain⟨hi,he⟩:=h1
 obtain⟨hj,hf⟩:=h2
 rw[List.drop_eq_getElem_cons hi,List.drop_eq_getElem_cons hj,he,hf,xH]
noncomputable def sE (t:Typ)(w:List Int):Int:=if flE t=0 then (if w.length<t.fields.length then 4 else if t.fields.length<w.length then 5 else xH t.fields w 0) else flE t
structure FldOk (g:TFd):Prop where
 wid:ag Tryz.prog au 35 [g.typ.pv] (.int .i64 (dm g.typ))/\ag Tryz.prog au 30 [g.typ.pv] (.int .i64 (dm g.typ))
 emp:ag Tryz.prog au 36 [g.typ.pv] (.bool (aT g.typ))/\ag Tryz.prog au 40 [g.typ.pv] (.bool (aT g.typ))
 wrd:g.typ.words.length<=9000000000000/\∀ x∈g.typ.words,x.length<=140737488351232
theorem HW {t:Typ}(h:lN t=0)(ht:t.ok)(hf:eS t=true):∀ g∈t.fields,FldOk g:=fun g hg=>by
 have hw:=KI h ht hf g hg
 have hty:=go h
 obtain⟨h9,_,hs⟩:=cj hf
 obtain⟨k,m,M,s,w,e,f⟩:=t
 rw[Typ.ok_mk] at ht
 have ho:=iP (hty.2.2 (.inl h9) g hg).1
 have hgt:=(fJ (ht.2.2.2.2.2.2.2.2.2 g hg)).1
 obtain⟨n',nm',nd',⟨k',m',M',s',w',e',f'⟩,d'⟩:=g
 simp only[TFd.typ] at hw ho hgt ⊢
 rw[Typ.ok_mk] at hgt
 have hwl:w'.length<=9000000000000:=by omega
 exact⟨hw,⟨KY k' m' M' s' w' e' f' hwl,LN k' m' M' s' w' e' f' hwl ho⟩,hwl,hgt.2.2.2.2.2.1⟩
theorem EA (t:Typ)(ht:t.ok)(w:List Int)(he:flE t=0)(hlen:w.length=t.fields.length):ag Tryz.prog au 12 [t.pv,.list (bJ w)] (.int .i64 (xH t.fields w 0)):=by
 have h34:=HX t ht
 obtain⟨h0,hfl⟩:=rC he
 have hfo:=HW h0 ht hfl
 rw[he] at h34
 clear he h0 hfl
 obtain⟨k,m,M,s,wd,e,f⟩:=t
 rw[Typ.ok_mk] at ht
 have hf:f.length<=9000000000000:=by omega
 clear ht
 simp only[Typ.pv_mk,Typ.fields] at h34 hfo hlen ⊢
 obtain⟨R,hR⟩:∃ R,R=xH f w 0:=⟨_,rfl⟩
 rw[<- hR]
 have hwl:=bq w
 have hlI:(w.length:Int)=(f.length:Int):=by omega
 refine ag.intro Q12.2 (by simp[Q12]) ?_
 simp(disch:=try exact dI) only[Q12,Typ.pv_mk,hwl,hlI,Int.lt_irrefl,push_cast,seval]
 refine ab.pure h34 rfl ?_
 simp(disch:=try exact dI) only[hwl,hlI,Int.lt_irrefl,push_cast,seval]
 refine az ([]) (fun x:Nat×Int=>[(6,.pv (.int .i64 x.2)),(31,.pv (.int .i64 (x.1:Int)))]) (fun _=>[]) (fun x=>x.1<=f.length/\R=xH (f.drop x.1) (w.drop x.1) x.2/\0<=x.2/\x.2<=4096*(x.1:Int)) (fun x=>f.length - x.1) ((0,0)) ?_;intro e0 σ0 n0 h0;simp(disch:=try exact dI) only[push_cast,seval] at h0;obtain⟨rfl,rfl,rfl⟩:=h0;refine⟨?_,?_,?_⟩
 ·exact qsZ
 ·exact⟨by simp,by simpa using hR,by simp,by simp⟩
 rintro⟨i,S⟩ ⟨hi,hr,hS,hS2⟩
 simp only at hi hr hS hS2
 by_cases hlt:i<f.length
 ·have hltI:(i:Int)<(f.length:Int):=by omega
  obtain⟨g,hg⟩:∃ g,f[i]? = some g:=⟨_,List.getElem?_eq_getElem hlt⟩
  obtain⟨n,hn⟩:∃ n,w[i]? = some n:=⟨_,List.getElem?_eq_getElem (by omega)⟩
  have hnp:=jw hn
  rw[zh hg hn] at hr
  obtain⟨⟨hw,_⟩,⟨hem,_⟩,hwdl,hwd⟩:=hfo g (List.mem_of_getElem? hg)
  have hcn:=wS g.typ.words hwd hwdl
  obtain⟨z,hz⟩:∃ z,z=gl g n:=⟨_,rfl⟩
  rw[<- hz] at hr
  simp only[gl] at hz
  generalize dm g.typ=W at *
  generalize aT g.typ=E at *
  generalize g.typ.words.any AG=B at *
  obtain⟨nd,hnd⟩:∃ q,q=g.need:=⟨_,rfl⟩
  rw[<- hnd] at hz
  obtain⟨n',nm',nd',⟨k',m',M',s',w',e',f'⟩,d'⟩:=g
  simp only[TFd.typ,TFd.need,Typ.words] at hw hem hcn hnd
  subst hnd
  simp only[Typ.pv_mk] at hw hem
  by_cases c1:n<1\/4096<n
  ·rw[if_pos c1] at hz
   subst hz
   rw[if_neg (by decide)] at hr
   subst hr
   rcases c1 with c1 | c1
   ·simp(disch:=try exact dI) only[hg,Option.map_some,TFd.pv_mk,Typ.pv_mk,am,hnp,c1,push_cast,seval]
   ·have c2:¬ n<1:=by omega
    simp(disch:=try exact dI) only[hg,Option.map_some,TFd.pv_mk,Typ.pv_mk,am,hnp,c1,c2,push_cast,seval]
  have c1a:¬ n<1:=fun h=>c1 (.inl h)
  have c1b:¬ 4096<n:=fun h=>c1 (.inr h)
  rw[if_neg c1] at hz
  by_cases c2:n<W
  ·rw[if_pos c2] at hz
   subst hz
   rw[if_neg (by decide)] at hr
   subst hr
   simp(disch:=try exact dI) only[hg,Option.map_some,TFd.pv_mk,Typ.pv_mk,am,hnp,c1a,c1b,push_cast,seval]
   refine aq hw rfl ?_
   simp(disch:=try exact dI) only[c2,push_cast,seval]
  rw[if_neg c2] at hz
  by_cases c3:nd=2
  ·subst c3
   cases E with
   | true=>
     rw[if_pos ⟨rfl,rfl⟩] at hz
     subst hz
     rw[if_neg (by decide)] at hr
     subst hr
     simp(disch:=try exact dI) only[hg,Option.map_some,TFd.pv_mk,Typ.pv_mk,am,hnp,c1a,c1b,push_cast,seval]
     refine aq hw rfl ?_
     simp(disch:=try exact dI) only[c2,push_cast,seval]
     refine ab.pure hem rfl ?_
     exact qsZ
   | false=>
     rw[if_neg (fun h=>absurd h.2 (by decide))] at hz
     cases B with
     | true=>
       rw[if_pos rfl] at hz
       subst hz
       rw[if_neg (by decide)] at hr
       subst hr
       simp(disch:=try exact dI) only[hg,Option.map_some,TFd.pv_mk,Typ.pv_mk,am,hnp,c1a,c1b,push_cast,seval]
       refine aq hw rfl ?_
       simp(disch:=try exact dI) only[c2,push_cast,seval]
       refine ab.pure hem rfl ?_
       refine zgZ ?_
       refine ab.pure hcn rfl ?_
       exact qsZ
     | false=>
       rw[if_neg (show ¬ false=true by decide)] at hz
       subst hz
       rw[if_pos rfl] at hr
       simp(disch:=try exact dI) only[hg,Option.map_some,TFd.pv_mk,Typ.pv_mk,am,hnp,c1a,c1b,push_cast,seval]
       refine aq hw rfl ?_
       simp(disch:=try exact dI) only[c2,push_cast,seval]
       refine ab.pure hem rfl ?_
       refine zgZ ?_
       refine ab.pure hcn rfl ?_
       simp(disch:=try exact dI) only[hnp,push_cast,seval]
       exact⟨(i+1,S+n),aZ qsZ,⟨by simp only;omega,hr,by simp only;omega,by simp only;omega⟩,by simp only;omega⟩
  ·rw[if_neg (fun h=>c3 h.1)] at hz
   cases B with
   | true=>
     rw[if_pos rfl] at hz
     subst hz
     rw[if_neg (by decide)] at hr
     subst hr
     simp(disch:=try exact dI) only[hg,Option.map_some,TFd.pv_mk,Typ.pv_mk,am,hnp,c1a,c1b,push_cast,seval]
     refine aq hw rfl ?_
     simp(disch:=try exact dI) only[c2,c3,push_cast,seval]
     refine ab.pure hcn rfl ?_
     exact qsZ
   | false=>
     rw[if_neg (show ¬ false=true by decide)] at hz
     subst hz
     rw[if_pos rfl] at hr
     simp(disch:=try exact dI) only[hg,Option.map_some,TFd.pv_mk,Typ.pv_mk,am,hnp,c1a,c1b,push_cast,seval]
     refine aq hw rfl ?_
     simp(disch:=try exact dI) only[c2,c3,push_cast,seval]
     refine ab.pure hcn rfl ?_
     simp(disch:=try exact dI) only[hnp,push_cast,seval]
     exact⟨(i+1,S+n),aZ qsZ,⟨by simp only;omega,hr,by simp only;omega,by simp only;omega⟩,by simp only;omega⟩
 ·obtain rfl:i=f.length:=by omega
  rw[List.drop_length,xH] at hr
  subst hr
  by_cases h9:65536<S
  ·rw[if_pos h9]
   simp(disch:=try exact dI) only[Int.lt_irrefl,h9,push_cast,seval]
  ·rw[if_neg h9]
   simp(disch:=try exact dI) only[Int.lt_irrefl,h9,push_cast,seval]
theorem sC (t:Typ)(ht:t.ok)(w:List Int):ag Tryz.prog au 12 [t.pv,.list (bJ w)] (.int .i64 (sE t w)):=by
 have h34:=HX t ht
 unfold sE
 by_cases he:flE t=0
 ·rw[if_pos he]
  by_cases h1:w.length<t.fields.length
  ·rw[if_pos h1]
   rw[he] at h34
   have hwl:=bq w
   have h1I:(w.length:Int)<(t.fields.length:Int):=by omega
   obtain⟨k,m,M,s,wd,e,f⟩:=t
   simp only[Typ.pv_mk,Typ.fields] at h34 h1I ⊢
   refine ag.intro Q12.2 (by simp[Q12]) ?_
   simp(disch:=try exact dI) only[Q12,Typ.pv_mk,hwl,h1I,push_cast,seval]
   refine ab.pure h34 rfl ?_
   simp(disch:=try exact dI) only[hwl,h1I,push_cast,seval]
  rw[if_neg h1]
  by_cases h2:t.fields.length<w.length
  ·rw[if_pos h2]
   rw[he] at h34
   have hwl:=bq w
   have h1I:¬ (w.length:Int)<(t.fields.length:Int):=by omega
   have h2I:(t.fields.length:Int)<(w.length:Int):=by omega
   obtain⟨k,m,M,s,wd,e,f⟩:=t
   simp only[Typ.pv_mk,Typ.fields] at h34 h1I h2I ⊢
   refine ag.intro Q12.2 (by simp[Q12]) ?_
   simp(disch:=try exact dI) only[Q12,Typ.pv_mk,hwl,h1I,h2I,push_cast,seval]
   refine ab.pure h34 rfl ?_
   simp(disch:=try exact dI) only[hwl,h1I,h2I,push_cast,seval]
  rw[if_neg h2]
  exact EA t ht w he (by omega)
 ·rw[if_neg he]
  generalize flE t=z at *
  obtain⟨k,m,M,s,wd,e,f⟩:=t
  simp only[Typ.pv_mk] at h34 ⊢
  refine ag.intro Q12.2 (by simp[Q12]) ?_
  simp(disch:=try exact dI) only[Q12,Typ.pv_mk,push_cast,seval]
  refine ab.pure h34 rfl ?_
  simp(disch:=try exact dI) only[he,push_cast,seval]
end Go.Proofs.YtbojpfpliibfbaaGreatDoor

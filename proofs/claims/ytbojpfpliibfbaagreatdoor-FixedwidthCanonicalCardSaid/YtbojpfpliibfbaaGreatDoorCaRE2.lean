/- A part of the proof. -/
import Derived.Test.YtbojpfpliibfbaaGreatDoorCaRC17
set_option maxHeartbeats 16000000
set_option maxRecDepth 100000
set_option linter.unusedVariables false
set_option linter.unusedSimpArgs false
namespace Go.Proofs.YtbojpfpliibfbaaGreatDoor
open Go Go.Ab
attribute [local irreducible] vc
theorem ry (l:List TFd)(g:Nat)(cs:List PV)(q:TFd->Bool)(hq:∀ x∈l,ag Tryz.prog au g (x.pv::cs) (.bool (q x)))(hl:l.length<=9000000000000) :
  ag Tryz.prog au 193 [.list (l.map TFd.pv),.clo g [] cs] (.int .i64 (eC q l 0)):=by
 refine ag.intro Md.2 (by simp[Md]) ?_
 simp(disch:=try exact dI) only[Md,push_cast,seval]
 refine az ([]) (fun m:Nat=>[(8,.pv (.int .i64 (m:Int)))]) (fun m=>[]) (fun m=>m<=l.length/\eC q l 0=eC q (l.drop m) m) (fun m=>l.length - m) (0) ?_;intro e0 σ0 n0 h0;simp(disch:=try exact dI) only[push_cast,seval] at h0;obtain⟨rfl,rfl,rfl⟩:=h0;refine⟨?_,?_,?_⟩
 ·exact qsZ
 ·exact⟨by omega,by simp⟩
 ·rintro m ⟨hm,he⟩
  by_cases hlt:m<l.length
  ·have hltI:(m:Int)<l.length:=by omega
   obtain⟨x,hx⟩:∃ x,l[m]? = some x:=⟨_,List.getElem?_eq_getElem hlt⟩
   have hcall:=hq x (List.mem_of_getElem? hx)
   simp(disch:=try exact dI) only[hx,TFd.cells_len,TFd.isAgg,push_cast,seval]
   refine ab.pure hcall (by exact oz (x.pv::cs)) ?_
   cases hqx:q x with
   | true=>
     rw[he,eA hx hqx]
     exact qsZ
   | false=>
     rw[cK hx hqx] at he
     refine zgZ ?_
     exact⟨m+1,aZ qsZ,⟨by omega,he⟩,by omega⟩
  ·have hltI:¬ (m:Int)<l.length:=by omega
   rw[he,eB hlt]
   exact qsZ
theorem my (l:List TFd)(g:Nat)(cs:List PV)(q:TFd->Bool)(hq:∀ x∈l,ag Tryz.prog au g (x.pv::cs) (.bool (q x)))(hl:l.length<=9000000000000) :
  ag Tryz.prog au 129 [.list (l.map TFd.pv),.clo g [] cs] (.bool (l.any q)):=by
 have h94:=ry l g cs q hq hl
 have hfa:=dr (p:=q) l
 refine ag.intro Ij.2 (by simp[Ij]) ?_
 rcases bL (p:=q) l 0 with ⟨h1,h2⟩ | ⟨k,x,h1,h2,h3⟩
 ·rw[h2] at h94
  rw[h1] at hfa
  rw[<- hfa]
  simp(disch:=try exact dI) only[Ij,push_cast,seval]
  refine ab.pure h94 rfl ?_
  refine zgZ ?_
  exact .refl _
 ·rw[h3] at h94
  rw[h2] at hfa
  rw[<- hfa]
  have hk:(0:Int)<=((0+k:Nat):Int):=by omega
  generalize ((0+k:Nat):Int)=z at *
  simp(disch:=try exact dI) only[Ij,push_cast,seval]
  refine ab.pure h94 rfl ?_
  refine zgZ ?_
  exact .refl _
def wL (f:TFd):Bool:=decide (f.typ.kind<1)||decide (7<f.typ.kind)
theorem N2 (f:TFd):ag Tryz.prog au 130 [f.pv] (.bool (wL f)):=by
 obtain⟨a,b,c,⟨k,m,n,s,w,e,fs⟩,d⟩:=f
 refine ag.intro Pd.2 (by simp[Pd]) ?_
 simp only[wL,TFd.typ,Typ.kind]
 by_cases h1:k<1
 ·simp(disch:=try exact dI) only[Pd,TFd.pv_mk,Typ.pv_mk,push_cast,seval]
  simp[h1]
 ·by_cases h2:7<k
  ·simp(disch:=try exact dI) only[Pd,TFd.pv_mk,Typ.pv_mk,push_cast,seval]
   simp[h1,h2]
  ·simp(disch:=try exact dI) only[Pd,TFd.pv_mk,Typ.pv_mk,push_cast,seval]
   simp[h1,h2]
def eS:Typ->Bool
 | .mk k _ _ _ _ _ f=>decide (k=9)&&(decide (0<f.length)&&!(f.any wL))
theorem NH (t:Typ)(h:t.fields.length<=9000000000000):ag Tryz.prog au 74 [t.pv] (.bool (eS t)):=by
 obtain⟨k,m,n,s,w,e,f⟩:=t
 simp only[Typ.fields] at h
 have h64:=my f 130 [] wL (fun x _=>N2 x) (by omega)
 refine ag.intro Q74.2 (by simp[Q74]) ?_
 simp only[eS]
 by_cases h1:k=9
 ·by_cases h2:0<f.length
  ·have h2I:(0:Int)<f.length:=by omega
   simp(disch:=try exact dI) only[Q74,Typ.pv_mk,h1,push_cast,seval]
   refine ab.pure h64 rfl ?_
   exact qsZ
  ·have h2I:¬ (0:Int)<f.length:=by omega
   simp(disch:=try exact dI) only[Q74,Typ.pv_mk,h1,push_cast,seval]
 ·simp(disch:=try exact dI) only[Q74,Typ.pv_mk,h1,push_cast,seval]
def Cf (s:List UInt8):Bool:=decide (s[s.length - 1]? = some 32)
def A4 (c:UInt8):Bool:=decide (c.toNat<32)
def wrB (s:List UInt8):Bool:=!Cf s&&!(s.any A4)
theorem Cm {s:List UInt8}{c:UInt8}(h:s[s.length - 1]? = some c):s.drop (s.length - 1)=[c]:=by
 have hi:=(List.getElem?_eq_some_iff.1 h).1
 have he:s[s.length - 1]=c:=(List.getElem?_eq_some_iff.1 h).2
 rw[List.drop_eq_getElem_cons hi,he,List.drop_of_length_le (by omega)]
theorem yO (s:List UInt8)(hs:s.length<=140737488351232):ag Tryz.prog au 132 [.str s,.str [32]] (.bool (Cf s)):=by
 by_cases h0:s=[]
 ·subst h0
  rw[show Cf []=false from rfl]
  refine ag.intro LH.2 (by simp[LH]) ?_
  simp(disch:=try exact dI) only[LH,push_cast,seval]
 ·have hp:0<s.length:=List.length_pos_iff.2 h0
  obtain⟨c,hc⟩:∃ c,s[s.length - 1]? = some c:=⟨_,List.getElem?_eq_getElem (by omega)⟩
  have hd:=Cm hc
  have h1:(1:Int)<=(s.length:Int):=by omega
  have et:((s.length:Int) - 1).toNat=s.length - 1:=by omega
  have hEq:Cf s=decide (c=32):=by unfold Cf;rw[hc];simp
  rw[hEq]
  refine ag.intro LH.2 (by simp[LH]) ?_
  by_cases h:c=32
  ·subst h
   rw[decide_eq_true rfl]
   simp(disch:=try exact dI) only[LH,h1,et,hd,List.take_length,push_cast,seval]
  ·rw[decide_eq_false h]
   have hne:¬ [c]=([32]:List UInt8):=by simpa using h
   simp(disch:=try exact dI) only[LH,h1,et,hd,List.take_length,hne,push_cast,seval]
theorem Ef (s:List UInt8)(hs:s.length<=140737488351232):ag Tryz.prog au 77 [.str s,.str [32]] (.bool (Cf s)):=by
 have h:=yO s hs
 generalize Cf s=b at *
 refine ag.intro Q77.2 (by simp[Q77]) ?_
 simp(disch:=try exact dI) only[Q77,push_cast,seval]
 refine ab.pure h rfl ?_
 exact qsZ
theorem Ql (c:UInt8):ag Tryz.prog au 79 [.int .u8 (c.toNat:Int)] (.bool (A4 c)):=by
 unfold A4
 refine ag.intro Q79.2 (by simp[Q79]) ?_
 by_cases h:c.toNat<32
 ·have hI:(c.toNat:Int)<32:=by omega
  rw[decide_eq_true h]
  simp(disch:=try exact dI) only[Q79,hI,push_cast,seval]
 ·have hI:¬ (c.toNat:Int)<32:=by omega
  rw[decide_eq_false h]
  simp(disch:=try exact dI) only[Q79,hI,push_cast,seval]
theorem C4 (s:List UInt8):(aC s).length=s.length:=by simp[aC]
theorem uc {s:List UInt8}{i:Nat}{c:UInt8}(h:s[i]? = some c):(aC s)[i]? = some (.int .u8 (c.toNat:Int)):=by simp[aC,h]
theorem F3 (s:List UInt8)(hs:s.length<=140737488351232):ag Tryz.prog au 133 [.list (aC s),.clo 79 [] []] (.int .i64 (eC A4 s 0)):=by
 refine ag.intro RJ.2 (by simp[RJ]) ?_
 simp(disch:=try exact dI) only[RJ,C4,push_cast,seval]
 refine az ([]) (fun m:Nat=>[(8,.pv (.int .i64 (m:Int)))]) (fun m=>[]) (fun m=>m<=s.length/\eC A4 s 0=eC A4 (s.drop m) m) (fun m=>s.length - m) (0) ?_;intro e0 σ0 n0 h0;simp(disch:=try exact dI) only[push_cast,seval] at h0;obtain⟨rfl,rfl,rfl⟩:=h0;refine⟨?_,?_,?_⟩
 ·exact qsZ
 ·exact⟨by omega,by simp⟩
 ·rintro m ⟨hm,he⟩
  by_cases hlt:m<s.length
  ·have hltI:(m:Int)<s.length:=by omega
   obtain⟨x,hx⟩:∃ x,s[m]? = some x:=⟨_,List.getElem?_eq_getElem hlt⟩
   have hcall:=Ql x
   have hx':=uc hx
   simp(disch:=try exact dI) only[hx',push_cast,seval]
   refine ab.pure hcall rfl ?_
   cases hqx:A4 x with
   | true=>
     rw[he,eA hx hqx]
     exact qsZ
   | false=>
     rw[cK hx hqx] at he
     refine zgZ ?_
     exact⟨m+1,aZ qsZ,⟨by omega,he⟩,by omega⟩
  ·have hltI:¬ (m:Int)<s.length:=by omega
   rw[he,eB hlt]
   exact qsZ
theorem wR (s:List UInt8)(hs:s.length<=140737488351232):ag Tryz.prog au 78 [.list (aC s),.clo 79 [] []] (.bool (s.any A4)):=by
 have h94:=F3 s hs
 have hfa:=dr (p:=A4) s
 refine ag.intro Q78.2 (by simp[Q78]) ?_
 rcases bL (p:=A4) s 0 with ⟨h1,h2⟩ | ⟨k,x,h1,h2,h3⟩
 ·rw[h2] at h94
  rw[h1] at hfa
  rw[<- hfa]
  simp(disch:=try exact dI) only[Q78,push_cast,seval]
  refine ab.pure h94 rfl ?_
  refine zgZ ?_
  rfl
 ·rw[h3] at h94
  rw[h2] at hfa
  rw[<- hfa]
  have hk:(0:Int)<=((0+k:Nat):Int):=by omega
  generalize ((0+k:Nat):Int)=z at *
  simp(disch:=try exact dI) only[Q78,push_cast,seval]
  refine ab.pure h94 rfl ?_
  refine zgZ ?_
  rfl
theorem pQ (e:List (Nat×AV))(σ:List (Nat×Blk))(new:Nat)(x:AX):lC e σ new (.ofStr x)=dO new (evE e x):=_root_.id rfl
theorem u7 (new:Nat){k:List UInt8}(h:k.length<=140737488355328):dO new (.pv (.str k))=some (.pv (.list (aC k)),[(new,.none)]):=by simp[dO,h]
theorem jF (s:List UInt8)(hs:s.length<=140737488351232):ag Tryz.prog au 39 [.str s] (.bool (wrB s)):=by
 have h66:=Ef s hs
 have h67:=wR s hs
 unfold wrB
 have hof:=fun new=>u7 new (k:=s) (by omega)
 generalize Cf s=a at *
 generalize s.any A4=b at *
 refine ag.intro Q39.2 (by simp[Q39]) ?_
 simp(disch:=try exact dI) only[Q39,push_cast,seval]
 refine ab.pure h66 rfl ?_
 cases a with
 | true=>simp(disch:=try exact dI) only[push_cast,seval]
 | false=>
   simp(disch:=try exact dI) only[pQ,hof,push_cast,seval]
   refine ab.pure h67 rfl ?_
   exact qsZ
def Sa:List UInt8:=[48,49,50,51,52,53,54,55,56,57,97,98,99,100,101,102]
def hxB (n:Nat):UInt8:=Sa.getD n 0
theorem ND {n:Nat}(h:n<16):([48,49,50,51,52,53,54,55,56,57,97,98,99,100,101,102]:List UInt8)[n]? = some (hxB n):=by
 have hc:n=0\/n=1\/n=2\/n=3\/n=4\/n=5\/n=6\/n=7\/n=8\/n=9\/n=10\/n=11\/n=12\/n=13\/n=14\/n=15:=by omega
 rcases hc with rfl | rfl | rfl | rfl | rfl | rfl | rfl | rfl | rfl | rfl | rfl | rfl | rfl | rfl | rfl | rfl<;>rfl
def hx2 (c:UInt8):List UInt8:=[hxB (c.toNat / 16),hxB (c.toNat % 16)]
def fD (s:List UInt8):List UInt8:=s.flatMap hx2
theorem nk (s:List UInt8):(fD s).length=2*s.length:=by
 induction s with
 | nil=>simp[fD]
 | cons c r ih=>simp only[fD,List.flatMap_cons,List.length_append,List.length_cons,hx2,List.length_nil] at *;omega
theorem Bu {s:List UInt8}{i:Nat}{c:UInt8}(h:s[i]? = some c):fD (s.take (i+1))=fD (s.take i)++hx2 c:=by
 rw[aM h];simp[fD]
theorem C5 (a:List UInt8)(c:UInt8):aC (a++hx2 c)=aC a++[.int .u8 ((hxB (c.toNat / 16)).toNat:Int),.int .u8 ((hxB (c.toNat % 16)).toNat:Int)]:=by simp[aC,hx2]
theorem pR (e:List (Nat×AV))(σ:List (Nat×Blk))(new:Nat)(x:AX):lC e σ new (.ofStr x)=dO new (evE e x):=_root_.id rfl
theorem u9 (new:Nat){k:List UInt8}(h:k.length<=140737488355328):dO new (.pv (.str k))=some (.pv (.list (aC k)),[(new,.none)]):=by simp[dO,h]
theorem Ey (k:Int):ag Tryz.prog au 101 [.int .i64 k] (.bool (decide (k=2\/k=3))):=by
 refine ag.intro Pf.2 (by simp[Pf]) ?_
 by_cases h2:k=2
 ·subst h2
  rw[decide_eq_true (.inl rfl)]
  simp(disch:=try exact dI) only[Pf,push_cast,seval]
 ·by_cases h3:k=3
  ·subst h3
   rw[decide_eq_true (.inr rfl)]
   simp(disch:=try exact dI) only[Pf,push_cast,seval]
  ·rw[decide_eq_false (fun h=>h.elim h2 h3)]
   simp(disch:=try exact dI) only[Pf,h2,h3,push_cast,seval]
theorem r6 (v:Val)(hs:v.text.length<=100000):ag Tryz.prog au 86 [v.pv] (.str (fD v.text)):=by
 obtain⟨k,n,sc,s,l,f⟩:=v
 simp only[Val.text] at hs ⊢
 have hof:=fun new=>u9 new (k:=s) (by omega)
 have hbl:(aC s).length=s.length:=by simp[aC]
 refine ag.intro Q86.2 (by simp[Q86]) ?_
 simp(disch:=try exact dI) only[Q86,Val.pv_mk,pR,hof,hbl,push_cast,seval]
 refine az ([(3,0,5,1)]) (fun i:Nat=>[(3,.olist 0 1 (aC (fD (s.take i)))),(10,.pv (.int .i64 (i:Int)))]) (fun _=>[]) (fun i=>i<=s.length) (fun i=>s.length - i) (0) ?_;intro e0 σ0 n0 h0;simp(disch:=try exact dI) only[push_cast,seval] at h0;obtain⟨rfl,rfl,rfl⟩:=h0;refine⟨?_,?_,?_⟩
 ·simp(disch:=try exact dI) only[List.take_zero,fD,List.flatMap_nil,aC,List.map_nil,push_cast,seval]
 ·omega
 rintro i hi
 by_cases hlt:i<s.length
 ·obtain⟨c,hc⟩:∃ c,s[i]? = some c:=⟨_,List.getElem?_eq_getElem hlt⟩
  have hltI:(i:Int)<(s.length:Int):=by omega
  have hcp:=uc hc
  have hsn:=Bu hc
  have hl:=nk (s.take i)
  rw[List.length_take] at hl
  have hcl:=c.toNat_lt
  have hB:aC (fD (s.take (i+1)))=aC (fD (s.take i))++[.int .u8 ((hxB (c.toNat / 16)).toNat:Int),.int .u8 ((hxB (c.toNat % 16)).toNat:Int)]:=by rw[hsn,C5]
  obtain⟨q,hqN⟩:∃ q,q=c.toNat / 16:=⟨_,rfl⟩
  obtain⟨m,hmN⟩:∃ m,m=c.toNat % 16:=⟨_,rfl⟩
  rw[<- hqN,<- hmN] at hB
  have hq:((c.toNat:Int) / 16)=(q:Int):=by omega
  have hm:((c.toNat:Int) % 16)=(m:Int):=by omega
  have hxq:=ND (n:=q) (by omega)
  have hxm:=ND (n:=m) (by omega)
  have hL:(aC (fD (s.take i))).length<=300000:=by
   rw[show (aC (fD (s.take i))).length=(fD (s.take i)).length by simp[aC]];omega
  clear hsn hl
  generalize aC (fD (s.take i))=T at *
  simp(disch:=try exact dI) only[hltI,hcp,hq,hm,hxq,hxm,push_cast,seval]
  exact⟨i+1,aZ (by simp(disch:=try exact dI) only[hB,push_cast,seval]),by omega,by omega⟩
 ·obtain rfl:i=s.length:=by omega
  rw[List.take_length]
  have hl:=nk s
  have hU:u8s (aC (fD s))=some (fD s):=gj _
  have hL:(aC (fD s)).length<=300000:=by
   rw[show (aC (fD s)).length=(fD s).length by simp[aC]];omega
  generalize aC (fD s)=T at *
  simp(disch:=try exact dI) only[Int.lt_irrefl,hU,push_cast,seval]
def trL:List UInt8->List UInt8
 | []=>[]
 | c::r=>if c=32 then trL r else c::r
def trR (s:List UInt8):List UInt8:=(trL s.reverse).reverse
theorem p6:trR []=[]:=rfl
theorem DX (s:List UInt8)(c:UInt8):trR (s++[c])=if c=32 then trR s else s++[c]:=by
 unfold trR
 rw[List.reverse_append,List.reverse_singleton,List.singleton_append,trL]
 split
 ·rfl
 ·simp
theorem n7:∀ s:List UInt8,(trL s).length<=s.length
 | []=>by simp[trL]
 | c::r=>by
   rw[trL]
   split
   ·have:=n7 r
    rw[List.length_cons];omega
   ·exact Nat.le_refl _
theorem Hj (s:List UInt8):(trR s).length<=s.length:=by
 have:=n7 s.reverse
 rw[List.length_reverse] at this
 unfold trR;rw[List.length_reverse];exact this
theorem c32 {c:UInt8}(h:¬ c=32):¬ (c.toNat:Int)=32:=fun e=>h (UInt8.toNat_inj.1 (by have:(32:UInt8).toNat=32:=rfl;omega))
theorem Bv (x:List UInt8):x=[]\/∃ c r,x[0]? = some c/\x.drop 1=r/\(0:Int)<(x.length:Int)/\trL x=(if c=32 then trL r else x)/\r.length+1=x.length:=by
 cases x with
 | nil=>exact .inl rfl
 | cons c r=>exact .inr ⟨c,r,rfl,rfl,by simp only[List.length_cons];omega,by rw[trL],rfl⟩
theorem Bb (x:List UInt8):x=[]\/∃ (c:UInt8) (q:Nat) (r:List UInt8),x.length=q+1/\x[q]? = some c/\x.take q=r/\trR x=(if c=32 then trR r else x)/\r.length=q:=by
 rcases List.eq_nil_or_concat x with h | ⟨r,c,h⟩
 ·exact .inl h
 ·rw[List.concat_eq_append] at h
  subst h
  exact .inr ⟨c,r.length,r,by simp,by simp,by simp,DX r c,rfl⟩
theorem DW (s:List UInt8):ag Tryz.prog au 156 [.str s,.int .u8 32] (.str (trL s)):=by
 obtain⟨R,hR⟩:∃ R,R=trL s:=⟨_,rfl⟩
 rw[<- hR]
 refine ag.intro RB.2 (by simp[RB]) ?_
 simp(disch:=try exact dI) only[RB,push_cast,seval]
 refine az ([]) (fun x:List UInt8=>[(0,.pv (.str x))]) (fun _=>[]) (fun x=>trL x=R) (fun x=>x.length) (s) ?_;intro e0 σ0 n0 h0;simp(disch:=try exact dI) only[push_cast,seval] at h0;obtain⟨rfl,rfl,rfl⟩:=h0;refine⟨?_,?_,?_⟩
 ·exact qsZ
 ·exact hR.symm
 rintro x hx
 rcases Bv x with rfl | ⟨c,r,h1,h2,h3,h4,h5⟩
 ·rw[trL] at hx
  subst hx
  exact qsZ
 ·rw[h4] at hx
  by_cases hc:c=32
  ·rw[if_pos hc] at hx
   subst hc
   simp(disch:=try exact dI) only[h3,h1,h2,List.take_length,push_cast,seval]
   exact⟨r,aZ qsZ,hx,by omega⟩
  ·rw[if_neg hc] at hx
   subst hx
   have:=c32 hc
   simp(disch:=try exact dI) only[h3,h1,this,push_cast,seval]
theorem DV (s:List UInt8)(hs:s.length<=1000000):ag Tryz.prog au 160 [.str s,.int .u8 32] (.str (trR s)):=by
 obtain⟨R,hR⟩:∃ R,R=trR s:=⟨_,rfl⟩
 rw[<- hR]
 refine ag.intro RA.2 (by simp[RA]) ?_
 simp(disch:=try exact dI) only[RA,push_cast,seval]
 refine az ([]) (fun x:List UInt8=>[(0,.pv (.str x))]) (fun _=>[]) (fun x=>trR x=R/\x.length<=s.length) (fun x=>x.length) (s) ?_;intro e0 σ0 n0 h0;simp(disch:=try exact dI) only[push_cast,seval] at h0;obtain⟨rfl,rfl,rfl⟩:=h0;refine⟨?_,?_,?_⟩
 ·exact qsZ
 ·exact⟨hR.symm,Nat.le_refl _⟩
 rintro x ⟨hx,hl⟩
 rcases Bb x with rfl | ⟨c,q,r,h1,h2,h3,h4,h5⟩
 ·rw[p6] at hx
  subst hx
  exact qsZ
 ·rw[h4] at hx
  have h0:(0:Int)<(q:Int)+1:=by omega
  by_cases hc:c=32
  ·rw[if_pos hc] at hx
   subst hc
   simp(disch:=try exact dI) only[h1,h0,h2,h3,Int.add_sub_cancel,push_cast,seval]
   exact⟨r,aZ qsZ,⟨hx,by omega⟩,by omega⟩
  ·rw[if_neg hc] at hx
   subst hx
   have:=c32 hc
   simp(disch:=try exact dI) only[h1,h0,h2,this,Int.add_sub_cancel,push_cast,seval]
theorem sq (s:List UInt8):ag Tryz.prog au 105 [.str s,.str [32]] (.str (trL s)):=by
 have h:=DW s
 by_cases h0:s=[]
 ·subst h0
  rw[trL]
  refine ag.intro Ml.2 (by simp[Ml]) ?_
  simp(disch:=try exact dI) only[Ml,push_cast,seval]
 ·refine ag.intro Ml.2 (by simp[Ml]) ?_
  simp(disch:=try exact dI) only[Ml,h0,push_cast,seval]
  refine ab.pure h rfl ?_
  exact qsZ
theorem sn (s:List UInt8)(hs:s.length<=1000000):ag Tryz.prog au 106 [.str s,.str [32]] (.str (trR s)):=by
 have h:=DV s hs
 by_cases h0:s=[]
 ·subst h0
  rw[p6]
  refine ag.intro Mk.2 (by simp[Mk]) ?_
  simp(disch:=try exact dI) only[Mk,push_cast,seval]
 ·refine ag.intro Mk.2 (by simp[Mk]) ?_
  simp(disch:=try exact dI) only[Mk,h0,push_cast,seval]
  refine ab.pure h rfl ?_
  exact qsZ
def bu (k:Int)(s:List UInt8):List UInt8:=if k=2\/k=3 then trL s else trR s
theorem mR (k:Int)(s:List UInt8):(bu k s).length<=s.length:=by
 unfold bu
 split
 ·exact n7 s
 ·exact Hj s
theorem uJ (k:Int)(s:List UInt8)(hs:s.length<=1000000):ag Tryz.prog au 58 [.int .i64 k,.str s] (.str (bu k s)):=by
 have h101:=Ey k
 unfold bu
 by_cases hk:k=2\/k=3
 ·rw[decide_eq_true hk] at h101
  rw[if_pos hk]
  obtain⟨R,hR⟩:∃ R,R=trL s:=⟨_,rfl⟩
  rw[<- hR]
  refine ag.intro Q58.2 (by simp[Q58]) ?_
  simp(disch:=try exact dI) only[Q58,push_cast,seval]
  refine az ([]) (fun x:List UInt8=>[(1,.pv (.str x))]) (fun _=>[]) (fun x=>trL x=R) (fun x=>x.length) (s) ?_;intro e0 σ0 n0 h0;simp(disch:=try exact dI) only[push_cast,seval] at h0;obtain⟨rfl,rfl,rfl⟩:=h0;refine⟨?_,?_,?_⟩
  ·exact qsZ
  ·exact hR.symm
  rintro x hx
  rcases Bv x with rfl | ⟨c,r,h1,h2,h3,h4,h5⟩
  ·rw[trL] at hx
   subst hx
   refine zgZ ?_
   refine ab.pure h101 rfl ?_
   refine zgZ ?_
   refine az ([]) (fun i:Nat=>[]) (fun _=>[]) (fun i=>i=0) (fun i=>1 - i) (0) ?_;intro e0 σ0 n0 h0;simp(disch:=try exact dI) only[push_cast,seval] at h0;obtain⟨rfl,rfl,rfl⟩:=h0;refine⟨?_,?_,?_⟩
   ·exact qsZ
   ·rfl
   rintro i rfl
   refine zgZ ?_
   refine ab.pure h101 rfl ?_
   exact qsZ
  ·rw[h4] at hx
   by_cases hc:c=32
   ·rw[if_pos hc] at hx
    subst hc
    refine zgZ ?_
    refine ab.pure h101 rfl ?_
    simp(disch:=try exact dI) only[h3,h1,h2,List.take_length,push_cast,seval]
    exact⟨r,aZ qsZ,hx,by omega⟩
   ·rw[if_neg hc] at hx
    subst hx
    have:=c32 hc
    refine zgZ ?_
    refine ab.pure h101 rfl ?_
    simp(disch:=try exact dI) only[h3,h1,this,push_cast,seval]
    refine az ([]) (fun i:Nat=>[]) (fun _=>[]) (fun i=>i=0) (fun i=>1 - i) (0) ?_;intro e0 σ0 n0 h0;simp(disch:=try exact dI) only[push_cast,seval] at h0;obtain⟨rfl,rfl,rfl⟩:=h0;refine⟨?_,?_,?_⟩
    ·exact qsZ
    ·rfl
    rintro i rfl
    refine zgZ ?_
    refine ab.pure h101 rfl ?_
    exact qsZ
 ·rw[decide_eq_false hk] at h101
  rw[if_neg hk]
  obtain⟨R,hR⟩:∃ R,R=trR s:=⟨_,rfl⟩
  rw[<- hR]
  refine ag.intro Q58.2 (by simp[Q58]) ?_
  simp(disch:=try exact dI) only[Q58,push_cast,seval]
  refine az ([]) (fun i:Nat=>[]) (fun _=>[]) (fun i=>i=0) (fun i=>1 - i) (0) ?_;intro e0 σ0 n0 h0;simp(disch:=try exact dI) only[push_cast,seval] at h0;obtain⟨rfl,rfl,rfl⟩:=h0;refine⟨?_,?_,?_⟩
  ·exact qsZ
  ·rfl
  rintro i rfl
  refine zgZ ?_
  refine ab.pure h101 rfl ?_
  refine zgZ ?_
  refine az ([]) (fun x:List UInt8=>[(1,.pv (.str x))]) (fun _=>[]) (fun x=>trR x=R/\x.length<=s.length) (fun x=>x.length) (s) ?_;intro e0 σ0 n0 h0;simp(disch:=try exact dI) only[push_cast,seval] at h0;obtain⟨rfl,rfl,rfl⟩:=h0;refine⟨?_,?_,?_⟩
  ·exact qsZ
  ·exact⟨hR.symm,Nat.le_refl _⟩
  rintro x ⟨hx,hl⟩
  rcases Bb x with rfl | ⟨c,q,r,h1,h2,h3,h4,h5⟩
  ·rw[p6] at hx
   subst hx
   refine zgZ ?_
   refine ab.pure h101 rfl ?_
   exact qsZ
  ·rw[h4] at hx
   have h0:(0:Int)<(q:Int)+1:=by omega
   by_cases hc:c=32
   ·rw[if_pos hc] at hx
    subst hc
    refine zgZ ?_
    refine ab.pure h101 rfl ?_
    simp(disch:=try exact dI) only[h1,h0,h2,h3,Int.add_sub_cancel,push_cast,seval]
    exact⟨r,aZ qsZ,⟨hx,by omega⟩,by omega⟩
   ·rw[if_neg hc] at hx
    subst hx
    have:=c32 hc
    refine zgZ ?_
    refine ab.pure h101 rfl ?_
    simp(disch:=try exact dI) only[h1,h0,h2,this,Int.add_sub_cancel,push_cast,seval]
theorem Lo (s:List UInt8)(hs:s.length<=1000000):ag Tryz.prog au 56 [.str s] (.bool (decide (trR s=[]))):=by
 have h:=uJ 4 s hs
 rw[bu,if_neg (by decide)] at h
 generalize trR s=R at *
 refine ag.intro Q56.2 (by simp[Q56]) ?_
 simp(disch:=try exact dI) only[Q56,push_cast,seval]
 refine ab.pure h rfl ?_
 exact qsZ
def rdS:Bool->Nat->Nat->List UInt8->Nat×Nat
 | _,v,c,[]=>(v,c)
 | p,v,c,b::r=>if isD b=true then rdS (p||decide (b=46)) (10*v+(b.toNat - 48)) (if (p||decide (b=46))=true then c+1 else c) r else rdS (p||decide (b=46)) v c r
def sgI (s:List UInt8)(v:Nat):Int:=if s.head? = some 45 then -(v:Int) else v
def bi (s:List UInt8):(Int×Nat)×Int:=
 if s=[] then ((0,0),4) else if 17<s.length then ((0,0),5) else
  if IsN (sgI s (rdS false 0 0 s).1) (rdS false 0 0 s).2/\ce (sgI s (rdS false 0 0 s).1) (rdS false 0 0 s).2=s then ((sgI s (rdS false 0 0 s).1,(rdS false 0 0 s).2),0) else ((0,0),13)
theorem wP {n:Int}{sc:Nat}(h:IsN n sc):(ce n sc).length<=17:=by
 obtain⟨h1,h2,h3⟩:=h
 have hdl:=iG (a:=n.natAbs) (by simp;omega)
 have:=sm n.natAbs sc (max (dl n.natAbs) (sc+1))
 rw[tO]
 split<;>simp<;>omega
end Go.Proofs.YtbojpfpliibfbaaGreatDoor

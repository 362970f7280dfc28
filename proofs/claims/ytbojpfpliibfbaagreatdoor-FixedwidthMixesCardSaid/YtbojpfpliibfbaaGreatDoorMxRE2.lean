/- A part of the proof. -/
import Derived.Test.YtbojpfpliibfbaaGreatDoorMxRC17
set_option maxHeartbeats 16000000
set_option maxRecDepth 100000
set_option linter.unusedVariables false
set_option linter.unusedSimpArgs false
namespace Go.Proofs.YtbojpfpliibfbaaGreatDoor
open Go Go.Ab
attribute [local irreducible] vc
theorem r7 (l:List TFd)(g:Nat)(cs:List PV)(q:TFd->Bool)(hq:∀ x∈l,ag Tryz.prog aq g (x.pv::cs) (.bool (q x)))(hl:l.length<=9000000000000) :
  ag Tryz.prog aq 193 [.list (l.map TFd.pv),.clo g [] cs] (.int .i64 (dF q l 0)):=by
 refine ag.intro Nx.2 (by simp[Nx]) ?_
 simp(disch:=try exact dI) only[Nx,push_cast,seval]
 refine az ([]) (fun m:Nat=>[(8,.pv (.int .i64 (m:Int)))]) (fun m=>[]) (fun m=>m<=l.length/\dF q l 0=dF q (l.drop m) m) (fun m=>l.length - m) (0) ?_;intro e0 σ0 n0 h0;simp(disch:=try exact dI) only[push_cast,seval] at h0;obtain⟨rfl,rfl,rfl⟩:=h0;refine⟨?_,?_,?_⟩
 ·exact qsZ
 ·exact⟨by omega,by simp⟩
 ·rintro m ⟨hm,he⟩
  by_cases hlt:m<l.length
  ·have hltI:(m:Int)<l.length:=by omega
   obtain⟨x,hx⟩:∃ x,l[m]? = some x:=⟨_,List.getElem?_eq_getElem hlt⟩
   have hcall:=hq x (List.mem_of_getElem? hx)
   simp(disch:=try exact dI) only[hx,TFd.cells_len,TFd.isAgg,push_cast,seval]
   refine ab.pure hcall (by exact oF (x.pv::cs)) ?_
   cases hqx:q x with
   | true=>
     rw[he,dA hx hqx]
     exact qsZ
   | false=>
     rw[ci hx hqx] at he
     refine zgZ ?_
     exact⟨m+1,aV qsZ,⟨by omega,he⟩,by omega⟩
  ·have hltI:¬ (m:Int)<l.length:=by omega
   rw[he,dB hlt]
   exact qsZ
theorem mw (l:List TFd)(g:Nat)(cs:List PV)(q:TFd->Bool)(hq:∀ x∈l,ag Tryz.prog aq g (x.pv::cs) (.bool (q x)))(hl:l.length<=9000000000000) :
  ag Tryz.prog aq 129 [.list (l.map TFd.pv),.clo g [] cs] (.bool (l.any q)):=by
 have h94:=r7 l g cs q hq hl
 have hfa:=dr (p:=q) l
 refine ag.intro JK.2 (by simp[JK]) ?_
 rcases bA (p:=q) l 0 with ⟨h1,h2⟩ | ⟨k,x,h1,h2,h3⟩
 ·rw[h2] at h94
  rw[h1] at hfa
  rw[<- hfa]
  simp(disch:=try exact dI) only[JK,push_cast,seval]
  refine ab.pure h94 rfl ?_
  refine zgZ ?_
  exact .refl _
 ·rw[h3] at h94
  rw[h2] at hfa
  rw[<- hfa]
  have hk:(0:Int)<=((0+k:Nat):Int):=by omega
  generalize ((0+k:Nat):Int)=z at *
  simp(disch:=try exact dI) only[JK,push_cast,seval]
  refine ab.pure h94 rfl ?_
  refine zgZ ?_
  exact .refl _
def xz (f:TFd):Bool:=decide (f.typ.kind<1)||decide (7<f.typ.kind)
theorem PA (f:TFd):ag Tryz.prog aq 130 [f.pv] (.bool (xz f)):=by
 obtain⟨a,b,c,⟨k,m,n,s,w,e,fs⟩,d⟩:=f
 refine ag.intro QR.2 (by simp[QR]) ?_
 simp only[xz,TFd.typ,Typ.kind]
 by_cases h1:k<1
 ·simp(disch:=try exact dI) only[QR,TFd.pv_mk,Typ.pv_mk,push_cast,seval]
  simp[h1]
 ·by_cases h2:7<k
  ·simp(disch:=try exact dI) only[QR,TFd.pv_mk,Typ.pv_mk,push_cast,seval]
   simp[h1,h2]
  ·simp(disch:=try exact dI) only[QR,TFd.pv_mk,Typ.pv_mk,push_cast,seval]
   simp[h1,h2]
def ff:Typ->Bool
 | .mk k _ _ _ _ _ f=>decide (k=9)&&(decide (0<f.length)&&!(f.any xz))
theorem Pf (t:Typ)(h:t.fields.length<=9000000000000):ag Tryz.prog aq 74 [t.pv] (.bool (ff t)):=by
 obtain⟨k,m,n,s,w,e,f⟩:=t
 simp only[Typ.fields] at h
 have h64:=mw f 130 [] xz (fun x _=>PA x) (by omega)
 refine ag.intro Q74.2 (by simp[Q74]) ?_
 simp only[ff]
 by_cases h1:k=9
 ·by_cases h2:0<f.length
  ·have h2I:(0:Int)<f.length:=by omega
   simp(disch:=try exact dI) only[Q74,Typ.pv_mk,h1,push_cast,seval]
   refine ab.pure h64 rfl ?_
   exact qsZ
  ·have h2I:¬ (0:Int)<f.length:=by omega
   simp(disch:=try exact dI) only[Q74,Typ.pv_mk,h1,push_cast,seval]
 ·simp(disch:=try exact dI) only[Q74,Typ.pv_mk,h1,push_cast,seval]
def Dn (s:List UInt8):Bool:=decide (s[s.length - 1]? = some 32)
def Ci (c:UInt8):Bool:=decide (c.toNat<32)
def wrB (s:List UInt8):Bool:=!Dn s&&!(s.any Ci)
theorem Du {s:List UInt8}{c:UInt8}(h:s[s.length - 1]? = some c):s.drop (s.length - 1)=[c]:=by
 have hi:=(List.getElem?_eq_some_iff.1 h).1
 have he:s[s.length - 1]=c:=(List.getElem?_eq_some_iff.1 h).2
 rw[List.drop_eq_getElem_cons hi,he,List.drop_of_length_le (by omega)]
theorem Ag (s:List UInt8)(hs:s.length<=140737488351232):ag Tryz.prog aq 132 [.str s,.str [32]] (.bool (Dn s)):=by
 by_cases h0:s=[]
 ·subst h0
  rw[show Dn []=false from rfl]
  refine ag.intro M5.2 (by simp[M5]) ?_
  simp(disch:=try exact dI) only[M5,push_cast,seval]
 ·have hp:0<s.length:=List.length_pos_iff.2 h0
  obtain⟨c,hc⟩:∃ c,s[s.length - 1]? = some c:=⟨_,List.getElem?_eq_getElem (by omega)⟩
  have hd:=Du hc
  have h1:(1:Int)<=(s.length:Int):=by omega
  have et:((s.length:Int) - 1).toNat=s.length - 1:=by omega
  have hEq:Dn s=decide (c=32):=by unfold Dn;rw[hc];simp
  rw[hEq]
  refine ag.intro M5.2 (by simp[M5]) ?_
  by_cases h:c=32
  ·subst h
   rw[decide_eq_true rfl]
   simp(disch:=try exact dI) only[M5,h1,et,hd,List.take_length,push_cast,seval]
  ·rw[decide_eq_false h]
   have hne:¬ [c]=([32]:List UInt8):=by simpa using h
   simp(disch:=try exact dI) only[M5,h1,et,hd,List.take_length,hne,push_cast,seval]
theorem Fw (s:List UInt8)(hs:s.length<=140737488351232):ag Tryz.prog aq 77 [.str s,.str [32]] (.bool (Dn s)):=by
 have h:=Ag s hs
 generalize Dn s=b at *
 refine ag.intro Q77.2 (by simp[Q77]) ?_
 simp(disch:=try exact dI) only[Q77,push_cast,seval]
 refine ab.pure h rfl ?_
 exact qsZ
theorem RT (c:UInt8):ag Tryz.prog aq 79 [.int .u8 (c.toNat:Int)] (.bool (Ci c)):=by
 unfold Ci
 refine ag.intro Q79.2 (by simp[Q79]) ?_
 by_cases h:c.toNat<32
 ·have hI:(c.toNat:Int)<32:=by omega
  rw[decide_eq_true h]
  simp(disch:=try exact dI) only[Q79,hI,push_cast,seval]
 ·have hI:¬ (c.toNat:Int)<32:=by omega
  rw[decide_eq_false h]
  simp(disch:=try exact dI) only[Q79,hI,push_cast,seval]
theorem D8 (s:List UInt8):(aw s).length=s.length:=by simp[aw]
theorem uD {s:List UInt8}{i:Nat}{c:UInt8}(h:s[i]? = some c):(aw s)[i]? = some (.int .u8 (c.toNat:Int)):=by simp[aw,h]
theorem Hq (s:List UInt8)(hs:s.length<=140737488351232):ag Tryz.prog aq 133 [.list (aw s),.clo 79 [] []] (.int .i64 (dF Ci s 0)):=by
 refine ag.intro Tv.2 (by simp[Tv]) ?_
 simp(disch:=try exact dI) only[Tv,D8,push_cast,seval]
 refine az ([]) (fun m:Nat=>[(8,.pv (.int .i64 (m:Int)))]) (fun m=>[]) (fun m=>m<=s.length/\dF Ci s 0=dF Ci (s.drop m) m) (fun m=>s.length - m) (0) ?_;intro e0 σ0 n0 h0;simp(disch:=try exact dI) only[push_cast,seval] at h0;obtain⟨rfl,rfl,rfl⟩:=h0;refine⟨?_,?_,?_⟩
 ·exact qsZ
 ·exact⟨by omega,by simp⟩
 ·rintro m ⟨hm,he⟩
  by_cases hlt:m<s.length
  ·have hltI:(m:Int)<s.length:=by omega
   obtain⟨x,hx⟩:∃ x,s[m]? = some x:=⟨_,List.getElem?_eq_getElem hlt⟩
   have hcall:=RT x
   have hx':=uD hx
   simp(disch:=try exact dI) only[hx',push_cast,seval]
   refine ab.pure hcall rfl ?_
   cases hqx:Ci x with
   | true=>
     rw[he,dA hx hqx]
     exact qsZ
   | false=>
     rw[ci hx hqx] at he
     refine zgZ ?_
     exact⟨m+1,aV qsZ,⟨by omega,he⟩,by omega⟩
  ·have hltI:¬ (m:Int)<s.length:=by omega
   rw[he,dB hlt]
   exact qsZ
theorem xF (s:List UInt8)(hs:s.length<=140737488351232):ag Tryz.prog aq 78 [.list (aw s),.clo 79 [] []] (.bool (s.any Ci)):=by
 have h94:=Hq s hs
 have hfa:=dr (p:=Ci) s
 refine ag.intro Q78.2 (by simp[Q78]) ?_
 rcases bA (p:=Ci) s 0 with ⟨h1,h2⟩ | ⟨k,x,h1,h2,h3⟩
 ·rw[h2] at h94
  rw[h1] at hfa
  rw[<- hfa]
  simp(disch:=try exact dI) only[Q78,push_cast,seval]
  refine ab.pure h94 rfl ?_
  refine zgZ ?_
  rfl
 ·rw[h3] at h94
  rw[h2] at hfa
  rw[<- hfa]
  have hk:(0:Int)<=((0+k:Nat):Int):=by omega
  generalize ((0+k:Nat):Int)=z at *
  simp(disch:=try exact dI) only[Q78,push_cast,seval]
  refine ab.pure h94 rfl ?_
  refine zgZ ?_
  rfl
theorem qp (e:List (Nat×AV))(σ:List (Nat×Blk))(new:Nat)(x:AX):lD e σ new (.ofStr x)=dJ new (evE e x):=_root_.id rfl
theorem vI (new:Nat){k:List UInt8}(h:k.length<=140737488355328):dJ new (.pv (.str k))=some (.pv (.list (aw k)),[(new,.none)]):=by simp[dJ,h]
theorem jC (s:List UInt8)(hs:s.length<=140737488351232):ag Tryz.prog aq 39 [.str s] (.bool (wrB s)):=by
 have h66:=Fw s hs
 have h67:=xF s hs
 unfold wrB
 have hof:=fun new=>vI new (k:=s) (by omega)
 generalize Dn s=a at *
 generalize s.any Ci=b at *
 refine ag.intro Q39.2 (by simp[Q39]) ?_
 simp(disch:=try exact dI) only[Q39,push_cast,seval]
 refine ab.pure h66 rfl ?_
 cases a with
 | true=>simp(disch:=try exact dI) only[push_cast,seval]
 | false=>
   simp(disch:=try exact dI) only[qp,hof,push_cast,seval]
   refine ab.pure h67 rfl ?_
   exact qsZ
def TY:List UInt8:=[48,49,50,51,52,53,54,55,56,57,97,98,99,100,101,102]
def hxB (n:Nat):UInt8:=TY.getD n 0
theorem Pb {n:Nat}(h:n<16):([48,49,50,51,52,53,54,55,56,57,97,98,99,100,101,102]:List UInt8)[n]? = some (hxB n):=by
 have hc:n=0\/n=1\/n=2\/n=3\/n=4\/n=5\/n=6\/n=7\/n=8\/n=9\/n=10\/n=11\/n=12\/n=13\/n=14\/n=15:=by omega
 rcases hc with rfl | rfl | rfl | rfl | rfl | rfl | rfl | rfl | rfl | rfl | rfl | rfl | rfl | rfl | rfl | rfl<;>rfl
def hx2 (c:UInt8):List UInt8:=[hxB (c.toNat / 16),hxB (c.toNat % 16)]
def f7 (s:List UInt8):List UInt8:=s.flatMap hx2
theorem nk (s:List UInt8):(f7 s).length=2*s.length:=by
 induction s with
 | nil=>simp[f7]
 | cons c r ih=>simp only[f7,List.flatMap_cons,List.length_append,List.length_cons,hx2,List.length_nil] at *;omega
theorem CG {s:List UInt8}{i:Nat}{c:UInt8}(h:s[i]? = some c):f7 (s.take (i+1))=f7 (s.take i)++hx2 c:=by
 rw[aH h];simp[f7]
theorem D9 (a:List UInt8)(c:UInt8):aw (a++hx2 c)=aw a++[.int .u8 ((hxB (c.toNat / 16)).toNat:Int),.int .u8 ((hxB (c.toNat % 16)).toNat:Int)]:=by simp[aw,hx2]
theorem qq (e:List (Nat×AV))(σ:List (Nat×Blk))(new:Nat)(x:AX):lD e σ new (.ofStr x)=dJ new (evE e x):=_root_.id rfl
theorem vJ (new:Nat){k:List UInt8}(h:k.length<=140737488355328):dJ new (.pv (.str k))=some (.pv (.list (aw k)),[(new,.none)]):=by simp[dJ,h]
theorem ES (v:Val)(hs:v.text.length<=100000):ag Tryz.prog aq 86 [v.pv] (.str (f7 v.text)):=by
 obtain⟨k,n,sc,s,l,f⟩:=v
 simp only[Val.text] at hs ⊢
 have hof:=fun new=>vJ new (k:=s) (by omega)
 have hbl:(aw s).length=s.length:=by simp[aw]
 refine ag.intro Q86.2 (by simp[Q86]) ?_
 simp(disch:=try exact dI) only[Q86,Val.pv_mk,qq,hof,hbl,push_cast,seval]
 refine az ([(3,0,5,1)]) (fun i:Nat=>[(3,.olist 0 1 (aw (f7 (s.take i)))),(10,.pv (.int .i64 (i:Int)))]) (fun _=>[]) (fun i=>i<=s.length) (fun i=>s.length - i) (0) ?_;intro e0 σ0 n0 h0;simp(disch:=try exact dI) only[push_cast,seval] at h0;obtain⟨rfl,rfl,rfl⟩:=h0;refine⟨?_,?_,?_⟩
 ·simp(disch:=try exact dI) only[List.take_zero,f7,List.flatMap_nil,aw,List.map_nil,push_cast,seval]
 ·omega
 rintro i hi
 by_cases hlt:i<s.length
 ·obtain⟨c,hc⟩:∃ c,s[i]? = some c:=⟨_,List.getElem?_eq_getElem hlt⟩
  have hltI:(i:Int)<(s.length:Int):=by omega
  have hcp:=uD hc
  have hsn:=CG hc
  have hl:=nk (s.take i)
  rw[List.length_take] at hl
  have hcl:=c.toNat_lt
  have hB:aw (f7 (s.take (i+1)))=aw (f7 (s.take i))++[.int .u8 ((hxB (c.toNat / 16)).toNat:Int),.int .u8 ((hxB (c.toNat % 16)).toNat:Int)]:=by rw[hsn,D9]
  obtain⟨q,hqN⟩:∃ q,q=c.toNat / 16:=⟨_,rfl⟩
  obtain⟨m,hmN⟩:∃ m,m=c.toNat % 16:=⟨_,rfl⟩
  rw[<- hqN,<- hmN] at hB
  have hq:((c.toNat:Int) / 16)=(q:Int):=by omega
  have hm:((c.toNat:Int) % 16)=(m:Int):=by omega
  have hxq:=Pb (n:=q) (by omega)
  have hxm:=Pb (n:=m) (by omega)
  have hL:(aw (f7 (s.take i))).length<=300000:=by
   rw[show (aw (f7 (s.take i))).length=(f7 (s.take i)).length by simp[aw]];omega
  clear hsn hl
  generalize aw (f7 (s.take i))=T at *
  simp(disch:=try exact dI) only[hltI,hcp,hq,hm,hxq,hxm,push_cast,seval]
  exact⟨i+1,aV (by simp(disch:=try exact dI) only[hB,push_cast,seval]),by omega,by omega⟩
 ·obtain rfl:i=s.length:=by omega
  rw[List.take_length]
  have hl:=nk s
  have hU:u8s (aw (f7 s))=some (f7 s):=f9 _
  have hL:(aw (f7 s)).length<=300000:=by
   rw[show (aw (f7 s)).length=(f7 s).length by simp[aw]];omega
  generalize aw (f7 s)=T at *
  simp(disch:=try exact dI) only[Int.lt_irrefl,hU,push_cast,seval]
def trL:List UInt8->List UInt8
 | []=>[]
 | c::r=>if c=32 then trL r else c::r
def trR (s:List UInt8):List UInt8:=(trL s.reverse).reverse
theorem zI:trR []=[]:=rfl
theorem Fb (s:List UInt8)(c:UInt8):trR (s++[c])=if c=32 then trR s else s++[c]:=by
 unfold trR
 rw[List.reverse_append,List.reverse_singleton,List.singleton_append,trL]
 split
 ·rfl
 ·simp
theorem zJ:∀ s:List UInt8,(trL s).length<=s.length
 | []=>by simp[trL]
 | c::r=>by
   rw[trL]
   split
   ·have:=zJ r
    rw[List.length_cons];omega
   ·exact Nat.le_refl _
theorem NW (s:List UInt8):(trR s).length<=s.length:=by
 have:=zJ s.reverse
 rw[List.length_reverse] at this
 unfold trR;rw[List.length_reverse];exact this
theorem c32 {c:UInt8}(h:¬ c=32):¬ (c.toNat:Int)=32:=fun e=>h (UInt8.toNat_inj.1 (by have:(32:UInt8).toNat=32:=rfl;omega))
theorem LX (x:List UInt8):x=[]\/∃ c r,x[0]? = some c/\x.drop 1=r/\(0:Int)<(x.length:Int)/\trL x=(if c=32 then trL r else x)/\r.length+1=x.length:=by
 cases x with
 | nil=>exact .inl rfl
 | cons c r=>exact .inr ⟨c,r,rfl,rfl,by simp only[List.length_cons];omega,by rw[trL],rfl⟩
theorem LP (x:List UInt8):x=[]\/∃ (c:UInt8) (q:Nat) (r:List UInt8),x.length=q+1/\x[q]? = some c/\x.take q=r/\trR x=(if c=32 then trR r else x)/\r.length=q:=by
 rcases List.eq_nil_or_concat x with h | ⟨r,c,h⟩
 ·exact .inl h
 ·rw[List.concat_eq_append] at h
  subst h
  exact .inr ⟨c,r.length,r,by simp,by simp,by simp,Fb r c,rfl⟩
theorem Fa (s:List UInt8):ag Tryz.prog aq 156 [.str s,.int .u8 32] (.str (trL s)):=by
 obtain⟨R,hR⟩:∃ R,R=trL s:=⟨_,rfl⟩
 rw[<- hR]
 refine ag.intro Tm.2 (by simp[Tm]) ?_
 simp(disch:=try exact dI) only[Tm,push_cast,seval]
 refine az ([]) (fun x:List UInt8=>[(0,.pv (.str x))]) (fun _=>[]) (fun x=>trL x=R) (fun x=>x.length) (s) ?_;intro e0 σ0 n0 h0;simp(disch:=try exact dI) only[push_cast,seval] at h0;obtain⟨rfl,rfl,rfl⟩:=h0;refine⟨?_,?_,?_⟩
 ·exact qsZ
 ·exact hR.symm
 rintro x hx
 rcases LX x with rfl | ⟨c,r,h1,h2,h3,h4,h5⟩
 ·rw[trL] at hx
  subst hx
  exact qsZ
 ·rw[h4] at hx
  by_cases hc:c=32
  ·rw[if_pos hc] at hx
   subst hc
   simp(disch:=try exact dI) only[h3,h1,h2,List.take_length,push_cast,seval]
   exact⟨r,aV qsZ,hx,by omega⟩
  ·rw[if_neg hc] at hx
   subst hx
   have:=c32 hc
   simp(disch:=try exact dI) only[h3,h1,this,push_cast,seval]
theorem E9 (s:List UInt8)(hs:s.length<=1000000):ag Tryz.prog aq 160 [.str s,.int .u8 32] (.str (trR s)):=by
 obtain⟨R,hR⟩:∃ R,R=trR s:=⟨_,rfl⟩
 rw[<- hR]
 refine ag.intro Tk.2 (by simp[Tk]) ?_
 simp(disch:=try exact dI) only[Tk,push_cast,seval]
 refine az ([]) (fun x:List UInt8=>[(0,.pv (.str x))]) (fun _=>[]) (fun x=>trR x=R/\x.length<=s.length) (fun x=>x.length) (s) ?_;intro e0 σ0 n0 h0;simp(disch:=try exact dI) only[push_cast,seval] at h0;obtain⟨rfl,rfl,rfl⟩:=h0;refine⟨?_,?_,?_⟩
 ·exact qsZ
 ·exact⟨hR.symm,Nat.le_refl _⟩
 rintro x ⟨hx,hl⟩
 rcases LP x with rfl | ⟨c,q,r,h1,h2,h3,h4,h5⟩
 ·rw[zI] at hx
  subst hx
  exact qsZ
 ·rw[h4] at hx
  have h0:(0:Int)<(q:Int)+1:=by omega
  by_cases hc:c=32
  ·rw[if_pos hc] at hx
   subst hc
   simp(disch:=try exact dI) only[h1,h0,h2,h3,Int.add_sub_cancel,push_cast,seval]
   exact⟨r,aV qsZ,⟨hx,by omega⟩,by omega⟩
  ·rw[if_neg hc] at hx
   subst hx
   have:=c32 hc
   simp(disch:=try exact dI) only[h1,h0,h2,this,Int.add_sub_cancel,push_cast,seval]
theorem sY (s:List UInt8):ag Tryz.prog aq 105 [.str s,.str [32]] (.str (trL s)):=by
 have h:=Fa s
 by_cases h0:s=[]
 ·subst h0
  rw[trL]
  refine ag.intro NG.2 (by simp[NG]) ?_
  simp(disch:=try exact dI) only[NG,push_cast,seval]
 ·refine ag.intro NG.2 (by simp[NG]) ?_
  simp(disch:=try exact dI) only[NG,h0,push_cast,seval]
  refine ab.pure h rfl ?_
  exact qsZ
theorem sX (s:List UInt8)(hs:s.length<=1000000):ag Tryz.prog aq 106 [.str s,.str [32]] (.str (trR s)):=by
 have h:=E9 s hs
 by_cases h0:s=[]
 ·subst h0
  rw[zI]
  refine ag.intro NF.2 (by simp[NF]) ?_
  simp(disch:=try exact dI) only[NF,push_cast,seval]
 ·refine ag.intro NF.2 (by simp[NF]) ?_
  simp(disch:=try exact dI) only[NF,h0,push_cast,seval]
  refine ab.pure h rfl ?_
  exact qsZ
def cx (k:Int)(s:List UInt8):List UInt8:=if k=2\/k=3 then trL s else trR s
theorem Ai (k:Int)(s:List UInt8):(cx k s).length<=s.length:=by
 unfold cx
 split
 ·exact zJ s
 ·exact NW s
def rdS:Bool->Nat->Nat->List UInt8->Nat×Nat
 | _,v,c,[]=>(v,c)
 | p,v,c,b::r=>if isD b=true then rdS (p||decide (b=46)) (10*v+(b.toNat - 48)) (if (p||decide (b=46))=true then c+1 else c) r else rdS (p||decide (b=46)) v c r
def sgI (s:List UInt8)(v:Nat):Int:=if s.head? = some 45 then -(v:Int) else v
def bm (s:List UInt8):(Int×Nat)×Int:=
 if s=[] then ((0,0),4) else if 17<s.length then ((0,0),5) else
  if IsN (sgI s (rdS false 0 0 s).1) (rdS false 0 0 s).2/\ce (sgI s (rdS false 0 0 s).1) (rdS false 0 0 s).2=s then ((sgI s (rdS false 0 0 s).1,(rdS false 0 0 s).2),0) else ((0,0),13)
theorem xD {n:Int}{sc:Nat}(h:IsN n sc):(ce n sc).length<=17:=by
 obtain⟨h1,h2,h3⟩:=h
 have hdl:=iE (a:=n.natAbs) (by simp;omega)
 have:=sW n.natAbs sc (max (dl n.natAbs) (sc+1))
 rw[uk]
 split<;>simp<;>omega
end Go.Proofs.YtbojpfpliibfbaaGreatDoor

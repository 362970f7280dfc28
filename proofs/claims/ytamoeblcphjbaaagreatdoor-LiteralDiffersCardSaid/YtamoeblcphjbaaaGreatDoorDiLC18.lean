/- A part of the proof for LiteralDiffersCardSaid. -/
import Derived.Test.YtamoeblcphjbaaaGreatDoorDiLC4
import Derived.Test.YtamoeblcphjbaaaGreatDoorDiLE5
import Derived.Test.YtamoeblcphjbaaaGreatDoorDiLR6
set_option linter.unusedVariables false
set_option linter.unusedSimpArgs false
namespace Go.Ab
open Go
theorem rL (n:Int)(h0:0≤n):∀ k:Nat,n<d7 ((k:Int)+1)→∃ y:Int,1≤y∧y≤k∧d7 y≤n∧n<d7 (y+1)
 | 0,h=>absurd h (by rw[show d7 (((0:Nat):Int)+1)=0 from rfl];omega)
 | k+1,h=>by
   by_cases hk:d7 ((k:Int)+1)≤n
   ·exact⟨(k:Int)+1,by omega,by omega,hk,by simpa using h⟩
   ·obtain⟨y,a,b,c,d⟩:=rL n h0 k (by omega)
    exact⟨y,a,by omega,c,d⟩
theorem oz (y r:Int)(h0:0≤r):∀ k:Nat,r<ec y k→∃ m:Nat,1≤m∧m≤k∧ec y (m - 1)≤r∧r<ec y m
 | 0,h=>absurd h (by rw[show ec y 0=0 from rfl];omega)
 | k+1,h=>by
   by_cases hk:ec y k≤r
   ·exact⟨k+1,by omega,by omega,hk,h⟩
   ·obtain⟨m,a,b,c,d⟩:=oz y r h0 k (by omega)
    exact⟨m,a,by omega,c,d⟩
theorem BB {n:Int}(h0:0≤n)(h1:n≤3652058):∃ y m d,DateOk y m d∧n=iE y m d:=by
 have hb:d7 (((9999:Nat):Int)+1)=3652059:=by decide
 obtain⟨y,y1,y2,b1,b2⟩:=rL n h0 9999 (by rw[hb];omega)
 have hs:=j5 y
 have h12:=A0 y
 obtain⟨m,m1,m2,c1,c2⟩:=oz y (n - d7 y) (by omega) 12 (by omega)
 have hm:ec y m=ec y (m - 1)+mdI y m:=by
  obtain⟨k,rfl⟩:∃ k,m=k+1:=⟨m - 1,by omega⟩
  simp[ec]
 exact⟨y,m,n - d7 y - ec y (m - 1)+1,⟨y1,by simpa using y2,m1,m2,by omega,by omega⟩,by unfold iE;omega⟩
end Go.Ab
set_option maxRecDepth 100000
namespace Go.Proofs.YtamoeblcphjbaaaGreatDoor
open Go Go.Ab
def cq (s:List UInt8):Prop:=s.flatMap bP=s
theorem aU {a b:List UInt8}(ha:cq a)(hb:cq b):cq (a++b):=by
 unfold cq at *;rw[List.flatMap_append,ha,hb]
theorem bA:∀ (k n:Nat),cq (aN k n)
 | 0,_=>rfl
 | k+1,n=>by
   rw[aN]
   refine aU (bA k _) ?_
   unfold cq
   have hc:(UInt8.ofNat (48+n % 10)).toNat=48+n % 10:=by
    rw[UInt8.toNat_ofNat'];omega
   simp only[List.flatMap_cons,List.flatMap_nil,List.append_nil]
   exact Ap (by omega) (by omega)
theorem gO (y:Int)(m:Nat)(d:Int):cq (bR y m d):=by
 unfold bR
 exact aU (aU (aU (aU (bA _ _) rfl) (bA _ _)) rfl) (bA _ _)
theorem lE (y:Int)(m:Nat)(d:Int):(bR y m d).length=10:=by
 simp[bR,aL]
theorem mP {t:List UInt8}(ht:cq t)(h mi s ms:Nat):cq (eH t h mi s ms):=by
 unfold eH
 refine aU (aU (aU ht ?_) ?_) rfl
 ·exact aU (aU (aU (aU (aU rfl (bA _ _)) rfl) (bA _ _)) rfl) (bA _ _)
 ·split
  ·rfl
  ·exact aU rfl (bA _ _)
theorem uS (t:List UInt8)(h mi s ms:Nat):(eH t h mi s ms).length≤t.length+14:=by
 unfold eH
 split<;>simp[aL]<;>omega
theorem j1 {n:Int}(h0:-719162≤n)(h1:n≤2932896):∃ s,(aq Tryz.prog aC 43 [.int .i64 n] (.tup [.str s,.int .i64 0])∧cq s∧s.length≤10)∧∃ y m d,DateOk y m d∧n=iE y m d - 719162∧s=bR y m d:=by
 obtain⟨y,m,d,hd,he⟩:=BB (n:=n+719162) (by omega) (by omega)
 refine⟨bR y m d,⟨?_,gO _ _ _,by rw[lE];omega⟩,y,m,d,hd,by omega,rfl⟩
 have:=AW hd
 rw[← he,show n+719162 - 719162=n by omega] at this
 exact this
theorem gv {n:Int}(h0:-62135596800000≤n)(h1:n≤253402300799999):∃ s,(aq Tryz.prog aC 44 [.int .i64 n] (.tup [.str s,.int .i64 0])∧cq s∧s.length≤24) ∧
  ∃ y m d,∃ h mi sc ms:Nat,DateOk y m d∧h≤23∧mi≤59∧sc≤59∧ms≤999∧n=(iE y m d - 719162)*86400000+(((60*(h:Int)+mi)*60+sc)*1000+ms)∧s=eH (bR y m d) h mi sc ms:=by
 obtain⟨D,hD⟩:∃ D,D=n / 86400000:=⟨_,rfl⟩
 obtain⟨r,hr⟩:∃ r:Nat,(r:Int)=n % 86400000:=⟨(n % 86400000).toNat,by omega⟩
 obtain⟨y,m,d,hd,he⟩:=BB (n:=D+719162) (by omega) (by omega)
 have hr1:r<86400000:=by omega
 have hn:n=(iE y m d - 719162)*86400000+((((60*((r / 3600000:Nat):Int)+((r / 60000 % 60:Nat):Int))*60+((r / 1000 % 60:Nat):Int))*1000+((r % 1000:Nat):Int))):=by
  rw[← he];omega
 refine⟨eH (bR y m d) (r / 3600000) (r / 60000 % 60) (r / 1000 % 60) (r % 1000),⟨?_,mP (gO _ _ _) _ _ _ _,?_⟩,y,m,d,r / 3600000,r / 60000 % 60,r / 1000 % 60,r % 1000,hd,by omega,by omega,by omega,by omega,hn,rfl⟩
 ·have:=py hd (h:=r / 3600000) (mi:=r / 60000 % 60) (s:=r / 1000 % 60) (ms:=r % 1000) (by omega) (by omega) (by omega) (by omega)
  rw[← hn] at this
  exact this
 ·have:=uS (bR y m d) (r / 3600000) (r / 60000 % 60) (r / 1000 % 60) (r % 1000)
  rw[lE] at this
  exact this
end Go.Proofs.YtamoeblcphjbaaaGreatDoor
-- many steps
namespace Go.Proofs.YtamoeblcphjbaaaGreatDoor
open Go Go.Ab
attribute [local irreducible] vc
noncomputable def mj (n:Int):List UInt8:=if h:-719162≤n∧n≤2932896 then (j1 h.1 h.2).choose else []
theorem nu {n:Int}(h:-719162≤n∧n≤2932896):aq Tryz.prog aC 43 [.int .i64 n] (.tup [.str (mj n),.int .i64 0])∧cq (mj n)∧(mj n).length≤10:=by
 rw[mj,dif_pos h];exact (j1 h.1 h.2).choose_spec.1
noncomputable def dZ (n:Int):List UInt8:=if h:-62135596800000≤n∧n≤253402300799999 then (gv h.1 h.2).choose else []
theorem jx {n:Int}(h:-62135596800000≤n∧n≤253402300799999):aq Tryz.prog aC 44 [.int .i64 n] (.tup [.str (dZ n),.int .i64 0])∧cq (dZ n)∧(dZ n).length≤24:=by
 rw[dZ,dif_pos h];exact (gv h.1 h.2).choose_spec.1
theorem gM {s:List UInt8}(h:cq s):aH s=34::(s++[34]):=by unfold aH;rw[h]
noncomputable def am:Nat→Val→List UInt8
 | 0,_=>[]
 | f+1,.mk k n s t l fs=>
   if k=0 then [110,117,108,108] else if k=1 then (if n=1 then [116,114,117,101] else [102,97,108,115,101]) else if k=2 then bS n
   else if k=3 then cu n s.toNat++(if s=0 then [100] else []) else if k=4 then aH t else if k=5 then ja t
   else if k=6 then [100,97,116,101,32]++aH (mj n) else if k=7 then [116,105,109,101,32]++aH (dZ n)
   else if k=8 then [91]++aE [44,32] (l.map (am f))++[93]
   else if k=9 then [123]++aE [44,32] (fs.map fun x=>x.name++[58,32]++am f x.value)++[125]
   else t++[40]++am f (l.headD (.mk 0 0 0 [] [] []))++[41]
theorem zc {n:Int}{sc:Nat}(h:IsN n sc):aq Tryz.prog aC 67 [.int .i64 n,.int .i64 (sc:Int)] (.str (cu n sc)):=by
 have h1:=AY h
 refine aq.intro Ht (by simp[F67]) ?_
 simp(disch:=try exact dI) only[F67,push_cast,seval]
 refine ab.pure h1 rfl ?_
 simp(disch:=try exact dI) only[push_cast,seval]
section
variable (f:Nat)(n s:Int)(t:List UInt8)(l:List Val)(fs:List Fld)
theorem xu:aq Tryz.prog aC 37 [(Val.mk 0 n s t l fs).pv] (.str (am (f+1) (.mk 0 n s t l fs))):=by
 rw[show am (f+1) (.mk 0 n s t l fs)=[110,117,108,108] from rfl]
 refine aq.intro cP (by simp[F37]) ?_
 simp(disch:=try exact dI) only[F37,Val.pv_mk,push_cast,seval]
theorem xq (h:-999999999999999≤n∧n≤999999999999999):aq Tryz.prog aC 37 [(Val.mk 2 n s t l fs).pv] (.str (am (f+1) (.mk 2 n s t l fs))):=by
 rw[show am (f+1) (.mk 2 n s t l fs)=bS n from rfl]
 have hi:=jQ n (by omega) (by omega)
 refine aq.intro cP (by simp[F37]) ?_
 simp(disch:=try exact dI) only[F37,Val.pv_mk,push_cast,seval]
 refine ab.pure hi rfl ?_
 simp(disch:=try exact dI) only[push_cast,seval]
theorem xo (h:t.length≤1024):aq Tryz.prog aC 37 [(Val.mk 4 n s t l fs).pv] (.str (am (f+1) (.mk 4 n s t l fs))):=by
 rw[show am (f+1) (.mk 4 n s t l fs)=aH t from rfl]
 have hi:=mL t (by omega)
 refine aq.intro cP (by simp[F37]) ?_
 simp(disch:=try exact dI) only[F37,Val.pv_mk,push_cast,seval]
 refine ab.pure hi rfl ?_
 simp(disch:=try exact dI) only[push_cast,seval]
theorem xm (h:t.length≤1024):aq Tryz.prog aC 37 [(Val.mk 5 n s t l fs).pv] (.str (am (f+1) (.mk 5 n s t l fs))):=by
 rw[show am (f+1) (.mk 5 n s t l fs)=ja t from rfl]
 have hi:=yQ t (by omega)
 refine aq.intro cP (by simp[F37]) ?_
 simp(disch:=try exact dI) only[F37,Val.pv_mk,push_cast,seval]
 refine ab.pure hi rfl ?_
 simp(disch:=try exact dI) only[push_cast,seval]
theorem cH (x:List UInt8):(aH x).length≤6*x.length+2:=by
 have:=eV x
 rw[aH,List.length_cons,List.length_append,List.length_singleton];omega
theorem xj (h:-719162≤n∧n≤2932896):aq Tryz.prog aC 37 [(Val.mk 6 n s t l fs).pv] (.str (am (f+1) (.mk 6 n s t l fs))):=by
 rw[show am (f+1) (.mk 6 n s t l fs)=[100,97,116,101,32]++aH (mj n) from rfl]
 obtain⟨h1,h2,h3⟩:=nu h
 have hi:=mL (mj n) (by omega)
 have hq:=cH (mj n)
 generalize aH (mj n)=Q at *
 refine aq.intro cP (by simp[F37]) ?_
 simp(disch:=try exact dI) only[F37,Val.pv_mk,push_cast,seval]
 refine ab.pure h1 rfl ?_
 simp(disch:=try exact dI) only[push_cast,seval]
 refine ab.pure hi rfl ?_
 simp(disch:=try exact dI) only[push_cast,seval]
theorem xi (h:-62135596800000≤n∧n≤253402300799999):aq Tryz.prog aC 37 [(Val.mk 7 n s t l fs).pv] (.str (am (f+1) (.mk 7 n s t l fs))):=by
 rw[show am (f+1) (.mk 7 n s t l fs)=[116,105,109,101,32]++aH (dZ n) from rfl]
 obtain⟨h1,h2,h3⟩:=jx h
 have hi:=mL (dZ n) (by omega)
 have hq:=cH (dZ n)
 generalize aH (dZ n)=Q at *
 refine aq.intro cP (by simp[F37]) ?_
 simp(disch:=try exact dI) only[F37,Val.pv_mk,push_cast,seval]
 refine ab.pure h1 rfl ?_
 simp(disch:=try exact dI) only[push_cast,seval]
 refine ab.pure hi rfl ?_
 simp(disch:=try exact dI) only[push_cast,seval]
end
end Go.Proofs.YtamoeblcphjbaaaGreatDoor
-- many steps
namespace Go.Proofs.YtamoeblcphjbaaaGreatDoor
open Go Go.Ab
attribute [local irreducible] vc
def nB (b:Bool):List UInt8:=if b=true then [116,114,117,101] else [102,97,108,115,101]
theorem Ai (b:Bool):aq Tryz.prog aC 146 [.bool b] (.str (nB b)):=by
 refine aq.intro ED (by simp[Ig]) ?_
 cases b with
 | true=>simp(disch:=try exact dI) only[Ig,nB,push_cast,seval]
 | false=>simp(disch:=try exact dI) only[Ig,nB,push_cast,seval]
theorem vz (b:Bool):aq Tryz.prog aC 65 [.bool b] (.str (nB b)):=by
 have h:=Ai b
 generalize nB b=Q at *
 refine aq.intro Hu (by simp[F65]) ?_
 simp(disch:=try exact dI) only[F65,push_cast,seval]
 refine ab.pure h rfl ?_
 simp(disch:=try exact dI) only[push_cast,seval]
section
variable (f:Nat)(n s:Int)(t:List UInt8)(l:List Val)(fs:List Fld)
theorem xr:aq Tryz.prog aC 37 [(Val.mk 1 n s t l fs).pv] (.str (am (f+1) (.mk 1 n s t l fs))):=by
 rw[show am (f+1) (.mk 1 n s t l fs)=(if n=1 then [116,114,117,101] else [102,97,108,115,101]) from rfl]
 by_cases h:n=1
 ·rw[if_pos h]
  have hb:=vz true
  rw[show nB true=[116,114,117,101] from rfl] at hb
  refine aq.intro cP (by simp[F37]) ?_
  simp(disch:=try exact dI) only[F37,Val.pv_mk,h,push_cast,seval]
  refine ab.pure hb rfl ?_
  simp(disch:=try exact dI) only[push_cast,seval]
 ·rw[if_neg h]
  have hb:=vz false
  rw[show nB false=[102,97,108,115,101] from rfl] at hb
  refine aq.intro cP (by simp[F37]) ?_
  simp(disch:=try exact dI) only[F37,Val.pv_mk,h,push_cast,seval]
  refine ab.pure hb rfl ?_
  simp(disch:=try exact dI) only[push_cast,seval]
theorem j0 {n:Int}{sc:Nat}(h:IsN n sc):(cu n sc).length≤1000:=by
 obtain⟨h1,h2,h3⟩:=h
 have hd:=(df (a:=n.natAbs) (by omega)).2.1
 unfold cu
 rw[List.length_append,List.length_append,aL]
 split<;>split<;>simp[aL]<;>omega
theorem xp (h:IsN n s.toNat)(hs:0≤s):aq Tryz.prog aC 37 [(Val.mk 3 n s t l fs).pv] (.str (am (f+1) (.mk 3 n s t l fs))):=by
 rw[show am (f+1) (.mk 3 n s t l fs)=cu n s.toNat++(if s=0 then [100] else []) from rfl]
 obtain⟨m,hm⟩:∃ m:Nat,s=(m:Int):=⟨s.toNat,by omega⟩
 subst hm
 rw[Int.toNat_natCast] at h ⊢
 have h1:=zc h
 have hl:=j0 h
 generalize cu n m=D at *
 by_cases h0:m=0
 ·subst h0
  rw[if_pos (show ((0:Nat):Int)=0 from rfl)]
  refine aq.intro cP (by simp[F37]) ?_
  simp(disch:=try exact dI) only[F37,Val.pv_mk,push_cast,seval]
  refine ab.pure h1 rfl ?_
  simp(disch:=try exact dI) only[push_cast,seval]
 ·have h0I:¬ (m:Int)=0:=by omega
  rw[if_neg h0I,List.append_nil]
  refine aq.intro cP (by simp[F37]) ?_
  simp(disch:=try exact dI) only[F37,Val.pv_mk,h0I,push_cast,seval]
  refine ab.pure h1 rfl ?_
  simp(disch:=try exact dI) only[h0I,push_cast,seval]
end
end Go.Proofs.YtamoeblcphjbaaaGreatDoor
-- many steps
namespace Go.Proofs.YtamoeblcphjbaaaGreatDoor
open Go Go.Ab
attribute [local irreducible] vc
theorem Bu (L:List (List UInt8))(hN:L.length≤1000000)(hl:(aE [44,32] L).length≤100000000):aq Tryz.prog aC 68 [.list (L.map .str)] (.str (aE [44,32] L)):=by
 have h:=uZ L [44,32] (by omega) (by omega)
 generalize aE [44,32] L=Q at *
 refine aq.intro Hs (by simp[F68]) ?_
 simp(disch:=try exact dI) only[F68,push_cast,seval]
 refine ab.pure h rfl ?_
 simp(disch:=try exact dI) only[push_cast,seval]
section
variable (f:Nat)(n s:Int)(t:List UInt8)(l:List Val)(fs:List Fld)
theorem xh (ih:∀ x∈l,aq Tryz.prog aC 37 [x.pv] (.str (am f x)))(hN:l.length≤256)(hj:(aE [44,32] (l.map (am f))).length≤100000000) :
  aq Tryz.prog aC 37 [(Val.mk 8 n s t l fs).pv] (.str (am (f+1) (.mk 8 n s t l fs))):=by
 rw[show am (f+1) (.mk 8 n s t l fs)=[91]++aE [44,32] (l.map (am f))++[93] from rfl]
 have hjn:=Bu (l.map (am f)) (by simp;omega) hj
 refine aq.intro cP (by simp[F37]) ?_
 simp(disch:=try exact dI) only[F37,Val.pv_mk,push_cast,seval]
 refine aX ([(3,0,9,1)]) (fun i:Nat=>[(3,.olist 0 1 (((l.take i).map (am f)).map PV.str)),(78,.pv (.int .i64 (i:Int)))]) (fun _=>[]) (fun i=>i≤l.length) (fun i=>l.length - i) (0) ?_;intro e0 σ0 n0 h0;simp(disch:=try exact dI) only[push_cast,seval] at h0;obtain⟨rfl,rfl,rfl⟩:=h0;refine⟨?_,?_,?_⟩
 ·simp(disch:=try exact dI) only[push_cast,seval]
  try done
 ·omega
 ·rintro i hi
  by_cases hlt:i<l.length
  ·have hltI:(i:Int)<(l.length:Int):=by omega
   obtain⟨x,hx⟩:∃ x,l[i]? = some x:=⟨_,List.getElem?_eq_getElem hlt⟩
   have hx':(l.map Val.pv)[i]? = some x.pv:=by simp[hx]
   have hc:=ih x (List.mem_of_getElem? hx)
   have hts:=aQ hx
   have hQ:(((l.take (i+1)).map (am f)).map PV.str)=((l.take i).map (am f)).map PV.str++[.str (am f x)]:=by rw[hts];simp
   have hl:(((l.take i).map (am f)).map PV.str).length≤256:=by simp;omega
   generalize ((l.take i).map (am f)).map PV.str=Q at *
   generalize am f x=X at *
   obtain⟨xk,xn,xs,xt,xl,xf⟩:=x
   simp only[Val.pv_mk] at hx' hc
   simp(disch:=try exact dI) only[hltI,hx',push_cast,seval]
   refine ab.pure hc rfl ?_
   simp(disch:=try exact dI) only[push_cast,seval]
   exact⟨i+1,bX (by simp(disch:=try exact dI) only[hQ,push_cast,seval]),by omega,by omega⟩
  ·have hltI:¬ (i:Int)<(l.length:Int):=by omega
   obtain rfl:i=l.length:=by omega
   rw[List.take_length]
   generalize aE [44,32] (l.map (am f))=J at *
   simp(disch:=try exact dI) only[hltI,push_cast,seval]
   refine ab.pure hjn rfl ?_
   simp(disch:=try exact dI) only[push_cast,seval]
noncomputable def eA (f:Nat)(x:Fld):List UInt8:=x.name++[58,32]++am f x.value
theorem xg (ih:∀ x∈fs,aq Tryz.prog aC 37 [x.value.pv] (.str (am f x.value)))(hN:fs.length≤64)(hb:∀ x∈fs,x.name.length≤1024∧(am f x.value).length≤100000000)(hj:(aE [44,32] (fs.map (eA f))).length≤100000000) :
  aq Tryz.prog aC 37 [(Val.mk 9 n s t l fs).pv] (.str (am (f+1) (.mk 9 n s t l fs))):=by
 rw[show am (f+1) (.mk 9 n s t l fs)=[123]++aE [44,32] (fs.map (eA f))++[125] from rfl]
 have hjn:=Bu (fs.map (eA f)) (by simp;omega) hj
 refine aq.intro cP (by simp[F37]) ?_
 simp(disch:=try exact dI) only[F37,Val.pv_mk,push_cast,seval]
 refine aX ([(3,0,9,1)]) (fun i:Nat=>[(3,.olist 0 1 (((fs.take i).map (eA f)).map PV.str)),(97,.pv (.int .i64 (i:Int)))]) (fun _=>[]) (fun i=>i≤fs.length) (fun i=>fs.length - i) (0) ?_;intro e0 σ0 n0 h0;simp(disch:=try exact dI) only[push_cast,seval] at h0;obtain⟨rfl,rfl,rfl⟩:=h0;refine⟨?_,?_,?_⟩
 ·simp(disch:=try exact dI) only[push_cast,seval]
  try done
 ·omega
 ·rintro i hi
  by_cases hlt:i<fs.length
  ·have hltI:(i:Int)<(fs.length:Int):=by omega
   obtain⟨x,hx⟩:∃ x,fs[i]? = some x:=⟨_,List.getElem?_eq_getElem hlt⟩
   have hx':(fs.map Fld.pv)[i]? = some x.pv:=by simp[hx]
   have hc:=ih x (List.mem_of_getElem? hx)
   obtain⟨b1,b2⟩:=hb x (List.mem_of_getElem? hx)
   have hts:=aQ hx
   have hQ:(((fs.take (i+1)).map (eA f)).map PV.str)=((fs.take i).map (eA f)).map PV.str++[.str (x.name++[58,32]++am f x.value)]:=by rw[hts];simp[eA]
   have hl:(((fs.take i).map (eA f)).map PV.str).length≤64:=by simp;omega
   generalize ((fs.take i).map (eA f)).map PV.str=Q at *
   obtain⟨nm,x⟩:=x
   simp only[Fld.value,Fld.name] at hc b1 b2 hQ
   generalize am f x=X at *
   obtain⟨xk,xn,xs,xt,xl,xf⟩:=x
   simp only[Fld.pv_mk,Val.pv_mk] at hx' hc
   simp(disch:=try exact dI) only[hltI,hx',push_cast,seval]
   refine aM hc rfl ?_
   simp(disch:=try exact dI) only[push_cast,seval]
   exact⟨i+1,bX (by simp(disch:=try exact dI) only[hQ,List.append_assoc,push_cast,seval]),by omega,by omega⟩
  ·have hltI:¬ (i:Int)<(fs.length:Int):=by omega
   obtain rfl:i=fs.length:=by omega
   rw[List.take_length]
   generalize aE [44,32] (fs.map (eA f))=J at *
   simp(disch:=try exact dI) only[hltI,push_cast,seval]
   refine ab.pure hjn rfl ?_
   simp(disch:=try exact dI) only[push_cast,seval]
theorem sn (x:Val)(ih:aq Tryz.prog aC 37 [x.pv] (.str (am f x)))(h1:t.length≤1024)(h2:(am f x).length≤100000000) :
  aq Tryz.prog aC 37 [(Val.mk 10 n s t [x] fs).pv] (.str (am (f+1) (.mk 10 n s t [x] fs))):=by
 rw[show am (f+1) (.mk 10 n s t [x] fs)=t++[40]++am f x++[41] from rfl]
 generalize am f x=X at *
 obtain⟨xk,xn,xs,xt,xl,xf⟩:=x
 simp only[Val.pv_mk] at ih
 refine aq.intro cP (by simp[F37]) ?_
 simp(disch:=try exact dI) only[F37,Val.pv_mk,List.map_cons,List.map_nil,dO,push_cast,seval]
 refine aM ih rfl ?_
 simp(disch:=try exact dI) only[List.append_assoc,push_cast,seval]
end
end Go.Proofs.YtamoeblcphjbaaaGreatDoor

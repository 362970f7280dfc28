/- A part of the proof for LiteralAgainCardSaid. -/
import Derived.Test.YtamoeblcphjbaaaGreatDoorAgLC4
import Derived.Test.YtamoeblcphjbaaaGreatDoorAgLE5
import Derived.Test.YtamoeblcphjbaaaGreatDoorAgLR6
set_option linter.unusedVariables false
set_option linter.unusedSimpArgs false
namespace Go.Ab
open Go
theorem xh (n:Int)(h0:0≤n):∀ k:Nat,n<ew ((k:Int)+1)→∃ y:Int,1≤y∧y≤k∧ew y≤n∧n<ew (y+1)
 | 0,h=>absurd h (by rw[show ew (((0:Nat):Int)+1)=0 from rfl];omega)
 | k+1,h=>by
   by_cases hk:ew ((k:Int)+1)≤n
   ·exact⟨(k:Int)+1,by omega,by omega,hk,by simpa using h⟩
   ·obtain⟨y,a,b,c,d⟩:=xh n h0 k (by omega)
    exact⟨y,a,by omega,c,d⟩
theorem th (y r:Int)(h0:0≤r):∀ k:Nat,r<dW y k→∃ m:Nat,1≤m∧m≤k∧dW y (m - 1)≤r∧r<dW y m
 | 0,h=>absurd h (by rw[show dW y 0=0 from rfl];omega)
 | k+1,h=>by
   by_cases hk:dW y k≤r
   ·exact⟨k+1,by omega,by omega,hk,h⟩
   ·obtain⟨m,a,b,c,d⟩:=th y r h0 k (by omega)
    exact⟨m,a,by omega,c,d⟩
theorem Ho {n:Int}(h0:0≤n)(h1:n≤3652058):∃ y m d,DateOk y m d∧n=iO y m d:=by
 have hb:ew (((9999:Nat):Int)+1)=3652059:=by decide
 obtain⟨y,y1,y2,b1,b2⟩:=xh n h0 9999 (by rw[hb];omega)
 have hs:=ny y
 have h12:=GG y
 obtain⟨m,m1,m2,c1,c2⟩:=th y (n - ew y) (by omega) 12 (by omega)
 have hm:dW y m=dW y (m - 1)+mdI y m:=by
  obtain⟨k,rfl⟩:∃ k,m=k+1:=⟨m - 1,by omega⟩
  simp[dW]
 exact⟨y,m,n - ew y - dW y (m - 1)+1,⟨y1,by simpa using y2,m1,m2,by omega,by omega⟩,by unfold iO;omega⟩
end Go.Ab
set_option maxRecDepth 100000
namespace Go.Proofs.YtamoeblcphjbaaaGreatDoor
open Go Go.Ab
def dH (s:List UInt8):Prop:=s.flatMap c7=s
theorem bq {a b:List UInt8}(ha:dH a)(hb:dH b):dH (a++b):=by
 unfold dH at *;rw[List.flatMap_append,ha,hb]
theorem cm:∀ (k n:Nat),dH (aY k n)
 | 0,_=>rfl
 | k+1,n=>by
   rw[aY]
   refine bq (cm k _) ?_
   unfold dH
   have hc:(UInt8.ofNat (48+n % 10)).toNat=48+n % 10:=by
    rw[UInt8.toNat_ofNat'];omega
   simp only[List.flatMap_cons,List.flatMap_nil,List.append_nil]
   exact FX (by omega) (by omega)
theorem kr (y:Int)(m:Nat)(d:Int):dH (cG y m d):=by
 unfold cG
 exact bq (bq (bq (bq (cm _ _) rfl) (cm _ _)) rfl) (cm _ _)
theorem pj (y:Int)(m:Nat)(d:Int):(cG y m d).length=10:=by
 simp[cG,aV]
theorem qW {t:List UInt8}(ht:dH t)(h mi s ms:Nat):dH (fJ t h mi s ms):=by
 unfold fJ
 refine bq (bq (bq ht ?_) ?_) rfl
 ·exact bq (bq (bq (bq (bq rfl (cm _ _)) rfl) (cm _ _)) rfl) (cm _ _)
 ·split
  ·rfl
  ·exact bq rfl (cm _ _)
theorem AD (t:List UInt8)(h mi s ms:Nat):(fJ t h mi s ms).length≤t.length+14:=by
 unfold fJ
 split<;>simp[aV]<;>omega
theorem nq {n:Int}(h0:-719162≤n)(h1:n≤2932896):∃ s,(aq Tryz.prog aF 43 [.int .i64 n] (.tup [.str s,.int .i64 0])∧dH s∧s.length≤10)∧∃ y m d,DateOk y m d∧n=iO y m d - 719162∧s=cG y m d:=by
 obtain⟨y,m,d,hd,he⟩:=Ho (n:=n+719162) (by omega) (by omega)
 refine⟨cG y m d,⟨?_,kr _ _ _,by rw[pj];omega⟩,y,m,d,hd,by omega,rfl⟩
 have:=GE hd
 rw[← he,show n+719162 - 719162=n by omega] at this
 exact this
theorem jU {n:Int}(h0:-62135596800000≤n)(h1:n≤253402300799999):∃ s,(aq Tryz.prog aF 44 [.int .i64 n] (.tup [.str s,.int .i64 0])∧dH s∧s.length≤24) ∧
  ∃ y m d,∃ h mi sc ms:Nat,DateOk y m d∧h≤23∧mi≤59∧sc≤59∧ms≤999∧n=(iO y m d - 719162)*86400000+(((60*(h:Int)+mi)*60+sc)*1000+ms)∧s=fJ (cG y m d) h mi sc ms:=by
 obtain⟨D,hD⟩:∃ D,D=n / 86400000:=⟨_,rfl⟩
 obtain⟨r,hr⟩:∃ r:Nat,(r:Int)=n % 86400000:=⟨(n % 86400000).toNat,by omega⟩
 obtain⟨y,m,d,hd,he⟩:=Ho (n:=D+719162) (by omega) (by omega)
 have hr1:r<86400000:=by omega
 have hn:n=(iO y m d - 719162)*86400000+((((60*((r / 3600000:Nat):Int)+((r / 60000 % 60:Nat):Int))*60+((r / 1000 % 60:Nat):Int))*1000+((r % 1000:Nat):Int))):=by
  rw[← he];omega
 refine⟨fJ (cG y m d) (r / 3600000) (r / 60000 % 60) (r / 1000 % 60) (r % 1000),⟨?_,qW (kr _ _ _) _ _ _ _,?_⟩,y,m,d,r / 3600000,r / 60000 % 60,r / 1000 % 60,r % 1000,hd,by omega,by omega,by omega,by omega,hn,rfl⟩
 ·have:=uE hd (h:=r / 3600000) (mi:=r / 60000 % 60) (s:=r / 1000 % 60) (ms:=r % 1000) (by omega) (by omega) (by omega) (by omega)
  rw[← hn] at this
  exact this
 ·have:=AD (cG y m d) (r / 3600000) (r / 60000 % 60) (r / 1000 % 60) (r % 1000)
  rw[pj] at this
  exact this
end Go.Proofs.YtamoeblcphjbaaaGreatDoor
-- many steps
namespace Go.Proofs.YtamoeblcphjbaaaGreatDoor
open Go Go.Ab
attribute [local irreducible] vc
noncomputable def nN (n:Int):List UInt8:=if h:-719162≤n∧n≤2932896 then (nq h.1 h.2).choose else []
theorem nr {n:Int}(h:-719162≤n∧n≤2932896):aq Tryz.prog aF 43 [.int .i64 n] (.tup [.str (nN n),.int .i64 0])∧dH (nN n)∧(nN n).length≤10:=by
 rw[nN,dif_pos h];exact (nq h.1 h.2).choose_spec.1
noncomputable def eY (n:Int):List UInt8:=if h:-62135596800000≤n∧n≤253402300799999 then (jU h.1 h.2).choose else []
theorem ju {n:Int}(h:-62135596800000≤n∧n≤253402300799999):aq Tryz.prog aF 44 [.int .i64 n] (.tup [.str (eY n),.int .i64 0])∧dH (eY n)∧(eY n).length≤24:=by
 rw[eY,dif_pos h];exact (jU h.1 h.2).choose_spec.1
theorem ko {s:List UInt8}(h:dH s):aL s=34::(s++[34]):=by unfold aL;rw[h]
noncomputable def au:Nat→Val→List UInt8
 | 0,_=>[]
 | f+1,.mk k n s t l fs=>
   if k=0 then [110,117,108,108] else if k=1 then (if n=1 then [116,114,117,101] else [102,97,108,115,101]) else if k=2 then cS n
   else if k=3 then c8 n s.toNat++(if s=0 then [100] else []) else if k=4 then aL t else if k=5 then lC t
   else if k=6 then [100,97,116,101,32]++aL (nN n) else if k=7 then [116,105,109,101,32]++aL (eY n)
   else if k=8 then [91]++aJ [44,32] (l.map (au f))++[93]
   else if k=9 then [123]++aJ [44,32] (fs.map fun x=>x.name++[58,32]++au f x.value)++[125]
   else t++[40]++au f (l.headD (.mk 0 0 0 [] [] []))++[41]
theorem EZ {n:Int}{sc:Nat}(h:IsN n sc):aq Tryz.prog aF 67 [.int .i64 n,.int .i64 (sc:Int)] (.str (c8 n sc)):=by
 have h1:=xV h
 refine aq.intro Om (by simp[F67]) ?_
 simp(disch:=try exact dI) only[F67,push_cast,seval]
 refine ab.pure h1 rfl ?_
 simp(disch:=try exact dI) only[push_cast,seval]
section
variable (f:Nat)(n s:Int)(t:List UInt8)(l:List Val)(fs:List Fld)
theorem Dv:aq Tryz.prog aF 37 [(Val.mk 0 n s t l fs).pv] (.str (au (f+1) (.mk 0 n s t l fs))):=by
 rw[show au (f+1) (.mk 0 n s t l fs)=[110,117,108,108] from rfl]
 refine aq.intro eq (by simp[F37]) ?_
 simp(disch:=try exact dI) only[F37,Val.pv_mk,push_cast,seval]
theorem Dt (h:-999999999999999≤n∧n≤999999999999999):aq Tryz.prog aF 37 [(Val.mk 2 n s t l fs).pv] (.str (au (f+1) (.mk 2 n s t l fs))):=by
 rw[show au (f+1) (.mk 2 n s t l fs)=cS n from rfl]
 have hi:=mZ n (by omega) (by omega)
 refine aq.intro eq (by simp[F37]) ?_
 simp(disch:=try exact dI) only[F37,Val.pv_mk,push_cast,seval]
 refine ab.pure hi rfl ?_
 simp(disch:=try exact dI) only[push_cast,seval]
theorem Dq (h:t.length≤1024):aq Tryz.prog aF 37 [(Val.mk 4 n s t l fs).pv] (.str (au (f+1) (.mk 4 n s t l fs))):=by
 rw[show au (f+1) (.mk 4 n s t l fs)=aL t from rfl]
 have hi:=qR t (by omega)
 refine aq.intro eq (by simp[F37]) ?_
 simp(disch:=try exact dI) only[F37,Val.pv_mk,push_cast,seval]
 refine ab.pure hi rfl ?_
 simp(disch:=try exact dI) only[push_cast,seval]
theorem Dp (h:t.length≤1024):aq Tryz.prog aF 37 [(Val.mk 5 n s t l fs).pv] (.str (au (f+1) (.mk 5 n s t l fs))):=by
 rw[show au (f+1) (.mk 5 n s t l fs)=lC t from rfl]
 have hi:=EF t (by omega)
 refine aq.intro eq (by simp[F37]) ?_
 simp(disch:=try exact dI) only[F37,Val.pv_mk,push_cast,seval]
 refine ab.pure hi rfl ?_
 simp(disch:=try exact dI) only[push_cast,seval]
theorem cl (x:List UInt8):(aL x).length≤6*x.length+2:=by
 have:=gW x
 rw[aL,List.length_cons,List.length_append,List.length_singleton];omega
theorem Do (h:-719162≤n∧n≤2932896):aq Tryz.prog aF 37 [(Val.mk 6 n s t l fs).pv] (.str (au (f+1) (.mk 6 n s t l fs))):=by
 rw[show au (f+1) (.mk 6 n s t l fs)=[100,97,116,101,32]++aL (nN n) from rfl]
 obtain⟨h1,h2,h3⟩:=nr h
 have hi:=qR (nN n) (by omega)
 have hq:=cl (nN n)
 generalize aL (nN n)=Q at *
 refine aq.intro eq (by simp[F37]) ?_
 simp(disch:=try exact dI) only[F37,Val.pv_mk,push_cast,seval]
 refine ab.pure h1 rfl ?_
 simp(disch:=try exact dI) only[push_cast,seval]
 refine ab.pure hi rfl ?_
 simp(disch:=try exact dI) only[push_cast,seval]
theorem Dn (h:-62135596800000≤n∧n≤253402300799999):aq Tryz.prog aF 37 [(Val.mk 7 n s t l fs).pv] (.str (au (f+1) (.mk 7 n s t l fs))):=by
 rw[show au (f+1) (.mk 7 n s t l fs)=[116,105,109,101,32]++aL (eY n) from rfl]
 obtain⟨h1,h2,h3⟩:=ju h
 have hi:=qR (eY n) (by omega)
 have hq:=cl (eY n)
 generalize aL (eY n)=Q at *
 refine aq.intro eq (by simp[F37]) ?_
 simp(disch:=try exact dI) only[F37,Val.pv_mk,push_cast,seval]
 refine ab.pure h1 rfl ?_
 simp(disch:=try exact dI) only[push_cast,seval]
 refine ab.pure hi rfl ?_
 simp(disch:=try exact dI) only[push_cast,seval]
end
end Go.Proofs.YtamoeblcphjbaaaGreatDoor
-- many steps
namespace Go.Proofs.YtamoeblcphjbaaaGreatDoor
open Go Go.Ab
attribute [local irreducible] vc
def rR (b:Bool):List UInt8:=if b=true then [116,114,117,101] else [102,97,108,115,101]
theorem FP (b:Bool):aq Tryz.prog aF 146 [.bool b] (.str (rR b)):=by
 refine aq.intro La (by simp[Pt]) ?_
 cases b with
 | true=>simp(disch:=try exact dI) only[Pt,rR,push_cast,seval]
 | false=>simp(disch:=try exact dI) only[Pt,rR,push_cast,seval]
theorem Bh (b:Bool):aq Tryz.prog aF 65 [.bool b] (.str (rR b)):=by
 have h:=FP b
 generalize rR b=Q at *
 refine aq.intro On (by simp[F65]) ?_
 simp(disch:=try exact dI) only[F65,push_cast,seval]
 refine ab.pure h rfl ?_
 simp(disch:=try exact dI) only[push_cast,seval]
section
variable (f:Nat)(n s:Int)(t:List UInt8)(l:List Val)(fs:List Fld)
theorem Du:aq Tryz.prog aF 37 [(Val.mk 1 n s t l fs).pv] (.str (au (f+1) (.mk 1 n s t l fs))):=by
 rw[show au (f+1) (.mk 1 n s t l fs)=(if n=1 then [116,114,117,101] else [102,97,108,115,101]) from rfl]
 by_cases h:n=1
 ·rw[if_pos h]
  have hb:=Bh true
  rw[show rR true=[116,114,117,101] from rfl] at hb
  refine aq.intro eq (by simp[F37]) ?_
  simp(disch:=try exact dI) only[F37,Val.pv_mk,h,push_cast,seval]
  refine ab.pure hb rfl ?_
  simp(disch:=try exact dI) only[push_cast,seval]
 ·rw[if_neg h]
  have hb:=Bh false
  rw[show rR false=[102,97,108,115,101] from rfl] at hb
  refine aq.intro eq (by simp[F37]) ?_
  simp(disch:=try exact dI) only[F37,Val.pv_mk,h,push_cast,seval]
  refine ab.pure hb rfl ?_
  simp(disch:=try exact dI) only[push_cast,seval]
theorem np {n:Int}{sc:Nat}(h:IsN n sc):(c8 n sc).length≤1000:=by
 obtain⟨h1,h2,h3⟩:=h
 have hd:=(eN (a:=n.natAbs) (by omega)).2.1
 unfold c8
 rw[List.length_append,List.length_append,aV]
 split<;>split<;>simp[aV]<;>omega
theorem Dr (h:IsN n s.toNat)(hs:0≤s):aq Tryz.prog aF 37 [(Val.mk 3 n s t l fs).pv] (.str (au (f+1) (.mk 3 n s t l fs))):=by
 rw[show au (f+1) (.mk 3 n s t l fs)=c8 n s.toNat++(if s=0 then [100] else []) from rfl]
 obtain⟨m,hm⟩:∃ m:Nat,s=(m:Int):=⟨s.toNat,by omega⟩
 subst hm
 rw[Int.toNat_natCast] at h ⊢
 have h1:=EZ h
 have hl:=np h
 generalize c8 n m=D at *
 by_cases h0:m=0
 ·subst h0
  rw[if_pos (show ((0:Nat):Int)=0 from rfl)]
  refine aq.intro eq (by simp[F37]) ?_
  simp(disch:=try exact dI) only[F37,Val.pv_mk,push_cast,seval]
  refine ab.pure h1 rfl ?_
  simp(disch:=try exact dI) only[push_cast,seval]
 ·have h0I:¬ (m:Int)=0:=by omega
  rw[if_neg h0I,List.append_nil]
  refine aq.intro eq (by simp[F37]) ?_
  simp(disch:=try exact dI) only[F37,Val.pv_mk,h0I,push_cast,seval]
  refine ab.pure h1 rfl ?_
  simp(disch:=try exact dI) only[h0I,push_cast,seval]
end
end Go.Proofs.YtamoeblcphjbaaaGreatDoor
-- many steps
namespace Go.Proofs.YtamoeblcphjbaaaGreatDoor
open Go Go.Ab
attribute [local irreducible] vc
theorem Hf (L:List (List UInt8))(hN:L.length≤1000000)(hl:(aJ [44,32] L).length≤100000000):aq Tryz.prog aF 68 [.list (L.map .str)] (.str (aJ [44,32] L)):=by
 have h:=AL L [44,32] (by omega) (by omega)
 generalize aJ [44,32] L=Q at *
 refine aq.intro Ol (by simp[F68]) ?_
 simp(disch:=try exact dI) only[F68,push_cast,seval]
 refine ab.pure h rfl ?_
 simp(disch:=try exact dI) only[push_cast,seval]
section
variable (f:Nat)(n s:Int)(t:List UInt8)(l:List Val)(fs:List Fld)
theorem Dm (ih:∀ x∈l,aq Tryz.prog aF 37 [x.pv] (.str (au f x)))(hN:l.length≤256)(hj:(aJ [44,32] (l.map (au f))).length≤100000000) :
  aq Tryz.prog aF 37 [(Val.mk 8 n s t l fs).pv] (.str (au (f+1) (.mk 8 n s t l fs))):=by
 rw[show au (f+1) (.mk 8 n s t l fs)=[91]++aJ [44,32] (l.map (au f))++[93] from rfl]
 have hjn:=Hf (l.map (au f)) (by simp;omega) hj
 refine aq.intro eq (by simp[F37]) ?_
 simp(disch:=try exact dI) only[F37,Val.pv_mk,push_cast,seval]
 refine be ([(3,0,9,1)]) (fun i:Nat=>[(3,.olist 0 1 (((l.take i).map (au f)).map PV.str)),(78,.pv (.int .i64 (i:Int)))]) (fun _=>[]) (fun i=>i≤l.length) (fun i=>l.length - i) (0) ?_;intro e0 σ0 n0 h0;simp(disch:=try exact dI) only[push_cast,seval] at h0;obtain⟨rfl,rfl,rfl⟩:=h0;refine⟨?_,?_,?_⟩
 ·simp(disch:=try exact dI) only[push_cast,seval]
  try done
 ·omega
 ·rintro i hi
  by_cases hlt:i<l.length
  ·have hltI:(i:Int)<(l.length:Int):=by omega
   obtain⟨x,hx⟩:∃ x,l[i]? = some x:=⟨_,List.getElem?_eq_getElem hlt⟩
   have hx':(l.map Val.pv)[i]? = some x.pv:=by simp[hx]
   have hc:=ih x (List.mem_of_getElem? hx)
   have hts:=bh hx
   have hQ:(((l.take (i+1)).map (au f)).map PV.str)=((l.take i).map (au f)).map PV.str++[.str (au f x)]:=by rw[hts];simp
   have hl:(((l.take i).map (au f)).map PV.str).length≤256:=by simp;omega
   generalize ((l.take i).map (au f)).map PV.str=Q at *
   generalize au f x=X at *
   obtain⟨xk,xn,xs,xt,xl,xf⟩:=x
   simp only[Val.pv_mk] at hx' hc
   simp(disch:=try exact dI) only[hltI,hx',push_cast,seval]
   refine ab.pure hc rfl ?_
   simp(disch:=try exact dI) only[push_cast,seval]
   exact⟨i+1,bT (by simp(disch:=try exact dI) only[hQ,push_cast,seval]),by omega,by omega⟩
  ·have hltI:¬ (i:Int)<(l.length:Int):=by omega
   obtain rfl:i=l.length:=by omega
   rw[List.take_length]
   generalize aJ [44,32] (l.map (au f))=J at *
   simp(disch:=try exact dI) only[hltI,push_cast,seval]
   refine ab.pure hjn rfl ?_
   simp(disch:=try exact dI) only[push_cast,seval]
noncomputable def fE (f:Nat)(x:Fld):List UInt8:=x.name++[58,32]++au f x.value
theorem Dl (ih:∀ x∈fs,aq Tryz.prog aF 37 [x.value.pv] (.str (au f x.value)))(hN:fs.length≤64)(hb:∀ x∈fs,x.name.length≤1024∧(au f x.value).length≤100000000)(hj:(aJ [44,32] (fs.map (fE f))).length≤100000000) :
  aq Tryz.prog aF 37 [(Val.mk 9 n s t l fs).pv] (.str (au (f+1) (.mk 9 n s t l fs))):=by
 rw[show au (f+1) (.mk 9 n s t l fs)=[123]++aJ [44,32] (fs.map (fE f))++[125] from rfl]
 have hjn:=Hf (fs.map (fE f)) (by simp;omega) hj
 refine aq.intro eq (by simp[F37]) ?_
 simp(disch:=try exact dI) only[F37,Val.pv_mk,push_cast,seval]
 refine be ([(3,0,9,1)]) (fun i:Nat=>[(3,.olist 0 1 (((fs.take i).map (fE f)).map PV.str)),(97,.pv (.int .i64 (i:Int)))]) (fun _=>[]) (fun i=>i≤fs.length) (fun i=>fs.length - i) (0) ?_;intro e0 σ0 n0 h0;simp(disch:=try exact dI) only[push_cast,seval] at h0;obtain⟨rfl,rfl,rfl⟩:=h0;refine⟨?_,?_,?_⟩
 ·simp(disch:=try exact dI) only[push_cast,seval]
  try done
 ·omega
 ·rintro i hi
  by_cases hlt:i<fs.length
  ·have hltI:(i:Int)<(fs.length:Int):=by omega
   obtain⟨x,hx⟩:∃ x,fs[i]? = some x:=⟨_,List.getElem?_eq_getElem hlt⟩
   have hx':(fs.map Fld.pv)[i]? = some x.pv:=by simp[hx]
   have hc:=ih x (List.mem_of_getElem? hx)
   obtain⟨b1,b2⟩:=hb x (List.mem_of_getElem? hx)
   have hts:=bh hx
   have hQ:(((fs.take (i+1)).map (fE f)).map PV.str)=((fs.take i).map (fE f)).map PV.str++[.str (x.name++[58,32]++au f x.value)]:=by rw[hts];simp[fE]
   have hl:(((fs.take i).map (fE f)).map PV.str).length≤64:=by simp;omega
   generalize ((fs.take i).map (fE f)).map PV.str=Q at *
   obtain⟨nm,x⟩:=x
   simp only[Fld.value,Fld.name] at hc b1 b2 hQ
   generalize au f x=X at *
   obtain⟨xk,xn,xs,xt,xl,xf⟩:=x
   simp only[Fld.pv_mk,Val.pv_mk] at hx' hc
   simp(disch:=try exact dI) only[hltI,hx',push_cast,seval]
   refine ae hc rfl ?_
   simp(disch:=try exact dI) only[push_cast,seval]
   exact⟨i+1,bT (by simp(disch:=try exact dI) only[hQ,List.append_assoc,push_cast,seval]),by omega,by omega⟩
  ·have hltI:¬ (i:Int)<(fs.length:Int):=by omega
   obtain rfl:i=fs.length:=by omega
   rw[List.take_length]
   generalize aJ [44,32] (fs.map (fE f))=J at *
   simp(disch:=try exact dI) only[hltI,push_cast,seval]
   refine ab.pure hjn rfl ?_
   simp(disch:=try exact dI) only[push_cast,seval]
theorem xW (x:Val)(ih:aq Tryz.prog aF 37 [x.pv] (.str (au f x)))(h1:t.length≤1024)(h2:(au f x).length≤100000000) :
  aq Tryz.prog aF 37 [(Val.mk 10 n s t [x] fs).pv] (.str (au (f+1) (.mk 10 n s t [x] fs))):=by
 rw[show au (f+1) (.mk 10 n s t [x] fs)=t++[40]++au f x++[41] from rfl]
 generalize au f x=X at *
 obtain⟨xk,xn,xs,xt,xl,xf⟩:=x
 simp only[Val.pv_mk] at ih
 refine aq.intro eq (by simp[F37]) ?_
 simp(disch:=try exact dI) only[F37,Val.pv_mk,List.map_cons,List.map_nil,aG,push_cast,seval]
 refine ae ih rfl ?_
 simp(disch:=try exact dI) only[List.append_assoc,push_cast,seval]
end
end Go.Proofs.YtamoeblcphjbaaaGreatDoor

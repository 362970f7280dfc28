/- A part of the proof for LiteralReadsCardSaid. -/
import Derived.Test.YtamoeblcphjbaaaGreatDoorRdLC15
import Derived.Test.YtamoeblcphjbaaaGreatDoorRdLE5
import Derived.Test.YtamoeblcphjbaaaGreatDoorRdLR6
set_option linter.unusedVariables false
set_option linter.unusedSimpArgs false
namespace Go.Ab
open Go
theorem wU (n:Int)(h0:0≤n):∀ k:Nat,n<ee ((k:Int)+1)→∃ y:Int,1≤y∧y≤k∧ee y≤n∧n<ee (y+1)
 | 0,h=>absurd h (by rw[show ee (((0:Nat):Int)+1)=0 from rfl];omega)
 | k+1,h=>by
   by_cases hk:ee ((k:Int)+1)≤n
   ·exact⟨(k:Int)+1,by omega,by omega,hk,by simpa using h⟩
   ·obtain⟨y,a,b,c,d⟩:=wU n h0 k (by omega)
    exact⟨y,a,by omega,c,d⟩
theorem sQ (y r:Int)(h0:0≤r):∀ k:Nat,r<dN y k→∃ m:Nat,1≤m∧m≤k∧dN y (m - 1)≤r∧r<dN y m
 | 0,h=>absurd h (by rw[show dN y 0=0 from rfl];omega)
 | k+1,h=>by
   by_cases hk:dN y k≤r
   ·exact⟨k+1,by omega,by omega,hk,h⟩
   ·obtain⟨m,a,b,c,d⟩:=sQ y r h0 k (by omega)
    exact⟨m,a,by omega,c,d⟩
theorem GY {n:Int}(h0:0≤n)(h1:n≤3652058):∃ y m d,DateOk y m d∧n=iz y m d:=by
 have hb:ee (((9999:Nat):Int)+1)=3652059:=by decide
 obtain⟨y,y1,y2,b1,b2⟩:=wU n h0 9999 (by rw[hb];omega)
 have hs:=m8 y
 have h12:=Gg y
 obtain⟨m,m1,m2,c1,c2⟩:=sQ y (n - ee y) (by omega) 12 (by omega)
 have hm:dN y m=dN y (m - 1)+mdI y m:=by
  obtain⟨k,rfl⟩:∃ k,m=k+1:=⟨m - 1,by omega⟩
  simp[dN]
 exact⟨y,m,n - ee y - dN y (m - 1)+1,⟨y1,by simpa using y2,m1,m2,by omega,by omega⟩,by unfold iz;omega⟩
end Go.Ab
set_option maxRecDepth 100000
namespace Go.Proofs.YtamoeblcphjbaaaGreatDoor
open Go Go.Ab
def dy (s:List UInt8):Prop:=s.flatMap cP=s
theorem bi {a b:List UInt8}(ha:dy a)(hb:dy b):dy (a++b):=by
 unfold dy at *;rw[List.flatMap_append,ha,hb]
theorem ca:∀ (k n:Nat),dy (aX k n)
 | 0,_=>rfl
 | k+1,n=>by
   rw[aX]
   refine bi (ca k _) ?_
   unfold dy
   have hc:(UInt8.ofNat (48+n % 10)).toNat=48+n % 10:=by
    rw[UInt8.toNat_ofNat'];omega
   simp only[List.flatMap_cons,List.flatMap_nil,List.append_nil]
   exact Fy (by omega) (by omega)
theorem j1 (y:Int)(m:Nat)(d:Int):dy (cx y m d):=by
 unfold cx
 exact bi (bi (bi (bi (ca _ _) rfl) (ca _ _)) rfl) (ca _ _)
theorem oT (y:Int)(m:Nat)(d:Int):(cx y m d).length=10:=by
 simp[cx,aV]
theorem qD {t:List UInt8}(ht:dy t)(h mi s ms:Nat):dy (fA t h mi s ms):=by
 unfold fA
 refine bi (bi (bi ht ?_) ?_) rfl
 ·exact bi (bi (bi (bi (bi rfl (ca _ _)) rfl) (ca _ _)) rfl) (ca _ _)
 ·split
  ·rfl
  ·exact bi rfl (ca _ _)
theorem Ag (t:List UInt8)(h mi s ms:Nat):(fA t h mi s ms).length≤t.length+14:=by
 unfold fA
 split<;>simp[aV]<;>omega
theorem mZ {n:Int}(h0:-719162≤n)(h1:n≤2932896):∃ s,(aq Tryz.prog aF 43 [.int .i64 n] (.tup [.str s,.int .i64 0])∧dy s∧s.length≤10)∧∃ y m d,DateOk y m d∧n=iz y m d - 719162∧s=cx y m d:=by
 obtain⟨y,m,d,hd,he⟩:=GY (n:=n+719162) (by omega) (by omega)
 refine⟨cx y m d,⟨?_,j1 _ _ _,by rw[oT];omega⟩,y,m,d,hd,by omega,rfl⟩
 have:=Gf hd
 rw[← he,show n+719162 - 719162=n by omega] at this
 exact this
theorem jD {n:Int}(h0:-62135596800000≤n)(h1:n≤253402300799999):∃ s,(aq Tryz.prog aF 44 [.int .i64 n] (.tup [.str s,.int .i64 0])∧dy s∧s.length≤24) ∧
  ∃ y m d,∃ h mi sc ms:Nat,DateOk y m d∧h≤23∧mi≤59∧sc≤59∧ms≤999∧n=(iz y m d - 719162)*86400000+(((60*(h:Int)+mi)*60+sc)*1000+ms)∧s=fA (cx y m d) h mi sc ms:=by
 obtain⟨D,hD⟩:∃ D,D=n / 86400000:=⟨_,rfl⟩
 obtain⟨r,hr⟩:∃ r:Nat,(r:Int)=n % 86400000:=⟨(n % 86400000).toNat,by omega⟩
 obtain⟨y,m,d,hd,he⟩:=GY (n:=D+719162) (by omega) (by omega)
 have hr1:r<86400000:=by omega
 have hn:n=(iz y m d - 719162)*86400000+((((60*((r / 3600000:Nat):Int)+((r / 60000 % 60:Nat):Int))*60+((r / 1000 % 60:Nat):Int))*1000+((r % 1000:Nat):Int))):=by
  rw[← he];omega
 refine⟨fA (cx y m d) (r / 3600000) (r / 60000 % 60) (r / 1000 % 60) (r % 1000),⟨?_,qD (j1 _ _ _) _ _ _ _,?_⟩,y,m,d,r / 3600000,r / 60000 % 60,r / 1000 % 60,r % 1000,hd,by omega,by omega,by omega,by omega,hn,rfl⟩
 ·have:=uo hd (h:=r / 3600000) (mi:=r / 60000 % 60) (s:=r / 1000 % 60) (ms:=r % 1000) (by omega) (by omega) (by omega) (by omega)
  rw[← hn] at this
  exact this
 ·have:=Ag (cx y m d) (r / 3600000) (r / 60000 % 60) (r / 1000 % 60) (r % 1000)
  rw[oT] at this
  exact this
end Go.Proofs.YtamoeblcphjbaaaGreatDoor
-- many steps
namespace Go.Proofs.YtamoeblcphjbaaaGreatDoor
open Go Go.Ab
attribute [local irreducible] vc
noncomputable def pL (n:Int):List UInt8:=if h:-719162≤n∧n≤2932896 then (mZ h.1 h.2).choose else []
theorem ru {n:Int}(h:-719162≤n∧n≤2932896):aq Tryz.prog aF 43 [.int .i64 n] (.tup [.str (pL n),.int .i64 0])∧dy (pL n)∧(pL n).length≤10:=by
 rw[pL,dif_pos h];exact (mZ h.1 h.2).choose_spec.1
noncomputable def fy (n:Int):List UInt8:=if h:-62135596800000≤n∧n≤253402300799999 then (jD h.1 h.2).choose else []
theorem mf {n:Int}(h:-62135596800000≤n∧n≤253402300799999):aq Tryz.prog aF 44 [.int .i64 n] (.tup [.str (fy n),.int .i64 0])∧dy (fy n)∧(fy n).length≤24:=by
 rw[fy,dif_pos h];exact (jD h.1 h.2).choose_spec.1
theorem jZ {s:List UInt8}(h:dy s):aO s=34::(s++[34]):=by unfold aO;rw[h]
noncomputable def aw:Nat→Val→List UInt8
 | 0,_=>[]
 | f+1,.mk k n s t l fs=>
   if k=0 then [110,117,108,108] else if k=1 then (if n=1 then [116,114,117,101] else [102,97,108,115,101]) else if k=2 then cR n
   else if k=3 then cS n s.toNat++(if s=0 then [100] else []) else if k=4 then aO t else if k=5 then lI t
   else if k=6 then [100,97,116,101,32]++aO (pL n) else if k=7 then [116,105,109,101,32]++aO (fy n)
   else if k=8 then [91]++aK [44,32] (l.map (aw f))++[93]
   else if k=9 then [123]++aK [44,32] (fs.map fun x=>x.name++[58,32]++aw f x.value)++[125]
   else t++[40]++aw f (l.headD (.mk 0 0 0 [] [] []))++[41]
theorem EA {n:Int}{sc:Nat}(h:IsN n sc):aq Tryz.prog aF 67 [.int .i64 n,.int .i64 (sc:Int)] (.str (cS n sc)):=by
 have h1:=xJ h
 refine aq.intro N8 (by simp[F67]) ?_
 simp(disch:=try exact dI) only[F67,push_cast,seval]
 refine ab.pure h1 rfl ?_
 simp(disch:=try exact dI) only[push_cast,seval]
section
variable (f:Nat)(n s:Int)(t:List UInt8)(l:List Val)(fs:List Fld)
theorem CZ:aq Tryz.prog aF 37 [(Val.mk 0 n s t l fs).pv] (.str (aw (f+1) (.mk 0 n s t l fs))):=by
 rw[show aw (f+1) (.mk 0 n s t l fs)=[110,117,108,108] from rfl]
 refine aq.intro d9 (by simp[F37]) ?_
 simp(disch:=try exact dI) only[F37,Val.pv_mk,push_cast,seval]
theorem CX (h:-999999999999999≤n∧n≤999999999999999):aq Tryz.prog aF 37 [(Val.mk 2 n s t l fs).pv] (.str (aw (f+1) (.mk 2 n s t l fs))):=by
 rw[show aw (f+1) (.mk 2 n s t l fs)=cR n from rfl]
 have hi:=mI n (by omega) (by omega)
 refine aq.intro d9 (by simp[F37]) ?_
 simp(disch:=try exact dI) only[F37,Val.pv_mk,push_cast,seval]
 refine ab.pure hi rfl ?_
 simp(disch:=try exact dI) only[push_cast,seval]
theorem CV (h:t.length≤1024):aq Tryz.prog aF 37 [(Val.mk 4 n s t l fs).pv] (.str (aw (f+1) (.mk 4 n s t l fs))):=by
 rw[show aw (f+1) (.mk 4 n s t l fs)=aO t from rfl]
 have hi:=qy t (by omega)
 refine aq.intro d9 (by simp[F37]) ?_
 simp(disch:=try exact dI) only[F37,Val.pv_mk,push_cast,seval]
 refine ab.pure hi rfl ?_
 simp(disch:=try exact dI) only[push_cast,seval]
theorem CU (h:t.length≤1024):aq Tryz.prog aF 37 [(Val.mk 5 n s t l fs).pv] (.str (aw (f+1) (.mk 5 n s t l fs))):=by
 rw[show aw (f+1) (.mk 5 n s t l fs)=lI t from rfl]
 have hi:=Ee t (by omega)
 refine aq.intro d9 (by simp[F37]) ?_
 simp(disch:=try exact dI) only[F37,Val.pv_mk,push_cast,seval]
 refine ab.pure hi rfl ?_
 simp(disch:=try exact dI) only[push_cast,seval]
theorem dQ (x:List UInt8):(aO x).length≤6*x.length+2:=by
 have:=gG x
 rw[aO,List.length_cons,List.length_append,List.length_singleton];omega
theorem CT (h:-719162≤n∧n≤2932896):aq Tryz.prog aF 37 [(Val.mk 6 n s t l fs).pv] (.str (aw (f+1) (.mk 6 n s t l fs))):=by
 rw[show aw (f+1) (.mk 6 n s t l fs)=[100,97,116,101,32]++aO (pL n) from rfl]
 obtain⟨h1,h2,h3⟩:=ru h
 have hi:=qy (pL n) (by omega)
 have hq:=dQ (pL n)
 generalize aO (pL n)=Q at *
 refine aq.intro d9 (by simp[F37]) ?_
 simp(disch:=try exact dI) only[F37,Val.pv_mk,push_cast,seval]
 refine ab.pure h1 rfl ?_
 simp(disch:=try exact dI) only[push_cast,seval]
 refine ab.pure hi rfl ?_
 simp(disch:=try exact dI) only[push_cast,seval]
theorem CS (h:-62135596800000≤n∧n≤253402300799999):aq Tryz.prog aF 37 [(Val.mk 7 n s t l fs).pv] (.str (aw (f+1) (.mk 7 n s t l fs))):=by
 rw[show aw (f+1) (.mk 7 n s t l fs)=[116,105,109,101,32]++aO (fy n) from rfl]
 obtain⟨h1,h2,h3⟩:=mf h
 have hi:=qy (fy n) (by omega)
 have hq:=dQ (fy n)
 generalize aO (fy n)=Q at *
 refine aq.intro d9 (by simp[F37]) ?_
 simp(disch:=try exact dI) only[F37,Val.pv_mk,push_cast,seval]
 refine ab.pure h1 rfl ?_
 simp(disch:=try exact dI) only[push_cast,seval]
 refine ab.pure hi rfl ?_
 simp(disch:=try exact dI) only[push_cast,seval]
end
end Go.Proofs.YtamoeblcphjbaaaGreatDoor
-- many steps
namespace Go.Proofs.YtamoeblcphjbaaaGreatDoor
open Go Go.Ab
attribute [local irreducible] vc
def rE (b:Bool):List UInt8:=if b=true then [116,114,117,101] else [102,97,108,115,101]
theorem Fr (b:Bool):aq Tryz.prog aF 146 [.bool b] (.str (rE b)):=by
 refine aq.intro KQ (by simp[Pg]) ?_
 cases b with
 | true=>simp(disch:=try exact dI) only[Pg,rE,push_cast,seval]
 | false=>simp(disch:=try exact dI) only[Pg,rE,push_cast,seval]
theorem AR (b:Bool):aq Tryz.prog aF 65 [.bool b] (.str (rE b)):=by
 have h:=Fr b
 generalize rE b=Q at *
 refine aq.intro N9 (by simp[F65]) ?_
 simp(disch:=try exact dI) only[F65,push_cast,seval]
 refine ab.pure h rfl ?_
 simp(disch:=try exact dI) only[push_cast,seval]
section
variable (f:Nat)(n s:Int)(t:List UInt8)(l:List Val)(fs:List Fld)
theorem CY:aq Tryz.prog aF 37 [(Val.mk 1 n s t l fs).pv] (.str (aw (f+1) (.mk 1 n s t l fs))):=by
 rw[show aw (f+1) (.mk 1 n s t l fs)=(if n=1 then [116,114,117,101] else [102,97,108,115,101]) from rfl]
 by_cases h:n=1
 ·rw[if_pos h]
  have hb:=AR true
  rw[show rE true=[116,114,117,101] from rfl] at hb
  refine aq.intro d9 (by simp[F37]) ?_
  simp(disch:=try exact dI) only[F37,Val.pv_mk,h,push_cast,seval]
  refine ab.pure hb rfl ?_
  simp(disch:=try exact dI) only[push_cast,seval]
 ·rw[if_neg h]
  have hb:=AR false
  rw[show rE false=[102,97,108,115,101] from rfl] at hb
  refine aq.intro d9 (by simp[F37]) ?_
  simp(disch:=try exact dI) only[F37,Val.pv_mk,h,push_cast,seval]
  refine ab.pure hb rfl ?_
  simp(disch:=try exact dI) only[push_cast,seval]
theorem mY {n:Int}{sc:Nat}(h:IsN n sc):(cS n sc).length≤1000:=by
 obtain⟨h1,h2,h3⟩:=h
 have hd:=(eF (a:=n.natAbs) (by omega)).2.1
 unfold cS
 rw[List.length_append,List.length_append,aV]
 split<;>split<;>simp[aV]<;>omega
theorem CW (h:IsN n s.toNat)(hs:0≤s):aq Tryz.prog aF 37 [(Val.mk 3 n s t l fs).pv] (.str (aw (f+1) (.mk 3 n s t l fs))):=by
 rw[show aw (f+1) (.mk 3 n s t l fs)=cS n s.toNat++(if s=0 then [100] else []) from rfl]
 obtain⟨m,hm⟩:∃ m:Nat,s=(m:Int):=⟨s.toNat,by omega⟩
 subst hm
 rw[Int.toNat_natCast] at h ⊢
 have h1:=EA h
 have hl:=mY h
 generalize cS n m=D at *
 by_cases h0:m=0
 ·subst h0
  rw[if_pos (show ((0:Nat):Int)=0 from rfl)]
  refine aq.intro d9 (by simp[F37]) ?_
  simp(disch:=try exact dI) only[F37,Val.pv_mk,push_cast,seval]
  refine ab.pure h1 rfl ?_
  simp(disch:=try exact dI) only[push_cast,seval]
 ·have h0I:¬ (m:Int)=0:=by omega
  rw[if_neg h0I,List.append_nil]
  refine aq.intro d9 (by simp[F37]) ?_
  simp(disch:=try exact dI) only[F37,Val.pv_mk,h0I,push_cast,seval]
  refine ab.pure h1 rfl ?_
  simp(disch:=try exact dI) only[h0I,push_cast,seval]
end
end Go.Proofs.YtamoeblcphjbaaaGreatDoor
-- many steps
namespace Go.Proofs.YtamoeblcphjbaaaGreatDoor
open Go Go.Ab
attribute [local irreducible] vc
theorem GO (L:List (List UInt8))(hN:L.length≤1000000)(hl:(aK [44,32] L).length≤100000000):aq Tryz.prog aF 68 [.list (L.map .str)] (.str (aK [44,32] L)):=by
 have h:=Ao L [44,32] (by omega) (by omega)
 generalize aK [44,32] L=Q at *
 refine aq.intro N7 (by simp[F68]) ?_
 simp(disch:=try exact dI) only[F68,push_cast,seval]
 refine ab.pure h rfl ?_
 simp(disch:=try exact dI) only[push_cast,seval]
section
variable (f:Nat)(n s:Int)(t:List UInt8)(l:List Val)(fs:List Fld)
theorem CR (ih:∀ x∈l,aq Tryz.prog aF 37 [x.pv] (.str (aw f x)))(hN:l.length≤256)(hj:(aK [44,32] (l.map (aw f))).length≤100000000) :
  aq Tryz.prog aF 37 [(Val.mk 8 n s t l fs).pv] (.str (aw (f+1) (.mk 8 n s t l fs))):=by
 rw[show aw (f+1) (.mk 8 n s t l fs)=[91]++aK [44,32] (l.map (aw f))++[93] from rfl]
 have hjn:=GO (l.map (aw f)) (by simp;omega) hj
 refine aq.intro d9 (by simp[F37]) ?_
 simp(disch:=try exact dI) only[F37,Val.pv_mk,push_cast,seval]
 refine aQ ([(3,0,9,1)]) (fun i:Nat=>[(3,.olist 0 1 (((l.take i).map (aw f)).map PV.str)),(78,.pv (.int .i64 (i:Int)))]) (fun _=>[]) (fun i=>i≤l.length) (fun i=>l.length - i) (0) ?_;intro e0 σ0 n0 h0;simp(disch:=try exact dI) only[push_cast,seval] at h0;obtain⟨rfl,rfl,rfl⟩:=h0;refine⟨?_,?_,?_⟩
 ·simp(disch:=try exact dI) only[push_cast,seval]
  try done
 ·omega
 ·rintro i hi
  by_cases hlt:i<l.length
  ·have hltI:(i:Int)<(l.length:Int):=by omega
   obtain⟨x,hx⟩:∃ x,l[i]? = some x:=⟨_,List.getElem?_eq_getElem hlt⟩
   have hx':(l.map Val.pv)[i]? = some x.pv:=by simp[hx]
   have hc:=ih x (List.mem_of_getElem? hx)
   have hts:=aR hx
   have hQ:(((l.take (i+1)).map (aw f)).map PV.str)=((l.take i).map (aw f)).map PV.str++[.str (aw f x)]:=by rw[hts];simp
   have hl:(((l.take i).map (aw f)).map PV.str).length≤256:=by simp;omega
   generalize ((l.take i).map (aw f)).map PV.str=Q at *
   generalize aw f x=X at *
   obtain⟨xk,xn,xs,xt,xl,xf⟩:=x
   simp only[Val.pv_mk] at hx' hc
   simp(disch:=try exact dI) only[hltI,hx',push_cast,seval]
   refine ab.pure hc rfl ?_
   simp(disch:=try exact dI) only[push_cast,seval]
   exact⟨i+1,bA (by simp(disch:=try exact dI) only[hQ,push_cast,seval]),by omega,by omega⟩
  ·have hltI:¬ (i:Int)<(l.length:Int):=by omega
   obtain rfl:i=l.length:=by omega
   rw[List.take_length]
   generalize aK [44,32] (l.map (aw f))=J at *
   simp(disch:=try exact dI) only[hltI,push_cast,seval]
   refine ab.pure hjn rfl ?_
   simp(disch:=try exact dI) only[push_cast,seval]
noncomputable def fX (f:Nat)(x:Fld):List UInt8:=x.name++[58,32]++aw f x.value
theorem CQ (ih:∀ x∈fs,aq Tryz.prog aF 37 [x.value.pv] (.str (aw f x.value)))(hN:fs.length≤64)(hb:∀ x∈fs,x.name.length≤1024∧(aw f x.value).length≤100000000)(hj:(aK [44,32] (fs.map (fX f))).length≤100000000) :
  aq Tryz.prog aF 37 [(Val.mk 9 n s t l fs).pv] (.str (aw (f+1) (.mk 9 n s t l fs))):=by
 rw[show aw (f+1) (.mk 9 n s t l fs)=[123]++aK [44,32] (fs.map (fX f))++[125] from rfl]
 have hjn:=GO (fs.map (fX f)) (by simp;omega) hj
 refine aq.intro d9 (by simp[F37]) ?_
 simp(disch:=try exact dI) only[F37,Val.pv_mk,push_cast,seval]
 refine aQ ([(3,0,9,1)]) (fun i:Nat=>[(3,.olist 0 1 (((fs.take i).map (fX f)).map PV.str)),(97,.pv (.int .i64 (i:Int)))]) (fun _=>[]) (fun i=>i≤fs.length) (fun i=>fs.length - i) (0) ?_;intro e0 σ0 n0 h0;simp(disch:=try exact dI) only[push_cast,seval] at h0;obtain⟨rfl,rfl,rfl⟩:=h0;refine⟨?_,?_,?_⟩
 ·simp(disch:=try exact dI) only[push_cast,seval]
  try done
 ·omega
 ·rintro i hi
  by_cases hlt:i<fs.length
  ·have hltI:(i:Int)<(fs.length:Int):=by omega
   obtain⟨x,hx⟩:∃ x,fs[i]? = some x:=⟨_,List.getElem?_eq_getElem hlt⟩
   have hx':(fs.map Fld.pv)[i]? = some x.pv:=by simp[hx]
   have hc:=ih x (List.mem_of_getElem? hx)
   obtain⟨b1,b2⟩:=hb x (List.mem_of_getElem? hx)
   have hts:=aR hx
   have hQ:(((fs.take (i+1)).map (fX f)).map PV.str)=((fs.take i).map (fX f)).map PV.str++[.str (x.name++[58,32]++aw f x.value)]:=by rw[hts];simp[fX]
   have hl:(((fs.take i).map (fX f)).map PV.str).length≤64:=by simp;omega
   generalize ((fs.take i).map (fX f)).map PV.str=Q at *
   obtain⟨nm,x⟩:=x
   simp only[Fld.value,Fld.name] at hc b1 b2 hQ
   generalize aw f x=X at *
   obtain⟨xk,xn,xs,xt,xl,xf⟩:=x
   simp only[Fld.pv_mk,Val.pv_mk] at hx' hc
   simp(disch:=try exact dI) only[hltI,hx',push_cast,seval]
   refine ae hc rfl ?_
   simp(disch:=try exact dI) only[push_cast,seval]
   exact⟨i+1,bA (by simp(disch:=try exact dI) only[hQ,List.append_assoc,push_cast,seval]),by omega,by omega⟩
  ·have hltI:¬ (i:Int)<(fs.length:Int):=by omega
   obtain rfl:i=fs.length:=by omega
   rw[List.take_length]
   generalize aK [44,32] (fs.map (fX f))=J at *
   simp(disch:=try exact dI) only[hltI,push_cast,seval]
   refine ab.pure hjn rfl ?_
   simp(disch:=try exact dI) only[push_cast,seval]
theorem xK (x:Val)(ih:aq Tryz.prog aF 37 [x.pv] (.str (aw f x)))(h1:t.length≤1024)(h2:(aw f x).length≤100000000) :
  aq Tryz.prog aF 37 [(Val.mk 10 n s t [x] fs).pv] (.str (aw (f+1) (.mk 10 n s t [x] fs))):=by
 rw[show aw (f+1) (.mk 10 n s t [x] fs)=t++[40]++aw f x++[41] from rfl]
 generalize aw f x=X at *
 obtain⟨xk,xn,xs,xt,xl,xf⟩:=x
 simp only[Val.pv_mk] at ih
 refine aq.intro d9 (by simp[F37]) ?_
 simp(disch:=try exact dI) only[F37,Val.pv_mk,List.map_cons,List.map_nil,aG,push_cast,seval]
 refine ae ih rfl ?_
 simp(disch:=try exact dI) only[List.append_assoc,push_cast,seval]
end
end Go.Proofs.YtamoeblcphjbaaaGreatDoor

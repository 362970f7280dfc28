/- A part of the proof for LiteralDiffersCardSaid. -/
import Derived.Test.YtamoeblcphjbaaaGreatDoorDiLC18
set_option maxRecDepth 100000
set_option linter.unusedVariables false
set_option linter.unusedSimpArgs false
-- many steps
namespace Go.Proofs.YtamoeblcphjbaaaGreatDoor
open Go Go.Ab
attribute [local irreducible] vc
section
variable (f:Nat)(n s:Int)(t:List UInt8)(l:List Val)(fs:List Fld)
theorem xF:aq Tryz.prog aC 17 [(Val.mk 0 n s t l fs).pv] (.str (am (f+1) (.mk 0 n s t l fs))):=by
 rw[show am (f+1) (.mk 0 n s t l fs)=[110,117,108,108] from rfl]
 refine aq.intro dn (by simp[F17]) ?_
 simp(disch:=try exact dI) only[F17,Val.pv_mk,push_cast,seval]
theorem xE:aq Tryz.prog aC 17 [(Val.mk 1 n s t l fs).pv] (.str (am (f+1) (.mk 1 n s t l fs))):=by
 rw[show am (f+1) (.mk 1 n s t l fs)=(if n=1 then [116,114,117,101] else [102,97,108,115,101]) from rfl]
 refine aq.intro dn (by simp[F17]) ?_
 by_cases h:n=1
 ·rw[if_pos h]
  simp(disch:=try exact dI) only[F17,Val.pv_mk,h,push_cast,seval]
 ·rw[if_neg h]
  simp(disch:=try exact dI) only[F17,Val.pv_mk,h,push_cast,seval]
theorem xD (h:-999999999999999≤n∧n≤999999999999999):aq Tryz.prog aC 17 [(Val.mk 2 n s t l fs).pv] (.str (am (f+1) (.mk 2 n s t l fs))):=by
 rw[show am (f+1) (.mk 2 n s t l fs)=bS n from rfl]
 have hi:=zd n h.1 h.2
 refine aq.intro dn (by simp[F17]) ?_
 simp(disch:=try exact dI) only[F17,Val.pv_mk,push_cast,seval]
 refine ab.pure hi rfl ?_
 simp(disch:=try exact dI) only[push_cast,seval]
theorem xC (h:IsN n s.toNat)(hs:0≤s):aq Tryz.prog aC 17 [(Val.mk 3 n s t l fs).pv] (.str (am (f+1) (.mk 3 n s t l fs))):=by
 rw[show am (f+1) (.mk 3 n s t l fs)=cu n s.toNat++(if s=0 then [100] else []) from rfl]
 obtain⟨m,hm⟩:∃ m:Nat,s=(m:Int):=⟨s.toNat,by omega⟩
 subst hm
 rw[Int.toNat_natCast] at h ⊢
 have h1:=AY h
 have hl:=j0 h
 generalize cu n m=D at *
 by_cases h0:m=0
 ·subst h0
  rw[if_pos (show ((0:Nat):Int)=0 from rfl)]
  refine aq.intro dn (by simp[F17]) ?_
  simp(disch:=try exact dI) only[F17,Val.pv_mk,push_cast,seval]
  refine ab.pure h1 rfl ?_
  simp(disch:=try exact dI) only[push_cast,seval]
 ·have h0I:¬ (m:Int)=0:=by omega
  rw[if_neg h0I,List.append_nil]
  refine aq.intro dn (by simp[F17]) ?_
  simp(disch:=try exact dI) only[F17,Val.pv_mk,h0I,push_cast,seval]
  refine ab.pure h1 rfl ?_
  simp(disch:=try exact dI) only[h0I,push_cast,seval]
theorem xB (h:t.length≤1024):aq Tryz.prog aC 17 [(Val.mk 4 n s t l fs).pv] (.str (am (f+1) (.mk 4 n s t l fs))):=by
 rw[show am (f+1) (.mk 4 n s t l fs)=aH t from rfl]
 have hi:=yP t (by omega)
 refine aq.intro dn (by simp[F17]) ?_
 simp(disch:=try exact dI) only[F17,Val.pv_mk,push_cast,seval]
 refine ab.pure hi rfl ?_
 simp(disch:=try exact dI) only[push_cast,seval]
theorem xA (h:t.length≤1024):aq Tryz.prog aC 17 [(Val.mk 5 n s t l fs).pv] (.str (am (f+1) (.mk 5 n s t l fs))):=by
 rw[show am (f+1) (.mk 5 n s t l fs)=ja t from rfl]
 have hi:=DJ t (by omega)
 refine aq.intro dn (by simp[F17]) ?_
 simp(disch:=try exact dI) only[F17,Val.pv_mk,push_cast,seval]
 refine ab.pure hi rfl ?_
 simp(disch:=try exact dI) only[push_cast,seval]
theorem xz (h:-719162≤n∧n≤2932896):aq Tryz.prog aC 17 [(Val.mk 6 n s t l fs).pv] (.str (am (f+1) (.mk 6 n s t l fs))):=by
 rw[show am (f+1) (.mk 6 n s t l fs)=[100,97,116,101,32]++aH (mj n) from rfl]
 obtain⟨h1,h2,h3⟩:=nu h
 rw[gM h2]
 generalize mj n=Q at *
 refine aq.intro dn (by simp[F17]) ?_
 simp(disch:=try exact dI) only[F17,Val.pv_mk,push_cast,seval]
 refine ab.pure h1 rfl ?_
 simp(disch:=try exact dI) only[List.append_assoc,push_cast,seval]
theorem xy (h:-62135596800000≤n∧n≤253402300799999):aq Tryz.prog aC 17 [(Val.mk 7 n s t l fs).pv] (.str (am (f+1) (.mk 7 n s t l fs))):=by
 rw[show am (f+1) (.mk 7 n s t l fs)=[116,105,109,101,32]++aH (dZ n) from rfl]
 obtain⟨h1,h2,h3⟩:=jx h
 rw[gM h2]
 generalize dZ n=Q at *
 refine aq.intro dn (by simp[F17]) ?_
 simp(disch:=try exact dI) only[F17,Val.pv_mk,push_cast,seval]
 refine ab.pure h1 rfl ?_
 simp(disch:=try exact dI) only[List.append_assoc,push_cast,seval]
theorem sq (x:Val)(ih:aq Tryz.prog aC 17 [x.pv] (.str (am f x)))(h1:t.length≤1024)(h2:(am f x).length≤100000000) :
  aq Tryz.prog aC 17 [(Val.mk 10 n s t [x] fs).pv] (.str (am (f+1) (.mk 10 n s t [x] fs))):=by
 rw[show am (f+1) (.mk 10 n s t [x] fs)=t++[40]++am f x++[41] from rfl]
 generalize am f x=X at *
 obtain⟨xk,xn,xs,xt,xl,xf⟩:=x
 simp only[Val.pv_mk] at ih
 refine aq.intro dn (by simp[F17]) ?_
 simp(disch:=try exact dI) only[F17,Val.pv_mk,List.map_cons,List.map_nil,dO,push_cast,seval]
 refine aM ih rfl ?_
 simp(disch:=try exact dI) only[List.append_assoc,push_cast,seval]
end
end Go.Proofs.YtamoeblcphjbaaaGreatDoor
-- many steps
namespace Go.Proofs.YtamoeblcphjbaaaGreatDoor
open Go Go.Ab
attribute [local irreducible] vc
theorem i8 (sep:List UInt8)(y:List UInt8):∀ (x:List UInt8) (l:List (List UInt8)),aE sep (x::(l++[y]))=aE sep (x::l)++(sep++y)
 | x,[]=>by simp[aE]
 | x,z::r=>by
   have ih:=i8 sep y z r
   simp only[List.cons_append,aE] at ih ⊢
   rw[ih];simp
theorem lF {L:List (List UInt8)}(sep y:List UInt8)(h:L≠[]):aE sep (L++[y])=aE sep L++(sep++y):=by
 cases L with
 | nil=>exact absurd rfl h
 | cons x r=>exact i8 sep y x r
section
variable (f:Nat)(n s:Int)(t:List UInt8)(l:List Val)(fs:List Fld)
theorem xx (ih:∀ x∈l,aq Tryz.prog aC 17 [x.pv] (.str (am f x)))(hN:l.length≤256)(hj:∀ i,(aE [44,32] ((l.take i).map (am f))).length≤100000000)(hb:∀ x∈l,(am f x).length≤100000000) :
  aq Tryz.prog aC 17 [(Val.mk 8 n s t l fs).pv] (.str (am (f+1) (.mk 8 n s t l fs))):=by
 rw[show am (f+1) (.mk 8 n s t l fs)=[91]++aE [44,32] (l.map (am f))++[93] from rfl]
 refine aq.intro dn (by simp[F17]) ?_
 simp(disch:=try exact dI) only[F17,Val.pv_mk,push_cast,seval]
 refine aX ([]) (fun i:Nat=>[(9,.pv (.str ([91]++aE [44,32] ((l.take i).map (am f))))),(10,.pv (.int .i64 (i:Int)))]) (fun _=>[]) (fun i=>i≤l.length) (fun i=>l.length - i) (0) ?_;intro e0 σ0 n0 h0;simp(disch:=try exact dI) only[push_cast,seval] at h0;obtain⟨rfl,rfl,rfl⟩:=h0;refine⟨?_,?_,?_⟩
 ·simp(disch:=try exact dI) only[push_cast,seval]
  try exact .refl _
 ·omega
 ·rintro i hi
  have hji:=hj i
  by_cases hlt:i<l.length
  ·have hltI:(i:Int)<(l.length:Int):=by omega
   obtain⟨x,hx⟩:∃ x,l[i]? = some x:=⟨_,List.getElem?_eq_getElem hlt⟩
   have hx':(l.map Val.pv)[i]? = some x.pv:=by simp[hx]
   have hc:=ih x (List.mem_of_getElem? hx)
   have hbx:=hb x (List.mem_of_getElem? hx)
   have hts:(l.take (i+1)).map (am f)=(l.take i).map (am f)++[am f x]:=by rw[aQ hx];simp
   by_cases h0:i=0
   ·subst h0
    have hQ:aE [44,32] ((l.take (0+1)).map (am f))=am f x:=by rw[hts];rfl
    generalize am f x=X at *
    obtain⟨xk,xn,xs,xt,xl,xf⟩:=x
    simp only[Val.pv_mk] at hx' hc
    have hl0:(0:Int)<(l.length:Int):=by omega
    have hj0:aE [44,32] ([]:List (List UInt8))=[]:=rfl
    simp(disch:=try exact dI) only[hltI,hl0,hx',dO,List.take_zero,List.map_nil,hj0,push_cast,seval]
    refine ab.pure hc rfl ?_
    simp(disch:=try exact dI) only[push_cast,seval]
    exact⟨1,bX (by simp(disch:=try exact dI) only[hQ,push_cast,seval]),by omega,by omega⟩
   ·have h0I:(0:Int)<(i:Int):=by omega
    have hne:(l.take i).map (am f)≠[]:=by
     intro h
     have:=congrArg List.length h
     rw[List.length_map,List.length_take,List.length_nil] at this;omega
    have hQ:aE [44,32] ((l.take (i+1)).map (am f))=aE [44,32] ((l.take i).map (am f))++([44,32]++am f x):=by rw[hts,lF _ _ hne]
    generalize am f x=X at *
    generalize aE [44,32] ((l.take i).map (am f))=J at *
    obtain⟨xk,xn,xs,xt,xl,xf⟩:=x
    simp only[Val.pv_mk] at hx' hc
    simp(disch:=try exact dI) only[hltI,h0I,hx',push_cast,seval]
    refine ab.pure hc rfl ?_
    simp(disch:=try exact dI) only[push_cast,seval]
    exact⟨i+1,bX (by simp(disch:=try exact dI) only[hQ,List.append_assoc,push_cast,seval]),by omega,by omega⟩
  ·have hltI:¬ (i:Int)<(l.length:Int):=by omega
   obtain rfl:i=l.length:=by omega
   rw[List.take_length] at *
   generalize aE [44,32] (l.map (am f))=J at *
   simp(disch:=try exact dI) only[hltI,push_cast,seval]
end
end Go.Proofs.YtamoeblcphjbaaaGreatDoor
-- many steps
namespace Go.Proofs.YtamoeblcphjbaaaGreatDoor
open Go Go.Ab
attribute [local irreducible] vc
section
variable (f:Nat)(n s:Int)(t:List UInt8)(l:List Val)(fs:List Fld)
theorem xw (ih:∀ x∈fs,aq Tryz.prog aC 17 [x.value.pv] (.str (am f x.value)))(hN:fs.length≤64)(hj:∀ i,(aE [44,32] ((fs.take i).map (eA f))).length≤100000000)(hb:∀ x∈fs,x.name.length≤1024∧(am f x.value).length≤100000000) :
  aq Tryz.prog aC 17 [(Val.mk 9 n s t l fs).pv] (.str (am (f+1) (.mk 9 n s t l fs))):=by
 rw[show am (f+1) (.mk 9 n s t l fs)=[123]++aE [44,32] (fs.map (eA f))++[125] from rfl]
 refine aq.intro dn (by simp[F17]) ?_
 simp(disch:=try exact dI) only[F17,Val.pv_mk,push_cast,seval]
 refine aX ([]) (fun i:Nat=>[(11,.pv (.str ([123]++aE [44,32] ((fs.take i).map (eA f))))),(12,.pv (.int .i64 (i:Int)))]) (fun _=>[]) (fun i=>i≤fs.length) (fun i=>fs.length - i) (0) ?_;intro e0 σ0 n0 h0;simp(disch:=try exact dI) only[push_cast,seval] at h0;obtain⟨rfl,rfl,rfl⟩:=h0;refine⟨?_,?_,?_⟩
 ·simp(disch:=try exact dI) only[push_cast,seval]
  try exact .refl _
 ·omega
 ·rintro i hi
  have hji:=hj i
  by_cases hlt:i<fs.length
  ·have hltI:(i:Int)<(fs.length:Int):=by omega
   obtain⟨x,hx⟩:∃ x,fs[i]? = some x:=⟨_,List.getElem?_eq_getElem hlt⟩
   have hx':(fs.map Fld.pv)[i]? = some x.pv:=by simp[hx]
   have hc:=ih x (List.mem_of_getElem? hx)
   obtain⟨b1,b2⟩:=hb x (List.mem_of_getElem? hx)
   have hts:(fs.take (i+1)).map (eA f)=(fs.take i).map (eA f)++[x.name++[58,32]++am f x.value]:=by rw[aQ hx];simp[eA]
   by_cases h0:i=0
   ·subst h0
    have hQ:aE [44,32] ((fs.take (0+1)).map (eA f))=x.name++[58,32]++am f x.value:=by rw[hts];rfl
    obtain⟨nm,x⟩:=x
    simp only[Fld.value,Fld.name] at hc b1 b2 hQ
    generalize am f x=X at *
    obtain⟨xk,xn,xs,xt,xl,xf⟩:=x
    simp only[Fld.pv_mk,Val.pv_mk] at hx' hc
    have hl0:(0:Int)<(fs.length:Int):=by omega
    have hj0:aE [44,32] ([]:List (List UInt8))=[]:=rfl
    simp(disch:=try exact dI) only[hltI,hl0,hx',dO,List.take_zero,List.map_nil,hj0,push_cast,seval]
    refine aM hc rfl ?_
    simp(disch:=try exact dI) only[push_cast,seval]
    exact⟨1,bX (by simp(disch:=try exact dI) only[hQ,List.append_assoc,push_cast,seval]),by omega,by omega⟩
   ·have h0I:(0:Int)<(i:Int):=by omega
    have hne:(fs.take i).map (eA f)≠[]:=by
     intro h
     have:=congrArg List.length h
     rw[List.length_map,List.length_take,List.length_nil] at this;omega
    have hQ:aE [44,32] ((fs.take (i+1)).map (eA f))=aE [44,32] ((fs.take i).map (eA f))++([44,32]++(x.name++[58,32]++am f x.value)):=by rw[hts,lF _ _ hne]
    obtain⟨nm,x⟩:=x
    simp only[Fld.value,Fld.name] at hc b1 b2 hQ
    generalize am f x=X at *
    generalize aE [44,32] ((fs.take i).map (eA f))=J at *
    obtain⟨xk,xn,xs,xt,xl,xf⟩:=x
    simp only[Fld.pv_mk,Val.pv_mk] at hx' hc
    simp(disch:=try exact dI) only[hltI,h0I,hx',push_cast,seval]
    refine aM hc rfl ?_
    simp(disch:=try exact dI) only[push_cast,seval]
    exact⟨i+1,bX (by simp(disch:=try exact dI) only[hQ,List.append_assoc,push_cast,seval]),by omega,by omega⟩
  ·have hltI:¬ (i:Int)<(fs.length:Int):=by omega
   obtain rfl:i=fs.length:=by omega
   rw[List.take_length] at *
   generalize aE [44,32] (fs.map (eA f))=J at *
   simp(disch:=try exact dI) only[hltI,push_cast,seval]
end
end Go.Proofs.YtamoeblcphjbaaaGreatDoor
namespace Go.Proofs.YtamoeblcphjbaaaGreatDoor
open Go Go.Ab Go.RowKit
theorem j2:∀ (L:List (Int×Val)) (i:Nat),jm i L=0→∀ (j:Nat) (q:Int×Val),L[j]? = some q→bl (i+j) q=0
 | [],_,_,j,q,h=>by simp at h
 | p::r,i,h,0,q,hq=>by
   simp only[List.getElem?_cons_zero,Option.some.injEq] at hq
   subst hq
   unfold jm at h
   split at h
   ·rename_i hs;exact hs
   ·exact absurd h ‹_›
 | p::r,i,h,j+1,q,hq=>by
   unfold jm at h
   split at h
   ·have:=j2 r (i+1) h j q (by simpa using hq)
    rwa [show i+1+j=i+(j+1) by omega] at this
   ·exact absurd h ‹_›
def Ad (x:Val):Prop:=1≤x.kind∧x.kind≤10∧az x=true∧aT x=0
theorem gy {i:Nat}{q:Int×Val}(h:bl i q=0):i<4096∧Ad q.2:=by
 by_cases c1:4096≤i
 ·rw[sJ c1] at h;omega
 by_cases c2:8<q.1
 ·rw[mw c1 c2] at h;omega
 cases c3:bx q.2 with
 | true=>rw[sI c1 c2 c3] at h;omega
 | false=>
   by_cases c4:q.2.kind<1∨10<q.2.kind
   ·rw[sH c1 c2 c3 c4] at h;omega
   cases c5:az q.2 with
   | false=>rw[sG c1 c2 c3 c4 c5] at h;omega
   | true=>
     rw[sF c1 c2 c3 c4 c5] at h
     exact⟨by omega,by omega,by omega,c5,h⟩
def Ew (n:Nat)(lv:Int)(v:Val):Prop:=∀ q∈aV n lv v,Ad q.2
theorem DM {n:Nat}{lv:Int}{v:Val}(h:jm 0 (aV n lv v)=0):Ew n lv v∧(aV n lv v).length≤4096:=by
 refine⟨fun q hq=>?_,?_⟩
 ·obtain⟨j,hj⟩:=List.getElem?_of_mem hq
  exact (gy (j2 _ 0 h j q hj)).2
 ·cases hL:(aV n lv v).length with
  | zero=>omega
  | succ k=>
    have hk:(aV n lv v)[k]? = some (aV n lv v)[k]:=List.getElem?_eq_getElem (by omega)
    have:=(gy (j2 _ 0 h k _ hk)).1
    omega
theorem dE {n:Nat}{lv:Int}{v x:Val}(h:Ew (n+1) lv v)(hx:x∈aR v):Ew n (wrap64 (lv+1)) x:=fun q hq=>by
 refine h q ?_
 rw[aV]
 exact List.mem_cons_of_mem _ (List.mem_flatMap.2 ⟨x,hx,hq⟩)
theorem hH {n:Nat}{lv:Int}{v:Val}(h:Ew (n+1) lv v):Ad v:=h (lv,v) (by rw[aV];exact List.mem_cons_self)
theorem lg:∀ (L:List (List UInt8)) (p:Option (List UInt8)),ct p L=0→∀ s∈L,bj s=true
 | [],_,_,s,hs=>by simp at hs
 | a::r,p,h,s,hs=>by
   unfold ct at h
   split at h
   ·omega
   ·rename_i ha
    split at h
    ·omega
    split at h
    ·omega
    rcases List.mem_cons.1 hs with rfl | hs
    ·simpa using ha
    ·exact lg r _ h s hs
theorem lk {s:List UInt8}(h:bj s=true):s.length≤32:=by
 unfold bj at h
 simp only[Bool.and_eq_true,decide_eq_true_eq] at h
 exact h.2.1
end Go.Proofs.YtamoeblcphjbaaaGreatDoor
namespace Go.Proofs.YtamoeblcphjbaaaGreatDoor
open Go Go.Ab Go.RowKit
theorem da {α β:Type}(g:α→List UInt8)(h:α→List β):∀ l:List α,(∀ x∈l,(g x).length+40≤8000*(h x).length)→(aE [44,32] (l.map g)).length≤8000*(l.flatMap h).length
 | [],_=>by simp[aE]
 | [x],hx=>by
   have:=hx x (by simp)
   simp only[List.map_cons,List.map_nil,aE,List.flatMap_cons,List.flatMap_nil,List.append_nil]
   omega
 | x::y::r,hx=>by
   have h1:=hx x (by simp)
   have h2:=da g h (y::r) fun z hz=>hx z (List.mem_cons_of_mem _ hz)
   rw[List.flatMap_cons,List.length_append]
   simp only[List.map_cons,aE,List.length_append] at h2 ⊢
   simp only[List.length_cons,List.length_nil] at h2 ⊢
   omega
theorem z8 (s:List UInt8):(ja s).length=2*s.length+3:=by
 rw[ja,List.length_cons,List.length_cons,List.length_append,dF];rfl
theorem EQ {n a b:Int}(h:ew n a b=0):a≤n∧n≤b:=by
 unfold ew at h;split at h<;>omega
theorem F5 {n m e:Int}(he:e≠0)(h:dp n m e=0):n≤m:=by
 unfold dp at h;split at h
 ·exact absurd h he
 ·omega
theorem sY {n s:Int}{t:List UInt8}{l:List Val}{fs:List Fld}(h:aT (.mk 2 n s t l fs)=0):-999999999999999≤n∧n≤999999999999999:=EQ h
theorem iT {n s:Int}{t:List UInt8}{l:List Val}{fs:List Fld}(h:aT (.mk 3 n s t l fs)=0):IsN n s.toNat∧0≤s:=by
 rw[show aT (.mk 3 n s t l fs)=(if ew n (-999999999999999) 999999999999999=0 then ew s 0 12 else ew n (-999999999999999) 999999999999999) from rfl] at h
 split at h
 ·rename_i h0
  have h1:=EQ h0
  have h2:=EQ h
  exact⟨⟨h1.1,h1.2,by omega⟩,h2.1⟩
 ·exact absurd h ‹_›
theorem sX {n s:Int}{t:List UInt8}{l:List Val}{fs:List Fld}(h:aT (.mk 4 n s t l fs)=0):t.length≤1024:=by
 rw[show aT (.mk 4 n s t l fs)=(if dp t.length 1024 5=0 then (if Lib.validD t=true then 0 else 16) else dp t.length 1024 5) from rfl] at h
 split at h
 ·rename_i h0
  have:=F5 (by omega) h0;omega
 ·exact absurd h ‹_›
theorem sV {n s:Int}{t:List UInt8}{l:List Val}{fs:List Fld}(h:aT (.mk 5 n s t l fs)=0):t.length≤1024:=by
 have:=F5 (n:=(t.length:Int)) (m:=1024) (e:=5) (by omega) h;omega
theorem n5 {n s:Int}{t:List UInt8}{l:List Val}{fs:List Fld}(h:aT (.mk 6 n s t l fs)=0):-719162≤n∧n≤2932896:=EQ h
theorem n3 {n s:Int}{t:List UInt8}{l:List Val}{fs:List Fld}(h:aT (.mk 7 n s t l fs)=0):-62135596800000≤n∧n≤253402300799999:=EQ h
theorem A9 {n s:Int}{t:List UInt8}{l:List Val}{fs:List Fld}(h:aT (.mk 8 n s t l fs)=0):l.length≤256:=by
 have:=F5 (n:=(l.length:Int)) (m:=256) (e:=9) (by omega) h;omega
theorem sU {n s:Int}{t:List UInt8}{l:List Val}{fs:List Fld}(h:aT (.mk 9 n s t l fs)=0):fs.length≤64∧∀ x∈fs,x.name.length≤32:=by
 rw[show aT (.mk 9 n s t l fs)=(if dp fs.length 64 9=0 then ct none (fs.map Fld.name) else dp fs.length 64 9) from rfl] at h
 split at h
 ·rename_i h0
  have h1:=F5 (by omega) h0
  exact⟨by omega,fun x hx=>lk (lg _ _ h _ (List.mem_map.2 ⟨x,hx,rfl⟩))⟩
 ·exact absurd h ‹_›
theorem jD {n s:Int}{t:List UInt8}{l:List Val}{fs:List Fld}(h:aT (.mk 10 n s t l fs)=0):t.length≤32∧∃ x,l=[x]:=by
 rw[show aT (.mk 10 n s t l fs)=(if bj t=false then 12 else if l.length=0 then 4 else dp l.length 1 3) from rfl] at h
 split at h
 ·omega
 ·rename_i h0
  split at h
  ·omega
  ·have:=F5 (n:=(l.length:Int)) (m:=1) (e:=3) (by omega) h
   exact⟨lk (by simpa using h0),List.length_eq_one_iff.1 (by omega)⟩
end Go.Proofs.YtamoeblcphjbaaaGreatDoor

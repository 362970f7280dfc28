/- A part of the proof for LiteralTextsCardSaid. -/
import Derived.Test.YtamoeblcphjbaaaGreatDoorTxLR6
set_option maxRecDepth 100000
set_option linter.unusedVariables false
set_option linter.unusedSimpArgs false
-- many steps
namespace Go.Proofs.YtamoeblcphjbaaaGreatDoor
open Go Go.Ab
attribute [local irreducible] vc
theorem BN (L:List (List UInt8))(hN:L.length≤1000000)(hl:(aK [44,32] L).length≤100000000):aw Tryz.prog aD 68 [.list (L.map .str)] (.str (aK [44,32] L)):=by
 have h:=ve L [44,32] (by omega) (by omega)
 generalize aK [44,32] L=Q at *
 refine aw.intro Hn (by simp[F68]) ?_
 simp(maxSteps:=9^7) (disch:=first|exact dI|fail) only[F68,push_cast,seval]
 refine ae.pure h rfl ?_
 simp(maxSteps:=9^7) (disch:=first|exact dI|fail) only[push_cast,seval]
section
variable (f:Nat)(n s:Int)(t:List UInt8)(l:List Val)(fs:List Fld)
theorem xD (ih:∀ x∈l,aw Tryz.prog aD 37 [x.pv] (.str (aq f x)))(hN:l.length≤256)(hj:(aK [44,32] (l.map (aq f))).length≤100000000) :
  aw Tryz.prog aD 37 [(Val.mk 8 n s t l fs).pv] (.str (aq (f+1) (.mk 8 n s t l fs))):=by
 rw[show aq (f+1) (.mk 8 n s t l fs)=[91]++aK [44,32] (l.map (aq f))++[93] from rfl]
 have hjn:=BN (l.map (aq f)) (by simp;omega) hj
 refine aw.intro cr (by simp[F37]) ?_
 simp(maxSteps:=9^7) (disch:=first|exact dI|fail) only[F37,Val.pv_mk,push_cast,seval]
 refine be ([(3,0,9,1)]) (fun i:Nat=>[(3,.olist 0 1 (((l.take i).map (aq f)).map PV.str)),(78,.pv (.int .i64 (i:Int)))]) (fun _=>[]) (fun i=>i≤l.length) (fun i=>l.length - i) (0) ?_;intro e0 σ0 n0 h0;simp(maxSteps:=9^7) (disch:=first|exact dI|fail) only[push_cast,seval] at h0;obtain⟨rfl,rfl,rfl⟩:=h0;refine⟨?_,?_,?_⟩
 ·simp(maxSteps:=9^7) (disch:=first|exact dI|fail) only[push_cast,seval]
  try done
 ·omega
 ·rintro i hi
  by_cases hlt:i<l.length
  ·have hltI:(i:Int)<(l.length:Int):=by omega
   obtain⟨x,hx⟩:∃ x,l[i]? = some x:=⟨_,List.getElem?_eq_getElem hlt⟩
   have hx':(l.map Val.pv)[i]? = some x.pv:=by simp[hx]
   have hc:=ih x (List.mem_of_getElem? hx)
   have hts:=aZ hx
   have hQ:(((l.take (i+1)).map (aq f)).map PV.str)=((l.take i).map (aq f)).map PV.str++[.str (aq f x)]:=by rw[hts];simp
   have hl:(((l.take i).map (aq f)).map PV.str).length≤256:=by simp;omega
   generalize ((l.take i).map (aq f)).map PV.str=Q at *
   generalize aq f x=X at *
   obtain⟨xk,xn,xs,xt,xl,xf⟩:=x
   simp only[Val.pv_mk] at hx' hc
   simp(maxSteps:=9^7) (disch:=first|exact dI|fail) only[hltI,hx',push_cast,seval]
   refine ae.pure hc rfl ?_
   simp(maxSteps:=9^7) (disch:=first|exact dI|fail) only[push_cast,seval]
   exact⟨i+1,bX (by simp(maxSteps:=9^7) (disch:=first|exact dI|fail) only[hQ,push_cast,seval]),by omega,by omega⟩
  ·have hltI:¬ (i:Int)<(l.length:Int):=by omega
   obtain rfl:i=l.length:=by omega
   rw[List.take_length]
   generalize aK [44,32] (l.map (aq f))=J at *
   simp(maxSteps:=9^7) (disch:=first|exact dI|fail) only[hltI,push_cast,seval]
   refine ae.pure hjn rfl ?_
   simp(maxSteps:=9^7) (disch:=first|exact dI|fail) only[push_cast,seval]
noncomputable def dV (f:Nat)(x:Fld):List UInt8:=x.name++[58,32]++aq f x.value
theorem xC (ih:∀ x∈fs,aw Tryz.prog aD 37 [x.value.pv] (.str (aq f x.value)))(hN:fs.length≤64)(hb:∀ x∈fs,x.name.length≤1024∧(aq f x.value).length≤100000000)(hj:(aK [44,32] (fs.map (dV f))).length≤100000000) :
  aw Tryz.prog aD 37 [(Val.mk 9 n s t l fs).pv] (.str (aq (f+1) (.mk 9 n s t l fs))):=by
 rw[show aq (f+1) (.mk 9 n s t l fs)=[123]++aK [44,32] (fs.map (dV f))++[125] from rfl]
 have hjn:=BN (fs.map (dV f)) (by simp;omega) hj
 refine aw.intro cr (by simp[F37]) ?_
 simp(maxSteps:=9^7) (disch:=first|exact dI|fail) only[F37,Val.pv_mk,push_cast,seval]
 refine be ([(3,0,9,1)]) (fun i:Nat=>[(3,.olist 0 1 (((fs.take i).map (dV f)).map PV.str)),(97,.pv (.int .i64 (i:Int)))]) (fun _=>[]) (fun i=>i≤fs.length) (fun i=>fs.length - i) (0) ?_;intro e0 σ0 n0 h0;simp(maxSteps:=9^7) (disch:=first|exact dI|fail) only[push_cast,seval] at h0;obtain⟨rfl,rfl,rfl⟩:=h0;refine⟨?_,?_,?_⟩
 ·simp(maxSteps:=9^7) (disch:=first|exact dI|fail) only[push_cast,seval]
  try done
 ·omega
 ·rintro i hi
  by_cases hlt:i<fs.length
  ·have hltI:(i:Int)<(fs.length:Int):=by omega
   obtain⟨x,hx⟩:∃ x,fs[i]? = some x:=⟨_,List.getElem?_eq_getElem hlt⟩
   have hx':(fs.map Fld.pv)[i]? = some x.pv:=by simp[hx]
   have hc:=ih x (List.mem_of_getElem? hx)
   obtain⟨b1,b2⟩:=hb x (List.mem_of_getElem? hx)
   have hts:=aZ hx
   have hQ:(((fs.take (i+1)).map (dV f)).map PV.str)=((fs.take i).map (dV f)).map PV.str++[.str (x.name++[58,32]++aq f x.value)]:=by rw[hts];simp[dV]
   have hl:(((fs.take i).map (dV f)).map PV.str).length≤64:=by simp;omega
   generalize ((fs.take i).map (dV f)).map PV.str=Q at *
   obtain⟨nm,x⟩:=x
   simp only[Fld.value,Fld.name] at hc b1 b2 hQ
   generalize aq f x=X at *
   obtain⟨xk,xn,xs,xt,xl,xf⟩:=x
   simp only[Fld.pv_mk,Val.pv_mk] at hx' hc
   simp(maxSteps:=9^7) (disch:=first|exact dI|fail) only[hltI,hx',push_cast,seval]
   refine bp hc rfl ?_
   simp(maxSteps:=9^7) (disch:=first|exact dI|fail) only[push_cast,seval]
   exact⟨i+1,bX (by simp(maxSteps:=9^7) (disch:=first|exact dI|fail) only[hQ,List.append_assoc,push_cast,seval]),by omega,by omega⟩
  ·have hltI:¬ (i:Int)<(fs.length:Int):=by omega
   obtain rfl:i=fs.length:=by omega
   rw[List.take_length]
   generalize aK [44,32] (fs.map (dV f))=J at *
   simp(maxSteps:=9^7) (disch:=first|exact dI|fail) only[hltI,push_cast,seval]
   refine ae.pure hjn rfl ?_
   simp(maxSteps:=9^7) (disch:=first|exact dI|fail) only[push_cast,seval]
theorem r7 (x:Val)(ih:aw Tryz.prog aD 37 [x.pv] (.str (aq f x)))(h1:t.length≤1024)(h2:(aq f x).length≤100000000) :
  aw Tryz.prog aD 37 [(Val.mk 10 n s t [x] fs).pv] (.str (aq (f+1) (.mk 10 n s t [x] fs))):=by
 rw[show aq (f+1) (.mk 10 n s t [x] fs)=t++[40]++aq f x++[41] from rfl]
 generalize aq f x=X at *
 obtain⟨xk,xn,xs,xt,xl,xf⟩:=x
 simp only[Val.pv_mk] at ih
 refine aw.intro cr (by simp[F37]) ?_
 simp(maxSteps:=9^7) (disch:=first|exact dI|fail) only[F37,Val.pv_mk,List.map_cons,List.map_nil,dv,push_cast,seval]
 refine bp ih rfl ?_
 simp(maxSteps:=9^7) (disch:=first|exact dI|fail) only[List.append_assoc,push_cast,seval]
end
end Go.Proofs.YtamoeblcphjbaaaGreatDoor
set_option maxRecDepth 100000
set_option linter.unusedVariables false
set_option linter.unusedSimpArgs false
-- many steps
namespace Go.Proofs.YtamoeblcphjbaaaGreatDoor
open Go Go.Ab
attribute [local irreducible] vc
section
variable (f:Nat)(n s:Int)(t:List UInt8)(l:List Val)(fs:List Fld)
theorem xV:aw Tryz.prog aD 17 [(Val.mk 0 n s t l fs).pv] (.str (aq (f+1) (.mk 0 n s t l fs))):=by
 rw[show aq (f+1) (.mk 0 n s t l fs)=[110,117,108,108] from rfl]
 refine aw.intro cW (by simp[F17]) ?_
 simp(maxSteps:=9^7) (disch:=first|exact dI|fail) only[F17,Val.pv_mk,push_cast,seval]
theorem xU:aw Tryz.prog aD 17 [(Val.mk 1 n s t l fs).pv] (.str (aq (f+1) (.mk 1 n s t l fs))):=by
 rw[show aq (f+1) (.mk 1 n s t l fs)=(if n=1 then [116,114,117,101] else [102,97,108,115,101]) from rfl]
 refine aw.intro cW (by simp[F17]) ?_
 by_cases h:n=1
 ·rw[if_pos h]
  simp(maxSteps:=9^7) (disch:=first|exact dI|fail) only[F17,Val.pv_mk,h,push_cast,seval]
 ·rw[if_neg h]
  simp(maxSteps:=9^7) (disch:=first|exact dI|fail) only[F17,Val.pv_mk,h,push_cast,seval]
theorem xT (h:-999999999999999≤n∧n≤999999999999999):aw Tryz.prog aD 17 [(Val.mk 2 n s t l fs).pv] (.str (aq (f+1) (.mk 2 n s t l fs))):=by
 rw[show aq (f+1) (.mk 2 n s t l fs)=bW n from rfl]
 have hi:=zn n h.1 h.2
 refine aw.intro cW (by simp[F17]) ?_
 simp(maxSteps:=9^7) (disch:=first|exact dI|fail) only[F17,Val.pv_mk,push_cast,seval]
 refine ae.pure hi rfl ?_
 simp(maxSteps:=9^7) (disch:=first|exact dI|fail) only[push_cast,seval]
theorem xS (h:IsN n s.toNat)(hs:0≤s):aw Tryz.prog aD 17 [(Val.mk 3 n s t l fs).pv] (.str (aq (f+1) (.mk 3 n s t l fs))):=by
 rw[show aq (f+1) (.mk 3 n s t l fs)=vW n s.toNat++(if s=0 then [100] else []) from rfl]
 obtain⟨m,hm⟩:∃ m:Nat,s=(m:Int):=⟨s.toNat,by omega⟩
 subst hm
 rw[Int.toNat_natCast] at h ⊢
 have h1:=Bl h
 have hl:=iZ h
 generalize vW n m=D at *
 by_cases h0:m=0
 ·subst h0
  rw[if_pos (show ((0:Nat):Int)=0 from rfl)]
  refine aw.intro cW (by simp[F17]) ?_
  simp(maxSteps:=9^7) (disch:=first|exact dI|fail) only[F17,Val.pv_mk,push_cast,seval]
  refine ae.pure h1 rfl ?_
  simp(maxSteps:=9^7) (disch:=first|exact dI|fail) only[push_cast,seval]
 ·have h0I:¬ (m:Int)=0:=by omega
  rw[if_neg h0I,List.append_nil]
  refine aw.intro cW (by simp[F17]) ?_
  simp(maxSteps:=9^7) (disch:=first|exact dI|fail) only[F17,Val.pv_mk,h0I,push_cast,seval]
  refine ae.pure h1 rfl ?_
  simp(maxSteps:=9^7) (disch:=first|exact dI|fail) only[h0I,push_cast,seval]
theorem xR (h:t.length≤1024):aw Tryz.prog aD 17 [(Val.mk 4 n s t l fs).pv] (.str (aq (f+1) (.mk 4 n s t l fs))):=by
 rw[show aq (f+1) (.mk 4 n s t l fs)=a8 t from rfl]
 have hi:=y4 t (by omega)
 refine aw.intro cW (by simp[F17]) ?_
 simp(maxSteps:=9^7) (disch:=first|exact dI|fail) only[F17,Val.pv_mk,push_cast,seval]
 refine ae.pure hi rfl ?_
 simp(maxSteps:=9^7) (disch:=first|exact dI|fail) only[push_cast,seval]
theorem xQ (h:t.length≤1024):aw Tryz.prog aD 17 [(Val.mk 5 n s t l fs).pv] (.str (aq (f+1) (.mk 5 n s t l fs))):=by
 rw[show aq (f+1) (.mk 5 n s t l fs)=rp t from rfl]
 have hi:=DV t (by omega)
 refine aw.intro cW (by simp[F17]) ?_
 simp(maxSteps:=9^7) (disch:=first|exact dI|fail) only[F17,Val.pv_mk,push_cast,seval]
 refine ae.pure hi rfl ?_
 simp(maxSteps:=9^7) (disch:=first|exact dI|fail) only[push_cast,seval]
theorem xP (h:-719162≤n∧n≤2932896):aw Tryz.prog aD 17 [(Val.mk 6 n s t l fs).pv] (.str (aq (f+1) (.mk 6 n s t l fs))):=by
 rw[show aq (f+1) (.mk 6 n s t l fs)=[100,97,116,101,32]++a8 (qG n) from rfl]
 obtain⟨h1,h2,h3⟩:=mT h
 rw[fT h2]
 generalize qG n=Q at *
 refine aw.intro cW (by simp[F17]) ?_
 simp(maxSteps:=9^7) (disch:=first|exact dI|fail) only[F17,Val.pv_mk,push_cast,seval]
 refine ae.pure h1 rfl ?_
 simp(maxSteps:=9^7) (disch:=first|exact dI|fail) only[List.append_assoc,push_cast,seval]
theorem xO (h:-62135596800000≤n∧n≤253402300799999):aw Tryz.prog aD 17 [(Val.mk 7 n s t l fs).pv] (.str (aq (f+1) (.mk 7 n s t l fs))):=by
 rw[show aq (f+1) (.mk 7 n s t l fs)=[116,105,109,101,32]++a8 (eG n) from rfl]
 obtain⟨h1,h2,h3⟩:=iz h
 rw[fT h2]
 generalize eG n=Q at *
 refine aw.intro cW (by simp[F17]) ?_
 simp(maxSteps:=9^7) (disch:=first|exact dI|fail) only[F17,Val.pv_mk,push_cast,seval]
 refine ae.pure h1 rfl ?_
 simp(maxSteps:=9^7) (disch:=first|exact dI|fail) only[List.append_assoc,push_cast,seval]
theorem r8 (x:Val)(ih:aw Tryz.prog aD 17 [x.pv] (.str (aq f x)))(h1:t.length≤1024)(h2:(aq f x).length≤100000000) :
  aw Tryz.prog aD 17 [(Val.mk 10 n s t [x] fs).pv] (.str (aq (f+1) (.mk 10 n s t [x] fs))):=by
 rw[show aq (f+1) (.mk 10 n s t [x] fs)=t++[40]++aq f x++[41] from rfl]
 generalize aq f x=X at *
 obtain⟨xk,xn,xs,xt,xl,xf⟩:=x
 simp only[Val.pv_mk] at ih
 refine aw.intro cW (by simp[F17]) ?_
 simp(maxSteps:=9^7) (disch:=first|exact dI|fail) only[F17,Val.pv_mk,List.map_cons,List.map_nil,dv,push_cast,seval]
 refine bp ih rfl ?_
 simp(maxSteps:=9^7) (disch:=first|exact dI|fail) only[List.append_assoc,push_cast,seval]
end
end Go.Proofs.YtamoeblcphjbaaaGreatDoor
set_option maxRecDepth 100000
set_option linter.unusedVariables false
set_option linter.unusedSimpArgs false
-- many steps
namespace Go.Proofs.YtamoeblcphjbaaaGreatDoor
open Go Go.Ab
attribute [local irreducible] vc
theorem g9 (sep:List UInt8)(y:List UInt8):∀ (x:List UInt8) (l:List (List UInt8)),aK sep (x::(l++[y]))=aK sep (x::l)++(sep++y)
 | x,[]=>by simp[aK]
 | x,z::r=>by
   have ih:=g9 sep y z r
   simp only[List.cons_append,aK] at ih ⊢
   rw[ih];simp
theorem km {L:List (List UInt8)}(sep y:List UInt8)(h:L≠[]):aK sep (L++[y])=aK sep L++(sep++y):=by
 cases L with
 | nil=>exact absurd rfl h
 | cons x r=>exact g9 sep y x r
section
variable (f:Nat)(n s:Int)(t:List UInt8)(l:List Val)(fs:List Fld)
theorem xN (ih:∀ x∈l,aw Tryz.prog aD 17 [x.pv] (.str (aq f x)))(hN:l.length≤256)(hj:∀ i,(aK [44,32] ((l.take i).map (aq f))).length≤100000000)(hb:∀ x∈l,(aq f x).length≤100000000) :
  aw Tryz.prog aD 17 [(Val.mk 8 n s t l fs).pv] (.str (aq (f+1) (.mk 8 n s t l fs))):=by
 rw[show aq (f+1) (.mk 8 n s t l fs)=[91]++aK [44,32] (l.map (aq f))++[93] from rfl]
 refine aw.intro cW (by simp[F17]) ?_
 simp(maxSteps:=9^7) (disch:=first|exact dI|fail) only[F17,Val.pv_mk,push_cast,seval]
 refine be ([]) (fun i:Nat=>[(9,.pv (.str ([91]++aK [44,32] ((l.take i).map (aq f))))),(10,.pv (.int .i64 (i:Int)))]) (fun _=>[]) (fun i=>i≤l.length) (fun i=>l.length - i) (0) ?_;intro e0 σ0 n0 h0;simp(maxSteps:=9^7) (disch:=first|exact dI|fail) only[push_cast,seval] at h0;obtain⟨rfl,rfl,rfl⟩:=h0;refine⟨?_,?_,?_⟩
 ·simp(maxSteps:=9^7) (disch:=first|exact dI|fail) only[push_cast,seval]
  try exact .refl _
 ·omega
 ·rintro i hi
  have hji:=hj i
  by_cases hlt:i<l.length
  ·have hltI:(i:Int)<(l.length:Int):=by omega
   obtain⟨x,hx⟩:∃ x,l[i]? = some x:=⟨_,List.getElem?_eq_getElem hlt⟩
   have hx':(l.map Val.pv)[i]? = some x.pv:=by simp[hx]
   have hc:=ih x (List.mem_of_getElem? hx)
   have hbx:=hb x (List.mem_of_getElem? hx)
   have hts:(l.take (i+1)).map (aq f)=(l.take i).map (aq f)++[aq f x]:=by rw[aZ hx];simp
   by_cases h0:i=0
   ·subst h0
    have hQ:aK [44,32] ((l.take (0+1)).map (aq f))=aq f x:=by rw[hts];rfl
    generalize aq f x=X at *
    obtain⟨xk,xn,xs,xt,xl,xf⟩:=x
    simp only[Val.pv_mk] at hx' hc
    have hl0:(0:Int)<(l.length:Int):=by omega
    have hj0:aK [44,32] ([]:List (List UInt8))=[]:=rfl
    simp(maxSteps:=9^7) (disch:=first|exact dI|fail) only[hltI,hl0,hx',dv,List.take_zero,List.map_nil,hj0,push_cast,seval]
    refine ae.pure hc rfl ?_
    simp(maxSteps:=9^7) (disch:=first|exact dI|fail) only[push_cast,seval]
    exact⟨1,bX (by simp(maxSteps:=9^7) (disch:=first|exact dI|fail) only[hQ,push_cast,seval]),by omega,by omega⟩
   ·have h0I:(0:Int)<(i:Int):=by omega
    have hne:(l.take i).map (aq f)≠[]:=by
     intro h
     have:=congrArg List.length h
     rw[List.length_map,List.length_take,List.length_nil] at this;omega
    have hQ:aK [44,32] ((l.take (i+1)).map (aq f))=aK [44,32] ((l.take i).map (aq f))++([44,32]++aq f x):=by rw[hts,km _ _ hne]
    generalize aq f x=X at *
    generalize aK [44,32] ((l.take i).map (aq f))=J at *
    obtain⟨xk,xn,xs,xt,xl,xf⟩:=x
    simp only[Val.pv_mk] at hx' hc
    simp(maxSteps:=9^7) (disch:=first|exact dI|fail) only[hltI,h0I,hx',push_cast,seval]
    refine ae.pure hc rfl ?_
    simp(maxSteps:=9^7) (disch:=first|exact dI|fail) only[push_cast,seval]
    exact⟨i+1,bX (by simp(maxSteps:=9^7) (disch:=first|exact dI|fail) only[hQ,List.append_assoc,push_cast,seval]),by omega,by omega⟩
  ·have hltI:¬ (i:Int)<(l.length:Int):=by omega
   obtain rfl:i=l.length:=by omega
   rw[List.take_length] at *
   generalize aK [44,32] (l.map (aq f))=J at *
   simp(maxSteps:=9^7) (disch:=first|exact dI|fail) only[hltI,push_cast,seval]
end
end Go.Proofs.YtamoeblcphjbaaaGreatDoor
set_option maxRecDepth 100000
set_option linter.unusedVariables false
set_option linter.unusedSimpArgs false
-- many steps
namespace Go.Proofs.YtamoeblcphjbaaaGreatDoor
open Go Go.Ab
attribute [local irreducible] vc
section
variable (f:Nat)(n s:Int)(t:List UInt8)(l:List Val)(fs:List Fld)
theorem xM (ih:∀ x∈fs,aw Tryz.prog aD 17 [x.value.pv] (.str (aq f x.value)))(hN:fs.length≤64)(hj:∀ i,(aK [44,32] ((fs.take i).map (dV f))).length≤100000000)(hb:∀ x∈fs,x.name.length≤1024∧(aq f x.value).length≤100000000) :
  aw Tryz.prog aD 17 [(Val.mk 9 n s t l fs).pv] (.str (aq (f+1) (.mk 9 n s t l fs))):=by
 rw[show aq (f+1) (.mk 9 n s t l fs)=[123]++aK [44,32] (fs.map (dV f))++[125] from rfl]
 refine aw.intro cW (by simp[F17]) ?_
 simp(maxSteps:=9^7) (disch:=first|exact dI|fail) only[F17,Val.pv_mk,push_cast,seval]
 refine be ([]) (fun i:Nat=>[(11,.pv (.str ([123]++aK [44,32] ((fs.take i).map (dV f))))),(12,.pv (.int .i64 (i:Int)))]) (fun _=>[]) (fun i=>i≤fs.length) (fun i=>fs.length - i) (0) ?_;intro e0 σ0 n0 h0;simp(maxSteps:=9^7) (disch:=first|exact dI|fail) only[push_cast,seval] at h0;obtain⟨rfl,rfl,rfl⟩:=h0;refine⟨?_,?_,?_⟩
 ·simp(maxSteps:=9^7) (disch:=first|exact dI|fail) only[push_cast,seval]
  try exact .refl _
 ·omega
 ·rintro i hi
  have hji:=hj i
  by_cases hlt:i<fs.length
  ·have hltI:(i:Int)<(fs.length:Int):=by omega
   obtain⟨x,hx⟩:∃ x,fs[i]? = some x:=⟨_,List.getElem?_eq_getElem hlt⟩
   have hx':(fs.map Fld.pv)[i]? = some x.pv:=by simp[hx]
   have hc:=ih x (List.mem_of_getElem? hx)
   obtain⟨b1,b2⟩:=hb x (List.mem_of_getElem? hx)
   have hts:(fs.take (i+1)).map (dV f)=(fs.take i).map (dV f)++[x.name++[58,32]++aq f x.value]:=by rw[aZ hx];simp[dV]
   by_cases h0:i=0
   ·subst h0
    have hQ:aK [44,32] ((fs.take (0+1)).map (dV f))=x.name++[58,32]++aq f x.value:=by rw[hts];rfl
    obtain⟨nm,x⟩:=x
    simp only[Fld.value,Fld.name] at hc b1 b2 hQ
    generalize aq f x=X at *
    obtain⟨xk,xn,xs,xt,xl,xf⟩:=x
    simp only[Fld.pv_mk,Val.pv_mk] at hx' hc
    have hl0:(0:Int)<(fs.length:Int):=by omega
    have hj0:aK [44,32] ([]:List (List UInt8))=[]:=rfl
    simp(maxSteps:=9^7) (disch:=first|exact dI|fail) only[hltI,hl0,hx',dv,List.take_zero,List.map_nil,hj0,push_cast,seval]
    refine bp hc rfl ?_
    simp(maxSteps:=9^7) (disch:=first|exact dI|fail) only[push_cast,seval]
    exact⟨1,bX (by simp(maxSteps:=9^7) (disch:=first|exact dI|fail) only[hQ,List.append_assoc,push_cast,seval]),by omega,by omega⟩
   ·have h0I:(0:Int)<(i:Int):=by omega
    have hne:(fs.take i).map (dV f)≠[]:=by
     intro h
     have:=congrArg List.length h
     rw[List.length_map,List.length_take,List.length_nil] at this;omega
    have hQ:aK [44,32] ((fs.take (i+1)).map (dV f))=aK [44,32] ((fs.take i).map (dV f))++([44,32]++(x.name++[58,32]++aq f x.value)):=by rw[hts,km _ _ hne]
    obtain⟨nm,x⟩:=x
    simp only[Fld.value,Fld.name] at hc b1 b2 hQ
    generalize aq f x=X at *
    generalize aK [44,32] ((fs.take i).map (dV f))=J at *
    obtain⟨xk,xn,xs,xt,xl,xf⟩:=x
    simp only[Fld.pv_mk,Val.pv_mk] at hx' hc
    simp(maxSteps:=9^7) (disch:=first|exact dI|fail) only[hltI,h0I,hx',push_cast,seval]
    refine bp hc rfl ?_
    simp(maxSteps:=9^7) (disch:=first|exact dI|fail) only[push_cast,seval]
    exact⟨i+1,bX (by simp(maxSteps:=9^7) (disch:=first|exact dI|fail) only[hQ,List.append_assoc,push_cast,seval]),by omega,by omega⟩
  ·have hltI:¬ (i:Int)<(fs.length:Int):=by omega
   obtain rfl:i=fs.length:=by omega
   rw[List.take_length] at *
   generalize aK [44,32] (fs.map (dV f))=J at *
   simp(maxSteps:=9^7) (disch:=first|exact dI|fail) only[hltI,push_cast,seval]
end
end Go.Proofs.YtamoeblcphjbaaaGreatDoor

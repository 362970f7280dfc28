/- A part of the proof for LiteralFieldsCardSaid. -/
import Derived.Test.YtamoeblcphjbaaaGreatDoorFlLC18
set_option maxRecDepth 100000
set_option linter.unusedVariables false
set_option linter.unusedSimpArgs false
-- many steps
namespace Go.Proofs.YtamoeblcphjbaaaGreatDoor
open Go Go.Ab
attribute [local irreducible] vc
section
variable (f:Nat)(n s:Int)(t:List UInt8)(l:List Val)(fs:List Fld)
theorem Ef:aq Tryz.prog aF 17 [(Val.mk 0 n s t l fs).pv] (.str (au (f+1) (.mk 0 n s t l fs))):=by
 rw[show au (f+1) (.mk 0 n s t l fs)=[110,117,108,108] from rfl]
 refine aq.intro eR (by simp[F17]) ?_
 simp(disch:=try exact dI) only[F17,Val.pv_mk,push_cast,seval]
theorem Ee:aq Tryz.prog aF 17 [(Val.mk 1 n s t l fs).pv] (.str (au (f+1) (.mk 1 n s t l fs))):=by
 rw[show au (f+1) (.mk 1 n s t l fs)=(if n=1 then [116,114,117,101] else [102,97,108,115,101]) from rfl]
 refine aq.intro eR (by simp[F17]) ?_
 by_cases h:n=1
 ·rw[if_pos h]
  simp(disch:=try exact dI) only[F17,Val.pv_mk,h,push_cast,seval]
 ·rw[if_neg h]
  simp(disch:=try exact dI) only[F17,Val.pv_mk,h,push_cast,seval]
theorem Ed (h:-999999999999999≤n∧n≤999999999999999):aq Tryz.prog aF 17 [(Val.mk 2 n s t l fs).pv] (.str (au (f+1) (.mk 2 n s t l fs))):=by
 rw[show au (f+1) (.mk 2 n s t l fs)=cR n from rfl]
 have hi:=FE n h.1 h.2
 refine aq.intro eR (by simp[F17]) ?_
 simp(disch:=try exact dI) only[F17,Val.pv_mk,push_cast,seval]
 refine ab.pure hi rfl ?_
 simp(disch:=try exact dI) only[push_cast,seval]
theorem Ec (h:IsN n s.toNat)(hs:0≤s):aq Tryz.prog aF 17 [(Val.mk 3 n s t l fs).pv] (.str (au (f+1) (.mk 3 n s t l fs))):=by
 rw[show au (f+1) (.mk 3 n s t l fs)=cS n s.toNat++(if s=0 then [100] else []) from rfl]
 obtain⟨m,hm⟩:∃ m:Nat,s=(m:Int):=⟨s.toNat,by omega⟩
 subst hm
 rw[Int.toNat_natCast] at h ⊢
 have h1:=yj h
 have hl:=ny h
 generalize cS n m=D at *
 by_cases h0:m=0
 ·subst h0
  rw[if_pos (show ((0:Nat):Int)=0 from rfl)]
  refine aq.intro eR (by simp[F17]) ?_
  simp(disch:=try exact dI) only[F17,Val.pv_mk,push_cast,seval]
  refine ab.pure h1 rfl ?_
  simp(disch:=try exact dI) only[push_cast,seval]
 ·have h0I:¬ (m:Int)=0:=by omega
  rw[if_neg h0I,List.append_nil]
  refine aq.intro eR (by simp[F17]) ?_
  simp(disch:=try exact dI) only[F17,Val.pv_mk,h0I,push_cast,seval]
  refine ab.pure h1 rfl ?_
  simp(disch:=try exact dI) only[h0I,push_cast,seval]
theorem Eb (h:t.length≤1024):aq Tryz.prog aF 17 [(Val.mk 4 n s t l fs).pv] (.str (au (f+1) (.mk 4 n s t l fs))):=by
 rw[show au (f+1) (.mk 4 n s t l fs)=aQ t from rfl]
 have hi:=Fh t (by omega)
 refine aq.intro eR (by simp[F17]) ?_
 simp(disch:=try exact dI) only[F17,Val.pv_mk,push_cast,seval]
 refine ab.pure hi rfl ?_
 simp(disch:=try exact dI) only[push_cast,seval]
theorem Ea (h:t.length≤1024):aq Tryz.prog aF 17 [(Val.mk 5 n s t l fs).pv] (.str (au (f+1) (.mk 5 n s t l fs))):=by
 rw[show au (f+1) (.mk 5 n s t l fs)=ma t from rfl]
 have hi:=Ke t (by omega)
 refine aq.intro eR (by simp[F17]) ?_
 simp(disch:=try exact dI) only[F17,Val.pv_mk,push_cast,seval]
 refine ab.pure hi rfl ?_
 simp(disch:=try exact dI) only[push_cast,seval]
theorem D9 (h:-719162≤n∧n≤2932896):aq Tryz.prog aF 17 [(Val.mk 6 n s t l fs).pv] (.str (au (f+1) (.mk 6 n s t l fs))):=by
 rw[show au (f+1) (.mk 6 n s t l fs)=[100,97,116,101,32]++aQ (qo n) from rfl]
 obtain⟨h1,h2,h3⟩:=rX h
 rw[kf h2]
 generalize qo n=Q at *
 refine aq.intro eR (by simp[F17]) ?_
 simp(disch:=try exact dI) only[F17,Val.pv_mk,push_cast,seval]
 refine ab.pure h1 rfl ?_
 simp(disch:=try exact dI) only[List.append_assoc,push_cast,seval]
theorem D8 (h:-62135596800000≤n∧n≤253402300799999):aq Tryz.prog aF 17 [(Val.mk 7 n s t l fs).pv] (.str (au (f+1) (.mk 7 n s t l fs))):=by
 rw[show au (f+1) (.mk 7 n s t l fs)=[116,105,109,101,32]++aQ (fE n) from rfl]
 obtain⟨h1,h2,h3⟩:=mG h
 rw[kf h2]
 generalize fE n=Q at *
 refine aq.intro eR (by simp[F17]) ?_
 simp(disch:=try exact dI) only[F17,Val.pv_mk,push_cast,seval]
 refine ab.pure h1 rfl ?_
 simp(disch:=try exact dI) only[List.append_assoc,push_cast,seval]
theorem yl (x:Val)(ih:aq Tryz.prog aF 17 [x.pv] (.str (au f x)))(h1:t.length≤1024)(h2:(au f x).length≤100000000) :
  aq Tryz.prog aF 17 [(Val.mk 10 n s t [x] fs).pv] (.str (au (f+1) (.mk 10 n s t [x] fs))):=by
 rw[show au (f+1) (.mk 10 n s t [x] fs)=t++[40]++au f x++[41] from rfl]
 generalize au f x=X at *
 obtain⟨xk,xn,xs,xt,xl,xf⟩:=x
 simp only[Val.pv_mk] at ih
 refine aq.intro eR (by simp[F17]) ?_
 simp(disch:=try exact dI) only[F17,Val.pv_mk,List.map_cons,List.map_nil,aG,push_cast,seval]
 refine ae ih rfl ?_
 simp(disch:=try exact dI) only[List.append_assoc,push_cast,seval]
end
end Go.Proofs.YtamoeblcphjbaaaGreatDoor
-- many steps
namespace Go.Proofs.YtamoeblcphjbaaaGreatDoor
open Go Go.Ab
attribute [local irreducible] vc
theorem l8 (sep:List UInt8)(y:List UInt8):∀ (x:List UInt8) (l:List (List UInt8)),aK sep (x::(l++[y]))=aK sep (x::l)++(sep++y)
 | x,[]=>by simp[aK]
 | x,z::r=>by
   have ih:=l8 sep y z r
   simp only[List.cons_append,aK] at ih ⊢
   rw[ih];simp
theorem pr {L:List (List UInt8)}(sep y:List UInt8)(h:L≠[]):aK sep (L++[y])=aK sep L++(sep++y):=by
 cases L with
 | nil=>exact absurd rfl h
 | cons x r=>exact l8 sep y x r
section
variable (f:Nat)(n s:Int)(t:List UInt8)(l:List Val)(fs:List Fld)
theorem D7 (ih:∀ x∈l,aq Tryz.prog aF 17 [x.pv] (.str (au f x)))(hN:l.length≤256)(hj:∀ i,(aK [44,32] ((l.take i).map (au f))).length≤100000000)(hb:∀ x∈l,(au f x).length≤100000000) :
  aq Tryz.prog aF 17 [(Val.mk 8 n s t l fs).pv] (.str (au (f+1) (.mk 8 n s t l fs))):=by
 rw[show au (f+1) (.mk 8 n s t l fs)=[91]++aK [44,32] (l.map (au f))++[93] from rfl]
 refine aq.intro eR (by simp[F17]) ?_
 simp(disch:=try exact dI) only[F17,Val.pv_mk,push_cast,seval]
 refine aN ([]) (fun i:Nat=>[(9,.pv (.str ([91]++aK [44,32] ((l.take i).map (au f))))),(10,.pv (.int .i64 (i:Int)))]) (fun _=>[]) (fun i=>i≤l.length) (fun i=>l.length - i) (0) ?_;intro e0 σ0 n0 h0;simp(disch:=try exact dI) only[push_cast,seval] at h0;obtain⟨rfl,rfl,rfl⟩:=h0;refine⟨?_,?_,?_⟩
 ·simp(disch:=try exact dI) only[push_cast,seval]
  try exact .refl _
 ·omega
 ·rintro i hi
  have hji:=hj i
  by_cases hlt:i<l.length
  ·have hltI:(i:Int)<(l.length:Int):=by omega
   obtain⟨x,hx⟩:∃ x,l[i]? = some x:=⟨_,List.getElem?_eq_getElem hlt⟩
   have hx':(l.map Val.pv)[i]? = some x.pv:=by simp[hx]
   have hc:=ih x (List.mem_of_getElem? hx)
   have hbx:=hb x (List.mem_of_getElem? hx)
   have hts:(l.take (i+1)).map (au f)=(l.take i).map (au f)++[au f x]:=by rw[aP hx];simp
   by_cases h0:i=0
   ·subst h0
    have hQ:aK [44,32] ((l.take (0+1)).map (au f))=au f x:=by rw[hts];rfl
    generalize au f x=X at *
    obtain⟨xk,xn,xs,xt,xl,xf⟩:=x
    simp only[Val.pv_mk] at hx' hc
    have hl0:(0:Int)<(l.length:Int):=by omega
    have hj0:aK [44,32] ([]:List (List UInt8))=[]:=rfl
    simp(disch:=try exact dI) only[hltI,hl0,hx',aG,List.take_zero,List.map_nil,hj0,push_cast,seval]
    refine ab.pure hc rfl ?_
    simp(disch:=try exact dI) only[push_cast,seval]
    exact⟨1,bz (by simp(disch:=try exact dI) only[hQ,push_cast,seval]),by omega,by omega⟩
   ·have h0I:(0:Int)<(i:Int):=by omega
    have hne:(l.take i).map (au f)≠[]:=by
     intro h
     have:=congrArg List.length h
     rw[List.length_map,List.length_take,List.length_nil] at this;omega
    have hQ:aK [44,32] ((l.take (i+1)).map (au f))=aK [44,32] ((l.take i).map (au f))++([44,32]++au f x):=by rw[hts,pr _ _ hne]
    generalize au f x=X at *
    generalize aK [44,32] ((l.take i).map (au f))=J at *
    obtain⟨xk,xn,xs,xt,xl,xf⟩:=x
    simp only[Val.pv_mk] at hx' hc
    simp(disch:=try exact dI) only[hltI,h0I,hx',push_cast,seval]
    refine ab.pure hc rfl ?_
    simp(disch:=try exact dI) only[push_cast,seval]
    exact⟨i+1,bz (by simp(disch:=try exact dI) only[hQ,List.append_assoc,push_cast,seval]),by omega,by omega⟩
  ·have hltI:¬ (i:Int)<(l.length:Int):=by omega
   obtain rfl:i=l.length:=by omega
   rw[List.take_length] at *
   generalize aK [44,32] (l.map (au f))=J at *
   simp(disch:=try exact dI) only[hltI,push_cast,seval]
end
end Go.Proofs.YtamoeblcphjbaaaGreatDoor
-- many steps
namespace Go.Proofs.YtamoeblcphjbaaaGreatDoor
open Go Go.Ab
attribute [local irreducible] vc
section
variable (f:Nat)(n s:Int)(t:List UInt8)(l:List Val)(fs:List Fld)
theorem D6 (ih:∀ x∈fs,aq Tryz.prog aF 17 [x.value.pv] (.str (au f x.value)))(hN:fs.length≤64)(hj:∀ i,(aK [44,32] ((fs.take i).map (f5 f))).length≤100000000)(hb:∀ x∈fs,x.name.length≤1024∧(au f x.value).length≤100000000) :
  aq Tryz.prog aF 17 [(Val.mk 9 n s t l fs).pv] (.str (au (f+1) (.mk 9 n s t l fs))):=by
 rw[show au (f+1) (.mk 9 n s t l fs)=[123]++aK [44,32] (fs.map (f5 f))++[125] from rfl]
 refine aq.intro eR (by simp[F17]) ?_
 simp(disch:=try exact dI) only[F17,Val.pv_mk,push_cast,seval]
 refine aN ([]) (fun i:Nat=>[(11,.pv (.str ([123]++aK [44,32] ((fs.take i).map (f5 f))))),(12,.pv (.int .i64 (i:Int)))]) (fun _=>[]) (fun i=>i≤fs.length) (fun i=>fs.length - i) (0) ?_;intro e0 σ0 n0 h0;simp(disch:=try exact dI) only[push_cast,seval] at h0;obtain⟨rfl,rfl,rfl⟩:=h0;refine⟨?_,?_,?_⟩
 ·simp(disch:=try exact dI) only[push_cast,seval]
  try exact .refl _
 ·omega
 ·rintro i hi
  have hji:=hj i
  by_cases hlt:i<fs.length
  ·have hltI:(i:Int)<(fs.length:Int):=by omega
   obtain⟨x,hx⟩:∃ x,fs[i]? = some x:=⟨_,List.getElem?_eq_getElem hlt⟩
   have hx':(fs.map Fld.pv)[i]? = some x.pv:=by simp[hx]
   have hc:=ih x (List.mem_of_getElem? hx)
   obtain⟨b1,b2⟩:=hb x (List.mem_of_getElem? hx)
   have hts:(fs.take (i+1)).map (f5 f)=(fs.take i).map (f5 f)++[x.name++[58,32]++au f x.value]:=by rw[aP hx];simp[f5]
   by_cases h0:i=0
   ·subst h0
    have hQ:aK [44,32] ((fs.take (0+1)).map (f5 f))=x.name++[58,32]++au f x.value:=by rw[hts];rfl
    obtain⟨nm,x⟩:=x
    simp only[Fld.value,Fld.name] at hc b1 b2 hQ
    generalize au f x=X at *
    obtain⟨xk,xn,xs,xt,xl,xf⟩:=x
    simp only[Fld.pv_mk,Val.pv_mk] at hx' hc
    have hl0:(0:Int)<(fs.length:Int):=by omega
    have hj0:aK [44,32] ([]:List (List UInt8))=[]:=rfl
    simp(disch:=try exact dI) only[hltI,hl0,hx',aG,List.take_zero,List.map_nil,hj0,push_cast,seval]
    refine ae hc rfl ?_
    simp(disch:=try exact dI) only[push_cast,seval]
    exact⟨1,bz (by simp(disch:=try exact dI) only[hQ,List.append_assoc,push_cast,seval]),by omega,by omega⟩
   ·have h0I:(0:Int)<(i:Int):=by omega
    have hne:(fs.take i).map (f5 f)≠[]:=by
     intro h
     have:=congrArg List.length h
     rw[List.length_map,List.length_take,List.length_nil] at this;omega
    have hQ:aK [44,32] ((fs.take (i+1)).map (f5 f))=aK [44,32] ((fs.take i).map (f5 f))++([44,32]++(x.name++[58,32]++au f x.value)):=by rw[hts,pr _ _ hne]
    obtain⟨nm,x⟩:=x
    simp only[Fld.value,Fld.name] at hc b1 b2 hQ
    generalize au f x=X at *
    generalize aK [44,32] ((fs.take i).map (f5 f))=J at *
    obtain⟨xk,xn,xs,xt,xl,xf⟩:=x
    simp only[Fld.pv_mk,Val.pv_mk] at hx' hc
    simp(disch:=try exact dI) only[hltI,h0I,hx',push_cast,seval]
    refine ae hc rfl ?_
    simp(disch:=try exact dI) only[push_cast,seval]
    exact⟨i+1,bz (by simp(disch:=try exact dI) only[hQ,List.append_assoc,push_cast,seval]),by omega,by omega⟩
  ·have hltI:¬ (i:Int)<(fs.length:Int):=by omega
   obtain rfl:i=fs.length:=by omega
   rw[List.take_length] at *
   generalize aK [44,32] (fs.map (f5 f))=J at *
   simp(disch:=try exact dI) only[hltI,push_cast,seval]
end
end Go.Proofs.YtamoeblcphjbaaaGreatDoor
namespace Go.Proofs.YtamoeblcphjbaaaGreatDoor
open Go Go.Ab Go.RowKit
theorem nC:∀ (L:List (Int×Val)) (i:Nat),jE i L=0→∀ (j:Nat) (q:Int×Val),L[j]? = some q→bI (i+j) q=0
 | [],_,_,j,q,h=>by simp at h
 | p::r,i,h,0,q,hq=>by
   simp only[List.getElem?_cons_zero,Option.some.injEq] at hq
   subst hq
   unfold jE at h
   split at h
   ·rename_i hs;exact hs
   ·exact absurd h ‹_›
 | p::r,i,h,j+1,q,hq=>by
   unfold jE at h
   split at h
   ·have:=nC r (i+1) h j q (by simpa using hq)
    rwa [show i+1+j=i+(j+1) by omega] at this
   ·exact absurd h ‹_›
def BG (x:Val):Prop:=1≤x.kind∧x.kind≤10∧aE x=true∧bi x=0
theorem jV {i:Nat}{q:Int×Val}(h:bI i q=0):i<4096∧BG q.2:=by
 by_cases c1:4096≤i
 ·rw[yN c1] at h;omega
 by_cases c2:8<q.1
 ·rw[qD c1 c2] at h;omega
 cases c3:bW q.2 with
 | true=>rw[yK c1 c2 c3] at h;omega
 | false=>
   by_cases c4:q.2.kind<1∨10<q.2.kind
   ·rw[yJ c1 c2 c3 c4] at h;omega
   cases c5:aE q.2 with
   | false=>rw[yI c1 c2 c3 c4 c5] at h;omega
   | true=>
     rw[qC c1 c2 c3 c4 c5] at h
     exact⟨by omega,by omega,by omega,c5,h⟩
def K9 (n:Nat)(lv:Int)(v:Val):Prop:=∀ q∈bg n lv v,BG q.2
theorem BE {n:Nat}{lv:Int}{v:Val}(h:jE 0 (bg n lv v)=0):K9 n lv v∧(bg n lv v).length≤4096:=by
 refine⟨fun q hq=>?_,?_⟩
 ·obtain⟨j,hj⟩:=List.getElem?_of_mem hq
  exact (jV (nC _ 0 h j q hj)).2
 ·cases hL:(bg n lv v).length with
  | zero=>omega
  | succ k=>
    have hk:(bg n lv v)[k]? = some (bg n lv v)[k]:=List.getElem?_eq_getElem (by omega)
    have:=(jV (nC _ 0 h k _ hk)).1
    omega
theorem fh {n:Nat}{lv:Int}{v x:Val}(h:K9 (n+1) lv v)(hx:x∈aY v):K9 n (wrap64 (lv+1)) x:=fun q hq=>by
 refine h q ?_
 rw[bg]
 exact List.mem_cons_of_mem _ (List.mem_flatMap.2 ⟨x,hx,hq⟩)
theorem kK {n:Nat}{lv:Int}{v:Val}(h:K9 (n+1) lv v):BG v:=h (lv,v) (by rw[bg];exact List.mem_cons_self)
theorem oY:∀ (L:List (List UInt8)) (p:Option (List UInt8)),dm p L=0→∀ s∈L,bn s=true
 | [],_,_,s,hs=>by simp at hs
 | a::r,p,h,s,hs=>by
   unfold dm at h
   split at h
   ·omega
   ·rename_i ha
    split at h
    ·omega
    split at h
    ·omega
    rcases List.mem_cons.1 hs with rfl | hs
    ·simpa using ha
    ·exact oY r _ h s hs
theorem kx {s:List UInt8}(h:bn s=true):s.length≤32:=by
 unfold bn at h
 simp only[Bool.and_eq_true,decide_eq_true_eq] at h
 exact h.2.1
end Go.Proofs.YtamoeblcphjbaaaGreatDoor
namespace Go.Proofs.YtamoeblcphjbaaaGreatDoor
open Go Go.Ab Go.RowKit
theorem eF {α β:Type}(g:α→List UInt8)(h:α→List β):∀ l:List α,(∀ x∈l,(g x).length+40≤8000*(h x).length)→(aK [44,32] (l.map g)).length≤8000*(l.flatMap h).length
 | [],_=>by simp[aK]
 | [x],hx=>by
   have:=hx x (by simp)
   simp only[List.map_cons,List.map_nil,aK,List.flatMap_cons,List.flatMap_nil,List.append_nil]
   omega
 | x::y::r,hx=>by
   have h1:=hx x (by simp)
   have h2:=eF g h (y::r) fun z hz=>hx z (List.mem_cons_of_mem _ hz)
   rw[List.flatMap_cons,List.length_append]
   simp only[List.map_cons,aK,List.length_append] at h2 ⊢
   simp only[List.length_cons,List.length_nil] at h2 ⊢
   omega
theorem Gf (s:List UInt8):(ma s).length=2*s.length+3:=by
 rw[ma,List.length_cons,List.length_cons,List.length_append,fi];rfl
theorem Mh {n a b:Int}(h:fY n a b=0):a≤n∧n≤b:=by
 unfold fY at h;split at h<;>omega
theorem NH {n m e:Int}(he:e≠0)(h:ef n m e=0):n≤m:=by
 unfold ef at h;split at h
 ·exact absurd h he
 ·omega
theorem y7 {n s:Int}{t:List UInt8}{l:List Val}{fs:List Fld}(h:bi (.mk 2 n s t l fs)=0):-999999999999999≤n∧n≤999999999999999:=Mh h
theorem lQ {n s:Int}{t:List UInt8}{l:List Val}{fs:List Fld}(h:bi (.mk 3 n s t l fs)=0):IsN n s.toNat∧0≤s:=by
 rw[show bi (.mk 3 n s t l fs)=(if fY n (-999999999999999) 999999999999999=0 then fY s 0 12 else fY n (-999999999999999) 999999999999999) from rfl] at h
 split at h
 ·rename_i h0
  have h1:=Mh h0
  have h2:=Mh h
  exact⟨⟨h1.1,h1.2,by omega⟩,h2.1⟩
 ·exact absurd h ‹_›
theorem y6 {n s:Int}{t:List UInt8}{l:List Val}{fs:List Fld}(h:bi (.mk 4 n s t l fs)=0):t.length≤1024:=by
 rw[show bi (.mk 4 n s t l fs)=(if ef t.length 1024 5=0 then (if Lib.validD t=true then 0 else 16) else ef t.length 1024 5) from rfl] at h
 split at h
 ·rename_i h0
  have:=NH (by omega) h0;omega
 ·exact absurd h ‹_›
theorem y5 {n s:Int}{t:List UInt8}{l:List Val}{fs:List Fld}(h:bi (.mk 5 n s t l fs)=0):t.length≤1024:=by
 have:=NH (n:=(t.length:Int)) (m:=1024) (e:=5) (by omega) h;omega
theorem sY {n s:Int}{t:List UInt8}{l:List Val}{fs:List Fld}(h:bi (.mk 6 n s t l fs)=0):-719162≤n∧n≤2932896:=Mh h
theorem sX {n s:Int}{t:List UInt8}{l:List Val}{fs:List Fld}(h:bi (.mk 7 n s t l fs)=0):-62135596800000≤n∧n≤253402300799999:=Mh h
theorem Hu {n s:Int}{t:List UInt8}{l:List Val}{fs:List Fld}(h:bi (.mk 8 n s t l fs)=0):l.length≤256:=by
 have:=NH (n:=(l.length:Int)) (m:=256) (e:=9) (by omega) h;omega
theorem y4 {n s:Int}{t:List UInt8}{l:List Val}{fs:List Fld}(h:bi (.mk 9 n s t l fs)=0):fs.length≤64∧∀ x∈fs,x.name.length≤32:=by
 rw[show bi (.mk 9 n s t l fs)=(if ef fs.length 64 9=0 then dm none (fs.map Fld.name) else ef fs.length 64 9) from rfl] at h
 split at h
 ·rename_i h0
  have h1:=NH (by omega) h0
  exact⟨by omega,fun x hx=>kx (oY _ _ h _ (List.mem_map.2 ⟨x,hx,rfl⟩))⟩
 ·exact absurd h ‹_›
theorem mN {n s:Int}{t:List UInt8}{l:List Val}{fs:List Fld}(h:bi (.mk 10 n s t l fs)=0):t.length≤32∧∃ x,l=[x]:=by
 rw[show bi (.mk 10 n s t l fs)=(if bn t=false then 12 else if l.length=0 then 4 else ef l.length 1 3) from rfl] at h
 split at h
 ·omega
 ·rename_i h0
  split at h
  ·omega
  ·have:=NH (n:=(l.length:Int)) (m:=1) (e:=3) (by omega) h
   exact⟨kx (by simpa using h0),List.length_eq_one_iff.1 (by omega)⟩
end Go.Proofs.YtamoeblcphjbaaaGreatDoor

/- A part of the proof for LiteralAgainCardSaid. -/
import Derived.Test.YtamoeblcphjbaaaGreatDoorAgLC18
set_option maxRecDepth 100000
set_option linter.unusedVariables false
set_option linter.unusedSimpArgs false
-- many steps
namespace Go.Proofs.YtamoeblcphjbaaaGreatDoor
open Go Go.Ab
attribute [local irreducible] vc
section
variable (f:Nat)(n s:Int)(t:List UInt8)(l:List Val)(fs:List Fld)
theorem DF:aq Tryz.prog aF 17 [(Val.mk 0 n s t l fs).pv] (.str (au (f+1) (.mk 0 n s t l fs))):=by
 rw[show au (f+1) (.mk 0 n s t l fs)=[110,117,108,108] from rfl]
 refine aq.intro eX (by simp[F17]) ?_
 simp(disch:=try exact dI) only[F17,Val.pv_mk,push_cast,seval]
theorem DE:aq Tryz.prog aF 17 [(Val.mk 1 n s t l fs).pv] (.str (au (f+1) (.mk 1 n s t l fs))):=by
 rw[show au (f+1) (.mk 1 n s t l fs)=(if n=1 then [116,114,117,101] else [102,97,108,115,101]) from rfl]
 refine aq.intro eX (by simp[F17]) ?_
 by_cases h:n=1
 ·rw[if_pos h]
  simp(disch:=try exact dI) only[F17,Val.pv_mk,h,push_cast,seval]
 ·rw[if_neg h]
  simp(disch:=try exact dI) only[F17,Val.pv_mk,h,push_cast,seval]
theorem DD (h:-999999999999999≤n∧n≤999999999999999):aq Tryz.prog aF 17 [(Val.mk 2 n s t l fs).pv] (.str (au (f+1) (.mk 2 n s t l fs))):=by
 rw[show au (f+1) (.mk 2 n s t l fs)=cS n from rfl]
 have hi:=E0 n h.1 h.2
 refine aq.intro eX (by simp[F17]) ?_
 simp(disch:=try exact dI) only[F17,Val.pv_mk,push_cast,seval]
 refine ab.pure hi rfl ?_
 simp(disch:=try exact dI) only[push_cast,seval]
theorem DC (h:IsN n s.toNat)(hs:0≤s):aq Tryz.prog aF 17 [(Val.mk 3 n s t l fs).pv] (.str (au (f+1) (.mk 3 n s t l fs))):=by
 rw[show au (f+1) (.mk 3 n s t l fs)=c8 n s.toNat++(if s=0 then [100] else []) from rfl]
 obtain⟨m,hm⟩:∃ m:Nat,s=(m:Int):=⟨s.toNat,by omega⟩
 subst hm
 rw[Int.toNat_natCast] at h ⊢
 have h1:=xV h
 have hl:=np h
 generalize c8 n m=D at *
 by_cases h0:m=0
 ·subst h0
  rw[if_pos (show ((0:Nat):Int)=0 from rfl)]
  refine aq.intro eX (by simp[F17]) ?_
  simp(disch:=try exact dI) only[F17,Val.pv_mk,push_cast,seval]
  refine ab.pure h1 rfl ?_
  simp(disch:=try exact dI) only[push_cast,seval]
 ·have h0I:¬ (m:Int)=0:=by omega
  rw[if_neg h0I,List.append_nil]
  refine aq.intro eX (by simp[F17]) ?_
  simp(disch:=try exact dI) only[F17,Val.pv_mk,h0I,push_cast,seval]
  refine ab.pure h1 rfl ?_
  simp(disch:=try exact dI) only[h0I,push_cast,seval]
theorem DB (h:t.length≤1024):aq Tryz.prog aF 17 [(Val.mk 4 n s t l fs).pv] (.str (au (f+1) (.mk 4 n s t l fs))):=by
 rw[show au (f+1) (.mk 4 n s t l fs)=aL t from rfl]
 have hi:=EE t (by omega)
 refine aq.intro eX (by simp[F17]) ?_
 simp(disch:=try exact dI) only[F17,Val.pv_mk,push_cast,seval]
 refine ab.pure hi rfl ?_
 simp(disch:=try exact dI) only[push_cast,seval]
theorem DA (h:t.length≤1024):aq Tryz.prog aF 17 [(Val.mk 5 n s t l fs).pv] (.str (au (f+1) (.mk 5 n s t l fs))):=by
 rw[show au (f+1) (.mk 5 n s t l fs)=lC t from rfl]
 have hi:=Jw t (by omega)
 refine aq.intro eX (by simp[F17]) ?_
 simp(disch:=try exact dI) only[F17,Val.pv_mk,push_cast,seval]
 refine ab.pure hi rfl ?_
 simp(disch:=try exact dI) only[push_cast,seval]
theorem Dz (h:-719162≤n∧n≤2932896):aq Tryz.prog aF 17 [(Val.mk 6 n s t l fs).pv] (.str (au (f+1) (.mk 6 n s t l fs))):=by
 rw[show au (f+1) (.mk 6 n s t l fs)=[100,97,116,101,32]++aL (nN n) from rfl]
 obtain⟨h1,h2,h3⟩:=nr h
 rw[ko h2]
 generalize nN n=Q at *
 refine aq.intro eX (by simp[F17]) ?_
 simp(disch:=try exact dI) only[F17,Val.pv_mk,push_cast,seval]
 refine ab.pure h1 rfl ?_
 simp(disch:=try exact dI) only[List.append_assoc,push_cast,seval]
theorem Dy (h:-62135596800000≤n∧n≤253402300799999):aq Tryz.prog aF 17 [(Val.mk 7 n s t l fs).pv] (.str (au (f+1) (.mk 7 n s t l fs))):=by
 rw[show au (f+1) (.mk 7 n s t l fs)=[116,105,109,101,32]++aL (eY n) from rfl]
 obtain⟨h1,h2,h3⟩:=ju h
 rw[ko h2]
 generalize eY n=Q at *
 refine aq.intro eX (by simp[F17]) ?_
 simp(disch:=try exact dI) only[F17,Val.pv_mk,push_cast,seval]
 refine ab.pure h1 rfl ?_
 simp(disch:=try exact dI) only[List.append_assoc,push_cast,seval]
theorem xX (x:Val)(ih:aq Tryz.prog aF 17 [x.pv] (.str (au f x)))(h1:t.length≤1024)(h2:(au f x).length≤100000000) :
  aq Tryz.prog aF 17 [(Val.mk 10 n s t [x] fs).pv] (.str (au (f+1) (.mk 10 n s t [x] fs))):=by
 rw[show au (f+1) (.mk 10 n s t [x] fs)=t++[40]++au f x++[41] from rfl]
 generalize au f x=X at *
 obtain⟨xk,xn,xs,xt,xl,xf⟩:=x
 simp only[Val.pv_mk] at ih
 refine aq.intro eX (by simp[F17]) ?_
 simp(disch:=try exact dI) only[F17,Val.pv_mk,List.map_cons,List.map_nil,aG,push_cast,seval]
 refine ae ih rfl ?_
 simp(disch:=try exact dI) only[List.append_assoc,push_cast,seval]
end
end Go.Proofs.YtamoeblcphjbaaaGreatDoor
-- many steps
namespace Go.Proofs.YtamoeblcphjbaaaGreatDoor
open Go Go.Ab
attribute [local irreducible] vc
theorem l7 (sep:List UInt8)(y:List UInt8):∀ (x:List UInt8) (l:List (List UInt8)),aJ sep (x::(l++[y]))=aJ sep (x::l)++(sep++y)
 | x,[]=>by simp[aJ]
 | x,z::r=>by
   have ih:=l7 sep y z r
   simp only[List.cons_append,aJ] at ih ⊢
   rw[ih];simp
theorem pk {L:List (List UInt8)}(sep y:List UInt8)(h:L≠[]):aJ sep (L++[y])=aJ sep L++(sep++y):=by
 cases L with
 | nil=>exact absurd rfl h
 | cons x r=>exact l7 sep y x r
section
variable (f:Nat)(n s:Int)(t:List UInt8)(l:List Val)(fs:List Fld)
theorem Dx (ih:∀ x∈l,aq Tryz.prog aF 17 [x.pv] (.str (au f x)))(hN:l.length≤256)(hj:∀ i,(aJ [44,32] ((l.take i).map (au f))).length≤100000000)(hb:∀ x∈l,(au f x).length≤100000000) :
  aq Tryz.prog aF 17 [(Val.mk 8 n s t l fs).pv] (.str (au (f+1) (.mk 8 n s t l fs))):=by
 rw[show au (f+1) (.mk 8 n s t l fs)=[91]++aJ [44,32] (l.map (au f))++[93] from rfl]
 refine aq.intro eX (by simp[F17]) ?_
 simp(disch:=try exact dI) only[F17,Val.pv_mk,push_cast,seval]
 refine be ([]) (fun i:Nat=>[(9,.pv (.str ([91]++aJ [44,32] ((l.take i).map (au f))))),(10,.pv (.int .i64 (i:Int)))]) (fun _=>[]) (fun i=>i≤l.length) (fun i=>l.length - i) (0) ?_;intro e0 σ0 n0 h0;simp(disch:=try exact dI) only[push_cast,seval] at h0;obtain⟨rfl,rfl,rfl⟩:=h0;refine⟨?_,?_,?_⟩
 ·simp(disch:=try exact dI) only[push_cast,seval]
  try exact .refl _
 ·omega
 ·rintro i hi
  have hji:=hj i
  by_cases hlt:i<l.length
  ·have hltI:(i:Int)<(l.length:Int):=by omega
   obtain⟨x,hx⟩:∃ x,l[i]? = some x:=⟨_,List.getElem?_eq_getElem hlt⟩
   have hx':(l.map Val.pv)[i]? = some x.pv:=by simp[hx]
   have hc:=ih x (List.mem_of_getElem? hx)
   have hbx:=hb x (List.mem_of_getElem? hx)
   have hts:(l.take (i+1)).map (au f)=(l.take i).map (au f)++[au f x]:=by rw[bh hx];simp
   by_cases h0:i=0
   ·subst h0
    have hQ:aJ [44,32] ((l.take (0+1)).map (au f))=au f x:=by rw[hts];rfl
    generalize au f x=X at *
    obtain⟨xk,xn,xs,xt,xl,xf⟩:=x
    simp only[Val.pv_mk] at hx' hc
    have hl0:(0:Int)<(l.length:Int):=by omega
    have hj0:aJ [44,32] ([]:List (List UInt8))=[]:=rfl
    simp(disch:=try exact dI) only[hltI,hl0,hx',aG,List.take_zero,List.map_nil,hj0,push_cast,seval]
    refine ab.pure hc rfl ?_
    simp(disch:=try exact dI) only[push_cast,seval]
    exact⟨1,bT (by simp(disch:=try exact dI) only[hQ,push_cast,seval]),by omega,by omega⟩
   ·have h0I:(0:Int)<(i:Int):=by omega
    have hne:(l.take i).map (au f)≠[]:=by
     intro h
     have:=congrArg List.length h
     rw[List.length_map,List.length_take,List.length_nil] at this;omega
    have hQ:aJ [44,32] ((l.take (i+1)).map (au f))=aJ [44,32] ((l.take i).map (au f))++([44,32]++au f x):=by rw[hts,pk _ _ hne]
    generalize au f x=X at *
    generalize aJ [44,32] ((l.take i).map (au f))=J at *
    obtain⟨xk,xn,xs,xt,xl,xf⟩:=x
    simp only[Val.pv_mk] at hx' hc
    simp(disch:=try exact dI) only[hltI,h0I,hx',push_cast,seval]
    refine ab.pure hc rfl ?_
    simp(disch:=try exact dI) only[push_cast,seval]
    exact⟨i+1,bT (by simp(disch:=try exact dI) only[hQ,List.append_assoc,push_cast,seval]),by omega,by omega⟩
  ·have hltI:¬ (i:Int)<(l.length:Int):=by omega
   obtain rfl:i=l.length:=by omega
   rw[List.take_length] at *
   generalize aJ [44,32] (l.map (au f))=J at *
   simp(disch:=try exact dI) only[hltI,push_cast,seval]
end
end Go.Proofs.YtamoeblcphjbaaaGreatDoor
-- many steps
namespace Go.Proofs.YtamoeblcphjbaaaGreatDoor
open Go Go.Ab
attribute [local irreducible] vc
section
variable (f:Nat)(n s:Int)(t:List UInt8)(l:List Val)(fs:List Fld)
theorem Dw (ih:∀ x∈fs,aq Tryz.prog aF 17 [x.value.pv] (.str (au f x.value)))(hN:fs.length≤64)(hj:∀ i,(aJ [44,32] ((fs.take i).map (fE f))).length≤100000000)(hb:∀ x∈fs,x.name.length≤1024∧(au f x.value).length≤100000000) :
  aq Tryz.prog aF 17 [(Val.mk 9 n s t l fs).pv] (.str (au (f+1) (.mk 9 n s t l fs))):=by
 rw[show au (f+1) (.mk 9 n s t l fs)=[123]++aJ [44,32] (fs.map (fE f))++[125] from rfl]
 refine aq.intro eX (by simp[F17]) ?_
 simp(disch:=try exact dI) only[F17,Val.pv_mk,push_cast,seval]
 refine be ([]) (fun i:Nat=>[(11,.pv (.str ([123]++aJ [44,32] ((fs.take i).map (fE f))))),(12,.pv (.int .i64 (i:Int)))]) (fun _=>[]) (fun i=>i≤fs.length) (fun i=>fs.length - i) (0) ?_;intro e0 σ0 n0 h0;simp(disch:=try exact dI) only[push_cast,seval] at h0;obtain⟨rfl,rfl,rfl⟩:=h0;refine⟨?_,?_,?_⟩
 ·simp(disch:=try exact dI) only[push_cast,seval]
  try exact .refl _
 ·omega
 ·rintro i hi
  have hji:=hj i
  by_cases hlt:i<fs.length
  ·have hltI:(i:Int)<(fs.length:Int):=by omega
   obtain⟨x,hx⟩:∃ x,fs[i]? = some x:=⟨_,List.getElem?_eq_getElem hlt⟩
   have hx':(fs.map Fld.pv)[i]? = some x.pv:=by simp[hx]
   have hc:=ih x (List.mem_of_getElem? hx)
   obtain⟨b1,b2⟩:=hb x (List.mem_of_getElem? hx)
   have hts:(fs.take (i+1)).map (fE f)=(fs.take i).map (fE f)++[x.name++[58,32]++au f x.value]:=by rw[bh hx];simp[fE]
   by_cases h0:i=0
   ·subst h0
    have hQ:aJ [44,32] ((fs.take (0+1)).map (fE f))=x.name++[58,32]++au f x.value:=by rw[hts];rfl
    obtain⟨nm,x⟩:=x
    simp only[Fld.value,Fld.name] at hc b1 b2 hQ
    generalize au f x=X at *
    obtain⟨xk,xn,xs,xt,xl,xf⟩:=x
    simp only[Fld.pv_mk,Val.pv_mk] at hx' hc
    have hl0:(0:Int)<(fs.length:Int):=by omega
    have hj0:aJ [44,32] ([]:List (List UInt8))=[]:=rfl
    simp(disch:=try exact dI) only[hltI,hl0,hx',aG,List.take_zero,List.map_nil,hj0,push_cast,seval]
    refine ae hc rfl ?_
    simp(disch:=try exact dI) only[push_cast,seval]
    exact⟨1,bT (by simp(disch:=try exact dI) only[hQ,List.append_assoc,push_cast,seval]),by omega,by omega⟩
   ·have h0I:(0:Int)<(i:Int):=by omega
    have hne:(fs.take i).map (fE f)≠[]:=by
     intro h
     have:=congrArg List.length h
     rw[List.length_map,List.length_take,List.length_nil] at this;omega
    have hQ:aJ [44,32] ((fs.take (i+1)).map (fE f))=aJ [44,32] ((fs.take i).map (fE f))++([44,32]++(x.name++[58,32]++au f x.value)):=by rw[hts,pk _ _ hne]
    obtain⟨nm,x⟩:=x
    simp only[Fld.value,Fld.name] at hc b1 b2 hQ
    generalize au f x=X at *
    generalize aJ [44,32] ((fs.take i).map (fE f))=J at *
    obtain⟨xk,xn,xs,xt,xl,xf⟩:=x
    simp only[Fld.pv_mk,Val.pv_mk] at hx' hc
    simp(disch:=try exact dI) only[hltI,h0I,hx',push_cast,seval]
    refine ae hc rfl ?_
    simp(disch:=try exact dI) only[push_cast,seval]
    exact⟨i+1,bT (by simp(disch:=try exact dI) only[hQ,List.append_assoc,push_cast,seval]),by omega,by omega⟩
  ·have hltI:¬ (i:Int)<(fs.length:Int):=by omega
   obtain rfl:i=fs.length:=by omega
   rw[List.take_length] at *
   generalize aJ [44,32] (fs.map (fE f))=J at *
   simp(disch:=try exact dI) only[hltI,push_cast,seval]
end
end Go.Proofs.YtamoeblcphjbaaaGreatDoor
namespace Go.Proofs.YtamoeblcphjbaaaGreatDoor
open Go Go.Ab Go.RowKit
theorem nu:∀ (L:List (Int×Val)) (i:Nat),mq i L=0→∀ (j:Nat) (q:Int×Val),L[j]? = some q→bN (i+j) q=0
 | [],_,_,j,q,h=>by simp at h
 | p::r,i,h,0,q,hq=>by
   simp only[List.getElem?_cons_zero,Option.some.injEq] at hq
   subst hq
   unfold mq at h
   split at h
   ·rename_i hs;exact hs
   ·exact absurd h ‹_›
 | p::r,i,h,j+1,q,hq=>by
   unfold mq at h
   split at h
   ·have:=nu r (i+1) h j q (by simpa using hq)
    rwa [show i+1+j=i+(j+1) by omega] at this
   ·exact absurd h ‹_›
def FC (x:Val):Prop:=1≤x.kind∧x.kind≤10∧aE x=true∧bi x=0
theorem j0 {i:Nat}{q:Int×Val}(h:bN i q=0):i<4096∧FC q.2:=by
 by_cases c1:4096≤i
 ·rw[yk c1] at h;omega
 by_cases c2:8<q.1
 ·rw[qx c1 c2] at h;omega
 cases c3:bQ q.2 with
 | true=>rw[yj c1 c2 c3] at h;omega
 | false=>
   by_cases c4:q.2.kind<1∨10<q.2.kind
   ·rw[yh c1 c2 c3 c4] at h;omega
   cases c5:aE q.2 with
   | false=>rw[yg c1 c2 c3 c4 c5] at h;omega
   | true=>
     rw[yf c1 c2 c3 c4 c5] at h
     exact⟨by omega,by omega,by omega,c5,h⟩
def Hz (n:Nat)(lv:Int)(v:Val):Prop:=∀ q∈bt n lv v,FC q.2
theorem A6 {n:Nat}{lv:Int}{v:Val}(h:mq 0 (bt n lv v)=0):Hz n lv v∧(bt n lv v).length≤4096:=by
 refine⟨fun q hq=>?_,?_⟩
 ·obtain⟨j,hj⟩:=List.getElem?_of_mem hq
  exact (j0 (nu _ 0 h j q hj)).2
 ·cases hL:(bt n lv v).length with
  | zero=>omega
  | succ k=>
    have hk:(bt n lv v)[k]? = some (bt n lv v)[k]:=List.getElem?_eq_getElem (by omega)
    have:=(j0 (nu _ 0 h k _ hk)).1
    omega
theorem ef {n:Nat}{lv:Int}{v x:Val}(h:Hz (n+1) lv v)(hx:x∈bf v):Hz n (wrap64 (lv+1)) x:=fun q hq=>by
 refine h q ?_
 rw[bt]
 exact List.mem_cons_of_mem _ (List.mem_flatMap.2 ⟨x,hx,hq⟩)
theorem gT {n:Nat}{lv:Int}{v:Val}(h:Hz (n+1) lv v):FC v:=h (lv,v) (by rw[bt];exact List.mem_cons_self)
theorem oQ:∀ (L:List (List UInt8)) (p:Option (List UInt8)),dJ p L=0→∀ s∈L,bA s=true
 | [],_,_,s,hs=>by simp at hs
 | a::r,p,h,s,hs=>by
   unfold dJ at h
   split at h
   ·omega
   ·rename_i ha
    split at h
    ·omega
    split at h
    ·omega
    rcases List.mem_cons.1 hs with rfl | hs
    ·simpa using ha
    ·exact oQ r _ h s hs
theorem oS {s:List UInt8}(h:bA s=true):s.length≤32:=by
 unfold bA at h
 simp only[Bool.and_eq_true,decide_eq_true_eq] at h
 exact h.2.1
end Go.Proofs.YtamoeblcphjbaaaGreatDoor
namespace Go.Proofs.YtamoeblcphjbaaaGreatDoor
open Go Go.Ab Go.RowKit
theorem eI {α β:Type}(g:α→List UInt8)(h:α→List β):∀ l:List α,(∀ x∈l,(g x).length+40≤8000*(h x).length)→(aJ [44,32] (l.map g)).length≤8000*(l.flatMap h).length
 | [],_=>by simp[aJ]
 | [x],hx=>by
   have:=hx x (by simp)
   simp only[List.map_cons,List.map_nil,aJ,List.flatMap_cons,List.flatMap_nil,List.append_nil]
   omega
 | x::y::r,hx=>by
   have h1:=hx x (by simp)
   have h2:=eI g h (y::r) fun z hz=>hx z (List.mem_cons_of_mem _ hz)
   rw[List.flatMap_cons,List.length_append]
   simp only[List.map_cons,aJ,List.length_append] at h2 ⊢
   simp only[List.length_cons,List.length_nil] at h2 ⊢
   omega
theorem tB (s:List UInt8):(lC s).length=2*s.length+3:=by
 rw[lC,List.length_cons,List.length_cons,List.length_append,fo];rfl
theorem Lv {n a b:Int}(h:ga n a b=0):a≤n∧n≤b:=by
 unfold ga at h;split at h<;>omega
theorem MY {n m e:Int}(he:e≠0)(h:e8 n m e=0):n≤m:=by
 unfold e8 at h;split at h
 ·exact absurd h he
 ·omega
theorem yz {n s:Int}{t:List UInt8}{l:List Val}{fs:List Fld}(h:bi (.mk 2 n s t l fs)=0):-999999999999999≤n∧n≤999999999999999:=Lv h
theorem j6 {n s:Int}{t:List UInt8}{l:List Val}{fs:List Fld}(h:bi (.mk 3 n s t l fs)=0):IsN n s.toNat∧0≤s:=by
 rw[show bi (.mk 3 n s t l fs)=(if ga n (-999999999999999) 999999999999999=0 then ga s 0 12 else ga n (-999999999999999) 999999999999999) from rfl] at h
 split at h
 ·rename_i h0
  have h1:=Lv h0
  have h2:=Lv h
  exact⟨⟨h1.1,h1.2,by omega⟩,h2.1⟩
 ·exact absurd h ‹_›
theorem yy {n s:Int}{t:List UInt8}{l:List Val}{fs:List Fld}(h:bi (.mk 4 n s t l fs)=0):t.length≤1024:=by
 rw[show bi (.mk 4 n s t l fs)=(if e8 t.length 1024 5=0 then (if Lib.validD t=true then 0 else 16) else e8 t.length 1024 5) from rfl] at h
 split at h
 ·rename_i h0
  have:=MY (by omega) h0;omega
 ·exact absurd h ‹_›
theorem yx {n s:Int}{t:List UInt8}{l:List Val}{fs:List Fld}(h:bi (.mk 5 n s t l fs)=0):t.length≤1024:=by
 have:=MY (n:=(t.length:Int)) (m:=1024) (e:=5) (by omega) h;omega
theorem oc {n s:Int}{t:List UInt8}{l:List Val}{fs:List Fld}(h:bi (.mk 6 n s t l fs)=0):-719162≤n∧n≤2932896:=Lv h
theorem ob {n s:Int}{t:List UInt8}{l:List Val}{fs:List Fld}(h:bi (.mk 7 n s t l fs)=0):-62135596800000≤n∧n≤253402300799999:=Lv h
theorem GP {n s:Int}{t:List UInt8}{l:List Val}{fs:List Fld}(h:bi (.mk 8 n s t l fs)=0):l.length≤256:=by
 have:=MY (n:=(l.length:Int)) (m:=256) (e:=9) (by omega) h;omega
theorem sG {n s:Int}{t:List UInt8}{l:List Val}{fs:List Fld}(h:bi (.mk 9 n s t l fs)=0):fs.length≤64∧∀ x∈fs,x.name.length≤32:=by
 rw[show bi (.mk 9 n s t l fs)=(if e8 fs.length 64 9=0 then dJ none (fs.map Fld.name) else e8 fs.length 64 9) from rfl] at h
 split at h
 ·rename_i h0
  have h1:=MY (by omega) h0
  exact⟨by omega,fun x hx=>oS (oQ _ _ h _ (List.mem_map.2 ⟨x,hx,rfl⟩))⟩
 ·exact absurd h ‹_›
theorem j7 {n s:Int}{t:List UInt8}{l:List Val}{fs:List Fld}(h:bi (.mk 10 n s t l fs)=0):t.length≤32∧∃ x,l=[x]:=by
 rw[show bi (.mk 10 n s t l fs)=(if bA t=false then 12 else if l.length=0 then 4 else e8 l.length 1 3) from rfl] at h
 split at h
 ·omega
 ·rename_i h0
  split at h
  ·omega
  ·have:=MY (n:=(l.length:Int)) (m:=1) (e:=3) (by omega) h
   exact⟨oS (by simpa using h0),List.length_eq_one_iff.1 (by omega)⟩
end Go.Proofs.YtamoeblcphjbaaaGreatDoor

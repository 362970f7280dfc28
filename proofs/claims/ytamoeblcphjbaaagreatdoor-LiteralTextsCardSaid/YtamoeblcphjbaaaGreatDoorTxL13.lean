/- A part of the proof for LiteralTextsCardSaid. -/
import Derived.Test.YtamoeblcphjbaaaGreatDoorTxL9
set_option maxRecDepth 100000
set_option linter.unusedVariables false
set_option linter.unusedSimpArgs false
namespace Go.Proofs.YtamoeblcphjbaaaGreatDoor
open Go Go.Ab Go.RowKit
theorem mS:∀ (L:List (Int×Val)) (i:Nat),iY i L=0→∀ (j:Nat) (q:Int×Val),L[j]? = some q→bf (i+j) q=0
 | [],_,_,j,q,h=>by simp at h
 | p::r,i,h,0,q,hq=>by
   simp only[List.getElem?_cons_zero,Option.some.injEq] at hq
   subst hq
   unfold iY at h
   split at h
   ·rename_i hs;exact hs
   ·exact absurd h ‹_›
 | p::r,i,h,j+1,q,hq=>by
   unfold iY at h
   split at h
   ·have:=mS r (i+1) h j q (by simpa using hq)
    rwa [show i+1+j=i+(j+1) by omega] at this
   ·exact absurd h ‹_›
def DQ (x:Val):Prop:=1≤x.kind∧x.kind≤10∧az x=true∧aS x=0
theorem jq {i:Nat}{q:Int×Val}(h:bf i q=0):i<4096∧DQ q.2:=by
 by_cases c1:4096≤i
 ·rw[Cm c1] at h;omega
 by_cases c2:8<q.1
 ·rw[sv c1 c2] at h;omega
 cases c3:br q.2 with
 | true=>rw[su c1 c2 c3] at h;omega
 | false=>
   by_cases c4:q.2.kind<1∨10<q.2.kind
   ·rw[sr c1 c2 c3 c4] at h;omega
   cases c5:az q.2 with
   | false=>rw[sq c1 c2 c3 c4 c5] at h;omega
   | true=>
     rw[sn c1 c2 c3 c4 c5] at h
     exact⟨by omega,by omega,by omega,c5,h⟩
def Ez (n:Nat)(lv:Int)(v:Val):Prop:=∀ q∈aX n lv v,DQ q.2
theorem vl {n:Nat}{lv:Int}{v:Val}(h:iY 0 (aX n lv v)=0):Ez n lv v∧(aX n lv v).length≤4096:=by
 refine⟨fun q hq=>?_,?_⟩
 ·obtain⟨j,hj⟩:=List.getElem?_of_mem hq
  exact (jq (mS _ 0 h j q hj)).2
 ·cases hL:(aX n lv v).length with
  | zero=>omega
  | succ k=>
    have hk:(aX n lv v)[k]? = some (aX n lv v)[k]:=List.getElem?_eq_getElem (by omega)
    have:=(jq (mS _ 0 h k _ hk)).1
    omega
theorem di {n:Nat}{lv:Int}{v x:Val}(h:Ez (n+1) lv v)(hx:x∈aQ v):Ez n (wrap64 (lv+1)) x:=fun q hq=>by
 refine h q ?_
 rw[aX]
 exact List.mem_cons_of_mem _ (List.mem_flatMap.2 ⟨x,hx,hq⟩)
theorem gh {n:Nat}{lv:Int}{v:Val}(h:Ez (n+1) lv v):DQ v:=h (lv,v) (by rw[aX];exact List.mem_cons_self)
theorem jU:∀ (L:List (List UInt8)) (p:Option (List UInt8)),df p L=0→∀ s∈L,cn s=true
 | [],_,_,s,hs=>by simp at hs
 | a::r,p,h,s,hs=>by
   unfold df at h
   split at h
   ·omega
   ·rename_i ha
    split at h
    ·omega
    split at h
    ·omega
    rcases List.mem_cons.1 hs with rfl | hs
    ·simpa using ha
    ·exact jU r _ h s hs
theorem jW {s:List UInt8}(h:cn s=true):s.length≤32:=by
 unfold cn at h
 simp only[Bool.and_eq_true,decide_eq_true_eq] at h
 exact h.2.1
end Go.Proofs.YtamoeblcphjbaaaGreatDoor
set_option maxRecDepth 100000
set_option linter.unusedVariables false
set_option linter.unusedSimpArgs false
namespace Go.Proofs.YtamoeblcphjbaaaGreatDoor
open Go Go.Ab Go.RowKit
theorem cH {α β:Type}(g:α→List UInt8)(h:α→List β):∀ l:List α,(∀ x∈l,(g x).length+40≤8000*(h x).length)→(aK [44,32] (l.map g)).length≤8000*(l.flatMap h).length
 | [],_=>by simp[aK]
 | [x],hx=>by
   have:=hx x (by simp)
   simp only[List.map_cons,List.map_nil,aK,List.flatMap_cons,List.flatMap_nil,List.append_nil]
   omega
 | x::y::r,hx=>by
   have h1:=hx x (by simp)
   have h2:=cH g h (y::r) fun z hz=>hx z (List.mem_cons_of_mem _ hz)
   rw[List.flatMap_cons,List.length_append]
   simp only[List.map_cons,aK,List.length_append] at h2 ⊢
   simp only[List.length_cons,List.length_nil] at h2 ⊢
   omega
theorem z8 (s:List UInt8):(rh s).length=2*s.length+3:=by
 rw[rh,List.length_cons,List.length_cons,List.length_append,dj];rfl
theorem Fz {n a b:Int}(h:dR n a b=0):a≤n∧n≤b:=by
 unfold dR at h;split at h<;>omega
theorem FL {n m e:Int}(he:e≠0)(h:dH n m e=0):n≤m:=by
 unfold dH at h;split at h
 ·exact absurd h he
 ·omega
theorem Br {n s:Int}{t:List UInt8}{l:List Val}{fs:List Fld}(h:aS (.mk 2 n s t l fs)=0):-999999999999999≤n∧n≤999999999999999:=Fz h
theorem jw {n s:Int}{t:List UInt8}{l:List Val}{fs:List Fld}(h:aS (.mk 3 n s t l fs)=0):IsN n s.toNat∧0≤s:=by
 rw[show aS (.mk 3 n s t l fs)=(if dR n (-999999999999999) 999999999999999=0 then dR s 0 12 else dR n (-999999999999999) 999999999999999) from rfl] at h
 split at h
 ·rename_i h0
  have h1:=Fz h0
  have h2:=Fz h
  exact⟨⟨h1.1,h1.2,by omega⟩,h2.1⟩
 ·exact absurd h ‹_›
theorem sJ {n s:Int}{t:List UInt8}{l:List Val}{fs:List Fld}(h:aS (.mk 4 n s t l fs)=0):t.length≤1024:=by
 rw[show aS (.mk 4 n s t l fs)=(if dH t.length 1024 5=0 then (if Lib.validD t=true then 0 else 16) else dH t.length 1024 5) from rfl] at h
 split at h
 ·rename_i h0
  have:=FL (by omega) h0;omega
 ·exact absurd h ‹_›
theorem sI {n s:Int}{t:List UInt8}{l:List Val}{fs:List Fld}(h:aS (.mk 5 n s t l fs)=0):t.length≤1024:=by
 have:=FL (n:=(t.length:Int)) (m:=1024) (e:=5) (by omega) h;omega
theorem sH {n s:Int}{t:List UInt8}{l:List Val}{fs:List Fld}(h:aS (.mk 6 n s t l fs)=0):-719162≤n∧n≤2932896:=Fz h
theorem sG {n s:Int}{t:List UInt8}{l:List Val}{fs:List Fld}(h:aS (.mk 7 n s t l fs)=0):-62135596800000≤n∧n≤253402300799999:=Fz h
theorem Bq {n s:Int}{t:List UInt8}{l:List Val}{fs:List Fld}(h:aS (.mk 8 n s t l fs)=0):l.length≤256:=by
 have:=FL (n:=(l.length:Int)) (m:=256) (e:=9) (by omega) h;omega
theorem sF {n s:Int}{t:List UInt8}{l:List Val}{fs:List Fld}(h:aS (.mk 9 n s t l fs)=0):fs.length≤64∧∀ x∈fs,x.name.length≤32:=by
 rw[show aS (.mk 9 n s t l fs)=(if dH fs.length 64 9=0 then df none (fs.map Fld.name) else dH fs.length 64 9) from rfl] at h
 split at h
 ·rename_i h0
  have h1:=FL (by omega) h0
  exact⟨by omega,fun x hx=>jW (jU _ _ h _ (List.mem_map.2 ⟨x,hx,rfl⟩))⟩
 ·exact absurd h ‹_›
theorem lx {n s:Int}{t:List UInt8}{l:List Val}{fs:List Fld}(h:aS (.mk 10 n s t l fs)=0):t.length≤32∧∃ x,l=[x]:=by
 rw[show aS (.mk 10 n s t l fs)=(if cn t=false then 12 else if l.length=0 then 4 else dH l.length 1 3) from rfl] at h
 split at h
 ·omega
 ·rename_i h0
  split at h
  ·omega
  ·have:=FL (n:=(l.length:Int)) (m:=1) (e:=3) (by omega) h
   exact⟨jW (by simpa using h0),List.length_eq_one_iff.1 (by omega)⟩
end Go.Proofs.YtamoeblcphjbaaaGreatDoor
set_option maxRecDepth 100000
set_option linter.unusedVariables false
set_option linter.unusedSimpArgs false
namespace Go.Proofs.YtamoeblcphjbaaaGreatDoor
open Go Go.Ab Go.RowKit
theorem DM {P:Val→Prop}(v:Val)(h:1≤v.kind∧v.kind≤10)
  (h1:∀ n s t l fs,v = .mk 1 n s t l fs→P v) (h2:∀ n s t l fs,v = .mk 2 n s t l fs→P v) (h3:∀ n s t l fs,v = .mk 3 n s t l fs→P v) (h4:∀ n s t l fs,v = .mk 4 n s t l fs→P v) (h5:∀ n s t l fs,v = .mk 5 n s t l fs→P v)
  (h6:∀ n s t l fs,v = .mk 6 n s t l fs→P v) (h7:∀ n s t l fs,v = .mk 7 n s t l fs→P v) (h8:∀ n s t l fs,v = .mk 8 n s t l fs→P v) (h9:∀ n s t l fs,v = .mk 9 n s t l fs→P v) (h10:∀ n s t l fs,v = .mk 10 n s t l fs→P v):P v:=by
 obtain⟨k,n,s,t,l,fs⟩:=v
 have hc:k=1∨k=2∨k=3∨k=4∨k=5∨k=6∨k=7∨k=8∨k=9∨k=10:=by simp only[Val.kind] at h;omega
 rcases hc with rfl | rfl | rfl | rfl | rfl | rfl | rfl | rfl | rfl | rfl
 ·exact h1 _ _ _ _ _ rfl
 ·exact h2 _ _ _ _ _ rfl
 ·exact h3 _ _ _ _ _ rfl
 ·exact h4 _ _ _ _ _ rfl
 ·exact h5 _ _ _ _ _ rfl
 ·exact h6 _ _ _ _ _ rfl
 ·exact h7 _ _ _ _ _ rfl
 ·exact h8 _ _ _ _ _ rfl
 ·exact h9 _ _ _ _ _ rfl
 ·exact h10 _ _ _ _ _ rfl
theorem d6:∀ (f:Nat) (lv:Int) (v:Val),fk f v→Ez f lv v→(aq f v).length+100≤8000*(aX f lv v).length
 | 0,_,_,hd,_=>hd.elim
 | f+1,lv,v,hd,hg=>by
   obtain⟨k1,k2,hu,hr⟩:=gh hg
   have hlen:(aX (f+1) lv v).length=((aQ v).flatMap (aX f (wrap64 (lv+1)))).length+1:=by rw[aX,List.length_cons]
   have ih:∀ x∈aQ v,(aq f x).length+100≤8000*(aX f (wrap64 (lv+1)) x).length:=fun x hx=>d6 f _ x (hd x hx) (di hg hx)
   rw[hlen]
   clear hlen hg hd
   refine DM (P:=fun v=>aS v=0→(∀ x∈aQ v,(aq f x).length+100≤8000*(aX f (wrap64 (lv+1)) x).length)→(aq (f+1) v).length+100≤8000*(((aQ v).flatMap (aX f (wrap64 (lv+1)))).length+1)) v ⟨k1,k2⟩ ?_ ?_ ?_ ?_ ?_ ?_ ?_ ?_ ?_ ?_ hr ih<;>(rintro n s t l fs rfl hr ih)
   ·rw[show aq (f+1) (.mk 1 n s t l fs)=(if n=1 then [116,114,117,101] else [102,97,108,115,101]) from rfl]
    split<;>simp<;>omega
   ·rw[show aq (f+1) (.mk 2 n s t l fs)=bW n from rfl]
    have:=gd n;omega
   ·rw[show aq (f+1) (.mk 3 n s t l fs)=vR n s.toNat++(if s=0 then [100] else []) from rfl,List.length_append]
    have:=iX (jw hr).1
    split<;>simp<;>omega
   ·rw[show aq (f+1) (.mk 4 n s t l fs)=a8 t from rfl]
    have:=cl t
    have:=sJ hr;omega
   ·rw[show aq (f+1) (.mk 5 n s t l fs)=rh t from rfl,z8]
    have:=sI hr;omega
   ·rw[show aq (f+1) (.mk 6 n s t l fs)=[100,97,116,101,32]++a8 (qB n) from rfl,List.length_append]
    have h1:=(mQ (sH hr)).2.2
    have:=cl (qB n)
    simp only[List.length_cons,List.length_nil];omega
   ·rw[show aq (f+1) (.mk 7 n s t l fs)=[116,105,109,101,32]++a8 (eF n) from rfl,List.length_append]
    have h1:=(ix (sG hr)).2.2
    have:=cl (eF n)
    simp only[List.length_cons,List.length_nil];omega
   ·rw[show aq (f+1) (.mk 8 n s t l fs)=[91]++aK [44,32] (l.map (aq f))++[93] from rfl]
    rw[bx (.inl rfl)] at ih ⊢
    have:=cH (aq f) (aX f (wrap64 (lv+1))) l fun x hx=>by have:=ih x hx;omega
    simp only[Val.lst,List.length_append,List.length_cons,List.length_nil] at this ⊢;omega
   ·rw[show aq (f+1) (.mk 9 n s t l fs)=[123]++aK [44,32] (fs.map (dU f))++[125] from rfl]
    rw[dv rfl] at ih ⊢
    obtain⟨_,hn⟩:=sF hr
    have:=cH (dU f) (fun x=>aX f (wrap64 (lv+1)) x.value) fs fun x hx=>by
     have h1:=ih x.value (List.mem_map.2 ⟨x,hx,rfl⟩)
     have h2:=hn x hx
     unfold dU
     simp only[List.length_append,List.length_cons,List.length_nil];omega
    simp only[Val.fields,List.flatMap_map,List.length_append,List.length_cons,List.length_nil] at this ⊢;omega
   ·obtain⟨h1,x,rfl⟩:=lx hr
    rw[show aq (f+1) (.mk 10 n s t [x] fs)=t++[40]++aq f x++[41] from rfl]
    rw[bx (.inr rfl)] at ih ⊢
    have:=ih x (by simp[Val.lst])
    simp only[Val.lst,List.flatMap_cons,List.flatMap_nil,List.append_nil,List.length_append,List.length_cons,List.length_nil];omega
end Go.Proofs.YtamoeblcphjbaaaGreatDoor
set_option maxRecDepth 100000
set_option linter.unusedVariables false
set_option linter.unusedSimpArgs false
namespace Go.Proofs.YtamoeblcphjbaaaGreatDoor
open Go Go.Ab Go.RowKit
theorem iF {α β:Type}(h:α→List β):∀ {l:List α} {x:α},x∈l→(h x).length≤(l.flatMap h).length
 | y::r,x,hx=>by
   rw[List.flatMap_cons,List.length_append]
   rcases List.mem_cons.1 hx with rfl | hx
   ·omega
   ·have:=iF h hx;omega
theorem c9 {α β:Type}(h:α→List β):∀ (l:List α) (i:Nat),((l.take i).flatMap h).length≤(l.flatMap h).length
 | [],i=>by simp
 | x::r,0=>by simp
 | x::r,i+1=>by
   have:=c9 h r i
   rw[List.take_succ_cons,List.flatMap_cons,List.flatMap_cons,List.length_append,List.length_append];omega
theorem jl:∀ (f:Nat) (lv:Int) (v:Val),fk f v→Ez f lv v→(aX f lv v).length≤4096→aw Tryz.prog aD 37 [v.pv] (.str (aq f v))
 | 0,_,_,hd,_,_=>hd.elim
 | f+1,lv,v,hd,hg,hc=>by
   obtain⟨k1,k2,hu,hr⟩:=gh hg
   have hlen:(aX (f+1) lv v).length=((aQ v).flatMap (aX f (wrap64 (lv+1)))).length+1:=by rw[aX,List.length_cons]
   rw[hlen] at hc
   have hx:∀ x∈aQ v,(aq f x).length+100≤8000*(aX f (wrap64 (lv+1)) x).length∧(aX f (wrap64 (lv+1)) x).length≤4096∧aw Tryz.prog aD 37 [x.pv] (.str (aq f x)):=fun x hx=>by
    have h1:=iF (aX f (wrap64 (lv+1))) hx
    exact⟨d6 f _ x (hd x hx) (di hg hx),by omega,jl f _ x (hd x hx) (di hg hx) (by omega)⟩
   clear hlen hg hd
   refine DM (P:=fun v=>aS v=0→((aQ v).flatMap (aX f (wrap64 (lv+1)))).length+1≤4096→(∀ x∈aQ v,(aq f x).length+100≤8000*(aX f (wrap64 (lv+1)) x).length∧(aX f (wrap64 (lv+1)) x).length≤4096∧aw Tryz.prog aD 37 [x.pv] (.str (aq f x)))→aw Tryz.prog aD 37 [v.pv] (.str (aq (f+1) v))) v ⟨k1,k2⟩ ?_ ?_ ?_ ?_ ?_ ?_ ?_ ?_ ?_ ?_ hr hc hx<;>(rintro n s t l fs rfl hr hc hx)
   ·exact xF f n s t l fs
   ·exact xE f n s t l fs (Br hr)
   ·exact xD f n s t l fs (jw hr).1 (jw hr).2
   ·exact xC f n s t l fs (sJ hr)
   ·exact xB f n s t l fs (sI hr)
   ·exact xA f n s t l fs (sH hr)
   ·exact xz f n s t l fs (sG hr)
   ·rw[bx (.inl rfl)] at hc hx
    simp only[Val.lst] at hc hx
    exact xy f n s t l fs (fun x h=>(hx x h).2.2) (Bq hr) (by
     have:=cH (aq f) (aX f (wrap64 (lv+1))) l fun x h=>by have:=(hx x h).1;omega
     omega)
   ·rw[dv rfl] at hc hx
    obtain⟨hN,hn⟩:=sF hr
    simp only[Val.fields,List.flatMap_map] at hc hx
    have hy:∀ x∈fs,(aq f x.value).length+100≤8000*(aX f (wrap64 (lv+1)) x.value).length∧(aX f (wrap64 (lv+1)) x.value).length≤4096∧aw Tryz.prog aD 37 [x.value.pv] (.str (aq f x.value)):=fun x h=>hx x.value (List.mem_map.2 ⟨x,h,rfl⟩)
    have hs:∀ x∈fs,(dU f x).length+40≤8000*(aX f (wrap64 (lv+1)) x.value).length:=fun x h=>by
     have h1:=(hy x h).1
     have h2:=hn x h
     unfold dU
     simp only[List.length_append,List.length_cons,List.length_nil];omega
    exact xx f n s t l fs (fun x h=>(hy x h).2.2) hN (fun x h=>⟨by have:=hn x h;omega,by have:=hy x h;omega⟩) (by
     have:=cH (dU f) (fun x=>aX f (wrap64 (lv+1)) x.value) fs hs
     omega)
   ·obtain⟨h1,x,rfl⟩:=lx hr
    rw[bx (.inr rfl)] at hx
    obtain⟨a1,a2,a3⟩:=hx x (by simp[Val.lst])
    exact rX f n s t fs x a3 (by omega) (by omega)
theorem jm:∀ (f:Nat) (lv:Int) (v:Val),fk f v→Ez f lv v→(aX f lv v).length≤4096→aw Tryz.prog aD 17 [v.pv] (.str (aq f v))
 | 0,_,_,hd,_,_=>hd.elim
 | f+1,lv,v,hd,hg,hc=>by
   obtain⟨k1,k2,hu,hr⟩:=gh hg
   have hlen:(aX (f+1) lv v).length=((aQ v).flatMap (aX f (wrap64 (lv+1)))).length+1:=by rw[aX,List.length_cons]
   rw[hlen] at hc
   have hx:∀ x∈aQ v,(aq f x).length+100≤8000*(aX f (wrap64 (lv+1)) x).length∧(aX f (wrap64 (lv+1)) x).length≤4096∧aw Tryz.prog aD 17 [x.pv] (.str (aq f x)):=fun x hx=>by
    have h1:=iF (aX f (wrap64 (lv+1))) hx
    exact⟨d6 f _ x (hd x hx) (di hg hx),by omega,jm f _ x (hd x hx) (di hg hx) (by omega)⟩
   clear hlen hg hd
   refine DM (P:=fun v=>aS v=0→((aQ v).flatMap (aX f (wrap64 (lv+1)))).length+1≤4096→(∀ x∈aQ v,(aq f x).length+100≤8000*(aX f (wrap64 (lv+1)) x).length∧(aX f (wrap64 (lv+1)) x).length≤4096∧aw Tryz.prog aD 17 [x.pv] (.str (aq f x)))→aw Tryz.prog aD 17 [v.pv] (.str (aq (f+1) v))) v ⟨k1,k2⟩ ?_ ?_ ?_ ?_ ?_ ?_ ?_ ?_ ?_ ?_ hr hc hx<;>(rintro n s t l fs rfl hr hc hx)
   ·exact xP f n s t l fs
   ·exact xO f n s t l fs (Br hr)
   ·exact xN f n s t l fs (jw hr).1 (jw hr).2
   ·exact xM f n s t l fs (sJ hr)
   ·exact xL f n s t l fs (sI hr)
   ·exact xK f n s t l fs (sH hr)
   ·exact xJ f n s t l fs (sG hr)
   ·rw[bx (.inl rfl)] at hc hx
    simp only[Val.lst] at hc hx
    exact xI f n s t l fs (fun x h=>(hx x h).2.2) (Bq hr) (fun i=>by
     have h1:=cH (aq f) (aX f (wrap64 (lv+1))) (l.take i) fun x h=>by have:=(hx x (List.mem_of_mem_take h)).1;omega
     have h2:=c9 (aX f (wrap64 (lv+1))) l i
     omega) (fun x h=>by have:=hx x h;omega)
   ·rw[dv rfl] at hc hx
    obtain⟨hN,hn⟩:=sF hr
    simp only[Val.fields,List.flatMap_map] at hc hx
    have hy:∀ x∈fs,(aq f x.value).length+100≤8000*(aX f (wrap64 (lv+1)) x.value).length∧(aX f (wrap64 (lv+1)) x.value).length≤4096∧aw Tryz.prog aD 17 [x.value.pv] (.str (aq f x.value)):=fun x h=>hx x.value (List.mem_map.2 ⟨x,h,rfl⟩)
    have hs:∀ x∈fs,(dU f x).length+40≤8000*(aX f (wrap64 (lv+1)) x.value).length:=fun x h=>by
     have h1:=(hy x h).1
     have h2:=hn x h
     unfold dU
     simp only[List.length_append,List.length_cons,List.length_nil];omega
    exact xH f n s t l fs (fun x h=>(hy x h).2.2) hN (fun i=>by
     have h1:=cH (dU f) (fun x=>aX f (wrap64 (lv+1)) x.value) (fs.take i) fun x h=>hs x (List.mem_of_mem_take h)
     have h2:=c9 (fun x:Fld=>aX f (wrap64 (lv+1)) x.value) fs i
     omega) (fun x h=>⟨by have:=hn x h;omega,by have:=hy x h;omega⟩)
   ·obtain⟨h1,x,rfl⟩:=lx hr
    rw[bx (.inr rfl)] at hx
    obtain⟨a1,a2,a3⟩:=hx x (by simp[Val.lst])
    exact rY f n s t fs x a3 (by omega) (by omega)
end Go.Proofs.YtamoeblcphjbaaaGreatDoor
set_option maxRecDepth 100000
set_option linter.unusedVariables false
set_option linter.unusedSimpArgs false
-- many steps
namespace Go.Proofs.YtamoeblcphjbaaaGreatDoor
open Go Go.Ab Go.RowKit
attribute [local irreducible] vc
def FQ (x:List UInt8):List UInt8:=if 65536<x.length then [] else x
def FS (x:List UInt8):Int:=if 65536<x.length then 5 else 0
theorem uM (x:List UInt8):aw Tryz.prog aD 36 [.str x] (.tup [.str (FQ x),.int .i64 (FS x)]):=by
 unfold FQ FS
 refine aw.intro Hs (by simp[F36]) ?_
 by_cases h:65536<x.length
 ·have hI:(65536:Int)<(x.length:Int):=by omega
  rw[if_pos h,if_pos h]
  simp(maxSteps:=9^7) (disch:=first|exact dI|fail) only[F36,hI,push_cast,seval]
 ·have hI:¬ (65536:Int)<(x.length:Int):=by omega
  rw[if_neg h,if_neg h]
  simp(maxSteps:=9^7) (disch:=first|exact dI|fail) only[F36,hI,push_cast,seval]
theorem jS {v:Val}(h:br v=true):v.kind=0:=by
 obtain⟨k,n,s,t,l,fs⟩:=v
 simp only[br,Bool.and_eq_true,decide_eq_true_eq] at h
 exact h.1
theorem Jc {f:Nat}{v:Val}(hd:fk (f+1) v)(h:iY 0 (aX (f+1) 1 v)=0∨br v=true) :
  aw Tryz.prog aD 37 [v.pv] (.str (aq (f+1) v))∧aw Tryz.prog aD 17 [v.pv] (.str (aq (f+1) v)):=by
 rcases h with h | h
 ·obtain⟨hg,hc⟩:=vl h
  exact⟨jl (f+1) 1 v hd hg hc,jm (f+1) 1 v hd hg hc⟩
 ·have hk:=jS h
  obtain⟨k,n,s,t,l,fs⟩:=v
  simp only[Val.kind] at hk
  subst hk
  exact⟨xG f n s t l fs,xQ f n s t l fs⟩
theorem EX {f:Nat}{v:Val}(hd:fk (f+1) v)(hv:v.ok) :
  aw Tryz.prog aD 14 [v.pv] (if iY 0 (aX (f+1) 1 v)=0∨br v=true then .tup [.str (FQ (aq (f+1) v)),.int .i64 (FS (aq (f+1) v))] else .tup [.str [],.int .i64 (iY 0 (aX (f+1) 1 v))]):=by
 have h15:=fA (f+1) v hd hv
 have h16:=lX v
 have hb:=Jc hd
 have hl:=uM (aq (f+1) v)
 generalize iY 0 (aX (f+1) 1 v)=c at *
 generalize aq (f+1) v=X at *
 generalize FQ X=S at *
 generalize FS X=E at *
 generalize br v=b at *
 obtain⟨k,n,s,t,l,fs⟩:=v
 simp only[Val.pv_mk] at h15 h16 hb ⊢
 refine aw.intro HG (by simp[F14]) ?_
 by_cases hc:c=0
 ·have h37:=(hb (.inl hc)).1
  rw[if_pos (.inl hc)]
  subst hc
  simp(maxSteps:=9^7) (disch:=first|exact dI|fail) only[F14,push_cast,seval]
  refine ae.pure h15 rfl ?_
  simp(maxSteps:=9^7) (disch:=first|exact dI|fail) only[push_cast,seval]
  refine ae.pure h37 rfl ?_
  simp(maxSteps:=9^7) (disch:=first|exact dI|fail) only[push_cast,seval]
  refine ae.pure hl rfl ?_
  simp(maxSteps:=9^7) (disch:=first|exact dI|fail) only[push_cast,seval]
 ·cases b with
  | true=>
    have h37:=(hb (.inr rfl)).1
    rw[if_pos (.inr rfl)]
    simp(maxSteps:=9^7) (disch:=first|exact dI|fail) only[F14,push_cast,seval]
    refine ae.pure h15 rfl ?_
    simp(maxSteps:=9^7) (disch:=first|exact dI|fail) only[hc,push_cast,seval]
    refine ae.pure h16 rfl ?_
    simp(maxSteps:=9^7) (disch:=first|exact dI|fail) only[push_cast,seval]
    refine ae.pure h37 rfl ?_
    simp(maxSteps:=9^7) (disch:=first|exact dI|fail) only[push_cast,seval]
    refine ae.pure hl rfl ?_
    simp(maxSteps:=9^7) (disch:=first|exact dI|fail) only[push_cast,seval]
  | false=>
    rw[if_neg (by simp[hc])]
    simp(maxSteps:=9^7) (disch:=first|exact dI|fail) only[F14,push_cast,seval]
    refine ae.pure h15 rfl ?_
    simp(maxSteps:=9^7) (disch:=first|exact dI|fail) only[hc,push_cast,seval]
    refine ae.pure h16 rfl ?_
    simp(maxSteps:=9^7) (disch:=first|exact dI|fail) only[push_cast,seval]
end Go.Proofs.YtamoeblcphjbaaaGreatDoor

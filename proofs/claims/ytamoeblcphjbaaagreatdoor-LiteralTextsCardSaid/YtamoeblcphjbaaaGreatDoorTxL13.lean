/- A part of the proof for LiteralTextsCardSaid. -/
import Derived.Test.YtamoeblcphjbaaaGreatDoorTxL9
set_option maxRecDepth 100000
set_option linter.unusedVariables false
set_option linter.unusedSimpArgs false
namespace Go.Proofs.YtamoeblcphjbaaaGreatDoor
open Go Go.Ab Go.RowKit
theorem mV:∀ (L:List (Int×Val)) (i:Nat),i1 i L=0→∀ (j:Nat) (q:Int×Val),L[j]? = some q→bf (i+j) q=0
 | [],_,_,j,q,h=>by simp at h
 | p::r,i,h,0,q,hq=>by
   simp only[List.getElem?_cons_zero,Option.some.injEq] at hq
   subst hq
   unfold i1 at h
   split at h
   ·rename_i hs;exact hs
   ·exact absurd h ‹_›
 | p::r,i,h,j+1,q,hq=>by
   unfold i1 at h
   split at h
   ·have:=mV r (i+1) h j q (by simpa using hq)
    rwa [show i+1+j=i+(j+1) by omega] at this
   ·exact absurd h ‹_›
def DW (x:Val):Prop:=1≤x.kind∧x.kind≤10∧az x=true∧aS x=0
theorem js {i:Nat}{q:Int×Val}(h:bf i q=0):i<4096∧DW q.2:=by
 by_cases c1:4096≤i
 ·rw[Cs c1] at h;omega
 by_cases c2:8<q.1
 ·rw[sB c1 c2] at h;omega
 cases c3:bt q.2 with
 | true=>rw[sA c1 c2 c3] at h;omega
 | false=>
   by_cases c4:q.2.kind<1∨10<q.2.kind
   ·rw[sy c1 c2 c3 c4] at h;omega
   cases c5:az q.2 with
   | false=>rw[sx c1 c2 c3 c4 c5] at h;omega
   | true=>
     rw[sw c1 c2 c3 c4 c5] at h
     exact⟨by omega,by omega,by omega,c5,h⟩
def EF (n:Nat)(lv:Int)(v:Val):Prop:=∀ q∈aX n lv v,DW q.2
theorem vq {n:Nat}{lv:Int}{v:Val}(h:i1 0 (aX n lv v)=0):EF n lv v∧(aX n lv v).length≤4096:=by
 refine⟨fun q hq=>?_,?_⟩
 ·obtain⟨j,hj⟩:=List.getElem?_of_mem hq
  exact (js (mV _ 0 h j q hj)).2
 ·cases hL:(aX n lv v).length with
  | zero=>omega
  | succ k=>
    have hk:(aX n lv v)[k]? = some (aX n lv v)[k]:=List.getElem?_eq_getElem (by omega)
    have:=(js (mV _ 0 h k _ hk)).1
    omega
theorem dj {n:Nat}{lv:Int}{v x:Val}(h:EF (n+1) lv v)(hx:x∈aQ v):EF n (wrap64 (lv+1)) x:=fun q hq=>by
 refine h q ?_
 rw[aX]
 exact List.mem_cons_of_mem _ (List.mem_flatMap.2 ⟨x,hx,hq⟩)
theorem gi {n:Nat}{lv:Int}{v:Val}(h:EF (n+1) lv v):DW v:=h (lv,v) (by rw[aX];exact List.mem_cons_self)
theorem jW:∀ (L:List (List UInt8)) (p:Option (List UInt8)),dg p L=0→∀ s∈L,cn s=true
 | [],_,_,s,hs=>by simp at hs
 | a::r,p,h,s,hs=>by
   unfold dg at h
   split at h
   ·omega
   ·rename_i ha
    split at h
    ·omega
    split at h
    ·omega
    rcases List.mem_cons.1 hs with rfl | hs
    ·simpa using ha
    ·exact jW r _ h s hs
theorem jY {s:List UInt8}(h:cn s=true):s.length≤32:=by
 unfold cn at h
 simp only[Bool.and_eq_true,decide_eq_true_eq] at h
 exact h.2.1
end Go.Proofs.YtamoeblcphjbaaaGreatDoor
set_option maxRecDepth 100000
set_option linter.unusedVariables false
set_option linter.unusedSimpArgs false
namespace Go.Proofs.YtamoeblcphjbaaaGreatDoor
open Go Go.Ab Go.RowKit
theorem cH {α β:Type}(g:α→List UInt8)(h:α→List β):∀ l:List α,(∀ x∈l,(g x).length+40≤8000*(h x).length)→(aK [44,32] (l.map g)).length≤8000*(l.flatMap h).length
 | [],_=>by simp[aK]
 | [x],hx=>by
   have:=hx x (by simp)
   simp only[List.map_cons,List.map_nil,aK,List.flatMap_cons,List.flatMap_nil,List.append_nil]
   omega
 | x::y::r,hx=>by
   have h1:=hx x (by simp)
   have h2:=cH g h (y::r) fun z hz=>hx z (List.mem_cons_of_mem _ hz)
   rw[List.flatMap_cons,List.length_append]
   simp only[List.map_cons,aK,List.length_append] at h2 ⊢
   simp only[List.length_cons,List.length_nil] at h2 ⊢
   omega
theorem Ag (s:List UInt8):(rp s).length=2*s.length+3:=by
 rw[rp,List.length_cons,List.length_cons,List.length_append,dk];rfl
theorem FF {n a b:Int}(h:dS n a b=0):a≤n∧n≤b:=by
 unfold dS at h;split at h<;>omega
theorem FS {n m e:Int}(he:e≠0)(h:dJ n m e=0):n≤m:=by
 unfold dJ at h;split at h
 ·exact absurd h he
 ·omega
theorem Bx {n s:Int}{t:List UInt8}{l:List Val}{fs:List Fld}(h:aS (.mk 2 n s t l fs)=0):-999999999999999≤n∧n≤999999999999999:=FF h
theorem jy {n s:Int}{t:List UInt8}{l:List Val}{fs:List Fld}(h:aS (.mk 3 n s t l fs)=0):IsN n s.toNat∧0≤s:=by
 rw[show aS (.mk 3 n s t l fs)=(if dS n (-999999999999999) 999999999999999=0 then dS s 0 12 else dS n (-999999999999999) 999999999999999) from rfl] at h
 split at h
 ·rename_i h0
  have h1:=FF h0
  have h2:=FF h
  exact⟨⟨h1.1,h1.2,by omega⟩,h2.1⟩
 ·exact absurd h ‹_›
theorem sO {n s:Int}{t:List UInt8}{l:List Val}{fs:List Fld}(h:aS (.mk 4 n s t l fs)=0):t.length≤1024:=by
 rw[show aS (.mk 4 n s t l fs)=(if dJ t.length 1024 5=0 then (if Lib.validD t=true then 0 else 16) else dJ t.length 1024 5) from rfl] at h
 split at h
 ·rename_i h0
  have:=FS (by omega) h0;omega
 ·exact absurd h ‹_›
theorem sN {n s:Int}{t:List UInt8}{l:List Val}{fs:List Fld}(h:aS (.mk 5 n s t l fs)=0):t.length≤1024:=by
 have:=FS (n:=(t.length:Int)) (m:=1024) (e:=5) (by omega) h;omega
theorem sM {n s:Int}{t:List UInt8}{l:List Val}{fs:List Fld}(h:aS (.mk 6 n s t l fs)=0):-719162≤n∧n≤2932896:=FF h
theorem sL {n s:Int}{t:List UInt8}{l:List Val}{fs:List Fld}(h:aS (.mk 7 n s t l fs)=0):-62135596800000≤n∧n≤253402300799999:=FF h
theorem Bw {n s:Int}{t:List UInt8}{l:List Val}{fs:List Fld}(h:aS (.mk 8 n s t l fs)=0):l.length≤256:=by
 have:=FS (n:=(l.length:Int)) (m:=256) (e:=9) (by omega) h;omega
theorem sK {n s:Int}{t:List UInt8}{l:List Val}{fs:List Fld}(h:aS (.mk 9 n s t l fs)=0):fs.length≤64∧∀ x∈fs,x.name.length≤32:=by
 rw[show aS (.mk 9 n s t l fs)=(if dJ fs.length 64 9=0 then dg none (fs.map Fld.name) else dJ fs.length 64 9) from rfl] at h
 split at h
 ·rename_i h0
  have h1:=FS (by omega) h0
  exact⟨by omega,fun x hx=>jY (jW _ _ h _ (List.mem_map.2 ⟨x,hx,rfl⟩))⟩
 ·exact absurd h ‹_›
theorem lB {n s:Int}{t:List UInt8}{l:List Val}{fs:List Fld}(h:aS (.mk 10 n s t l fs)=0):t.length≤32∧∃ x,l=[x]:=by
 rw[show aS (.mk 10 n s t l fs)=(if cn t=false then 12 else if l.length=0 then 4 else dJ l.length 1 3) from rfl] at h
 split at h
 ·omega
 ·rename_i h0
  split at h
  ·omega
  ·have:=FS (n:=(l.length:Int)) (m:=1) (e:=3) (by omega) h
   exact⟨jY (by simpa using h0),List.length_eq_one_iff.1 (by omega)⟩
end Go.Proofs.YtamoeblcphjbaaaGreatDoor
set_option maxRecDepth 100000
set_option linter.unusedVariables false
set_option linter.unusedSimpArgs false
namespace Go.Proofs.YtamoeblcphjbaaaGreatDoor
open Go Go.Ab Go.RowKit
theorem DS {P:Val→Prop}(v:Val)(h:1≤v.kind∧v.kind≤10)
  (h1:∀ n s t l fs,v = .mk 1 n s t l fs→P v) (h2:∀ n s t l fs,v = .mk 2 n s t l fs→P v) (h3:∀ n s t l fs,v = .mk 3 n s t l fs→P v) (h4:∀ n s t l fs,v = .mk 4 n s t l fs→P v) (h5:∀ n s t l fs,v = .mk 5 n s t l fs→P v)
  (h6:∀ n s t l fs,v = .mk 6 n s t l fs→P v) (h7:∀ n s t l fs,v = .mk 7 n s t l fs→P v) (h8:∀ n s t l fs,v = .mk 8 n s t l fs→P v) (h9:∀ n s t l fs,v = .mk 9 n s t l fs→P v) (h10:∀ n s t l fs,v = .mk 10 n s t l fs→P v):P v:=by
 obtain⟨k,n,s,t,l,fs⟩:=v
 have hc:k=1∨k=2∨k=3∨k=4∨k=5∨k=6∨k=7∨k=8∨k=9∨k=10:=by simp only[Val.kind] at h;omega
 rcases hc with rfl | rfl | rfl | rfl | rfl | rfl | rfl | rfl | rfl | rfl
 ·exact h1 _ _ _ _ _ rfl
 ·exact h2 _ _ _ _ _ rfl
 ·exact h3 _ _ _ _ _ rfl
 ·exact h4 _ _ _ _ _ rfl
 ·exact h5 _ _ _ _ _ rfl
 ·exact h6 _ _ _ _ _ rfl
 ·exact h7 _ _ _ _ _ rfl
 ·exact h8 _ _ _ _ _ rfl
 ·exact h9 _ _ _ _ _ rfl
 ·exact h10 _ _ _ _ _ rfl
theorem d7:∀ (f:Nat) (lv:Int) (v:Val),fl f v→EF f lv v→(aq f v).length+100≤8000*(aX f lv v).length
 | 0,_,_,hd,_=>hd.elim
 | f+1,lv,v,hd,hg=>by
   obtain⟨k1,k2,hu,hr⟩:=gi hg
   have hlen:(aX (f+1) lv v).length=((aQ v).flatMap (aX f (wrap64 (lv+1)))).length+1:=by rw[aX,List.length_cons]
   have ih:∀ x∈aQ v,(aq f x).length+100≤8000*(aX f (wrap64 (lv+1)) x).length:=fun x hx=>d7 f _ x (hd x hx) (dj hg hx)
   rw[hlen]
   clear hlen hg hd
   refine DS (P:=fun v=>aS v=0→(∀ x∈aQ v,(aq f x).length+100≤8000*(aX f (wrap64 (lv+1)) x).length)→(aq (f+1) v).length+100≤8000*(((aQ v).flatMap (aX f (wrap64 (lv+1)))).length+1)) v ⟨k1,k2⟩ ?_ ?_ ?_ ?_ ?_ ?_ ?_ ?_ ?_ ?_ hr ih<;>(rintro n s t l fs rfl hr ih)
   ·rw[show aq (f+1) (.mk 1 n s t l fs)=(if n=1 then [116,114,117,101] else [102,97,108,115,101]) from rfl]
    split<;>simp<;>omega
   ·rw[show aq (f+1) (.mk 2 n s t l fs)=bW n from rfl]
    have:=gh n;omega
   ·rw[show aq (f+1) (.mk 3 n s t l fs)=vW n s.toNat++(if s=0 then [100] else []) from rfl,List.length_append]
    have:=iZ (jy hr).1
    split<;>simp<;>omega
   ·rw[show aq (f+1) (.mk 4 n s t l fs)=a8 t from rfl]
    have:=cl t
    have:=sO hr;omega
   ·rw[show aq (f+1) (.mk 5 n s t l fs)=rp t from rfl,Ag]
    have:=sN hr;omega
   ·rw[show aq (f+1) (.mk 6 n s t l fs)=[100,97,116,101,32]++a8 (qG n) from rfl,List.length_append]
    have h1:=(mT (sM hr)).2.2
    have:=cl (qG n)
    simp only[List.length_cons,List.length_nil];omega
   ·rw[show aq (f+1) (.mk 7 n s t l fs)=[116,105,109,101,32]++a8 (eG n) from rfl,List.length_append]
    have h1:=(iz (sL hr)).2.2
    have:=cl (eG n)
    simp only[List.length_cons,List.length_nil];omega
   ·rw[show aq (f+1) (.mk 8 n s t l fs)=[91]++aK [44,32] (l.map (aq f))++[93] from rfl]
    rw[bx (.inl rfl)] at ih ⊢
    have:=cH (aq f) (aX f (wrap64 (lv+1))) l fun x hx=>by have:=ih x hx;omega
    simp only[Val.lst,List.length_append,List.length_cons,List.length_nil] at this ⊢;omega
   ·rw[show aq (f+1) (.mk 9 n s t l fs)=[123]++aK [44,32] (fs.map (dV f))++[125] from rfl]
    rw[dw rfl] at ih ⊢
    obtain⟨_,hn⟩:=sK hr
    have:=cH (dV f) (fun x=>aX f (wrap64 (lv+1)) x.value) fs fun x hx=>by
     have h1:=ih x.value (List.mem_map.2 ⟨x,hx,rfl⟩)
     have h2:=hn x hx
     unfold dV
     simp only[List.length_append,List.length_cons,List.length_nil];omega
    simp only[Val.fields,List.flatMap_map,List.length_append,List.length_cons,List.length_nil] at this ⊢;omega
   ·obtain⟨h1,x,rfl⟩:=lB hr
    rw[show aq (f+1) (.mk 10 n s t [x] fs)=t++[40]++aq f x++[41] from rfl]
    rw[bx (.inr rfl)] at ih ⊢
    have:=ih x (by simp[Val.lst])
    simp only[Val.lst,List.flatMap_cons,List.flatMap_nil,List.append_nil,List.length_append,List.length_cons,List.length_nil];omega
end Go.Proofs.YtamoeblcphjbaaaGreatDoor
set_option maxRecDepth 100000
set_option linter.unusedVariables false
set_option linter.unusedSimpArgs false
namespace Go.Proofs.YtamoeblcphjbaaaGreatDoor
open Go Go.Ab Go.RowKit
theorem iH {α β:Type}(h:α→List β):∀ {l:List α} {x:α},x∈l→(h x).length≤(l.flatMap h).length
 | y::r,x,hx=>by
   rw[List.flatMap_cons,List.length_append]
   rcases List.mem_cons.1 hx with rfl | hx
   ·omega
   ·have:=iH h hx;omega
theorem da {α β:Type}(h:α→List β):∀ (l:List α) (i:Nat),((l.take i).flatMap h).length≤(l.flatMap h).length
 | [],i=>by simp
 | x::r,0=>by simp
 | x::r,i+1=>by
   have:=da h r i
   rw[List.take_succ_cons,List.flatMap_cons,List.flatMap_cons,List.length_append,List.length_append];omega
theorem jn:∀ (f:Nat) (lv:Int) (v:Val),fl f v→EF f lv v→(aX f lv v).length≤4096→aw Tryz.prog aD 37 [v.pv] (.str (aq f v))
 | 0,_,_,hd,_,_=>hd.elim
 | f+1,lv,v,hd,hg,hc=>by
   obtain⟨k1,k2,hu,hr⟩:=gi hg
   have hlen:(aX (f+1) lv v).length=((aQ v).flatMap (aX f (wrap64 (lv+1)))).length+1:=by rw[aX,List.length_cons]
   rw[hlen] at hc
   have hx:∀ x∈aQ v,(aq f x).length+100≤8000*(aX f (wrap64 (lv+1)) x).length∧(aX f (wrap64 (lv+1)) x).length≤4096∧aw Tryz.prog aD 37 [x.pv] (.str (aq f x)):=fun x hx=>by
    have h1:=iH (aX f (wrap64 (lv+1))) hx
    exact⟨d7 f _ x (hd x hx) (dj hg hx),by omega,jn f _ x (hd x hx) (dj hg hx) (by omega)⟩
   clear hlen hg hd
   refine DS (P:=fun v=>aS v=0→((aQ v).flatMap (aX f (wrap64 (lv+1)))).length+1≤4096→(∀ x∈aQ v,(aq f x).length+100≤8000*(aX f (wrap64 (lv+1)) x).length∧(aX f (wrap64 (lv+1)) x).length≤4096∧aw Tryz.prog aD 37 [x.pv] (.str (aq f x)))→aw Tryz.prog aD 37 [v.pv] (.str (aq (f+1) v))) v ⟨k1,k2⟩ ?_ ?_ ?_ ?_ ?_ ?_ ?_ ?_ ?_ ?_ hr hc hx<;>(rintro n s t l fs rfl hr hc hx)
   ·exact xK f n s t l fs
   ·exact xJ f n s t l fs (Bx hr)
   ·exact xI f n s t l fs (jy hr).1 (jy hr).2
   ·exact xH f n s t l fs (sO hr)
   ·exact xG f n s t l fs (sN hr)
   ·exact xF f n s t l fs (sM hr)
   ·exact xE f n s t l fs (sL hr)
   ·rw[bx (.inl rfl)] at hc hx
    simp only[Val.lst] at hc hx
    exact xD f n s t l fs (fun x h=>(hx x h).2.2) (Bw hr) (by
     have:=cH (aq f) (aX f (wrap64 (lv+1))) l fun x h=>by have:=(hx x h).1;omega
     omega)
   ·rw[dw rfl] at hc hx
    obtain⟨hN,hn⟩:=sK hr
    simp only[Val.fields,List.flatMap_map] at hc hx
    have hy:∀ x∈fs,(aq f x.value).length+100≤8000*(aX f (wrap64 (lv+1)) x.value).length∧(aX f (wrap64 (lv+1)) x.value).length≤4096∧aw Tryz.prog aD 37 [x.value.pv] (.str (aq f x.value)):=fun x h=>hx x.value (List.mem_map.2 ⟨x,h,rfl⟩)
    have hs:∀ x∈fs,(dV f x).length+40≤8000*(aX f (wrap64 (lv+1)) x.value).length:=fun x h=>by
     have h1:=(hy x h).1
     have h2:=hn x h
     unfold dV
     simp only[List.length_append,List.length_cons,List.length_nil];omega
    exact xC f n s t l fs (fun x h=>(hy x h).2.2) hN (fun x h=>⟨by have:=hn x h;omega,by have:=hy x h;omega⟩) (by
     have:=cH (dV f) (fun x=>aX f (wrap64 (lv+1)) x.value) fs hs
     omega)
   ·obtain⟨h1,x,rfl⟩:=lB hr
    rw[bx (.inr rfl)] at hx
    obtain⟨a1,a2,a3⟩:=hx x (by simp[Val.lst])
    exact r7 f n s t fs x a3 (by omega) (by omega)
theorem jo:∀ (f:Nat) (lv:Int) (v:Val),fl f v→EF f lv v→(aX f lv v).length≤4096→aw Tryz.prog aD 17 [v.pv] (.str (aq f v))
 | 0,_,_,hd,_,_=>hd.elim
 | f+1,lv,v,hd,hg,hc=>by
   obtain⟨k1,k2,hu,hr⟩:=gi hg
   have hlen:(aX (f+1) lv v).length=((aQ v).flatMap (aX f (wrap64 (lv+1)))).length+1:=by rw[aX,List.length_cons]
   rw[hlen] at hc
   have hx:∀ x∈aQ v,(aq f x).length+100≤8000*(aX f (wrap64 (lv+1)) x).length∧(aX f (wrap64 (lv+1)) x).length≤4096∧aw Tryz.prog aD 17 [x.pv] (.str (aq f x)):=fun x hx=>by
    have h1:=iH (aX f (wrap64 (lv+1))) hx
    exact⟨d7 f _ x (hd x hx) (dj hg hx),by omega,jo f _ x (hd x hx) (dj hg hx) (by omega)⟩
   clear hlen hg hd
   refine DS (P:=fun v=>aS v=0→((aQ v).flatMap (aX f (wrap64 (lv+1)))).length+1≤4096→(∀ x∈aQ v,(aq f x).length+100≤8000*(aX f (wrap64 (lv+1)) x).length∧(aX f (wrap64 (lv+1)) x).length≤4096∧aw Tryz.prog aD 17 [x.pv] (.str (aq f x)))→aw Tryz.prog aD 17 [v.pv] (.str (aq (f+1) v))) v ⟨k1,k2⟩ ?_ ?_ ?_ ?_ ?_ ?_ ?_ ?_ ?_ ?_ hr hc hx<;>(rintro n s t l fs rfl hr hc hx)
   ·exact xU f n s t l fs
   ·exact xT f n s t l fs (Bx hr)
   ·exact xS f n s t l fs (jy hr).1 (jy hr).2
   ·exact xR f n s t l fs (sO hr)
   ·exact xQ f n s t l fs (sN hr)
   ·exact xP f n s t l fs (sM hr)
   ·exact xO f n s t l fs (sL hr)
   ·rw[bx (.inl rfl)] at hc hx
    simp only[Val.lst] at hc hx
    exact xN f n s t l fs (fun x h=>(hx x h).2.2) (Bw hr) (fun i=>by
     have h1:=cH (aq f) (aX f (wrap64 (lv+1))) (l.take i) fun x h=>by have:=(hx x (List.mem_of_mem_take h)).1;omega
     have h2:=da (aX f (wrap64 (lv+1))) l i
     omega) (fun x h=>by have:=hx x h;omega)
   ·rw[dw rfl] at hc hx
    obtain⟨hN,hn⟩:=sK hr
    simp only[Val.fields,List.flatMap_map] at hc hx
    have hy:∀ x∈fs,(aq f x.value).length+100≤8000*(aX f (wrap64 (lv+1)) x.value).length∧(aX f (wrap64 (lv+1)) x.value).length≤4096∧aw Tryz.prog aD 17 [x.value.pv] (.str (aq f x.value)):=fun x h=>hx x.value (List.mem_map.2 ⟨x,h,rfl⟩)
    have hs:∀ x∈fs,(dV f x).length+40≤8000*(aX f (wrap64 (lv+1)) x.value).length:=fun x h=>by
     have h1:=(hy x h).1
     have h2:=hn x h
     unfold dV
     simp only[List.length_append,List.length_cons,List.length_nil];omega
    exact xM f n s t l fs (fun x h=>(hy x h).2.2) hN (fun i=>by
     have h1:=cH (dV f) (fun x=>aX f (wrap64 (lv+1)) x.value) (fs.take i) fun x h=>hs x (List.mem_of_mem_take h)
     have h2:=da (fun x:Fld=>aX f (wrap64 (lv+1)) x.value) fs i
     omega) (fun x h=>⟨by have:=hn x h;omega,by have:=hy x h;omega⟩)
   ·obtain⟨h1,x,rfl⟩:=lB hr
    rw[bx (.inr rfl)] at hx
    obtain⟨a1,a2,a3⟩:=hx x (by simp[Val.lst])
    exact r8 f n s t fs x a3 (by omega) (by omega)
end Go.Proofs.YtamoeblcphjbaaaGreatDoor
set_option maxRecDepth 100000
set_option linter.unusedVariables false
set_option linter.unusedSimpArgs false
-- many steps
namespace Go.Proofs.YtamoeblcphjbaaaGreatDoor
open Go Go.Ab Go.RowKit
attribute [local irreducible] vc
def FX (x:List UInt8):List UInt8:=if 65536<x.length then [] else x
def FY (x:List UInt8):Int:=if 65536<x.length then 5 else 0
theorem uR (x:List UInt8):aw Tryz.prog aD 36 [.str x] (.tup [.str (FX x),.int .i64 (FY x)]):=by
 unfold FX FY
 refine aw.intro Hy (by simp[F36]) ?_
 by_cases h:65536<x.length
 ·have hI:(65536:Int)<(x.length:Int):=by omega
  rw[if_pos h,if_pos h]
  simp(maxSteps:=9^7) (disch:=first|exact dI|fail) only[F36,hI,push_cast,seval]
 ·have hI:¬ (65536:Int)<(x.length:Int):=by omega
  rw[if_neg h,if_neg h]
  simp(maxSteps:=9^7) (disch:=first|exact dI|fail) only[F36,hI,push_cast,seval]
theorem jU {v:Val}(h:bt v=true):v.kind=0:=by
 obtain⟨k,n,s,t,l,fs⟩:=v
 simp only[bt,Bool.and_eq_true,decide_eq_true_eq] at h
 exact h.1
theorem Ji {f:Nat}{v:Val}(hd:fl (f+1) v)(h:i1 0 (aX (f+1) 1 v)=0∨bt v=true) :
  aw Tryz.prog aD 37 [v.pv] (.str (aq (f+1) v))∧aw Tryz.prog aD 17 [v.pv] (.str (aq (f+1) v)):=by
 rcases h with h | h
 ·obtain⟨hg,hc⟩:=vq h
  exact⟨jn (f+1) 1 v hd hg hc,jo (f+1) 1 v hd hg hc⟩
 ·have hk:=jU h
  obtain⟨k,n,s,t,l,fs⟩:=v
  simp only[Val.kind] at hk
  subst hk
  exact⟨xL f n s t l fs,xV f n s t l fs⟩
theorem E3 {f:Nat}{v:Val}(hd:fl (f+1) v)(hv:v.ok) :
  aw Tryz.prog aD 14 [v.pv] (if i1 0 (aX (f+1) 1 v)=0∨bt v=true then .tup [.str (FX (aq (f+1) v)),.int .i64 (FY (aq (f+1) v))] else .tup [.str [],.int .i64 (i1 0 (aX (f+1) 1 v))]):=by
 have h15:=fB (f+1) v hd hv
 have h16:=l7 v
 have hb:=Ji hd
 have hl:=uR (aq (f+1) v)
 generalize i1 0 (aX (f+1) 1 v)=c at *
 generalize aq (f+1) v=X at *
 generalize FX X=S at *
 generalize FY X=E at *
 generalize bt v=b at *
 obtain⟨k,n,s,t,l,fs⟩:=v
 simp only[Val.pv_mk] at h15 h16 hb ⊢
 refine aw.intro HM (by simp[F14]) ?_
 by_cases hc:c=0
 ·have h37:=(hb (.inl hc)).1
  rw[if_pos (.inl hc)]
  subst hc
  simp(maxSteps:=9^7) (disch:=first|exact dI|fail) only[F14,push_cast,seval]
  refine ae.pure h15 rfl ?_
  simp(maxSteps:=9^7) (disch:=first|exact dI|fail) only[push_cast,seval]
  refine ae.pure h37 rfl ?_
  simp(maxSteps:=9^7) (disch:=first|exact dI|fail) only[push_cast,seval]
  refine ae.pure hl rfl ?_
  simp(maxSteps:=9^7) (disch:=first|exact dI|fail) only[push_cast,seval]
 ·cases b with
  | true=>
    have h37:=(hb (.inr rfl)).1
    rw[if_pos (.inr rfl)]
    simp(maxSteps:=9^7) (disch:=first|exact dI|fail) only[F14,push_cast,seval]
    refine ae.pure h15 rfl ?_
    simp(maxSteps:=9^7) (disch:=first|exact dI|fail) only[hc,push_cast,seval]
    refine ae.pure h16 rfl ?_
    simp(maxSteps:=9^7) (disch:=first|exact dI|fail) only[push_cast,seval]
    refine ae.pure h37 rfl ?_
    simp(maxSteps:=9^7) (disch:=first|exact dI|fail) only[push_cast,seval]
    refine ae.pure hl rfl ?_
    simp(maxSteps:=9^7) (disch:=first|exact dI|fail) only[push_cast,seval]
  | false=>
    rw[if_neg (by simp[hc])]
    simp(maxSteps:=9^7) (disch:=first|exact dI|fail) only[F14,push_cast,seval]
    refine ae.pure h15 rfl ?_
    simp(maxSteps:=9^7) (disch:=first|exact dI|fail) only[hc,push_cast,seval]
    refine ae.pure h16 rfl ?_
    simp(maxSteps:=9^7) (disch:=first|exact dI|fail) only[push_cast,seval]
end Go.Proofs.YtamoeblcphjbaaaGreatDoor

/- A part of the proof for LiteralDiffersCardSaid. -/
import Derived.Test.YtamoeblcphjbaaaGreatDoorDiL10
set_option maxRecDepth 100000
set_option linter.unusedVariables false
set_option linter.unusedSimpArgs false
namespace Go.Proofs.YtamoeblcphjbaaaGreatDoor
open Go Go.Ab Go.RowKit
theorem DI {P:Val→Prop}(v:Val)(h:1≤v.kind∧v.kind≤10)
  (h1:∀ n s t l fs,v = .mk 1 n s t l fs→P v) (h2:∀ n s t l fs,v = .mk 2 n s t l fs→P v) (h3:∀ n s t l fs,v = .mk 3 n s t l fs→P v) (h4:∀ n s t l fs,v = .mk 4 n s t l fs→P v) (h5:∀ n s t l fs,v = .mk 5 n s t l fs→P v)
  (h6:∀ n s t l fs,v = .mk 6 n s t l fs→P v) (h7:∀ n s t l fs,v = .mk 7 n s t l fs→P v) (h8:∀ n s t l fs,v = .mk 8 n s t l fs→P v) (h9:∀ n s t l fs,v = .mk 9 n s t l fs→P v) (h10:∀ n s t l fs,v = .mk 10 n s t l fs→P v):P v:=by
 obtain⟨k,n,s,t,l,fs⟩:=v
 have hc:k=1∨k=2∨k=3∨k=4∨k=5∨k=6∨k=7∨k=8∨k=9∨k=10:=by simp only[Val.kind] at h;omega
 rcases hc with rfl | rfl | rfl | rfl | rfl | rfl | rfl | rfl | rfl | rfl
 ·exact h1 _ _ _ _ _ rfl
 ·exact h2 _ _ _ _ _ rfl
 ·exact h3 _ _ _ _ _ rfl
 ·exact h4 _ _ _ _ _ rfl
 ·exact h5 _ _ _ _ _ rfl
 ·exact h6 _ _ _ _ _ rfl
 ·exact h7 _ _ _ _ _ rfl
 ·exact h8 _ _ _ _ _ rfl
 ·exact h9 _ _ _ _ _ rfl
 ·exact h10 _ _ _ _ _ rfl
theorem gw:∀ (f:Nat) (lv:Int) (v:Val),e8 f v→Ew f lv v→(am f v).length+100≤8000*(aV f lv v).length
 | 0,_,_,hd,_=>hd.elim
 | f+1,lv,v,hd,hg=>by
   obtain⟨k1,k2,hu,hr⟩:=hH hg
   have hlen:(aV (f+1) lv v).length=((aR v).flatMap (aV f (wrap64 (lv+1)))).length+1:=by rw[aV,List.length_cons]
   have ih:∀ x∈aR v,(am f x).length+100≤8000*(aV f (wrap64 (lv+1)) x).length:=fun x hx=>gw f _ x (hd x hx) (dE hg hx)
   rw[hlen]
   clear hlen hg hd
   refine DI (P:=fun v=>aT v=0→(∀ x∈aR v,(am f x).length+100≤8000*(aV f (wrap64 (lv+1)) x).length)→(am (f+1) v).length+100≤8000*(((aR v).flatMap (aV f (wrap64 (lv+1)))).length+1)) v ⟨k1,k2⟩ ?_ ?_ ?_ ?_ ?_ ?_ ?_ ?_ ?_ ?_ hr ih<;>(rintro n s t l fs rfl hr ih)
   ·rw[show am (f+1) (.mk 1 n s t l fs)=(if n=1 then [116,114,117,101] else [102,97,108,115,101]) from rfl]
    split<;>simp<;>omega
   ·rw[show am (f+1) (.mk 2 n s t l fs)=bS n from rfl]
    have:=g9 n;omega
   ·rw[show am (f+1) (.mk 3 n s t l fs)=cu n s.toNat++(if s=0 then [100] else []) from rfl,List.length_append]
    have:=j0 (iT hr).1
    split<;>simp<;>omega
   ·rw[show am (f+1) (.mk 4 n s t l fs)=aH t from rfl]
    have:=cH t
    have:=sX hr;omega
   ·rw[show am (f+1) (.mk 5 n s t l fs)=ja t from rfl,z8]
    have:=sV hr;omega
   ·rw[show am (f+1) (.mk 6 n s t l fs)=[100,97,116,101,32]++aH (mj n) from rfl,List.length_append]
    have h1:=(nu (n5 hr)).2.2
    have:=cH (mj n)
    simp only[List.length_cons,List.length_nil];omega
   ·rw[show am (f+1) (.mk 7 n s t l fs)=[116,105,109,101,32]++aH (dZ n) from rfl,List.length_append]
    have h1:=(jx (n3 hr)).2.2
    have:=cH (dZ n)
    simp only[List.length_cons,List.length_nil];omega
   ·rw[show am (f+1) (.mk 8 n s t l fs)=[91]++aE [44,32] (l.map (am f))++[93] from rfl]
    rw[bJ (.inl rfl)] at ih ⊢
    have:=da (am f) (aV f (wrap64 (lv+1))) l fun x hx=>by have:=ih x hx;omega
    simp only[Val.lst,List.length_append,List.length_cons,List.length_nil] at this ⊢;omega
   ·rw[show am (f+1) (.mk 9 n s t l fs)=[123]++aE [44,32] (fs.map (eA f))++[125] from rfl]
    rw[dP rfl] at ih ⊢
    obtain⟨_,hn⟩:=sU hr
    have:=da (eA f) (fun x=>aV f (wrap64 (lv+1)) x.value) fs fun x hx=>by
     have h1:=ih x.value (List.mem_map.2 ⟨x,hx,rfl⟩)
     have h2:=hn x hx
     unfold eA
     simp only[List.length_append,List.length_cons,List.length_nil];omega
    simp only[Val.fields,List.flatMap_map,List.length_append,List.length_cons,List.length_nil] at this ⊢;omega
   ·obtain⟨h1,x,rfl⟩:=jD hr
    rw[show am (f+1) (.mk 10 n s t [x] fs)=t++[40]++am f x++[41] from rfl]
    rw[bJ (.inr rfl)] at ih ⊢
    have:=ih x (by simp[Val.lst])
    simp only[Val.lst,List.flatMap_cons,List.flatMap_nil,List.append_nil,List.length_append,List.length_cons,List.length_nil];omega
end Go.Proofs.YtamoeblcphjbaaaGreatDoor
namespace Go.Proofs.YtamoeblcphjbaaaGreatDoor
open Go Go.Ab Go.RowKit
theorem jJ {α β:Type}(h:α→List β):∀ {l:List α} {x:α},x∈l→(h x).length≤(l.flatMap h).length
 | y::r,x,hx=>by
   rw[List.flatMap_cons,List.length_append]
   rcases List.mem_cons.1 hx with rfl | hx
   ·omega
   ·have:=jJ h hx;omega
theorem dw {α β:Type}(h:α→List β):∀ (l:List α) (i:Nat),((l.take i).flatMap h).length≤(l.flatMap h).length
 | [],i=>by simp
 | x::r,0=>by simp
 | x::r,i+1=>by
   have:=dw h r i
   rw[List.take_succ_cons,List.flatMap_cons,List.flatMap_cons,List.length_append,List.length_append];omega
theorem ku:∀ (f:Nat) (lv:Int) (v:Val),e8 f v→Ew f lv v→(aV f lv v).length≤4096→aq Tryz.prog aC 37 [v.pv] (.str (am f v))
 | 0,_,_,hd,_,_=>hd.elim
 | f+1,lv,v,hd,hg,hc=>by
   obtain⟨k1,k2,hu,hr⟩:=hH hg
   have hlen:(aV (f+1) lv v).length=((aR v).flatMap (aV f (wrap64 (lv+1)))).length+1:=by rw[aV,List.length_cons]
   rw[hlen] at hc
   have hx:∀ x∈aR v,(am f x).length+100≤8000*(aV f (wrap64 (lv+1)) x).length∧(aV f (wrap64 (lv+1)) x).length≤4096∧aq Tryz.prog aC 37 [x.pv] (.str (am f x)):=fun x hx=>by
    have h1:=jJ (aV f (wrap64 (lv+1))) hx
    exact⟨gw f _ x (hd x hx) (dE hg hx),by omega,ku f _ x (hd x hx) (dE hg hx) (by omega)⟩
   clear hlen hg hd
   refine DI (P:=fun v=>aT v=0→((aR v).flatMap (aV f (wrap64 (lv+1)))).length+1≤4096→(∀ x∈aR v,(am f x).length+100≤8000*(aV f (wrap64 (lv+1)) x).length∧(aV f (wrap64 (lv+1)) x).length≤4096∧aq Tryz.prog aC 37 [x.pv] (.str (am f x)))→aq Tryz.prog aC 37 [v.pv] (.str (am (f+1) v))) v ⟨k1,k2⟩ ?_ ?_ ?_ ?_ ?_ ?_ ?_ ?_ ?_ ?_ hr hc hx<;>(rintro n s t l fs rfl hr hc hx)
   ·exact xr f n s t l fs
   ·exact xq f n s t l fs (sY hr)
   ·exact xp f n s t l fs (iT hr).1 (iT hr).2
   ·exact xo f n s t l fs (sX hr)
   ·exact xm f n s t l fs (sV hr)
   ·exact xj f n s t l fs (n5 hr)
   ·exact xi f n s t l fs (n3 hr)
   ·rw[bJ (.inl rfl)] at hc hx
    simp only[Val.lst] at hc hx
    exact xh f n s t l fs (fun x h=>(hx x h).2.2) (A9 hr) (by
     have:=da (am f) (aV f (wrap64 (lv+1))) l fun x h=>by have:=(hx x h).1;omega
     omega)
   ·rw[dP rfl] at hc hx
    obtain⟨hN,hn⟩:=sU hr
    simp only[Val.fields,List.flatMap_map] at hc hx
    have hy:∀ x∈fs,(am f x.value).length+100≤8000*(aV f (wrap64 (lv+1)) x.value).length∧(aV f (wrap64 (lv+1)) x.value).length≤4096∧aq Tryz.prog aC 37 [x.value.pv] (.str (am f x.value)):=fun x h=>hx x.value (List.mem_map.2 ⟨x,h,rfl⟩)
    have hs:∀ x∈fs,(eA f x).length+40≤8000*(aV f (wrap64 (lv+1)) x.value).length:=fun x h=>by
     have h1:=(hy x h).1
     have h2:=hn x h
     unfold eA
     simp only[List.length_append,List.length_cons,List.length_nil];omega
    exact xg f n s t l fs (fun x h=>(hy x h).2.2) hN (fun x h=>⟨by have:=hn x h;omega,by have:=hy x h;omega⟩) (by
     have:=da (eA f) (fun x=>aV f (wrap64 (lv+1)) x.value) fs hs
     omega)
   ·obtain⟨h1,x,rfl⟩:=jD hr
    rw[bJ (.inr rfl)] at hx
    obtain⟨a1,a2,a3⟩:=hx x (by simp[Val.lst])
    exact sn f n s t fs x a3 (by omega) (by omega)
theorem kv:∀ (f:Nat) (lv:Int) (v:Val),e8 f v→Ew f lv v→(aV f lv v).length≤4096→aq Tryz.prog aC 17 [v.pv] (.str (am f v))
 | 0,_,_,hd,_,_=>hd.elim
 | f+1,lv,v,hd,hg,hc=>by
   obtain⟨k1,k2,hu,hr⟩:=hH hg
   have hlen:(aV (f+1) lv v).length=((aR v).flatMap (aV f (wrap64 (lv+1)))).length+1:=by rw[aV,List.length_cons]
   rw[hlen] at hc
   have hx:∀ x∈aR v,(am f x).length+100≤8000*(aV f (wrap64 (lv+1)) x).length∧(aV f (wrap64 (lv+1)) x).length≤4096∧aq Tryz.prog aC 17 [x.pv] (.str (am f x)):=fun x hx=>by
    have h1:=jJ (aV f (wrap64 (lv+1))) hx
    exact⟨gw f _ x (hd x hx) (dE hg hx),by omega,kv f _ x (hd x hx) (dE hg hx) (by omega)⟩
   clear hlen hg hd
   refine DI (P:=fun v=>aT v=0→((aR v).flatMap (aV f (wrap64 (lv+1)))).length+1≤4096→(∀ x∈aR v,(am f x).length+100≤8000*(aV f (wrap64 (lv+1)) x).length∧(aV f (wrap64 (lv+1)) x).length≤4096∧aq Tryz.prog aC 17 [x.pv] (.str (am f x)))→aq Tryz.prog aC 17 [v.pv] (.str (am (f+1) v))) v ⟨k1,k2⟩ ?_ ?_ ?_ ?_ ?_ ?_ ?_ ?_ ?_ ?_ hr hc hx<;>(rintro n s t l fs rfl hr hc hx)
   ·exact xE f n s t l fs
   ·exact xD f n s t l fs (sY hr)
   ·exact xC f n s t l fs (iT hr).1 (iT hr).2
   ·exact xB f n s t l fs (sX hr)
   ·exact xA f n s t l fs (sV hr)
   ·exact xz f n s t l fs (n5 hr)
   ·exact xy f n s t l fs (n3 hr)
   ·rw[bJ (.inl rfl)] at hc hx
    simp only[Val.lst] at hc hx
    exact xx f n s t l fs (fun x h=>(hx x h).2.2) (A9 hr) (fun i=>by
     have h1:=da (am f) (aV f (wrap64 (lv+1))) (l.take i) fun x h=>by have:=(hx x (List.mem_of_mem_take h)).1;omega
     have h2:=dw (aV f (wrap64 (lv+1))) l i
     omega) (fun x h=>by have:=hx x h;omega)
   ·rw[dP rfl] at hc hx
    obtain⟨hN,hn⟩:=sU hr
    simp only[Val.fields,List.flatMap_map] at hc hx
    have hy:∀ x∈fs,(am f x.value).length+100≤8000*(aV f (wrap64 (lv+1)) x.value).length∧(aV f (wrap64 (lv+1)) x.value).length≤4096∧aq Tryz.prog aC 17 [x.value.pv] (.str (am f x.value)):=fun x h=>hx x.value (List.mem_map.2 ⟨x,h,rfl⟩)
    have hs:∀ x∈fs,(eA f x).length+40≤8000*(aV f (wrap64 (lv+1)) x.value).length:=fun x h=>by
     have h1:=(hy x h).1
     have h2:=hn x h
     unfold eA
     simp only[List.length_append,List.length_cons,List.length_nil];omega
    exact xw f n s t l fs (fun x h=>(hy x h).2.2) hN (fun i=>by
     have h1:=da (eA f) (fun x=>aV f (wrap64 (lv+1)) x.value) (fs.take i) fun x h=>hs x (List.mem_of_mem_take h)
     have h2:=dw (fun x:Fld=>aV f (wrap64 (lv+1)) x.value) fs i
     omega) (fun x h=>⟨by have:=hn x h;omega,by have:=hy x h;omega⟩)
   ·obtain⟨h1,x,rfl⟩:=jD hr
    rw[bJ (.inr rfl)] at hx
    obtain⟨a1,a2,a3⟩:=hx x (by simp[Val.lst])
    exact sq f n s t fs x a3 (by omega) (by omega)
end Go.Proofs.YtamoeblcphjbaaaGreatDoor
-- many steps
namespace Go.Proofs.YtamoeblcphjbaaaGreatDoor
open Go Go.Ab Go.RowKit
attribute [local irreducible] vc
def ES (x:List UInt8):List UInt8:=if 65536<x.length then [] else x
def ET (x:List UInt8):Int:=if 65536<x.length then 5 else 0
theorem uQ (x:List UInt8):aq Tryz.prog aC 36 [.str x] (.tup [.str (ES x),.int .i64 (ET x)]):=by
 unfold ES ET
 refine aq.intro HE (by simp[F36]) ?_
 by_cases h:65536<x.length
 ·have hI:(65536:Int)<(x.length:Int):=by omega
  rw[if_pos h,if_pos h]
  simp(disch:=try exact dI) only[F36,hI,push_cast,seval]
 ·have hI:¬ (65536:Int)<(x.length:Int):=by omega
  rw[if_neg h,if_neg h]
  simp(disch:=try exact dI) only[F36,hI,push_cast,seval]
theorem ld {v:Val}(h:bx v=true):v.kind=0:=by
 obtain⟨k,n,s,t,l,fs⟩:=v
 simp only[bx,Bool.and_eq_true,decide_eq_true_eq] at h
 exact h.1
theorem Ka {f:Nat}{v:Val}(hd:e8 (f+1) v)(h:jm 0 (aV (f+1) 1 v)=0∨bx v=true) :
  aq Tryz.prog aC 37 [v.pv] (.str (am (f+1) v))∧aq Tryz.prog aC 17 [v.pv] (.str (am (f+1) v)):=by
 rcases h with h | h
 ·obtain⟨hg,hc⟩:=DM h
  exact⟨ku (f+1) 1 v hd hg hc,kv (f+1) 1 v hd hg hc⟩
 ·have hk:=ld h
  obtain⟨k,n,s,t,l,fs⟩:=v
  simp only[Val.kind] at hk
  subst hk
  exact⟨xu f n s t l fs,xF f n s t l fs⟩
theorem E8 {f:Nat}{v:Val}(hd:e8 (f+1) v)(hv:v.ok) :
  aq Tryz.prog aC 14 [v.pv] (if jm 0 (aV (f+1) 1 v)=0∨bx v=true then .tup [.str (ES (am (f+1) v)),.int .i64 (ET (am (f+1) v))] else .tup [.str [],.int .i64 (jm 0 (aV (f+1) 1 v))]):=by
 have h15:=gj (f+1) v hd hv
 have h16:=uo v
 have hb:=Ka hd
 have hl:=uQ (am (f+1) v)
 generalize jm 0 (aV (f+1) 1 v)=c at *
 generalize am (f+1) v=X at *
 generalize ES X=S at *
 generalize ET X=E at *
 generalize bx v=b at *
 obtain⟨k,n,s,t,l,fs⟩:=v
 simp only[Val.pv_mk] at h15 h16 hb ⊢
 refine aq.intro HT (by simp[F14]) ?_
 by_cases hc:c=0
 ·have h37:=(hb (.inl hc)).1
  rw[if_pos (.inl hc)]
  subst hc
  simp(disch:=try exact dI) only[F14,push_cast,seval]
  refine ab.pure h15 rfl ?_
  simp(disch:=try exact dI) only[push_cast,seval]
  refine ab.pure h37 rfl ?_
  simp(disch:=try exact dI) only[push_cast,seval]
  refine ab.pure hl rfl ?_
  simp(disch:=try exact dI) only[push_cast,seval]
 ·cases b with
  | true=>
    have h37:=(hb (.inr rfl)).1
    rw[if_pos (.inr rfl)]
    simp(disch:=try exact dI) only[F14,push_cast,seval]
    refine ab.pure h15 rfl ?_
    simp(disch:=try exact dI) only[hc,push_cast,seval]
    refine ab.pure h16 rfl ?_
    simp(disch:=try exact dI) only[push_cast,seval]
    refine ab.pure h37 rfl ?_
    simp(disch:=try exact dI) only[push_cast,seval]
    refine ab.pure hl rfl ?_
    simp(disch:=try exact dI) only[push_cast,seval]
  | false=>
    rw[if_neg (by simp[hc])]
    simp(disch:=try exact dI) only[F14,push_cast,seval]
    refine ab.pure h15 rfl ?_
    simp(disch:=try exact dI) only[hc,push_cast,seval]
    refine ab.pure h16 rfl ?_
    simp(disch:=try exact dI) only[push_cast,seval]
end Go.Proofs.YtamoeblcphjbaaaGreatDoor
-- many steps
namespace Go.Proofs.YtamoeblcphjbaaaGreatDoor
open Go Go.Ab Go.RowKit
attribute [local irreducible] vc
def iD:Nat→Val→Prop
 | 0,_=>False
 | n+1,v=>(∀ x∈v.lst,iD n x)∧∀ x∈v.fields,iD n x.value
theorem iC:∀ (n:Nat) (v:Val),iD n v→iD (n+1) v
 | 0,_,h=>h.elim
 | n+1,v,h=>⟨fun x hx=>iC n x (h.1 x hx),fun x hx=>iC n x.value (h.2 x hx)⟩
theorem j7 {n m:Nat}(h:n≤m){v:Val}(hv:iD n v):iD m v:=by
 induction h with
 | refl=>exact hv
 | step _ ih=>exact iC _ _ ih
theorem nD {α:Type}(g:α→Val):∀ l:List α,(∀ x∈l,∃ n,iD n (g x))→∃ n,∀ x∈l,iD n (g x)
 | [],_=>⟨0,by simp⟩
 | x::r,h=>by
   obtain⟨n,hn⟩:=h x (by simp)
   obtain⟨m,hm⟩:=nD g r fun y hy=>h y (List.mem_cons_of_mem _ hy)
   refine⟨max n m,fun y hy=>?_⟩
   rcases List.mem_cons.1 hy with rfl | hy
   ·exact j7 (Nat.le_max_left _ _) hn
   ·exact j7 (Nat.le_max_right _ _) (hm y hy)
theorem fD (v:Val):∃ n,iD n v:=by
 obtain⟨k,n,s,t,l,fs⟩:=v
 have h1:∀ x∈l,∃ n,iD n x:=fun x hx=>fD x
 have h2:∀ x∈fs,∃ n,iD n x.value:=fun x hx=>by
  obtain⟨nm,y⟩:=x
  exact fD y
 obtain⟨a,ha⟩:=nD id l h1
 obtain⟨b,hb⟩:=nD Fld.value fs h2
 exact⟨max a b+1,fun x hx=>j7 (Nat.le_max_left _ _) (ha x hx),fun x hx=>j7 (Nat.le_max_right _ _) (hb x hx)⟩
termination_by SizeOf.sizeOf v
decreasing_by
 ·have:=List.sizeOf_lt_of_mem hx;simp;omega
 ·have:=List.sizeOf_lt_of_mem hx;simp at this ⊢;omega
theorem e7:∀ (n:Nat) (v:Val),iD n v→e8 n v
 | 0,_,h=>h
 | n+1,v,h=>fun x hx=>by
   unfold aR at hx
   split at hx
   ·exact e7 n x (h.1 x hx)
   ·split at hx
    ·obtain⟨y,hy,rfl⟩:=List.mem_map.1 hx
     exact e7 n _ (h.2 y hy)
    ·simp at hx
end Go.Proofs.YtamoeblcphjbaaaGreatDoor

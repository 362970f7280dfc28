/- A part of the proof for LiteralReadsCardSaid. -/
import Derived.Test.YtamoeblcphjbaaaGreatDoorRdL10
set_option maxRecDepth 100000
set_option linter.unusedVariables false
set_option linter.unusedSimpArgs false
namespace Go.Proofs.YtamoeblcphjbaaaGreatDoor
open Go Go.Ab Go.RowKit
theorem Ja {P:Val→Prop}(v:Val)(h:1≤v.kind∧v.kind≤10)
  (h1:∀ n s t l fs,v = .mk 1 n s t l fs→P v) (h2:∀ n s t l fs,v = .mk 2 n s t l fs→P v) (h3:∀ n s t l fs,v = .mk 3 n s t l fs→P v) (h4:∀ n s t l fs,v = .mk 4 n s t l fs→P v) (h5:∀ n s t l fs,v = .mk 5 n s t l fs→P v)
  (h6:∀ n s t l fs,v = .mk 6 n s t l fs→P v) (h7:∀ n s t l fs,v = .mk 7 n s t l fs→P v) (h8:∀ n s t l fs,v = .mk 8 n s t l fs→P v) (h9:∀ n s t l fs,v = .mk 9 n s t l fs→P v) (h10:∀ n s t l fs,v = .mk 10 n s t l fs→P v):P v:=by
 obtain⟨k,n,s,t,l,fs⟩:=v
 have hc:k=1∨k=2∨k=3∨k=4∨k=5∨k=6∨k=7∨k=8∨k=9∨k=10:=by simp only[Val.kind] at h;omega
 rcases hc with rfl | rfl | rfl | rfl | rfl | rfl | rfl | rfl | rfl | rfl
 ·exact h1 _ _ _ _ _ rfl
 ·exact h2 _ _ _ _ _ rfl
 ·exact h3 _ _ _ _ _ rfl
 ·exact h4 _ _ _ _ _ rfl
 ·exact h5 _ _ _ _ _ rfl
 ·exact h6 _ _ _ _ _ rfl
 ·exact h7 _ _ _ _ _ rfl
 ·exact h8 _ _ _ _ _ rfl
 ·exact h9 _ _ _ _ _ rfl
 ·exact h10 _ _ _ _ _ rfl
theorem jE:∀ (f:Nat) (lv:Int) (v:Val),gO f v→J8 f lv v→(aw f v).length+100≤8000*(bl f lv v).length
 | 0,_,_,hd,_=>hd.elim
 | f+1,lv,v,hd,hg=>by
   obtain⟨k1,k2,hu,hr⟩:=ku hg
   have hlen:(bl (f+1) lv v).length=((be v).flatMap (bl f (wrap64 (lv+1)))).length+1:=by rw[bl,List.length_cons]
   have ih:∀ x∈be v,(aw f x).length+100≤8000*(bl f (wrap64 (lv+1)) x).length:=fun x hx=>jE f _ x (hd x hx) (fb hg hx)
   rw[hlen]
   clear hlen hg hd
   refine Ja (P:=fun v=>bg v=0→(∀ x∈be v,(aw f x).length+100≤8000*(bl f (wrap64 (lv+1)) x).length)→(aw (f+1) v).length+100≤8000*(((be v).flatMap (bl f (wrap64 (lv+1)))).length+1)) v ⟨k1,k2⟩ ?_ ?_ ?_ ?_ ?_ ?_ ?_ ?_ ?_ ?_ hr ih<;>(rintro n s t l fs rfl hr ih)
   ·rw[show aw (f+1) (.mk 1 n s t l fs)=(if n=1 then [116,114,117,101] else [102,97,108,115,101]) from rfl]
    split<;>simp<;>omega
   ·rw[show aw (f+1) (.mk 2 n s t l fs)=cR n from rfl]
    have:=ko n;omega
   ·rw[show aw (f+1) (.mk 3 n s t l fs)=cS n s.toNat++(if s=0 then [100] else []) from rfl,List.length_append]
    have:=mY (lu hr).1
    split<;>simp<;>omega
   ·rw[show aw (f+1) (.mk 4 n s t l fs)=aO t from rfl]
    have:=dQ t
    have:=yl hr;omega
   ·rw[show aw (f+1) (.mk 5 n s t l fs)=lI t from rfl,Fa]
    have:=yk hr;omega
   ·rw[show aw (f+1) (.mk 6 n s t l fs)=[100,97,116,101,32]++aO (pL n) from rfl,List.length_append]
    have h1:=(ru (sq hr)).2.2
    have:=dQ (pL n)
    simp only[List.length_cons,List.length_nil];omega
   ·rw[show aw (f+1) (.mk 7 n s t l fs)=[116,105,109,101,32]++aO (fy n) from rfl,List.length_append]
    have h1:=(mf (sn hr)).2.2
    have:=dQ (fy n)
    simp only[List.length_cons,List.length_nil];omega
   ·rw[show aw (f+1) (.mk 8 n s t l fs)=[91]++aK [44,32] (l.map (aw f))++[93] from rfl]
    rw[cB (.inl rfl)] at ih ⊢
    have:=eA (aw f) (bl f (wrap64 (lv+1))) l fun x hx=>by have:=ih x hx;omega
    simp only[Val.lst,List.length_append,List.length_cons,List.length_nil] at this ⊢;omega
   ·rw[show aw (f+1) (.mk 9 n s t l fs)=[123]++aK [44,32] (fs.map (fX f))++[125] from rfl]
    rw[fp rfl] at ih ⊢
    obtain⟨_,hn⟩:=yj hr
    have:=eA (fX f) (fun x=>bl f (wrap64 (lv+1)) x.value) fs fun x hx=>by
     have h1:=ih x.value (List.mem_map.2 ⟨x,hx,rfl⟩)
     have h2:=hn x hx
     unfold fX
     simp only[List.length_append,List.length_cons,List.length_nil];omega
    simp only[Val.fields,List.flatMap_map,List.length_append,List.length_cons,List.length_nil] at this ⊢;omega
   ·obtain⟨h1,x,rfl⟩:=mq hr
    rw[show aw (f+1) (.mk 10 n s t [x] fs)=t++[40]++aw f x++[41] from rfl]
    rw[cB (.inr rfl)] at ih ⊢
    have:=ih x (by simp[Val.lst])
    simp only[Val.lst,List.flatMap_cons,List.flatMap_nil,List.append_nil,List.length_append,List.length_cons,List.length_nil];omega
end Go.Proofs.YtamoeblcphjbaaaGreatDoor
namespace Go.Proofs.YtamoeblcphjbaaaGreatDoor
open Go Go.Ab Go.RowKit
theorem mB {α β:Type}(h:α→List β):∀ {l:List α} {x:α},x∈l→(h x).length≤(l.flatMap h).length
 | y::r,x,hx=>by
   rw[List.flatMap_cons,List.length_append]
   rcases List.mem_cons.1 hx with rfl | hx
   ·omega
   ·have:=mB h hx;omega
theorem eV {α β:Type}(h:α→List β):∀ (l:List α) (i:Nat),((l.take i).flatMap h).length≤(l.flatMap h).length
 | [],i=>by simp
 | x::r,0=>by simp
 | x::r,i+1=>by
   have:=eV h r i
   rw[List.take_succ_cons,List.flatMap_cons,List.flatMap_cons,List.length_append,List.length_append];omega
theorem nA:∀ (f:Nat) (lv:Int) (v:Val),gO f v→J8 f lv v→(bl f lv v).length≤4096→aq Tryz.prog aF 37 [v.pv] (.str (aw f v))
 | 0,_,_,hd,_,_=>hd.elim
 | f+1,lv,v,hd,hg,hc=>by
   obtain⟨k1,k2,hu,hr⟩:=ku hg
   have hlen:(bl (f+1) lv v).length=((be v).flatMap (bl f (wrap64 (lv+1)))).length+1:=by rw[bl,List.length_cons]
   rw[hlen] at hc
   have hx:∀ x∈be v,(aw f x).length+100≤8000*(bl f (wrap64 (lv+1)) x).length∧(bl f (wrap64 (lv+1)) x).length≤4096∧aq Tryz.prog aF 37 [x.pv] (.str (aw f x)):=fun x hx=>by
    have h1:=mB (bl f (wrap64 (lv+1))) hx
    exact⟨jE f _ x (hd x hx) (fb hg hx),by omega,nA f _ x (hd x hx) (fb hg hx) (by omega)⟩
   clear hlen hg hd
   refine Ja (P:=fun v=>bg v=0→((be v).flatMap (bl f (wrap64 (lv+1)))).length+1≤4096→(∀ x∈be v,(aw f x).length+100≤8000*(bl f (wrap64 (lv+1)) x).length∧(bl f (wrap64 (lv+1)) x).length≤4096∧aq Tryz.prog aF 37 [x.pv] (.str (aw f x)))→aq Tryz.prog aF 37 [v.pv] (.str (aw (f+1) v))) v ⟨k1,k2⟩ ?_ ?_ ?_ ?_ ?_ ?_ ?_ ?_ ?_ ?_ hr hc hx<;>(rintro n s t l fs rfl hr hc hx)
   ·exact CY f n s t l fs
   ·exact CX f n s t l fs (ym hr)
   ·exact CW f n s t l fs (lu hr).1 (lu hr).2
   ·exact CV f n s t l fs (yl hr)
   ·exact CU f n s t l fs (yk hr)
   ·exact CT f n s t l fs (sq hr)
   ·exact CS f n s t l fs (sn hr)
   ·rw[cB (.inl rfl)] at hc hx
    simp only[Val.lst] at hc hx
    exact CR f n s t l fs (fun x h=>(hx x h).2.2) (Gq hr) (by
     have:=eA (aw f) (bl f (wrap64 (lv+1))) l fun x h=>by have:=(hx x h).1;omega
     omega)
   ·rw[fp rfl] at hc hx
    obtain⟨hN,hn⟩:=yj hr
    simp only[Val.fields,List.flatMap_map] at hc hx
    have hy:∀ x∈fs,(aw f x.value).length+100≤8000*(bl f (wrap64 (lv+1)) x.value).length∧(bl f (wrap64 (lv+1)) x.value).length≤4096∧aq Tryz.prog aF 37 [x.value.pv] (.str (aw f x.value)):=fun x h=>hx x.value (List.mem_map.2 ⟨x,h,rfl⟩)
    have hs:∀ x∈fs,(fX f x).length+40≤8000*(bl f (wrap64 (lv+1)) x.value).length:=fun x h=>by
     have h1:=(hy x h).1
     have h2:=hn x h
     unfold fX
     simp only[List.length_append,List.length_cons,List.length_nil];omega
    exact CQ f n s t l fs (fun x h=>(hy x h).2.2) hN (fun x h=>⟨by have:=hn x h;omega,by have:=hy x h;omega⟩) (by
     have:=eA (fX f) (fun x=>bl f (wrap64 (lv+1)) x.value) fs hs
     omega)
   ·obtain⟨h1,x,rfl⟩:=mq hr
    rw[cB (.inr rfl)] at hx
    obtain⟨a1,a2,a3⟩:=hx x (by simp[Val.lst])
    exact xK f n s t fs x a3 (by omega) (by omega)
theorem nB:∀ (f:Nat) (lv:Int) (v:Val),gO f v→J8 f lv v→(bl f lv v).length≤4096→aq Tryz.prog aF 17 [v.pv] (.str (aw f v))
 | 0,_,_,hd,_,_=>hd.elim
 | f+1,lv,v,hd,hg,hc=>by
   obtain⟨k1,k2,hu,hr⟩:=ku hg
   have hlen:(bl (f+1) lv v).length=((be v).flatMap (bl f (wrap64 (lv+1)))).length+1:=by rw[bl,List.length_cons]
   rw[hlen] at hc
   have hx:∀ x∈be v,(aw f x).length+100≤8000*(bl f (wrap64 (lv+1)) x).length∧(bl f (wrap64 (lv+1)) x).length≤4096∧aq Tryz.prog aF 17 [x.pv] (.str (aw f x)):=fun x hx=>by
    have h1:=mB (bl f (wrap64 (lv+1))) hx
    exact⟨jE f _ x (hd x hx) (fb hg hx),by omega,nB f _ x (hd x hx) (fb hg hx) (by omega)⟩
   clear hlen hg hd
   refine Ja (P:=fun v=>bg v=0→((be v).flatMap (bl f (wrap64 (lv+1)))).length+1≤4096→(∀ x∈be v,(aw f x).length+100≤8000*(bl f (wrap64 (lv+1)) x).length∧(bl f (wrap64 (lv+1)) x).length≤4096∧aq Tryz.prog aF 17 [x.pv] (.str (aw f x)))→aq Tryz.prog aF 17 [v.pv] (.str (aw (f+1) v))) v ⟨k1,k2⟩ ?_ ?_ ?_ ?_ ?_ ?_ ?_ ?_ ?_ ?_ hr hc hx<;>(rintro n s t l fs rfl hr hc hx)
   ·exact De f n s t l fs
   ·exact Dd f n s t l fs (ym hr)
   ·exact Dc f n s t l fs (lu hr).1 (lu hr).2
   ·exact Db f n s t l fs (yl hr)
   ·exact Da f n s t l fs (yk hr)
   ·exact C9 f n s t l fs (sq hr)
   ·exact C8 f n s t l fs (sn hr)
   ·rw[cB (.inl rfl)] at hc hx
    simp only[Val.lst] at hc hx
    exact C7 f n s t l fs (fun x h=>(hx x h).2.2) (Gq hr) (fun i=>by
     have h1:=eA (aw f) (bl f (wrap64 (lv+1))) (l.take i) fun x h=>by have:=(hx x (List.mem_of_mem_take h)).1;omega
     have h2:=eV (bl f (wrap64 (lv+1))) l i
     omega) (fun x h=>by have:=hx x h;omega)
   ·rw[fp rfl] at hc hx
    obtain⟨hN,hn⟩:=yj hr
    simp only[Val.fields,List.flatMap_map] at hc hx
    have hy:∀ x∈fs,(aw f x.value).length+100≤8000*(bl f (wrap64 (lv+1)) x.value).length∧(bl f (wrap64 (lv+1)) x.value).length≤4096∧aq Tryz.prog aF 17 [x.value.pv] (.str (aw f x.value)):=fun x h=>hx x.value (List.mem_map.2 ⟨x,h,rfl⟩)
    have hs:∀ x∈fs,(fX f x).length+40≤8000*(bl f (wrap64 (lv+1)) x.value).length:=fun x h=>by
     have h1:=(hy x h).1
     have h2:=hn x h
     unfold fX
     simp only[List.length_append,List.length_cons,List.length_nil];omega
    exact C0 f n s t l fs (fun x h=>(hy x h).2.2) hN (fun i=>by
     have h1:=eA (fX f) (fun x=>bl f (wrap64 (lv+1)) x.value) (fs.take i) fun x h=>hs x (List.mem_of_mem_take h)
     have h2:=eV (fun x:Fld=>bl f (wrap64 (lv+1)) x.value) fs i
     omega) (fun x h=>⟨by have:=hn x h;omega,by have:=hy x h;omega⟩)
   ·obtain⟨h1,x,rfl⟩:=mq hr
    rw[cB (.inr rfl)] at hx
    obtain⟨a1,a2,a3⟩:=hx x (by simp[Val.lst])
    exact xL f n s t fs x a3 (by omega) (by omega)
end Go.Proofs.YtamoeblcphjbaaaGreatDoor
-- many steps
namespace Go.Proofs.YtamoeblcphjbaaaGreatDoor
open Go Go.Ab Go.RowKit
attribute [local irreducible] vc
def Le (x:List UInt8):List UInt8:=if 65536<x.length then [] else x
def Lf (x:List UInt8):Int:=if 65536<x.length then 5 else 0
theorem Ae (x:List UInt8):aq Tryz.prog aF 36 [.str x] (.tup [.str (Le x),.int .i64 (Lf x)]):=by
 unfold Le Lf
 refine aq.intro Oi (by simp[F36]) ?_
 by_cases h:65536<x.length
 ·have hI:(65536:Int)<(x.length:Int):=by omega
  rw[if_pos h,if_pos h]
  simp(disch:=try exact dI) only[F36,hI,push_cast,seval]
 ·have hI:¬ (65536:Int)<(x.length:Int):=by omega
  rw[if_neg h,if_neg h]
  simp(disch:=try exact dI) only[F36,hI,push_cast,seval]
theorem ow {v:Val}(h:bW v=true):v.kind=0:=by
 obtain⟨k,n,s,t,l,fs⟩:=v
 simp only[bW,Bool.and_eq_true,decide_eq_true_eq] at h
 exact h.1
theorem Rw {f:Nat}{v:Val}(hd:gO (f+1) v)(h:lV 0 (bl (f+1) 1 v)=0∨bW v=true) :
  aq Tryz.prog aF 37 [v.pv] (.str (aw (f+1) v))∧aq Tryz.prog aF 17 [v.pv] (.str (aw (f+1) v)):=by
 rcases h with h | h
 ·obtain⟨hg,hc⟩:=Jc h
  exact⟨nA (f+1) 1 v hd hg hc,nB (f+1) 1 v hd hg hc⟩
 ·have hk:=ow h
  obtain⟨k,n,s,t,l,fs⟩:=v
  simp only[Val.kind] at hk
  subst hk
  exact⟨CZ f n s t l fs,Df f n s t l fs⟩
theorem Lx {f:Nat}{v:Val}(hd:gO (f+1) v)(hv:v.ok) :
  aq Tryz.prog aF 14 [v.pv] (if lV 0 (bl (f+1) 1 v)=0∨bW v=true then .tup [.str (Le (aw (f+1) v)),.int .i64 (Lf (aw (f+1) v))] else .tup [.str [],.int .i64 (lV 0 (bl (f+1) 1 v))]):=by
 have h15:=ju (f+1) v hd hv
 have h16:=qL v
 have hb:=Rw hd
 have hl:=Ae (aw (f+1) v)
 generalize lV 0 (bl (f+1) 1 v)=c at *
 generalize aw (f+1) v=X at *
 generalize Le X=S at *
 generalize Lf X=E at *
 generalize bW v=b at *
 obtain⟨k,n,s,t,l,fs⟩:=v
 simp only[Val.pv_mk] at h15 h16 hb ⊢
 refine aq.intro OJ (by simp[F14]) ?_
 by_cases hc:c=0
 ·have h37:=(hb (.inl hc)).1
  rw[if_pos (.inl hc)]
  subst hc
  simp(disch:=try exact dI) only[F14,push_cast,seval]
  refine ab.pure h15 rfl ?_
  simp(disch:=try exact dI) only[push_cast,seval]
  refine ab.pure h37 rfl ?_
  simp(disch:=try exact dI) only[push_cast,seval]
  refine ab.pure hl rfl ?_
  simp(disch:=try exact dI) only[push_cast,seval]
 ·cases b with
  | true=>
    have h37:=(hb (.inr rfl)).1
    rw[if_pos (.inr rfl)]
    simp(disch:=try exact dI) only[F14,push_cast,seval]
    refine ab.pure h15 rfl ?_
    simp(disch:=try exact dI) only[hc,push_cast,seval]
    refine ab.pure h16 rfl ?_
    simp(disch:=try exact dI) only[push_cast,seval]
    refine ab.pure h37 rfl ?_
    simp(disch:=try exact dI) only[push_cast,seval]
    refine ab.pure hl rfl ?_
    simp(disch:=try exact dI) only[push_cast,seval]
  | false=>
    rw[if_neg (by simp[hc])]
    simp(disch:=try exact dI) only[F14,push_cast,seval]
    refine ab.pure h15 rfl ?_
    simp(disch:=try exact dI) only[hc,push_cast,seval]
    refine ab.pure h16 rfl ?_
    simp(disch:=try exact dI) only[push_cast,seval]
end Go.Proofs.YtamoeblcphjbaaaGreatDoor
-- many steps
namespace Go.Proofs.YtamoeblcphjbaaaGreatDoor
open Go Go.Ab Go.RowKit
attribute [local irreducible] vc
def kU:Nat→Val→Prop
 | 0,_=>False
 | n+1,v=>(∀ x∈v.lst,kU n x)∧∀ x∈v.fields,kU n x.value
theorem kR:∀ (n:Nat) (v:Val),kU n v→kU (n+1) v
 | 0,_,h=>h.elim
 | n+1,v,h=>⟨fun x hx=>kR n x (h.1 x hx),fun x hx=>kR n x.value (h.2 x hx)⟩
theorem nc {n m:Nat}(h:n≤m){v:Val}(hv:kU n v):kU m v:=by
 induction h with
 | refl=>exact hv
 | step _ ih=>exact kR _ _ ih
theorem rG {α:Type}(g:α→Val):∀ l:List α,(∀ x∈l,∃ n,kU n (g x))→∃ n,∀ x∈l,kU n (g x)
 | [],_=>⟨0,by simp⟩
 | x::r,h=>by
   obtain⟨n,hn⟩:=h x (by simp)
   obtain⟨m,hm⟩:=rG g r fun y hy=>h y (List.mem_cons_of_mem _ hy)
   refine⟨max n m,fun y hy=>?_⟩
   rcases List.mem_cons.1 hy with rfl | hy
   ·exact nc (Nat.le_max_left _ _) hn
   ·exact nc (Nat.le_max_right _ _) (hm y hy)
theorem iF (v:Val):∃ n,kU n v:=by
 obtain⟨k,n,s,t,l,fs⟩:=v
 have h1:∀ x∈l,∃ n,kU n x:=fun x hx=>iF x
 have h2:∀ x∈fs,∃ n,kU n x.value:=fun x hx=>by
  obtain⟨nm,y⟩:=x
  exact iF y
 obtain⟨a,ha⟩:=rG id l h1
 obtain⟨b,hb⟩:=rG Fld.value fs h2
 exact⟨max a b+1,fun x hx=>nc (Nat.le_max_left _ _) (ha x hx),fun x hx=>nc (Nat.le_max_right _ _) (hb x hx)⟩
termination_by SizeOf.sizeOf v
decreasing_by
 ·have:=List.sizeOf_lt_of_mem hx;simp;omega
 ·have:=List.sizeOf_lt_of_mem hx;simp at this ⊢;omega
theorem gN:∀ (n:Nat) (v:Val),kU n v→gO n v
 | 0,_,h=>h
 | n+1,v,h=>fun x hx=>by
   unfold be at hx
   split at hx
   ·exact gN n x (h.1 x hx)
   ·split at hx
    ·obtain⟨y,hy,rfl⟩:=List.mem_map.1 hx
     exact gN n _ (h.2 y hy)
    ·simp at hx
end Go.Proofs.YtamoeblcphjbaaaGreatDoor

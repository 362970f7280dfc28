/- A part of the proof for LiteralFieldsCardSaid. -/
import Derived.Test.YtamoeblcphjbaaaGreatDoorFlL10
set_option maxRecDepth 100000
set_option linter.unusedVariables false
set_option linter.unusedSimpArgs false
namespace Go.Proofs.YtamoeblcphjbaaaGreatDoor
open Go Go.Ab Go.RowKit
theorem Kd {P:Val→Prop}(v:Val)(h:1≤v.kind∧v.kind≤10)
  (h1:∀ n s t l fs,v = .mk 1 n s t l fs→P v) (h2:∀ n s t l fs,v = .mk 2 n s t l fs→P v) (h3:∀ n s t l fs,v = .mk 3 n s t l fs→P v) (h4:∀ n s t l fs,v = .mk 4 n s t l fs→P v) (h5:∀ n s t l fs,v = .mk 5 n s t l fs→P v)
  (h6:∀ n s t l fs,v = .mk 6 n s t l fs→P v) (h7:∀ n s t l fs,v = .mk 7 n s t l fs→P v) (h8:∀ n s t l fs,v = .mk 8 n s t l fs→P v) (h9:∀ n s t l fs,v = .mk 9 n s t l fs→P v) (h10:∀ n s t l fs,v = .mk 10 n s t l fs→P v):P v:=by
 obtain⟨k,n,s,t,l,fs⟩:=v
 have hc:k=1∨k=2∨k=3∨k=4∨k=5∨k=6∨k=7∨k=8∨k=9∨k=10:=by simp only[Val.kind] at h;omega
 rcases hc with rfl | rfl | rfl | rfl | rfl | rfl | rfl | rfl | rfl | rfl
 ·exact h1 _ _ _ _ _ rfl
 ·exact h2 _ _ _ _ _ rfl
 ·exact h3 _ _ _ _ _ rfl
 ·exact h4 _ _ _ _ _ rfl
 ·exact h5 _ _ _ _ _ rfl
 ·exact h6 _ _ _ _ _ rfl
 ·exact h7 _ _ _ _ _ rfl
 ·exact h8 _ _ _ _ _ rfl
 ·exact h9 _ _ _ _ _ rfl
 ·exact h10 _ _ _ _ _ rfl
theorem jQ:∀ (f:Nat) (lv:Int) (v:Val),gQ f v→K9 f lv v→(au f v).length+100≤8000*(bg f lv v).length
 | 0,_,_,hd,_=>hd.elim
 | f+1,lv,v,hd,hg=>by
   obtain⟨k1,k2,hu,hr⟩:=kK hg
   have hlen:(bg (f+1) lv v).length=((aY v).flatMap (bg f (wrap64 (lv+1)))).length+1:=by rw[bg,List.length_cons]
   have ih:∀ x∈aY v,(au f x).length+100≤8000*(bg f (wrap64 (lv+1)) x).length:=fun x hx=>jQ f _ x (hd x hx) (fh hg hx)
   rw[hlen]
   clear hlen hg hd
   refine Kd (P:=fun v=>bi v=0→(∀ x∈aY v,(au f x).length+100≤8000*(bg f (wrap64 (lv+1)) x).length)→(au (f+1) v).length+100≤8000*(((aY v).flatMap (bg f (wrap64 (lv+1)))).length+1)) v ⟨k1,k2⟩ ?_ ?_ ?_ ?_ ?_ ?_ ?_ ?_ ?_ ?_ hr ih<;>(rintro n s t l fs rfl hr ih)
   ·rw[show au (f+1) (.mk 1 n s t l fs)=(if n=1 then [116,114,117,101] else [102,97,108,115,101]) from rfl]
    split<;>simp<;>omega
   ·rw[show au (f+1) (.mk 2 n s t l fs)=cR n from rfl]
    have:=kG n;omega
   ·rw[show au (f+1) (.mk 3 n s t l fs)=cS n s.toNat++(if s=0 then [100] else []) from rfl,List.length_append]
    have:=ny (lQ hr).1
    split<;>simp<;>omega
   ·rw[show au (f+1) (.mk 4 n s t l fs)=aQ t from rfl]
    have:=dV t
    have:=y6 hr;omega
   ·rw[show au (f+1) (.mk 5 n s t l fs)=ma t from rfl,Gf]
    have:=y5 hr;omega
   ·rw[show au (f+1) (.mk 6 n s t l fs)=[100,97,116,101,32]++aQ (qo n) from rfl,List.length_append]
    have h1:=(rX (sY hr)).2.2
    have:=dV (qo n)
    simp only[List.length_cons,List.length_nil];omega
   ·rw[show au (f+1) (.mk 7 n s t l fs)=[116,105,109,101,32]++aQ (fE n) from rfl,List.length_append]
    have h1:=(mG (sX hr)).2.2
    have:=dV (fE n)
    simp only[List.length_cons,List.length_nil];omega
   ·rw[show au (f+1) (.mk 8 n s t l fs)=[91]++aK [44,32] (l.map (au f))++[93] from rfl]
    rw[cD (.inl rfl)] at ih ⊢
    have:=eF (au f) (bg f (wrap64 (lv+1))) l fun x hx=>by have:=ih x hx;omega
    simp only[Val.lst,List.length_append,List.length_cons,List.length_nil] at this ⊢;omega
   ·rw[show au (f+1) (.mk 9 n s t l fs)=[123]++aK [44,32] (fs.map (f5 f))++[125] from rfl]
    rw[db rfl] at ih ⊢
    obtain⟨_,hn⟩:=y4 hr
    have:=eF (f5 f) (fun x=>bg f (wrap64 (lv+1)) x.value) fs fun x hx=>by
     have h1:=ih x.value (List.mem_map.2 ⟨x,hx,rfl⟩)
     have h2:=hn x hx
     unfold f5
     simp only[List.length_append,List.length_cons,List.length_nil];omega
    simp only[Val.fields,List.flatMap_map,List.length_append,List.length_cons,List.length_nil] at this ⊢;omega
   ·obtain⟨h1,x,rfl⟩:=mN hr
    rw[show au (f+1) (.mk 10 n s t [x] fs)=t++[40]++au f x++[41] from rfl]
    rw[cD (.inr rfl)] at ih ⊢
    have:=ih x (by simp[Val.lst])
    simp only[Val.lst,List.flatMap_cons,List.flatMap_nil,List.append_nil,List.length_append,List.length_cons,List.length_nil];omega
end Go.Proofs.YtamoeblcphjbaaaGreatDoor
namespace Go.Proofs.YtamoeblcphjbaaaGreatDoor
open Go Go.Ab Go.RowKit
theorem mW {α β:Type}(h:α→List β):∀ {l:List α} {x:α},x∈l→(h x).length≤(l.flatMap h).length
 | y::r,x,hx=>by
   rw[List.flatMap_cons,List.length_append]
   rcases List.mem_cons.1 hx with rfl | hx
   ·omega
   ·have:=mW h hx;omega
theorem eZ {α β:Type}(h:α→List β):∀ (l:List α) (i:Nat),((l.take i).flatMap h).length≤(l.flatMap h).length
 | [],i=>by simp
 | x::r,0=>by simp
 | x::r,i+1=>by
   have:=eZ h r i
   rw[List.take_succ_cons,List.flatMap_cons,List.flatMap_cons,List.length_append,List.length_append];omega
theorem nW:∀ (f:Nat) (lv:Int) (v:Val),gQ f v→K9 f lv v→(bg f lv v).length≤4096→aq Tryz.prog aF 37 [v.pv] (.str (au f v))
 | 0,_,_,hd,_,_=>hd.elim
 | f+1,lv,v,hd,hg,hc=>by
   obtain⟨k1,k2,hu,hr⟩:=kK hg
   have hlen:(bg (f+1) lv v).length=((aY v).flatMap (bg f (wrap64 (lv+1)))).length+1:=by rw[bg,List.length_cons]
   rw[hlen] at hc
   have hx:∀ x∈aY v,(au f x).length+100≤8000*(bg f (wrap64 (lv+1)) x).length∧(bg f (wrap64 (lv+1)) x).length≤4096∧aq Tryz.prog aF 37 [x.pv] (.str (au f x)):=fun x hx=>by
    have h1:=mW (bg f (wrap64 (lv+1))) hx
    exact⟨jQ f _ x (hd x hx) (fh hg hx),by omega,nW f _ x (hd x hx) (fh hg hx) (by omega)⟩
   clear hlen hg hd
   refine Kd (P:=fun v=>bi v=0→((aY v).flatMap (bg f (wrap64 (lv+1)))).length+1≤4096→(∀ x∈aY v,(au f x).length+100≤8000*(bg f (wrap64 (lv+1)) x).length∧(bg f (wrap64 (lv+1)) x).length≤4096∧aq Tryz.prog aF 37 [x.pv] (.str (au f x)))→aq Tryz.prog aF 37 [v.pv] (.str (au (f+1) v))) v ⟨k1,k2⟩ ?_ ?_ ?_ ?_ ?_ ?_ ?_ ?_ ?_ ?_ hr hc hx<;>(rintro n s t l fs rfl hr hc hx)
   ·exact D4 f n s t l fs
   ·exact D3 f n s t l fs (y7 hr)
   ·exact D2 f n s t l fs (lQ hr).1 (lQ hr).2
   ·exact D1 f n s t l fs (y6 hr)
   ·exact D0 f n s t l fs (y5 hr)
   ·exact DZ f n s t l fs (sY hr)
   ·exact DY f n s t l fs (sX hr)
   ·rw[cD (.inl rfl)] at hc hx
    simp only[Val.lst] at hc hx
    exact DX f n s t l fs (fun x h=>(hx x h).2.2) (Hu hr) (by
     have:=eF (au f) (bg f (wrap64 (lv+1))) l fun x h=>by have:=(hx x h).1;omega
     omega)
   ·rw[db rfl] at hc hx
    obtain⟨hN,hn⟩:=y4 hr
    simp only[Val.fields,List.flatMap_map] at hc hx
    have hy:∀ x∈fs,(au f x.value).length+100≤8000*(bg f (wrap64 (lv+1)) x.value).length∧(bg f (wrap64 (lv+1)) x.value).length≤4096∧aq Tryz.prog aF 37 [x.value.pv] (.str (au f x.value)):=fun x h=>hx x.value (List.mem_map.2 ⟨x,h,rfl⟩)
    have hs:∀ x∈fs,(f5 f x).length+40≤8000*(bg f (wrap64 (lv+1)) x.value).length:=fun x h=>by
     have h1:=(hy x h).1
     have h2:=hn x h
     unfold f5
     simp only[List.length_append,List.length_cons,List.length_nil];omega
    exact DW f n s t l fs (fun x h=>(hy x h).2.2) hN (fun x h=>⟨by have:=hn x h;omega,by have:=hy x h;omega⟩) (by
     have:=eF (f5 f) (fun x=>bg f (wrap64 (lv+1)) x.value) fs hs
     omega)
   ·obtain⟨h1,x,rfl⟩:=mN hr
    rw[cD (.inr rfl)] at hx
    obtain⟨a1,a2,a3⟩:=hx x (by simp[Val.lst])
    exact yk f n s t fs x a3 (by omega) (by omega)
theorem nX:∀ (f:Nat) (lv:Int) (v:Val),gQ f v→K9 f lv v→(bg f lv v).length≤4096→aq Tryz.prog aF 17 [v.pv] (.str (au f v))
 | 0,_,_,hd,_,_=>hd.elim
 | f+1,lv,v,hd,hg,hc=>by
   obtain⟨k1,k2,hu,hr⟩:=kK hg
   have hlen:(bg (f+1) lv v).length=((aY v).flatMap (bg f (wrap64 (lv+1)))).length+1:=by rw[bg,List.length_cons]
   rw[hlen] at hc
   have hx:∀ x∈aY v,(au f x).length+100≤8000*(bg f (wrap64 (lv+1)) x).length∧(bg f (wrap64 (lv+1)) x).length≤4096∧aq Tryz.prog aF 17 [x.pv] (.str (au f x)):=fun x hx=>by
    have h1:=mW (bg f (wrap64 (lv+1))) hx
    exact⟨jQ f _ x (hd x hx) (fh hg hx),by omega,nX f _ x (hd x hx) (fh hg hx) (by omega)⟩
   clear hlen hg hd
   refine Kd (P:=fun v=>bi v=0→((aY v).flatMap (bg f (wrap64 (lv+1)))).length+1≤4096→(∀ x∈aY v,(au f x).length+100≤8000*(bg f (wrap64 (lv+1)) x).length∧(bg f (wrap64 (lv+1)) x).length≤4096∧aq Tryz.prog aF 17 [x.pv] (.str (au f x)))→aq Tryz.prog aF 17 [v.pv] (.str (au (f+1) v))) v ⟨k1,k2⟩ ?_ ?_ ?_ ?_ ?_ ?_ ?_ ?_ ?_ ?_ hr hc hx<;>(rintro n s t l fs rfl hr hc hx)
   ·exact Ee f n s t l fs
   ·exact Ed f n s t l fs (y7 hr)
   ·exact Ec f n s t l fs (lQ hr).1 (lQ hr).2
   ·exact Eb f n s t l fs (y6 hr)
   ·exact Ea f n s t l fs (y5 hr)
   ·exact D9 f n s t l fs (sY hr)
   ·exact D8 f n s t l fs (sX hr)
   ·rw[cD (.inl rfl)] at hc hx
    simp only[Val.lst] at hc hx
    exact D7 f n s t l fs (fun x h=>(hx x h).2.2) (Hu hr) (fun i=>by
     have h1:=eF (au f) (bg f (wrap64 (lv+1))) (l.take i) fun x h=>by have:=(hx x (List.mem_of_mem_take h)).1;omega
     have h2:=eZ (bg f (wrap64 (lv+1))) l i
     omega) (fun x h=>by have:=hx x h;omega)
   ·rw[db rfl] at hc hx
    obtain⟨hN,hn⟩:=y4 hr
    simp only[Val.fields,List.flatMap_map] at hc hx
    have hy:∀ x∈fs,(au f x.value).length+100≤8000*(bg f (wrap64 (lv+1)) x.value).length∧(bg f (wrap64 (lv+1)) x.value).length≤4096∧aq Tryz.prog aF 17 [x.value.pv] (.str (au f x.value)):=fun x h=>hx x.value (List.mem_map.2 ⟨x,h,rfl⟩)
    have hs:∀ x∈fs,(f5 f x).length+40≤8000*(bg f (wrap64 (lv+1)) x.value).length:=fun x h=>by
     have h1:=(hy x h).1
     have h2:=hn x h
     unfold f5
     simp only[List.length_append,List.length_cons,List.length_nil];omega
    exact D6 f n s t l fs (fun x h=>(hy x h).2.2) hN (fun i=>by
     have h1:=eF (f5 f) (fun x=>bg f (wrap64 (lv+1)) x.value) (fs.take i) fun x h=>hs x (List.mem_of_mem_take h)
     have h2:=eZ (fun x:Fld=>bg f (wrap64 (lv+1)) x.value) fs i
     omega) (fun x h=>⟨by have:=hn x h;omega,by have:=hy x h;omega⟩)
   ·obtain⟨h1,x,rfl⟩:=mN hr
    rw[cD (.inr rfl)] at hx
    obtain⟨a1,a2,a3⟩:=hx x (by simp[Val.lst])
    exact yl f n s t fs x a3 (by omega) (by omega)
end Go.Proofs.YtamoeblcphjbaaaGreatDoor
-- many steps
namespace Go.Proofs.YtamoeblcphjbaaaGreatDoor
open Go Go.Ab Go.RowKit
attribute [local irreducible] vc
def Mk (x:List UInt8):List UInt8:=if 65536<x.length then [] else x
def Ml (x:List UInt8):Int:=if 65536<x.length then 5 else 0
theorem A9 (x:List UInt8):aq Tryz.prog aF 36 [.str x] (.tup [.str (Mk x),.int .i64 (Ml x)]):=by
 unfold Mk Ml
 refine aq.intro Ps (by simp[F36]) ?_
 by_cases h:65536<x.length
 ·have hI:(65536:Int)<(x.length:Int):=by omega
  rw[if_pos h,if_pos h]
  simp(disch:=try exact dI) only[F36,hI,push_cast,seval]
 ·have hI:¬ (65536:Int)<(x.length:Int):=by omega
  rw[if_neg h,if_neg h]
  simp(disch:=try exact dI) only[F36,hI,push_cast,seval]
theorem kq {v:Val}(h:bW v=true):v.kind=0:=by
 obtain⟨k,n,s,t,l,fs⟩:=v
 simp only[bW,Bool.and_eq_true,decide_eq_true_eq] at h
 exact h.1
theorem SI {f:Nat}{v:Val}(hd:gQ (f+1) v)(h:jE 0 (bg (f+1) 1 v)=0∨bW v=true) :
  aq Tryz.prog aF 37 [v.pv] (.str (au (f+1) v))∧aq Tryz.prog aF 17 [v.pv] (.str (au (f+1) v)):=by
 rcases h with h | h
 ·obtain⟨hg,hc⟩:=BE h
  exact⟨nW (f+1) 1 v hd hg hc,nX (f+1) 1 v hd hg hc⟩
 ·have hk:=kq h
  obtain⟨k,n,s,t,l,fs⟩:=v
  simp only[Val.kind] at hk
  subst hk
  exact⟨D5 f n s t l fs,Ef f n s t l fs⟩
theorem MD {f:Nat}{v:Val}(hd:gQ (f+1) v)(hv:v.ok) :
  aq Tryz.prog aF 14 [v.pv] (if jE 0 (bg (f+1) 1 v)=0∨bW v=true then .tup [.str (Mk (au (f+1) v)),.int .i64 (Ml (au (f+1) v))] else .tup [.str [],.int .i64 (jE 0 (bg (f+1) 1 v))]):=by
 have h15:=jF (f+1) v hd hv
 have h16:=rp v
 have hb:=SI hd
 have hl:=A9 (au (f+1) v)
 generalize jE 0 (bg (f+1) 1 v)=c at *
 generalize au (f+1) v=X at *
 generalize Mk X=S at *
 generalize Ml X=E at *
 generalize bW v=b at *
 obtain⟨k,n,s,t,l,fs⟩:=v
 simp only[Val.pv_mk] at h15 h16 hb ⊢
 refine aq.intro PQ (by simp[F14]) ?_
 by_cases hc:c=0
 ·have h37:=(hb (.inl hc)).1
  rw[if_pos (.inl hc)]
  subst hc
  simp(disch:=try exact dI) only[F14,push_cast,seval]
  refine ab.pure h15 rfl ?_
  simp(disch:=try exact dI) only[push_cast,seval]
  refine ab.pure h37 rfl ?_
  simp(disch:=try exact dI) only[push_cast,seval]
  refine ab.pure hl rfl ?_
  simp(disch:=try exact dI) only[push_cast,seval]
 ·cases b with
  | true=>
    have h37:=(hb (.inr rfl)).1
    rw[if_pos (.inr rfl)]
    simp(disch:=try exact dI) only[F14,push_cast,seval]
    refine ab.pure h15 rfl ?_
    simp(disch:=try exact dI) only[hc,push_cast,seval]
    refine ab.pure h16 rfl ?_
    simp(disch:=try exact dI) only[push_cast,seval]
    refine ab.pure h37 rfl ?_
    simp(disch:=try exact dI) only[push_cast,seval]
    refine ab.pure hl rfl ?_
    simp(disch:=try exact dI) only[push_cast,seval]
  | false=>
    rw[if_neg (by simp[hc])]
    simp(disch:=try exact dI) only[F14,push_cast,seval]
    refine ab.pure h15 rfl ?_
    simp(disch:=try exact dI) only[hc,push_cast,seval]
    refine ab.pure h16 rfl ?_
    simp(disch:=try exact dI) only[push_cast,seval]
end Go.Proofs.YtamoeblcphjbaaaGreatDoor
-- many steps
namespace Go.Proofs.YtamoeblcphjbaaaGreatDoor
open Go Go.Ab Go.RowKit
attribute [local irreducible] vc
def ll:Nat→Val→Prop
 | 0,_=>False
 | n+1,v=>(∀ x∈v.lst,ll n x)∧∀ x∈v.fields,ll n x.value
theorem lk:∀ (n:Nat) (v:Val),ll n v→ll (n+1) v
 | 0,_,h=>h.elim
 | n+1,v,h=>⟨fun x hx=>lk n x (h.1 x hx),fun x hx=>lk n x.value (h.2 x hx)⟩
theorem nG {n m:Nat}(h:n≤m){v:Val}(hv:ll n v):ll m v:=by
 induction h with
 | refl=>exact hv
 | step _ ih=>exact lk _ _ ih
theorem se {α:Type}(g:α→Val):∀ l:List α,(∀ x∈l,∃ n,ll n (g x))→∃ n,∀ x∈l,ll n (g x)
 | [],_=>⟨0,by simp⟩
 | x::r,h=>by
   obtain⟨n,hn⟩:=h x (by simp)
   obtain⟨m,hm⟩:=se g r fun y hy=>h y (List.mem_cons_of_mem _ hy)
   refine⟨max n m,fun y hy=>?_⟩
   rcases List.mem_cons.1 hy with rfl | hy
   ·exact nG (Nat.le_max_left _ _) hn
   ·exact nG (Nat.le_max_right _ _) (hm y hy)
theorem iM (v:Val):∃ n,ll n v:=by
 obtain⟨k,n,s,t,l,fs⟩:=v
 have h1:∀ x∈l,∃ n,ll n x:=fun x hx=>iM x
 have h2:∀ x∈fs,∃ n,ll n x.value:=fun x hx=>by
  obtain⟨nm,y⟩:=x
  exact iM y
 obtain⟨a,ha⟩:=se id l h1
 obtain⟨b,hb⟩:=se Fld.value fs h2
 exact⟨max a b+1,fun x hx=>nG (Nat.le_max_left _ _) (ha x hx),fun x hx=>nG (Nat.le_max_right _ _) (hb x hx)⟩
termination_by SizeOf.sizeOf v
decreasing_by
 ·have:=List.sizeOf_lt_of_mem hx;simp;omega
 ·have:=List.sizeOf_lt_of_mem hx;simp at this ⊢;omega
theorem jC:∀ (n:Nat) (v:Val),ll n v→gQ n v
 | 0,_,h=>h
 | n+1,v,h=>fun x hx=>by
   unfold aY at hx
   split at hx
   ·exact jC n x (h.1 x hx)
   ·split at hx
    ·obtain⟨y,hy,rfl⟩:=List.mem_map.1 hx
     exact jC n _ (h.2 y hy)
    ·simp at hx
end Go.Proofs.YtamoeblcphjbaaaGreatDoor

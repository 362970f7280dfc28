/- A part of the proof for LiteralAgainCardSaid. -/
import Derived.Test.YtamoeblcphjbaaaGreatDoorAgL10
set_option maxRecDepth 100000
set_option linter.unusedVariables false
set_option linter.unusedSimpArgs false
namespace Go.Proofs.YtamoeblcphjbaaaGreatDoor
open Go Go.Ab Go.RowKit
theorem Fv {P:Val→Prop}(v:Val)(h:1≤v.kind∧v.kind≤10)
  (h1:∀ n s t l fs,v = .mk 1 n s t l fs→P v) (h2:∀ n s t l fs,v = .mk 2 n s t l fs→P v) (h3:∀ n s t l fs,v = .mk 3 n s t l fs→P v) (h4:∀ n s t l fs,v = .mk 4 n s t l fs→P v) (h5:∀ n s t l fs,v = .mk 5 n s t l fs→P v)
  (h6:∀ n s t l fs,v = .mk 6 n s t l fs→P v) (h7:∀ n s t l fs,v = .mk 7 n s t l fs→P v) (h8:∀ n s t l fs,v = .mk 8 n s t l fs→P v) (h9:∀ n s t l fs,v = .mk 9 n s t l fs→P v) (h10:∀ n s t l fs,v = .mk 10 n s t l fs→P v):P v:=by
 obtain⟨k,n,s,t,l,fs⟩:=v
 have hc:k=1∨k=2∨k=3∨k=4∨k=5∨k=6∨k=7∨k=8∨k=9∨k=10:=by simp only[Val.kind] at h;omega
 rcases hc with rfl | rfl | rfl | rfl | rfl | rfl | rfl | rfl | rfl | rfl
 ·exact h1 _ _ _ _ _ rfl
 ·exact h2 _ _ _ _ _ rfl
 ·exact h3 _ _ _ _ _ rfl
 ·exact h4 _ _ _ _ _ rfl
 ·exact h5 _ _ _ _ _ rfl
 ·exact h6 _ _ _ _ _ rfl
 ·exact h7 _ _ _ _ _ rfl
 ·exact h8 _ _ _ _ _ rfl
 ·exact h9 _ _ _ _ _ rfl
 ·exact h10 _ _ _ _ _ rfl
theorem jV:∀ (f:Nat) (lv:Int) (v:Val),gm f v→Hz f lv v→(au f v).length+100≤8000*(bt f lv v).length
 | 0,_,_,hd,_=>hd.elim
 | f+1,lv,v,hd,hg=>by
   obtain⟨k1,k2,hu,hr⟩:=gT hg
   have hlen:(bt (f+1) lv v).length=((bf v).flatMap (bt f (wrap64 (lv+1)))).length+1:=by rw[bt,List.length_cons]
   have ih:∀ x∈bf v,(au f x).length+100≤8000*(bt f (wrap64 (lv+1)) x).length:=fun x hx=>jV f _ x (hd x hx) (ef hg hx)
   rw[hlen]
   clear hlen hg hd
   refine Fv (P:=fun v=>bi v=0→(∀ x∈bf v,(au f x).length+100≤8000*(bt f (wrap64 (lv+1)) x).length)→(au (f+1) v).length+100≤8000*(((bf v).flatMap (bt f (wrap64 (lv+1)))).length+1)) v ⟨k1,k2⟩ ?_ ?_ ?_ ?_ ?_ ?_ ?_ ?_ ?_ ?_ hr ih<;>(rintro n s t l fs rfl hr ih)
   ·rw[show au (f+1) (.mk 1 n s t l fs)=(if n=1 then [116,114,117,101] else [102,97,108,115,101]) from rfl]
    split<;>simp<;>omega
   ·rw[show au (f+1) (.mk 2 n s t l fs)=cS n from rfl]
    have:=gQ n;omega
   ·rw[show au (f+1) (.mk 3 n s t l fs)=c8 n s.toNat++(if s=0 then [100] else []) from rfl,List.length_append]
    have:=np (j6 hr).1
    split<;>simp<;>omega
   ·rw[show au (f+1) (.mk 4 n s t l fs)=aL t from rfl]
    have:=cl t
    have:=yy hr;omega
   ·rw[show au (f+1) (.mk 5 n s t l fs)=lC t from rfl,tB]
    have:=yx hr;omega
   ·rw[show au (f+1) (.mk 6 n s t l fs)=[100,97,116,101,32]++aL (nN n) from rfl,List.length_append]
    have h1:=(nr (oc hr)).2.2
    have:=cl (nN n)
    simp only[List.length_cons,List.length_nil];omega
   ·rw[show au (f+1) (.mk 7 n s t l fs)=[116,105,109,101,32]++aL (eY n) from rfl,List.length_append]
    have h1:=(ju (ob hr)).2.2
    have:=cl (eY n)
    simp only[List.length_cons,List.length_nil];omega
   ·rw[show au (f+1) (.mk 8 n s t l fs)=[91]++aJ [44,32] (l.map (au f))++[93] from rfl]
    rw[bW (.inl rfl)] at ih ⊢
    have:=eI (au f) (bt f (wrap64 (lv+1))) l fun x hx=>by have:=ih x hx;omega
    simp only[Val.lst,List.length_append,List.length_cons,List.length_nil] at this ⊢;omega
   ·rw[show au (f+1) (.mk 9 n s t l fs)=[123]++aJ [44,32] (fs.map (fE f))++[125] from rfl]
    rw[d7 rfl] at ih ⊢
    obtain⟨_,hn⟩:=sG hr
    have:=eI (fE f) (fun x=>bt f (wrap64 (lv+1)) x.value) fs fun x hx=>by
     have h1:=ih x.value (List.mem_map.2 ⟨x,hx,rfl⟩)
     have h2:=hn x hx
     unfold fE
     simp only[List.length_append,List.length_cons,List.length_nil];omega
    simp only[Val.fields,List.flatMap_map,List.length_append,List.length_cons,List.length_nil] at this ⊢;omega
   ·obtain⟨h1,x,rfl⟩:=j7 hr
    rw[show au (f+1) (.mk 10 n s t [x] fs)=t++[40]++au f x++[41] from rfl]
    rw[bW (.inr rfl)] at ih ⊢
    have:=ih x (by simp[Val.lst])
    simp only[Val.lst,List.flatMap_cons,List.flatMap_nil,List.append_nil,List.length_append,List.length_cons,List.length_nil];omega
end Go.Proofs.YtamoeblcphjbaaaGreatDoor
namespace Go.Proofs.YtamoeblcphjbaaaGreatDoor
open Go Go.Ab Go.RowKit
theorem mQ {α β:Type}(h:α→List β):∀ {l:List α} {x:α},x∈l→(h x).length≤(l.flatMap h).length
 | y::r,x,hx=>by
   rw[List.flatMap_cons,List.length_append]
   rcases List.mem_cons.1 hx with rfl | hx
   ·omega
   ·have:=mQ h hx;omega
theorem fe {α β:Type}(h:α→List β):∀ (l:List α) (i:Nat),((l.take i).flatMap h).length≤(l.flatMap h).length
 | [],i=>by simp
 | x::r,0=>by simp
 | x::r,i+1=>by
   have:=fe h r i
   rw[List.take_succ_cons,List.flatMap_cons,List.flatMap_cons,List.length_append,List.length_append];omega
theorem nV:∀ (f:Nat) (lv:Int) (v:Val),gm f v→Hz f lv v→(bt f lv v).length≤4096→aq Tryz.prog aF 37 [v.pv] (.str (au f v))
 | 0,_,_,hd,_,_=>hd.elim
 | f+1,lv,v,hd,hg,hc=>by
   obtain⟨k1,k2,hu,hr⟩:=gT hg
   have hlen:(bt (f+1) lv v).length=((bf v).flatMap (bt f (wrap64 (lv+1)))).length+1:=by rw[bt,List.length_cons]
   rw[hlen] at hc
   have hx:∀ x∈bf v,(au f x).length+100≤8000*(bt f (wrap64 (lv+1)) x).length∧(bt f (wrap64 (lv+1)) x).length≤4096∧aq Tryz.prog aF 37 [x.pv] (.str (au f x)):=fun x hx=>by
    have h1:=mQ (bt f (wrap64 (lv+1))) hx
    exact⟨jV f _ x (hd x hx) (ef hg hx),by omega,nV f _ x (hd x hx) (ef hg hx) (by omega)⟩
   clear hlen hg hd
   refine Fv (P:=fun v=>bi v=0→((bf v).flatMap (bt f (wrap64 (lv+1)))).length+1≤4096→(∀ x∈bf v,(au f x).length+100≤8000*(bt f (wrap64 (lv+1)) x).length∧(bt f (wrap64 (lv+1)) x).length≤4096∧aq Tryz.prog aF 37 [x.pv] (.str (au f x)))→aq Tryz.prog aF 37 [v.pv] (.str (au (f+1) v))) v ⟨k1,k2⟩ ?_ ?_ ?_ ?_ ?_ ?_ ?_ ?_ ?_ ?_ hr hc hx<;>(rintro n s t l fs rfl hr hc hx)
   ·exact Du f n s t l fs
   ·exact Dt f n s t l fs (yz hr)
   ·exact Dr f n s t l fs (j6 hr).1 (j6 hr).2
   ·exact Dq f n s t l fs (yy hr)
   ·exact Dp f n s t l fs (yx hr)
   ·exact Do f n s t l fs (oc hr)
   ·exact Dn f n s t l fs (ob hr)
   ·rw[bW (.inl rfl)] at hc hx
    simp only[Val.lst] at hc hx
    exact Dm f n s t l fs (fun x h=>(hx x h).2.2) (GP hr) (by
     have:=eI (au f) (bt f (wrap64 (lv+1))) l fun x h=>by have:=(hx x h).1;omega
     omega)
   ·rw[d7 rfl] at hc hx
    obtain⟨hN,hn⟩:=sG hr
    simp only[Val.fields,List.flatMap_map] at hc hx
    have hy:∀ x∈fs,(au f x.value).length+100≤8000*(bt f (wrap64 (lv+1)) x.value).length∧(bt f (wrap64 (lv+1)) x.value).length≤4096∧aq Tryz.prog aF 37 [x.value.pv] (.str (au f x.value)):=fun x h=>hx x.value (List.mem_map.2 ⟨x,h,rfl⟩)
    have hs:∀ x∈fs,(fE f x).length+40≤8000*(bt f (wrap64 (lv+1)) x.value).length:=fun x h=>by
     have h1:=(hy x h).1
     have h2:=hn x h
     unfold fE
     simp only[List.length_append,List.length_cons,List.length_nil];omega
    exact Dl f n s t l fs (fun x h=>(hy x h).2.2) hN (fun x h=>⟨by have:=hn x h;omega,by have:=hy x h;omega⟩) (by
     have:=eI (fE f) (fun x=>bt f (wrap64 (lv+1)) x.value) fs hs
     omega)
   ·obtain⟨h1,x,rfl⟩:=j7 hr
    rw[bW (.inr rfl)] at hx
    obtain⟨a1,a2,a3⟩:=hx x (by simp[Val.lst])
    exact xW f n s t fs x a3 (by omega) (by omega)
theorem nW:∀ (f:Nat) (lv:Int) (v:Val),gm f v→Hz f lv v→(bt f lv v).length≤4096→aq Tryz.prog aF 17 [v.pv] (.str (au f v))
 | 0,_,_,hd,_,_=>hd.elim
 | f+1,lv,v,hd,hg,hc=>by
   obtain⟨k1,k2,hu,hr⟩:=gT hg
   have hlen:(bt (f+1) lv v).length=((bf v).flatMap (bt f (wrap64 (lv+1)))).length+1:=by rw[bt,List.length_cons]
   rw[hlen] at hc
   have hx:∀ x∈bf v,(au f x).length+100≤8000*(bt f (wrap64 (lv+1)) x).length∧(bt f (wrap64 (lv+1)) x).length≤4096∧aq Tryz.prog aF 17 [x.pv] (.str (au f x)):=fun x hx=>by
    have h1:=mQ (bt f (wrap64 (lv+1))) hx
    exact⟨jV f _ x (hd x hx) (ef hg hx),by omega,nW f _ x (hd x hx) (ef hg hx) (by omega)⟩
   clear hlen hg hd
   refine Fv (P:=fun v=>bi v=0→((bf v).flatMap (bt f (wrap64 (lv+1)))).length+1≤4096→(∀ x∈bf v,(au f x).length+100≤8000*(bt f (wrap64 (lv+1)) x).length∧(bt f (wrap64 (lv+1)) x).length≤4096∧aq Tryz.prog aF 17 [x.pv] (.str (au f x)))→aq Tryz.prog aF 17 [v.pv] (.str (au (f+1) v))) v ⟨k1,k2⟩ ?_ ?_ ?_ ?_ ?_ ?_ ?_ ?_ ?_ ?_ hr hc hx<;>(rintro n s t l fs rfl hr hc hx)
   ·exact DE f n s t l fs
   ·exact DD f n s t l fs (yz hr)
   ·exact DC f n s t l fs (j6 hr).1 (j6 hr).2
   ·exact DB f n s t l fs (yy hr)
   ·exact DA f n s t l fs (yx hr)
   ·exact Dz f n s t l fs (oc hr)
   ·exact Dy f n s t l fs (ob hr)
   ·rw[bW (.inl rfl)] at hc hx
    simp only[Val.lst] at hc hx
    exact Dx f n s t l fs (fun x h=>(hx x h).2.2) (GP hr) (fun i=>by
     have h1:=eI (au f) (bt f (wrap64 (lv+1))) (l.take i) fun x h=>by have:=(hx x (List.mem_of_mem_take h)).1;omega
     have h2:=fe (bt f (wrap64 (lv+1))) l i
     omega) (fun x h=>by have:=hx x h;omega)
   ·rw[d7 rfl] at hc hx
    obtain⟨hN,hn⟩:=sG hr
    simp only[Val.fields,List.flatMap_map] at hc hx
    have hy:∀ x∈fs,(au f x.value).length+100≤8000*(bt f (wrap64 (lv+1)) x.value).length∧(bt f (wrap64 (lv+1)) x.value).length≤4096∧aq Tryz.prog aF 17 [x.value.pv] (.str (au f x.value)):=fun x h=>hx x.value (List.mem_map.2 ⟨x,h,rfl⟩)
    have hs:∀ x∈fs,(fE f x).length+40≤8000*(bt f (wrap64 (lv+1)) x.value).length:=fun x h=>by
     have h1:=(hy x h).1
     have h2:=hn x h
     unfold fE
     simp only[List.length_append,List.length_cons,List.length_nil];omega
    exact Dw f n s t l fs (fun x h=>(hy x h).2.2) hN (fun i=>by
     have h1:=eI (fE f) (fun x=>bt f (wrap64 (lv+1)) x.value) (fs.take i) fun x h=>hs x (List.mem_of_mem_take h)
     have h2:=fe (fun x:Fld=>bt f (wrap64 (lv+1)) x.value) fs i
     omega) (fun x h=>⟨by have:=hn x h;omega,by have:=hy x h;omega⟩)
   ·obtain⟨h1,x,rfl⟩:=j7 hr
    rw[bW (.inr rfl)] at hx
    obtain⟨a1,a2,a3⟩:=hx x (by simp[Val.lst])
    exact xX f n s t fs x a3 (by omega) (by omega)
end Go.Proofs.YtamoeblcphjbaaaGreatDoor
-- many steps
namespace Go.Proofs.YtamoeblcphjbaaaGreatDoor
open Go Go.Ab Go.RowKit
attribute [local irreducible] vc
def Ly (x:List UInt8):List UInt8:=if 65536<x.length then [] else x
def Lz (x:List UInt8):Int:=if 65536<x.length then 5 else 0
theorem AA (x:List UInt8):aq Tryz.prog aF 36 [.str x] (.tup [.str (Ly x),.int .i64 (Lz x)]):=by
 unfold Ly Lz
 refine aq.intro OA (by simp[F36]) ?_
 by_cases h:65536<x.length
 ·have hI:(65536:Int)<(x.length:Int):=by omega
  rw[if_pos h,if_pos h]
  simp(disch:=try exact dI) only[F36,hI,push_cast,seval]
 ·have hI:¬ (65536:Int)<(x.length:Int):=by omega
  rw[if_neg h,if_neg h]
  simp(disch:=try exact dI) only[F36,hI,push_cast,seval]
theorem oO {v:Val}(h:bQ v=true):v.kind=0:=by
 obtain⟨k,n,s,t,l,fs⟩:=v
 simp only[bQ,Bool.and_eq_true,decide_eq_true_eq] at h
 exact h.1
theorem RO {f:Nat}{v:Val}(hd:gm (f+1) v)(h:mq 0 (bt (f+1) 1 v)=0∨bQ v=true) :
  aq Tryz.prog aF 37 [v.pv] (.str (au (f+1) v))∧aq Tryz.prog aF 17 [v.pv] (.str (au (f+1) v)):=by
 rcases h with h | h
 ·obtain⟨hg,hc⟩:=A6 h
  exact⟨nV (f+1) 1 v hd hg hc,nW (f+1) 1 v hd hg hc⟩
 ·have hk:=oO h
  obtain⟨k,n,s,t,l,fs⟩:=v
  simp only[Val.kind] at hk
  subst hk
  exact⟨Dv f n s t l fs,DF f n s t l fs⟩
theorem GF {f:Nat}{v:Val}(hd:gm (f+1) v)(hv:v.ok) :
  aq Tryz.prog aF 14 [v.pv] (if mq 0 (bt (f+1) 1 v)=0∨bQ v=true then .tup [.str (Ly (au (f+1) v)),.int .i64 (Lz (au (f+1) v))] else .tup [.str [],.int .i64 (mq 0 (bt (f+1) 1 v))]):=by
 have h15:=jL (f+1) v hd hv
 have h16:=re v
 have hb:=RO hd
 have hl:=AA (au (f+1) v)
 generalize mq 0 (bt (f+1) 1 v)=c at *
 generalize au (f+1) v=X at *
 generalize Ly X=S at *
 generalize Lz X=E at *
 generalize bQ v=b at *
 obtain⟨k,n,s,t,l,fs⟩:=v
 simp only[Val.pv_mk] at h15 h16 hb ⊢
 refine aq.intro OW (by simp[F14]) ?_
 by_cases hc:c=0
 ·have h37:=(hb (.inl hc)).1
  rw[if_pos (.inl hc)]
  subst hc
  simp(disch:=try exact dI) only[F14,push_cast,seval]
  refine ab.pure h15 rfl ?_
  simp(disch:=try exact dI) only[push_cast,seval]
  refine ab.pure h37 rfl ?_
  simp(disch:=try exact dI) only[push_cast,seval]
  refine ab.pure hl rfl ?_
  simp(disch:=try exact dI) only[push_cast,seval]
 ·cases b with
  | true=>
    have h37:=(hb (.inr rfl)).1
    rw[if_pos (.inr rfl)]
    simp(disch:=try exact dI) only[F14,push_cast,seval]
    refine ab.pure h15 rfl ?_
    simp(disch:=try exact dI) only[hc,push_cast,seval]
    refine ab.pure h16 rfl ?_
    simp(disch:=try exact dI) only[push_cast,seval]
    refine ab.pure h37 rfl ?_
    simp(disch:=try exact dI) only[push_cast,seval]
    refine ab.pure hl rfl ?_
    simp(disch:=try exact dI) only[push_cast,seval]
  | false=>
    rw[if_neg (by simp[hc])]
    simp(disch:=try exact dI) only[F14,push_cast,seval]
    refine ab.pure h15 rfl ?_
    simp(disch:=try exact dI) only[hc,push_cast,seval]
    refine ab.pure h16 rfl ?_
    simp(disch:=try exact dI) only[push_cast,seval]
end Go.Proofs.YtamoeblcphjbaaaGreatDoor
-- many steps
namespace Go.Proofs.YtamoeblcphjbaaaGreatDoor
open Go Go.Ab Go.RowKit
attribute [local irreducible] vc
def mz:Nat→Val→Prop
 | 0,_=>False
 | n+1,v=>(∀ x∈v.lst,mz n x)∧∀ x∈v.fields,mz n x.value
theorem ln:∀ (n:Nat) (v:Val),mz n v→mz (n+1) v
 | 0,_,h=>h.elim
 | n+1,v,h=>⟨fun x hx=>ln n x (h.1 x hx),fun x hx=>ln n x.value (h.2 x hx)⟩
theorem nC {n m:Nat}(h:n≤m){v:Val}(hv:mz n v):mz m v:=by
 induction h with
 | refl=>exact hv
 | step _ ih=>exact ln _ _ ih
theorem rT {α:Type}(g:α→Val):∀ l:List α,(∀ x∈l,∃ n,mz n (g x))→∃ n,∀ x∈l,mz n (g x)
 | [],_=>⟨0,by simp⟩
 | x::r,h=>by
   obtain⟨n,hn⟩:=h x (by simp)
   obtain⟨m,hm⟩:=rT g r fun y hy=>h y (List.mem_cons_of_mem _ hy)
   refine⟨max n m,fun y hy=>?_⟩
   rcases List.mem_cons.1 hy with rfl | hy
   ·exact nC (Nat.le_max_left _ _) hn
   ·exact nC (Nat.le_max_right _ _) (hm y hy)
theorem iU (v:Val):∃ n,mz n v:=by
 obtain⟨k,n,s,t,l,fs⟩:=v
 have h1:∀ x∈l,∃ n,mz n x:=fun x hx=>iU x
 have h2:∀ x∈fs,∃ n,mz n x.value:=fun x hx=>by
  obtain⟨nm,y⟩:=x
  exact iU y
 obtain⟨a,ha⟩:=rT id l h1
 obtain⟨b,hb⟩:=rT Fld.value fs h2
 exact⟨max a b+1,fun x hx=>nC (Nat.le_max_left _ _) (ha x hx),fun x hx=>nC (Nat.le_max_right _ _) (hb x hx)⟩
termination_by SizeOf.sizeOf v
decreasing_by
 ·have:=List.sizeOf_lt_of_mem hx;simp;omega
 ·have:=List.sizeOf_lt_of_mem hx;simp at this ⊢;omega
theorem fF:∀ (n:Nat) (v:Val),mz n v→gm n v
 | 0,_,h=>h
 | n+1,v,h=>fun x hx=>by
   unfold bf at hx
   split at hx
   ·exact fF n x (h.1 x hx)
   ·split at hx
    ·obtain⟨y,hy,rfl⟩:=List.mem_map.1 hx
     exact fF n _ (h.2 y hy)
    ·simp at hx
end Go.Proofs.YtamoeblcphjbaaaGreatDoor

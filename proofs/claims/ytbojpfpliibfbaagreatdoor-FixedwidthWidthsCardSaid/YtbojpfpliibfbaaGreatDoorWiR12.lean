/- A part of the proof for FixedwidthWidthsCardSaid. -/
import Derived.Test.YtbojpfpliibfbaaGreatDoorWiRC19
set_option maxRecDepth 100000
set_option linter.unusedVariables false
set_option linter.unusedSimpArgs false
-- many steps
namespace Go.Proofs.YtbojpfpliibfbaaGreatDoor
open Go Go.Ab
attribute [local irreducible] vc
set_option maxHeartbeats 4000000 in
theorem F0 (k m M s:Int)(w:List (List UInt8))(e:List Typ)(f:List TFd)(ho:bh (.mk k m M s w e f)=0)(ht:(Typ.mk k m M s w e f).ok)(hk:1≤k∧k≤7):ae Tryz.prog aD 30 [(Typ.mk k m M s w e f).pv] (.int .i64 (fa (.mk k m M s w e f))):=by
 rw[Typ.ok_mk] at ht
 have hwl:w.length≤9000000000000:=by omega
 clear ht
 by_cases h23:k=2∨k=3
 ·obtain⟨sc,rfl,hm,hM⟩:=uL ho h23
  have h1:=oT (k:=k) (m:=m) (M:=M) (w:=w) (e:=e) (f:=f) hm
  have h2:=oT (k:=k) (m:=m) (M:=M) (w:=w) (e:=e) (f:=f) hM
  rw[show fa (.mk k m M (sc:Int) w e f)=max ((jZ m sc).length:Int) ((jZ M sc).length:Int) by simp only[fa,if_pos h23,Int.toNat_natCast]]
  generalize jZ m sc=a at *
  generalize jZ M sc=b at *
  simp only[Typ.pv_mk] at h1 h2
  refine ae.intro j8 (by simp[F30]) ?_
  rcases h23 with rfl | rfl
  ·simp(maxSteps:=9^7) (disch:=try exact dI) only[F30,Typ.pv_mk,push_cast,seval]
   refine aF h1 rfl ?_
   simp(maxSteps:=9^7) (disch:=try exact dI) only[push_cast,seval]
   refine aF h2 rfl ?_
   simp(maxSteps:=9^7) (disch:=try exact dI) only[push_cast,seval]
  ·simp(maxSteps:=9^7) (disch:=try exact dI) only[F30,Typ.pv_mk,push_cast,seval]
   refine aF h1 rfl ?_
   simp(maxSteps:=9^7) (disch:=try exact dI) only[push_cast,seval]
   refine aF h2 rfl ?_
   simp(maxSteps:=9^7) (disch:=try exact dI) only[push_cast,seval]
 by_cases h4:k=4
 ·subst h4
  rw[show fa (.mk 4 m M s w e f)=max (pT w M) 1 from rfl,← ot]
  refine ae.intro j8 (by simp[F30]) ?_
  simp(maxSteps:=9^7) (disch:=try exact dI) only[F30,Typ.pv_mk,push_cast,seval]
  refine aA ([]) (fun i:Nat=>[(3,.pv (.int .i64 (pT (w.take i) (max 1 M)))),(4,.pv (.int .i64 (i:Int)))]) (fun _=>[]) (fun i=>i≤w.length) (fun i=>w.length - i) (0) ?_;intro e0 σ0 n0 h0;simp(maxSteps:=9^7) (disch:=try exact dI) only[push_cast,seval] at h0;obtain⟨rfl,rfl,rfl⟩:=h0;refine⟨?_,?_,?_⟩
  ·simp(maxSteps:=9^7) (disch:=try exact dI) only[List.take_zero,pT,List.foldl_nil,push_cast,seval]
  ·omega
  rintro i hi
  by_cases hlt:i<w.length
  ·have hltI:(i:Int)<(w.length:Int):=by omega
   obtain⟨x,hx⟩:∃ x,w[i]? = some x:=⟨_,List.getElem?_eq_getElem hlt⟩
   have hst:=ld hx (max 1 M)
   simp(maxSteps:=9^7) (disch:=try exact dI) only[hx,Option.map_some,push_cast,seval]
   exact⟨i+1,aV (by simp(maxSteps:=9^7) (disch:=try exact dI) only[hst,push_cast,seval]),by omega,by omega⟩
  ·obtain rfl:i=w.length:=by omega
   rw[List.take_length]
   simp(maxSteps:=9^7) (disch:=try exact dI) only[Int.lt_irrefl,push_cast,seval]
 by_cases h5:k=5
 ·subst h5
  have hM:=uK ho
  rw[show fa (.mk 5 m M s w e f)=max (2*M) 1 from rfl,Int.max_comm]
  refine ae.intro j8 (by simp[F30]) ?_
  simp(maxSteps:=9^7) (disch:=try exact dI) only[F30,Typ.pv_mk,push_cast,seval]
 by_cases h6:k=6
 ·subst h6
  rw[show fa (.mk 6 m M s w e f)=10 from rfl]
  refine ae.intro j8 (by simp[F30]) ?_
  simp(maxSteps:=9^7) (disch:=try exact dI) only[F30,Typ.pv_mk,push_cast,seval]
 by_cases h7:k=7
 ·subst h7
  rw[show fa (.mk 7 m M s w e f)=24 from rfl]
  refine ae.intro j8 (by simp[F30]) ?_
  simp(maxSteps:=9^7) (disch:=try exact dI) only[F30,Typ.pv_mk,push_cast,seval]
 ·obtain rfl:k=1:=by omega
  rw[show fa (.mk 1 m M s w e f)=1 from rfl]
  refine ae.intro j8 (by simp[F30]) ?_
  simp(maxSteps:=9^7) (disch:=try exact dI) only[F30,Typ.pv_mk,push_cast,seval]
end Go.Proofs.YtbojpfpliibfbaaGreatDoor
-- many steps
namespace Go.Proofs.YtbojpfpliibfbaaGreatDoor
open Go Go.Ab
attribute [local irreducible] vc
theorem tF {t:Typ}(h:gK t=0):tyV 8 t:=by
 unfold gK at h
 by_cases h0:(bM 0 8 4096 t).1=0
 ·exact eq 8 4096 t h0
 ·rw[if_neg h0] at h;exact absurd h h0
theorem HG {n:Nat}{t:Typ}(h:tyV n t):bh t=0:=by
 cases n with
 | zero=>exact h.elim
 | succ n=>obtain⟨k,m,M,s,w,e,f⟩:=t;exact h.1
theorem sE {n:Nat}{t:Typ}(h:tyV n t)(ht:t.ok)(hs:scB t.kind=true):ae Tryz.prog aD 35 [t.pv] (.int .i64 (fa t))∧ae Tryz.prog aD 30 [t.pv] (.int .i64 (fa t)):=by
 have ho:=HG h
 obtain⟨k,m,M,s,w,e,f⟩:=t
 have hk:1≤k∧k≤7:=by
  simp only[scB,Typ.kind,Bool.and_eq_true,decide_eq_true_eq] at hs
  exact⟨of_decide_eq_true hs.1,of_decide_eq_true hs.2⟩
 exact⟨Do k m M s w e f ho ht hk,F0 k m M s w e f ho ht hk⟩
theorem kH {t:Typ}(h:dZ t=true):t.kind=9∧0<t.fields.length∧∀ g∈t.fields,scB g.typ.kind=true:=by
 obtain⟨k,m,M,s,w,e,f⟩:=t
 simp only[dZ,Bool.and_eq_true,decide_eq_true_eq,Bool.not_eq_true'] at h
 refine⟨h.1,h.2.1,fun g hg=>?_⟩
 have:=List.any_eq_false.1 h.2.2 g hg
 rw[wN] at this
 cases hb:scB g.typ.kind with
 | true=>rfl
 | false=>rw[hb] at this;exact absurd rfl this
theorem wm {t:Typ}(h:gK t=0)(ht:t.ok)(hf:dZ t=true):∀ g∈t.fields,ae Tryz.prog aD 35 [g.typ.pv] (.int .i64 (fa g.typ))∧ae Tryz.prog aD 30 [g.typ.pv] (.int .i64 (fa g.typ)):=fun g hg=>by
 have hty:=tF h
 obtain⟨h9,_,hs⟩:=kH hf
 have hsg:=hs g hg
 obtain⟨k,m,M,s,w,e,f⟩:=t
 rw[Typ.ok_mk] at ht
 exact sE (hty.2.2 (.inl h9) g hg).1 (dv (ht.2.2.2.2.2.2.2.2.2 g hg)).1 hsg
noncomputable def x9 (t:Typ):Int:=if gK t=0 then (if scB t.kind=true then 0 else 11) else gK t
noncomputable def Hj (t:Typ):Int:=if x9 t=0 then fa t else 0
theorem kY (t:Typ)(ht:t.ok):ae Tryz.prog aD 27 [t.pv] (.tup [.int .i64 (Hj t),.int .i64 (x9 t)]):=by
 have h69:=w7 t ht
 have h70:=yX t.kind
 have h35:gK t=0→scB t.kind=true→ae Tryz.prog aD 35 [t.pv] (.int .i64 (fa t)):=fun h hs=>(sE (tF h) ht hs).1
 unfold Hj x9
 generalize gK t=z at *
 generalize scB t.kind=b at *
 generalize fa t=W at *
 obtain⟨k,m,M,s,w,e,f⟩:=t
 simp only[Typ.pv_mk,Typ.kind] at h69 h70 h35
 refine ae.intro Kj (by simp[F27]) ?_
 by_cases hz:z=0
 ·subst hz
  rw[if_pos rfl]
  cases b with
  | true=>
    have h35:=h35 rfl rfl
    rw[if_pos rfl,if_pos rfl]
    simp(maxSteps:=9^7) (disch:=try exact dI) only[F27,Typ.pv_mk,push_cast,seval]
    refine ab.pure h69 rfl ?_
    simp(maxSteps:=9^7) (disch:=try exact dI) only[push_cast,seval]
    refine ab.pure h70 rfl ?_
    simp(maxSteps:=9^7) (disch:=try exact dI) only[push_cast,seval]
    refine ab.pure h35 rfl ?_
    simp(maxSteps:=9^7) (disch:=try exact dI) only[push_cast,seval]
  | false=>
    rw[if_neg (show ¬ false=true by decide),if_neg (show ¬ (11:Int)=0 by decide)]
    simp(maxSteps:=9^7) (disch:=try exact dI) only[F27,Typ.pv_mk,push_cast,seval]
    refine ab.pure h69 rfl ?_
    simp(maxSteps:=9^7) (disch:=try exact dI) only[push_cast,seval]
    refine ab.pure h70 rfl ?_
    simp(maxSteps:=9^7) (disch:=try exact dI) only[push_cast,seval]
 ·rw[if_neg hz,if_neg hz]
  simp(maxSteps:=9^7) (disch:=try exact dI) only[F27,Typ.pv_mk,push_cast,seval]
  refine ab.pure h69 rfl ?_
  simp(maxSteps:=9^7) (disch:=try exact dI) only[hz,push_cast,seval]
def jm (f:List TFd):List PV:=f.map fun g=>.int .i64 (fa g.typ)
theorem f6 (t:Typ)(ht:t.ok)(he:¬ flE t=0):ae Tryz.prog aD 23 [t.pv] (.tup [.nils,.int .i64 (flE t)]):=by
 have h34:=CY t ht
 generalize flE t=z at *
 obtain⟨k,m,M,s,w,e,f⟩:=t
 simp only[Typ.pv_mk] at h34
 refine ae.intro Df (by simp[F23]) ?_
 simp(maxSteps:=9^7) (disch:=try exact dI) only[F23,Typ.pv_mk,push_cast,seval]
 refine ab.pure h34 rfl ?_
 simp(maxSteps:=9^7) (disch:=try exact dI) only[he,push_cast,seval]
theorem Fj {t:Typ}(h:flE t=0):gK t=0∧dZ t=true:=by
 unfold flE at h
 by_cases hz:gK t=0
 ·rw[if_pos hz] at h
  cases hb:dZ t with
  | true=>exact⟨hz,rfl⟩
  | false=>rw[hb,if_neg (by decide)] at h;cases h
 ·rw[if_neg hz] at h;exact absurd h hz
theorem lf {f:List TFd}{i:Nat}{g:TFd}(h:f[i]? = some g):jm (f.take (i+1))=jm (f.take i)++[.int .i64 (fa g.typ)]:=by
 rw[aL h,jm,List.map_append];rfl
set_option maxHeartbeats 4000000 in
theorem od (t:Typ)(ht:t.ok)(he:flE t=0):ae Tryz.prog aD 23 [t.pv] (.tup [.list (jm t.fields),.int .i64 0]):=by
 have h34:=CY t ht
 obtain⟨h0,hfl⟩:=Fj he
 have hw:=fun g hg=>(wm h0 ht hfl g hg).1
 rw[he] at h34
 clear he h0 hfl
 obtain⟨k,m,M,s,w,e,f⟩:=t
 rw[Typ.ok_mk] at ht
 have hf:f.length≤9000000000000:=by omega
 clear ht
 simp only[Typ.pv_mk,Typ.fields] at h34 hw ⊢
 refine ae.intro Df (by simp[F23]) ?_
 simp(maxSteps:=9^7) (disch:=try exact dI) only[F23,Typ.pv_mk,push_cast,seval]
 refine ab.pure h34 rfl ?_
 simp(maxSteps:=9^7) (disch:=try exact dI) only[push_cast,seval]
 refine aA ([(5,0,3,1)]) (fun i:Nat=>[(5,.olist 0 1 (jm (f.take i))),(16,.pv (.int .i64 (i:Int)))]) (fun _=>[]) (fun i=>i≤f.length) (fun i=>f.length - i) (0) ?_;intro e0 σ0 n0 h0;simp(maxSteps:=9^7) (disch:=try exact dI) only[push_cast,seval] at h0;obtain⟨rfl,rfl,rfl⟩:=h0;refine⟨?_,?_,?_⟩
 ·simp(maxSteps:=9^7) (disch:=try exact dI) only[jm,push_cast,seval]
 ·omega
 rintro i hi
 by_cases hlt:i<f.length
 ·have hltI:(i:Int)<(f.length:Int):=by omega
  obtain⟨g,hg⟩:∃ g,f[i]? = some g:=⟨_,List.getElem?_eq_getElem hlt⟩
  have hc:=hw g (List.mem_of_getElem? hg)
  have hst:=lf hg
  have hlen:(jm (f.take i)).length=i:=by rw[jm,List.length_map,List.length_take];omega
  obtain⟨n',nm',nd',⟨k',m',M',s',w',e',f'⟩,d'⟩:=g
  simp only[TFd.typ,Typ.pv_mk] at hc hst
  generalize fa (.mk k' m' M' s' w' e' f')=z at hc hst
  generalize jm (f.take i)=L at *
  simp(maxSteps:=9^7) (disch:=try exact dI) only[hg,Option.map_some,TFd.pv_mk,Typ.pv_mk,ag,push_cast,seval]
  refine ab.pure hc rfl ?_
  simp(maxSteps:=9^7) (disch:=try exact dI) only[hlen,push_cast,seval]
  exact⟨i+1,aV (by simp(maxSteps:=9^7) (disch:=try exact dI) only[hst,push_cast,seval]),by omega,by omega⟩
 ·obtain rfl:i=f.length:=by omega
  rw[List.take_length]
  have hlen:(jm f).length=f.length:=by rw[jm,List.length_map]
  simp(maxSteps:=9^7) (disch:=try exact dI) only[Int.lt_irrefl,hlen,push_cast,seval]
theorem HN (a:List Int)(ha:a.length≤9000000000000):ae Tryz.prog aD 32 [.list (a.map fun n=>.int .i64 n),.list (a.map fun n=>.int .i64 n)] (.bool true):=by
 refine ae.intro J8 (by simp[F32]) ?_
 simp(maxSteps:=9^7) (disch:=try exact dI) only[F32,push_cast,seval]
 refine aA ([]) (fun i:Nat=>[(5,.pv (.int .i64 (i:Int)))]) (fun _=>[]) (fun i=>i≤a.length) (fun i=>a.length - i) (0) ?_;intro e0 σ0 n0 h0;simp(maxSteps:=9^7) (disch:=try exact dI) only[push_cast,seval] at h0;obtain⟨rfl,rfl,rfl⟩:=h0;refine⟨?_,?_,?_⟩
 ·simp(maxSteps:=9^7) (disch:=try exact dI) only[push_cast,seval]
 ·omega
 rintro i hi
 by_cases hlt:i<a.length
 ·have hltI:(i:Int)<(a.length:Int):=by omega
  obtain⟨x,hx⟩:∃ x,a[i]? = some x:=⟨_,List.getElem?_eq_getElem hlt⟩
  simp(maxSteps:=9^7) (disch:=try exact dI) only[hx,Option.map_some,push_cast,seval]
  exact⟨i+1,aV qsZ,by omega,by omega⟩
 ·obtain rfl:i=a.length:=by omega
  simp(maxSteps:=9^7) (disch:=try exact dI) only[Int.lt_irrefl,push_cast,seval]
end Go.Proofs.YtbojpfpliibfbaaGreatDoor

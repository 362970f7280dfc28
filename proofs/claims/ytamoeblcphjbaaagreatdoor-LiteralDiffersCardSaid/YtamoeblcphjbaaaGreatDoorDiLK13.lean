/- A part of the proof for LiteralDiffersCardSaid. -/
import Derived.Test.YtamoeblcphjbaaaGreatDoorDiLR6
import Derived.Test.YtamoeblcphjbaaaGreatDoorDiLE2
import Derived.Test.YtamoeblcphjbaaaGreatDoorDiLE8
import Derived.Test.YtamoeblcphjbaaaGreatDoorDiLE1
import Derived.Test.YtamoeblcphjbaaaGreatDoorDiL10
import Derived.Test.YtamoeblcphjbaaaGreatDoorDiL15
set_option maxRecDepth 100000
set_option linter.unusedVariables false
namespace Go.Proofs.YtamoeblcphjbaaaGreatDoor
open Go Go.Ab
def sA:List PV→Option (List (List UInt8))
 | []=>some []
 | .str s::r=>match sA r with
   | some l=>some (s::l)
   | none=>none
 | _=>none
theorem nS:∀ {l:List PV} {ss:List (List UInt8)},sA l=some ss→l=ss.map .str
 | [],ss,h=>by simp only[sA,Option.some.injEq] at h;subst h;rfl
 | x::r,ss,h=>by
   unfold sA at h
   split at h
   ·rename_i e;cases e
   ·rename_i s r' e
    cases e
    split at h
    ·rename_i l hl
     cases h
     rw[nS hl];rfl
    ·cases h
   ·cases h
def eqL (p:PV→PV→Bool):List PV→List PV→Bool
 | [],[]=>true
 | x::r,y::q=>p x y&&eqL p r q
 | _,_=>false
def eqP:Nat→PV→PV→Bool
 | n+1,.int k a,.int k' b=>decide (k=k')&&decide (a=b)
 | n+1,.str a,.str b=>decide (a=b)
 | n+1,.nils,.nils=>true
 | n+1,.agg a,.agg b=>eqL (eqP n) a b
 | n+1,.list a,.list b=>eqL (eqP n) a b
 | _,_,_=>false
theorem vF {p:PV→PV→Bool}(hp:∀ x y,p x y=true→x=y):∀ a b,eqL p a b=true→a=b
 | [],[],_=>rfl
 | x::r,y::q,h=>by
   simp only[eqL,Bool.and_eq_true] at h
   rw[hp x y h.1,vF hp r q h.2]
 | [],y::q,h=>by simp[eqL] at h
 | x::r,[],h=>by simp[eqL] at h
theorem oX:∀ n x y,eqP n x y=true→x=y
 | 0,x,y,h=>by simp[eqP] at h
 | n+1,x,y,h=>by
   unfold eqP at h
   split at h
   ·simp only[Bool.and_eq_true,decide_eq_true_eq] at h;rw[h.1,h.2]
   ·simp only[decide_eq_true_eq] at h;rw[h]
   ·rfl
   ·rw[vF (oX _) _ _ h]
   ·rw[vF (oX _) _ _ h]
   ·cases h
def v1:Val:=.mk 9 0 0 [] [] [.mk [97] (.mk 3 1250 2 [] [] []),.mk [98] (.mk 8 0 0 [] [.mk 1 1 0 [] [] [],.mk 4 0 0 [97,34,98] [] []] []),.mk [99] (.mk 10 0 0 [99,97,114,100] [.mk 6 0 0 [] [] []] [])]
def v1P:PV:=.agg [.int .i64 9,.int .i64 0,.int .i64 0,.str [],.nils,.list [.agg [.str [97],.int .i64 3,.int .i64 1250,.int .i64 2,.str [],.nils,.nils],.agg [.str [98],.int .i64 8,.int .i64 0,.int .i64 0,.str [],.list [.agg [.int .i64 1,.int .i64 1,.int .i64 0,.str [],.nils,.nils],.agg [.int .i64 4,.int .i64 0,.int .i64 0,.str [97,34,98],.nils,.nils]],.nils],.agg [.str [99],.int .i64 10,.int .i64 0,.int .i64 0,.str [99,97,114,100],.list [.agg [.int .i64 6,.int .i64 0,.int .i64 0,.str [],.nils,.nils]],.nils]]]
def v2:Val:=.mk 9 0 0 [] [] [.mk [97] (.mk 3 2 0 [] [] []),.mk [98] (.mk 2 1 0 [] [] [])]
def v2P:PV:=.agg [.int .i64 9,.int .i64 0,.int .i64 0,.str [],.nils,.list [.agg [.str [97],.int .i64 3,.int .i64 2,.int .i64 0,.str [],.nils,.nils],.agg [.str [98],.int .i64 2,.int .i64 1,.int .i64 0,.str [],.nils,.nils]]]
theorem Ax:aq Tryz.prog aC 15 [v1P] (.int .i64 0):=by
 have h:=gj 4 v1 (by simp[v1,e8,aR,Val.kind,Val.fields,Val.lst,Fld.value]) (by simp[v1,Val.ok_mk,Fld.ok_mk,I64])
 have e:jm 0 (aV 4 1 v1)=0:=by decide +kernel
 rw[e] at h
 refine h.nz ?_
 simp only[v1P,v1,Val.pv_mk,Fld.pv_mk,List.map_cons,List.map_nil]
 repeat' constructor
theorem Aw:aq Tryz.prog aC 15 [v2P] (.int .i64 0):=by
 have h:=gj 3 v2 (by simp[v2,e8,aR,Val.kind,Val.fields,Fld.value]) (by simp[v2,Val.ok_mk,Fld.ok_mk,I64])
 have e:jm 0 (aV 3 1 v2)=0:=by decide +kernel
 rw[e] at h
 refine h.nz ?_
 simp only[v2P,v2,Val.pv_mk,Fld.pv_mk,List.map_cons,List.map_nil]
 repeat' constructor
def orc (f:Nat)(ps:List PV):Option PV:=
 match f with
 | 66=>match ps with
   | [.int .i64 n]=>if -9223372036854775808≤n∧n≤9223372036854775807 then some (.str (bS n)) else none
   | _=>none
 | 103=>match ps with
   | [.str a,.str b]=>some (.int .i64 (Lib.compareBytes a b))
   | _=>none
 | 141=>match ps with
   | [.list l,.str s]=>match sA l with
     | some ss=>if ss.length≤140737488355328∧(aE s ss).length≤140737488355328 then some (.str (aE s ss)) else none
     | none=>none
   | _=>none
 | 88=>match ps with
   | [.str a,.int .i64 n]=>if 0≤n∧n≤9223372036854775807∧a.length*n.toNat≤140737488355328 then some (.str (Lib.repeatL a n.toNat)) else none
   | _=>none
 | 15=>match ps with
   | [p]=>if eqP 6 p v1P=true then some (.int .i64 0) else if eqP 6 p v2P=true then some (.int .i64 0) else none
   | _=>none
 | _=>none
theorem FP:∀ f ps r,orc f ps=some r→aq Tryz.prog aC f ps r:=by
 intro f ps r h
 unfold orc at h
 split at h
 ·split at h
  ·split at h
   ·rename_i hh;cases h;exact jQ _ hh.1 hh.2
   ·cases h
  ·cases h
 ·split at h
  ·cases h;exact fA _ _
  ·cases h
 ·split at h
  ·split at h
   ·rename_i e
    split at h
    ·rename_i hh;cases h
     rw[nS e]
     exact uZ _ _ hh.1 hh.2
    ·cases h
   ·cases h
  ·cases h
 ·split at h
  ·split at h
   ·rename_i hh;cases h;exact kG _ _ hh.1 hh.2.1 hh.2.2
   ·cases h
  ·cases h
 ·split at h
  ·split at h
   ·rename_i hh;cases h;rw[oX _ _ _ hh];exact Ax
   ·split at h
    ·rename_i hh;cases h;rw[oX _ _ _ hh];exact Aw
    ·cases h
  ·cases h
 ·cases h
noncomputable def gFn (p:Nat×List Nat):TabRow:=⟨p.1,p.2,(cFn Tryz.prog p.2 p.1).getD ⟨0,[],.skip⟩⟩
def Bb:List (Nat×List Nat):=[(12,[]),(14,[]),(16,[]),(18,[]),(20,[]),(26,[]),(31,[]),(33,[]),(36,[]),(37,[]),(42,[]),(43,[]),(45,[]),(46,[]),(47,[]),(49,[14]),(52,[]),(56,[124,1000168,1000123]),(63,[]),(64,[]),(65,[]),(67,[]),(68,[]),(82,[]),(86,[]),(87,[]),(89,[]),(90,[]),(92,[]),(93,[]),(94,[]),(95,[]),(99,[59,1000066]),(107,[19]),(113,[44]),(120,[]),(121,[]),(122,[]),(123,[]),(131,[]),(132,[]),(133,[]),(134,[]),(142,[]),(143,[]),(145,[]),(146,[]),(151,[]),(154,[]),(155,[]),(156,[]),(157,[]),(158,[]),(159,[]),(162,[]),(163,[]),(164,[]),(165,[]),(166,[]),(167,[]),(168,[]),(184,[]),(185,[12]),(189,[]),(195,[]),(196,[]),(198,[]),(203,[]),(206,[]),(209,[]),(210,[]),(211,[]),(215,[]),(220,[]),(221,[]),(225,[]),(226,[]),(236,[]),(237,[]),(248,[]),(254,[]),(261,[])]
theorem E9 {l:List (Nat×List Nat)}(h:(l.all fun p=>(cFn Tryz.prog p.2 p.1).isSome)=true):∀ r∈l.map gFn,cFn Tryz.prog r.muts r.f=some r.fn:=by
 intro r hr
 obtain⟨p,hp,rfl⟩:=List.mem_map.1 hr
 have h:=List.all_eq_true.1 h p hp
 simp only[gFn]
 cases h':cFn Tryz.prog p.2 p.1 with
 | some x=>rfl
 | none=>rw[h'] at h;cases h
theorem Ff:(Bb.all fun p=>(cFn Tryz.prog p.2 p.1).isSome)=true:=by kernel_rfl
theorem J9:qn (exF (Bb.map gFn) orc aC 20000 200) 12 []=some (.bool true):=by kernel_rfl
theorem DH:aq Tryz.prog aC 12 [] (.bool true):=aq.of_ex (E9 Ff) FP J9
end Go.Proofs.YtamoeblcphjbaaaGreatDoor
set_option linter.unusedSimpArgs false
-- many steps
namespace Go.Proofs.YtamoeblcphjbaaaGreatDoor
open Go Go.Ab Go.RowKit
attribute [local irreducible] vc
theorem Ce {s:List UInt8}(h:s.length≤65536):kz s=A s 0:=by rw[Cf (by omega)];rfl
section
variable {T:Nat}{p:PV}
end
end Go.Proofs.YtamoeblcphjbaaaGreatDoor
namespace Go.Proofs.YtamoeblcphjbaaaGreatDoor
open Go Go.Ab Go.RowKit
def wC (n:Nat)(lv:Int)(v:Val):Prop:=∀ q∈aV n lv v,Ad q.2∧q.1≤8
theorem nW {n:Nat}{lv:Int}{v:Val}(h:jm 0 (aV n lv v)=0):wC n lv v:=by
 intro q hq
 obtain⟨j,hj⟩:=List.getElem?_of_mem hq
 have hs:=j2 _ 0 h j q hj
 refine⟨(gy hs).2,?_⟩
 by_cases c1:4096≤0+j
 ·rw[sJ c1] at hs;omega
 by_cases c2:8<q.1
 ·rw[mw c1 c2] at hs;omega
 ·omega
theorem pO {n lv:Nat}{v x:Val}(h:wC (n+1) lv v)(hl:lv≤8)(hx:x∈aR v):wC n ((lv+1:Nat):Int) x:=fun q hq=>by
 refine h q ?_
 rw[aV]
 refine List.mem_cons_of_mem _ (List.mem_flatMap.2 ⟨x,hx,?_⟩)
 have hw:wrap64 ((lv:Int)+1)=((lv+1:Nat):Int):=by
  unfold wrap64
  omega
 rw[hw];exact hq
theorem n9 (s:List UInt8):∀ (n lv:Nat) (v:Val),e8 n v→wC n (lv:Int) v→1≤lv→∃ f,9 - lv=f+1∧bc s (f+1) (lv - 1) v (am n v)
 | 0,_,_,h,_,_=>h.elim
 | n+1,lv,v,hd,hs,h1=>by
   obtain⟨hg,hlv⟩:=hs ((lv:Int),v) (by rw[aV];exact List.mem_cons_self)
   have hlv8:lv≤8:=by simp only at hlv;omega
   obtain⟨f,hf⟩:∃ f,9 - lv=f+1:=⟨8 - lv,by omega⟩
   refine⟨f,hf,?_⟩
   have ih:∀ x∈aR v,bc s f (lv - 1+1) x (am n x):=by
    intro x hx
    obtain⟨f',e1,e2⟩:=n9 s n (lv+1) x (hd x hx) (pO hs hlv8 hx) (by omega)
    rw[show f=f'+1 by omega,show lv - 1+1=lv+1 - 1 by omega]
    exact e2
   obtain⟨k,m,sc,t,l,fs⟩:=v
   obtain⟨g1,g2,g3,g4⟩:=hg
   simp only[Val.kind] at g1 g2
   simp only[az,Bool.and_eq_true,Bool.or_eq_true,decide_eq_true_eq] at g3
   obtain⟨u1,u2,u3,u4,u5⟩:=g3
   have hk:k=1∨k=2∨k=3∨k=4∨k=5∨k=6∨k=7∨k=8∨k=9∨k=10:=by omega
   have ul:¬ (k=8∨k=10)→l=[]:=fun h=>List.eq_nil_of_length_eq_zero (u4.resolve_left h)
   have uf:¬ k=9→fs=[]:=fun h=>List.eq_nil_of_length_eq_zero (u5.resolve_left h)
   have ut:¬ (k=4∨k=5∨k=10)→t=[]:=fun h=>u3.resolve_left h
   have us:¬ k=3→sc=0:=fun h=>u2.resolve_left h
   have um:¬ (k=1∨k=2∨k=6∨k=7∨k=3)→m=0:=fun h=>u1.resolve_left h
   rcases hk with rfl | rfl | rfl | rfl | rfl | rfl | rfl | rfl | rfl | rfl
   ·obtain rfl:=ul (by omega)
    obtain rfl:=uf (by omega)
    obtain rfl:=ut (by omega)
    obtain rfl:=us (by omega)
    have hm:=EQ (n:=m) (a:=0) (b:=1) g4
    have:m=0∨m=1:=by omega
    rcases this with rfl | rfl
    ·exact pT
    ·exact tm
   ·obtain rfl:=ul (by omega)
    obtain rfl:=uf (by omega)
    obtain rfl:=ut (by omega)
    obtain rfl:=us (by omega)
    have hm:=sY g4
    exact yd ⟨hm.1,hm.2,by omega⟩
   ·obtain rfl:=ul (by omega)
    obtain rfl:=uf (by omega)
    obtain rfl:=ut (by omega)
    obtain⟨hi,h0⟩:=iT g4
    obtain⟨c,rfl⟩:∃ c:Nat,sc=c:=⟨sc.toNat,by omega⟩
    rw[Int.toNat_natCast] at hi
    have:=yf (s:=s) (f:=f) (d:=lv - 1) hi
    rw[show am (n+1) (.mk 3 m c [] [] [])=cu m c++(if c=0 then [100] else []) by
     show cu m (c:Int).toNat++(if (c:Int)=0 then [100] else [])=_
     rw[Int.toNat_natCast]
     congr 1
     by_cases h:c=0
     ·rw[if_pos h,if_pos (by omega)]
     ·rw[if_neg h,if_neg (by omega)]]
    exact this
   ·obtain rfl:=ul (by omega)
    obtain rfl:=uf (by omega)
    obtain rfl:=us (by omega)
    obtain rfl:=um (by omega)
    refine yb ?_
    rw[show aT (.mk 4 0 0 t [] [])=(if dp t.length 1024 5=0 then (if Lib.validD t=true then 0 else 16) else dp t.length 1024 5) from rfl] at g4
    split at g4
    ·split at g4
     ·assumption
     ·omega
    ·exact absurd g4 ‹_›
   ·obtain rfl:=ul (by omega)
    obtain rfl:=uf (by omega)
    obtain rfl:=us (by omega)
    obtain rfl:=um (by omega)
    exact ye
   ·obtain rfl:=ul (by omega)
    obtain rfl:=uf (by omega)
    obtain rfl:=ut (by omega)
    obtain rfl:=us (by omega)
    have hr:=n5 g4
    have hq:=vP hr
    exact gG (w:=[100,97,116,101]) (ps:=gQ) rfl (by decide) (by decide) hq.1 hq.2 fun R t h0 hi ht=>by
     rw[jL h0 hi,if_neg (by rw[ht];decide),if_neg (by rw[ht];decide),if_pos ht]
   ·obtain rfl:=ul (by omega)
    obtain rfl:=uf (by omega)
    obtain rfl:=ut (by omega)
    obtain rfl:=us (by omega)
    have hr:=n3 g4
    have hq:=pA hr
    exact gG (w:=[116,105,109,101]) (ps:=gP) rfl (by decide) (by decide) hq.1 hq.2 fun R t h0 hi ht=>by
     rw[jL h0 hi,if_neg (by rw[ht];decide),if_neg (by rw[ht];decide),if_neg (by rw[ht];decide),if_pos ht]
   ·obtain rfl:=uf (by omega)
    obtain rfl:=ut (by omega)
    obtain rfl:=us (by omega)
    obtain rfl:=um (by omega)
    exact tp (g:=am n) ih
   ·obtain rfl:=ul (by omega)
    obtain rfl:=ut (by omega)
    obtain rfl:=us (by omega)
    obtain rfl:=um (by omega)
    rw[show aT (.mk 9 0 0 [] [] fs)=(if dp fs.length 64 9=0 then ct none (fs.map Fld.name) else dp fs.length 64 9) from rfl] at g4
    split at g4
    ·refine yc (g:=am n) (fun x hx=>ih x.value ?_) (BG _ _ g4)
     exact List.mem_map.2 ⟨x,hx,rfl⟩
    ·exact absurd g4 ‹_›
   ·obtain rfl:=uf (by omega)
    obtain rfl:=us (by omega)
    obtain rfl:=um (by omega)
    have hr:=jD g4
    obtain⟨x,rfl⟩:=hr.2
    have ht:bj t=true:=by
     cases hb:bj t with
     | true=>rfl
     | false=>
       rw[show aT (.mk 10 0 0 t [x] [])=(if bj t=false then 12 else if [x].length=0 then 4 else dp [x].length 1 3) from rfl,if_pos hb] at g4
       omega
    exact ya ht (ih x (by simp[aR,Val.kind,Val.lst]))
theorem mQ {n:Nat}{v:Val}(hd:e8 n v)(hs:wC n 1 v)(hl:(am n v).length≤65536)(hc:o7 v=0)(hn:bx v=false):tW (am n v)=(v,0,0):=by
 obtain⟨f,hf,hr⟩:=n9 (am n v) n 1 v hd hs (by omega)
 obtain rfl:f=7:=by omega
 obtain⟨h1,h2,h3⟩:=hr 0 [] (by simp) (fun c hc=>by cases hc)
 rw[Nat.zero_add] at h1
 unfold tW
 rw[Ce hl,h1]
 have hf:vv (A (am n v) (am n v).length)=⟨am n v,(am n v).length,{ pos:=(am n v).length },0,0⟩:=by rw[HY (Nat.le_refl _)];rfl
 simp only
 rw[hf]
 unfold JV
 rw[if_pos rfl,if_neg (by rw[hn];decide),if_pos hc]
end Go.Proofs.YtamoeblcphjbaaaGreatDoor
-- many steps
namespace Go.Proofs.YtamoeblcphjbaaaGreatDoor
open Go Go.Ab Go.RowKit
attribute [local irreducible] vc
def dW (g:Val→Int):Int→List Val→Int
 | a,[]=>a
 | a,x::r=>dW g (max a (g x)) r
theorem nv (g:Val→Int)(x:Val):∀ (l:List Val) (a:Int),dW g a (l++[x])=max (dW g a l) (g x)
 | [],a=>rfl
 | y::r,a=>by rw[List.cons_append,dW,nv g x r];rfl
def e6:Nat→Val→Int
 | 0,_=>0
 | n+1,v=>IntKind.i64.wrap (dW (e6 n) (dW (e6 n) 0 v.lst) (v.fields.map Fld.value)+1)
theorem Br {v:Val}(hv:v.ok):∀ x∈v.lst,x.ok:=by
 obtain⟨k,m,s,t,l,fs⟩:=v
 rw[Val.ok_mk] at hv
 exact hv.2.2.2.2.2.1
theorem Bx {v:Val}(hv:v.ok):∀ x∈v.fields,x.value.ok:=by
 obtain⟨k,m,s,t,l,fs⟩:=v
 rw[Val.ok_mk] at hv
 intro x hx
 have:=hv.2.2.2.2.2.2.2 x hx
 obtain⟨nm,y⟩:=x
 rw[Fld.ok_mk] at this
 exact this.2
set_option maxHeartbeats 4000000 in
theorem nt:∀ (n:Nat) (v:Val),iD n v→v.ok→aq Tryz.prog aC 34 [v.pv] (.int .i64 (e6 n v))
 | 0,_,h,_=>h.elim
 | n+1,v,h,hv=>by
   have ih1:∀ x∈v.lst,aq Tryz.prog aC 34 [x.pv] (.int .i64 (e6 n x)):=fun x hx=>nt n x (h.1 x hx) (Br hv x hx)
   have ih2:∀ x∈v.fields,aq Tryz.prog aC 34 [x.value.pv] (.int .i64 (e6 n x.value)):=fun x hx=>nt n x.value (h.2 x hx) (Bx hv x hx)
   obtain⟨k,m,s,t,l,fs⟩:=v
   rw[e6]
   simp only[Val.lst,Val.fields] at ih1 ih2 ⊢
   rw[Val.ok_mk] at hv
   have hl1:l.length*88≤140737488351232:=hv.2.2.2.2.1
   have hl2:fs.length*104≤140737488351232:=hv.2.2.2.2.2.2.1
   clear hv h
   generalize e6 n=g at *
   refine aq.intro HG (by simp[F34]) ?_
   simp(disch:=try exact dI) only[F34,Val.pv_mk,push_cast,seval]
   refine aX ([]) (fun i:Nat=>[(3,.pv (.int .i64 (dW g 0 (l.take i)))),(4,.pv (.int .i64 (i:Int)))]) (fun _=>[]) (fun i=>i≤l.length) (fun i=>l.length - i) (0) ?_;intro e0 σ0 n0 h0;simp(disch:=try exact dI) only[push_cast,seval] at h0;obtain⟨rfl,rfl,rfl⟩:=h0;refine⟨?_,?_,?_⟩
   ·simp(disch:=try exact dI) only[push_cast,seval]
    try exact .refl _
   ·omega
   ·rintro i hi
    by_cases hlt:i<l.length
    ·have hltI:(i:Int)<(l.length:Int):=by omega
     obtain⟨x,hx⟩:∃ x,l[i]? = some x:=⟨_,List.getElem?_eq_getElem hlt⟩
     have hx':(l.map Val.pv)[i]? = some x.pv:=by simp[hx]
     have hc:=ih1 x (List.mem_of_getElem? hx)
     have hts:dW g 0 (l.take (i+1))=max (dW g 0 (l.take i)) (g x):=by rw[aQ hx,nv]
     generalize g x=X at *
     obtain⟨xk,xn,xs,xt,xl,xf⟩:=x
     simp only[Val.pv_mk] at hx' hc
     simp(disch:=try exact dI) only[hltI,hx',push_cast,seval]
     refine ab.pure hc rfl ?_
     simp(disch:=try exact dI) only[push_cast,seval]
     exact⟨i+1,bX (by simp(disch:=try exact dI) only[hts,push_cast,seval]),by omega,by omega⟩
    ·have hltI:¬ (i:Int)<(l.length:Int):=by omega
     obtain rfl:i=l.length:=by omega
     rw[List.take_length]
     generalize dW g 0 l=D at *
     simp(disch:=try exact dI) only[hltI,push_cast,seval]
     refine aX ([]) (fun i:Nat=>[(3,.pv (.int .i64 (dW g D ((fs.take i).map Fld.value)))),(5,.pv (.int .i64 (i:Int)))]) (fun _=>[]) (fun i=>i≤fs.length) (fun i=>fs.length - i) (0) ?_;intro e0 σ0 n0 h0;simp(disch:=try exact dI) only[push_cast,seval] at h0;obtain⟨rfl,rfl,rfl⟩:=h0;refine⟨?_,?_,?_⟩
     ·simp(disch:=try exact dI) only[push_cast,seval]
      try exact .refl _
     ·omega
     ·rintro i hi
      by_cases hlt:i<fs.length
      ·have hltI:(i:Int)<(fs.length:Int):=by omega
       obtain⟨x,hx⟩:∃ x,fs[i]? = some x:=⟨_,List.getElem?_eq_getElem hlt⟩
       have hx':(fs.map Fld.pv)[i]? = some x.pv:=by simp[hx]
       have hc:=ih2 x (List.mem_of_getElem? hx)
       have hts:dW g D ((fs.take (i+1)).map Fld.value)=max (dW g D ((fs.take i).map Fld.value)) (g x.value):=by rw[aQ hx,List.map_append,List.map_cons,List.map_nil,nv]
       generalize g x.value=X at *
       obtain⟨nm,x⟩:=x
       simp only[Fld.value] at hc
       obtain⟨xk,xn,xs,xt,xl,xf⟩:=x
       simp only[Fld.pv_mk,Val.pv_mk] at hx' hc
       simp(disch:=try exact dI) only[hltI,hx',push_cast,seval]
       refine ab.pure hc rfl ?_
       simp(disch:=try exact dI) only[push_cast,seval]
       exact⟨i+1,bX (by simp(disch:=try exact dI) only[hts,push_cast,seval]),by omega,by omega⟩
      ·have hltI:¬ (i:Int)<(fs.length:Int):=by omega
       obtain rfl:i=fs.length:=by omega
       rw[List.take_length]
       simp(disch:=try exact dI) only[hltI,push_cast,seval]
end Go.Proofs.YtamoeblcphjbaaaGreatDoor

/- A part of the proof for LiteralFieldsCardSaid. -/
import Derived.Test.YtamoeblcphjbaaaGreatDoorFlLR6
import Derived.Test.YtamoeblcphjbaaaGreatDoorFlLE2
import Derived.Test.YtamoeblcphjbaaaGreatDoorFlLE8
import Derived.Test.YtamoeblcphjbaaaGreatDoorFlLE1
import Derived.Test.YtamoeblcphjbaaaGreatDoorFlL10
import Derived.Test.YtamoeblcphjbaaaGreatDoorFlL15
set_option maxRecDepth 100000
set_option linter.unusedVariables false
namespace Go.Proofs.YtamoeblcphjbaaaGreatDoor
open Go Go.Ab
def yx:List PV→Option (List (List UInt8))
 | []=>some []
 | .str s::r=>match yx r with
   | some l=>some (s::l)
   | none=>none
 | _=>none
theorem sL:∀ {l:List PV} {ss:List (List UInt8)},yx l=some ss→l=ss.map .str
 | [],ss,h=>by simp only[yx,Option.some.injEq] at h;subst h;rfl
 | x::r,ss,h=>by
   unfold yx at h
   split at h
   ·rename_i e;cases e
   ·rename_i s r' e
    cases e
    split at h
    ·rename_i l hl
     cases h
     rw[sL hl];rfl
    ·cases h
   ·cases h
def eqL (p:PV→PV→Bool):List PV→List PV→Bool
 | [],[]=>true
 | x::r,y::q=>p x y&&eqL p r q
 | _,_=>false
def eqP:Nat→PV→PV→Bool
 | n+1,.int k a,.int k' b=>decide (k=k')&&decide (a=b)
 | n+1,.str a,.str b=>decide (a=b)
 | n+1,.nils,.nils=>true
 | n+1,.agg a,.agg b=>eqL (eqP n) a b
 | n+1,.list a,.list b=>eqL (eqP n) a b
 | _,_,_=>false
theorem B5 {p:PV→PV→Bool}(hp:∀ x y,p x y=true→x=y):∀ a b,eqL p a b=true→a=b
 | [],[],_=>rfl
 | x::r,y::q,h=>by
   simp only[eqL,Bool.and_eq_true] at h
   rw[hp x y h.1,B5 hp r q h.2]
 | [],y::q,h=>by simp[eqL] at h
 | x::r,[],h=>by simp[eqL] at h
theorem ur:∀ n x y,eqP n x y=true→x=y
 | 0,x,y,h=>by simp[eqP] at h
 | n+1,x,y,h=>by
   unfold eqP at h
   split at h
   ·simp only[Bool.and_eq_true,decide_eq_true_eq] at h;rw[h.1,h.2]
   ·simp only[decide_eq_true_eq] at h;rw[h]
   ·rfl
   ·rw[B5 (ur _) _ _ h]
   ·rw[B5 (ur _) _ _ h]
   ·cases h
def v1:Val:=.mk 9 0 0 [] [] [.mk [97] (.mk 3 1250 2 [] [] []),.mk [98] (.mk 8 0 0 [] [.mk 1 1 0 [] [] [],.mk 4 0 0 [97,34,98] [] []] []),.mk [99] (.mk 10 0 0 [99,97,114,100] [.mk 6 0 0 [] [] []] [])]
def v1P:PV:=.agg [.int .i64 9,.int .i64 0,.int .i64 0,.str [],.nils,.list [.agg [.str [97],.int .i64 3,.int .i64 1250,.int .i64 2,.str [],.nils,.nils],.agg [.str [98],.int .i64 8,.int .i64 0,.int .i64 0,.str [],.list [.agg [.int .i64 1,.int .i64 1,.int .i64 0,.str [],.nils,.nils],.agg [.int .i64 4,.int .i64 0,.int .i64 0,.str [97,34,98],.nils,.nils]],.nils],.agg [.str [99],.int .i64 10,.int .i64 0,.int .i64 0,.str [99,97,114,100],.list [.agg [.int .i64 6,.int .i64 0,.int .i64 0,.str [],.nils,.nils]],.nils]]]
def v2:Val:=.mk 9 0 0 [] [] [.mk [97] (.mk 3 2 0 [] [] []),.mk [98] (.mk 2 1 0 [] [] [])]
def v2P:PV:=.agg [.int .i64 9,.int .i64 0,.int .i64 0,.str [],.nils,.list [.agg [.str [97],.int .i64 3,.int .i64 2,.int .i64 0,.str [],.nils,.nils],.agg [.str [98],.int .i64 2,.int .i64 1,.int .i64 0,.str [],.nils,.nils]]]
theorem GN:aq Tryz.prog aF 15 [v1P] (.int .i64 0):=by
 have h:=jF 4 v1 (by simp[v1,gQ,aY,Val.kind,Val.fields,Val.lst,Fld.value]) (by simp[v1,Val.ok_mk,Fld.ok_mk,I64])
 have e:jE 0 (bg 4 1 v1)=0:=by decide +kernel
 rw[e] at h
 refine h.nz ?_
 simp only[v1P,v1,Val.pv_mk,Fld.pv_mk,List.map_cons,List.map_nil]
 repeat' constructor
theorem GM:aq Tryz.prog aF 15 [v2P] (.int .i64 0):=by
 have h:=jF 3 v2 (by simp[v2,gQ,aY,Val.kind,Val.fields,Fld.value]) (by simp[v2,Val.ok_mk,Fld.ok_mk,I64])
 have e:jE 0 (bg 3 1 v2)=0:=by decide +kernel
 rw[e] at h
 refine h.nz ?_
 simp only[v2P,v2,Val.pv_mk,Fld.pv_mk,List.map_cons,List.map_nil]
 repeat' constructor
def orc (f:Nat)(ps:List PV):Option PV:=
 match f with
 | 66=>match ps with
   | [.int .i64 n]=>if -9223372036854775808≤n∧n≤9223372036854775807 then some (.str (cR n)) else none
   | _=>none
 | 103=>match ps with
   | [.str a,.str b]=>some (.int .i64 (Lib.compareBytes a b))
   | _=>none
 | 141=>match ps with
   | [.list l,.str s]=>match yx l with
     | some ss=>if ss.length≤140737488355328∧(aK s ss).length≤140737488355328 then some (.str (aK s ss)) else none
     | none=>none
   | _=>none
 | 88=>match ps with
   | [.str a,.int .i64 n]=>if 0≤n∧n≤9223372036854775807∧a.length*n.toNat≤140737488355328 then some (.str (Lib.repeatL a n.toNat)) else none
   | _=>none
 | 15=>match ps with
   | [p]=>if eqP 6 p v1P=true then some (.int .i64 0) else if eqP 6 p v2P=true then some (.int .i64 0) else none
   | _=>none
 | _=>none
theorem Nq:∀ f ps r,orc f ps=some r→aq Tryz.prog aF f ps r:=by
 intro f ps r h
 unfold orc at h
 split at h
 ·split at h
  ·split at h
   ·rename_i hh;cases h;exact na _ hh.1 hh.2
   ·cases h
  ·cases h
 ·split at h
  ·cases h;exact iH _ _
  ·cases h
 ·split at h
  ·split at h
   ·rename_i e
    split at h
    ·rename_i hh;cases h
     rw[sL e]
     exact Bj _ _ hh.1 hh.2
    ·cases h
   ·cases h
  ·cases h
 ·split at h
  ·split at h
   ·rename_i hh;cases h;exact oq _ _ hh.1 hh.2.1 hh.2.2
   ·cases h
  ·cases h
 ·split at h
  ·split at h
   ·rename_i hh;cases h;rw[ur _ _ _ hh];exact GN
   ·split at h
    ·rename_i hh;cases h;rw[ur _ _ _ hh];exact GM
    ·cases h
  ·cases h
 ·cases h
noncomputable def gFn (p:Nat×List Nat):TabRow:=⟨p.1,p.2,(cFn Tryz.prog p.2 p.1).getD ⟨0,[],.skip⟩⟩
def Hw:List (Nat×List Nat):=[(12,[]),(14,[]),(16,[]),(18,[]),(20,[]),(26,[]),(31,[]),(33,[]),(36,[]),(37,[]),(42,[]),(43,[]),(45,[]),(46,[]),(47,[]),(49,[14]),(52,[]),(56,[124,1000168,1000123]),(63,[]),(64,[]),(65,[]),(67,[]),(68,[]),(82,[]),(86,[]),(87,[]),(89,[]),(90,[]),(92,[]),(93,[]),(94,[]),(95,[]),(99,[59,1000066]),(107,[19]),(113,[44]),(120,[]),(121,[]),(122,[]),(123,[]),(131,[]),(132,[]),(133,[]),(134,[]),(142,[]),(143,[]),(145,[]),(146,[]),(151,[]),(154,[]),(155,[]),(156,[]),(157,[]),(158,[]),(159,[]),(162,[]),(163,[]),(164,[]),(165,[]),(166,[]),(167,[]),(168,[]),(184,[]),(185,[12]),(189,[]),(195,[]),(196,[]),(198,[]),(203,[]),(206,[]),(209,[]),(210,[]),(211,[]),(215,[]),(220,[]),(221,[]),(225,[]),(226,[]),(236,[]),(237,[]),(248,[]),(254,[]),(261,[])]
theorem ME {l:List (Nat×List Nat)}(h:(l.all fun p=>(cFn Tryz.prog p.2 p.1).isSome)=true):∀ r∈l.map gFn,cFn Tryz.prog r.muts r.f=some r.fn:=by
 intro r hr
 obtain⟨p,hp,rfl⟩:=List.mem_map.1 hr
 have h:=List.all_eq_true.1 h p hp
 simp only[gFn]
 cases h':cFn Tryz.prog p.2 p.1 with
 | some x=>rfl
 | none=>rw[h'] at h;cases h
theorem MM:(Hw.all fun p=>(cFn Tryz.prog p.2 p.1).isSome)=true:=by kernel_rfl
theorem SH:vR (exF (Hw.map gFn) orc aF 20000 200) 12 []=some (.bool true):=by kernel_rfl
theorem Kc:aq Tryz.prog aF 12 [] (.bool true):=aq.of_ex (ME MM) Nq SH
end Go.Proofs.YtamoeblcphjbaaaGreatDoor
set_option linter.unusedSimpArgs false
-- many steps
namespace Go.Proofs.YtamoeblcphjbaaaGreatDoor
open Go Go.Ab Go.RowKit
attribute [local irreducible] vc
theorem IG {s:List UInt8}(h:s.length≤65536):cu s=A s 0:=by rw[jW (by omega)];rfl
section
variable {T:Nat}{p:PV}
end
end Go.Proofs.YtamoeblcphjbaaaGreatDoor
namespace Go.Proofs.YtamoeblcphjbaaaGreatDoor
open Go Go.Ab Go.RowKit
def p8 (n:Nat)(lv:Int)(v:Val):Prop:=∀ q∈bg n lv v,BG q.2∧q.1≤8
theorem mK {n:Nat}{lv:Int}{v:Val}(h:jE 0 (bg n lv v)=0):p8 n lv v:=by
 intro q hq
 obtain⟨j,hj⟩:=List.getElem?_of_mem hq
 have hs:=nC _ 0 h j q hj
 refine⟨(jV hs).2,?_⟩
 by_cases c1:4096≤0+j
 ·rw[yN c1] at hs;omega
 by_cases c2:8<q.1
 ·rw[qD c1 c2] at hs;omega
 ·omega
theorem ft {n lv:Nat}{v x:Val}(h:p8 (n+1) lv v)(hl:lv≤8)(hx:x∈aY v):p8 n ((lv+1:Nat):Int) x:=fun q hq=>by
 refine h q ?_
 rw[bg]
 refine List.mem_cons_of_mem _ (List.mem_flatMap.2 ⟨x,hx,?_⟩)
 have hw:wrap64 ((lv:Int)+1)=((lv+1:Nat):Int):=by
  unfold wrap64
  omega
 rw[hw];exact hq
theorem tc (s:List UInt8):∀ (n lv:Nat) (v:Val),gQ n v→p8 n (lv:Int) v→1≤lv→∃ f,9 - lv=f+1∧bf s (f+1) (lv - 1) v (au n v)
 | 0,_,_,h,_,_=>h.elim
 | n+1,lv,v,hd,hs,h1=>by
   obtain⟨hg,hlv⟩:=hs ((lv:Int),v) (by rw[bg];exact List.mem_cons_self)
   have hlv8:lv≤8:=by simp only at hlv;omega
   obtain⟨f,hf⟩:∃ f,9 - lv=f+1:=⟨8 - lv,by omega⟩
   refine⟨f,hf,?_⟩
   have ih:∀ x∈aY v,bf s f (lv - 1+1) x (au n x):=by
    intro x hx
    obtain⟨f',e1,e2⟩:=tc s n (lv+1) x (hd x hx) (ft hs hlv8 hx) (by omega)
    rw[show f=f'+1 by omega,show lv - 1+1=lv+1 - 1 by omega]
    exact e2
   obtain⟨k,m,sc,t,l,fs⟩:=v
   obtain⟨g1,g2,g3,g4⟩:=hg
   simp only[Val.kind] at g1 g2
   simp only[aE,Bool.and_eq_true,Bool.or_eq_true,decide_eq_true_eq] at g3
   obtain⟨u1,u2,u3,u4,u5⟩:=g3
   have hk:k=1∨k=2∨k=3∨k=4∨k=5∨k=6∨k=7∨k=8∨k=9∨k=10:=by omega
   have ul:¬ (k=8∨k=10)→l=[]:=fun h=>List.eq_nil_of_length_eq_zero (u4.resolve_left h)
   have uf:¬ k=9→fs=[]:=fun h=>List.eq_nil_of_length_eq_zero (u5.resolve_left h)
   have ut:¬ (k=4∨k=5∨k=10)→t=[]:=fun h=>u3.resolve_left h
   have us:¬ k=3→sc=0:=fun h=>u2.resolve_left h
   have um:¬ (k=1∨k=2∨k=6∨k=7∨k=3)→m=0:=fun h=>u1.resolve_left h
   rcases hk with rfl | rfl | rfl | rfl | rfl | rfl | rfl | rfl | rfl | rfl
   ·obtain rfl:=ul (by omega)
    obtain rfl:=uf (by omega)
    obtain rfl:=ut (by omega)
    obtain rfl:=us (by omega)
    have hm:=Mh (n:=m) (a:=0) (b:=1) g4
    have:m=0∨m=1:=by omega
    rcases this with rfl | rfl
    ·exact vv
    ·exact zE
   ·obtain rfl:=ul (by omega)
    obtain rfl:=uf (by omega)
    obtain rfl:=ut (by omega)
    obtain rfl:=us (by omega)
    have hm:=y7 g4
    exact EQ ⟨hm.1,hm.2,by omega⟩
   ·obtain rfl:=ul (by omega)
    obtain rfl:=uf (by omega)
    obtain rfl:=ut (by omega)
    obtain⟨hi,h0⟩:=lQ g4
    obtain⟨c,rfl⟩:∃ c:Nat,sc=c:=⟨sc.toNat,by omega⟩
    rw[Int.toNat_natCast] at hi
    have:=ES (s:=s) (f:=f) (d:=lv - 1) hi
    rw[show au (n+1) (.mk 3 m c [] [] [])=cS m c++(if c=0 then [100] else []) by
     show cS m (c:Int).toNat++(if (c:Int)=0 then [100] else [])=_
     rw[Int.toNat_natCast]
     congr 1
     by_cases h:c=0
     ·rw[if_pos h,if_pos (by omega)]
     ·rw[if_neg h,if_neg (by omega)]]
    exact this
   ·obtain rfl:=ul (by omega)
    obtain rfl:=uf (by omega)
    obtain rfl:=us (by omega)
    obtain rfl:=um (by omega)
    refine EO ?_
    rw[show bi (.mk 4 0 0 t [] [])=(if ef t.length 1024 5=0 then (if Lib.validD t=true then 0 else 16) else ef t.length 1024 5) from rfl] at g4
    split at g4
    ·split at g4
     ·assumption
     ·omega
    ·exact absurd g4 ‹_›
   ·obtain rfl:=ul (by omega)
    obtain rfl:=uf (by omega)
    obtain rfl:=us (by omega)
    obtain rfl:=um (by omega)
    exact ER
   ·obtain rfl:=ul (by omega)
    obtain rfl:=uf (by omega)
    obtain rfl:=ut (by omega)
    obtain rfl:=us (by omega)
    have hr:=sY g4
    have hq:=Ch hr
    exact j7 (w:=[100,97,116,101]) (ps:=cI) rfl (by decide) (by decide) hq.1 hq.2 fun R t h0 hi ht=>by
     rw[kv h0 hi,if_neg (by rw[ht];decide),if_neg (by rw[ht];decide),if_pos ht]
   ·obtain rfl:=ul (by omega)
    obtain rfl:=uf (by omega)
    obtain rfl:=ut (by omega)
    obtain rfl:=us (by omega)
    have hr:=sX g4
    have hq:=vd hr
    exact j7 (w:=[116,105,109,101]) (ps:=ci) rfl (by decide) (by decide) hq.1 hq.2 fun R t h0 hi ht=>by
     rw[kv h0 hi,if_neg (by rw[ht];decide),if_neg (by rw[ht];decide),if_neg (by rw[ht];decide),if_pos ht]
   ·obtain rfl:=uf (by omega)
    obtain rfl:=ut (by omega)
    obtain rfl:=us (by omega)
    obtain rfl:=um (by omega)
    exact zF (g:=au n) ih
   ·obtain rfl:=ul (by omega)
    obtain rfl:=ut (by omega)
    obtain rfl:=us (by omega)
    obtain rfl:=um (by omega)
    rw[show bi (.mk 9 0 0 [] [] fs)=(if ef fs.length 64 9=0 then dm none (fs.map Fld.name) else ef fs.length 64 9) from rfl] at g4
    split at g4
    ·refine EP (g:=au n) (fun x hx=>ih x.value ?_) (CW _ _ g4)
     exact List.mem_map.2 ⟨x,hx,rfl⟩
    ·exact absurd g4 ‹_›
   ·obtain rfl:=uf (by omega)
    obtain rfl:=us (by omega)
    obtain rfl:=um (by omega)
    have hr:=mN g4
    obtain⟨x,rfl⟩:=hr.2
    have ht:bn t=true:=by
     cases hb:bn t with
     | true=>rfl
     | false=>
       rw[show bi (.mk 10 0 0 t [x] [])=(if bn t=false then 12 else if [x].length=0 then 4 else ef [x].length 1 3) from rfl,if_pos hb] at g4
       omega
    exact EN ht (ih x (by simp[aY,Val.kind,Val.lst]))
end Go.Proofs.YtamoeblcphjbaaaGreatDoor
-- many steps
namespace Go.Proofs.YtamoeblcphjbaaaGreatDoor
open Go Go.Ab Go.RowKit
attribute [local irreducible] vc
def dW (g:Val→Int):Int→List Val→Int
 | a,[]=>a
 | a,x::r=>dW g (max a (g x)) r
theorem rZ (g:Val→Int)(x:Val):∀ (l:List Val) (a:Int),dW g a (l++[x])=max (dW g a l) (g x)
 | [],a=>rfl
 | y::r,a=>by rw[List.cons_append,dW,rZ g x r];rfl
def gP:Nat→Val→Int
 | 0,_=>0
 | n+1,v=>IntKind.i64.wrap (dW (gP n) (dW (gP n) 0 v.lst) (v.fields.map Fld.value)+1)
theorem HO {v:Val}(hv:v.ok):∀ x∈v.lst,x.ok:=by
 obtain⟨k,m,s,t,l,fs⟩:=v
 rw[Val.ok_mk] at hv
 exact hv.2.2.2.2.2.1
theorem HW {v:Val}(hv:v.ok):∀ x∈v.fields,x.value.ok:=by
 obtain⟨k,m,s,t,l,fs⟩:=v
 rw[Val.ok_mk] at hv
 intro x hx
 have:=hv.2.2.2.2.2.2.2 x hx
 obtain⟨nm,y⟩:=x
 rw[Fld.ok_mk] at this
 exact this.2
set_option maxHeartbeats 4000000 in
theorem rW:∀ (n:Nat) (v:Val),ll n v→v.ok→aq Tryz.prog aF 34 [v.pv] (.int .i64 (gP n v))
 | 0,_,h,_=>h.elim
 | n+1,v,h,hv=>by
   have ih1:∀ x∈v.lst,aq Tryz.prog aF 34 [x.pv] (.int .i64 (gP n x)):=fun x hx=>rW n x (h.1 x hx) (HO hv x hx)
   have ih2:∀ x∈v.fields,aq Tryz.prog aF 34 [x.value.pv] (.int .i64 (gP n x.value)):=fun x hx=>rW n x.value (h.2 x hx) (HW hv x hx)
   obtain⟨k,m,s,t,l,fs⟩:=v
   rw[gP]
   simp only[Val.lst,Val.fields] at ih1 ih2 ⊢
   rw[Val.ok_mk] at hv
   have hl1:l.length*88≤140737488351232:=hv.2.2.2.2.1
   have hl2:fs.length*104≤140737488351232:=hv.2.2.2.2.2.2.1
   clear hv h
   generalize gP n=g at *
   refine aq.intro Pu (by simp[F34]) ?_
   simp(disch:=try exact dI) only[F34,Val.pv_mk,push_cast,seval]
   refine aN ([]) (fun i:Nat=>[(3,.pv (.int .i64 (dW g 0 (l.take i)))),(4,.pv (.int .i64 (i:Int)))]) (fun _=>[]) (fun i=>i≤l.length) (fun i=>l.length - i) (0) ?_;intro e0 σ0 n0 h0;simp(disch:=try exact dI) only[push_cast,seval] at h0;obtain⟨rfl,rfl,rfl⟩:=h0;refine⟨?_,?_,?_⟩
   ·simp(disch:=try exact dI) only[push_cast,seval]
    try exact .refl _
   ·omega
   ·rintro i hi
    by_cases hlt:i<l.length
    ·have hltI:(i:Int)<(l.length:Int):=by omega
     obtain⟨x,hx⟩:∃ x,l[i]? = some x:=⟨_,List.getElem?_eq_getElem hlt⟩
     have hx':(l.map Val.pv)[i]? = some x.pv:=by simp[hx]
     have hc:=ih1 x (List.mem_of_getElem? hx)
     have hts:dW g 0 (l.take (i+1))=max (dW g 0 (l.take i)) (g x):=by rw[aP hx,rZ]
     generalize g x=X at *
     obtain⟨xk,xn,xs,xt,xl,xf⟩:=x
     simp only[Val.pv_mk] at hx' hc
     simp(disch:=try exact dI) only[hltI,hx',push_cast,seval]
     refine ab.pure hc rfl ?_
     simp(disch:=try exact dI) only[push_cast,seval]
     exact⟨i+1,bz (by simp(disch:=try exact dI) only[hts,push_cast,seval]),by omega,by omega⟩
    ·have hltI:¬ (i:Int)<(l.length:Int):=by omega
     obtain rfl:i=l.length:=by omega
     rw[List.take_length]
     generalize dW g 0 l=D at *
     simp(disch:=try exact dI) only[hltI,push_cast,seval]
     refine aN ([]) (fun i:Nat=>[(3,.pv (.int .i64 (dW g D ((fs.take i).map Fld.value)))),(5,.pv (.int .i64 (i:Int)))]) (fun _=>[]) (fun i=>i≤fs.length) (fun i=>fs.length - i) (0) ?_;intro e0 σ0 n0 h0;simp(disch:=try exact dI) only[push_cast,seval] at h0;obtain⟨rfl,rfl,rfl⟩:=h0;refine⟨?_,?_,?_⟩
     ·simp(disch:=try exact dI) only[push_cast,seval]
      try exact .refl _
     ·omega
     ·rintro i hi
      by_cases hlt:i<fs.length
      ·have hltI:(i:Int)<(fs.length:Int):=by omega
       obtain⟨x,hx⟩:∃ x,fs[i]? = some x:=⟨_,List.getElem?_eq_getElem hlt⟩
       have hx':(fs.map Fld.pv)[i]? = some x.pv:=by simp[hx]
       have hc:=ih2 x (List.mem_of_getElem? hx)
       have hts:dW g D ((fs.take (i+1)).map Fld.value)=max (dW g D ((fs.take i).map Fld.value)) (g x.value):=by rw[aP hx,List.map_append,List.map_cons,List.map_nil,rZ]
       generalize g x.value=X at *
       obtain⟨nm,x⟩:=x
       simp only[Fld.value] at hc
       obtain⟨xk,xn,xs,xt,xl,xf⟩:=x
       simp only[Fld.pv_mk,Val.pv_mk] at hx' hc
       simp(disch:=try exact dI) only[hltI,hx',push_cast,seval]
       refine ab.pure hc rfl ?_
       simp(disch:=try exact dI) only[push_cast,seval]
       exact⟨i+1,bz (by simp(disch:=try exact dI) only[hts,push_cast,seval]),by omega,by omega⟩
      ·have hltI:¬ (i:Int)<(fs.length:Int):=by omega
       obtain rfl:i=fs.length:=by omega
       rw[List.take_length]
       simp(disch:=try exact dI) only[hltI,push_cast,seval]
end Go.Proofs.YtamoeblcphjbaaaGreatDoor

/- A part of the proof for LiteralAgainCardSaid. -/
import Derived.Test.YtamoeblcphjbaaaGreatDoorAgLR6
import Derived.Test.YtamoeblcphjbaaaGreatDoorAgLE2
import Derived.Test.YtamoeblcphjbaaaGreatDoorAgLE8
import Derived.Test.YtamoeblcphjbaaaGreatDoorAgLE1
import Derived.Test.YtamoeblcphjbaaaGreatDoorAgL10
import Derived.Test.YtamoeblcphjbaaaGreatDoorAgL15
set_option maxRecDepth 100000
set_option linter.unusedVariables false
namespace Go.Proofs.YtamoeblcphjbaaaGreatDoor
open Go Go.Ab
def x8:List PV→Option (List (List UInt8))
 | []=>some []
 | .str s::r=>match x8 r with
   | some l=>some (s::l)
   | none=>none
 | _=>none
theorem sw:∀ {l:List PV} {ss:List (List UInt8)},x8 l=some ss→l=ss.map .str
 | [],ss,h=>by simp only[x8,Option.some.injEq] at h;subst h;rfl
 | x::r,ss,h=>by
   unfold x8 at h
   split at h
   ·rename_i e;cases e
   ·rename_i s r' e
    cases e
    split at h
    ·rename_i l hl
     cases h
     rw[sw hl];rfl
    ·cases h
   ·cases h
def eqL (p:PV→PV→Bool):List PV→List PV→Bool
 | [],[]=>true
 | x::r,y::q=>p x y&&eqL p r q
 | _,_=>false
def eqP:Nat→PV→PV→Bool
 | n+1,.int k a,.int k' b=>decide (k=k')&&decide (a=b)
 | n+1,.str a,.str b=>decide (a=b)
 | n+1,.nils,.nils=>true
 | n+1,.agg a,.agg b=>eqL (eqP n) a b
 | n+1,.list a,.list b=>eqL (eqP n) a b
 | _,_,_=>false
theorem Bw {p:PV→PV→Bool}(hp:∀ x y,p x y=true→x=y):∀ a b,eqL p a b=true→a=b
 | [],[],_=>rfl
 | x::r,y::q,h=>by
   simp only[eqL,Bool.and_eq_true] at h
   rw[hp x y h.1,Bw hp r q h.2]
 | [],y::q,h=>by simp[eqL] at h
 | x::r,[],h=>by simp[eqL] at h
theorem tO:∀ n x y,eqP n x y=true→x=y
 | 0,x,y,h=>by simp[eqP] at h
 | n+1,x,y,h=>by
   unfold eqP at h
   split at h
   ·simp only[Bool.and_eq_true,decide_eq_true_eq] at h;rw[h.1,h.2]
   ·simp only[decide_eq_true_eq] at h;rw[h]
   ·rfl
   ·rw[Bw (tO _) _ _ h]
   ·rw[Bw (tO _) _ _ h]
   ·cases h
def v1:Val:=.mk 9 0 0 [] [] [.mk [97] (.mk 3 1250 2 [] [] []),.mk [98] (.mk 8 0 0 [] [.mk 1 1 0 [] [] [],.mk 4 0 0 [97,34,98] [] []] []),.mk [99] (.mk 10 0 0 [99,97,114,100] [.mk 6 0 0 [] [] []] [])]
def v1P:PV:=.agg [.int .i64 9,.int .i64 0,.int .i64 0,.str [],.nils,.list [.agg [.str [97],.int .i64 3,.int .i64 1250,.int .i64 2,.str [],.nils,.nils],.agg [.str [98],.int .i64 8,.int .i64 0,.int .i64 0,.str [],.list [.agg [.int .i64 1,.int .i64 1,.int .i64 0,.str [],.nils,.nils],.agg [.int .i64 4,.int .i64 0,.int .i64 0,.str [97,34,98],.nils,.nils]],.nils],.agg [.str [99],.int .i64 10,.int .i64 0,.int .i64 0,.str [99,97,114,100],.list [.agg [.int .i64 6,.int .i64 0,.int .i64 0,.str [],.nils,.nils]],.nils]]]
def v2:Val:=.mk 9 0 0 [] [] [.mk [97] (.mk 3 2 0 [] [] []),.mk [98] (.mk 2 1 0 [] [] [])]
def v2P:PV:=.agg [.int .i64 9,.int .i64 0,.int .i64 0,.str [],.nils,.list [.agg [.str [97],.int .i64 3,.int .i64 2,.int .i64 0,.str [],.nils,.nils],.agg [.str [98],.int .i64 2,.int .i64 1,.int .i64 0,.str [],.nils,.nils]]]
theorem F7:aq Tryz.prog aF 15 [v1P] (.int .i64 0):=by
 have h:=jL 4 v1 (by simp[v1,gm,bf,Val.kind,Val.fields,Val.lst,Fld.value]) (by simp[v1,Val.ok_mk,Fld.ok_mk,I64])
 have e:mq 0 (bt 4 1 v1)=0:=by decide +kernel
 rw[e] at h
 refine h.nz ?_
 simp only[v1P,v1,Val.pv_mk,Fld.pv_mk,List.map_cons,List.map_nil]
 repeat' constructor
theorem F6:aq Tryz.prog aF 15 [v2P] (.int .i64 0):=by
 have h:=jL 3 v2 (by simp[v2,gm,bf,Val.kind,Val.fields,Fld.value]) (by simp[v2,Val.ok_mk,Fld.ok_mk,I64])
 have e:mq 0 (bt 3 1 v2)=0:=by decide +kernel
 rw[e] at h
 refine h.nz ?_
 simp only[v2P,v2,Val.pv_mk,Fld.pv_mk,List.map_cons,List.map_nil]
 repeat' constructor
def orc (f:Nat)(ps:List PV):Option PV:=
 match f with
 | 66=>match ps with
   | [.int .i64 n]=>if -9223372036854775808≤n∧n≤9223372036854775807 then some (.str (cS n)) else none
   | _=>none
 | 103=>match ps with
   | [.str a,.str b]=>some (.int .i64 (Lib.compareBytes a b))
   | _=>none
 | 141=>match ps with
   | [.list l,.str s]=>match x8 l with
     | some ss=>if ss.length≤140737488355328∧(aJ s ss).length≤140737488355328 then some (.str (aJ s ss)) else none
     | none=>none
   | _=>none
 | 88=>match ps with
   | [.str a,.int .i64 n]=>if 0≤n∧n≤9223372036854775807∧a.length*n.toNat≤140737488355328 then some (.str (Lib.repeatL a n.toNat)) else none
   | _=>none
 | 15=>match ps with
   | [p]=>if eqP 6 p v1P=true then some (.int .i64 0) else if eqP 6 p v2P=true then some (.int .i64 0) else none
   | _=>none
 | _=>none
theorem MI:∀ f ps r,orc f ps=some r→aq Tryz.prog aF f ps r:=by
 intro f ps r h
 unfold orc at h
 split at h
 ·split at h
  ·split at h
   ·rename_i hh;cases h;exact mZ _ hh.1 hh.2
   ·cases h
  ·cases h
 ·split at h
  ·cases h;exact iQ _ _
  ·cases h
 ·split at h
  ·split at h
   ·rename_i e
    split at h
    ·rename_i hh;cases h
     rw[sw e]
     exact AL _ _ hh.1 hh.2
    ·cases h
   ·cases h
  ·cases h
 ·split at h
  ·split at h
   ·rename_i hh;cases h;exact og _ _ hh.1 hh.2.1 hh.2.2
   ·cases h
  ·cases h
 ·split at h
  ·split at h
   ·rename_i hh;cases h;rw[tO _ _ _ hh];exact F7
   ·split at h
    ·rename_i hh;cases h;rw[tO _ _ _ hh];exact F6
    ·cases h
  ·cases h
 ·cases h
noncomputable def gFn (p:Nat×List Nat):TabRow:=⟨p.1,p.2,(cFn Tryz.prog p.2 p.1).getD ⟨0,[],.skip⟩⟩
def GR:List (Nat×List Nat):=[(12,[]),(14,[]),(16,[]),(18,[]),(20,[]),(26,[]),(31,[]),(33,[]),(36,[]),(37,[]),(42,[]),(43,[]),(45,[]),(46,[]),(47,[]),(49,[14]),(52,[]),(56,[124,1000168,1000123]),(63,[]),(64,[]),(65,[]),(67,[]),(68,[]),(82,[]),(86,[]),(87,[]),(89,[]),(90,[]),(92,[]),(93,[]),(94,[]),(95,[]),(99,[59,1000066]),(107,[19]),(113,[44]),(120,[]),(121,[]),(122,[]),(123,[]),(131,[]),(132,[]),(133,[]),(134,[]),(142,[]),(143,[]),(145,[]),(146,[]),(151,[]),(154,[]),(155,[]),(156,[]),(157,[]),(158,[]),(159,[]),(162,[]),(163,[]),(164,[]),(165,[]),(166,[]),(167,[]),(168,[]),(184,[]),(185,[12]),(189,[]),(195,[]),(196,[]),(198,[]),(203,[]),(206,[]),(209,[]),(210,[]),(211,[]),(215,[]),(220,[]),(221,[]),(225,[]),(226,[]),(236,[]),(237,[]),(248,[]),(254,[]),(261,[])]
theorem LS {l:List (Nat×List Nat)}(h:(l.all fun p=>(cFn Tryz.prog p.2 p.1).isSome)=true):∀ r∈l.map gFn,cFn Tryz.prog r.muts r.f=some r.fn:=by
 intro r hr
 obtain⟨p,hp,rfl⟩:=List.mem_map.1 hr
 have h:=List.all_eq_true.1 h p hp
 simp only[gFn]
 cases h':cFn Tryz.prog p.2 p.1 with
 | some x=>rfl
 | none=>rw[h'] at h;cases h
theorem L0:(GR.all fun p=>(cFn Tryz.prog p.2 p.1).isSome)=true:=by kernel_rfl
theorem RN:vp (exF (GR.map gFn) orc aF 20000 200) 12 []=some (.bool true):=by kernel_rfl
theorem Jv:aq Tryz.prog aF 12 [] (.bool true):=aq.of_ex (LS L0) MI RN
end Go.Proofs.YtamoeblcphjbaaaGreatDoor
set_option linter.unusedSimpArgs false
-- many steps
namespace Go.Proofs.YtamoeblcphjbaaaGreatDoor
open Go Go.Ab Go.RowKit
attribute [local irreducible] vc
theorem H2 {s:List UInt8}(h:s.length≤65536):ce s=A s 0:=by rw[il (by omega)];rfl
section
variable {T:Nat}{p:PV}
end
end Go.Proofs.YtamoeblcphjbaaaGreatDoor
namespace Go.Proofs.YtamoeblcphjbaaaGreatDoor
open Go Go.Ab Go.RowKit
def Cz (n:Nat)(lv:Int)(v:Val):Prop:=∀ q∈bt n lv v,FC q.2∧q.1≤8
theorem sC {n:Nat}{lv:Int}{v:Val}(h:mq 0 (bt n lv v)=0):Cz n lv v:=by
 intro q hq
 obtain⟨j,hj⟩:=List.getElem?_of_mem hq
 have hs:=nu _ 0 h j q hj
 refine⟨(j0 hs).2,?_⟩
 by_cases c1:4096≤0+j
 ·rw[yk c1] at hs;omega
 by_cases c2:8<q.1
 ·rw[qx c1 c2] at hs;omega
 ·omega
theorem uS {n lv:Nat}{v x:Val}(h:Cz (n+1) lv v)(hl:lv≤8)(hx:x∈bf v):Cz n ((lv+1:Nat):Int) x:=fun q hq=>by
 refine h q ?_
 rw[bt]
 refine List.mem_cons_of_mem _ (List.mem_flatMap.2 ⟨x,hx,?_⟩)
 have hw:wrap64 ((lv:Int)+1)=((lv+1:Nat):Int):=by
  unfold wrap64
  omega
 rw[hw];exact hq
theorem sK (s:List UInt8):∀ (n lv:Nat) (v:Val),gm n v→Cz n (lv:Int) v→1≤lv→∃ f,9 - lv=f+1∧bC s (f+1) (lv - 1) v (au n v)
 | 0,_,_,h,_,_=>h.elim
 | n+1,lv,v,hd,hs,h1=>by
   obtain⟨hg,hlv⟩:=hs ((lv:Int),v) (by rw[bt];exact List.mem_cons_self)
   have hlv8:lv≤8:=by simp only at hlv;omega
   obtain⟨f,hf⟩:∃ f,9 - lv=f+1:=⟨8 - lv,by omega⟩
   refine⟨f,hf,?_⟩
   have ih:∀ x∈bf v,bC s f (lv - 1+1) x (au n x):=by
    intro x hx
    obtain⟨f',e1,e2⟩:=sK s n (lv+1) x (hd x hx) (uS hs hlv8 hx) (by omega)
    rw[show f=f'+1 by omega,show lv - 1+1=lv+1 - 1 by omega]
    exact e2
   obtain⟨k,m,sc,t,l,fs⟩:=v
   obtain⟨g1,g2,g3,g4⟩:=hg
   simp only[Val.kind] at g1 g2
   simp only[aE,Bool.and_eq_true,Bool.or_eq_true,decide_eq_true_eq] at g3
   obtain⟨u1,u2,u3,u4,u5⟩:=g3
   have hk:k=1∨k=2∨k=3∨k=4∨k=5∨k=6∨k=7∨k=8∨k=9∨k=10:=by omega
   have ul:¬ (k=8∨k=10)→l=[]:=fun h=>List.eq_nil_of_length_eq_zero (u4.resolve_left h)
   have uf:¬ k=9→fs=[]:=fun h=>List.eq_nil_of_length_eq_zero (u5.resolve_left h)
   have ut:¬ (k=4∨k=5∨k=10)→t=[]:=fun h=>u3.resolve_left h
   have us:¬ k=3→sc=0:=fun h=>u2.resolve_left h
   have um:¬ (k=1∨k=2∨k=6∨k=7∨k=3)→m=0:=fun h=>u1.resolve_left h
   rcases hk with rfl | rfl | rfl | rfl | rfl | rfl | rfl | rfl | rfl | rfl
   ·obtain rfl:=ul (by omega)
    obtain rfl:=uf (by omega)
    obtain rfl:=ut (by omega)
    obtain rfl:=us (by omega)
    have hm:=Lv (n:=m) (a:=0) (b:=1) g4
    have:m=0∨m=1:=by omega
    rcases this with rfl | rfl
    ·exact uX
    ·exact yR
   ·obtain rfl:=ul (by omega)
    obtain rfl:=uf (by omega)
    obtain rfl:=ut (by omega)
    obtain rfl:=us (by omega)
    have hm:=yz g4
    exact Eb ⟨hm.1,hm.2,by omega⟩
   ·obtain rfl:=ul (by omega)
    obtain rfl:=uf (by omega)
    obtain rfl:=ut (by omega)
    obtain⟨hi,h0⟩:=j6 g4
    obtain⟨c,rfl⟩:∃ c:Nat,sc=c:=⟨sc.toNat,by omega⟩
    rw[Int.toNat_natCast] at hi
    have:=Ed (s:=s) (f:=f) (d:=lv - 1) hi
    rw[show au (n+1) (.mk 3 m c [] [] [])=c8 m c++(if c=0 then [100] else []) by
     show c8 m (c:Int).toNat++(if (c:Int)=0 then [100] else [])=_
     rw[Int.toNat_natCast]
     congr 1
     by_cases h:c=0
     ·rw[if_pos h,if_pos (by omega)]
     ·rw[if_neg h,if_neg (by omega)]]
    exact this
   ·obtain rfl:=ul (by omega)
    obtain rfl:=uf (by omega)
    obtain rfl:=us (by omega)
    obtain rfl:=um (by omega)
    refine D9 ?_
    rw[show bi (.mk 4 0 0 t [] [])=(if e8 t.length 1024 5=0 then (if Lib.validD t=true then 0 else 16) else e8 t.length 1024 5) from rfl] at g4
    split at g4
    ·split at g4
     ·assumption
     ·omega
    ·exact absurd g4 ‹_›
   ·obtain rfl:=ul (by omega)
    obtain rfl:=uf (by omega)
    obtain rfl:=us (by omega)
    obtain rfl:=um (by omega)
    exact Ec
   ·obtain rfl:=ul (by omega)
    obtain rfl:=uf (by omega)
    obtain rfl:=ut (by omega)
    obtain rfl:=us (by omega)
    have hr:=oc g4
    have hq:=BI hr
    exact kf (w:=[100,97,116,101]) (ps:=cn) rfl (by decide) (by decide) hq.1 hq.2 fun R t h0 hi ht=>by
     rw[kA h0 hi,if_neg (by rw[ht];decide),if_neg (by rw[ht];decide),if_pos ht]
   ·obtain rfl:=ul (by omega)
    obtain rfl:=uf (by omega)
    obtain rfl:=ut (by omega)
    obtain rfl:=us (by omega)
    have hr:=ob g4
    have hq:=uF hr
    exact kf (w:=[116,105,109,101]) (ps:=bP) rfl (by decide) (by decide) hq.1 hq.2 fun R t h0 hi ht=>by
     rw[kA h0 hi,if_neg (by rw[ht];decide),if_neg (by rw[ht];decide),if_neg (by rw[ht];decide),if_pos ht]
   ·obtain rfl:=uf (by omega)
    obtain rfl:=ut (by omega)
    obtain rfl:=us (by omega)
    obtain rfl:=um (by omega)
    exact yS (g:=au n) ih
   ·obtain rfl:=ul (by omega)
    obtain rfl:=ut (by omega)
    obtain rfl:=us (by omega)
    obtain rfl:=um (by omega)
    rw[show bi (.mk 9 0 0 [] [] fs)=(if e8 fs.length 64 9=0 then dJ none (fs.map Fld.name) else e8 fs.length 64 9) from rfl] at g4
    split at g4
    ·refine Ea (g:=au n) (fun x hx=>ih x.value ?_) (Hu _ _ g4)
     exact List.mem_map.2 ⟨x,hx,rfl⟩
    ·exact absurd g4 ‹_›
   ·obtain rfl:=uf (by omega)
    obtain rfl:=us (by omega)
    obtain rfl:=um (by omega)
    have hr:=j7 g4
    obtain⟨x,rfl⟩:=hr.2
    have ht:bA t=true:=by
     cases hb:bA t with
     | true=>rfl
     | false=>
       rw[show bi (.mk 10 0 0 t [x] [])=(if bA t=false then 12 else if [x].length=0 then 4 else e8 [x].length 1 3) from rfl,if_pos hb] at g4
       omega
    exact D8 ht (ih x (by simp[bf,Val.kind,Val.lst]))
theorem qX {n:Nat}{v:Val}(hd:gm n v)(hs:Cz n 1 v)(hl:(au n v).length≤65536)(hc:BY v=0)(hn:bQ v=false):dd (au n v)=(v,0,0):=by
 obtain⟨f,hf,hr⟩:=sK (au n v) n 1 v hd hs (by omega)
 obtain rfl:f=7:=by omega
 obtain⟨h1,h2,h3⟩:=hr 0 [] (by simp) (fun c hc=>by cases hc)
 rw[Nat.zero_add] at h1
 unfold dd
 rw[H2 hl,h1]
 have hf:gi (A (au n v) (au n v).length)=⟨au n v,(au n v).length,{ pos:=(au n v).length },0,0⟩:=by rw[O4 (Nat.le_refl _)];rfl
 simp only
 rw[hf]
 unfold LB
 rw[if_pos rfl,if_neg (by rw[hn];decide),if_pos hc]
end Go.Proofs.YtamoeblcphjbaaaGreatDoor
-- many steps
namespace Go.Proofs.YtamoeblcphjbaaaGreatDoor
open Go Go.Ab Go.RowKit
attribute [local irreducible] vc
end Go.Proofs.YtamoeblcphjbaaaGreatDoor
-- many steps
namespace Go.Proofs.YtamoeblcphjbaaaGreatDoor
open Go Go.Ab Go.RowKit
attribute [local irreducible] vc
end Go.Proofs.YtamoeblcphjbaaaGreatDoor
-- many steps
namespace Go.Proofs.YtamoeblcphjbaaaGreatDoor
open Go Go.Ab Go.RowKit
attribute [local irreducible] vc
end Go.Proofs.YtamoeblcphjbaaaGreatDoor
-- many steps
namespace Go.Proofs.YtamoeblcphjbaaaGreatDoor
open Go Go.Ab Go.RowKit
attribute [local irreducible] vc
noncomputable def lvl (v:Val):Nat:=(iU v).choose
theorem iG (v:Val):mz (lvl v) v:=(iU v).choose_spec
noncomputable def txt (v:Val):List UInt8:=au (lvl v) v
theorem Au (v:Val):∃ f,lvl v=f+1:=by
 have:=iG v
 cases h:lvl v with
 | zero=>rw[h] at this;exact this.elim
 | succ f=>exact⟨f,rfl⟩
theorem nv (v:Val):BY v=mq 0 (bt (lvl v) 1 v):=rfl
theorem Pz {v:Val}(hv:v.ok)(hc:BY v=0):aq Tryz.prog aF 14 [v.pv] (.tup [.str (Ly (txt v)),.int .i64 (Lz (txt v))]):=by
 obtain⟨f,hf⟩:=Au v
 have hd:=fF _ v (iG v)
 have hc':=nv v
 unfold txt
 rw[hf] at hd hc' ⊢
 have:=GF hd hv
 rw[← hc',hc,if_pos (.inl rfl)] at this
 exact this
theorem I4 {v:Val}(hc:BY v=0):bQ v=false:=by
 obtain⟨f,hf⟩:=Au v
 have hc':=nv v
 rw[hf,hc] at hc'
 have hs:=sC hc'.symm (1,v) (by rw[bt];exact List.mem_cons_self)
 cases hn:bQ v with
 | false=>rfl
 | true=>
   have:=oO hn
   have:=hs.1.1
   simp only at this
   omega
theorem xP {v:Val}(hc:BY v=0)(hl:(txt v).length≤65536):dd (txt v)=(v,0,0):=
 qX (fF _ v (iG v)) (sC ((nv v).symm.trans hc)) hl hc (I4 hc)
section
variable {T:Nat}{p:PV}
end
end Go.Proofs.YtamoeblcphjbaaaGreatDoor

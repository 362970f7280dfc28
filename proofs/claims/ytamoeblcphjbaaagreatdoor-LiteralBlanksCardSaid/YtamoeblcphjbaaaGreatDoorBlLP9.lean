/- A part. -/
import Derived.Test.YtamoeblcphjbaaaGreatDoorBlLP7
import Derived.Shelf.SlGeneric
import Derived.Shelf.SlSortCmp.WholeK
import Derived.Ground.SlsfProg
import Derived.Test.YtamoeblcphjbaaaGreatDoorProg
import Derived.WalkKit
import Derived.WalkMore
import Derived.Deep.Draws
import Derived.Shelf.SlSortCmp.NoneTotal
set_option linter.unusedVariables false
set_option linter.unusedSimpArgs false
set_option maxHeartbeats 16000000
set_option maxRecDepth 100000
open List renaming getElem?_eq_getElem->Uo,length_take->UM,mem_of_getElem?->Uw,map_append->Vs,take_of_length_le->UW,range->UZ
open Array renaming range->Vv
namespace Go.Proofs.YtamoeblcphjbaaaGreatDoor
open Go Go.Ab
attribute [local irreducible] vc
theorem Lj {R:Rd}{i:Nat}{e:Int}(he:e≠0):OkR (aP R i e):=fun h=>absurd h (bn he)
section
variable {T:Nat}{p:PV}
theorem eM (R:Rd)(t:List UInt8)(hR:OkR R):aI Tryz.prog (bE T p) 1 132 [.ptr 0 0,.pv (.str t)] [rdB R] (.pv (.bool (bp R t).1)) [rdB (bp R t).2]:=by
 have h1:=yc (T:=T) (p:=p) R t
 have h2:=bx (T:=T) (p:=p) R hR
 unfold bp
 simp only[rdB,rdC] at h1 h2
 cases hi:isT R t with
 | true=>
   rw[hi] at h1
   rw[if_pos rfl]
   generalize tkP R.now=was at *
   refine aI.intro NZ.2 (by simp[NZ]) ?_
   simp(disch:=try exact dI) only[NZ,rdB,rdC,push_cast,seval]
   refine ae.lentK h1 [0] rfl qsZ qsZ ?_
   refine zgZ ?_
   refine ae.lentK h2 [0] rfl qsZ qsZ ?_
   refine zgZ ?_
   exact am [] (by simp(disch:=try exact dI) only[rdB,rdC,push_cast,seval])
 | false=>
   rw[hi] at h1
   rw[if_neg (by decide)]
   refine aI.intro NZ.2 (by simp[NZ]) ?_
   simp(disch:=try exact dI) only[NZ,rdB,rdC,push_cast,seval]
   refine ae.lentK h1 [0] rfl qsZ qsZ ?_
   refine zgZ ?_
   exact am [] (by simp(disch:=try exact dI) only[rdB,rdC,push_cast,seval])
theorem aJ (R:Rd)(t:List UInt8)(hR:OkR R):aI Tryz.prog (bE T p) 1 121 [.ptr 0 0,.pv (.str t)] [rdB R] (.pv (.tup [])) [rdB (aq R t)]:=by
 have h1:=eM (T:=T) (p:=p) R t hR
 unfold aq
 by_cases h0:R.e=0
 ·have h0I:(R.e=0)=True:=eq_true h0
  rw[if_pos h0]
  unfold bp at h1
  simp only[rdB,rdC] at h1
  cases hi:isT R t with
  | true=>
    rw[hi,if_pos rfl] at h1
    rw[if_pos rfl]
    simp only at h1
    refine aI.intro IB.2 (by simp[IB]) ?_
    simp(disch:=try exact dI) only[IB,rdB,rdC,h0I,push_cast,seval]
    refine ae.lentK h1 [0] rfl qsZ qsZ ?_
    refine zgZ ?_
    exact am [] (by simp(disch:=try exact dI) only[rdB,rdC,push_cast,seval])
  | false=>
    rw[hi,if_neg (by decide)] at h1
    rw[if_neg (by decide)]
    have hf:=bV (T:=T) (p:=p) R R.now.pos 13
    simp only[rdB,rdC] at h1 hf
    refine aI.intro IB.2 (by simp[IB]) ?_
    simp(disch:=try exact dI) only[IB,rdB,rdC,h0I,push_cast,seval]
    refine ae.lentK h1 [0] rfl qsZ qsZ ?_
    refine zgZ ?_
    refine ae.lentK hf [0] rfl qsZ qsZ ?_
    refine zgZ ?_
    exact am [] (by simp(disch:=try exact dI) only[rdB,rdC,push_cast,seval])
 ·rw[if_neg h0]
  refine aI.intro IB.2 (by simp[IB]) ?_
  simp(disch:=try exact dI) only[IB,rdB,rdC,h0,push_cast,seval]
  exact am [] (by simp(disch:=try exact dI) only[rdB,rdC,push_cast,seval])
theorem kP {R:Rd}{k:Int}(h:R.e=0)(hk:R.now.kind=k):bi R k=(R.now,aT R):=by
 have e:(if R.e=0/\R.now.kind≠k then aP R R.now.pos 13 else R)=R:=if_neg (fun q=>q.2 hk)
 unfold bi
 rw[e]
 exact if_pos h
theorem take_2 {R:Rd}{k:Int}(h:R.e=0)(hk:¬ R.now.kind=k):bi R k=({},aP R R.now.pos 13):=by
 have e:(if R.e=0/\R.now.kind≠k then aP R R.now.pos 13 else R)=aP R R.now.pos 13:=if_pos ⟨h,hk⟩
 unfold bi
 rw[e]
 exact if_neg (bn (by decide))
theorem take_3 {R:Rd}{k:Int}(h:¬ R.e=0):bi R k=({},R):=by
 have e:(if R.e=0/\R.now.kind≠k then aP R R.now.pos 13 else R)=R:=if_neg (fun q=>h q.1)
 unfold bi
 rw[e]
 exact if_neg h
theorem i7 (R:Rd)(k:Int)(hR:OkR R):aI Tryz.prog (bE T p) 1 134 [.ptr 0 0,.pv (.int .i64 k)] [rdB R] (.pv (tkP (bi R k).1)) [rdB (bi R k).2]:=by
 by_cases h0:R.e=0
 ·have h0I:(R.e=0)=True:=eq_true h0
  by_cases hk:R.now.kind=k
  ·rw[kP h0 hk]
   have hkI:(R.now.kind=k)=True:=eq_true hk
   have h2:=bx (T:=T) (p:=p) R hR
   simp only[rdB,rdC,tkP] at h2 ⊢
   refine aI.intro Ix.2 (by simp[Ix]) ?_
   simp(disch:=try exact dI) only[Ix,h0I,hkI,push_cast,seval]
   refine ae.lentK h2 [0] rfl qsZ qsZ ?_
   refine zgZ ?_
   exact am [] qsZ
  ·rw[take_2 h0 hk]
   have hf:=bV (T:=T) (p:=p) R R.now.pos 13
   have he:=bn (R:=R) (i:=R.now.pos) (e:=13) (by decide)
   simp only[rdB,rdC,tkP] at hf ⊢
   refine aI.intro Ix.2 (by simp[Ix]) ?_
   simp(disch:=try exact dI) only[Ix,h0I,hk,push_cast,seval]
   refine ae.lentK hf [0] rfl qsZ qsZ ?_
   simp(disch:=try exact dI) only[he,push_cast,seval]
   exact am [] qsZ
 ·rw[take_3 h0]
  simp only[rdB,rdC,tkP]
  refine aI.intro Ix.2 (by simp[Ix]) ?_
  simp(disch:=try exact dI) only[Ix,h0,push_cast,seval]
  exact am [] qsZ
theorem sN (R:Rd)(hR:OkR R):aI Tryz.prog (bE T p) 1 166 [.ptr 0 0] [rdB R] (.pv (.str (dm R).1)) [rdB (dm R).2]:=by
 have h1:=i7 (T:=T) (p:=p) R 1 hR
 unfold dm
 generalize bi R 1=Q at *
 obtain⟨t,L⟩:=Q
 simp only[rdB,rdC,tkP] at h1 ⊢
 by_cases h0:L.e=0
 ·have h0I:(L.e=0)=True:=eq_true h0
  have hn:=toE (T:=T) (p:=p) (lF t.text)
  cases hb:dD t.text with
  | true=>
    rw[hb] at hn
    rw[if_neg (fun q=>by cases q.2)]
    refine aI.intro Iv.2 (by simp[Iv]) ?_
    simp(disch:=try exact dI) only[Iv,push_cast,seval]
    refine ae.lentK h1 [0] rfl qsZ qsZ ?_
    simp(disch:=try exact dI) only[h0I,push_cast,seval]
    refine ae.pure hn rfl ?_
    refine zgZ ?_
    exact am [] qsZ
  | false=>
    rw[hb] at hn
    rw[if_pos ⟨h0,rfl⟩]
    have hf:=bV (T:=T) (p:=p) L t.pos 12
    simp only[rdB,rdC] at hf
    refine aI.intro Iv.2 (by simp[Iv]) ?_
    simp(disch:=try exact dI) only[Iv,push_cast,seval]
    refine ae.lentK h1 [0] rfl qsZ qsZ ?_
    simp(disch:=try exact dI) only[h0I,push_cast,seval]
    refine ae.pure hn rfl ?_
    refine zgZ ?_
    refine ae.lentK hf [0] rfl qsZ qsZ ?_
    refine zgZ ?_
    exact am [] qsZ
 ·rw[if_neg (fun q=>h0 q.1)]
  refine aI.intro Iv.2 (by simp[Iv]) ?_
  simp(disch:=try exact dI) only[Iv,push_cast,seval]
  refine ae.lentK h1 [0] rfl qsZ qsZ ?_
  simp(disch:=try exact dI) only[h0,push_cast,seval]
  exact am [] qsZ
theorem iD (R:Rd)(hR:OkR R)(g:Nat)(ps:List UInt8->Int×Int)(hg:∀ s,au Tryz.prog aH g [.str s] (.tup [.int .i64 (ps s).1,.int .i64 (ps s).2])):aI Tryz.prog (bE T p) 1 127 [.ptr 0 0,.pv (.clo g [] [])] [rdB R] (.pv (.int .i64 (aO R ps).1)) [rdB (aO R ps).2]:=by
 have h1:=i7 (T:=T) (p:=p) R 3 hR
 unfold aO
 generalize bi R 3=Q at *
 obtain⟨t,L⟩:=Q
 simp only[rdB,rdC,tkP] at h1 ⊢
 by_cases h0:L.e=0
 ·have h0I:(L.e=0)=True:=eq_true h0
  rw[if_pos h0]
  have hn:=toE (T:=T) (p:=p) (hg t.bytes)
  generalize ps t.bytes=q at *
  obtain⟨n,e⟩:=q
  simp only at hn ⊢
  by_cases he:e=0
  ·subst he
   rw[if_pos rfl]
   refine aI.intro Iz.2 (by simp[Iz]) ?_
   simp(disch:=try exact dI) only[Iz,push_cast,seval]
   refine ae.lentK h1 [0] rfl qsZ qsZ ?_
   simp(disch:=try exact dI) only[h0I,push_cast,seval]
   refine ae.pure hn rfl ?_
   refine zgZ ?_
   exact am [] qsZ
  ·rw[if_neg he]
   have hf:=bV (T:=T) (p:=p) L t.pos e
   simp only[rdB,rdC] at hf
   refine aI.intro Iz.2 (by simp[Iz]) ?_
   simp(disch:=try exact dI) only[Iz,push_cast,seval]
   refine ae.lentK h1 [0] rfl qsZ qsZ ?_
   simp(disch:=try exact dI) only[h0I,push_cast,seval]
   refine ae.pure hn rfl ?_
   simp(disch:=try exact dI) only[he,push_cast,seval]
   refine ae.lentK hf [0] rfl qsZ qsZ ?_
   refine zgZ ?_
   exact am [] qsZ
 ·rw[if_neg h0]
  refine aI.intro Iz.2 (by simp[Iz]) ?_
  simp(disch:=try exact dI) only[Iz,push_cast,seval]
  refine ae.lentK h1 [0] rfl qsZ qsZ ?_
  simp(disch:=try exact dI) only[h0,push_cast,seval]
  exact am [] qsZ
theorem vO (R:Rd):aI Tryz.prog (bE T p) 1 47 [.ptr 0 0] [rdB R] (.pv (.tup [])) [rdB (dR R)]:=by
 unfold dR
 by_cases h0:R.e=0
 ·have h0I:(R.e=0)=True:=eq_true h0
  by_cases hk:R.now.kind=0
  ·have hkI:(R.now.kind=0)=True:=eq_true hk
   rw[if_neg (fun q=>q.2 hk)]
   refine aI.intro Q47.2 (by simp[Q47]) ?_
   simp(disch:=try exact dI) only[Q47,rdB,rdC,h0I,hkI,push_cast,seval]
   exact am [] (by simp(disch:=try exact dI) only[rdB,rdC,push_cast,seval])
  ·rw[if_pos ⟨h0,hk⟩]
   have hf:=bV (T:=T) (p:=p) R R.now.pos 13
   simp only[rdB,rdC] at hf
   refine aI.intro Q47.2 (by simp[Q47]) ?_
   simp(disch:=try exact dI) only[Q47,rdB,rdC,h0I,hk,push_cast,seval]
   refine ae.lentK hf [0] rfl qsZ qsZ ?_
   refine zgZ ?_
   exact am [] (by simp(disch:=try exact dI) only[rdB,rdC,push_cast,seval])
 ·rw[if_neg (fun q=>h0 q.1)]
  refine aI.intro Q47.2 (by simp[Q47]) ?_
  simp(disch:=try exact dI) only[Q47,rdB,rdC,h0,push_cast,seval]
  exact am [] (by simp(disch:=try exact dI) only[rdB,rdC,push_cast,seval])
def rd0 (s:List UInt8):Rd:=⟨s,0,{},0,0⟩
theorem ja {s:List UInt8}(h:65536<s.length):aY s=⟨s,0,{},5,0⟩:=by
 unfold aY
 simp only[if_pos h]
 rfl
theorem kU {s:List UInt8}(h:¬ 65536<s.length):aY s=aT (rd0 s):=by
 unfold aY
 simp only[if_neg h]
 rfl
theorem uS {s:List UInt8}(h:s.length<=65536):OkR (rd0 s):=fun _=>⟨h,Nat.le_refl _,Nat.zero_le _,fun h=>absurd rfl h⟩
theorem d9 (s:List UInt8):OkR (aY s):=by
 by_cases h:65536<s.length
 ·rw[ja h];intro h;exact absurd (show (5:Int)=0 from h) (by decide)
 ·rw[kU h];exact (nU (uS (by omega))).1
theorem AP (s:List UInt8):aI Tryz.prog (bE T p) 0 45 [.pv (.str s)] [] (.ptr 0 0) [rdB (aY s)]:=by
 by_cases h:65536<s.length
 ·have hI:(65536:Int)<(s.length:Int):=by omega
  rw[ja h]
  have hf:=bV (T:=T) (p:=p) (rd0 s) 0 5
  have ha:=bx (T:=T) (p:=p) ⟨s,0,{},5,0⟩ (fun h=>absurd (show (5:Int)=0 from h) (by decide))
  rw[rB (by simp)] at ha
  rw[show aP (rd0 s) 0 5=⟨s,0,{},5,0⟩ from rfl] at hf
  simp only[rdB,rdC,rd0,tkP] at hf ha ⊢
  refine aI.intro Q45.2 (by simp[Q45]) ?_
  simp(disch:=try exact dI) only[Q45,hI,push_cast,seval]
  refine ae.lentK hf [0] rfl qsZ qsZ ?_
  refine zgZ ?_
  refine ae.lentK ha [0] rfl qsZ qsZ ?_
  refine zgZ ?_
  exact am [] qsZ
 ·have hI:¬ (65536:Int)<(s.length:Int):=by omega
  rw[kU h]
  have ha:=bx (T:=T) (p:=p) (rd0 s) (uS (by omega))
  generalize aT (rd0 s)=L at *
  simp only[rdB,rdC,rd0,tkP] at ha ⊢
  refine aI.intro Q45.2 (by simp[Q45]) ?_
  simp(disch:=try exact dI) only[Q45,hI,push_cast,seval]
  refine ae.lentK ha [0] rfl qsZ qsZ ?_
  refine zgZ ?_
  exact am [] qsZ
end
theorem mo:∀ (n:Nat) (v:Val),SizeOf.sizeOf v<n->v.ok->au Tryz.prog aH 212 [v.pv] v.pv:=by
 intro n
 induction n with
 | zero=>intro v h;omega
 | succ n ih=>
 intro v hn hv
 obtain⟨k,i,s,t,l,f⟩:=v
 rw[Um] at hv
 obtain⟨h1,h2,h3,h4,h5,h7,h6,h8⟩:=hv
 simp only[Val.mk.sizeOf_spec] at hn
 have hl:∀ x∈l,au Tryz.prog aH 212 [x.pv] x.pv:=fun x hx=>ih x (by have:=List.sizeOf_lt_of_mem hx;omega) (h7 x hx)
 have hf:∀ a v,Fld.mk a v∈f->au Tryz.prog aH 212 [v.pv] v.pv:=fun a v hx=>ih v (by have:=List.sizeOf_lt_of_mem hx;simp only[Fld.mk.sizeOf_spec] at this;omega) (by have:=h8 _ hx;rw[Ua] at this;exact this.2)
 refine au.intro S2.2 (by simp[S2]) ?_
 simp(disch:=try exact dI) only[S2,Un,push_cast,seval]
 refine aK ([(3,5,25,6)]) (fun m:Nat=>[(14,.pv (.int .i64 (m:Int)))]) (fun m=>[(1,.cells 25 true [.pv (.int .i64 k),.pv (.int .i64 i),.pv (.int .i64 s),.pv (.str t),.olist 2 6 ((l.take m).map Val.pv),.pv .nils])]) (fun m=>m<=l.length) (fun m=>l.length - m) (0) ?_;intro e0 σ0 n0 h0;simp(disch:=try exact dI) only[push_cast,seval] at h0;obtain⟨rfl,rfl,rfl⟩:=h0;refine⟨?_,?_,?_⟩
 ·exact qsZ
 ·omega
 ·intro m hm
  by_cases hlt:m<l.length
  ·have hltI:(m:Int)<l.length:=by omega
   obtain⟨x,hx⟩:∃ x,l[m]? = some x:=⟨_,Uo hlt⟩
   have hts:=bc hx
   have hlt2:(l.take m).length=m:=by rw[UM];omega
   have hcall:=hl x (Uw hx)
   obtain⟨w1,w2,w3,w4,w5,w6⟩:=x
   rw[Un] at hcall
   simp(disch:=try exact dI) only[hx,Un,push_cast,seval]
   refine ap hcall rfl ?_
   simp(disch:=try exact dI) only[hlt2,push_cast,seval]
   exact⟨m+1,bu (by simp(disch:=try exact dI) only[hts,Vs,Un,push_cast,seval]),by omega,by omega⟩
  ·have hltI:¬ (m:Int)<l.length:=by omega
   have hle:l.take m=l:=UW (by omega)
   simp(disch:=try exact dI) only[hle,push_cast,seval]
   refine aK ([(3,6,39,7)]) (fun m:Nat=>[(29,.pv (.int .i64 (m:Int)))]) (fun m=>[(1,.cells 25 true [.pv (.int .i64 k),.pv (.int .i64 i),.pv (.int .i64 s),.pv (.str t),.olist 2 6 (l.map Val.pv),.olist 3 7 ((f.take m).map Fld.pv)])]) (fun m=>m<=f.length) (fun m=>f.length - m) (0) ?_;intro e0 σ0 n0 h0;simp(disch:=try exact dI) only[push_cast,seval] at h0;obtain⟨rfl,rfl,rfl⟩:=h0;refine⟨?_,?_,?_⟩
   ·exact qsZ
   ·omega
   ·intro m hm
    by_cases hlt:m<f.length
    ·have hltI:(m:Int)<f.length:=by omega
     obtain⟨⟨a,v⟩,hx⟩:∃ x,f[m]? = some x:=⟨_,Uo hlt⟩
     have hts:=bc hx
     have hlt2:(f.take m).length=m:=by rw[UM];omega
     have hcall:=hf a v (Uw hx)
     obtain⟨w1,w2,w3,w4,w5,w6⟩:=v
     rw[Un] at hcall
     simp(disch:=try exact dI) only[hx,Ub,Un,push_cast,seval]
     refine ap hcall rfl ?_
     simp(disch:=try exact dI) only[hlt2,push_cast,seval]
     exact⟨m+1,bu (by simp(disch:=try exact dI) only[hts,Vs,Ub,Un,push_cast,seval]),by omega,by omega⟩
    ·have hltI:¬ (m:Int)<f.length:=by omega
     have hle:f.take m=f:=UW (by omega)
     simp(disch:=try exact dI) only[hle,push_cast,seval]
theorem SB (n sc:Int):au Tryz.prog aH 94 [.int .i64 n,.int .i64 sc] (Val.mk 3 n sc [] [] []).pv:=by
 refine au.intro Q94.2 (by simp[Q94]) ?_
 simp(disch:=try exact dI) only[Q94,Un,push_cast,seval]
theorem R9 (n:Int):au Tryz.prog aH 95 [.int .i64 n] (Val.mk 2 n 0 [] [] []).pv:=by
 refine au.intro Q95.2 (by simp[Q95]) ?_
 simp(disch:=try exact dI) only[Q95,Un,push_cast,seval]
theorem N9 (t:List UInt8):au Tryz.prog aH 96 [.str t] (Val.mk 4 0 0 t [] []).pv:=by
 refine au.intro Q96.2 (by simp[Q96]) ?_
 simp(disch:=try exact dI) only[Q96,Un,push_cast,seval]
theorem SL (t:List UInt8):au Tryz.prog aH 97 [.str t] (Val.mk 5 0 0 t [] []).pv:=by
 refine au.intro Q97.2 (by simp[Q97]) ?_
 simp(disch:=try exact dI) only[Q97,Un,push_cast,seval]
theorem Eo (b:Bool):au Tryz.prog aH 170 [.bool b] (Val.mk 1 (if b=true then 1 else 0) 0 [] [] []).pv:=by
 refine au.intro Rp.2 (by simp[Rp]) ?_
 cases b with
 | true=>
   rw[if_pos rfl]
   simp(disch:=try exact dI) only[Rp,Un,push_cast,seval]
 | false=>
   rw[if_neg (by decide)]
   simp(disch:=try exact dI) only[Rp,Un,push_cast,seval]
theorem MK (n:Int):au Tryz.prog aH 171 [.int .i64 n] (Val.mk 6 n 0 [] [] []).pv:=by
 refine au.intro Te.2 (by simp[Te]) ?_
 simp(disch:=try exact dI) only[Te,Un,push_cast,seval]
theorem J8 (n:Int):au Tryz.prog aH 172 [.int .i64 n] (Val.mk 7 n 0 [] [] []).pv:=by
 refine au.intro Td.2 (by simp[Td]) ?_
 simp(disch:=try exact dI) only[Td,Un,push_cast,seval]
theorem wF (t:List UInt8)(v:Val)(ht:t.length<=140737488351232)(hv:v.ok):au Tryz.prog aH 169 [.str t,v.pv] (Val.mk 10 0 0 t [v] []).pv:=by
 have hc:=mo _ (Val.mk 10 0 0 t [v] []) (Nat.lt_succ_self _) (by
  rw[Um]
  refine⟨by unfold I64;omega,by unfold I64;omega,by unfold I64;omega,ht,by simp,fun x hx=>by simp at hx;rw[hx];exact hv,by simp,fun x hx=>by simp at hx⟩)
 obtain⟨k,n,s,tt,l,fs⟩:=v
 simp only[Un,List.map_cons,List.map_nil] at hc ⊢
 refine au.intro Tf.2 (by simp[Tf]) ?_
 simp(disch:=try exact dI) only[Tf,push_cast,seval]
 refine ae.pureN hc rfl (by repeat' constructor) ?_
 exact qsZ
end Go.Proofs.YtamoeblcphjbaaaGreatDoor
/-
 DERIVED: THE SHELF's CONTRACTS AT THIS DUMP,IN PLAIN WORDS (tools/lay-plain.mjs out of 'TryzC9.lean',which tools/lay-shelf.mjs wrote): THE SAME DECLARATIONS UNDER THE SAME NAMES: 'import','namespace','open','def','theorem' AND NOTHING ELSE: no command of the shelf's: FOR A HAND-IN. Each laying: the table of numbers ('.._ren') and one theorem,a field a fact of the dump's own or the kernel's comparison;each kA: ONE APPLICATION.
-/
namespace Go.Proofs
open Go.Shelf
def Tryz.sortF_ren:Go.Shelf.Ren:=⟨fun | 6=>167 | 15=>211 | 14=>210 | 28=>245 | 29=>215 | 20=>237 | 21=>238 | 22=>239 | 23=>240 | 24=>241 | 25=>242 | 26=>243 | 27=>244 | 46=>262 | 47=>263 | 48=>264 | 49=>265 | 50=>266 | 57=>276 | n=>n,fun | 22=>23 | 24=>39 | 25=>130 | 3=>3 | 39=>163 | 0=>0 | 53=>206 | 55=>181 | 4=>4 | 46=>233 | 45=>232 | 50=>237 | 5=>5 | 9=>9 | 66=>251 | 70=>104 | 76=>266 | 77=>186 | n=>n,fun | n=>n⟩
theorem Ui:Go.Proofs.SlLaysF0.n6 Tryz.prog Tryz.sortF_ren:={
 mixed:=by kernel_rfl
 f6:=⟨Tryz.f167.name,by decide,Tryz.func167.trans (congrArg some (by kernel_rfl))⟩
 f14:=⟨Tryz.f210.name,by decide,Tryz.func210.trans (congrArg some (by kernel_rfl))⟩
 f15:=Tryz.func211.trans (congrArg some (by kernel_rfl))
 f20:=⟨Tryz.f237.name,by decide,Tryz.func237.trans (congrArg some (by kernel_rfl))⟩
 f21:=⟨Tryz.f238.name,by decide,Tryz.func238.trans (congrArg some (by kernel_rfl))⟩
 f22:=⟨Tryz.f239.name,by decide,Tryz.func239.trans (congrArg some (by kernel_rfl))⟩
 f23:=⟨Tryz.f240.name,by decide,Tryz.func240.trans (congrArg some (by kernel_rfl))⟩
 f24:=⟨Tryz.f241.name,by decide,Tryz.func241.trans (congrArg some (by kernel_rfl))⟩
 f25:=⟨Tryz.f242.name,by decide,Tryz.func242.trans (congrArg some (by kernel_rfl))⟩
 f26:=⟨Tryz.f243.name,by decide,Tryz.func243.trans (congrArg some (by kernel_rfl))⟩
 f27:=⟨Tryz.f244.name,by decide,Tryz.func244.trans (congrArg some (by kernel_rfl))⟩
 f28:=Tryz.func245.trans (congrArg some (by kernel_rfl))
 f29:=Tryz.func215.trans (congrArg some (by kernel_rfl))
 f46:=⟨Tryz.f262.name,by decide,Tryz.func262.trans (congrArg some (by kernel_rfl))⟩
 f47:=Tryz.func263.trans (congrArg some (by kernel_rfl))
 f48:=Tryz.func264.trans (congrArg some (by kernel_rfl))
 f49:=⟨Tryz.f265.name,by decide,Tryz.func265.trans (congrArg some (by kernel_rfl))⟩
 f50:=⟨Tryz.f266.name,by decide,Tryz.func266.trans (congrArg some (by kernel_rfl))⟩
 f57:=⟨Tryz.f276.name,by decide,Tryz.func276.trans (congrArg some (by kernel_rfl))⟩
 t0:=Tryz.underlying0
 a0:=Tryz.isAgg0
 z0:=Tryz.sizeOf0
 v0:=Tryz.zeroValue0
 t3:=Tryz.underlying3
 a3:=Tryz.isAgg3
 z3:=Tryz.sizeOf3
 v3:=Tryz.zeroValue3
 t4:=Tryz.underlying4
 a4:=Tryz.isAgg4
 z4:=Tryz.sizeOf4
 v4:=Tryz.zeroValue4
 t5:=Tryz.underlying5
 a5:=Tryz.isAgg5
 z5:=Tryz.sizeOf5
 v5:=Tryz.zeroValue5
 t9:=Tryz.underlying9
 a9:=Tryz.isAgg9
 z9:=Tryz.sizeOf9
 v9:=Tryz.zeroValue9
 t22:=Tryz.underlying23
 a22:=Tryz.isAgg23
 z22:=Tryz.sizeOf23
 v22:=Tryz.zeroValue23
 t25:=Tryz.underlying130
 a25:=Tryz.isAgg130
 z25:=Tryz.sizeOf130
 v25:=Tryz.zeroValue130
 t39:=Tryz.underlying163
 a39:=Tryz.isAgg163
 z39:=Tryz.sizeOf163
 v39:=Tryz.zeroValue163
 t45:=Tryz.underlying232
 a45:=Tryz.isAgg232
 z45:=Tryz.sizeOf232
 v45:=Tryz.zeroValue232
 t46:=Tryz.underlying233
 a46:=Tryz.isAgg233
 z46:=Tryz.sizeOf233
 v46:=Tryz.zeroValue233
 t50:=Tryz.underlying237
 a50:=Tryz.isAgg237
 z50:=Tryz.sizeOf237
 v50:=Tryz.zeroValue237
 t53:=Tryz.underlying206
 a53:=Tryz.isAgg206
 z53:=Tryz.sizeOf206
 v53:=Tryz.zeroValue206
 t55:=Tryz.underlying181
 a55:=Tryz.isAgg181
 z55:=Tryz.sizeOf181
 v55:=Tryz.zeroValue181
 t66:=Tryz.underlying251
 a66:=Tryz.isAgg251
 z66:=Tryz.sizeOf251
 v66:=Tryz.zeroValue251
 t70:=Tryz.underlying104
 a70:=Tryz.isAgg104
 z70:=Tryz.sizeOf104
 v70:=Tryz.zeroValue104
 t76:=Tryz.underlying266
 a76:=Tryz.isAgg266
 z76:=Tryz.sizeOf266
 v76:=Tryz.zeroValue266
 t77:=Tryz.underlying186
 a77:=Tryz.isAgg186
 z77:=Tryz.sizeOf186
 v77:=Tryz.zeroValue186 }
end Go.Proofs
namespace Go.Proofs.YtamoeblcphjbaaaGreatDoor
open Go Go.Proofs Go.Shelf Go.RowKit Go.Lib Go.Sort
structure FldC where
 name:ByteArray
 c1:Value
 c2:Value
 c3:Value
 c4:Value
 c5:Value
 c6:Value
 one:c1.oneCell'=true/\c2.oneCell'=true/\c3.oneCell'=true/\c4.oneCell'=true/\c5.oneCell'=true/\c6.oneCell'=true
instance:Inhabited FldC:=⟨⟨.empty,.int .i64 0,.int .i64 0,.int .i64 0,.int .i64 0,.int .i64 0,.int .i64 0,by decide⟩⟩
def zE (x:FldC):List Value:=[.string x.name,x.c1,x.c2,x.c3,x.c4,x.c5,x.c6]
def SE (x y:FldC):Int:=Lib.compareBytes x.name.data.toList y.name.data.toList
theorem yN (x y:FldC)(W:World):Calls Tryz.prog 168 #[.agg (zE x).toArray,.agg (zE y).toArray] W fun e w'=>e = .returned (.int .i64 (SE x y))/\∃ q os',w'=grow (W.drewN q) os':=by
 obtain⟨s,a1,a2,a3,a4,a5,a6,ha⟩:=x
 obtain⟨t,b1,b2,b3,b4,b5,b6,hb⟩:=y
 have hcon:=fun W'=>Uj s t W'
 simp only[zE,SE]
 generalize Lib.compareBytes s.data.toList t.data.toList=r at hcon ⊢
 go_enter Tryz.func168,Tryz.ntmps168
 go_wp2_with (go_at_call 103;refine (hcon _).mono ?_;rintro e w' ⟨rfl,rfl⟩)
 go_ret
 exact⟨rfl,0,_,by rw[alloc_eq_grow,alloc_eq_grow,grow_grow];rfl⟩
open Go.Ab
def NL:Fld:=.mk [] (.mk 0 0 0 [] [] [])
def nmL (l:List Fld)(i:Nat):List UInt8:=(l.getD i NL).name
def cfL (l:List Fld)(i j:Nat):Int:=Lib.compareBytes (nmL l i) (nmL l j)
def sE (l:List Fld):Array Nat:=Sort.pdq (Go.Proofs.ltOf (cfL l)) (Vv l.length) 0 (Vv l.length).size (Lib.bitLen (Vv l.length).size) true true
def srt (l:List Fld):List Fld:=(sE l).toList.map fun i=>l.getD i NL
theorem wg:∀ (a b c:List UInt8),Lib.compareBytes a b<0->Lib.compareBytes b c<0->Lib.compareBytes a c<0
 | [],b,[],h1,h2=>by
   cases b with
   | nil=>exact h2
   | cons x q=>simp[Lib.compareBytes] at h2
 | [],b,z::r,h1,h2=>by simp[Lib.compareBytes]
 | x::p,[],c,h1,h2=>by simp[Lib.compareBytes] at h1
 | x::p,y::q,[],h1,h2=>by simp[Lib.compareBytes] at h2
 | x::p,y::q,z::r,h1,h2=>by
   have ih:=wg p q r
   simp only[Lib.compareBytes,UInt8.lt_iff_toNat_lt] at *
   repeat' split at h1
   all_goals repeat' split at h2
   all_goals repeat' split
   all_goals first | omega | exact ih h1 h2 | (exfalso;omega)
theorem rm:∀ (a b c:List UInt8),¬ Lib.compareBytes a b<0->¬ Lib.compareBytes b c<0->¬ Lib.compareBytes a c<0
 | [],[],c,h1,h2=>h2
 | [],y::q,c,h1,h2=>by simp[Lib.compareBytes] at h1
 | x::p,b,[],h1,h2=>by simp[Lib.compareBytes]
 | x::p,[],z::r,h1,h2=>by simp[Lib.compareBytes] at h2
 | x::p,y::q,z::r,h1,h2=>by
   have ih:=rm p q r
   simp only[Lib.compareBytes,UInt8.lt_iff_toNat_lt] at *
   repeat' split at h1
   all_goals repeat' split at h2
   all_goals repeat' split
   all_goals first | omega | exact ih h1 h2 | (exfalso;omega)
theorem Ef:∀ a:List UInt8,Lib.compareBytes a a=0
 | []=>rfl
 | x::p=>by
   have:=Ef p
   simp only[Lib.compareBytes,UInt8.lt_iff_toNat_lt]
   rw[if_neg (by omega),if_neg (by omega)];exact this
theorem TI (l:List Fld):Sort.SWO (Go.Proofs.ltOf (cfL l)) where
 irrefl x:=decide_eq_false (by rw[cfL,Ef];decide)
 trans x y z h1 h2:=decide_eq_true (wg _ _ _ (of_decide_eq_true h1) (of_decide_eq_true h2))
 ntrans x y z h1 h2:=decide_eq_false (rm _ _ _ (of_decide_eq_false h1) (of_decide_eq_false h2))
theorem lm (l:List Fld):(sE l).toList.Perm (UZ l.length):=by
 have h:=(Sort.pdq_sorts (Go.Proofs.ltOf (cfL l)) (TI l) (Vv l.length) 0 (Vv l.length).size (Lib.bitLen (Vv l.length).size) true true (Nat.zero_le _) (Nat.le_refl _) (Or.inl rfl)).1
 obtain⟨h1,_,h3⟩:=h
 have e1:(sE l).size=(Vv l.length).size:=h1
 have h4:((sE l).extract 0 (Vv l.length).size).toList.Perm ((Vv l.length).extract 0 (Vv l.length).size).toList:=h3
 simp only[Array.size_range] at e1
 simp only[Array.size_range,Array.toList_extract,List.extract_eq_take_drop,List.drop_zero,Nat.sub_zero,Array.toList_range] at h4
 rw[UW (by simp[e1]),UW (by simp)] at h4
 exact h4
theorem iB (l:List Fld):(sE l).size=l.length:=by
 have:=(lm l).length_eq
 simpa using this
theorem kV (l:List Fld):(srt l).length=l.length:=by
 unfold srt;rw[List.length_map,Array.length_toList,iB]
theorem mM:∀ (l:List Fld),(UZ l.length).map (fun i=>l.getD i NL)=l:=by
 intro l
 apply List.ext_getElem
 ·simp
 ·intro i h1 h2
  simp[List.getD_eq_getElem?_getD,Uo h2]
theorem FB (l:List Fld):(srt l).Perm l:=by
 have:=(lm l).map fun i=>l.getD i NL
 rwa [mM] at this

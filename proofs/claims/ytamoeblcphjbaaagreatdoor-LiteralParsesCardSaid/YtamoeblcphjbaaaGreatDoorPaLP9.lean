/- A part of the proof. -/
import Derived.Test.YtamoeblcphjbaaaGreatDoorPaLP8
import Derived.Shelf.SlGeneric
import Derived.Shelf.SlSortCmp.WholeK
import Derived.Ground.SlsfProg
import Derived.Test.YtamoeblcphjbaaaGreatDoorProg
import Derived.WalkKit
import Derived.WalkMore
import Derived.Deep.Draws
set_option maxHeartbeats 16000000
set_option maxRecDepth 100000
set_option linter.unusedVariables false
set_option linter.unusedSimpArgs false
-- many steps
namespace Go.Proofs.YtamoeblcphjbaaaGreatDoor
open Go Go.Ab
attribute [local irreducible] vc
theorem Ja {R:Rd}{i:Nat}{e:Int}(he:e≠0):OkR (aI R i e):=fun h=>absurd h (aZ he)
section
variable {T:Nat}{p:PV}
theorem CI (R:Rd)(t:List UInt8)(hR:OkR R):aF Tryz.prog (bG T p) 1 132 [.ptr 0 0,.pv (.str t)] [rdB R] (.pv (.bool (nP R t).1)) [rdB (nP R t).2]:=by
 have h1:=Fy (T:=T) (p:=p) R t
 have h2:=ep (T:=T) (p:=p) R hR
 unfold nP
 simp only[rdB,rdC] at h1 h2
 cases hi:isT R t with
 | true=>
   rw[hi] at h1
   rw[if_pos rfl]
   generalize tkP R.now=was at *
   refine aF.intro CZ (by simp[P3]) ?_
   simp(disch:=try exact dI) only[P3,rdB,rdC,push_cast,seval]
   refine ab.lentK h1 [0] rfl qsZ qsZ ?_
   refine zgZ ?_
   refine ab.lentK h2 [0] rfl qsZ qsZ ?_
   refine zgZ ?_
   exact am [] (by simp(disch:=try exact dI) only[rdB,rdC,push_cast,seval])
 | false=>
   rw[hi] at h1
   rw[if_neg (by decide)]
   refine aF.intro CZ (by simp[P3]) ?_
   simp(disch:=try exact dI) only[P3,rdB,rdC,push_cast,seval]
   refine ab.lentK h1 [0] rfl qsZ qsZ ?_
   refine zgZ ?_
   exact am [] (by simp(disch:=try exact dI) only[rdB,rdC,push_cast,seval])
theorem bO (R:Rd)(t:List UInt8)(hR:OkR R):aF Tryz.prog (bG T p) 1 121 [.ptr 0 0,.pv (.str t)] [rdB R] (.pv (.tup [])) [rdB (aq R t)]:=by
 have h1:=CI (T:=T) (p:=p) R t hR
 unfold aq
 by_cases h0:R.e=0
 ·have h0I:(R.e=0)=True:=eq_true h0
  rw[if_pos h0]
  unfold nP at h1
  simp only[rdB,rdC] at h1
  cases hi:isT R t with
  | true=>
    rw[hi,if_pos rfl] at h1
    rw[if_pos rfl]
    simp only at h1
    refine aF.intro sF (by simp[LB]) ?_
    simp(disch:=try exact dI) only[LB,rdB,rdC,h0I,push_cast,seval]
    refine ab.lentK h1 [0] rfl qsZ qsZ ?_
    refine zgZ ?_
    exact am [] (by simp(disch:=try exact dI) only[rdB,rdC,push_cast,seval])
  | false=>
    rw[hi,if_neg (by decide)] at h1
    rw[if_neg (by decide)]
    have hf:=cR (T:=T) (p:=p) R R.now.pos 13
    simp only[rdB,rdC] at h1 hf
    refine aF.intro sF (by simp[LB]) ?_
    simp(disch:=try exact dI) only[LB,rdB,rdC,h0I,push_cast,seval]
    refine ab.lentK h1 [0] rfl qsZ qsZ ?_
    refine zgZ ?_
    refine ab.lentK hf [0] rfl qsZ qsZ ?_
    refine zgZ ?_
    exact am [] (by simp(disch:=try exact dI) only[rdB,rdC,push_cast,seval])
 ·rw[if_neg h0]
  refine aF.intro sF (by simp[LB]) ?_
  simp(disch:=try exact dI) only[LB,rdB,rdC,h0,push_cast,seval]
  exact am [] (by simp(disch:=try exact dI) only[rdB,rdC,push_cast,seval])
theorem lO {R:Rd}{k:Int}(h:R.e=0)(hk:R.now.kind=k):fe R k=(R.now,aY R):=by
 have e:(if R.e=0∧R.now.kind≠k then aI R R.now.pos 13 else R)=R:=if_neg (fun q=>q.2 hk)
 unfold fe
 rw[e]
 exact if_pos h
theorem take_2 {R:Rd}{k:Int}(h:R.e=0)(hk:¬ R.now.kind=k):fe R k=({},aI R R.now.pos 13):=by
 have e:(if R.e=0∧R.now.kind≠k then aI R R.now.pos 13 else R)=aI R R.now.pos 13:=if_pos ⟨h,hk⟩
 unfold fe
 rw[e]
 exact if_neg (aZ (by decide))
theorem take_3 {R:Rd}{k:Int}(h:¬ R.e=0):fe R k=({},R):=by
 have e:(if R.e=0∧R.now.kind≠k then aI R R.now.pos 13 else R)=R:=if_neg (fun q=>h q.1)
 unfold fe
 rw[e]
 exact if_neg h
theorem ym (R:Rd)(k:Int)(hR:OkR R):aF Tryz.prog (bG T p) 1 134 [.ptr 0 0,.pv (.int .i64 k)] [rdB R] (.pv (tkP (fe R k).1)) [rdB (fe R k).2]:=by
 by_cases h0:R.e=0
 ·have h0I:(R.e=0)=True:=eq_true h0
  by_cases hk:R.now.kind=k
  ·rw[lO h0 hk]
   have hkI:(R.now.kind=k)=True:=eq_true hk
   have h2:=ep (T:=T) (p:=p) R hR
   simp only[rdB,rdC,tkP] at h2 ⊢
   refine aF.intro sC (by simp[Lv]) ?_
   simp(disch:=try exact dI) only[Lv,h0I,hkI,push_cast,seval]
   refine ab.lentK h2 [0] rfl qsZ qsZ ?_
   refine zgZ ?_
   exact am [] qsZ
  ·rw[take_2 h0 hk]
   have hf:=cR (T:=T) (p:=p) R R.now.pos 13
   have he:=aZ (R:=R) (i:=R.now.pos) (e:=13) (by decide)
   simp only[rdB,rdC,tkP] at hf ⊢
   refine aF.intro sC (by simp[Lv]) ?_
   simp(disch:=try exact dI) only[Lv,h0I,hk,push_cast,seval]
   refine ab.lentK hf [0] rfl qsZ qsZ ?_
   simp(disch:=try exact dI) only[he,push_cast,seval]
   exact am [] qsZ
 ·rw[take_3 h0]
  simp only[rdB,rdC,tkP]
  refine aF.intro sC (by simp[Lv]) ?_
  simp(disch:=try exact dI) only[Lv,h0,push_cast,seval]
  exact am [] qsZ
theorem AN (R:Rd)(hR:OkR R):aF Tryz.prog (bG T p) 1 166 [.ptr 0 0] [rdB R] (.pv (.str (bg R).1)) [rdB (bg R).2]:=by
 have h1:=ym (T:=T) (p:=p) R 1 hR
 unfold bg
 generalize fe R 1=Q at *
 obtain⟨t,L⟩:=Q
 simp only[rdB,rdC,tkP] at h1 ⊢
 by_cases h0:L.e=0
 ·have h0I:(L.e=0)=True:=eq_true h0
  have hn:=toE (T:=T) (p:=p) (m7 t.text)
  cases hb:bC t.text with
  | true=>
    rw[hb] at hn
    rw[if_neg (fun q=>by cases q.2)]
    refine aF.intro sB (by simp[Lf]) ?_
    simp(disch:=try exact dI) only[Lf,push_cast,seval]
    refine ab.lentK h1 [0] rfl qsZ qsZ ?_
    simp(disch:=try exact dI) only[h0I,push_cast,seval]
    refine ab.pure hn rfl ?_
    refine zgZ ?_
    exact am [] qsZ
  | false=>
    rw[hb] at hn
    rw[if_pos ⟨h0,rfl⟩]
    have hf:=cR (T:=T) (p:=p) L t.pos 12
    simp only[rdB,rdC] at hf
    refine aF.intro sB (by simp[Lf]) ?_
    simp(disch:=try exact dI) only[Lf,push_cast,seval]
    refine ab.lentK h1 [0] rfl qsZ qsZ ?_
    simp(disch:=try exact dI) only[h0I,push_cast,seval]
    refine ab.pure hn rfl ?_
    refine zgZ ?_
    refine ab.lentK hf [0] rfl qsZ qsZ ?_
    refine zgZ ?_
    exact am [] qsZ
 ·rw[if_neg (fun q=>h0 q.1)]
  refine aF.intro sB (by simp[Lf]) ?_
  simp(disch:=try exact dI) only[Lf,push_cast,seval]
  refine ab.lentK h1 [0] rfl qsZ qsZ ?_
  simp(disch:=try exact dI) only[h0,push_cast,seval]
  exact am [] qsZ
theorem pd (R:Rd)(hR:OkR R)(g:Nat)(ps:List UInt8→Int×Int)(hg:∀ s,au Tryz.prog aM g [.str s] (.tup [.int .i64 (ps s).1,.int .i64 (ps s).2])):aF Tryz.prog (bG T p) 1 127 [.ptr 0 0,.pv (.clo g [] [])] [rdB R] (.pv (.int .i64 (bh R ps).1)) [rdB (bh R ps).2]:=by
 have h1:=ym (T:=T) (p:=p) R 3 hR
 unfold bh
 generalize fe R 3=Q at *
 obtain⟨t,L⟩:=Q
 simp only[rdB,rdC,tkP] at h1 ⊢
 by_cases h0:L.e=0
 ·have h0I:(L.e=0)=True:=eq_true h0
  rw[if_pos h0]
  have hn:=toE (T:=T) (p:=p) (hg t.bytes)
  generalize ps t.bytes=q at *
  obtain⟨n,e⟩:=q
  simp only at hn ⊢
  by_cases he:e=0
  ·subst he
   rw[if_pos rfl]
   refine aF.intro sE (by simp[LA]) ?_
   simp(disch:=try exact dI) only[LA,push_cast,seval]
   refine ab.lentK h1 [0] rfl qsZ qsZ ?_
   simp(disch:=try exact dI) only[h0I,push_cast,seval]
   refine ab.pure hn rfl ?_
   refine zgZ ?_
   exact am [] qsZ
  ·rw[if_neg he]
   have hf:=cR (T:=T) (p:=p) L t.pos e
   simp only[rdB,rdC] at hf
   refine aF.intro sE (by simp[LA]) ?_
   simp(disch:=try exact dI) only[LA,push_cast,seval]
   refine ab.lentK h1 [0] rfl qsZ qsZ ?_
   simp(disch:=try exact dI) only[h0I,push_cast,seval]
   refine ab.pure hn rfl ?_
   simp(disch:=try exact dI) only[he,push_cast,seval]
   refine ab.lentK hf [0] rfl qsZ qsZ ?_
   refine zgZ ?_
   exact am [] qsZ
 ·rw[if_neg h0]
  refine aF.intro sE (by simp[LA]) ?_
  simp(disch:=try exact dI) only[LA,push_cast,seval]
  refine ab.lentK h1 [0] rfl qsZ qsZ ?_
  simp(disch:=try exact dI) only[h0,push_cast,seval]
  exact am [] qsZ
theorem FT (R:Rd):aF Tryz.prog (bG T p) 1 47 [.ptr 0 0] [rdB R] (.pv (.tup [])) [rdB (cK R)]:=by
 unfold cK
 by_cases h0:R.e=0
 ·have h0I:(R.e=0)=True:=eq_true h0
  by_cases hk:R.now.kind=0
  ·have hkI:(R.now.kind=0)=True:=eq_true hk
   rw[if_neg (fun q=>q.2 hk)]
   refine aF.intro CT (by simp[F47]) ?_
   simp(disch:=try exact dI) only[F47,rdB,rdC,h0I,hkI,push_cast,seval]
   exact am [] (by simp(disch:=try exact dI) only[rdB,rdC,push_cast,seval])
  ·rw[if_pos ⟨h0,hk⟩]
   have hf:=cR (T:=T) (p:=p) R R.now.pos 13
   simp only[rdB,rdC] at hf
   refine aF.intro CT (by simp[F47]) ?_
   simp(disch:=try exact dI) only[F47,rdB,rdC,h0I,hk,push_cast,seval]
   refine ab.lentK hf [0] rfl qsZ qsZ ?_
   refine zgZ ?_
   exact am [] (by simp(disch:=try exact dI) only[rdB,rdC,push_cast,seval])
 ·rw[if_neg (fun q=>h0 q.1)]
  refine aF.intro CT (by simp[F47]) ?_
  simp(disch:=try exact dI) only[F47,rdB,rdC,h0,push_cast,seval]
  exact am [] (by simp(disch:=try exact dI) only[rdB,rdC,push_cast,seval])
def rd0 (s:List UInt8):Rd:=⟨s,0,{},0,0⟩
theorem jZ {s:List UInt8}(h:65536<s.length):bj s=⟨s,0,{},5,0⟩:=by
 unfold bj
 simp only[if_pos h]
 rfl
theorem iv {s:List UInt8}(h:¬ 65536<s.length):bj s=aY (rd0 s):=by
 unfold bj
 simp only[if_neg h]
 rfl
theorem tG {s:List UInt8}(h:s.length≤65536):OkR (rd0 s):=fun _=>⟨h,Nat.le_refl _,Nat.zero_le _,fun h=>absurd rfl h⟩
theorem jC (s:List UInt8):OkR (bj s):=by
 by_cases h:65536<s.length
 ·rw[jZ h];intro h;exact absurd (show (5:Int)=0 from h) (by decide)
 ·rw[iv h];exact (uP (tG (by omega))).1
theorem H8 (s:List UInt8):aF Tryz.prog (bG T p) 0 45 [.pv (.str s)] [] (.ptr 0 0) [rdB (bj s)]:=by
 by_cases h:65536<s.length
 ·have hI:(65536:Int)<(s.length:Int):=by omega
  rw[jZ h]
  have hf:=cR (T:=T) (p:=p) (rd0 s) 0 5
  have ha:=ep (T:=T) (p:=p) ⟨s,0,{},5,0⟩ (fun h=>absurd (show (5:Int)=0 from h) (by decide))
  rw[p8 (by simp)] at ha
  rw[show aI (rd0 s) 0 5=⟨s,0,{},5,0⟩ from rfl] at hf
  simp only[rdB,rdC,rd0,tkP] at hf ha ⊢
  refine aF.intro HF (by simp[F45]) ?_
  simp(disch:=try exact dI) only[F45,hI,push_cast,seval]
  refine ab.lentK hf [0] rfl qsZ qsZ ?_
  refine zgZ ?_
  refine ab.lentK ha [0] rfl qsZ qsZ ?_
  refine zgZ ?_
  exact am [] qsZ
 ·have hI:¬ (65536:Int)<(s.length:Int):=by omega
  rw[iv h]
  have ha:=ep (T:=T) (p:=p) (rd0 s) (tG (by omega))
  generalize aY (rd0 s)=L at *
  simp only[rdB,rdC,rd0,tkP] at ha ⊢
  refine aF.intro HF (by simp[F45]) ?_
  simp(disch:=try exact dI) only[F45,hI,push_cast,seval]
  refine ab.lentK ha [0] rfl qsZ qsZ ?_
  refine zgZ ?_
  exact am [] qsZ
end
end Go.Proofs.YtamoeblcphjbaaaGreatDoor
-- many steps
namespace Go.Proofs.YtamoeblcphjbaaaGreatDoor
open Go Go.Ab
attribute [local irreducible] vc
theorem Cc:∀ (n:Nat) (v:Val),SizeOf.sizeOf v<n→v.ok→au Tryz.prog aM 212 [v.pv] v.pv:=by
 intro n
 induction n with
 | zero=>intro v h;omega
 | succ n ih=>
 intro v hn hv
 obtain⟨k,i,s,t,l,f⟩:=v
 rw[Val.ok_mk] at hv
 obtain⟨h1,h2,h3,h4,h5,h7,h6,h8⟩:=hv
 simp only[Val.mk.sizeOf_spec] at hn
 have hl:∀ x∈l,au Tryz.prog aM 212 [x.pv] x.pv:=fun x hx=>ih x (by have:=List.sizeOf_lt_of_mem hx;omega) (h7 x hx)
 have hf:∀ a v,Fld.mk a v∈f→au Tryz.prog aM 212 [v.pv] v.pv:=fun a v hx=>ih v (by have:=List.sizeOf_lt_of_mem hx;simp only[Fld.mk.sizeOf_spec] at this;omega) (by have:=h8 _ hx;rw[Fld.ok_mk] at this;exact this.2)
 refine au.intro KR (by simp[R7]) ?_
 simp(disch:=try exact dI) only[R7,Val.pv_mk,push_cast,seval]
 refine bf ([(3,5,25,6)]) (fun m:Nat=>[(14,.pv (.int .i64 (m:Int)))]) (fun m=>[(1,.cells 25 true [.pv (.int .i64 k),.pv (.int .i64 i),.pv (.int .i64 s),.pv (.str t),.olist 2 6 ((l.take m).map Val.pv),.pv .nils])]) (fun m=>m≤l.length) (fun m=>l.length - m) (0) ?_;intro e0 σ0 n0 h0;simp(disch:=try exact dI) only[push_cast,seval] at h0;obtain⟨rfl,rfl,rfl⟩:=h0;refine⟨?_,?_,?_⟩
 ·exact qsZ
 ·omega
 ·intro m hm
  by_cases hlt:m<l.length
  ·have hltI:(m:Int)<l.length:=by omega
   obtain⟨x,hx⟩:∃ x,l[m]? = some x:=⟨_,List.getElem?_eq_getElem hlt⟩
   have hts:=bA hx
   have hlt2:(l.take m).length=m:=by rw[List.length_take];omega
   have hcall:=hl x (List.mem_of_getElem? hx)
   obtain⟨w1,w2,w3,w4,w5,w6⟩:=x
   rw[Val.pv_mk] at hcall
   simp(disch:=try exact dI) only[hx,Val.pv_mk,push_cast,seval]
   refine ag hcall rfl ?_
   simp(disch:=try exact dI) only[hlt2,push_cast,seval]
   exact⟨m+1,bz (by simp(disch:=try exact dI) only[hts,List.map_append,Val.pv_mk,push_cast,seval]),by omega,by omega⟩
  ·have hltI:¬ (m:Int)<l.length:=by omega
   have hle:l.take m=l:=List.take_of_length_le (by omega)
   simp(disch:=try exact dI) only[hle,push_cast,seval]
   refine bf ([(3,6,39,7)]) (fun m:Nat=>[(29,.pv (.int .i64 (m:Int)))]) (fun m=>[(1,.cells 25 true [.pv (.int .i64 k),.pv (.int .i64 i),.pv (.int .i64 s),.pv (.str t),.olist 2 6 (l.map Val.pv),.olist 3 7 ((f.take m).map Fld.pv)])]) (fun m=>m≤f.length) (fun m=>f.length - m) (0) ?_;intro e0 σ0 n0 h0;simp(disch:=try exact dI) only[push_cast,seval] at h0;obtain⟨rfl,rfl,rfl⟩:=h0;refine⟨?_,?_,?_⟩
   ·exact qsZ
   ·omega
   ·intro m hm
    by_cases hlt:m<f.length
    ·have hltI:(m:Int)<f.length:=by omega
     obtain⟨⟨a,v⟩,hx⟩:∃ x,f[m]? = some x:=⟨_,List.getElem?_eq_getElem hlt⟩
     have hts:=bA hx
     have hlt2:(f.take m).length=m:=by rw[List.length_take];omega
     have hcall:=hf a v (List.mem_of_getElem? hx)
     obtain⟨w1,w2,w3,w4,w5,w6⟩:=v
     rw[Val.pv_mk] at hcall
     simp(disch:=try exact dI) only[hx,Fld.pv_mk,Val.pv_mk,push_cast,seval]
     refine ag hcall rfl ?_
     simp(disch:=try exact dI) only[hlt2,push_cast,seval]
     exact⟨m+1,bz (by simp(disch:=try exact dI) only[hts,List.map_append,Fld.pv_mk,Val.pv_mk,push_cast,seval]),by omega,by omega⟩
    ·have hltI:¬ (m:Int)<f.length:=by omega
     have hle:f.take m=f:=List.take_of_length_le (by omega)
     simp(disch:=try exact dI) only[hle,push_cast,seval]
theorem RC (n sc:Int):au Tryz.prog aM 94 [.int .i64 n,.int .i64 sc] (Val.mk 3 n sc [] [] []).pv:=by
 refine au.intro Ph (by simp[F94]) ?_
 simp(disch:=try exact dI) only[F94,Val.pv_mk,push_cast,seval]
theorem Re (n:Int):au Tryz.prog aM 95 [.int .i64 n] (Val.mk 2 n 0 [] [] []).pv:=by
 refine au.intro Pg (by simp[F95]) ?_
 simp(disch:=try exact dI) only[F95,Val.pv_mk,push_cast,seval]
theorem MG (t:List UInt8):au Tryz.prog aM 96 [.str t] (Val.mk 4 0 0 t [] []).pv:=by
 refine au.intro Pf (by simp[F96]) ?_
 simp(disch:=try exact dI) only[F96,Val.pv_mk,push_cast,seval]
theorem RM (t:List UInt8):au Tryz.prog aM 97 [.str t] (Val.mk 5 0 0 t [] []).pv:=by
 refine au.intro Pe (by simp[F97]) ?_
 simp(disch:=try exact dI) only[F97,Val.pv_mk,push_cast,seval]
theorem Cv (b:Bool):au Tryz.prog aM 170 [.bool b] (Val.mk 1 (if b=true then 1 else 0) 0 [] [] []).pv:=by
 refine au.intro Ld (by simp[Qt]) ?_
 cases b with
 | true=>
   rw[if_pos rfl]
   simp(disch:=try exact dI) only[Qt,Val.pv_mk,push_cast,seval]
 | false=>
   rw[if_neg (by decide)]
   simp(disch:=try exact dI) only[Qt,Val.pv_mk,push_cast,seval]
theorem Ke (n:Int):au Tryz.prog aM 171 [.int .i64 n] (Val.mk 6 n 0 [] [] []).pv:=by
 refine au.intro Lc (by simp[Si]) ?_
 simp(disch:=try exact dI) only[Si,Val.pv_mk,push_cast,seval]
theorem H0 (n:Int):au Tryz.prog aM 172 [.int .i64 n] (Val.mk 7 n 0 [] [] []).pv:=by
 refine au.intro Lb (by simp[Sh]) ?_
 simp(disch:=try exact dI) only[Sh,Val.pv_mk,push_cast,seval]
theorem ve (t:List UInt8)(v:Val)(ht:t.length≤140737488351232)(hv:v.ok):au Tryz.prog aM 169 [.str t,v.pv] (Val.mk 10 0 0 t [v] []).pv:=by
 have hc:=Cc _ (Val.mk 10 0 0 t [v] []) (Nat.lt_succ_self _) (by
  rw[Val.ok_mk]
  refine⟨by unfold I64;omega,by unfold I64;omega,by unfold I64;omega,ht,by simp,fun x hx=>by simp at hx;rw[hx];exact hv,by simp,fun x hx=>by simp at hx⟩)
 obtain⟨k,n,s,tt,l,fs⟩:=v
 simp only[Val.pv_mk,List.map_cons,List.map_nil] at hc ⊢
 refine au.intro Le (by simp[Sj]) ?_
 simp(disch:=try exact dI) only[Sj,push_cast,seval]
 refine ab.pureN hc rfl (by repeat' constructor) ?_
 exact qsZ
end Go.Proofs.YtamoeblcphjbaaaGreatDoor
/-
 DERIVED: THE SHELF's CONTRACTS AT THIS DUMP,IN PLAIN WORDS (tools/lay-plain.mjs out of 'TryzC9.lean',which tools/lay-shelf.mjs wrote): THE SAME DECLARATIONS UNDER THE SAME NAMES: 'import','namespace','open','def','theorem' AND NOTHING ELSE: no command of the shelf's: FOR A HAND-IN. Each laying: the table of numbers ('.._ren') and one theorem,a field a fact of the dump's own or the kernel's comparison;each jN: ONE APPLICATION.
-/
namespace Go.Proofs
open Go.Shelf
def Tryz.sortF_ren:Go.Shelf.Ren:=⟨fun | 6=>167 | 15=>211 | 14=>210 | 28=>245 | 29=>215 | 20=>237 | 21=>238 | 22=>239 | 23=>240 | 24=>241 | 25=>242 | 26=>243 | 27=>244 | 46=>262 | 47=>263 | 48=>264 | 49=>265 | 50=>266 | 57=>276 | n=>n,fun | 22=>23 | 24=>39 | 25=>130 | 3=>3 | 39=>163 | 0=>0 | 53=>206 | 55=>181 | 4=>4 | 46=>233 | 45=>232 | 50=>237 | 5=>5 | 9=>9 | 66=>251 | 70=>104 | 76=>266 | 77=>186 | n=>n,fun | n=>n⟩
theorem Tryz.sortF:Go.Proofs.SlLaysF0.n6 Tryz.prog Tryz.sortF_ren:={
 mixed:=by kernel_rfl
 f6:=⟨Tryz.f167.name,by decide,Tryz.func167.trans (congrArg some (by kernel_rfl))⟩
 f14:=⟨Tryz.f210.name,by decide,Tryz.func210.trans (congrArg some (by kernel_rfl))⟩
 f15:=Tryz.func211.trans (congrArg some (by kernel_rfl))
 f20:=⟨Tryz.f237.name,by decide,Tryz.func237.trans (congrArg some (by kernel_rfl))⟩
 f21:=⟨Tryz.f238.name,by decide,Tryz.func238.trans (congrArg some (by kernel_rfl))⟩
 f22:=⟨Tryz.f239.name,by decide,Tryz.func239.trans (congrArg some (by kernel_rfl))⟩
 f23:=⟨Tryz.f240.name,by decide,Tryz.func240.trans (congrArg some (by kernel_rfl))⟩
 f24:=⟨Tryz.f241.name,by decide,Tryz.func241.trans (congrArg some (by kernel_rfl))⟩
 f25:=⟨Tryz.f242.name,by decide,Tryz.func242.trans (congrArg some (by kernel_rfl))⟩
 f26:=⟨Tryz.f243.name,by decide,Tryz.func243.trans (congrArg some (by kernel_rfl))⟩
 f27:=⟨Tryz.f244.name,by decide,Tryz.func244.trans (congrArg some (by kernel_rfl))⟩
 f28:=Tryz.func245.trans (congrArg some (by kernel_rfl))
 f29:=Tryz.func215.trans (congrArg some (by kernel_rfl))
 f46:=⟨Tryz.f262.name,by decide,Tryz.func262.trans (congrArg some (by kernel_rfl))⟩
 f47:=Tryz.func263.trans (congrArg some (by kernel_rfl))
 f48:=Tryz.func264.trans (congrArg some (by kernel_rfl))
 f49:=⟨Tryz.f265.name,by decide,Tryz.func265.trans (congrArg some (by kernel_rfl))⟩
 f50:=⟨Tryz.f266.name,by decide,Tryz.func266.trans (congrArg some (by kernel_rfl))⟩
 f57:=⟨Tryz.f276.name,by decide,Tryz.func276.trans (congrArg some (by kernel_rfl))⟩
 t0:=Tryz.underlying0
 a0:=Tryz.isAgg0
 z0:=Tryz.sizeOf0
 v0:=Tryz.zeroValue0
 t3:=Tryz.underlying3
 a3:=Tryz.isAgg3
 z3:=Tryz.sizeOf3
 v3:=Tryz.zeroValue3
 t4:=Tryz.underlying4
 a4:=Tryz.isAgg4
 z4:=Tryz.sizeOf4
 v4:=Tryz.zeroValue4
 t5:=Tryz.underlying5
 a5:=Tryz.isAgg5
 z5:=Tryz.sizeOf5
 v5:=Tryz.zeroValue5
 t9:=Tryz.underlying9
 a9:=Tryz.isAgg9
 z9:=Tryz.sizeOf9
 v9:=Tryz.zeroValue9
 t22:=Tryz.underlying23
 a22:=Tryz.isAgg23
 z22:=Tryz.sizeOf23
 v22:=Tryz.zeroValue23
 t25:=Tryz.underlying130
 a25:=Tryz.isAgg130
 z25:=Tryz.sizeOf130
 v25:=Tryz.zeroValue130
 t39:=Tryz.underlying163
 a39:=Tryz.isAgg163
 z39:=Tryz.sizeOf163
 v39:=Tryz.zeroValue163
 t45:=Tryz.underlying232
 a45:=Tryz.isAgg232
 z45:=Tryz.sizeOf232
 v45:=Tryz.zeroValue232
 t46:=Tryz.underlying233
 a46:=Tryz.isAgg233
 z46:=Tryz.sizeOf233
 v46:=Tryz.zeroValue233
 t50:=Tryz.underlying237
 a50:=Tryz.isAgg237
 z50:=Tryz.sizeOf237
 v50:=Tryz.zeroValue237
 t53:=Tryz.underlying206
 a53:=Tryz.isAgg206
 z53:=Tryz.sizeOf206
 v53:=Tryz.zeroValue206
 t55:=Tryz.underlying181
 a55:=Tryz.isAgg181
 z55:=Tryz.sizeOf181
 v55:=Tryz.zeroValue181
 t66:=Tryz.underlying251
 a66:=Tryz.isAgg251
 z66:=Tryz.sizeOf251
 v66:=Tryz.zeroValue251
 t70:=Tryz.underlying104
 a70:=Tryz.isAgg104
 z70:=Tryz.sizeOf104
 v70:=Tryz.zeroValue104
 t76:=Tryz.underlying266
 a76:=Tryz.isAgg266
 z76:=Tryz.sizeOf266
 v76:=Tryz.zeroValue266
 t77:=Tryz.underlying186
 a77:=Tryz.isAgg186
 z77:=Tryz.sizeOf186
 v77:=Tryz.zeroValue186 }
end Go.Proofs
namespace Go.Proofs.YtamoeblcphjbaaaGreatDoor
open Go Go.Proofs Go.Shelf Go.RowKit Go.Lib Go.Sort
structure FldC where
 name:ByteArray
 c1:Value
 c2:Value
 c3:Value
 c4:Value
 c5:Value
 c6:Value
 one:c1.oneCell'=true∧c2.oneCell'=true∧c3.oneCell'=true∧c4.oneCell'=true∧c5.oneCell'=true∧c6.oneCell'=true
instance:Inhabited FldC:=⟨⟨.empty,.int .i64 0,.int .i64 0,.int .i64 0,.int .i64 0,.int .i64 0,.int .i64 0,by decide⟩⟩
def xz (x:FldC):List Value:=[.string x.name,x.c1,x.c2,x.c3,x.c4,x.c5,x.c6]
def RF (x y:FldC):Int:=Lib.compareBytes x.name.data.toList y.name.data.toList
theorem wY (x y:FldC)(W:World):Calls Tryz.prog 168 #[.agg (xz x).toArray,.agg (xz y).toArray] W fun e w'=>e = .returned (.int .i64 (RF x y))∧∃ q os',w'=grow (W.drewN q) os':=by
 obtain⟨s,a1,a2,a3,a4,a5,a6,ha⟩:=x
 obtain⟨t,b1,b2,b3,b4,b5,b6,hb⟩:=y
 have hcon:=fun W'=>Tryz.strings_Compare s t W'
 simp only[xz,RF]
 generalize Lib.compareBytes s.data.toList t.data.toList=r at hcon ⊢
 go_enter Tryz.func168,Tryz.ntmps168
 go_wp2_with (go_at_call 103;refine (hcon _).mono ?_;rintro e w' ⟨rfl,rfl⟩)
 go_ret
 exact⟨rfl,0,_,by rw[alloc_eq_grow,alloc_eq_grow,grow_grow];rfl⟩
end Go.Proofs.YtamoeblcphjbaaaGreatDoor

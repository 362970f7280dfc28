/- A part of the proof for LiteralFieldsCardSaid. -/
import Derived.Test.YtamoeblcphjbaaaGreatDoorFlLP8
set_option maxRecDepth 100000
set_option linter.unusedVariables false
set_option linter.unusedSimpArgs false
-- many steps
namespace Go.Proofs.YtamoeblcphjbaaaGreatDoor
open Go Go.Ab
attribute [local irreducible] vc
theorem JG {R:Rd}{i:Nat}{e:Int}(he:e≠0):OkR (ba R i e):=fun h=>absurd h (bZ he)
section
variable {T:Nat}{p:PV}
theorem Db (R:Rd)(t:List UInt8)(hR:OkR R):aR Tryz.prog (dD T p) 1 132 [.ptr 0 0,.pv (.str t)] [rdB R] (.pv (.bool (nI R t).1)) [rdB (nI R t).2]:=by
 have h1:=Gb (T:=T) (p:=p) R t
 have h2:=d9 (T:=T) (p:=p) R hR
 unfold nI
 simp only[rdB,rdC] at h1 h2
 cases hi:isT R t with
 | true=>
   rw[hi] at h1
   rw[if_pos rfl]
   generalize tkP R.now=was at *
   refine aR.intro Dq (by simp[PS]) ?_
   simp(disch:=try exact dI) only[PS,rdB,rdC,push_cast,seval]
   refine ab.lentK h1 [0] rfl qsZ qsZ ?_
   simp(disch:=try exact dI) only[push_cast,seval]
   refine ab.lentK h2 [0] rfl qsZ qsZ ?_
   simp(disch:=try exact dI) only[push_cast,seval]
   exact ap [] (by simp(disch:=try exact dI) only[rdB,rdC,push_cast,seval])
 | false=>
   rw[hi] at h1
   rw[if_neg (by decide)]
   refine aR.intro Dq (by simp[PS]) ?_
   simp(disch:=try exact dI) only[PS,rdB,rdC,push_cast,seval]
   refine ab.lentK h1 [0] rfl qsZ qsZ ?_
   simp(disch:=try exact dI) only[push_cast,seval]
   exact ap [] (by simp(disch:=try exact dI) only[rdB,rdC,push_cast,seval])
theorem bQ (R:Rd)(t:List UInt8)(hR:OkR R):aR Tryz.prog (dD T p) 1 121 [.ptr 0 0,.pv (.str t)] [rdB R] (.pv (.tup [])) [rdB (aD R t)]:=by
 have h1:=Db (T:=T) (p:=p) R t hR
 unfold aD
 by_cases h0:R.e=0
 ·have h0I:(R.e=0)=True:=eq_true h0
  rw[if_pos h0]
  unfold nI at h1
  simp only[rdB,rdC] at h1
  cases hi:isT R t with
  | true=>
    rw[hi,if_pos rfl] at h1
    rw[if_pos rfl]
    simp only at h1
    refine aR.intro sx (by simp[LX]) ?_
    simp(disch:=try exact dI) only[LX,rdB,rdC,h0I,push_cast,seval]
    refine ab.lentK h1 [0] rfl qsZ qsZ ?_
    simp(disch:=try exact dI) only[push_cast,seval]
    exact ap [] (by simp(disch:=try exact dI) only[rdB,rdC,push_cast,seval])
  | false=>
    rw[hi,if_neg (by decide)] at h1
    rw[if_neg (by decide)]
    have hf:=cL (T:=T) (p:=p) R R.now.pos 13
    simp only[rdB,rdC] at h1 hf
    refine aR.intro sx (by simp[LX]) ?_
    simp(disch:=try exact dI) only[LX,rdB,rdC,h0I,push_cast,seval]
    refine ab.lentK h1 [0] rfl qsZ qsZ ?_
    simp(disch:=try exact dI) only[push_cast,seval]
    refine ab.lentK hf [0] rfl qsZ qsZ ?_
    simp(disch:=try exact dI) only[push_cast,seval]
    exact ap [] (by simp(disch:=try exact dI) only[rdB,rdC,push_cast,seval])
 ·rw[if_neg h0]
  refine aR.intro sx (by simp[LX]) ?_
  simp(disch:=try exact dI) only[LX,rdB,rdC,h0,push_cast,seval]
  exact ap [] (by simp(disch:=try exact dI) only[rdB,rdC,push_cast,seval])
theorem lK {R:Rd}{k:Int}(h:R.e=0)(hk:R.now.kind=k):fT R k=(R.now,bt R):=by
 have e:(if R.e=0∧R.now.kind≠k then ba R R.now.pos 13 else R)=R:=if_neg (fun q=>q.2 hk)
 unfold fT
 rw[e]
 exact if_pos h
theorem take_2 {R:Rd}{k:Int}(h:R.e=0)(hk:¬ R.now.kind=k):fT R k=({},ba R R.now.pos 13):=by
 have e:(if R.e=0∧R.now.kind≠k then ba R R.now.pos 13 else R)=ba R R.now.pos 13:=if_pos ⟨h,hk⟩
 unfold fT
 rw[e]
 exact if_neg (bZ (by decide))
theorem take_3 {R:Rd}{k:Int}(h:¬ R.e=0):fT R k=({},R):=by
 have e:(if R.e=0∧R.now.kind≠k then ba R R.now.pos 13 else R)=R:=if_neg (fun q=>h q.1)
 unfold fT
 rw[e]
 exact if_neg h
theorem ym (R:Rd)(k:Int)(hR:OkR R):aR Tryz.prog (dD T p) 1 134 [.ptr 0 0,.pv (.int .i64 k)] [rdB R] (.pv (tkP (fT R k).1)) [rdB (fT R k).2]:=by
 by_cases h0:R.e=0
 ·have h0I:(R.e=0)=True:=eq_true h0
  by_cases hk:R.now.kind=k
  ·rw[lK h0 hk]
   have hkI:(R.now.kind=k)=True:=eq_true hk
   have h2:=d9 (T:=T) (p:=p) R hR
   simp only[rdB,rdC,tkP] at h2 ⊢
   refine aR.intro su (by simp[LR]) ?_
   simp(disch:=try exact dI) only[LR,h0I,hkI,push_cast,seval]
   refine ab.lentK h2 [0] rfl qsZ qsZ ?_
   simp(disch:=try exact dI) only[push_cast,seval]
   exact ap [] qsZ
  ·rw[take_2 h0 hk]
   have hf:=cL (T:=T) (p:=p) R R.now.pos 13
   have he:=bZ (R:=R) (i:=R.now.pos) (e:=13) (by decide)
   simp only[rdB,rdC,tkP] at hf ⊢
   refine aR.intro su (by simp[LR]) ?_
   simp(disch:=try exact dI) only[LR,h0I,hk,push_cast,seval]
   refine ab.lentK hf [0] rfl qsZ qsZ ?_
   simp(disch:=try exact dI) only[he,push_cast,seval]
   exact ap [] qsZ
 ·rw[take_3 h0]
  simp only[rdB,rdC,tkP]
  refine aR.intro su (by simp[LR]) ?_
  simp(disch:=try exact dI) only[LR,h0,push_cast,seval]
  exact ap [] qsZ
theorem AS (R:Rd)(hR:OkR R):aR Tryz.prog (dD T p) 1 166 [.ptr 0 0] [rdB R] (.pv (.str (dB R).1)) [rdB (dB R).2]:=by
 have h1:=ym (T:=T) (p:=p) R 1 hR
 unfold dB
 generalize fT R 1=Q at *
 obtain⟨t,L⟩:=Q
 simp only[rdB,rdC,tkP] at h1 ⊢
 by_cases h0:L.e=0
 ·have h0I:(L.e=0)=True:=eq_true h0
  have hn:=toE (T:=T) (p:=p) (m4 t.text)
  cases hb:bn t.text with
  | true=>
    rw[hb] at hn
    rw[if_neg (fun q=>by cases q.2)]
    refine aR.intro sr (by simp[LA]) ?_
    simp(disch:=try exact dI) only[LA,push_cast,seval]
    refine ab.lentK h1 [0] rfl qsZ qsZ ?_
    simp(disch:=try exact dI) only[h0I,push_cast,seval]
    refine ab.pure hn rfl ?_
    simp(disch:=try exact dI) only[push_cast,seval]
    exact ap [] qsZ
  | false=>
    rw[hb] at hn
    rw[if_pos ⟨h0,rfl⟩]
    have hf:=cL (T:=T) (p:=p) L t.pos 12
    simp only[rdB,rdC] at hf
    refine aR.intro sr (by simp[LA]) ?_
    simp(disch:=try exact dI) only[LA,push_cast,seval]
    refine ab.lentK h1 [0] rfl qsZ qsZ ?_
    simp(disch:=try exact dI) only[h0I,push_cast,seval]
    refine ab.pure hn rfl ?_
    simp(disch:=try exact dI) only[push_cast,seval]
    refine ab.lentK hf [0] rfl qsZ qsZ ?_
    simp(disch:=try exact dI) only[push_cast,seval]
    exact ap [] qsZ
 ·rw[if_neg (fun q=>h0 q.1)]
  refine aR.intro sr (by simp[LA]) ?_
  simp(disch:=try exact dI) only[LA,push_cast,seval]
  refine ab.lentK h1 [0] rfl qsZ qsZ ?_
  simp(disch:=try exact dI) only[h0,push_cast,seval]
  exact ap [] qsZ
theorem o7 (R:Rd)(hR:OkR R)(g:Nat)(ps:List UInt8→Int×Int)(hg:∀ s,aq Tryz.prog aF g [.str s] (.tup [.int .i64 (ps s).1,.int .i64 (ps s).2])):aR Tryz.prog (dD T p) 1 127 [.ptr 0 0,.pv (.clo g [] [])] [rdB R] (.pv (.int .i64 (bE R ps).1)) [rdB (bE R ps).2]:=by
 have h1:=ym (T:=T) (p:=p) R 3 hR
 unfold bE
 generalize fT R 3=Q at *
 obtain⟨t,L⟩:=Q
 simp only[rdB,rdC,tkP] at h1 ⊢
 by_cases h0:L.e=0
 ·have h0I:(L.e=0)=True:=eq_true h0
  rw[if_pos h0]
  have hn:=toE (T:=T) (p:=p) (hg t.bytes)
  generalize ps t.bytes=q at *
  obtain⟨n,e⟩:=q
  simp only at hn ⊢
  by_cases he:e=0
  ·subst he
   rw[if_pos rfl]
   refine aR.intro sw (by simp[LW]) ?_
   simp(disch:=try exact dI) only[LW,push_cast,seval]
   refine ab.lentK h1 [0] rfl qsZ qsZ ?_
   simp(disch:=try exact dI) only[h0I,push_cast,seval]
   refine ab.pure hn rfl ?_
   simp(disch:=try exact dI) only[push_cast,seval]
   exact ap [] qsZ
  ·rw[if_neg he]
   have hf:=cL (T:=T) (p:=p) L t.pos e
   simp only[rdB,rdC] at hf
   refine aR.intro sw (by simp[LW]) ?_
   simp(disch:=try exact dI) only[LW,push_cast,seval]
   refine ab.lentK h1 [0] rfl qsZ qsZ ?_
   simp(disch:=try exact dI) only[h0I,push_cast,seval]
   refine ab.pure hn rfl ?_
   simp(disch:=try exact dI) only[he,push_cast,seval]
   refine ab.lentK hf [0] rfl qsZ qsZ ?_
   simp(disch:=try exact dI) only[push_cast,seval]
   exact ap [] qsZ
 ·rw[if_neg h0]
  refine aR.intro sw (by simp[LW]) ?_
  simp(disch:=try exact dI) only[LW,push_cast,seval]
  refine ab.lentK h1 [0] rfl qsZ qsZ ?_
  simp(disch:=try exact dI) only[h0,push_cast,seval]
  exact ap [] qsZ
theorem Gu (R:Rd):aR Tryz.prog (dD T p) 1 47 [.ptr 0 0] [rdB R] (.pv (.tup [])) [rdB (kQ R)]:=by
 unfold kQ
 by_cases h0:R.e=0
 ·have h0I:(R.e=0)=True:=eq_true h0
  by_cases hk:R.now.kind=0
  ·have hkI:(R.now.kind=0)=True:=eq_true hk
   rw[if_neg (fun q=>q.2 hk)]
   refine aR.intro Dk (by simp[F47]) ?_
   simp(disch:=try exact dI) only[F47,rdB,rdC,h0I,hkI,push_cast,seval]
   exact ap [] (by simp(disch:=try exact dI) only[rdB,rdC,push_cast,seval])
  ·rw[if_pos ⟨h0,hk⟩]
   have hf:=cL (T:=T) (p:=p) R R.now.pos 13
   simp only[rdB,rdC] at hf
   refine aR.intro Dk (by simp[F47]) ?_
   simp(disch:=try exact dI) only[F47,rdB,rdC,h0I,hk,push_cast,seval]
   refine ab.lentK hf [0] rfl qsZ qsZ ?_
   simp(disch:=try exact dI) only[push_cast,seval]
   exact ap [] (by simp(disch:=try exact dI) only[rdB,rdC,push_cast,seval])
 ·rw[if_neg (fun q=>h0 q.1)]
  refine aR.intro Dk (by simp[F47]) ?_
  simp(disch:=try exact dI) only[F47,rdB,rdC,h0,push_cast,seval]
  exact ap [] (by simp(disch:=try exact dI) only[rdB,rdC,push_cast,seval])
def rd0 (s:List UInt8):Rd:=⟨s,0,{},0,0⟩
theorem jX {s:List UInt8}(h:65536<s.length):cu s=⟨s,0,{},5,0⟩:=by
 unfold cu
 simp only[if_pos h]
 rfl
theorem jW {s:List UInt8}(h:¬ 65536<s.length):cu s=bt (rd0 s):=by
 unfold cu
 simp only[if_neg h]
 rfl
theorem AB {s:List UInt8}(h:s.length≤65536):OkR (rd0 s):=fun _=>⟨h,Nat.le_refl _,Nat.zero_le _,fun h=>absurd rfl h⟩
theorem tz (s:List UInt8):OkR (cu s):=by
 by_cases h:65536<s.length
 ·rw[jX h];intro h;exact absurd (show (5:Int)=0 from h) (by decide)
 ·rw[jW h];exact (Ic (AB (by omega))).1
theorem IH (s:List UInt8):aR Tryz.prog (dD T p) 0 45 [.pv (.str s)] [] (.ptr 0 0) [rdB (cu s)]:=by
 by_cases h:65536<s.length
 ·have hI:(65536:Int)<(s.length:Int):=by omega
  rw[jX h]
  have hf:=cL (T:=T) (p:=p) (rd0 s) 0 5
  have ha:=d9 (T:=T) (p:=p) ⟨s,0,{},5,0⟩ (fun h=>absurd (show (5:Int)=0 from h) (by decide))
  rw[xr (by simp)] at ha
  rw[show ba (rd0 s) 0 5=⟨s,0,{},5,0⟩ from rfl] at hf
  simp only[rdB,rdC,rd0,tkP] at hf ha ⊢
  refine aR.intro Ig (by simp[F45]) ?_
  simp(disch:=try exact dI) only[F45,hI,push_cast,seval]
  refine ab.lentK hf [0] rfl qsZ qsZ ?_
  simp(disch:=try exact dI) only[push_cast,seval]
  refine ab.lentK ha [0] rfl qsZ qsZ ?_
  simp(disch:=try exact dI) only[push_cast,seval]
  exact ap [] qsZ
 ·have hI:¬ (65536:Int)<(s.length:Int):=by omega
  rw[jW h]
  have ha:=d9 (T:=T) (p:=p) (rd0 s) (AB (by omega))
  generalize bt (rd0 s)=L at *
  simp only[rdB,rdC,rd0,tkP] at ha ⊢
  refine aR.intro Ig (by simp[F45]) ?_
  simp(disch:=try exact dI) only[F45,hI,push_cast,seval]
  refine ab.lentK ha [0] rfl qsZ qsZ ?_
  simp(disch:=try exact dI) only[push_cast,seval]
  exact ap [] qsZ
end
end Go.Proofs.YtamoeblcphjbaaaGreatDoor
-- many steps
namespace Go.Proofs.YtamoeblcphjbaaaGreatDoor
open Go Go.Ab
attribute [local irreducible] vc
set_option maxHeartbeats 4000000 in
theorem Cs:∀ (n:Nat) (v:Val),SizeOf.sizeOf v<n→v.ok→aq Tryz.prog aF 212 [v.pv] v.pv:=by
 intro n
 induction n with
 | zero=>intro v h;omega
 | succ n ih=>
 intro v hn hv
 obtain⟨k,i,s,t,l,f⟩:=v
 rw[Val.ok_mk] at hv
 obtain⟨h1,h2,h3,h4,h5,h7,h6,h8⟩:=hv
 simp only[Val.mk.sizeOf_spec] at hn
 have hl:∀ x∈l,aq Tryz.prog aF 212 [x.pv] x.pv:=fun x hx=>ih x (by have:=List.sizeOf_lt_of_mem hx;omega) (h7 x hx)
 have hf:∀ a v,Fld.mk a v∈f→aq Tryz.prog aF 212 [v.pv] v.pv:=fun a v hx=>ih v (by have:=List.sizeOf_lt_of_mem hx;simp only[Fld.mk.sizeOf_spec] at this;omega) (by have:=h8 _ hx;rw[Fld.ok_mk] at this;exact this.2)
 refine aq.intro Lh (by simp[RU]) ?_
 simp(disch:=try exact dI) only[RU,Val.pv_mk,push_cast,seval]
 refine aN ([(3,5,25,6)]) (fun m:Nat=>[(14,.pv (.int .i64 (m:Int)))]) (fun m=>[(1,.cells 25 true [.pv (.int .i64 k),.pv (.int .i64 i),.pv (.int .i64 s),.pv (.str t),.olist 2 6 ((l.take m).map Val.pv),.pv .nils])]) (fun m=>m≤l.length) (fun m=>l.length - m) (0) ?_;intro e0 σ0 n0 h0;simp(disch:=try exact dI) only[push_cast,seval] at h0;obtain⟨rfl,rfl,rfl⟩:=h0;refine⟨?_,?_,?_⟩
 ·simp(disch:=try exact dI) only[push_cast,seval]
 ·omega
 ·intro m hm
  by_cases hlt:m<l.length
  ·have hltI:(m:Int)<l.length:=by omega
   obtain⟨x,hx⟩:∃ x,l[m]? = some x:=⟨_,List.getElem?_eq_getElem hlt⟩
   have hts:=aP hx
   have hlt2:(l.take m).length=m:=by rw[List.length_take];omega
   have hcall:=hl x (List.mem_of_getElem? hx)
   obtain⟨w1,w2,w3,w4,w5,w6⟩:=x
   rw[Val.pv_mk] at hcall
   simp(disch:=try exact dI) only[hx,Val.pv_mk,push_cast,seval]
   refine ae hcall rfl ?_
   simp(disch:=try exact dI) only[hlt2,push_cast,seval]
   exact⟨m+1,bz (by simp(disch:=try exact dI) only[hts,List.map_append,Val.pv_mk,push_cast,seval]),by omega,by omega⟩
  ·have hltI:¬ (m:Int)<l.length:=by omega
   have hle:l.take m=l:=List.take_of_length_le (by omega)
   simp(disch:=try exact dI) only[hle,push_cast,seval]
   refine aN ([(3,6,39,7)]) (fun m:Nat=>[(29,.pv (.int .i64 (m:Int)))]) (fun m=>[(1,.cells 25 true [.pv (.int .i64 k),.pv (.int .i64 i),.pv (.int .i64 s),.pv (.str t),.olist 2 6 (l.map Val.pv),.olist 3 7 ((f.take m).map Fld.pv)])]) (fun m=>m≤f.length) (fun m=>f.length - m) (0) ?_;intro e0 σ0 n0 h0;simp(disch:=try exact dI) only[push_cast,seval] at h0;obtain⟨rfl,rfl,rfl⟩:=h0;refine⟨?_,?_,?_⟩
   ·simp(disch:=try exact dI) only[push_cast,seval]
   ·omega
   ·intro m hm
    by_cases hlt:m<f.length
    ·have hltI:(m:Int)<f.length:=by omega
     obtain⟨⟨a,v⟩,hx⟩:∃ x,f[m]? = some x:=⟨_,List.getElem?_eq_getElem hlt⟩
     have hts:=aP hx
     have hlt2:(f.take m).length=m:=by rw[List.length_take];omega
     have hcall:=hf a v (List.mem_of_getElem? hx)
     obtain⟨w1,w2,w3,w4,w5,w6⟩:=v
     rw[Val.pv_mk] at hcall
     simp(disch:=try exact dI) only[hx,Fld.pv_mk,Val.pv_mk,push_cast,seval]
     refine ae hcall rfl ?_
     simp(disch:=try exact dI) only[hlt2,push_cast,seval]
     exact⟨m+1,bz (by simp(disch:=try exact dI) only[hts,List.map_append,Fld.pv_mk,Val.pv_mk,push_cast,seval]),by omega,by omega⟩
    ·have hltI:¬ (m:Int)<f.length:=by omega
     have hle:f.take m=f:=List.take_of_length_le (by omega)
     simp(disch:=try exact dI) only[hle,push_cast,seval]
theorem Rp (n sc:Int):aq Tryz.prog aF 94 [.int .i64 n,.int .i64 sc] (Val.mk 3 n sc [] [] []).pv:=by
 refine aq.intro OU (by simp[F94]) ?_
 simp(disch:=try exact dI) only[F94,Val.pv_mk,push_cast,seval]
theorem Q3 (n:Int):aq Tryz.prog aF 95 [.int .i64 n] (Val.mk 2 n 0 [] [] []).pv:=by
 refine aq.intro OT (by simp[F95]) ?_
 simp(disch:=try exact dI) only[F95,Val.pv_mk,push_cast,seval]
theorem MC (t:List UInt8):aq Tryz.prog aF 96 [.str t] (Val.mk 4 0 0 t [] []).pv:=by
 refine aq.intro OS (by simp[F96]) ?_
 simp(disch:=try exact dI) only[F96,Val.pv_mk,push_cast,seval]
theorem Rz (t:List UInt8):aq Tryz.prog aF 97 [.str t] (Val.mk 5 0 0 t [] []).pv:=by
 refine aq.intro OR (by simp[F97]) ?_
 simp(disch:=try exact dI) only[F97,Val.pv_mk,push_cast,seval]
theorem CO (b:Bool):aq Tryz.prog aF 170 [.bool b] (Val.mk 1 (if b=true then 1 else 0) 0 [] [] []).pv:=by
 refine aq.intro Ly (by simp[Qj]) ?_
 cases b with
 | true=>
   rw[if_pos rfl]
   simp(disch:=try exact dI) only[Qj,Val.pv_mk,push_cast,seval]
 | false=>
   rw[if_neg (by decide)]
   simp(disch:=try exact dI) only[Qj,Val.pv_mk,push_cast,seval]
theorem KK (n:Int):aq Tryz.prog aF 171 [.int .i64 n] (Val.mk 6 n 0 [] [] []).pv:=by
 refine aq.intro Lx (by simp[R7]) ?_
 simp(disch:=try exact dI) only[R7,Val.pv_mk,push_cast,seval]
theorem IC (n:Int):aq Tryz.prog aF 172 [.int .i64 n] (Val.mk 7 n 0 [] [] []).pv:=by
 refine aq.intro Lw (by simp[R6]) ?_
 simp(disch:=try exact dI) only[R6,Val.pv_mk,push_cast,seval]
theorem uZ (t:List UInt8)(v:Val)(ht:t.length≤140737488351232)(hv:v.ok):aq Tryz.prog aF 169 [.str t,v.pv] (Val.mk 10 0 0 t [v] []).pv:=by
 have hc:=Cs _ (Val.mk 10 0 0 t [v] []) (Nat.lt_succ_self _) (by
  rw[Val.ok_mk]
  refine⟨by unfold I64;omega,by unfold I64;omega,by unfold I64;omega,ht,by simp,fun x hx=>by simp at hx;rw[hx];exact hv,by simp,fun x hx=>by simp at hx⟩)
 obtain⟨k,n,s,tt,l,fs⟩:=v
 simp only[Val.pv_mk,List.map_cons,List.map_nil] at hc ⊢
 refine aq.intro Lz (by simp[R8]) ?_
 simp(disch:=try exact dI) only[R8,push_cast,seval]
 refine ab.pureN hc rfl (by repeat' constructor) ?_
 simp(disch:=try exact dI) only[push_cast,seval]
end Go.Proofs.YtamoeblcphjbaaaGreatDoor

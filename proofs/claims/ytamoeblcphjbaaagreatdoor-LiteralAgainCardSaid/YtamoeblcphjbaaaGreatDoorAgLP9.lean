/- A part of the proof for LiteralAgainCardSaid. -/
import Derived.Test.YtamoeblcphjbaaaGreatDoorAgLP8
set_option maxRecDepth 100000
set_option linter.unusedVariables false
set_option linter.unusedSimpArgs false
-- many steps
namespace Go.Proofs.YtamoeblcphjbaaaGreatDoor
open Go Go.Ab
attribute [local irreducible] vc
theorem IZ {R:Rd}{i:Nat}{e:Int}(he:e≠0):OkR (aZ R i e):=fun h=>absurd h (aX he)
section
variable {T:Nat}{p:PV}
theorem Cv (R:Rd)(t:List UInt8)(hR:OkR R):aQ Tryz.prog (dM T p) 1 132 [.ptr 0 0,.pv (.str t)] [rdB R] (.pv (.bool (nE R t).1)) [rdB (nE R t).2]:=by
 have h1:=Fx (T:=T) (p:=p) R t
 have h2:=en (T:=T) (p:=p) R hR
 unfold nE
 simp only[rdB,rdC] at h1 h2
 cases hi:isT R t with
 | true=>
   rw[hi] at h1
   rw[if_pos rfl]
   generalize tkP R.now=was at *
   refine aQ.intro CL (by simp[OX]) ?_
   simp(disch:=try exact dI) only[OX,rdB,rdC,push_cast,seval]
   refine ab.lentK h1 [0] rfl qsZ qsZ ?_
   simp(disch:=try exact dI) only[push_cast,seval]
   refine ab.lentK h2 [0] rfl qsZ qsZ ?_
   simp(disch:=try exact dI) only[push_cast,seval]
   exact ap [] (by simp(disch:=try exact dI) only[rdB,rdC,push_cast,seval])
 | false=>
   rw[hi] at h1
   rw[if_neg (by decide)]
   refine aQ.intro CL (by simp[OX]) ?_
   simp(disch:=try exact dI) only[OX,rdB,rdC,push_cast,seval]
   refine ab.lentK h1 [0] rfl qsZ qsZ ?_
   simp(disch:=try exact dI) only[push_cast,seval]
   exact ap [] (by simp(disch:=try exact dI) only[rdB,rdC,push_cast,seval])
theorem bU (R:Rd)(t:List UInt8)(hR:OkR R):aQ Tryz.prog (dM T p) 1 121 [.ptr 0 0,.pv (.str t)] [rdB R] (.pv (.tup [])) [rdB (aD R t)]:=by
 have h1:=Cv (T:=T) (p:=p) R t hR
 unfold aD
 by_cases h0:R.e=0
 ·have h0I:(R.e=0)=True:=eq_true h0
  rw[if_pos h0]
  unfold nE at h1
  simp only[rdB,rdC] at h1
  cases hi:isT R t with
  | true=>
    rw[hi,if_pos rfl] at h1
    rw[if_pos rfl]
    simp only at h1
    refine aQ.intro sd (by simp[Lh]) ?_
    simp(disch:=try exact dI) only[Lh,rdB,rdC,h0I,push_cast,seval]
    refine ab.lentK h1 [0] rfl qsZ qsZ ?_
    simp(disch:=try exact dI) only[push_cast,seval]
    exact ap [] (by simp(disch:=try exact dI) only[rdB,rdC,push_cast,seval])
  | false=>
    rw[hi,if_neg (by decide)] at h1
    rw[if_neg (by decide)]
    have hf:=cW (T:=T) (p:=p) R R.now.pos 13
    simp only[rdB,rdC] at h1 hf
    refine aQ.intro sd (by simp[Lh]) ?_
    simp(disch:=try exact dI) only[Lh,rdB,rdC,h0I,push_cast,seval]
    refine ab.lentK h1 [0] rfl qsZ qsZ ?_
    simp(disch:=try exact dI) only[push_cast,seval]
    refine ab.lentK hf [0] rfl qsZ qsZ ?_
    simp(disch:=try exact dI) only[push_cast,seval]
    exact ap [] (by simp(disch:=try exact dI) only[rdB,rdC,push_cast,seval])
 ·rw[if_neg h0]
  refine aQ.intro sd (by simp[Lh]) ?_
  simp(disch:=try exact dI) only[Lh,rdB,rdC,h0,push_cast,seval]
  exact ap [] (by simp(disch:=try exact dI) only[rdB,rdC,push_cast,seval])
theorem iY {R:Rd}{k:Int}(h:R.e=0)(hk:R.now.kind=k):eZ R k=(R.now,bm R):=by
 have e:(if R.e=0∧R.now.kind≠k then aZ R R.now.pos 13 else R)=R:=if_neg (fun q=>q.2 hk)
 unfold eZ
 rw[e]
 exact if_pos h
theorem take_2 {R:Rd}{k:Int}(h:R.e=0)(hk:¬ R.now.kind=k):eZ R k=({},aZ R R.now.pos 13):=by
 have e:(if R.e=0∧R.now.kind≠k then aZ R R.now.pos 13 else R)=aZ R R.now.pos 13:=if_pos ⟨h,hk⟩
 unfold eZ
 rw[e]
 exact if_neg (aX (by decide))
theorem take_3 {R:Rd}{k:Int}(h:¬ R.e=0):eZ R k=({},R):=by
 have e:(if R.e=0∧R.now.kind≠k then aZ R R.now.pos 13 else R)=R:=if_neg (fun q=>h q.1)
 unfold eZ
 rw[e]
 exact if_neg h
theorem xY (R:Rd)(k:Int)(hR:OkR R):aQ Tryz.prog (dM T p) 1 134 [.ptr 0 0,.pv (.int .i64 k)] [rdB R] (.pv (tkP (eZ R k).1)) [rdB (eZ R k).2]:=by
 by_cases h0:R.e=0
 ·have h0I:(R.e=0)=True:=eq_true h0
  by_cases hk:R.now.kind=k
  ·rw[iY h0 hk]
   have hkI:(R.now.kind=k)=True:=eq_true hk
   have h2:=en (T:=T) (p:=p) R hR
   simp only[rdB,rdC,tkP] at h2 ⊢
   refine aQ.intro r7 (by simp[Lb]) ?_
   simp(disch:=try exact dI) only[Lb,h0I,hkI,push_cast,seval]
   refine ab.lentK h2 [0] rfl qsZ qsZ ?_
   simp(disch:=try exact dI) only[push_cast,seval]
   exact ap [] qsZ
  ·rw[take_2 h0 hk]
   have hf:=cW (T:=T) (p:=p) R R.now.pos 13
   have he:=aX (R:=R) (i:=R.now.pos) (e:=13) (by decide)
   simp only[rdB,rdC,tkP] at hf ⊢
   refine aQ.intro r7 (by simp[Lb]) ?_
   simp(disch:=try exact dI) only[Lb,h0I,hk,push_cast,seval]
   refine ab.lentK hf [0] rfl qsZ qsZ ?_
   simp(disch:=try exact dI) only[he,push_cast,seval]
   exact ap [] qsZ
 ·rw[take_3 h0]
  simp only[rdB,rdC,tkP]
  refine aQ.intro r7 (by simp[Lb]) ?_
  simp(disch:=try exact dI) only[Lb,h0,push_cast,seval]
  exact ap [] qsZ
theorem Am (R:Rd)(hR:OkR R):aQ Tryz.prog (dM T p) 1 166 [.ptr 0 0] [rdB R] (.pv (.str (db R).1)) [rdB (db R).2]:=by
 have h1:=xY (T:=T) (p:=p) R 1 hR
 unfold db
 generalize eZ R 1=Q at *
 obtain⟨t,L⟩:=Q
 simp only[rdB,rdC,tkP] at h1 ⊢
 by_cases h0:L.e=0
 ·have h0I:(L.e=0)=True:=eq_true h0
  have hn:=toE (T:=T) (p:=p) (mS t.text)
  cases hb:bA t.text with
  | true=>
    rw[hb] at hn
    rw[if_neg (fun q=>by cases q.2)]
    refine aQ.intro r6 (by simp[KU]) ?_
    simp(disch:=try exact dI) only[KU,push_cast,seval]
    refine ab.lentK h1 [0] rfl qsZ qsZ ?_
    simp(disch:=try exact dI) only[h0I,push_cast,seval]
    refine ab.pure hn rfl ?_
    simp(disch:=try exact dI) only[push_cast,seval]
    exact ap [] qsZ
  | false=>
    rw[hb] at hn
    rw[if_pos ⟨h0,rfl⟩]
    have hf:=cW (T:=T) (p:=p) L t.pos 12
    simp only[rdB,rdC] at hf
    refine aQ.intro r6 (by simp[KU]) ?_
    simp(disch:=try exact dI) only[KU,push_cast,seval]
    refine ab.lentK h1 [0] rfl qsZ qsZ ?_
    simp(disch:=try exact dI) only[h0I,push_cast,seval]
    refine ab.pure hn rfl ?_
    simp(disch:=try exact dI) only[push_cast,seval]
    refine ab.lentK hf [0] rfl qsZ qsZ ?_
    simp(disch:=try exact dI) only[push_cast,seval]
    exact ap [] qsZ
 ·rw[if_neg (fun q=>h0 q.1)]
  refine aQ.intro r6 (by simp[KU]) ?_
  simp(disch:=try exact dI) only[KU,push_cast,seval]
  refine ab.lentK h1 [0] rfl qsZ qsZ ?_
  simp(disch:=try exact dI) only[h0,push_cast,seval]
  exact ap [] qsZ
theorem oT (R:Rd)(hR:OkR R)(g:Nat)(ps:List UInt8→Int×Int)(hg:∀ s,aq Tryz.prog aF g [.str s] (.tup [.int .i64 (ps s).1,.int .i64 (ps s).2])):aQ Tryz.prog (dM T p) 1 127 [.ptr 0 0,.pv (.clo g [] [])] [rdB R] (.pv (.int .i64 (ba R ps).1)) [rdB (ba R ps).2]:=by
 have h1:=xY (T:=T) (p:=p) R 3 hR
 unfold ba
 generalize eZ R 3=Q at *
 obtain⟨t,L⟩:=Q
 simp only[rdB,rdC,tkP] at h1 ⊢
 by_cases h0:L.e=0
 ·have h0I:(L.e=0)=True:=eq_true h0
  rw[if_pos h0]
  have hn:=toE (T:=T) (p:=p) (hg t.bytes)
  generalize ps t.bytes=q at *
  obtain⟨n,e⟩:=q
  simp only at hn ⊢
  by_cases he:e=0
  ·subst he
   rw[if_pos rfl]
   refine aQ.intro r9 (by simp[Lg]) ?_
   simp(disch:=try exact dI) only[Lg,push_cast,seval]
   refine ab.lentK h1 [0] rfl qsZ qsZ ?_
   simp(disch:=try exact dI) only[h0I,push_cast,seval]
   refine ab.pure hn rfl ?_
   simp(disch:=try exact dI) only[push_cast,seval]
   exact ap [] qsZ
  ·rw[if_neg he]
   have hf:=cW (T:=T) (p:=p) L t.pos e
   simp only[rdB,rdC] at hf
   refine aQ.intro r9 (by simp[Lg]) ?_
   simp(disch:=try exact dI) only[Lg,push_cast,seval]
   refine ab.lentK h1 [0] rfl qsZ qsZ ?_
   simp(disch:=try exact dI) only[h0I,push_cast,seval]
   refine ab.pure hn rfl ?_
   simp(disch:=try exact dI) only[he,push_cast,seval]
   refine ab.lentK hf [0] rfl qsZ qsZ ?_
   simp(disch:=try exact dI) only[push_cast,seval]
   exact ap [] qsZ
 ·rw[if_neg h0]
  refine aQ.intro r9 (by simp[Lg]) ?_
  simp(disch:=try exact dI) only[Lg,push_cast,seval]
  refine ab.lentK h1 [0] rfl qsZ qsZ ?_
  simp(disch:=try exact dI) only[h0,push_cast,seval]
  exact ap [] qsZ
theorem FO (R:Rd):aQ Tryz.prog (dM T p) 1 47 [.ptr 0 0] [rdB R] (.pv (.tup [])) [rdB (gi R)]:=by
 unfold gi
 by_cases h0:R.e=0
 ·have h0I:(R.e=0)=True:=eq_true h0
  by_cases hk:R.now.kind=0
  ·have hkI:(R.now.kind=0)=True:=eq_true hk
   rw[if_neg (fun q=>q.2 hk)]
   refine aQ.intro CF (by simp[F47]) ?_
   simp(disch:=try exact dI) only[F47,rdB,rdC,h0I,hkI,push_cast,seval]
   exact ap [] (by simp(disch:=try exact dI) only[rdB,rdC,push_cast,seval])
  ·rw[if_pos ⟨h0,hk⟩]
   have hf:=cW (T:=T) (p:=p) R R.now.pos 13
   simp only[rdB,rdC] at hf
   refine aQ.intro CF (by simp[F47]) ?_
   simp(disch:=try exact dI) only[F47,rdB,rdC,h0I,hk,push_cast,seval]
   refine ab.lentK hf [0] rfl qsZ qsZ ?_
   simp(disch:=try exact dI) only[push_cast,seval]
   exact ap [] (by simp(disch:=try exact dI) only[rdB,rdC,push_cast,seval])
 ·rw[if_neg (fun q=>h0 q.1)]
  refine aQ.intro CF (by simp[F47]) ?_
  simp(disch:=try exact dI) only[F47,rdB,rdC,h0,push_cast,seval]
  exact ap [] (by simp(disch:=try exact dI) only[rdB,rdC,push_cast,seval])
def rd0 (s:List UInt8):Rd:=⟨s,0,{},0,0⟩
theorem io {s:List UInt8}(h:65536<s.length):ce s=⟨s,0,{},5,0⟩:=by
 unfold ce
 simp only[if_pos h]
 rfl
theorem il {s:List UInt8}(h:¬ 65536<s.length):ce s=bm (rd0 s):=by
 unfold ce
 simp only[if_neg h]
 rfl
theorem s7 {s:List UInt8}(h:s.length≤65536):OkR (rd0 s):=fun _=>⟨h,Nat.le_refl _,Nat.zero_le _,fun h=>absurd rfl h⟩
theorem jB (s:List UInt8):OkR (ce s):=by
 by_cases h:65536<s.length
 ·rw[io h];intro h;exact absurd (show (5:Int)=0 from h) (by decide)
 ·rw[il h];exact (Cq (s7 (by omega))).1
theorem H3 (s:List UInt8):aQ Tryz.prog (dM T p) 0 45 [.pv (.str s)] [] (.ptr 0 0) [rdB (ce s)]:=by
 by_cases h:65536<s.length
 ·have hI:(65536:Int)<(s.length:Int):=by omega
  rw[io h]
  have hf:=cW (T:=T) (p:=p) (rd0 s) 0 5
  have ha:=en (T:=T) (p:=p) ⟨s,0,{},5,0⟩ (fun h=>absurd (show (5:Int)=0 from h) (by decide))
  rw[rW (by simp)] at ha
  rw[show aZ (rd0 s) 0 5=⟨s,0,{},5,0⟩ from rfl] at hf
  simp only[rdB,rdC,rd0,tkP] at hf ha ⊢
  refine aQ.intro HC (by simp[F45]) ?_
  simp(disch:=try exact dI) only[F45,hI,push_cast,seval]
  refine ab.lentK hf [0] rfl qsZ qsZ ?_
  simp(disch:=try exact dI) only[push_cast,seval]
  refine ab.lentK ha [0] rfl qsZ qsZ ?_
  simp(disch:=try exact dI) only[push_cast,seval]
  exact ap [] qsZ
 ·have hI:¬ (65536:Int)<(s.length:Int):=by omega
  rw[il h]
  have ha:=en (T:=T) (p:=p) (rd0 s) (s7 (by omega))
  generalize bm (rd0 s)=L at *
  simp only[rdB,rdC,rd0,tkP] at ha ⊢
  refine aQ.intro HC (by simp[F45]) ?_
  simp(disch:=try exact dI) only[F45,hI,push_cast,seval]
  refine ab.lentK ha [0] rfl qsZ qsZ ?_
  simp(disch:=try exact dI) only[push_cast,seval]
  exact ap [] qsZ
end
end Go.Proofs.YtamoeblcphjbaaaGreatDoor
-- many steps
namespace Go.Proofs.YtamoeblcphjbaaaGreatDoor
open Go Go.Ab
attribute [local irreducible] vc
set_option maxHeartbeats 4000000 in
theorem BU:∀ (n:Nat) (v:Val),SizeOf.sizeOf v<n→v.ok→aq Tryz.prog aF 212 [v.pv] v.pv:=by
 intro n
 induction n with
 | zero=>intro v h;omega
 | succ n ih=>
 intro v hn hv
 obtain⟨k,i,s,t,l,f⟩:=v
 rw[Val.ok_mk] at hv
 obtain⟨h1,h2,h3,h4,h5,h7,h6,h8⟩:=hv
 simp only[Val.mk.sizeOf_spec] at hn
 have hl:∀ x∈l,aq Tryz.prog aF 212 [x.pv] x.pv:=fun x hx=>ih x (by have:=List.sizeOf_lt_of_mem hx;omega) (h7 x hx)
 have hf:∀ a v,Fld.mk a v∈f→aq Tryz.prog aF 212 [v.pv] v.pv:=fun a v hx=>ih v (by have:=List.sizeOf_lt_of_mem hx;simp only[Fld.mk.sizeOf_spec] at this;omega) (by have:=h8 _ hx;rw[Fld.ok_mk] at this;exact this.2)
 refine aq.intro KB (by simp[QZ]) ?_
 simp(disch:=try exact dI) only[QZ,Val.pv_mk,push_cast,seval]
 refine be ([(3,5,25,6)]) (fun m:Nat=>[(14,.pv (.int .i64 (m:Int)))]) (fun m=>[(1,.cells 25 true [.pv (.int .i64 k),.pv (.int .i64 i),.pv (.int .i64 s),.pv (.str t),.olist 2 6 ((l.take m).map Val.pv),.pv .nils])]) (fun m=>m≤l.length) (fun m=>l.length - m) (0) ?_;intro e0 σ0 n0 h0;simp(disch:=try exact dI) only[push_cast,seval] at h0;obtain⟨rfl,rfl,rfl⟩:=h0;refine⟨?_,?_,?_⟩
 ·simp(disch:=try exact dI) only[push_cast,seval]
 ·omega
 ·intro m hm
  by_cases hlt:m<l.length
  ·have hltI:(m:Int)<l.length:=by omega
   obtain⟨x,hx⟩:∃ x,l[m]? = some x:=⟨_,List.getElem?_eq_getElem hlt⟩
   have hts:=bh hx
   have hlt2:(l.take m).length=m:=by rw[List.length_take];omega
   have hcall:=hl x (List.mem_of_getElem? hx)
   obtain⟨w1,w2,w3,w4,w5,w6⟩:=x
   rw[Val.pv_mk] at hcall
   simp(disch:=try exact dI) only[hx,Val.pv_mk,push_cast,seval]
   refine ae hcall rfl ?_
   simp(disch:=try exact dI) only[hlt2,push_cast,seval]
   exact⟨m+1,bT (by simp(disch:=try exact dI) only[hts,List.map_append,Val.pv_mk,push_cast,seval]),by omega,by omega⟩
  ·have hltI:¬ (m:Int)<l.length:=by omega
   have hle:l.take m=l:=List.take_of_length_le (by omega)
   simp(disch:=try exact dI) only[hle,push_cast,seval]
   refine be ([(3,6,39,7)]) (fun m:Nat=>[(29,.pv (.int .i64 (m:Int)))]) (fun m=>[(1,.cells 25 true [.pv (.int .i64 k),.pv (.int .i64 i),.pv (.int .i64 s),.pv (.str t),.olist 2 6 (l.map Val.pv),.olist 3 7 ((f.take m).map Fld.pv)])]) (fun m=>m≤f.length) (fun m=>f.length - m) (0) ?_;intro e0 σ0 n0 h0;simp(disch:=try exact dI) only[push_cast,seval] at h0;obtain⟨rfl,rfl,rfl⟩:=h0;refine⟨?_,?_,?_⟩
   ·simp(disch:=try exact dI) only[push_cast,seval]
   ·omega
   ·intro m hm
    by_cases hlt:m<f.length
    ·have hltI:(m:Int)<f.length:=by omega
     obtain⟨⟨a,v⟩,hx⟩:∃ x,f[m]? = some x:=⟨_,List.getElem?_eq_getElem hlt⟩
     have hts:=bh hx
     have hlt2:(f.take m).length=m:=by rw[List.length_take];omega
     have hcall:=hf a v (List.mem_of_getElem? hx)
     obtain⟨w1,w2,w3,w4,w5,w6⟩:=v
     rw[Val.pv_mk] at hcall
     simp(disch:=try exact dI) only[hx,Fld.pv_mk,Val.pv_mk,push_cast,seval]
     refine ae hcall rfl ?_
     simp(disch:=try exact dI) only[hlt2,push_cast,seval]
     exact⟨m+1,bT (by simp(disch:=try exact dI) only[hts,List.map_append,Fld.pv_mk,Val.pv_mk,push_cast,seval]),by omega,by omega⟩
    ·have hltI:¬ (m:Int)<f.length:=by omega
     have hle:f.take m=f:=List.take_of_length_le (by omega)
     simp(disch:=try exact dI) only[hle,push_cast,seval]
theorem Qx (n sc:Int):aq Tryz.prog aF 94 [.int .i64 n,.int .i64 sc] (Val.mk 3 n sc [] [] []).pv:=by
 refine aq.intro N1 (by simp[F94]) ?_
 simp(disch:=try exact dI) only[F94,Val.pv_mk,push_cast,seval]
theorem Qb (n:Int):aq Tryz.prog aF 95 [.int .i64 n] (Val.mk 2 n 0 [] [] []).pv:=by
 refine aq.intro N0 (by simp[F95]) ?_
 simp(disch:=try exact dI) only[F95,Val.pv_mk,push_cast,seval]
theorem LR (t:List UInt8):aq Tryz.prog aF 96 [.str t] (Val.mk 4 0 0 t [] []).pv:=by
 refine aq.intro NZ (by simp[F96]) ?_
 simp(disch:=try exact dI) only[F96,Val.pv_mk,push_cast,seval]
theorem QG (t:List UInt8):aq Tryz.prog aF 97 [.str t] (Val.mk 5 0 0 t [] []).pv:=by
 refine aq.intro NY (by simp[F97]) ?_
 simp(disch:=try exact dI) only[F97,Val.pv_mk,push_cast,seval]
theorem Cf (b:Bool):aq Tryz.prog aF 170 [.bool b] (Val.mk 1 (if b=true then 1 else 0) 0 [] [] []).pv:=by
 refine aq.intro KS (by simp[Pr]) ?_
 cases b with
 | true=>
   rw[if_pos rfl]
   simp(disch:=try exact dI) only[Pr,Val.pv_mk,push_cast,seval]
 | false=>
   rw[if_neg (by decide)]
   simp(disch:=try exact dI) only[Pr,Val.pv_mk,push_cast,seval]
theorem J4 (n:Int):aq Tryz.prog aF 171 [.int .i64 n] (Val.mk 6 n 0 [] [] []).pv:=by
 refine aq.intro KR (by simp[Q9]) ?_
 simp(disch:=try exact dI) only[Q9,Val.pv_mk,push_cast,seval]
theorem HY (n:Int):aq Tryz.prog aF 172 [.int .i64 n] (Val.mk 7 n 0 [] [] []).pv:=by
 refine aq.intro KQ (by simp[Q8]) ?_
 simp(disch:=try exact dI) only[Q8,Val.pv_mk,push_cast,seval]
theorem uB (t:List UInt8)(v:Val)(ht:t.length≤140737488351232)(hv:v.ok):aq Tryz.prog aF 169 [.str t,v.pv] (Val.mk 10 0 0 t [v] []).pv:=by
 have hc:=BU _ (Val.mk 10 0 0 t [v] []) (Nat.lt_succ_self _) (by
  rw[Val.ok_mk]
  refine⟨by unfold I64;omega,by unfold I64;omega,by unfold I64;omega,ht,by simp,fun x hx=>by simp at hx;rw[hx];exact hv,by simp,fun x hx=>by simp at hx⟩)
 obtain⟨k,n,s,tt,l,fs⟩:=v
 simp only[Val.pv_mk,List.map_cons,List.map_nil] at hc ⊢
 refine aq.intro KT (by simp[Ra]) ?_
 simp(disch:=try exact dI) only[Ra,push_cast,seval]
 refine ab.pureN hc rfl (by repeat' constructor) ?_
 simp(disch:=try exact dI) only[push_cast,seval]
end Go.Proofs.YtamoeblcphjbaaaGreatDoor

/- A part. -/
import Derived.Test.YtngchmkoadaecaaGreatDoorClJD
set_option linter.unusedVariables false
set_option linter.unusedSimpArgs false
set_option maxHeartbeats 16000000
set_option maxRecDepth 100000
open List renaming sizeOf_lt_of_mem->Vi,getElem?_eq_getElem->Uq,length_take->UJ,mem_of_getElem?->Us,map_append->UH,take_of_length_le->Ux
open Nat renaming lt_succ_self->Ve
namespace Go.Proofs.YtngchmkoadaecaaGreatDoor
open Go Go.Ab
theorem j5:∀ (n:Nat) (v:Val),SizeOf.sizeOf v<n->v.ok->ap Tryz.prog aB 134 [v.pv] v.pv:=by
 intro n
 induction n with
 | zero=>intro v h;omega
 | succ n ih=>
 intro v hn hv
 obtain⟨k,i,s,t,l,f⟩:=v
 rw[Un] at hv
 obtain⟨h1,h2,h3,h4,h5,h7,h6,h8⟩:=hv
 simp only[Val.mk.sizeOf_spec] at hn
 have hl:∀ x∈l,ap Tryz.prog aB 134 [x.pv] x.pv:=fun x hx=>ih x (by have:=Vi hx;omega) (h7 x hx)
 have hf:∀ a v,Fld.mk a v∈f->ap Tryz.prog aB 134 [v.pv] v.pv:=fun a v hx=>ih v (by have:=Vi hx;simp only[Fld.mk.sizeOf_spec] at this;omega) (by have:=h8 _ hx;rw[TX] at this;exact this.2)
 refine ap.intro S0.2 (by simp[S0]) ?_
 simp(maxSteps:=9^7) (disch:=try exact dI) only[S0,Uo,push_cast,seval]
 refine aw ([(3,5,108,6)]) (fun m:Nat=>[(14,.pv (.int .i64 (m:Int)))]) (fun m=>[(1,.cells 108 true [.pv (.int .i64 k),.pv (.int .i64 i),.pv (.int .i64 s),.pv (.str t),.olist 2 6 ((l.take m).map Val.pv),.pv .nils])]) (fun m=>m<=l.length) (fun m=>l.length - m) (0) ?_;intro e0 σ0 n0 h0;simp(maxSteps:=9^7) (disch:=try exact dI) only[push_cast,seval] at h0;obtain⟨rfl,rfl,rfl⟩:=h0;refine⟨?_,?_,?_⟩
 ·simp(maxSteps:=9^7) (disch:=try exact dI) only[push_cast,seval]
 ·omega
 ·intro m hm
  by_cases hlt:m<l.length
  ·have hltI:(m:Int)<l.length:=by omega
   obtain⟨x,hx⟩:∃ x,l[m]? = some x:=⟨_,Uq hlt⟩
   have hts:=aC hx
   have hlt2:(l.take m).length=m:=by rw[UJ];omega
   have hcall:=hl x (Us hx)
   obtain⟨w1,w2,w3,w4,w5,w6⟩:=x
   rw[Uo] at hcall
   simp(maxSteps:=9^7) (disch:=try exact dI) only[hx,Uo,push_cast,seval]
   refine au hcall rfl ?_
   simp(maxSteps:=9^7) (disch:=try exact dI) only[hlt2,push_cast,seval]
   exact⟨m+1,aN (by simp(maxSteps:=9^7) (disch:=try exact dI) only[hts,UH,Uo,push_cast,seval]),by omega,by omega⟩
  ·have hltI:¬ (m:Int)<l.length:=by omega
   have hle:l.take m=l:=Ux (by omega)
   simp(maxSteps:=9^7) (disch:=try exact dI) only[hle,push_cast,seval]
   refine aw ([(3,6,138,7)]) (fun m:Nat=>[(29,.pv (.int .i64 (m:Int)))]) (fun m=>[(1,.cells 108 true [.pv (.int .i64 k),.pv (.int .i64 i),.pv (.int .i64 s),.pv (.str t),.olist 2 6 (l.map Val.pv),.olist 3 7 ((f.take m).map Fld.pv)])]) (fun m=>m<=f.length) (fun m=>f.length - m) (0) ?_;intro e0 σ0 n0 h0;simp(maxSteps:=9^7) (disch:=try exact dI) only[push_cast,seval] at h0;obtain⟨rfl,rfl,rfl⟩:=h0;refine⟨?_,?_,?_⟩
   ·simp(maxSteps:=9^7) (disch:=try exact dI) only[push_cast,seval]
   ·omega
   ·intro m hm
    by_cases hlt:m<f.length
    ·have hltI:(m:Int)<f.length:=by omega
     obtain⟨⟨a,v⟩,hx⟩:∃ x,f[m]? = some x:=⟨_,Uq hlt⟩
     have hts:=aC hx
     have hlt2:(f.take m).length=m:=by rw[UJ];omega
     have hcall:=hf a v (Us hx)
     obtain⟨w1,w2,w3,w4,w5,w6⟩:=v
     rw[Uo] at hcall
     simp(maxSteps:=9^7) (disch:=try exact dI) only[hx,TY,Uo,push_cast,seval]
     refine au hcall rfl ?_
     simp(maxSteps:=9^7) (disch:=try exact dI) only[hlt2,push_cast,seval]
     exact⟨m+1,aN (by simp(maxSteps:=9^7) (disch:=try exact dI) only[hts,UH,TY,Uo,push_cast,seval]),by omega,by omega⟩
    ·have hltI:¬ (m:Int)<f.length:=by omega
     have hle:f.take m=f:=Ux (by omega)
     simp(maxSteps:=9^7) (disch:=try exact dI) only[hle,push_cast,seval]
theorem j6:∀ (n:Nat) (e:Exp),SizeOf.sizeOf e<n->e.ok->ap Tryz.prog aB 115 [e.pv] e.pv:=by
 intro n
 induction n with
 | zero=>intro v h;omega
 | succ n ih=>
 intro e hn hv
 obtain⟨o,i,t,l,f⟩:=e
 rw[TV] at hv
 obtain⟨h1,h2,h3,h4,h5,h6,h7⟩:=hv
 simp only[Exp.mk.sizeOf_spec] at hn
 have hl:∀ x∈l,ap Tryz.prog aB 134 [x.pv] x.pv:=fun x hx=>j5 _ x (Ve _) (h5 x hx)
 have hf:∀ x∈f,ap Tryz.prog aB 115 [x.pv] x.pv:=fun x hx=>ih x (by have:=Vi hx;omega) (h7 x hx)
 refine ap.intro QP.2 (by simp[QP]) ?_
 simp(maxSteps:=9^7) (disch:=try exact dI) only[QP,TW,push_cast,seval]
 refine aw ([(3,4,108,6)]) (fun m:Nat=>[(18,.pv (.int .i64 (m:Int)))]) (fun m=>[(1,.cells 159 true [.pv (.int .i64 o),.pv (.int .i64 i),.pv (.str t),.olist 2 6 ((l.take m).map Val.pv),.pv .nils])]) (fun m=>m<=l.length) (fun m=>l.length - m) (0) ?_;intro e0 σ0 n0 h0;simp(maxSteps:=9^7) (disch:=try exact dI) only[push_cast,seval] at h0;obtain⟨rfl,rfl,rfl⟩:=h0;refine⟨?_,?_,?_⟩
 ·simp(maxSteps:=9^7) (disch:=try exact dI) only[push_cast,seval]
 ·omega
 ·intro m hm
  by_cases hlt:m<l.length
  ·have hltI:(m:Int)<l.length:=by omega
   obtain⟨x,hx⟩:∃ x,l[m]? = some x:=⟨_,Uq hlt⟩
   have hts:=aC hx
   have hlt2:(l.take m).length=m:=by rw[UJ];omega
   have hcall:=hl x (Us hx)
   obtain⟨w1,w2,w3,w4,w5,w6⟩:=x
   rw[Uo] at hcall
   simp(maxSteps:=9^7) (disch:=try exact dI) only[hx,Uo,push_cast,seval]
   refine au hcall rfl ?_
   simp(maxSteps:=9^7) (disch:=try exact dI) only[hlt2,push_cast,seval]
   exact⟨m+1,aN (by simp(maxSteps:=9^7) (disch:=try exact dI) only[hts,UH,Uo,push_cast,seval]),by omega,by omega⟩
  ·have hltI:¬ (m:Int)<l.length:=by omega
   have hle:l.take m=l:=Ux (by omega)
   simp(maxSteps:=9^7) (disch:=try exact dI) only[hle,push_cast,seval]
   refine aw ([(3,5,159,5)]) (fun m:Nat=>[(33,.pv (.int .i64 (m:Int)))]) (fun m=>[(1,.cells 159 true [.pv (.int .i64 o),.pv (.int .i64 i),.pv (.str t),.olist 2 6 (l.map Val.pv),.olist 3 5 ((f.take m).map Exp.pv)])]) (fun m=>m<=f.length) (fun m=>f.length - m) (0) ?_;intro e0 σ0 n0 h0;simp(maxSteps:=9^7) (disch:=try exact dI) only[push_cast,seval] at h0;obtain⟨rfl,rfl,rfl⟩:=h0;refine⟨?_,?_,?_⟩
   ·simp(maxSteps:=9^7) (disch:=try exact dI) only[push_cast,seval]
   ·omega
   ·intro m hm
    by_cases hlt:m<f.length
    ·have hltI:(m:Int)<f.length:=by omega
     obtain⟨x,hx⟩:∃ x,f[m]? = some x:=⟨_,Uq hlt⟩
     have hts:=aC hx
     have hlt2:(f.take m).length=m:=by rw[UJ];omega
     have hcall:=hf x (Us hx)
     obtain⟨w1,w2,w3,w4,w5⟩:=x
     rw[TW] at hcall
     simp(maxSteps:=9^7) (disch:=try exact dI) only[hx,TW,push_cast,seval]
     refine au hcall rfl ?_
     simp(maxSteps:=9^7) (disch:=try exact dI) only[hlt2,push_cast,seval]
     exact⟨m+1,aN (by simp(maxSteps:=9^7) (disch:=try exact dI) only[hts,UH,TW,push_cast,seval]),by omega,by omega⟩
    ·have hltI:¬ (m:Int)<f.length:=by omega
     have hle:f.take m=f:=Ux (by omega)
     simp(maxSteps:=9^7) (disch:=try exact dI) only[hle,push_cast,seval]
theorem oT (l:List Rul)(hl:l.length*96<=140737488351232)(ho:∀ x∈l,x.ok):ap Tryz.prog aB 116 [.agg [.list (l.map Rul.pv)]] (.agg [.list (l.map Rul.pv)]):=by
 refine ap.intro QO.2 (by simp[QO]) ?_
 simp(maxSteps:=9^7) (disch:=try exact dI) only[QO,push_cast,seval]
 refine aw ([]) (fun m:Nat=>[(3,.olist 1 6 ((l.take m).map Rul.pv)),(13,.pv (.int .i64 (m:Int)))]) (fun m=>[]) (fun m=>m<=l.length) (fun m=>l.length - m) (0) ?_;intro e0 σ0 n0 h0;simp(maxSteps:=9^7) (disch:=try exact dI) only[push_cast,seval] at h0;obtain⟨rfl,rfl,rfl⟩:=h0;refine⟨?_,?_,?_⟩
 ·simp(maxSteps:=9^7) (disch:=try exact dI) only[push_cast,seval]
 ·omega
 ·intro m hm
  by_cases hlt:m<l.length
  ·have hltI:(m:Int)<l.length:=by omega
   obtain⟨x,hx⟩:∃ x,l[m]? = some x:=⟨_,Uq hlt⟩
   have hts:=aC hx
   have hlt2:(l.take m).length=m:=by rw[UJ];omega
   have hxo:=ho x (Us hx)
   obtain⟨a,e⟩:=x
   rw[T7] at hxo
   have hcall:=j6 _ e (Ve _) hxo.2
   obtain⟨w1,w2,w3,w4,w5⟩:=e
   rw[TW] at hcall
   simp(maxSteps:=9^7) (disch:=try exact dI) only[hx,T8,TW,push_cast,seval]
   refine au hcall rfl ?_
   simp(maxSteps:=9^7) (disch:=try exact dI) only[hlt2,push_cast,seval]
   exact⟨m+1,aN (by simp(maxSteps:=9^7) (disch:=try exact dI) only[hts,UH,T8,TW,push_cast,seval]),by omega,by omega⟩
  ·have hltI:¬ (m:Int)<l.length:=by omega
   have hle:l.take m=l:=Ux (by omega)
   simp(maxSteps:=9^7) (disch:=try exact dI) only[hle,push_cast,seval]
theorem oK (l:List Exp)(g:Nat)(hg:∀ x∈l,ap Tryz.prog aB g [x.pv] x.pv)(hl:l.length*80<=140737488351232):ap Tryz.prog aB 114 [.list (l.map Exp.pv),.clo g [] []] (.list (l.map Exp.pv)):=by
 refine ap.intro QQ.2 (by simp[QQ]) ?_
 simp(maxSteps:=9^7) (disch:=try exact dI) only[QQ,push_cast,seval]
 refine aw ([(5,0,159,5)]) (fun m:Nat=>[(5,.olist 0 5 ((l.take m).map Exp.pv)),(10,.pv (.int .i64 (m:Int)))]) (fun m=>[]) (fun m=>m<=l.length) (fun m=>l.length - m) (0) ?_;intro e0 σ0 n0 h0;simp(maxSteps:=9^7) (disch:=try exact dI) only[push_cast,seval] at h0;obtain⟨rfl,rfl,rfl⟩:=h0;refine⟨?_,?_,?_⟩
 ·simp(maxSteps:=9^7) (disch:=try exact dI) only[push_cast,seval]
 ·omega
 ·intro m hm
  by_cases hlt:m<l.length
  ·have hltI:(m:Int)<l.length:=by omega
   obtain⟨x,hx⟩:∃ x,l[m]? = some x:=⟨_,Uq hlt⟩
   have hts:=aC hx
   have hlt2:(l.take m).length=m:=by rw[UJ];omega
   have hcall:=hg x (Us hx)
   obtain⟨w0,w1,w2,w3,w4⟩:=x
   rw[TW] at hcall
   simp(maxSteps:=9^7) (disch:=try exact dI) only[hx,TW,push_cast,seval]
   refine ab.pure hcall rfl ?_
   simp(maxSteps:=9^7) (disch:=try exact dI) only[hlt2,push_cast,seval]
   exact⟨m+1,aN (by simp(maxSteps:=9^7) (disch:=try exact dI) only[hts,UH,TW,push_cast,seval]),by omega,by omega⟩
  ·have hltI:¬ (m:Int)<l.length:=by omega
   have hle:l.take m=l:=Ux (by omega)
   simp(maxSteps:=9^7) (disch:=try exact dI) only[hle,push_cast,seval]
theorem CS (l:List Cal)(g:Nat)(hg:∀ x∈l,ap Tryz.prog aB g [x.pv] x.pv)(hl:l.length*40<=140737488351232):ap Tryz.prog aB 117 [.list (l.map Cal.pv),.clo g [] []] (.list (l.map Cal.pv)):=by
 refine ap.intro QN.2 (by simp[QN]) ?_
 simp(maxSteps:=9^7) (disch:=try exact dI) only[QN,push_cast,seval]
 refine aw ([(5,0,61,2)]) (fun m:Nat=>[(5,.olist 0 2 ((l.take m).map Cal.pv)),(10,.pv (.int .i64 (m:Int)))]) (fun m=>[]) (fun m=>m<=l.length) (fun m=>l.length - m) (0) ?_;intro e0 σ0 n0 h0;simp(maxSteps:=9^7) (disch:=try exact dI) only[push_cast,seval] at h0;obtain⟨rfl,rfl,rfl⟩:=h0;refine⟨?_,?_,?_⟩
 ·simp(maxSteps:=9^7) (disch:=try exact dI) only[push_cast,seval]
 ·omega
 ·intro m hm
  by_cases hlt:m<l.length
  ·have hltI:(m:Int)<l.length:=by omega
   obtain⟨x,hx⟩:∃ x,l[m]? = some x:=⟨_,Uq hlt⟩
   have hts:=aC hx
   have hlt2:(l.take m).length=m:=by rw[UJ];omega
   have hcall:=hg x (Us hx)
   obtain⟨w0,w1⟩:=x
   rw[TS] at hcall
   simp(maxSteps:=9^7) (disch:=try exact dI) only[hx,TS,push_cast,seval]
   refine ab.pure hcall rfl ?_
   simp(maxSteps:=9^7) (disch:=try exact dI) only[hlt2,push_cast,seval]
   exact⟨m+1,aN (by simp(maxSteps:=9^7) (disch:=try exact dI) only[hts,UH,TS,push_cast,seval]),by omega,by omega⟩
  ·have hltI:¬ (m:Int)<l.length:=by omega
   have hle:l.take m=l:=Ux (by omega)
   simp(maxSteps:=9^7) (disch:=try exact dI) only[hle,push_cast,seval]
theorem CT (l:List Stp)(g:Nat)(hg:∀ x∈l,ap Tryz.prog aB g [x.pv] x.pv)(hl:l.length*176<=140737488351232):ap Tryz.prog aB 121 [.list (l.map Stp.pv),.clo g [] []] (.list (l.map Stp.pv)):=by
 refine ap.intro QJ.2 (by simp[QJ]) ?_
 simp(maxSteps:=9^7) (disch:=try exact dI) only[QJ,push_cast,seval]
 refine aw ([(5,0,51,11)]) (fun m:Nat=>[(5,.olist 0 11 ((l.take m).map Stp.pv)),(10,.pv (.int .i64 (m:Int)))]) (fun m=>[]) (fun m=>m<=l.length) (fun m=>l.length - m) (0) ?_;intro e0 σ0 n0 h0;simp(maxSteps:=9^7) (disch:=try exact dI) only[push_cast,seval] at h0;obtain⟨rfl,rfl,rfl⟩:=h0;refine⟨?_,?_,?_⟩
 ·simp(maxSteps:=9^7) (disch:=try exact dI) only[push_cast,seval]
 ·omega
 ·intro m hm
  by_cases hlt:m<l.length
  ·have hltI:(m:Int)<l.length:=by omega
   obtain⟨x,hx⟩:∃ x,l[m]? = some x:=⟨_,Uq hlt⟩
   have hts:=aC hx
   have hlt2:(l.take m).length=m:=by rw[UJ];omega
   have hcall:=hg x (Us hx)
   obtain⟨w0,w1,w2,w3,w4,w5,w6,w7,w8,w9,w10⟩:=x
   rw[Ud] at hcall
   simp(maxSteps:=9^7) (disch:=try exact dI) only[hx,Ud,push_cast,seval]
   refine ab.pure hcall rfl ?_
   simp(maxSteps:=9^7) (disch:=try exact dI) only[hlt2,push_cast,seval]
   exact⟨m+1,aN (by simp(maxSteps:=9^7) (disch:=try exact dI) only[hts,UH,Ud,push_cast,seval]),by omega,by omega⟩
  ·have hltI:¬ (m:Int)<l.length:=by omega
   have hle:l.take m=l:=Ux (by omega)
   simp(maxSteps:=9^7) (disch:=try exact dI) only[hle,push_cast,seval]
theorem CR (l:List Bra)(g:Nat)(hg:∀ x∈l,ap Tryz.prog aB g [x.pv] x.pv)(hl:l.length*48<=140737488351232):ap Tryz.prog aB 119 [.list (l.map Bra.pv),.clo g [] []] (.list (l.map Bra.pv)):=by
 refine ap.intro QL.2 (by simp[QL]) ?_
 simp(maxSteps:=9^7) (disch:=try exact dI) only[QL,push_cast,seval]
 refine aw ([(5,0,111,2)]) (fun m:Nat=>[(5,.olist 0 2 ((l.take m).map Bra.pv)),(10,.pv (.int .i64 (m:Int)))]) (fun m=>[]) (fun m=>m<=l.length) (fun m=>l.length - m) (0) ?_;intro e0 σ0 n0 h0;simp(maxSteps:=9^7) (disch:=try exact dI) only[push_cast,seval] at h0;obtain⟨rfl,rfl,rfl⟩:=h0;refine⟨?_,?_,?_⟩
 ·simp(maxSteps:=9^7) (disch:=try exact dI) only[push_cast,seval]
 ·omega
 ·intro m hm
  by_cases hlt:m<l.length
  ·have hltI:(m:Int)<l.length:=by omega
   obtain⟨x,hx⟩:∃ x,l[m]? = some x:=⟨_,Uq hlt⟩
   have hts:=aC hx
   have hlt2:(l.take m).length=m:=by rw[UJ];omega
   have hcall:=hg x (Us hx)
   obtain⟨w0,w1⟩:=x
   rw[TQ] at hcall
   simp(maxSteps:=9^7) (disch:=try exact dI) only[hx,TQ,push_cast,seval]
   refine ab.pure hcall rfl ?_
   simp(maxSteps:=9^7) (disch:=try exact dI) only[hlt2,push_cast,seval]
   exact⟨m+1,aN (by simp(maxSteps:=9^7) (disch:=try exact dI) only[hts,UH,TQ,push_cast,seval]),by omega,by omega⟩
  ·have hltI:¬ (m:Int)<l.length:=by omega
   have hle:l.take m=l:=Ux (by omega)
   simp(maxSteps:=9^7) (disch:=try exact dI) only[hle,push_cast,seval]
theorem rH (c:Cal)(hc:c.ok):ap Tryz.prog aB 118 [c.pv] c.pv:=by
 obtain⟨a,l⟩:=c
 rw[TR] at hc
 refine ap.intro QM.2 (by simp[QM]) ?_
 simp(maxSteps:=9^7) (disch:=try exact dI) only[QM,TS,push_cast,seval]
 refine ab.pure (oT l hc.2.1 hc.2.2) rfl ?_
 simp(maxSteps:=9^7) (disch:=try exact dI) only[push_cast,seval]
theorem C4:∀ (n:Nat) (s:Stp),SizeOf.sizeOf s<n->s.ok->ap Tryz.prog aB 98 [s.pv] s.pv:=by
 intro n
 induction n with
 | zero=>intro v h;omega
 | succ n ih=>
 intro s hn hs
 obtain⟨a,b,c,d,e,f,g,h,ru,j,k⟩:=s
 rw[Uc] at hs
 obtain⟨h1,h2,h3,h4,h5,h6,h7,h8,h9,h10,h11,h12,h13,h14,h15⟩:=hs
 simp only[Stp.mk.sizeOf_spec] at hn
 have hb:∀ x∈k,ap Tryz.prog aB 120 [x.pv] x.pv:=by
  intro x hx
  have hxo:=h15 x hx
  have hsz:=Vi hx
  obtain⟨wn,st⟩:=x
  rw[TP] at hxo
  obtain⟨k1,k2,k3,k4⟩:=hxo
  simp only[Bra.mk.sizeOf_spec] at hsz
  have hst:∀ x∈st,ap Tryz.prog aB 98 [x.pv] x.pv:=fun x hx=>ih x (by have:=Vi hx;omega) (k4 x hx)
  refine ap.intro QK.2 (by simp[QK]) ?_
  simp(maxSteps:=9^7) (disch:=try exact dI) only[QK,TQ,push_cast,seval]
  refine au (oK wn 115 (fun x hx=>j6 _ x (Ve _) (k2 x hx)) k1) rfl ?_
  simp(maxSteps:=9^7) (disch:=try exact dI) only[push_cast,seval]
  refine ab.pure (CT st 98 hst k3) rfl ?_
  simp(maxSteps:=9^7) (disch:=try exact dI) only[push_cast,seval]
 refine ap.intro Q98.2 (by simp[Q98]) ?_
 simp(maxSteps:=9^7) (disch:=try exact dI) only[Q98,Ud,push_cast,seval]
 refine ab.pure (oK h 115 (fun x hx=>j6 _ x (Ve _) (h9 x hx)) h8) rfl ?_
 simp(maxSteps:=9^7) (disch:=try exact dI) only[push_cast,seval]
 refine ab.pure (oT ru h10 h11) rfl ?_
 simp(maxSteps:=9^7) (disch:=try exact dI) only[push_cast,seval]
 refine ab.pure (CS j 118 (fun x hx=>rH x (h13 x hx)) h12) rfl ?_
 simp(maxSteps:=9^7) (disch:=try exact dI) only[push_cast,seval]
 refine ab.pure (CR k 120 hb h14) rfl ?_
 simp(maxSteps:=9^7) (disch:=try exact dI) only[push_cast,seval]

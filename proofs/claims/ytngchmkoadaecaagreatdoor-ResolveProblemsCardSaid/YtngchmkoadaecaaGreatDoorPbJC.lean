/- A part. -/
import Derived.Test.YtngchmkoadaecaaGreatDoorPbJD
set_option linter.unusedVariables false
set_option linter.unusedSimpArgs false
set_option maxHeartbeats 16000000
set_option maxRecDepth 100000
open List renaming sizeOf_lt_of_mem->XS,getElem?_eq_getElem->WT,length_take->Xf,mem_of_getElem?->WV,map_append->Xe,take_of_length_le->WY,length_cons->Xa
open Nat renaming lt_succ_self->XO,mul_le_mul_right->W8
namespace Go.Proofs.YtngchmkoadaecaaGreatDoor
open Go Go.Ab
theorem kK:∀ (n:Nat) (v:Val),SizeOf.sizeOf v<n->v.ok->ap Tryz.prog aC 134 [v.pv] v.pv:=by
 intro n
 induction n with
 | zero=>intro v h;omega
 | succ n ih=>
 intro v hn hv
 obtain⟨k,i,s,t,l,f⟩:=v
 rw[WP] at hv
 obtain⟨h1,h2,h3,h4,h5,h7,h6,h8⟩:=hv
 simp only[Val.mk.sizeOf_spec] at hn
 have hl:∀ x∈l,ap Tryz.prog aC 134 [x.pv] x.pv:=fun x hx=>ih x (by have:=XS hx;omega) (h7 x hx)
 have hf:∀ a v,Fld.mk a v∈f->ap Tryz.prog aC 134 [v.pv] v.pv:=fun a v hx=>ih v (by have:=XS hx;simp only[Fld.mk.sizeOf_spec] at this;omega) (by have:=h8 _ hx;rw[Wp] at this;exact this.2)
 refine ap.intro Vv.2 (by simp[Vv]) ?_
 simp(maxSteps:=9^7) (disch:=try exact dI) only[Vv,WQ,push_cast,seval]
 refine au ([(3,5,108,6)]) (fun m:Nat=>[(14,.pv (.int .i64 (m:Int)))]) (fun m=>[(1,.cells 108 true [.pv (.int .i64 k),.pv (.int .i64 i),.pv (.int .i64 s),.pv (.str t),.olist 2 6 ((l.take m).map Val.pv),.pv .nils])]) (fun m=>m<=l.length) (fun m=>l.length - m) (0) ?_;intro e0 σ0 n0 h0;simp(maxSteps:=9^7) (disch:=try exact dI) only[push_cast,seval] at h0;obtain⟨rfl,rfl,rfl⟩:=h0;refine⟨?_,?_,?_⟩
 ·simp(maxSteps:=9^7) (disch:=try exact dI) only[push_cast,seval]
 ·omega
 ·intro m hm
  by_cases hlt:m<l.length
  ·have hltI:(m:Int)<l.length:=by omega
   obtain⟨x,hx⟩:∃ x,l[m]? = some x:=⟨_,WT hlt⟩
   have hts:=aE hx
   have hlt2:(l.take m).length=m:=by rw[Xf];omega
   have hcall:=hl x (WV hx)
   obtain⟨w1,w2,w3,w4,w5,w6⟩:=x
   rw[WQ] at hcall
   simp(maxSteps:=9^7) (disch:=try exact dI) only[hx,WQ,push_cast,seval]
   refine ag hcall rfl ?_
   simp(maxSteps:=9^7) (disch:=try exact dI) only[hlt2,push_cast,seval]
   exact⟨m+1,aJ (by simp(maxSteps:=9^7) (disch:=try exact dI) only[hts,Xe,WQ,push_cast,seval]),by omega,by omega⟩
  ·have hltI:¬ (m:Int)<l.length:=by omega
   have hle:l.take m=l:=WY (by omega)
   simp(maxSteps:=9^7) (disch:=try exact dI) only[hle,push_cast,seval]
   refine au ([(3,6,138,7)]) (fun m:Nat=>[(29,.pv (.int .i64 (m:Int)))]) (fun m=>[(1,.cells 108 true [.pv (.int .i64 k),.pv (.int .i64 i),.pv (.int .i64 s),.pv (.str t),.olist 2 6 (l.map Val.pv),.olist 3 7 ((f.take m).map Fld.pv)])]) (fun m=>m<=f.length) (fun m=>f.length - m) (0) ?_;intro e0 σ0 n0 h0;simp(maxSteps:=9^7) (disch:=try exact dI) only[push_cast,seval] at h0;obtain⟨rfl,rfl,rfl⟩:=h0;refine⟨?_,?_,?_⟩
   ·simp(maxSteps:=9^7) (disch:=try exact dI) only[push_cast,seval]
   ·omega
   ·intro m hm
    by_cases hlt:m<f.length
    ·have hltI:(m:Int)<f.length:=by omega
     obtain⟨⟨a,v⟩,hx⟩:∃ x,f[m]? = some x:=⟨_,WT hlt⟩
     have hts:=aE hx
     have hlt2:(f.take m).length=m:=by rw[Xf];omega
     have hcall:=hf a v (WV hx)
     obtain⟨w1,w2,w3,w4,w5,w6⟩:=v
     rw[WQ] at hcall
     simp(maxSteps:=9^7) (disch:=try exact dI) only[hx,Wq,WQ,push_cast,seval]
     refine ag hcall rfl ?_
     simp(maxSteps:=9^7) (disch:=try exact dI) only[hlt2,push_cast,seval]
     exact⟨m+1,aJ (by simp(maxSteps:=9^7) (disch:=try exact dI) only[hts,Xe,Wq,WQ,push_cast,seval]),by omega,by omega⟩
    ·have hltI:¬ (m:Int)<f.length:=by omega
     have hle:f.take m=f:=WY (by omega)
     simp(maxSteps:=9^7) (disch:=try exact dI) only[hle,push_cast,seval]
theorem kL:∀ (n:Nat) (e:Exp),SizeOf.sizeOf e<n->e.ok->ap Tryz.prog aC 115 [e.pv] e.pv:=by
 intro n
 induction n with
 | zero=>intro v h;omega
 | succ n ih=>
 intro e hn hv
 obtain⟨o,i,t,l,f⟩:=e
 rw[Wn] at hv
 obtain⟨h1,h2,h3,h4,h5,h6,h7⟩:=hv
 simp only[Exp.mk.sizeOf_spec] at hn
 have hl:∀ x∈l,ap Tryz.prog aC 134 [x.pv] x.pv:=fun x hx=>kK _ x (XO _) (h5 x hx)
 have hf:∀ x∈f,ap Tryz.prog aC 115 [x.pv] x.pv:=fun x hx=>ih x (by have:=XS hx;omega) (h7 x hx)
 refine ap.intro S7.2 (by simp[S7]) ?_
 simp(maxSteps:=9^7) (disch:=try exact dI) only[S7,Wo,push_cast,seval]
 refine au ([(3,4,108,6)]) (fun m:Nat=>[(18,.pv (.int .i64 (m:Int)))]) (fun m=>[(1,.cells 159 true [.pv (.int .i64 o),.pv (.int .i64 i),.pv (.str t),.olist 2 6 ((l.take m).map Val.pv),.pv .nils])]) (fun m=>m<=l.length) (fun m=>l.length - m) (0) ?_;intro e0 σ0 n0 h0;simp(maxSteps:=9^7) (disch:=try exact dI) only[push_cast,seval] at h0;obtain⟨rfl,rfl,rfl⟩:=h0;refine⟨?_,?_,?_⟩
 ·simp(maxSteps:=9^7) (disch:=try exact dI) only[push_cast,seval]
 ·omega
 ·intro m hm
  by_cases hlt:m<l.length
  ·have hltI:(m:Int)<l.length:=by omega
   obtain⟨x,hx⟩:∃ x,l[m]? = some x:=⟨_,WT hlt⟩
   have hts:=aE hx
   have hlt2:(l.take m).length=m:=by rw[Xf];omega
   have hcall:=hl x (WV hx)
   obtain⟨w1,w2,w3,w4,w5,w6⟩:=x
   rw[WQ] at hcall
   simp(maxSteps:=9^7) (disch:=try exact dI) only[hx,WQ,push_cast,seval]
   refine ag hcall rfl ?_
   simp(maxSteps:=9^7) (disch:=try exact dI) only[hlt2,push_cast,seval]
   exact⟨m+1,aJ (by simp(maxSteps:=9^7) (disch:=try exact dI) only[hts,Xe,WQ,push_cast,seval]),by omega,by omega⟩
  ·have hltI:¬ (m:Int)<l.length:=by omega
   have hle:l.take m=l:=WY (by omega)
   simp(maxSteps:=9^7) (disch:=try exact dI) only[hle,push_cast,seval]
   refine au ([(3,5,159,5)]) (fun m:Nat=>[(33,.pv (.int .i64 (m:Int)))]) (fun m=>[(1,.cells 159 true [.pv (.int .i64 o),.pv (.int .i64 i),.pv (.str t),.olist 2 6 (l.map Val.pv),.olist 3 5 ((f.take m).map Exp.pv)])]) (fun m=>m<=f.length) (fun m=>f.length - m) (0) ?_;intro e0 σ0 n0 h0;simp(maxSteps:=9^7) (disch:=try exact dI) only[push_cast,seval] at h0;obtain⟨rfl,rfl,rfl⟩:=h0;refine⟨?_,?_,?_⟩
   ·simp(maxSteps:=9^7) (disch:=try exact dI) only[push_cast,seval]
   ·omega
   ·intro m hm
    by_cases hlt:m<f.length
    ·have hltI:(m:Int)<f.length:=by omega
     obtain⟨x,hx⟩:∃ x,f[m]? = some x:=⟨_,WT hlt⟩
     have hts:=aE hx
     have hlt2:(f.take m).length=m:=by rw[Xf];omega
     have hcall:=hf x (WV hx)
     obtain⟨w1,w2,w3,w4,w5⟩:=x
     rw[Wo] at hcall
     simp(maxSteps:=9^7) (disch:=try exact dI) only[hx,Wo,push_cast,seval]
     refine ag hcall rfl ?_
     simp(maxSteps:=9^7) (disch:=try exact dI) only[hlt2,push_cast,seval]
     exact⟨m+1,aJ (by simp(maxSteps:=9^7) (disch:=try exact dI) only[hts,Xe,Wo,push_cast,seval]),by omega,by omega⟩
    ·have hltI:¬ (m:Int)<f.length:=by omega
     have hle:f.take m=f:=WY (by omega)
     simp(maxSteps:=9^7) (disch:=try exact dI) only[hle,push_cast,seval]
theorem pS (l:List Rul)(hl:l.length*96<=140737488351232)(ho:∀ x∈l,x.ok):ap Tryz.prog aC 116 [.agg [.list (l.map Rul.pv)]] (.agg [.list (l.map Rul.pv)]):=by
 refine ap.intro S6.2 (by simp[S6]) ?_
 simp(maxSteps:=9^7) (disch:=try exact dI) only[S6,push_cast,seval]
 refine au ([]) (fun m:Nat=>[(3,.olist 1 6 ((l.take m).map Rul.pv)),(13,.pv (.int .i64 (m:Int)))]) (fun m=>[]) (fun m=>m<=l.length) (fun m=>l.length - m) (0) ?_;intro e0 σ0 n0 h0;simp(maxSteps:=9^7) (disch:=try exact dI) only[push_cast,seval] at h0;obtain⟨rfl,rfl,rfl⟩:=h0;refine⟨?_,?_,?_⟩
 ·simp(maxSteps:=9^7) (disch:=try exact dI) only[push_cast,seval]
 ·omega
 ·intro m hm
  by_cases hlt:m<l.length
  ·have hltI:(m:Int)<l.length:=by omega
   obtain⟨x,hx⟩:∃ x,l[m]? = some x:=⟨_,WT hlt⟩
   have hts:=aE hx
   have hlt2:(l.take m).length=m:=by rw[Xf];omega
   have hxo:=ho x (WV hx)
   obtain⟨a,e⟩:=x
   rw[Wz] at hxo
   have hcall:=kL _ e (XO _) hxo.2
   obtain⟨w1,w2,w3,w4,w5⟩:=e
   rw[Wo] at hcall
   simp(maxSteps:=9^7) (disch:=try exact dI) only[hx,WA,Wo,push_cast,seval]
   refine ag hcall rfl ?_
   simp(maxSteps:=9^7) (disch:=try exact dI) only[hlt2,push_cast,seval]
   exact⟨m+1,aJ (by simp(maxSteps:=9^7) (disch:=try exact dI) only[hts,Xe,WA,Wo,push_cast,seval]),by omega,by omega⟩
  ·have hltI:¬ (m:Int)<l.length:=by omega
   have hle:l.take m=l:=WY (by omega)
   simp(maxSteps:=9^7) (disch:=try exact dI) only[hle,push_cast,seval]
theorem pJ (l:List Exp)(g:Nat)(hg:∀ x∈l,ap Tryz.prog aC g [x.pv] x.pv)(hl:l.length*80<=140737488351232):ap Tryz.prog aC 114 [.list (l.map Exp.pv),.clo g [] []] (.list (l.map Exp.pv)):=by
 refine ap.intro S8.2 (by simp[S8]) ?_
 simp(maxSteps:=9^7) (disch:=try exact dI) only[S8,push_cast,seval]
 refine au ([(5,0,159,5)]) (fun m:Nat=>[(5,.olist 0 5 ((l.take m).map Exp.pv)),(10,.pv (.int .i64 (m:Int)))]) (fun m=>[]) (fun m=>m<=l.length) (fun m=>l.length - m) (0) ?_;intro e0 σ0 n0 h0;simp(maxSteps:=9^7) (disch:=try exact dI) only[push_cast,seval] at h0;obtain⟨rfl,rfl,rfl⟩:=h0;refine⟨?_,?_,?_⟩
 ·simp(maxSteps:=9^7) (disch:=try exact dI) only[push_cast,seval]
 ·omega
 ·intro m hm
  by_cases hlt:m<l.length
  ·have hltI:(m:Int)<l.length:=by omega
   obtain⟨x,hx⟩:∃ x,l[m]? = some x:=⟨_,WT hlt⟩
   have hts:=aE hx
   have hlt2:(l.take m).length=m:=by rw[Xf];omega
   have hcall:=hg x (WV hx)
   obtain⟨w0,w1,w2,w3,w4⟩:=x
   rw[Wo] at hcall
   simp(maxSteps:=9^7) (disch:=try exact dI) only[hx,Wo,push_cast,seval]
   refine ab.pure hcall rfl ?_
   simp(maxSteps:=9^7) (disch:=try exact dI) only[hlt2,push_cast,seval]
   exact⟨m+1,aJ (by simp(maxSteps:=9^7) (disch:=try exact dI) only[hts,Xe,Wo,push_cast,seval]),by omega,by omega⟩
  ·have hltI:¬ (m:Int)<l.length:=by omega
   have hle:l.take m=l:=WY (by omega)
   simp(maxSteps:=9^7) (disch:=try exact dI) only[hle,push_cast,seval]
theorem Et (l:List Cal)(g:Nat)(hg:∀ x∈l,ap Tryz.prog aC g [x.pv] x.pv)(hl:l.length*40<=140737488351232):ap Tryz.prog aC 117 [.list (l.map Cal.pv),.clo g [] []] (.list (l.map Cal.pv)):=by
 refine ap.intro S5.2 (by simp[S5]) ?_
 simp(maxSteps:=9^7) (disch:=try exact dI) only[S5,push_cast,seval]
 refine au ([(5,0,61,2)]) (fun m:Nat=>[(5,.olist 0 2 ((l.take m).map Cal.pv)),(10,.pv (.int .i64 (m:Int)))]) (fun m=>[]) (fun m=>m<=l.length) (fun m=>l.length - m) (0) ?_;intro e0 σ0 n0 h0;simp(maxSteps:=9^7) (disch:=try exact dI) only[push_cast,seval] at h0;obtain⟨rfl,rfl,rfl⟩:=h0;refine⟨?_,?_,?_⟩
 ·simp(maxSteps:=9^7) (disch:=try exact dI) only[push_cast,seval]
 ·omega
 ·intro m hm
  by_cases hlt:m<l.length
  ·have hltI:(m:Int)<l.length:=by omega
   obtain⟨x,hx⟩:∃ x,l[m]? = some x:=⟨_,WT hlt⟩
   have hts:=aE hx
   have hlt2:(l.take m).length=m:=by rw[Xf];omega
   have hcall:=hg x (WV hx)
   obtain⟨w0,w1⟩:=x
   rw[Wj] at hcall
   simp(maxSteps:=9^7) (disch:=try exact dI) only[hx,Wj,push_cast,seval]
   refine ab.pure hcall rfl ?_
   simp(maxSteps:=9^7) (disch:=try exact dI) only[hlt2,push_cast,seval]
   exact⟨m+1,aJ (by simp(maxSteps:=9^7) (disch:=try exact dI) only[hts,Xe,Wj,push_cast,seval]),by omega,by omega⟩
  ·have hltI:¬ (m:Int)<l.length:=by omega
   have hle:l.take m=l:=WY (by omega)
   simp(maxSteps:=9^7) (disch:=try exact dI) only[hle,push_cast,seval]
theorem Eu (l:List Stp)(g:Nat)(hg:∀ x∈l,ap Tryz.prog aC g [x.pv] x.pv)(hl:l.length*176<=140737488351232):ap Tryz.prog aC 121 [.list (l.map Stp.pv),.clo g [] []] (.list (l.map Stp.pv)):=by
 refine ap.intro SZ.2 (by simp[SZ]) ?_
 simp(maxSteps:=9^7) (disch:=try exact dI) only[SZ,push_cast,seval]
 refine au ([(5,0,51,11)]) (fun m:Nat=>[(5,.olist 0 11 ((l.take m).map Stp.pv)),(10,.pv (.int .i64 (m:Int)))]) (fun m=>[]) (fun m=>m<=l.length) (fun m=>l.length - m) (0) ?_;intro e0 σ0 n0 h0;simp(maxSteps:=9^7) (disch:=try exact dI) only[push_cast,seval] at h0;obtain⟨rfl,rfl,rfl⟩:=h0;refine⟨?_,?_,?_⟩
 ·simp(maxSteps:=9^7) (disch:=try exact dI) only[push_cast,seval]
 ·omega
 ·intro m hm
  by_cases hlt:m<l.length
  ·have hltI:(m:Int)<l.length:=by omega
   obtain⟨x,hx⟩:∃ x,l[m]? = some x:=⟨_,WT hlt⟩
   have hts:=aE hx
   have hlt2:(l.take m).length=m:=by rw[Xf];omega
   have hcall:=hg x (WV hx)
   obtain⟨w0,w1,w2,w3,w4,w5,w6,w7,w8,w9,w10⟩:=x
   rw[WF] at hcall
   simp(maxSteps:=9^7) (disch:=try exact dI) only[hx,WF,push_cast,seval]
   refine ab.pure hcall rfl ?_
   simp(maxSteps:=9^7) (disch:=try exact dI) only[hlt2,push_cast,seval]
   exact⟨m+1,aJ (by simp(maxSteps:=9^7) (disch:=try exact dI) only[hts,Xe,WF,push_cast,seval]),by omega,by omega⟩
  ·have hltI:¬ (m:Int)<l.length:=by omega
   have hle:l.take m=l:=WY (by omega)
   simp(maxSteps:=9^7) (disch:=try exact dI) only[hle,push_cast,seval]
theorem Er (l:List Bra)(g:Nat)(hg:∀ x∈l,ap Tryz.prog aC g [x.pv] x.pv)(hl:l.length*48<=140737488351232):ap Tryz.prog aC 119 [.list (l.map Bra.pv),.clo g [] []] (.list (l.map Bra.pv)):=by
 refine ap.intro S3.2 (by simp[S3]) ?_
 simp(maxSteps:=9^7) (disch:=try exact dI) only[S3,push_cast,seval]
 refine au ([(5,0,111,2)]) (fun m:Nat=>[(5,.olist 0 2 ((l.take m).map Bra.pv)),(10,.pv (.int .i64 (m:Int)))]) (fun m=>[]) (fun m=>m<=l.length) (fun m=>l.length - m) (0) ?_;intro e0 σ0 n0 h0;simp(maxSteps:=9^7) (disch:=try exact dI) only[push_cast,seval] at h0;obtain⟨rfl,rfl,rfl⟩:=h0;refine⟨?_,?_,?_⟩
 ·simp(maxSteps:=9^7) (disch:=try exact dI) only[push_cast,seval]
 ·omega
 ·intro m hm
  by_cases hlt:m<l.length
  ·have hltI:(m:Int)<l.length:=by omega
   obtain⟨x,hx⟩:∃ x,l[m]? = some x:=⟨_,WT hlt⟩
   have hts:=aE hx
   have hlt2:(l.take m).length=m:=by rw[Xf];omega
   have hcall:=hg x (WV hx)
   obtain⟨w0,w1⟩:=x
   rw[Wh] at hcall
   simp(maxSteps:=9^7) (disch:=try exact dI) only[hx,Wh,push_cast,seval]
   refine ab.pure hcall rfl ?_
   simp(maxSteps:=9^7) (disch:=try exact dI) only[hlt2,push_cast,seval]
   exact⟨m+1,aJ (by simp(maxSteps:=9^7) (disch:=try exact dI) only[hts,Xe,Wh,push_cast,seval]),by omega,by omega⟩
  ·have hltI:¬ (m:Int)<l.length:=by omega
   have hle:l.take m=l:=WY (by omega)
   simp(maxSteps:=9^7) (disch:=try exact dI) only[hle,push_cast,seval]
theorem tk (c:Cal)(hc:c.ok):ap Tryz.prog aC 118 [c.pv] c.pv:=by
 obtain⟨a,l⟩:=c
 rw[Wi] at hc
 refine ap.intro S4.2 (by simp[S4]) ?_
 simp(maxSteps:=9^7) (disch:=try exact dI) only[S4,Wj,push_cast,seval]
 refine ab.pure (pS l hc.2.1 hc.2.2) rfl ?_
 simp(maxSteps:=9^7) (disch:=try exact dI) only[push_cast,seval]
theorem EF:∀ (n:Nat) (s:Stp),SizeOf.sizeOf s<n->s.ok->ap Tryz.prog aC 98 [s.pv] s.pv:=by
 intro n
 induction n with
 | zero=>intro v h;omega
 | succ n ih=>
 intro s hn hs
 obtain⟨a,b,c,d,e,f,g,h,ru,j,k⟩:=s
 rw[WE] at hs
 obtain⟨h1,h2,h3,h4,h5,h6,h7,h8,h9,h10,h11,h12,h13,h14,h15⟩:=hs
 simp only[Stp.mk.sizeOf_spec] at hn
 have hb:∀ x∈k,ap Tryz.prog aC 120 [x.pv] x.pv:=by
  intro x hx
  have hxo:=h15 x hx
  have hsz:=XS hx
  obtain⟨wn,st⟩:=x
  rw[Wg] at hxo
  obtain⟨k1,k2,k3,k4⟩:=hxo
  simp only[Bra.mk.sizeOf_spec] at hsz
  have hst:∀ x∈st,ap Tryz.prog aC 98 [x.pv] x.pv:=fun x hx=>ih x (by have:=XS hx;omega) (k4 x hx)
  refine ap.intro S0.2 (by simp[S0]) ?_
  simp(maxSteps:=9^7) (disch:=try exact dI) only[S0,Wh,push_cast,seval]
  refine ag (pJ wn 115 (fun x hx=>kL _ x (XO _) (k2 x hx)) k1) rfl ?_
  simp(maxSteps:=9^7) (disch:=try exact dI) only[push_cast,seval]
  refine ab.pure (Eu st 98 hst k3) rfl ?_
  simp(maxSteps:=9^7) (disch:=try exact dI) only[push_cast,seval]
 refine ap.intro Q98.2 (by simp[Q98]) ?_
 simp(maxSteps:=9^7) (disch:=try exact dI) only[Q98,WF,push_cast,seval]
 refine ab.pure (pJ h 115 (fun x hx=>kL _ x (XO _) (h9 x hx)) h8) rfl ?_
 simp(maxSteps:=9^7) (disch:=try exact dI) only[push_cast,seval]
 refine ab.pure (pS ru h10 h11) rfl ?_
 simp(maxSteps:=9^7) (disch:=try exact dI) only[push_cast,seval]
 refine ab.pure (Et j 118 (fun x hx=>tk x (h13 x hx)) h12) rfl ?_
 simp(maxSteps:=9^7) (disch:=try exact dI) only[push_cast,seval]
 refine ab.pure (Er k 120 hb h14) rfl ?_
 simp(maxSteps:=9^7) (disch:=try exact dI) only[push_cast,seval]
theorem OK (p:List Int)(hp:0<p.length)(hm:p.length<=1000000):bz Tryz.prog aC 1 85 [.row 0 1 0 p.length] [.cells 3 false ((p.map (PV.int .i64)).map .pv)] (.pv (.list (p.map (PV.int .i64)))) [.cells 3 false ((p.map (PV.int .i64)).map .pv)]:=by
 refine bz.intro Q85.2 (by simp[Q85]) ?_
 simp(maxSteps:=9^7) (disch:=try exact dI) only[Q85,push_cast,seval]
 exact sK [] (.pv (.list (p.map (PV.int .i64)))) (.list _ _ _ _ (NzL.refl _)) qsZ
theorem PO (p:List Int)(hp:0<p.length)(hm:p.length<=1000000)(ws:List Wkd)(hw:ws.length<=1000000000)(l:List Stp)(i:Nat)(s:Stp)(hs:l[i]? = some s)(ho:s.ok)(route:Int) :
  bz Tryz.prog aC 2 97 [.row 1 1 0 p.length,.pv (.eptr (l.map Stp.pv) i 0),.ptr 0 0,.pv (.eptr [.int .i64 route] 0 0)]
   [.cells 42 true [.olist 2 13 (ws.map Wkd.pv)],.cells 3 false ((p.map (PV.int .i64)).map .pv),.tok 53 13] (.pv (.tup []))
   [.cells 42 true [.olist 2 13 ((ws++[Wkd.mk route p s]).map Wkd.pv)],.cells 3 false ((p.map (PV.int .i64)).map .pv),.tok 53 13]:=by
 refine bz.intro Q97.2 (by simp[Q97]) ?_
 have hcall:=EF _ s (XO _) ho
 obtain⟨w1,w2,w3,w4,w5,w6,w7,w8,w9,w10,w11⟩:=s
 rw[WF] at hcall
 simp(maxSteps:=9^7) (disch:=try exact dI) only[Q97,hs,WF,push_cast,seval]
 refine ja (OK p hp hm) [1] rfl qsZ qsZ ?_
 simp(maxSteps:=9^7) (disch:=try exact dI) only[hs,WF,push_cast,seval]
 refine ag hcall rfl ?_
 simp(maxSteps:=9^7) (disch:=try exact dI) only[push_cast,seval]
 exact aH [] (by simp(maxSteps:=9^7) (disch:=try exact dI) only[Xe,WR,WF,push_cast,seval])
def aF {α β:Type}(F:α->Nat->List β)(l:List α):List β:=l.zipIdx.flatMap fun q=>F q.1 q.2
theorem aU {α β:Type}(F:α->Nat->List β):aF F []=[]:=_root_.id rfl
theorem aN {α β:Type}(F:α->Nat->List β){l:List α}{m:Nat}{x:α}(h:l[m]? = some x):aF F (l.take (m+1))=aF F (l.take m)++F x m:=by
 have hm:m<l.length:=(List.getElem?_eq_some_iff.1 h).1
 have hl:(l.take m).length=m:=by rw[Xf];omega
 rw[aE h]
 simp[aF,List.zipIdx_append,List.flatMap_append,hl]
def aL (route:Int):Nat->List Int->List Stp->List Wkd
 | 0,_,_=>[]
 | n+1,p,l=>aF (fun s i=>Wkd.mk route (p++[(i:Int)]) s::aF (fun b j=>aL route n ((p++[(i:Int)])++[(j:Int)]) b.steps) s.branches) l
def Bnd:Nat->List Stp->Prop
 | 0,l=>l=[]
 | n+1,l=>l.length<=8/\∀ s∈l,s.branches.length<=4/\∀ b∈s.branches,Bnd n b.steps
def cnt:Nat->Nat
 | 0=>0
 | n+1=>8*(1+4*cnt n)
theorem bh {α β:Type}(F:α->Nat->List β)(c:Nat):∀ (l:List α),(∀ x∈l,∀ i,(F x i).length<=c)->(aF F l).length<=l.length*c:=by
 intro l h
 have key:∀ (l:List α) (k:Nat),(∀ x∈l,∀ i,(F x i).length<=c)->((l.zipIdx k).flatMap fun q=>F q.1 q.2).length<=l.length*c:=by
  intro l
  induction l with
  | nil=>intro k _;simp
  | cons x r ih=>
    intro k h
    have h1:=h x (by simp) k
    have h2:=ih (k+1) (fun y hy=>h y (by simp[hy]))
    simp only[List.zipIdx_cons,List.flatMap_cons,List.length_append,Xa,Nat.succ_mul]
    omega
 exact key l 0 h
theorem bd (route:Int):∀ (n:Nat) (p:List Int) (l:List Stp),Bnd n l->(aL route n p l).length<=cnt n
 | 0,p,l,h=>by simp[aL]
 | n+1,p,l,h=>by
   obtain⟨h1,h2⟩:=h
   rw[aL,cnt]
   refine Nat.le_trans (bh _ (1+4*cnt n) l fun s hs i=>?_) (W8 _ h1)
   obtain⟨h3,h4⟩:=h2 s hs
   have:=bh (fun b j=>aL route n ((p++[(i:Int)])++[(j:Int)]) b.steps) (cnt n) s.branches fun b hb j=>bd route n _ _ (h4 b hb)
   have h5:s.branches.length*cnt n<=4*cnt n:=W8 _ h3
   simp only[Xa]
   omega

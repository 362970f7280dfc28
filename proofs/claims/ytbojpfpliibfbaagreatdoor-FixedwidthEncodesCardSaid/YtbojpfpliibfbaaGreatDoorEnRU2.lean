/- A part of the proof. -/
import Derived.Test.YtbojpfpliibfbaaGreatDoorEnRU0
set_option maxHeartbeats 16000000
set_option maxRecDepth 100000
set_option linter.unusedVariables false
set_option linter.unusedSimpArgs false
-- many steps
namespace Go.Proofs.YtbojpfpliibfbaaGreatDoor
open Go Go.Ab
attribute [local irreducible] vc
theorem rI (v:Val)(hl:v.lst.length*88<=140737488351232)(hf:v.fields.length*104<=140737488351232):am Tryz.prog az 237 [v.pv] (.list ((bk v).map Val.pv)):=by
 obtain⟨k,n,s,t,l,fs⟩:=v
 simp only[Val.fields,Val.lst] at hf hl
 by_cases h8:k=8\/k=10
 ·rw[cj (v:=.mk k n s t l fs) h8]
  simp only[Val.lst]
  cases l with
  | nil=>
    rcases h8 with rfl | rfl
    ·refine am.intro nq.2 (by simp[nq]) ?_
     simp(disch:=try exact dI) only[nq,Val.pv_mk,push_cast,seval]
    ·refine am.intro nq.2 (by simp[nq]) ?_
     simp(disch:=try exact dI) only[nq,Val.pv_mk,push_cast,seval]
  | cons x r=>
    rw[List.length_cons] at hl
    rcases h8 with rfl | rfl
    ·refine am.intro nq.2 (by simp[nq]) ?_
     simp(disch:=try exact dI) only[nq,Val.pv_mk,Val.cells_len,push_cast,seval]
    ·refine am.intro nq.2 (by simp[nq]) ?_
     simp(disch:=try exact dI) only[nq,Val.pv_mk,Val.cells_len,push_cast,seval]
 ·by_cases h9:k=9
  ·subst h9
   rw[dn (v:=.mk 9 n s t l fs) rfl]
   simp only[Val.fields]
   refine am.intro nq.2 (by simp[nq]) ?_
   simp(disch:=try exact dI) only[nq,Val.pv_mk,push_cast,seval]
   refine au ([(3,0,36,6)]) (fun i:Nat=>[(3,.olist 0 6 (((fs.take i).map Fld.value).map Val.pv)),(4,.pv (.int .i64 (i:Int)))]) (fun _=>[]) (fun i=>i<=fs.length) (fun i=>fs.length - i) (0) ?_;intro e0 σ0 n0 h0;simp(disch:=try exact dI) only[push_cast,seval] at h0;obtain⟨rfl,rfl,rfl⟩:=h0;refine⟨?_,?_,?_⟩
   ·exact qsZ
   ·omega
   rintro i hi
   by_cases hlt:i<fs.length
   ·have hltI:(i:Int)<(fs.length:Int):=by omega
    obtain⟨c,hc⟩:∃ c,fs[i]? = some c:=⟨_,List.getElem?_eq_getElem hlt⟩
    have hts:=aK hc
    have hlt2:(fs.take i).length=i:=by rw[List.length_take];omega
    obtain⟨nm,⟨k',n',s',t',l',f'⟩⟩:=c
    have hcp:(fs.map Fld.pv)[i]? = some (.agg [.str nm,.int .i64 k',.int .i64 n',.int .i64 s',.str t',.list (l'.map Val.pv),.list (f'.map Fld.pv)]):=by simp[hc,Fld.pv_mk,Val.pv_mk,ag]
    simp(disch:=try exact dI) only[hcp,hlt2,push_cast,seval]
    exact⟨i+1,aM (by simp(disch:=try exact dI) only[hts,List.map_append,Fld.value,Val.pv_mk,push_cast,seval]),by omega,by omega⟩
   ·have he:i=fs.length:=by omega
    subst he
    simp(disch:=try exact dI) only[List.take_length,mE,push_cast,seval]
  ·rw[ed (v:=.mk k n s t l fs) h8 h9]
   refine am.intro nq.2 (by simp[nq]) ?_
   have e1:¬ k=8:=by omega
   have e2:¬ k=10:=by omega
   simp(disch:=try exact dI) only[nq,Val.pv_mk,push_cast,seval]
def szN:Nat->Val->Nat
 | 0,_=>0
 | n+1,v=>1+((bk v).map (szN n)).sum
theorem kq {α β:Type}{p:α->List β}{q:α->Nat}:∀ (l:List α),(∀ x∈l,(p x).length=q x)->(l.flatMap p).length=(l.map q).sum
 | [],_=>rfl
 | x::r,h=>by
   rw[List.flatMap_cons,List.length_append,h x (List.mem_cons_self ..),kq r fun y hy=>h y (List.mem_cons_of_mem _ hy)]
   simp
theorem pS:∀ (n:Nat) (lv:Int) (v:Val),(dj n lv v).length=szN n v
 | 0,_,_=>rfl
 | n+1,lv,v=>by
   rw[dj,szN,List.length_cons,kq _ fun x _=>pS n (Go.RowKit.wrap64 (lv+1)) x]
   omega
theorem nC {p:Val->Nat}{f:List Val}{i:Nat}{g:Val}(h:f[i]? = some g):((f.take (i+1)).map p).sum=((f.take i).map p).sum+p g:=by
 rw[aK h,List.map_append,List.sum_append];simp
theorem xj {p:Val->Nat}{f:List Val}(i:Nat):((f.take i).map p).sum<=(f.map p).sum:=by
 have h:(f.map p).sum=((f.take i).map p).sum+((f.drop i).map p).sum:=by
  rw[<- List.sum_append,<- List.map_append,List.take_append_drop]
 omega
theorem CA {p:Val->Nat}{f:List Val}{i:Nat}{g:Val}(h:f[i]? = some g):p g<=(f.map p).sum:=by
 have h1:=nC (p:=p) h
 have h2:=xj (p:=p) (f:=f) (i+1)
 omega
theorem ub (v:Val)(hv:v.ok):(bk v).length<=140737488351232:=by
 obtain⟨k,n,s,t,l,fs⟩:=v
 rw[Val.ok_mk] at hv
 obtain⟨_,_,_,_,h5,_,h7,_⟩:=hv
 by_cases h8:k=8\/k=10
 ·rw[cj (v:=.mk k n s t l fs) h8];simp only[Val.lst];omega
 ·by_cases h9:k=9
  ·rw[dn (v:=.mk k n s t l fs) h9];simp only[Val.fields,List.length_map];omega
  ·rw[ed (v:=.mk k n s t l fs) h8 h9];simp
theorem nV {v x:Val}(hv:v.ok)(hx:x∈bk v):x.ok:=by
 obtain⟨k,n,s,t,l,fs⟩:=v
 rw[Val.ok_mk] at hv
 obtain⟨_,_,_,_,_,h6,_,h8'⟩:=hv
 by_cases h8:k=8\/k=10
 ·rw[cj (v:=.mk k n s t l fs) h8] at hx;exact h6 x hx
 ·by_cases h9:k=9
  ·rw[dn (v:=.mk k n s t l fs) h9] at hx
   obtain⟨f,hf,rfl⟩:=List.mem_map.1 hx
   have:=h8' f hf
   obtain⟨a,b⟩:=f
   rw[Fld.ok_mk] at this;exact this.2
  ·rw[ed (v:=.mk k n s t l fs) h8 h9] at hx;cases hx
theorem xA:∀ (n:Nat) (v:Val),dA n v->v.ok->szN n v<=9223372036854775806->am Tryz.prog az 190 [v.pv] (.int .i64 (szN n v:Int))
 | 0,_,h,_,_=>h.elim
 | n+1,v,hd,hv,hs=>by
   have ih:=xA n
   have hpl:=ub v hv
   have hpo:=fun x (hx:x∈bk v)=>nV hv hx
   have hp:=rI v (by cases v;rw[Val.ok_mk] at hv;exact hv.2.2.2.2.1) (by cases v;rw[Val.ok_mk] at hv;exact hv.2.2.2.2.2.2.1)
   rw[dA] at hd
   rw[szN] at hs ⊢
   generalize bk v=ps at *
   obtain⟨k,vn,s,t,l,fs⟩:=v
   simp only[Val.pv_mk] at hp
   refine am.intro Ps.2 (by simp[Ps]) ?_
   simp(disch:=try exact dI) only[Ps,Val.pv_mk,push_cast,seval]
   refine ab.pure hp rfl ?_
   refine zgZ ?_
   refine au ([]) (fun i:Nat=>[(3,.pv (.int .i64 ((1+((ps.take i).map (szN n)).sum:Nat):Int))),(5,.pv (.int .i64 (i:Int)))]) (fun _=>[]) (fun i=>i<=ps.length) (fun i=>ps.length - i) (0) ?_;intro e0 σ0 n0 h0;simp(disch:=try exact dI) only[push_cast,seval] at h0;obtain⟨rfl,rfl,rfl⟩:=h0;refine⟨?_,?_,?_⟩
   ·simp(disch:=try exact dI) only[List.take_zero,List.map_nil,List.sum_nil,push_cast,seval]
   ·omega
   rintro i hi
   by_cases hlt:i<ps.length
   ·have hltI:(i:Int)<(ps.length:Int):=by omega
    obtain⟨x,hx⟩:∃ x,ps[i]? = some x:=⟨_,List.getElem?_eq_getElem hlt⟩
    have hxm:=List.mem_of_getElem? hx
    have h1:=nC (p:=szN n) hx
    have h2:=xj (p:=szN n) (f:=ps) (i+1)
    have h3:=CA (p:=szN n) hx
    have hc:=ih x (hd x hxm) (hpo x hxm) (by omega)
    generalize ((ps.take i).map (szN n)).sum=S at *
    generalize szN n x=z at *
    obtain⟨xk,xn,xs,xt,xl,xf⟩:=x
    simp only[Val.pv_mk] at hc
    simp(disch:=try exact dI) only[hx,Option.map_some,Val.pv_mk,push_cast,seval]
    refine ab.pure hc rfl ?_
    refine zgZ ?_
    exact⟨i+1,aM (by simp(disch:=try exact dI) only[h1,Int.add_assoc,push_cast,seval]),by omega,by omega⟩
   ·obtain rfl:i=ps.length:=by omega
    rw[List.take_length]
    simp(disch:=try exact dI) only[Int.lt_irrefl,push_cast,seval]
end Go.Proofs.YtbojpfpliibfbaaGreatDoor
-- many steps
namespace Go.Proofs.YtbojpfpliibfbaaGreatDoor
open Go Go.Ab
attribute [local irreducible] vc
def gJ (v:Val):Int:=if aU v=true then 19 else if v.kind<1\/10<v.kind then 11 else if aq v=false then 3 else bI v
theorem ud (v:Val)(hk:v.kind<1\/10<v.kind):am Tryz.prog az 236 [v.pv] (.int .i64 (gJ v)):=by
 have hn:=du v
 rw[show gJ v=if aU v=true then 19 else 11 by unfold gJ;rw[if_pos hk]]
 generalize aU v=b at hn ⊢
 obtain⟨k,n,s,t,l,fs⟩:=v
 simp only[Val.kind] at hk
 simp only[Val.pv_mk] at hn
 by_cases h1:k<1
 ·refine am.intro fc.2 (by simp[fc]) ?_
  simp(disch:=try exact dI) only[fc,Val.pv_mk,push_cast,seval]
  refine ab.pure hn rfl ?_
  cases b with
  | true=>simp(disch:=try exact dI) only[push_cast,seval]
  | false=>simp(disch:=try exact dI) only[h1,push_cast,seval]
 ·have h2:10<k:=by omega
  refine am.intro fc.2 (by simp[fc]) ?_
  simp(disch:=try exact dI) only[fc,Val.pv_mk,push_cast,seval]
  refine ab.pure hn rfl ?_
  cases b with
  | true=>simp(disch:=try exact dI) only[push_cast,seval]
  | false=>simp(disch:=try exact dI) only[h1,h2,push_cast,seval]
section
variable (n s:Int)(t:List UInt8)(l:List Val)(fs:List Fld)
theorem DI:am Tryz.prog az 236 [(Val.mk 1 n s t l fs).pv] (.int .i64 (gJ (.mk 1 n s t l fs))):=by
 have hn:=du (.mk 1 n s t l fs)
 have hu:=bV (.mk 1 n s t l fs) (by simp only[Val.kind];omega)
 rw[show gJ (.mk 1 n s t l fs)=if aU (.mk 1 n s t l fs)=true then 19 else if aq (.mk 1 n s t l fs)=false then 3 else dJ n 0 1 from rfl]
 generalize aU (.mk 1 n s t l fs)=b1 at hn ⊢
 generalize aq (.mk 1 n s t l fs)=b2 at hu ⊢
 simp only[Val.pv_mk] at hn hu
 have hr:=cJ n 0 1
 have hq:dJ n 0 1=if inB n 0 1=false then 2 else 0:=by unfold dJ inB;by_cases h1:0<=n<;>by_cases h2:n<=1<;>simp[h1,h2]<;>omega
 rw[hq];clear hq
 generalize inB n 0 1=q at hr ⊢
 refine am.intro fc.2 (by simp[fc]) ?_
 simp(disch:=try exact dI) only[fc,Val.pv_mk,push_cast,seval]
 refine ab.pure hn rfl ?_
 cases b1 with
 | true=>simp(disch:=try exact dI) only[push_cast,seval]
 | false=>
 refine zgZ ?_
 refine ab.pure hu rfl ?_
 cases b2 with
 | false=>simp(disch:=try exact dI) only[push_cast,seval]
 | true=>
 refine zgZ ?_
 refine ab.pure hr rfl ?_
 cases q with
 | false=>simp(disch:=try exact dI) only[push_cast,seval]
 | true=>simp(disch:=try exact dI) only[push_cast,seval]
theorem DH:am Tryz.prog az 236 [(Val.mk 2 n s t l fs).pv] (.int .i64 (gJ (.mk 2 n s t l fs))):=by
 have hn:=du (.mk 2 n s t l fs)
 have hu:=bV (.mk 2 n s t l fs) (by simp only[Val.kind];omega)
 rw[show gJ (.mk 2 n s t l fs)=if aU (.mk 2 n s t l fs)=true then 19 else if aq (.mk 2 n s t l fs)=false then 3 else dJ n (-999999999999999) 999999999999999 from rfl]
 generalize aU (.mk 2 n s t l fs)=b1 at hn ⊢
 have hs:aq (.mk 2 n s t l fs)=true->s=0:=by simp only[aq,Bool.and_eq_true,Bool.or_eq_true,decide_eq_true_eq];omega
 have hr2:=cJ 0 0 12
 rw[show inB 0 0 12=true from rfl] at hr2
 generalize aq (.mk 2 n s t l fs)=b2 at hu hs ⊢
 simp only[Val.pv_mk] at hn hu
 have hr:=cJ n (-999999999999999) 999999999999999
 have hq:dJ n (-999999999999999) 999999999999999=if inB n (-999999999999999) 999999999999999=false then 2 else 0:=by unfold dJ inB;by_cases h1:(-999999999999999)<=n<;>by_cases h2:n<=999999999999999<;>simp[h1,h2]<;>omega
 rw[hq];clear hq
 generalize inB n (-999999999999999) 999999999999999=q at hr ⊢
 refine am.intro fc.2 (by simp[fc]) ?_
 simp(disch:=try exact dI) only[fc,Val.pv_mk,push_cast,seval]
 refine ab.pure hn rfl ?_
 cases b1 with
 | true=>simp(disch:=try exact dI) only[push_cast,seval]
 | false=>
 refine zgZ ?_
 refine ab.pure hu rfl ?_
 cases b2 with
 | false=>simp(disch:=try exact dI) only[push_cast,seval]
 | true=>
 obtain rfl:=hs rfl
 refine zgZ ?_
 refine ab.pure hr rfl ?_
 cases q with
 | false=>simp(disch:=try exact dI) only[push_cast,seval]
 | true => simp(disch:=try exact dI) only[push_cast,seval]
           refine ab.pure hr2 rfl ?_
           exact qsZ
theorem DG:am Tryz.prog az 236 [(Val.mk 3 n s t l fs).pv] (.int .i64 (gJ (.mk 3 n s t l fs))):=by
 have hn:=du (.mk 3 n s t l fs)
 have hu:=bV (.mk 3 n s t l fs) (by simp only[Val.kind];omega)
 rw[show gJ (.mk 3 n s t l fs)=if aU (.mk 3 n s t l fs)=true then 19 else if aq (.mk 3 n s t l fs)=false then 3 else (if dJ n (-999999999999999) 999999999999999=0 then dJ s 0 12 else dJ n (-999999999999999) 999999999999999) from rfl]
 generalize aU (.mk 3 n s t l fs)=b1 at hn ⊢
 generalize aq (.mk 3 n s t l fs)=b2 at hu ⊢
 simp only[Val.pv_mk] at hn hu
 have hr:=cJ n (-999999999999999) 999999999999999
 have hr2:=cJ s 0 12
 have hq:(if dJ n (-999999999999999) 999999999999999=0 then dJ s 0 12 else dJ n (-999999999999999) 999999999999999)=if inB n (-999999999999999) 999999999999999=false then 2 else if inB s 0 12=false then 2 else 0:=by unfold dJ inB;by_cases h1:(-999999999999999)<=n<;>by_cases h2:n<=999999999999999<;>by_cases h3:0<=s<;>by_cases h4:s<=12<;>simp[h1,h2,h3,h4]<;>omega
 rw[hq];clear hq
 generalize inB n (-999999999999999) 999999999999999=q at hr ⊢
 generalize inB s 0 12=q2 at hr2 ⊢
 refine am.intro fc.2 (by simp[fc]) ?_
 simp(disch:=try exact dI) only[fc,Val.pv_mk,push_cast,seval]
 refine ab.pure hn rfl ?_
 cases b1 with
 | true=>simp(disch:=try exact dI) only[push_cast,seval]
 | false=>
 refine zgZ ?_
 refine ab.pure hu rfl ?_
 cases b2 with
 | false=>simp(disch:=try exact dI) only[push_cast,seval]
 | true=>
 refine zgZ ?_
 refine ab.pure hr rfl ?_
 cases q with
 | false=>simp(disch:=try exact dI) only[push_cast,seval]
 | true=>
 refine zgZ ?_
 refine ab.pure hr2 rfl ?_
 cases q2 with
 | false=>simp(disch:=try exact dI) only[push_cast,seval]
 | true=>simp(disch:=try exact dI) only[push_cast,seval]
theorem DF:am Tryz.prog az 236 [(Val.mk 4 n s t l fs).pv] (.int .i64 (gJ (.mk 4 n s t l fs))):=by
 have hn:=du (.mk 4 n s t l fs)
 have hu:=bV (.mk 4 n s t l fs) (by simp only[Val.kind];omega)
 rw[show gJ (.mk 4 n s t l fs)=if aU (.mk 4 n s t l fs)=true then 19 else if aq (.mk 4 n s t l fs)=false then 3 else (if cZ t.length 1024 5=0 then (if Lib.validD t=true then 0 else 16) else cZ t.length 1024 5) from rfl]
 generalize aU (.mk 4 n s t l fs)=b1 at hn ⊢
 generalize aq (.mk 4 n s t l fs)=b2 at hu ⊢
 simp only[Val.pv_mk] at hn hu
 have hv:=cK t
 generalize Lib.validD t=q at hv ⊢
 refine am.intro fc.2 (by simp[fc]) ?_
 simp(disch:=try exact dI) only[fc,Val.pv_mk,push_cast,seval]
 refine ab.pure hn rfl ?_
 cases b1 with
 | true=>simp(disch:=try exact dI) only[push_cast,seval]
 | false=>
 refine zgZ ?_
 refine ab.pure hu rfl ?_
 cases b2 with
 | false=>simp(disch:=try exact dI) only[push_cast,seval]
 | true=>
 by_cases h5:(1024:Int)<t.length
 ·rw[show cZ t.length 1024 5=5 from if_pos h5]
  simp(disch:=try exact dI) only[h5,push_cast,seval]
 ·rw[show cZ t.length 1024 5=0 from if_neg h5]
  simp(disch:=try exact dI) only[h5,push_cast,seval]
  refine ab.pure hv rfl ?_
  cases q with
  | false=>simp(disch:=try exact dI) only[push_cast,seval]
  | true=>simp(disch:=try exact dI) only[push_cast,seval]
theorem DE:am Tryz.prog az 236 [(Val.mk 5 n s t l fs).pv] (.int .i64 (gJ (.mk 5 n s t l fs))):=by
 have hn:=du (.mk 5 n s t l fs)
 have hu:=bV (.mk 5 n s t l fs) (by simp only[Val.kind];omega)
 rw[show gJ (.mk 5 n s t l fs)=if aU (.mk 5 n s t l fs)=true then 19 else if aq (.mk 5 n s t l fs)=false then 3 else cZ t.length 1024 5 from rfl]
 generalize aU (.mk 5 n s t l fs)=b1 at hn ⊢
 generalize aq (.mk 5 n s t l fs)=b2 at hu ⊢
 simp only[Val.pv_mk] at hn hu
 refine am.intro fc.2 (by simp[fc]) ?_
 simp(disch:=try exact dI) only[fc,Val.pv_mk,push_cast,seval]
 refine ab.pure hn rfl ?_
 cases b1 with
 | true=>simp(disch:=try exact dI) only[push_cast,seval]
 | false=>
 refine zgZ ?_
 refine ab.pure hu rfl ?_
 cases b2 with
 | false=>simp(disch:=try exact dI) only[push_cast,seval]
 | true=>
 by_cases h5:(1024:Int)<t.length
 ·rw[show cZ t.length 1024 5=5 from if_pos h5]
  simp(disch:=try exact dI) only[h5,push_cast,seval]
 ·rw[show cZ t.length 1024 5=0 from if_neg h5]
  simp(disch:=try exact dI) only[h5,push_cast,seval]
theorem DD:am Tryz.prog az 236 [(Val.mk 6 n s t l fs).pv] (.int .i64 (gJ (.mk 6 n s t l fs))):=by
 have hn:=du (.mk 6 n s t l fs)
 have hu:=bV (.mk 6 n s t l fs) (by simp only[Val.kind];omega)
 rw[show gJ (.mk 6 n s t l fs)=if aU (.mk 6 n s t l fs)=true then 19 else if aq (.mk 6 n s t l fs)=false then 3 else dJ n (-719162) 2932896 from rfl]
 generalize aU (.mk 6 n s t l fs)=b1 at hn ⊢
 generalize aq (.mk 6 n s t l fs)=b2 at hu ⊢
 simp only[Val.pv_mk] at hn hu
 have hr:=cJ n (-719162) 2932896
 have hq:dJ n (-719162) 2932896=if inB n (-719162) 2932896=false then 2 else 0:=by unfold dJ inB;by_cases h1:(-719162)<=n<;>by_cases h2:n<=2932896<;>simp[h1,h2]<;>omega
 rw[hq];clear hq
 generalize inB n (-719162) 2932896=q at hr ⊢
 refine am.intro fc.2 (by simp[fc]) ?_
 simp(disch:=try exact dI) only[fc,Val.pv_mk,push_cast,seval]
 refine ab.pure hn rfl ?_
 cases b1 with
 | true=>simp(disch:=try exact dI) only[push_cast,seval]
 | false=>
 refine zgZ ?_
 refine ab.pure hu rfl ?_
 cases b2 with
 | false=>simp(disch:=try exact dI) only[push_cast,seval]
 | true=>
 refine zgZ ?_
 refine ab.pure hr rfl ?_
 cases q with
 | false=>simp(disch:=try exact dI) only[push_cast,seval]
 | true=>simp(disch:=try exact dI) only[push_cast,seval]
theorem DC:am Tryz.prog az 236 [(Val.mk 7 n s t l fs).pv] (.int .i64 (gJ (.mk 7 n s t l fs))):=by
 have hn:=du (.mk 7 n s t l fs)
 have hu:=bV (.mk 7 n s t l fs) (by simp only[Val.kind];omega)
 rw[show gJ (.mk 7 n s t l fs)=if aU (.mk 7 n s t l fs)=true then 19 else if aq (.mk 7 n s t l fs)=false then 3 else dJ n (-62135596800000) 253402300799999 from rfl]
 generalize aU (.mk 7 n s t l fs)=b1 at hn ⊢
 generalize aq (.mk 7 n s t l fs)=b2 at hu ⊢
 simp only[Val.pv_mk] at hn hu
 have hr:=cJ n (-62135596800000) 253402300799999
 have hq:dJ n (-62135596800000) 253402300799999=if inB n (-62135596800000) 253402300799999=false then 2 else 0:=by unfold dJ inB;by_cases h1:(-62135596800000)<=n<;>by_cases h2:n<=253402300799999<;>simp[h1,h2]<;>omega
 rw[hq];clear hq
 generalize inB n (-62135596800000) 253402300799999=q at hr ⊢
 refine am.intro fc.2 (by simp[fc]) ?_
 simp(disch:=try exact dI) only[fc,Val.pv_mk,push_cast,seval]
 refine ab.pure hn rfl ?_
 cases b1 with
 | true=>simp(disch:=try exact dI) only[push_cast,seval]
 | false=>
 refine zgZ ?_
 refine ab.pure hu rfl ?_
 cases b2 with
 | false=>simp(disch:=try exact dI) only[push_cast,seval]
 | true=>
 refine zgZ ?_
 refine ab.pure hr rfl ?_
 cases q with
 | false=>simp(disch:=try exact dI) only[push_cast,seval]
 | true=>simp(disch:=try exact dI) only[push_cast,seval]
theorem DB:am Tryz.prog az 236 [(Val.mk 8 n s t l fs).pv] (.int .i64 (gJ (.mk 8 n s t l fs))):=by
 have hn:=du (.mk 8 n s t l fs)
 have hu:=bV (.mk 8 n s t l fs) (by simp only[Val.kind];omega)
 rw[show gJ (.mk 8 n s t l fs)=if aU (.mk 8 n s t l fs)=true then 19 else if aq (.mk 8 n s t l fs)=false then 3 else cZ l.length 256 9 from rfl]
 generalize aU (.mk 8 n s t l fs)=b1 at hn ⊢
 generalize aq (.mk 8 n s t l fs)=b2 at hu ⊢
 simp only[Val.pv_mk] at hn hu
 refine am.intro fc.2 (by simp[fc]) ?_
 simp(disch:=try exact dI) only[fc,Val.pv_mk,push_cast,seval]
 refine ab.pure hn rfl ?_
 cases b1 with
 | true=>simp(disch:=try exact dI) only[push_cast,seval]
 | false=>
 refine zgZ ?_
 refine ab.pure hu rfl ?_
 cases b2 with
 | false=>simp(disch:=try exact dI) only[push_cast,seval]
 | true=>
 by_cases h5:(256:Int)<l.length
 ·rw[show cZ l.length 256 9=9 from if_pos h5]
  simp(disch:=try exact dI) only[h5,push_cast,seval]
 ·rw[show cZ l.length 256 9=0 from if_neg h5]
  simp(disch:=try exact dI) only[h5,push_cast,seval]
theorem DA:am Tryz.prog az 236 [(Val.mk 9 n s t l fs).pv] (.int .i64 (gJ (.mk 9 n s t l fs))):=by
 have hn:=du (.mk 9 n s t l fs)
 have hu:=bV (.mk 9 n s t l fs) (by simp only[Val.kind];omega)
 rw[show gJ (.mk 9 n s t l fs)=if aU (.mk 9 n s t l fs)=true then 19 else if aq (.mk 9 n s t l fs)=false then 3 else fJ fs from rfl]
 generalize aU (.mk 9 n s t l fs)=b1 at hn ⊢
 generalize aq (.mk 9 n s t l fs)=b2 at hu ⊢
 simp only[Val.pv_mk] at hn hu
 have hr:=AK fs
 generalize fJ fs=q at hr ⊢
 refine am.intro fc.2 (by simp[fc]) ?_
 simp(disch:=try exact dI) only[fc,Val.pv_mk,push_cast,seval]
 refine ab.pure hn rfl ?_
 cases b1 with
 | true=>simp(disch:=try exact dI) only[push_cast,seval]
 | false=>
 refine zgZ ?_
 refine ab.pure hu rfl ?_
 cases b2 with
 | false=>simp(disch:=try exact dI) only[push_cast,seval]
 | true=>
 refine zgZ ?_
 refine ab.pure hr rfl ?_
 exact qsZ
theorem yN:am Tryz.prog az 236 [(Val.mk 10 n s t l fs).pv] (.int .i64 (gJ (.mk 10 n s t l fs))):=by
 have hn:=du (.mk 10 n s t l fs)
 have hu:=bV (.mk 10 n s t l fs) (by simp only[Val.kind];omega)
 rw[show gJ (.mk 10 n s t l fs)=if aU (.mk 10 n s t l fs)=true then 19 else if aq (.mk 10 n s t l fs)=false then 3 else (if bO t=false then 12 else if l.length=0 then 4 else cZ l.length 1 3) from rfl]
 generalize aU (.mk 10 n s t l fs)=b1 at hn ⊢
 generalize aq (.mk 10 n s t l fs)=b2 at hu ⊢
 simp only[Val.pv_mk] at hn hu
 have hr:=pX t
 generalize bO t=q at hr ⊢
 refine am.intro fc.2 (by simp[fc]) ?_
 simp(disch:=try exact dI) only[fc,Val.pv_mk,push_cast,seval]
 refine ab.pure hn rfl ?_
 cases b1 with
 | true=>simp(disch:=try exact dI) only[push_cast,seval]
 | false=>
 refine zgZ ?_
 refine ab.pure hu rfl ?_
 cases b2 with
 | false=>simp(disch:=try exact dI) only[push_cast,seval]
 | true=>
 refine zgZ ?_
 refine ab.pure hr rfl ?_
 cases q with
 | false=>simp(disch:=try exact dI) only[push_cast,seval]
 | true=>
 by_cases h0:l.length=0
 ·have h0I:(l.length:Int)=0:=by omega
  rw[if_pos h0]
  simp(disch:=try exact dI) only[h0I,push_cast,seval]
 ·have h0I:¬ (l.length:Int)=0:=by omega
  rw[if_neg h0]
  by_cases h5:(1:Int)<l.length
  ·rw[show cZ l.length 1 3=3 from if_pos h5]
   simp(disch:=try exact dI) only[h0I,h5,push_cast,seval]
  ·rw[show cZ l.length 1 3=0 from if_neg h5]
   simp(disch:=try exact dI) only[h0I,h5,push_cast,seval]
end
theorem Lp (v:Val):am Tryz.prog az 236 [v.pv] (.int .i64 (gJ v)):=by
 by_cases hk:v.kind<1\/10<v.kind
 ·exact ud v hk
 ·obtain⟨k,n,s,t,l,fs⟩:=v
  simp only[Val.kind] at hk
  have hc:k=1\/k=2\/k=3\/k=4\/k=5\/k=6\/k=7\/k=8\/k=9\/k=10:=by omega
  clear hk
  rcases hc with rfl | rfl | rfl | rfl | rfl | rfl | rfl | rfl | rfl | rfl
  ·exact DI n s t l fs
  ·exact DH n s t l fs
  ·exact DG n s t l fs
  ·exact DF n s t l fs
  ·exact DE n s t l fs
  ·exact DD n s t l fs
  ·exact DC n s t l fs
  ·exact DB n s t l fs
  ·exact DA n s t l fs
  ·exact yN n s t l fs
end Go.Proofs.YtbojpfpliibfbaaGreatDoor

/- A part of the proof for FixedwidthRepresentableCardSaid. -/
import Derived.Test.YtbojpfpliibfbaaGreatDoorReRSg
import Derived.Test.YtbojpfpliibfbaaGreatDoorReRU0
set_option maxRecDepth 100000
set_option linter.unusedVariables false
set_option linter.unusedSimpArgs false
-- many steps
namespace Go.Proofs.YtbojpfpliibfbaaGreatDoor
open Go Go.Ab
attribute [local irreducible] vc
theorem cf (n a b:Int):ag Tryz.prog aD 268 [.int .i64 n,.int .i64 a,.int .i64 b] (.bool (!inB n a b)):=by
 refine ag.intro GJ (by simp[KN]) ?_
 by_cases h1:a≤n
 ·have h1':¬ n<a:=by omega
  by_cases h2:n≤b
  ·have h2':¬ b<n:=by omega
   rw[show inB n a b=true by simp[inB,h1,h2]]
   simp(maxSteps:=9^7) (disch:=try exact dI) only[KN,h1',h2',push_cast,seval]
  ·have h2':b<n:=by omega
   rw[show inB n a b=false by simp[inB,h2]]
   simp(maxSteps:=9^7) (disch:=try exact dI) only[KN,h1',h2',push_cast,seval]
 ·have h1':n<a:=by omega
  rw[show inB n a b=false by simp[inB,h1]]
  simp(maxSteps:=9^7) (disch:=try exact dI) only[KN,h1',push_cast,seval]
def eI (fs:List Fld):Int:=if cm fs.length 64 9=0 then d7 none (fs.map Fld.name) else cm fs.length 64 9
set_option maxHeartbeats 2000000 in
theorem wE (fs:List Fld):ag Tryz.prog aD 269 [.list (fs.map Fld.pv)] (.int .i64 (eI fs)):=by
 unfold eI
 by_cases h64:(64:Int)<fs.length
 ·rw[show cm fs.length 64 9=9 from if_pos h64]
  rw[if_neg (by omega)]
  refine ag.intro ya (by simp[KM]) ?_
  simp(maxSteps:=9^7) (disch:=try exact dI) only[KM,h64,push_cast,seval]
 ·rw[show cm fs.length 64 9=0 from if_neg h64]
  rw[if_pos rfl]
  have hfl:fs.length≤64:=by omega
  obtain⟨R,hR⟩:∃ R,R=d7 none (fs.map Fld.name):=⟨_,rfl⟩
  rw[← hR]
  refine ag.intro ya (by simp[KM]) ?_
  simp(maxSteps:=9^7) (disch:=try exact dI) only[KM,h64,push_cast,seval]
  refine aw ([]) (fun i:Nat=>[(3,.pv (.int .i64 (i:Int)))]) (fun _=>[]) (fun i=>i≤fs.length∧R=d7 (fq fs i) ((fs.map Fld.name).drop i)) (fun i=>fs.length - i) (0) ?_;intro e0 σ0 n0 h0;simp(maxSteps:=9^7) (disch:=try exact dI) only[push_cast,seval] at h0;obtain⟨rfl,rfl,rfl⟩:=h0;refine⟨?_,?_,?_⟩
  ·simp(maxSteps:=9^7) (disch:=try exact dI) only[push_cast,seval]
  ·exact⟨by omega,by simpa[fq] using hR⟩
  rintro i ⟨hi,hr⟩
  by_cases hlt:i<fs.length
  ·have hltI:(i:Int)<(fs.length:Int):=by omega
   obtain⟨c,hc⟩:∃ c,fs[i]? = some c:=⟨_,List.getElem?_eq_getElem hlt⟩
   obtain⟨nm,⟨k',n',s',t',l',f'⟩⟩:=c
   have hcp:(fs.map Fld.pv)[i]? = some (.agg [.str nm,.int .i64 k',.int .i64 n',.int .i64 s',.str t',.list (l'.map Val.pv),.list (f'.map Fld.pv)]):=by simp[hc,Fld.pv_mk,Val.pv_mk,ae]
   have hnm:(fs.map Fld.name)[i]? = some nm:=by simp[hc,Fld.name]
   have hn:=nD nm
   rw[iD hnm] at hr
   have hnext:fq fs (i+1)=some nm:=by simp[fq,hc,Fld.name]
   cases hb:bM nm with
   | false=>
     rw[hb] at hn hr
     rw[if_pos rfl] at hr
     subst hr
     simp(maxSteps:=9^7) (disch:=try exact dI) only[hcp,push_cast,seval]
     refine ab.pure hn rfl ?_
     simp(maxSteps:=9^7) (disch:=try exact dI) only[push_cast,seval]
   | true=>
     rw[hb] at hn hr
     rw[if_neg (by simp)] at hr
     by_cases hi0:i=0
     ·have hiI:¬ (0:Int)<(i:Int):=by omega
      have hpn:fq fs i=none:=if_pos hi0
      rw[hpn,if_neg (by simp),if_neg (by simp),← hnext] at hr
      simp(maxSteps:=9^7) (disch:=try exact dI) only[hcp,push_cast,seval]
      refine ab.pure hn rfl ?_
      simp(maxSteps:=9^7) (disch:=try exact dI) only[push_cast,seval]
      exact⟨i+1,aT qsZ,⟨by omega,by rw[List.map_drop];exact hr⟩,by omega⟩
     ·obtain⟨j,rfl⟩:∃ j,i=j+1:=⟨i - 1,by omega⟩
      obtain⟨c,hc'⟩:∃ c,fs[j]? = some c:=⟨_,List.getElem?_eq_getElem (by omega)⟩
      have hpn:fq fs (j+1)=some c.name:=by simp[fq,hc']
      obtain⟨q,⟨k2,n2,s2,t2,l2,f2⟩⟩:=c
      have hcq:(fs.map Fld.pv)[j]? = some (.agg [.str q,.int .i64 k2,.int .i64 n2,.int .i64 s2,.str t2,.list (l2.map Val.pv),.list (f2.map Fld.pv)]):=by simp[hc',Fld.pv_mk,Val.pv_mk,ae]
      simp only[Fld.name] at hpn
      rw[hpn] at hr
      by_cases hq:nm=q
      ·subst hq
       rw[if_pos rfl] at hr
       subst hr
       simp(maxSteps:=9^7) (disch:=try exact dI) only[hcp,hcq,Int.add_sub_cancel,push_cast,seval]
       refine ab.pure hn rfl ?_
       simp(maxSteps:=9^7) (disch:=try exact dI) only[hcp,hcq,Int.add_sub_cancel,push_cast,seval]
      ·rw[if_neg (by simpa using fun e=>hq e.symm)] at hr
       cases hlt2:bV nm q with
       | true=>
         rw[if_pos (by simpa using hlt2)] at hr
         subst hr
         simp(maxSteps:=9^7) (disch:=try exact dI) only[hcp,hcq,Int.add_sub_cancel,push_cast,seval]
         refine ab.pure hn rfl ?_
         simp(maxSteps:=9^7) (disch:=try exact dI) only[hcp,hcq,Int.add_sub_cancel,hq,hlt2,push_cast,seval]
       | false=>
         rw[if_neg (by simp[hlt2]),← hnext] at hr
         simp(maxSteps:=9^7) (disch:=try exact dI) only[hcp,hcq,Int.add_sub_cancel,push_cast,seval]
         refine ab.pure hn rfl ?_
         simp(maxSteps:=9^7) (disch:=try exact dI) only[hcp,hcq,Int.add_sub_cancel,hq,hlt2,push_cast,seval]
         exact⟨j+1+1,aT qsZ,⟨by omega,by rw[List.map_drop];exact hr⟩,by omega⟩
  ·have hie:i=fs.length:=by omega
   subst hie
   rw[List.drop_of_length_le (by simp)] at hr
   rw[show R=0 from hr]
   simp(maxSteps:=9^7) (disch:=try exact dI) only[push_cast,seval]
end Go.Proofs.YtbojpfpliibfbaaGreatDoor
-- many steps
namespace Go.Proofs.YtbojpfpliibfbaaGreatDoor
open Go Go.Ab
attribute [local irreducible] vc
theorem oQ (v:Val)(hl:v.lst.length*88≤140737488351232)(hf:v.fields.length*104≤140737488351232):ag Tryz.prog aD 237 [v.pv] (.list ((a8 v).map Val.pv)):=by
 obtain⟨k,n,s,t,l,fs⟩:=v
 simp only[Val.fields,Val.lst] at hf hl
 by_cases h8:k=8∨k=10
 ·rw[bP (v:=.mk k n s t l fs) h8]
  simp only[Val.lst]
  cases l with
  | nil=>
    rcases h8 with rfl | rfl
    ·refine ag.intro f8 (by simp[sC]) ?_
     simp(maxSteps:=9^7) (disch:=try exact dI) only[sC,Val.pv_mk,push_cast,seval]
    ·refine ag.intro f8 (by simp[sC]) ?_
     simp(maxSteps:=9^7) (disch:=try exact dI) only[sC,Val.pv_mk,push_cast,seval]
  | cons x r=>
    rw[List.length_cons] at hl
    rcases h8 with rfl | rfl
    ·refine ag.intro f8 (by simp[sC]) ?_
     simp(maxSteps:=9^7) (disch:=try exact dI) only[sC,Val.pv_mk,Val.cells_len,push_cast,seval]
    ·refine ag.intro f8 (by simp[sC]) ?_
     simp(maxSteps:=9^7) (disch:=try exact dI) only[sC,Val.pv_mk,Val.cells_len,push_cast,seval]
 ·by_cases h9:k=9
  ·subst h9
   rw[cB (v:=.mk 9 n s t l fs) rfl]
   simp only[Val.fields]
   refine ag.intro f8 (by simp[sC]) ?_
   simp(maxSteps:=9^7) (disch:=try exact dI) only[sC,Val.pv_mk,push_cast,seval]
   refine aw ([(3,0,36,6)]) (fun i:Nat=>[(3,.olist 0 6 (((fs.take i).map Fld.value).map Val.pv)),(4,.pv (.int .i64 (i:Int)))]) (fun _=>[]) (fun i=>i≤fs.length) (fun i=>fs.length - i) (0) ?_;intro e0 σ0 n0 h0;simp(maxSteps:=9^7) (disch:=try exact dI) only[push_cast,seval] at h0;obtain⟨rfl,rfl,rfl⟩:=h0;refine⟨?_,?_,?_⟩
   ·simp(maxSteps:=9^7) (disch:=try exact dI) only[push_cast,seval]
   ·omega
   rintro i hi
   by_cases hlt:i<fs.length
   ·have hltI:(i:Int)<(fs.length:Int):=by omega
    obtain⟨c,hc⟩:∃ c,fs[i]? = some c:=⟨_,List.getElem?_eq_getElem hlt⟩
    have hts:=aI hc
    have hlt2:(fs.take i).length=i:=by rw[List.length_take];omega
    obtain⟨nm,⟨k',n',s',t',l',f'⟩⟩:=c
    have hcp:(fs.map Fld.pv)[i]? = some (.agg [.str nm,.int .i64 k',.int .i64 n',.int .i64 s',.str t',.list (l'.map Val.pv),.list (f'.map Fld.pv)]):=by simp[hc,Fld.pv_mk,Val.pv_mk,ae]
    simp(maxSteps:=9^7) (disch:=try exact dI) only[hcp,hlt2,push_cast,seval]
    exact⟨i+1,aT (by simp(maxSteps:=9^7) (disch:=try exact dI) only[hts,List.map_append,Fld.value,Val.pv_mk,push_cast,seval]),by omega,by omega⟩
   ·have he:i=fs.length:=by omega
    subst he
    simp(maxSteps:=9^7) (disch:=try exact dI) only[List.take_length,kv,push_cast,seval]
  ·rw[dB (v:=.mk k n s t l fs) h8 h9]
   refine ag.intro f8 (by simp[sC]) ?_
   have e1:¬ k=8:=by omega
   have e2:¬ k=10:=by omega
   simp(maxSteps:=9^7) (disch:=try exact dI) only[sC,Val.pv_mk,push_cast,seval]
def szN:Nat→Val→Nat
 | 0,_=>0
 | n+1,v=>1+((a8 v).map (szN n)).sum
theorem iR {α β:Type}{p:α→List β}{q:α→Nat}:∀ (l:List α),(∀ x∈l,(p x).length=q x)→(l.flatMap p).length=(l.map q).sum
 | [],_=>rfl
 | x::r,h=>by
   rw[List.flatMap_cons,List.length_append,h x (List.mem_cons_self ..),iR r fun y hy=>h y (List.mem_cons_of_mem _ hy)]
   simp
theorem nA:∀ (n:Nat) (lv:Int) (v:Val),(cy n lv v).length=szN n v
 | 0,_,_=>rfl
 | n+1,lv,v=>by
   rw[cy,szN,List.length_cons,iR _ fun x _=>nA n (Go.RowKit.wrap64 (lv+1)) x]
   omega
theorem lj {p:Val→Nat}{f:List Val}{i:Nat}{g:Val}(h:f[i]? = some g):((f.take (i+1)).map p).sum=((f.take i).map p).sum+p g:=by
 rw[aI h,List.map_append,List.sum_append];simp
theorem tD {p:Val→Nat}{f:List Val}(i:Nat):((f.take i).map p).sum≤(f.map p).sum:=by
 have h:(f.map p).sum=((f.take i).map p).sum+((f.drop i).map p).sum:=by
  rw[← List.sum_append,← List.map_append,List.take_append_drop]
 omega
theorem yZ {p:Val→Nat}{f:List Val}{i:Nat}{g:Val}(h:f[i]? = some g):p g≤(f.map p).sum:=by
 have h1:=lj (p:=p) h
 have h2:=tD (p:=p) (f:=f) (i+1)
 omega
theorem qV (v:Val)(hv:v.ok):(a8 v).length≤140737488351232:=by
 obtain⟨k,n,s,t,l,fs⟩:=v
 rw[Val.ok_mk] at hv
 obtain⟨_,_,_,_,h5,_,h7,_⟩:=hv
 by_cases h8:k=8∨k=10
 ·rw[bP (v:=.mk k n s t l fs) h8];simp only[Val.lst];omega
 ·by_cases h9:k=9
  ·rw[cB (v:=.mk k n s t l fs) h9];simp only[Val.fields,List.length_map];omega
  ·rw[dB (v:=.mk k n s t l fs) h8 h9];simp
theorem lJ {v x:Val}(hv:v.ok)(hx:x∈a8 v):x.ok:=by
 obtain⟨k,n,s,t,l,fs⟩:=v
 rw[Val.ok_mk] at hv
 obtain⟨_,_,_,_,_,h6,_,h8'⟩:=hv
 by_cases h8:k=8∨k=10
 ·rw[bP (v:=.mk k n s t l fs) h8] at hx;exact h6 x hx
 ·by_cases h9:k=9
  ·rw[cB (v:=.mk k n s t l fs) h9] at hx
   obtain⟨f,hf,rfl⟩:=List.mem_map.1 hx
   have:=h8' f hf
   obtain⟨a,b⟩:=f
   rw[Fld.ok_mk] at this;exact this.2
  ·rw[dB (v:=.mk k n s t l fs) h8 h9] at hx;cases hx
set_option maxHeartbeats 4000000 in
theorem tO:∀ (n:Nat) (v:Val),cL n v→v.ok→szN n v≤9223372036854775806→ag Tryz.prog aD 190 [v.pv] (.int .i64 (szN n v:Int))
 | 0,_,h,_,_=>h.elim
 | n+1,v,hd,hv,hs=>by
   have ih:=tO n
   have hpl:=qV v hv
   have hpo:=fun x (hx:x∈a8 v)=>lJ hv hx
   have hp:=oQ v (by cases v;rw[Val.ok_mk] at hv;exact hv.2.2.2.2.1) (by cases v;rw[Val.ok_mk] at hv;exact hv.2.2.2.2.2.2.1)
   rw[cL] at hd
   rw[szN] at hs ⊢
   generalize a8 v=ps at *
   obtain⟨k,vn,s,t,l,fs⟩:=v
   simp only[Val.pv_mk] at hp
   refine ag.intro G4 (by simp[M9]) ?_
   simp(maxSteps:=9^7) (disch:=try exact dI) only[M9,Val.pv_mk,push_cast,seval]
   refine ab.pure hp rfl ?_
   simp(maxSteps:=9^7) (disch:=try exact dI) only[push_cast,seval]
   refine aw ([]) (fun i:Nat=>[(3,.pv (.int .i64 ((1+((ps.take i).map (szN n)).sum:Nat):Int))),(5,.pv (.int .i64 (i:Int)))]) (fun _=>[]) (fun i=>i≤ps.length) (fun i=>ps.length - i) (0) ?_;intro e0 σ0 n0 h0;simp(maxSteps:=9^7) (disch:=try exact dI) only[push_cast,seval] at h0;obtain⟨rfl,rfl,rfl⟩:=h0;refine⟨?_,?_,?_⟩
   ·simp(maxSteps:=9^7) (disch:=try exact dI) only[List.take_zero,List.map_nil,List.sum_nil,push_cast,seval]
   ·omega
   rintro i hi
   by_cases hlt:i<ps.length
   ·have hltI:(i:Int)<(ps.length:Int):=by omega
    obtain⟨x,hx⟩:∃ x,ps[i]? = some x:=⟨_,List.getElem?_eq_getElem hlt⟩
    have hxm:=List.mem_of_getElem? hx
    have h1:=lj (p:=szN n) hx
    have h2:=tD (p:=szN n) (f:=ps) (i+1)
    have h3:=yZ (p:=szN n) hx
    have hc:=ih x (hd x hxm) (hpo x hxm) (by omega)
    generalize ((ps.take i).map (szN n)).sum=S at *
    generalize szN n x=z at *
    obtain⟨xk,xn,xs,xt,xl,xf⟩:=x
    simp only[Val.pv_mk] at hc
    simp(maxSteps:=9^7) (disch:=try exact dI) only[hx,Option.map_some,Val.pv_mk,push_cast,seval]
    refine ab.pure hc rfl ?_
    simp(maxSteps:=9^7) (disch:=try exact dI) only[push_cast,seval]
    exact⟨i+1,aT (by simp(maxSteps:=9^7) (disch:=try exact dI) only[h1,Int.add_assoc,push_cast,seval]),by omega,by omega⟩
   ·obtain rfl:i=ps.length:=by omega
    rw[List.take_length]
    simp(maxSteps:=9^7) (disch:=try exact dI) only[Int.lt_irrefl,push_cast,seval]
end Go.Proofs.YtbojpfpliibfbaaGreatDoor

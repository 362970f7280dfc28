/- A part of the proof for DelimitedRepresentableCardSaid. -/
import Derived.Test.YtbaaokocnegdoaaGreatDoorRepVSf
set_option maxRecDepth 100000
set_option linter.unusedVariables false
set_option linter.unusedSimpArgs false
-- many steps
namespace Go.Proofs.YtbaaokocnegdoaaGreatDoor
open Go Go.Ab
attribute [local irreducible] vc
theorem fD {k m M s:Int}{w:List (List UInt8)}{e:List Typ}{f:List TFd}(h:bA (.mk k m M s w e f)=0):(¬ k=8→e=[])∧(¬ (k=9∨k=10)→f=[]):=by
 rw[bA] at h
 by_cases a:inB k 1 10=false
 ·rw[if_pos a] at h;exact absurd h (by decide)
 rw[if_neg a] at h
 have hr:1≤k∧k≤10:=by simpa[inB] using a
 by_cases b:aV k (.mk k m M s w e f)=true
 ·rw[if_pos b] at h;exact absurd h (by decide)
 have b':aV k (.mk k m M s w e f)=false:=by simpa using b
 simp only[aV,am,Bool.or_eq_false_iff] at b'
 obtain⟨_,_,_,b4,b5⟩:=b'
 refine⟨fun h8=>?_,fun h9=>?_⟩
 ·rw[decide_eq_false h8] at b4
  exact List.length_eq_zero_iff.1 (by simpa using b4)
 ·have h9':¬ 9≤k:=by omega
  rw[decide_eq_false h9'] at b5
  exact List.length_eq_zero_iff.1 (by simpa using b5)
theorem w9 {m M s:Int}{w:List (List UInt8)}{e:List Typ}{f:List TFd}(h:bA (.mk 8 m M s w e f)=0):m≤256:=by
 have hb:=(bS h).2.1
 unfold az at hb
 rw[if_neg (fun hh=>absurd hh.1 (by decide))] at hb
 by_cases hc:(2≤(8:Int)∧(8:Int)≤8)∧(M<m∨m<loK 8∨hiK 8<M)
 ·rw[if_pos hc] at hb;exact absurd hb (by decide)
 ·have h2:¬ (M<m∨m<loK 8∨hiK 8<M):=fun hh=>hc ⟨by decide,hh⟩
  rw[show hiK 8=256 from rfl] at h2
  omega
theorem wZ {m M s:Int}{w:List (List UInt8)}{e:List Typ}{f:List TFd}(h:bA (.mk 10 m M s w e f)=0):∃ g r,f=g::r:=by
 have h1:=(bS h).2.2.1
 cases f with
 | cons g r=>exact⟨g,r,rfl⟩
 | nil=>simp[aC] at h1
theorem E3 {k m M s:Int}{w:List (List UInt8)}{e:List Typ}{f:List TFd}(h:bA (.mk k m M s w e f)=0):f.length≤64:=by
 have h1:=(bS h).2.2.1
 by_cases hc:64<f.length
 ·exfalso
  unfold aC at h1
  repeat' split at h1
  all_goals first | exact absurd h1 (by decide) | omega
 ·omega
theorem gW:∀ (n N:Nat) (t:Typ),n≤N→tyV n t→bm n t→dY N t
 | 0,_,_,_,h,_=>h.elim
 | _+1,0,_,h,_,_=>absurd h (by omega)
 | n+1,N+1,.mk k m M s w e f,hN,h,ht=>by
   obtain⟨ho,h8,h9⟩:=h
   simp only[bm] at ht
   obtain⟨t1,t2,t3,t4,t5,t6⟩:=ht
   refine⟨fun hk hm=>?_,fun hk=>?_,fun hk=>⟨E3 ho,fun g hg=>?_⟩⟩
   ·subst hk
    obtain⟨x,rfl⟩:=g6 ho
    exact⟨w9 ho,x,[],rfl,gW n N x (by omega) (h8 rfl x (List.mem_cons_self ..)) (t5 x (List.mem_cons_self ..))⟩
   ·subst hk
    obtain⟨g,r,rfl⟩:=wZ ho
    exact⟨g,r,rfl,gW n N g.typ (by omega) (h9 (.inr rfl) g (List.mem_cons_self ..)) (t6 g (List.mem_cons_self ..)).2.2⟩
   ·subst hk
    have hs:=gW n N g.typ (by omega) (h9 (.inl rfl) g hg) (t6 g hg).2.2
    obtain⟨b,hb⟩:=bL f [] (bS ho).2.2.2 g hg
    have hd:=(t6 g hg).2.1
    obtain⟨n',nm',nd',t',d'⟩:=g
    refine⟨fun _=>hs,fun h3=>?_⟩
    subst h3
    obtain⟨x,r,rfl⟩:=eK hb
    obtain⟨x1,x2,x3⟩:=hd x (List.mem_cons_self ..)
    exact⟨x,r,rfl,x2,x1.1,x3⟩
theorem zZ:∀ (n:Nat) (t:Typ),n≤9→tyV n t→bm n t→LB n t
 | 0,_,_,h,_=>h.elim
 | n+1,.mk k m M s w e f,hN,h,ht=>by
   have hs:=gW (n+1) 9 _ hN h ht
   obtain⟨ho,h8,h9⟩:=h
   obtain⟨he,hf⟩:=fD ho
   simp only[bm] at ht
   obtain⟨t1,t2,t3,t4,t5,t6⟩:=ht
   refine⟨hs,by omega,by omega,fun x hx=>?_,fun g hg=>?_⟩
   ·by_cases hk:k=8
    ·exact zZ n x (by omega) (h8 hk x hx) (t5 x hx)
    ·rw[he hk] at hx;cases hx
   ·by_cases hk:k=9∨k=10
    ·exact zZ n g.typ (by omega) (h9 hk g hg) (t6 g hg).2.2
    ·rw[hf hk] at hg;cases hg
def F9 (n:Nat)(t:Typ):Int:=if (du n 4096 t).1=0 then (if 4096<bY n t then 9 else 0) else (du n 4096 t).1
theorem H2 (n:Nat)(t:Typ)(hn:n≤5)(ht:bm n t)(hw:aN n t):ak Tryz.prog aD 48 [t.pv] (.int .i64 (F9 n t)):=by
 have hcnt:hZ n≤4096:=by
  have hc:n=0∨n=1∨n=2∨n=3∨n=4∨n=5:=by omega
  rcases hc with rfl | rfl | rfl | rfl | rfl | rfl<;>decide
 have h94:=zp n t 1 4096 ht hw (by omega) (by omega) hcnt (by omega)
 have h95:(du n 4096 t).1=0→ak Tryz.prog aD 95 [t.pv] (.int .i64 (bY n t)):=fun h=>eV n t (zZ n t (by omega) (fe n 4096 t hw h) ht)
 simp only[F9]
 obtain⟨⟨z,L⟩,hq⟩:∃ q,q=du n 4096 t:=⟨_,rfl⟩
 rw[← hq] at h94 h95 ⊢
 simp only at h94 h95 ⊢
 clear hq
 generalize bY n t=G at h95 ⊢
 obtain⟨k,m,M,s,w,e,f⟩:=t
 simp only[Typ.pv_mk] at h94 h95
 refine ak.intro EM (by simp[Ax]) ?_
 by_cases hz:z=0
 ·subst hz
  have h95:=h95 rfl
  rw[if_pos rfl]
  by_cases hg:4096<G
  ·rw[if_pos hg]
   simp(maxSteps:=9^7) (disch:=first|exact dI|fail) only[Ax,Typ.pv_mk,push_cast,seval]
   refine ab.lentK h94 [1] rfl (by simp(maxSteps:=9^7) (disch:=first|exact dI|fail) only[push_cast,seval]) (by simp(maxSteps:=9^7) (disch:=first|exact dI|fail) only[push_cast,seval]) ?_
   simp(maxSteps:=9^7) (disch:=first|exact dI|fail) only[push_cast,seval]
   refine ab.pure h95 rfl ?_
   simp(maxSteps:=9^7) (disch:=first|exact dI|fail) only[hg,push_cast,seval]
  ·rw[if_neg hg]
   simp(maxSteps:=9^7) (disch:=first|exact dI|fail) only[Ax,Typ.pv_mk,push_cast,seval]
   refine ab.lentK h94 [1] rfl (by simp(maxSteps:=9^7) (disch:=first|exact dI|fail) only[push_cast,seval]) (by simp(maxSteps:=9^7) (disch:=first|exact dI|fail) only[push_cast,seval]) ?_
   simp(maxSteps:=9^7) (disch:=first|exact dI|fail) only[push_cast,seval]
   refine ab.pure h95 rfl ?_
   simp(maxSteps:=9^7) (disch:=first|exact dI|fail) only[hg,push_cast,seval]
 ·rw[if_neg hz]
  simp(maxSteps:=9^7) (disch:=first|exact dI|fail) only[Ax,Typ.pv_mk,push_cast,seval]
  refine ab.lentK h94 [1] rfl (by simp(maxSteps:=9^7) (disch:=first|exact dI|fail) only[push_cast,seval]) (by simp(maxSteps:=9^7) (disch:=first|exact dI|fail) only[push_cast,seval]) ?_
  simp(maxSteps:=9^7) (disch:=first|exact dI|fail) only[hz,push_cast,seval]
end Go.Proofs.YtbaaokocnegdoaaGreatDoor
set_option maxRecDepth 100000
set_option linter.unusedVariables false
set_option linter.unusedSimpArgs false
-- many steps
namespace Go.Proofs.YtbaaokocnegdoaaGreatDoor
open Go Go.Ab
attribute [local irreducible] vc
theorem cb (n a b:Int):ak Tryz.prog aD 288 [.int .i64 n,.int .i64 a,.int .i64 b] (.bool (!inB n a b)):=by
 refine ak.intro It (by simp[LV]) ?_
 by_cases h1:a≤n
 ·have h1':¬ n<a:=by omega
  by_cases h2:n≤b
  ·have h2':¬ b<n:=by omega
   rw[show inB n a b=true by simp[inB,h1,h2]]
   simp(maxSteps:=9^7) (disch:=first|exact dI|fail) only[LV,h1',h2',push_cast,seval]
  ·have h2':b<n:=by omega
   rw[show inB n a b=false by simp[inB,h2]]
   simp(maxSteps:=9^7) (disch:=first|exact dI|fail) only[LV,h1',h2',push_cast,seval]
 ·have h1':n<a:=by omega
  rw[show inB n a b=false by simp[inB,h1]]
  simp(maxSteps:=9^7) (disch:=first|exact dI|fail) only[LV,h1',push_cast,seval]
def eJ (fs:List Fld):Int:=if cn fs.length 64 9=0 then d7 none (fs.map Fld.name) else cn fs.length 64 9
set_option maxHeartbeats 2000000 in
theorem yQ (fs:List Fld):ak Tryz.prog aD 289 [.list (fs.map Fld.pv)] (.int .i64 (eJ fs)):=by
 unfold eJ
 by_cases h64:(64:Int)<fs.length
 ·rw[show cn fs.length 64 9=9 from if_pos h64]
  rw[if_neg (by omega)]
  refine ak.intro Al (by simp[LU]) ?_
  simp(maxSteps:=9^7) (disch:=first|exact dI|fail) only[LU,h64,push_cast,seval]
 ·rw[show cn fs.length 64 9=0 from if_neg h64]
  rw[if_pos rfl]
  have hfl:fs.length≤64:=by omega
  obtain⟨R,hR⟩:∃ R,R=d7 none (fs.map Fld.name):=⟨_,rfl⟩
  rw[← hR]
  refine ak.intro Al (by simp[LU]) ?_
  simp(maxSteps:=9^7) (disch:=first|exact dI|fail) only[LU,h64,push_cast,seval]
  refine aB ([]) (fun i:Nat=>[(3,.pv (.int .i64 (i:Int)))]) (fun _=>[]) (fun i=>i≤fs.length∧R=d7 (fB fs i) ((fs.map Fld.name).drop i)) (fun i=>fs.length - i) (0) ?_;intro e0 σ0 n0 h0;simp(maxSteps:=9^7) (disch:=first|exact dI|fail) only[push_cast,seval] at h0;obtain⟨rfl,rfl,rfl⟩:=h0;refine⟨?_,?_,?_⟩
  ·simp(maxSteps:=9^7) (disch:=first|exact dI|fail) only[push_cast,seval]
  ·exact⟨by omega,by simpa[fB] using hR⟩
  rintro i ⟨hi,hr⟩
  by_cases hlt:i<fs.length
  ·have hltI:(i:Int)<(fs.length:Int):=by omega
   obtain⟨c,hc⟩:∃ c,fs[i]? = some c:=⟨_,List.getElem?_eq_getElem hlt⟩
   obtain⟨nm,⟨k',n',s',t',l',f'⟩⟩:=c
   have hcp:(fs.map Fld.pv)[i]? = some (.agg [.str nm,.int .i64 k',.int .i64 n',.int .i64 s',.str t',.list (l'.map Val.pv),.list (f'.map Fld.pv)]):=by simp[hc,Fld.pv_mk,Val.pv_mk,ae]
   have hnm:(fs.map Fld.name)[i]? = some nm:=by simp[hc,Fld.name]
   have hn:=ow nm
   rw[iR hnm] at hr
   have hnext:fB fs (i+1)=some nm:=by simp[fB,hc,Fld.name]
   cases hb:bK nm with
   | false=>
     rw[hb] at hn hr
     rw[if_pos rfl] at hr
     subst hr
     simp(maxSteps:=9^7) (disch:=first|exact dI|fail) only[hcp,push_cast,seval]
     refine ab.pure hn rfl ?_
     simp(maxSteps:=9^7) (disch:=first|exact dI|fail) only[push_cast,seval]
   | true=>
     rw[hb] at hn hr
     rw[if_neg (by simp)] at hr
     by_cases hi0:i=0
     ·have hiI:¬ (0:Int)<(i:Int):=by omega
      have hpn:fB fs i=none:=if_pos hi0
      rw[hpn,if_neg (by simp),if_neg (by simp),← hnext] at hr
      simp(maxSteps:=9^7) (disch:=first|exact dI|fail) only[hcp,push_cast,seval]
      refine ab.pure hn rfl ?_
      simp(maxSteps:=9^7) (disch:=first|exact dI|fail) only[push_cast,seval]
      exact⟨i+1,bg (by simp(maxSteps:=9^7) (disch:=first|exact dI|fail) only[push_cast,seval]),⟨by omega,by rw[List.map_drop];exact hr⟩,by omega⟩
     ·obtain⟨j,rfl⟩:∃ j,i=j+1:=⟨i - 1,by omega⟩
      obtain⟨c,hc'⟩:∃ c,fs[j]? = some c:=⟨_,List.getElem?_eq_getElem (by omega)⟩
      have hpn:fB fs (j+1)=some c.name:=by simp[fB,hc']
      obtain⟨q,⟨k2,n2,s2,t2,l2,f2⟩⟩:=c
      have hcq:(fs.map Fld.pv)[j]? = some (.agg [.str q,.int .i64 k2,.int .i64 n2,.int .i64 s2,.str t2,.list (l2.map Val.pv),.list (f2.map Fld.pv)]):=by simp[hc',Fld.pv_mk,Val.pv_mk,ae]
      simp only[Fld.name] at hpn
      rw[hpn] at hr
      by_cases hq:nm=q
      ·subst hq
       rw[if_pos rfl] at hr
       subst hr
       simp(maxSteps:=9^7) (disch:=first|exact dI|fail) only[hcp,hcq,Int.add_sub_cancel,push_cast,seval]
       refine ab.pure hn rfl ?_
       simp(maxSteps:=9^7) (disch:=first|exact dI|fail) only[hcp,hcq,Int.add_sub_cancel,push_cast,seval]
      ·rw[if_neg (by simpa using fun e=>hq e.symm)] at hr
       cases hlt2:bx nm q with
       | true=>
         rw[if_pos (by simpa using hlt2)] at hr
         subst hr
         simp(maxSteps:=9^7) (disch:=first|exact dI|fail) only[hcp,hcq,Int.add_sub_cancel,push_cast,seval]
         refine ab.pure hn rfl ?_
         simp(maxSteps:=9^7) (disch:=first|exact dI|fail) only[hcp,hcq,Int.add_sub_cancel,hq,hlt2,push_cast,seval]
       | false=>
         rw[if_neg (by simp[hlt2]),← hnext] at hr
         simp(maxSteps:=9^7) (disch:=first|exact dI|fail) only[hcp,hcq,Int.add_sub_cancel,push_cast,seval]
         refine ab.pure hn rfl ?_
         simp(maxSteps:=9^7) (disch:=first|exact dI|fail) only[hcp,hcq,Int.add_sub_cancel,hq,hlt2,push_cast,seval]
         exact⟨j+1+1,bg (by simp(maxSteps:=9^7) (disch:=first|exact dI|fail) only[push_cast,seval]),⟨by omega,by rw[List.map_drop];exact hr⟩,by omega⟩
  ·have hie:i=fs.length:=by omega
   subst hie
   rw[List.drop_of_length_le (by simp)] at hr
   rw[show R=0 from hr]
   simp(maxSteps:=9^7) (disch:=first|exact dI|fail) only[push_cast,seval]
end Go.Proofs.YtbaaokocnegdoaaGreatDoor
set_option maxRecDepth 100000
set_option linter.unusedVariables false
set_option linter.unusedSimpArgs false
-- many steps
namespace Go.Proofs.YtbaaokocnegdoaaGreatDoor
open Go Go.Ab
attribute [local irreducible] vc
theorem pQ (v:Val)(hl:v.lst.length*88≤140737488351232)(hf:v.fields.length*104≤140737488351232):ak Tryz.prog aD 251 [v.pv] (.list ((aT v).map Val.pv)):=by
 obtain⟨k,n,s,t,l,fs⟩:=v
 simp only[Val.fields,Val.lst] at hf hl
 by_cases h8:k=8∨k=10
 ·rw[bM (v:=.mk k n s t l fs) h8]
  simp only[Val.lst]
  cases l with
  | nil=>
    rcases h8 with rfl | rfl
    ·refine ak.intro gr (by simp[uh]) ?_
     simp(maxSteps:=9^7) (disch:=first|exact dI|fail) only[uh,Val.pv_mk,push_cast,seval]
    ·refine ak.intro gr (by simp[uh]) ?_
     simp(maxSteps:=9^7) (disch:=first|exact dI|fail) only[uh,Val.pv_mk,push_cast,seval]
  | cons x r=>
    rw[List.length_cons] at hl
    rcases h8 with rfl | rfl
    ·refine ak.intro gr (by simp[uh]) ?_
     simp(maxSteps:=9^7) (disch:=first|exact dI|fail) only[uh,Val.pv_mk,Val.cells_len,push_cast,seval]
    ·refine ak.intro gr (by simp[uh]) ?_
     simp(maxSteps:=9^7) (disch:=first|exact dI|fail) only[uh,Val.pv_mk,Val.cells_len,push_cast,seval]
 ·by_cases h9:k=9
  ·subst h9
   rw[cC (v:=.mk 9 n s t l fs) rfl]
   simp only[Val.fields]
   refine ak.intro gr (by simp[uh]) ?_
   simp(maxSteps:=9^7) (disch:=first|exact dI|fail) only[uh,Val.pv_mk,push_cast,seval]
   refine aB ([(3,0,31,6)]) (fun i:Nat=>[(3,.olist 0 6 (((fs.take i).map Fld.value).map Val.pv)),(4,.pv (.int .i64 (i:Int)))]) (fun _=>[]) (fun i=>i≤fs.length) (fun i=>fs.length - i) (0) ?_;intro e0 σ0 n0 h0;simp(maxSteps:=9^7) (disch:=first|exact dI|fail) only[push_cast,seval] at h0;obtain⟨rfl,rfl,rfl⟩:=h0;refine⟨?_,?_,?_⟩
   ·simp(maxSteps:=9^7) (disch:=first|exact dI|fail) only[push_cast,seval]
   ·omega
   rintro i hi
   by_cases hlt:i<fs.length
   ·have hltI:(i:Int)<(fs.length:Int):=by omega
    obtain⟨c,hc⟩:∃ c,fs[i]? = some c:=⟨_,List.getElem?_eq_getElem hlt⟩
    have hts:=aH hc
    have hlt2:(fs.take i).length=i:=by rw[List.length_take];omega
    obtain⟨nm,⟨k',n',s',t',l',f'⟩⟩:=c
    have hcp:(fs.map Fld.pv)[i]? = some (.agg [.str nm,.int .i64 k',.int .i64 n',.int .i64 s',.str t',.list (l'.map Val.pv),.list (f'.map Fld.pv)]):=by simp[hc,Fld.pv_mk,Val.pv_mk,ae]
    simp(maxSteps:=9^7) (disch:=first|exact dI|fail) only[hcp,hlt2,push_cast,seval]
    exact⟨i+1,bg (by simp(maxSteps:=9^7) (disch:=first|exact dI|fail) only[hts,List.map_append,Fld.value,Val.pv_mk,push_cast,seval]),by omega,by omega⟩
   ·have he:i=fs.length:=by omega
    subst he
    simp(maxSteps:=9^7) (disch:=first|exact dI|fail) only[List.take_length,kx,push_cast,seval]
  ·rw[dv (v:=.mk k n s t l fs) h8 h9]
   refine ak.intro gr (by simp[uh]) ?_
   have e1:¬ k=8:=by omega
   have e2:¬ k=10:=by omega
   simp(maxSteps:=9^7) (disch:=first|exact dI|fail) only[uh,Val.pv_mk,push_cast,seval]
def szN:Nat→Val→Nat
 | 0,_=>0
 | n+1,v=>1+((aT v).map (szN n)).sum
theorem jd {α β:Type}{p:α→List β}{q:α→Nat}:∀ (l:List α),(∀ x∈l,(p x).length=q x)→(l.flatMap p).length=(l.map q).sum
 | [],_=>rfl
 | x::r,h=>by
   rw[List.flatMap_cons,List.length_append,h x (List.mem_cons_self ..),jd r fun y hy=>h y (List.mem_cons_of_mem _ hy)]
   simp
theorem kv:∀ (n:Nat) (lv:Int) (v:Val),(bX n lv v).length=szN n v
 | 0,_,_=>rfl
 | n+1,lv,v=>by
   rw[bX,szN,List.length_cons,jd _ fun x _=>kv n (lv+1) x]
   omega
theorem lp {p:Val→Nat}{f:List Val}{i:Nat}{g:Val}(h:f[i]? = some g):((f.take (i+1)).map p).sum=((f.take i).map p).sum+p g:=by
 rw[aH h,List.map_append,List.sum_append];simp
theorem vu {p:Val→Nat}{f:List Val}(i:Nat):((f.take i).map p).sum≤(f.map p).sum:=by
 have h:(f.map p).sum=((f.take i).map p).sum+((f.drop i).map p).sum:=by
  rw[← List.sum_append,← List.map_append,List.take_append_drop]
 omega
theorem Bi {p:Val→Nat}{f:List Val}{i:Nat}{g:Val}(h:f[i]? = some g):p g≤(f.map p).sum:=by
 have h1:=lp (p:=p) h
 have h2:=vu (p:=p) (f:=f) (i+1)
 omega
theorem r7 (v:Val)(hv:v.ok):(aT v).length≤140737488351232:=by
 obtain⟨k,n,s,t,l,fs⟩:=v
 rw[Val.ok_mk] at hv
 obtain⟨_,_,_,_,h5,_,h7,_⟩:=hv
 by_cases h8:k=8∨k=10
 ·rw[bM (v:=.mk k n s t l fs) h8];simp only[Val.lst];omega
 ·by_cases h9:k=9
  ·rw[cC (v:=.mk k n s t l fs) h9];simp only[Val.fields,List.length_map];omega
  ·rw[dv (v:=.mk k n s t l fs) h8 h9];simp
theorem lU {v x:Val}(hv:v.ok)(hx:x∈aT v):x.ok:=by
 obtain⟨k,n,s,t,l,fs⟩:=v
 rw[Val.ok_mk] at hv
 obtain⟨_,_,_,_,_,h6,_,h8'⟩:=hv
 by_cases h8:k=8∨k=10
 ·rw[bM (v:=.mk k n s t l fs) h8] at hx;exact h6 x hx
 ·by_cases h9:k=9
  ·rw[cC (v:=.mk k n s t l fs) h9] at hx
   obtain⟨f,hf,rfl⟩:=List.mem_map.1 hx
   have:=h8' f hf
   obtain⟨a,b⟩:=f
   rw[Fld.ok_mk] at this;exact this.2
  ·rw[dv (v:=.mk k n s t l fs) h8 h9] at hx;cases hx
set_option maxHeartbeats 4000000 in
theorem vG:∀ (n:Nat) (v:Val),ce n v→v.ok→szN n v≤9223372036854775806→ak Tryz.prog aD 203 [v.pv] (.int .i64 (szN n v:Int))
 | 0,_,h,_,_=>h.elim
 | n+1,v,hd,hv,hs=>by
   have ih:=vG n
   have hpl:=r7 v hv
   have hpo:=fun x (hx:x∈aT v)=>lU hv hx
   have hp:=pQ v (by cases v;rw[Val.ok_mk] at hv;exact hv.2.2.2.2.1) (by cases v;rw[Val.ok_mk] at hv;exact hv.2.2.2.2.2.2.1)
   rw[ce] at hd
   rw[szN] at hs ⊢
   generalize aT v=ps at *
   obtain⟨k,vn,s,t,l,fs⟩:=v
   simp only[Val.pv_mk] at hp
   refine ak.intro IX (by simp[NS]) ?_
   simp(maxSteps:=9^7) (disch:=first|exact dI|fail) only[NS,Val.pv_mk,push_cast,seval]
   refine ab.pure hp rfl ?_
   simp(maxSteps:=9^7) (disch:=first|exact dI|fail) only[push_cast,seval]
   refine aB ([]) (fun i:Nat=>[(3,.pv (.int .i64 ((1+((ps.take i).map (szN n)).sum:Nat):Int))),(5,.pv (.int .i64 (i:Int)))]) (fun _=>[]) (fun i=>i≤ps.length) (fun i=>ps.length - i) (0) ?_;intro e0 σ0 n0 h0;simp(maxSteps:=9^7) (disch:=first|exact dI|fail) only[push_cast,seval] at h0;obtain⟨rfl,rfl,rfl⟩:=h0;refine⟨?_,?_,?_⟩
   ·simp(maxSteps:=9^7) (disch:=first|exact dI|fail) only[List.take_zero,List.map_nil,List.sum_nil,push_cast,seval]
   ·omega
   rintro i hi
   by_cases hlt:i<ps.length
   ·have hltI:(i:Int)<(ps.length:Int):=by omega
    obtain⟨x,hx⟩:∃ x,ps[i]? = some x:=⟨_,List.getElem?_eq_getElem hlt⟩
    have hxm:=List.mem_of_getElem? hx
    have h1:=lp (p:=szN n) hx
    have h2:=vu (p:=szN n) (f:=ps) (i+1)
    have h3:=Bi (p:=szN n) hx
    have hc:=ih x (hd x hxm) (hpo x hxm) (by omega)
    generalize ((ps.take i).map (szN n)).sum=S at *
    generalize szN n x=z at *
    obtain⟨xk,xn,xs,xt,xl,xf⟩:=x
    simp only[Val.pv_mk] at hc
    simp(maxSteps:=9^7) (disch:=first|exact dI|fail) only[hx,Option.map_some,Val.pv_mk,push_cast,seval]
    refine ab.pure hc rfl ?_
    simp(maxSteps:=9^7) (disch:=first|exact dI|fail) only[push_cast,seval]
    exact⟨i+1,bg (by simp(maxSteps:=9^7) (disch:=first|exact dI|fail) only[h1,Int.add_assoc,push_cast,seval]),by omega,by omega⟩
   ·obtain rfl:i=ps.length:=by omega
    rw[List.take_length]
    simp(maxSteps:=9^7) (disch:=first|exact dI|fail) only[Int.lt_irrefl,push_cast,seval]
end Go.Proofs.YtbaaokocnegdoaaGreatDoor

/- A part. -/
import Derived.Test.YtbaaokocnegdoaaGreatDoorEnVSe
set_option linter.unusedVariables false
set_option linter.unusedSimpArgs false
set_option maxHeartbeats 16000000
set_option maxRecDepth 100000
open List renaming length_eq_zero_iff->Wh,mem_cons_self->VN,getElem?_eq_getElem->Vg,length_cons->Vq,map_append->VI,take_length->VR
open Int renaming add_sub_cancel->VD
namespace Go.Proofs.YtbaaokocnegdoaaGreatDoor
open Go Go.Ab
attribute [local irreducible] vc
theorem iF {k m M s:Int}{w:List (List UInt8)}{e:List Typ}{f:List TFd}(h:fv (.mk k m M s w e f)=0):(¬ k=8->e=[])/\(¬ (k=9\/k=10)->f=[]):=by
 rw[fv] at h
 by_cases a:inB k 1 10=false
 ·rw[if_pos a] at h;exact absurd h (by decide)
 rw[if_neg a] at h
 have hr:1<=k/\k<=10:=by simpa[inB] using a
 by_cases b:fy k (.mk k m M s w e f)=true
 ·rw[if_pos b] at h;exact absurd h (by decide)
 have b':fy k (.mk k m M s w e f)=false:=by simpa using b
 simp only[fy,jD,Bool.or_eq_false_iff] at b'
 obtain⟨_,_,_,b4,b5⟩:=b'
 refine⟨fun h8=>?_,fun h9=>?_⟩
 ·rw[decide_eq_false h8] at b4
  exact Wh.1 (by simpa using b4)
 ·have h9':¬ 9<=k:=by omega
  rw[decide_eq_false h9'] at b5
  exact Wh.1 (by simpa using b5)
theorem C1 {m M s:Int}{w:List (List UInt8)}{e:List Typ}{f:List TFd}(h:fv (.mk 8 m M s w e f)=0):m<=256:=by
 have hb:=(bE h).2.1
 unfold cU at hb
 rw[if_neg (fun hh=>absurd hh.1 (by decide))] at hb
 by_cases hc:(2<=(8:Int)/\(8:Int)<=8)/\(M<m\/m<loK 8\/hiK 8<M)
 ·rw[if_pos hc] at hb;exact absurd hb (by decide)
 ·have h2:¬ (M<m\/m<loK 8\/hiK 8<M):=fun hh=>hc ⟨by decide,hh⟩
  rw[show hiK 8=256 from rfl] at h2
  omega
theorem CZ {m M s:Int}{w:List (List UInt8)}{e:List Typ}{f:List TFd}(h:fv (.mk 10 m M s w e f)=0):∃ g r,f=g::r:=by
 have h1:=(bE h).2.2.1
 cases f with
 | cons g r=>exact⟨g,r,rfl⟩
 | nil=>simp[bv] at h1
theorem Kb {k m M s:Int}{w:List (List UInt8)}{e:List Typ}{f:List TFd}(h:fv (.mk k m M s w e f)=0):f.length<=64:=by
 have h1:=(bE h).2.2.1
 by_cases hc:64<f.length
 ·exfalso
  unfold bv at h1
  repeat' split at h1
  all_goals first | exact absurd h1 (by decide) | omega
 ·omega
theorem kw:∀ (n N:Nat) (t:Typ),n<=N->tyV n t->bt n t->fh N t
 | 0,_,_,_,h,_=>h.elim
 | _+1,0,_,h,_,_=>absurd h (by omega)
 | n+1,N+1,.mk k m M s w e f,hN,h,ht=>by
   obtain⟨ho,h8,h9⟩:=h
   simp only[bt] at ht
   obtain⟨t1,t2,t3,t4,t5,t6⟩:=ht
   refine⟨fun hk hm=>?_,fun hk=>?_,fun hk=>⟨Kb ho,fun g hg=>?_⟩⟩
   ·subst hk
    obtain⟨x,rfl⟩:=kA ho
    exact⟨C1 ho,x,[],rfl,kw n N x (by omega) (h8 rfl x (VN ..)) (t5 x (VN ..))⟩
   ·subst hk
    obtain⟨g,r,rfl⟩:=CZ ho
    exact⟨g,r,rfl,kw n N g.typ (by omega) (h9 (.inr rfl) g (VN ..)) (t6 g (VN ..)).2.2⟩
   ·subst hk
    have hs:=kw n N g.typ (by omega) (h9 (.inl rfl) g hg) (t6 g hg).2.2
    obtain⟨b,hb⟩:=bI f [] (bE ho).2.2.2 g hg
    have hd:=(t6 g hg).2.1
    obtain⟨n',nm',nd',t',d'⟩:=g
    refine⟨fun _=>hs,fun h3=>?_⟩
    subst h3
    obtain⟨x,r,rfl⟩:=gq hb
    obtain⟨x1,x2,x3⟩:=hd x (VN ..)
    exact⟨x,r,rfl,x2,x1.1,x3⟩
theorem Fx:∀ (n:Nat) (t:Typ),n<=9->tyV n t->bt n t->Ro n t
 | 0,_,_,h,_=>h.elim
 | n+1,.mk k m M s w e f,hN,h,ht=>by
   have hs:=kw (n+1) 9 _ hN h ht
   obtain⟨ho,h8,h9⟩:=h
   obtain⟨he,hf⟩:=iF ho
   simp only[bt] at ht
   obtain⟨t1,t2,t3,t4,t5,t6⟩:=ht
   refine⟨hs,by omega,by omega,fun x hx=>?_,fun g hg=>?_⟩
   ·by_cases hk:k=8
    ·exact Fx n x (by omega) (h8 hk x hx) (t5 x hx)
    ·rw[he hk] at hx;cases hx
   ·by_cases hk:k=9\/k=10
    ·exact Fx n g.typ (by omega) (h9 hk g hg) (t6 g hg).2.2
    ·rw[hf hk] at hg;cases hg
def FV (n:Nat)(t:Typ):Int:=if (dL n 4096 t).1=0 then (if 4096<cB n t then 9 else 0) else (dL n 4096 t).1
theorem NH (n:Nat)(t:Typ)(hn:n<=5)(ht:bt n t)(hw:aP n t):ae Tryz.prog aq 48 [t.pv] (.int .i64 (FV n t)):=by
 have hcnt:kM n<=4096:=by
  have hc:n=0\/n=1\/n=2\/n=3\/n=4\/n=5:=by omega
  rcases hc with rfl | rfl | rfl | rfl | rfl | rfl<;>decide
 have h94:=E7 n t 1 4096 ht hw (by omega) (by omega) hcnt (by omega)
 have h95:(dL n 4096 t).1=0->ae Tryz.prog aq 95 [t.pv] (.int .i64 (cB n t)):=fun h=>gJ n t (Fx n t (by omega) (fS n 4096 t hw h) ht)
 simp only[FV]
 obtain⟨⟨z,L⟩,hq⟩:∃ q,q=dL n 4096 t:=⟨_,rfl⟩
 rw[<- hq] at h94 h95 ⊢
 simp only at h94 h95 ⊢
 clear hq
 generalize cB n t=G at h95 ⊢
 obtain⟨k,m,M,s,w,e,f⟩:=t
 simp only[Vd] at h94 h95
 refine ae.intro FP.2 (by simp[FP]) ?_
 by_cases hz:z=0
 ·subst hz
  have h95:=h95 rfl
  rw[if_pos rfl]
  by_cases hg:4096<G
  ·rw[if_pos hg]
   simp(disch:=try exact dI) only[FP,Vd,push_cast,seval]
   refine ab.lentK h94 [1] rfl qsZ qsZ ?_
   refine zgZ ?_
   refine ab.pure h95 rfl ?_
   simp(disch:=try exact dI) only[hg,push_cast,seval]
  ·rw[if_neg hg]
   simp(disch:=try exact dI) only[FP,Vd,push_cast,seval]
   refine ab.lentK h94 [1] rfl qsZ qsZ ?_
   refine zgZ ?_
   refine ab.pure h95 rfl ?_
   simp(disch:=try exact dI) only[hg,push_cast,seval]
 ·rw[if_neg hz]
  simp(disch:=try exact dI) only[FP,Vd,push_cast,seval]
  refine ab.lentK h94 [1] rfl qsZ qsZ ?_
  simp(disch:=try exact dI) only[hz,push_cast,seval]
theorem jw (n a b:Int):ae Tryz.prog aq 288 [.int .i64 n,.int .i64 a,.int .i64 b] (.bool (!inB n a b)):=by
 refine ae.intro RA.2 (by simp[RA]) ?_
 by_cases h1:a<=n
 ·have h1':¬ n<a:=by omega
  by_cases h2:n<=b
  ·have h2':¬ b<n:=by omega
   rw[show inB n a b=true by simp[inB,h1,h2]]
   simp(disch:=try exact dI) only[RA,h1',h2',push_cast,seval]
  ·have h2':b<n:=by omega
   rw[show inB n a b=false by simp[inB,h2]]
   simp(disch:=try exact dI) only[RA,h1',h2',push_cast,seval]
 ·have h1':n<a:=by omega
  rw[show inB n a b=false by simp[inB,h1]]
  simp(disch:=try exact dI) only[RA,h1',push_cast,seval]
def gp (fs:List Fld):Int:=if dm fs.length 64 9=0 then fo none (fs.map Fld.name) else dm fs.length 64 9
theorem Ev (fs:List Fld):ae Tryz.prog aq 289 [.list (fs.map Fld.pv)] (.int .i64 (gp fs)):=by
 unfold gp
 by_cases h64:(64:Int)<fs.length
 ·rw[show dm fs.length 64 9=9 from if_pos h64]
  rw[if_neg (by omega)]
  refine ae.intro OE.2 (by simp[OE]) ?_
  simp(disch:=try exact dI) only[OE,h64,push_cast,seval]
 ·rw[show dm fs.length 64 9=0 from if_neg h64]
  rw[if_pos rfl]
  have hfl:fs.length<=64:=by omega
  obtain⟨R,hR⟩:∃ R,R=fo none (fs.map Fld.name):=⟨_,rfl⟩
  rw[<- hR]
  refine ae.intro OE.2 (by simp[OE]) ?_
  simp(disch:=try exact dI) only[OE,h64,push_cast,seval]
  refine ap ([]) (fun i:Nat=>[(3,.pv (.int .i64 (i:Int)))]) (fun _=>[]) (fun i=>i<=fs.length/\R=fo (iC fs i) ((fs.map Fld.name).drop i)) (fun i=>fs.length - i) (0) ?_;intro e0 σ0 n0 h0;simp(disch:=try exact dI) only[push_cast,seval] at h0;obtain⟨rfl,rfl,rfl⟩:=h0;refine⟨?_,?_,?_⟩
  ·exact qsZ
  ·exact⟨by omega,by simpa[iC] using hR⟩
  rintro i ⟨hi,hr⟩
  by_cases hlt:i<fs.length
  ·have hltI:(i:Int)<(fs.length:Int):=by omega
   obtain⟨c,hc⟩:∃ c,fs[i]? = some c:=⟨_,Vg hlt⟩
   obtain⟨nm,⟨k',n',s',t',l',f'⟩⟩:=c
   have hcp:(fs.map Fld.pv)[i]? = some (.agg [.str nm,.int .i64 k',.int .i64 n',.int .i64 s',.str t',.list (l'.map Val.pv),.list (f'.map Fld.pv)]):=by simp[hc,U3,Vf,ag]
   have hnm:(fs.map Fld.name)[i]? = some nm:=by simp[hc,Fld.name]
   have hn:=tz nm
   rw[l6 hnm] at hr
   have hnext:iC fs (i+1)=some nm:=by simp[iC,hc,Fld.name]
   cases hb:bP nm with
   | false=>
     rw[hb] at hn hr
     rw[if_pos rfl] at hr
     subst hr
     simp(disch:=try exact dI) only[hcp,push_cast,seval]
     refine ab.pure hn rfl ?_
     exact qsZ
   | true=>
     rw[hb] at hn hr
     rw[if_neg (by simp)] at hr
     by_cases hi0:i=0
     ·have hiI:¬ (0:Int)<(i:Int):=by omega
      have hpn:iC fs i=none:=if_pos hi0
      rw[hpn,if_neg (by simp),if_neg (by simp),<- hnext] at hr
      simp(disch:=try exact dI) only[hcp,push_cast,seval]
      refine ab.pure hn rfl ?_
      refine zgZ ?_
      exact⟨i+1,aI qsZ,⟨by omega,by rw[List.map_drop];exact hr⟩,by omega⟩
     ·obtain⟨j,rfl⟩:∃ j,i=j+1:=⟨i - 1,by omega⟩
      obtain⟨c,hc'⟩:∃ c,fs[j]? = some c:=⟨_,Vg (by omega)⟩
      have hpn:iC fs (j+1)=some c.name:=by simp[iC,hc']
      obtain⟨q,⟨k2,n2,s2,t2,l2,f2⟩⟩:=c
      have hcq:(fs.map Fld.pv)[j]? = some (.agg [.str q,.int .i64 k2,.int .i64 n2,.int .i64 s2,.str t2,.list (l2.map Val.pv),.list (f2.map Fld.pv)]):=by simp[hc',U3,Vf,ag]
      simp only[Fld.name] at hpn
      rw[hpn] at hr
      by_cases hq:nm=q
      ·subst hq
       rw[if_pos rfl] at hr
       subst hr
       simp(disch:=try exact dI) only[hcp,hcq,VD,push_cast,seval]
       refine ab.pure hn rfl ?_
       simp(disch:=try exact dI) only[hcp,hcq,VD,push_cast,seval]
      ·rw[if_neg (by simpa using fun e=>hq e.symm)] at hr
       cases hlt2:bg nm q with
       | true=>
         rw[if_pos (by simpa using hlt2)] at hr
         subst hr
         simp(disch:=try exact dI) only[hcp,hcq,VD,push_cast,seval]
         refine ab.pure hn rfl ?_
         simp(disch:=try exact dI) only[hcp,hcq,VD,hq,hlt2,push_cast,seval]
       | false=>
         rw[if_neg (by simp[hlt2]),<- hnext] at hr
         simp(disch:=try exact dI) only[hcp,hcq,VD,push_cast,seval]
         refine ab.pure hn rfl ?_
         simp(disch:=try exact dI) only[hcp,hcq,VD,hq,hlt2,push_cast,seval]
         exact⟨j+1+1,aI qsZ,⟨by omega,by rw[List.map_drop];exact hr⟩,by omega⟩
  ·have hie:i=fs.length:=by omega
   subst hie
   rw[List.drop_of_length_le (by simp)] at hr
   rw[show R=0 from hr]
   exact qsZ
theorem vC (v:Val)(hl:v.lst.length*88<=140737488351232)(hf:v.fields.length*104<=140737488351232):ae Tryz.prog aq 251 [v.pv] (.list ((aX v).map Val.pv)):=by
 obtain⟨k,n,s,t,l,fs⟩:=v
 simp only[Val.fields,Val.lst] at hf hl
 by_cases h8:k=8\/k=10
 ·rw[cg (v:=.mk k n s t l fs) h8]
  simp only[Val.lst]
  cases l with
  | nil=>
    rcases h8 with rfl | rfl
    ·refine ae.intro pI.2 (by simp[pI]) ?_
     simp(disch:=try exact dI) only[pI,Vf,push_cast,seval]
    ·refine ae.intro pI.2 (by simp[pI]) ?_
     simp(disch:=try exact dI) only[pI,Vf,push_cast,seval]
  | cons x r=>
    rw[Vq] at hl
    rcases h8 with rfl | rfl
    ·refine ae.intro pI.2 (by simp[pI]) ?_
     simp(disch:=try exact dI) only[pI,Vf,Val.cells_len,push_cast,seval]
    ·refine ae.intro pI.2 (by simp[pI]) ?_
     simp(disch:=try exact dI) only[pI,Vf,Val.cells_len,push_cast,seval]
 ·by_cases h9:k=9
  ·subst h9
   rw[dv (v:=.mk 9 n s t l fs) rfl]
   simp only[Val.fields]
   refine ae.intro pI.2 (by simp[pI]) ?_
   simp(disch:=try exact dI) only[pI,Vf,push_cast,seval]
   refine ap ([(3,0,31,6)]) (fun i:Nat=>[(3,.olist 0 6 (((fs.take i).map Fld.value).map Val.pv)),(4,.pv (.int .i64 (i:Int)))]) (fun _=>[]) (fun i=>i<=fs.length) (fun i=>fs.length - i) (0) ?_;intro e0 σ0 n0 h0;simp(disch:=try exact dI) only[push_cast,seval] at h0;obtain⟨rfl,rfl,rfl⟩:=h0;refine⟨?_,?_,?_⟩
   ·exact qsZ
   ·omega
   rintro i hi
   by_cases hlt:i<fs.length
   ·have hltI:(i:Int)<(fs.length:Int):=by omega
    obtain⟨c,hc⟩:∃ c,fs[i]? = some c:=⟨_,Vg hlt⟩
    have hts:=aD hc
    have hlt2:(fs.take i).length=i:=by rw[List.length_take];omega
    obtain⟨nm,⟨k',n',s',t',l',f'⟩⟩:=c
    have hcp:(fs.map Fld.pv)[i]? = some (.agg [.str nm,.int .i64 k',.int .i64 n',.int .i64 s',.str t',.list (l'.map Val.pv),.list (f'.map Fld.pv)]):=by simp[hc,U3,Vf,ag]
    simp(disch:=try exact dI) only[hcp,hlt2,push_cast,seval]
    exact⟨i+1,aI (by simp(disch:=try exact dI) only[hts,VI,Fld.value,Vf,push_cast,seval]),by omega,by omega⟩
   ·have he:i=fs.length:=by omega
    subst he
    simp(disch:=try exact dI) only[VR,oU,push_cast,seval]
  ·rw[eu (v:=.mk k n s t l fs) h8 h9]
   refine ae.intro pI.2 (by simp[pI]) ?_
   have e1:¬ k=8:=by omega
   have e2:¬ k=10:=by omega
   simp(disch:=try exact dI) only[pI,Vf,push_cast,seval]
def szN:Nat->Val->Nat
 | 0,_=>0
 | n+1,v=>1+((aX v).map (szN n)).sum
theorem mA {α β:Type}{p:α->List β}{q:α->Nat}:∀ (l:List α),(∀ x∈l,(p x).length=q x)->(l.flatMap p).length=(l.map q).sum
 | [],_=>rfl
 | x::r,h=>by
   rw[List.flatMap_cons,List.length_append,h x (VN ..),mA r fun y hy=>h y (List.mem_cons_of_mem _ hy)]
   simp
theorem oP:∀ (n:Nat) (lv:Int) (v:Val),(ck n lv v).length=szN n v
 | 0,_,_=>rfl
 | n+1,lv,v=>by
   rw[ck,szN,Vq,mA _ fun x _=>oP n (lv+1) x]
   omega
theorem pR {p:Val->Nat}{f:List Val}{i:Nat}{g:Val}(h:f[i]? = some g):((f.take (i+1)).map p).sum=((f.take i).map p).sum+p g:=by
 rw[aD h,VI,List.sum_append];simp
theorem BH {p:Val->Nat}{f:List Val}(i:Nat):((f.take i).map p).sum<=(f.map p).sum:=by
 have h:(f.map p).sum=((f.take i).map p).sum+((f.drop i).map p).sum:=by
  rw[<- List.sum_append,<- VI,List.take_append_drop]
 omega
theorem Gx {p:Val->Nat}{f:List Val}{i:Nat}{g:Val}(h:f[i]? = some g):p g<=(f.map p).sum:=by
 have h1:=pR (p:=p) h
 have h2:=BH (p:=p) (f:=f) (i+1)
 omega
theorem yu (v:Val)(hv:v.ok):(aX v).length<=140737488351232:=by
 obtain⟨k,n,s,t,l,fs⟩:=v
 rw[Ve] at hv
 obtain⟨_,_,_,_,h5,_,h7,_⟩:=hv
 by_cases h8:k=8\/k=10
 ·rw[cg (v:=.mk k n s t l fs) h8];simp only[Val.lst];omega
 ·by_cases h9:k=9
  ·rw[dv (v:=.mk k n s t l fs) h9];simp only[Val.fields,List.length_map];omega
  ·rw[eu (v:=.mk k n s t l fs) h8 h9];simp
theorem qI {v x:Val}(hv:v.ok)(hx:x∈aX v):x.ok:=by
 obtain⟨k,n,s,t,l,fs⟩:=v
 rw[Ve] at hv
 obtain⟨_,_,_,_,_,h6,_,h8'⟩:=hv
 by_cases h8:k=8\/k=10
 ·rw[cg (v:=.mk k n s t l fs) h8] at hx;exact h6 x hx
 ·by_cases h9:k=9
  ·rw[dv (v:=.mk k n s t l fs) h9] at hx
   obtain⟨f,hf,rfl⟩:=List.mem_map.1 hx
   have:=h8' f hf
   obtain⟨a,b⟩:=f
   rw[U2] at this;exact this.2
  ·rw[eu (v:=.mk k n s t l fs) h8 h9] at hx;cases hx
theorem BP:∀ (n:Nat) (v:Val),cL n v->v.ok->szN n v<=9223372036854775806->ae Tryz.prog aq 203 [v.pv] (.int .i64 (szN n v:Int))
 | 0,_,h,_,_=>h.elim
 | n+1,v,hd,hv,hs=>by
   have ih:=BP n
   have hpl:=yu v hv
   have hpo:=fun x (hx:x∈aX v)=>qI hv hx
   have hp:=vC v (by cases v;rw[Ve] at hv;exact hv.2.2.2.2.1) (by cases v;rw[Ve] at hv;exact hv.2.2.2.2.2.2.1)
   rw[cL] at hd
   rw[szN] at hs ⊢
   generalize aX v=ps at *
   obtain⟨k,vn,s,t,l,fs⟩:=v
   simp only[Vf] at hp
   refine ae.intro Ud.2 (by simp[Ud]) ?_
   simp(disch:=try exact dI) only[Ud,Vf,push_cast,seval]
   refine ab.pure hp rfl ?_
   refine zgZ ?_
   refine ap ([]) (fun i:Nat=>[(3,.pv (.int .i64 ((1+((ps.take i).map (szN n)).sum:Nat):Int))),(5,.pv (.int .i64 (i:Int)))]) (fun _=>[]) (fun i=>i<=ps.length) (fun i=>ps.length - i) (0) ?_;intro e0 σ0 n0 h0;simp(disch:=try exact dI) only[push_cast,seval] at h0;obtain⟨rfl,rfl,rfl⟩:=h0;refine⟨?_,?_,?_⟩
   ·simp(disch:=try exact dI) only[List.take_zero,List.map_nil,List.sum_nil,push_cast,seval]
   ·omega
   rintro i hi
   by_cases hlt:i<ps.length
   ·have hltI:(i:Int)<(ps.length:Int):=by omega
    obtain⟨x,hx⟩:∃ x,ps[i]? = some x:=⟨_,Vg hlt⟩
    have hxm:=List.mem_of_getElem? hx
    have h1:=pR (p:=szN n) hx
    have h2:=BH (p:=szN n) (f:=ps) (i+1)
    have h3:=Gx (p:=szN n) hx
    have hc:=ih x (hd x hxm) (hpo x hxm) (by omega)
    generalize ((ps.take i).map (szN n)).sum=S at *
    generalize szN n x=z at *
    obtain⟨xk,xn,xs,xt,xl,xf⟩:=x
    simp only[Vf] at hc
    simp(disch:=try exact dI) only[hx,Option.map_some,Vf,push_cast,seval]
    refine ab.pure hc rfl ?_
    refine zgZ ?_
    exact⟨i+1,aI (by simp(disch:=try exact dI) only[h1,Int.add_assoc,push_cast,seval]),by omega,by omega⟩
   ·obtain rfl:i=ps.length:=by omega
    rw[VR]
    simp(disch:=try exact dI) only[Int.lt_irrefl,push_cast,seval]
theorem Mz (v:Val):ae Tryz.prog aq 286 [v.pv] (.bool (bw v)):=by
 obtain⟨k,n,s,t,l,fs⟩:=v
 have h5:(l.length=0/\(l.length:Int)=0)\/(¬ l.length=0/\¬ (l.length:Int)=0):=by omega
 have h6:(fs.length=0/\(fs.length:Int)=0)\/(¬ fs.length=0/\¬ (fs.length:Int)=0):=by omega
 obtain⟨r,hr⟩:∃ r,r=bw (.mk k n s t l fs):=⟨_,rfl⟩
 rw[<- hr]
 refine ae.intro TT.2 (by simp[TT]) ?_
 rcases Classical.em (k=0) with a | a
 all_goals first | (have:=hend;skip) | (refine aQ (c:=false) hr ?_ ?_;(focus (simp[bw, *];done));rintro rfl;have hend:=trivial;clear h5 h6) | rcases Classical.em (n=0) with b | b
 all_goals first | (have:=hend;skip) | (refine aQ (c:=false) hr ?_ ?_;(focus (simp[bw, *];done));rintro rfl;have hend:=trivial;clear h5 h6) | rcases Classical.em (s=0) with c | c
 all_goals first | (have:=hend;skip) | (refine aQ (c:=false) hr ?_ ?_;(focus (simp[bw, *];done));rintro rfl;have hend:=trivial;clear h5 h6) | rcases Classical.em (t=[]) with d | d
 all_goals first | (have:=hend;skip) | (refine aQ (c:=false) hr ?_ ?_;(focus (simp[bw, *];done));rintro rfl;have hend:=trivial;clear h5 h6) | rcases h5 with ⟨e,e1⟩ | ⟨e,e1⟩
 all_goals first | (have:=hend;skip) | (refine aQ (c:=false) hr ?_ ?_;(focus (simp[bw, *];done));rintro rfl;have hend:=trivial;clear h6) | rcases h6 with ⟨f,f1⟩ | ⟨f,f1⟩
 all_goals first | (have:=hend;skip) | (refine aQ (c:=true) hr ?_ ?_;(focus (simp[bw, *];done));rintro rfl) | (refine aQ (c:=false) hr ?_ ?_;(focus (simp[bw, *];done));rintro rfl)
 all_goals clear hr
 all_goals simp(disch:=try exact dI) only[TT,Vf, *,push_cast,seval]
theorem Br (v:Val)(hk:1<=v.kind/\v.kind<=10):ae Tryz.prog aq 287 [v.pv] (.bool (!bn v)):=by
 obtain⟨k,n,s,t,l,fs⟩:=v
 simp only[Val.kind] at hk
 obtain⟨h1,h2,h3,h4,h5⟩:=Bp k n s t l fs hk
 obtain⟨r,hr⟩:∃ r,r=bn (.mk k n s t l fs):=⟨_,rfl⟩
 rw[<- hr]
 refine ae.intro TS.2 (by simp[TS]) ?_
 have hc:k=1\/k=2\/k=3\/k=4\/k=5\/k=6\/k=7\/k=8\/k=9\/k=10:=by omega
 clear hk
 rcases hc with rfl | rfl | rfl | rfl | rfl | rfl | rfl | rfl | rfl | rfl
 all_goals rcases h1 with a | ⟨a,b⟩ | ⟨a,b⟩
 all_goals try omega
 all_goals first | (have:=hend;skip) | (refine aQ (c:=false) hr ?_ ?_;(focus (simp[bn, *];done));rintro rfl;have hend:=trivial;clear h2 h3 h4 h5) | rcases h2 with a2 | ⟨a2,b2⟩ | ⟨a2,b2⟩
 all_goals try omega
 all_goals first | (have:=hend;skip) | (refine aQ (c:=false) hr ?_ ?_;(focus (simp[bn, *];done));rintro rfl;have hend:=trivial;clear h3 h4 h5) | rcases h3 with a3 | ⟨a3,b3⟩ | ⟨a3,b3⟩
 all_goals try omega
 all_goals first | (have:=hend;skip) | (refine aQ (c:=false) hr ?_ ?_;(focus (simp[bn, *];done));rintro rfl;have hend:=trivial;clear h4 h5) | rcases h4 with a4 | ⟨a4,b4,c4⟩ | ⟨a4,b4,c4⟩
 all_goals try omega
 all_goals first | (have:=hend;skip) | (refine aQ (c:=false) hr ?_ ?_;(focus (simp[bn, *];done));rintro rfl;have hend:=trivial;clear h5) | rcases h5 with a5 | ⟨a5,b5,c5⟩ | ⟨a5,b5,c5⟩
 all_goals try omega
 all_goals first | (have:=hend;skip) | (refine aQ (c:=true) hr ?_ ?_;(focus (simp[bn, *];done));rintro rfl) | (refine aQ (c:=false) hr ?_ ?_;(focus (simp[bn, *];done));rintro rfl)
 all_goals clear hr
 all_goals simp(disch:=try exact dI) only[TS,Bool.not_true,Bool.not_false,Vf, *,push_cast,seval]
def Mr (v:Val):Int:=if bw v=true then 19 else if v.kind<1\/10<v.kind then 11 else if bn v=false then 3 else be v
theorem oQ (n a b:Int):eV n a b=if inB n a b=false then 2 else 0:=by
 unfold eV inB;by_cases h1:a<=n<;>by_cases h2:n<=b<;>simp[h1,h2]<;>omega
theorem C4 (n a b s c d:Int):(if eV n a b=0 then eV s c d else eV n a b)=if inB n a b=false then 2 else if inB s c d=false then 2 else 0:=by
 rw[oQ,oQ];by_cases h:inB n a b=false<;>simp[h]
theorem SJ (n a b:Int):eV n a b=if eV n a b=0 then eV 0 0 12 else eV n a b:=by
 by_cases h:eV n a b=0
 ·rw[if_pos h,h];rfl
 ·rw[if_neg h]
theorem PO (v:Val):ae Tryz.prog aq 250 [v.pv] (.int .i64 (Mr v)):=by
 obtain⟨k,n,s,t,l,fs⟩:=v
 have hn:=Mz (.mk k n s t l fs)
 have hu:=Br (.mk k n s t l fs)
 have hs:bn (.mk k n s t l fs)=true->k=2->s=0:=by simp only[bn,Bool.and_eq_true,Bool.or_eq_true,decide_eq_true_eq];omega
 rw[show Mr (.mk k n s t l fs)=if bw (.mk k n s t l fs)=true then 19 else if k<1\/10<k then 11 else if bn (.mk k n s t l fs)=false then 3 else be (.mk k n s t l fs) from rfl]
 generalize bw (.mk k n s t l fs)=b1 at hn ⊢
 generalize bn (.mk k n s t l fs)=b2 at hu hs ⊢
 simp only[Vf,Val.kind] at hn hu
 refine ae.intro T7.2 (by simp[T7]) ?_
 simp(disch:=try exact dI) only[T7,Vf,push_cast,seval]
 refine ab.pure hn rfl ?_
 cases b1 with
 | true=>simp(disch:=try exact dI) only[push_cast,seval]
 | false=>
 rw[if_neg (show ¬ false=true by decide)]
 by_cases h1:k<1
 ·rw[if_pos (.inl h1)]
  simp(disch:=try exact dI) only[h1,push_cast,seval]
 by_cases h2:10<k
 ·rw[if_pos (.inr h2)]
  simp(disch:=try exact dI) only[h1,h2,push_cast,seval]
 rw[if_neg (by omega)]
 have hu:=hu (by omega)
 simp(disch:=try exact dI) only[h1,h2,push_cast,seval]
 refine ab.pure hu rfl ?_
 cases b2 with
 | false=>simp(disch:=try exact dI) only[push_cast,seval]
 | true=>
 rw[if_neg (show ¬ true=false by decide)]
 have hs:=hs rfl
 have hc:(k=1\/k=6\/k=7)\/(k=2\/k=3)\/(k=4\/k=5)\/k=8\/k=9\/k=10:=by omega
 clear h1 h2
 rcases hc with h | h | h | rfl | rfl | rfl
 ·rcases h with rfl | rfl | rfl
  all_goals
   simp only[be,Int.reduceEq,reduceIte]
   rw[oQ]
   refine zgZ ?_
   refine ab.pure (jw n _ _) rfl ?_
   generalize inB n _ _=q
   cases q<;>simp(disch:=try exact dI) only[push_cast,seval]
 ·rcases h with rfl | rfl
  case' inl=>have h0:=hs rfl;subst h0
  all_goals
   simp only[be,Int.reduceEq,reduceIte]
   first | rw[C4] | rw[SJ,C4]
   refine zgZ ?_
   refine ab.pure (jw n _ _) rfl ?_
   generalize inB n _ _=q
   cases q
   case' true=>
    refine zgZ ?_
    refine ab.pure (jw _ 0 12) rfl ?_
    generalize inB _ 0 12=q
    cases q
   all_goals simp(disch:=try exact dI) only[push_cast,seval]
 ·rcases h with rfl | rfl
  all_goals
   simp only[be,Int.reduceEq,reduceIte]
   by_cases h5:(1024:Int)<t.length
   ·rw[show dm t.length 1024 5=5 from if_pos h5]
    simp(disch:=try exact dI) only[h5,push_cast,seval]
   ·rw[show dm t.length 1024 5=0 from if_neg h5]
    simp(disch:=try exact dI) only[h5,push_cast,seval]
    all_goals
     refine ab.pure (dW t) rfl ?_
     cases Lib.validD t<;>simp(disch:=try exact dI) only[push_cast,seval]
 ·rw[show be (.mk 8 n s t l fs)=dm l.length 256 9 from rfl]
  by_cases h5:(256:Int)<l.length
  ·rw[show dm l.length 256 9=9 from if_pos h5]
   simp(disch:=try exact dI) only[h5,push_cast,seval]
  ·rw[show dm l.length 256 9=0 from if_neg h5]
   simp(disch:=try exact dI) only[h5,push_cast,seval]
 ·rw[show be (.mk 9 n s t l fs)=gp fs from rfl]
  have hr:=Ev fs
  generalize gp fs=q at hr ⊢
  refine zgZ ?_
  refine ab.pure hr rfl ?_
  exact qsZ
 ·rw[show be (.mk 10 n s t l fs)=(if bP t=false then 12 else if l.length=0 then 4 else dm l.length 1 3) from rfl]
  have hr:=tz t
  generalize bP t=q at hr ⊢
  refine zgZ ?_
  refine ab.pure hr rfl ?_
  cases q with
  | false=>simp(disch:=try exact dI) only[push_cast,seval]
  | true=>
  by_cases h0:l.length=0
  ·have h0I:(l.length:Int)=0:=by omega
   rw[if_pos h0]
   simp(disch:=try exact dI) only[h0I,push_cast,seval]
  ·have h0I:¬ (l.length:Int)=0:=by omega
   rw[if_neg h0]
   by_cases h5:(1:Int)<l.length
   ·rw[show dm l.length 1 3=3 from if_pos h5]
    simp(disch:=try exact dI) only[h0I,h5,push_cast,seval]
   ·rw[show dm l.length 1 3=0 from if_neg h5]
    simp(disch:=try exact dI) only[h0I,h5,push_cast,seval]

/- A part of the proof. -/
import Derived.Test.YtbaaokocnegdoaaGreatDoorDeVSe
set_option linter.unusedVariables false
set_option linter.unusedSimpArgs false
set_option maxHeartbeats 16000000
set_option maxRecDepth 100000
namespace Go.Proofs.YtbaaokocnegdoaaGreatDoor
open Go Go.Ab
attribute [local irreducible] vc
theorem g7 {k m M s:Int}{w:List (List UInt8)}{e:List Typ}{f:List TFd}(h:fj (.mk k m M s w e f)=0):(¬ k=8->e=[])/\(¬ (k=9\/k=10)->f=[]):=by
 rw[fj] at h
 by_cases a:inB k 1 10=false
 ·rw[if_pos a] at h;exact absurd h (by decide)
 rw[if_neg a] at h
 have hr:1<=k/\k<=10:=by simpa[inB] using a
 by_cases b:eW k (.mk k m M s w e f)=true
 ·rw[if_pos b] at h;exact absurd h (by decide)
 have b':eW k (.mk k m M s w e f)=false:=by simpa using b
 simp only[eW,i6,Bool.or_eq_false_iff] at b'
 obtain⟨_,_,_,b4,b5⟩:=b'
 refine⟨fun h8=>?_,fun h9=>?_⟩
 ·rw[decide_eq_false h8] at b4
  exact List.length_eq_zero_iff.1 (by simpa using b4)
 ·have h9':¬ 9<=k:=by omega
  rw[decide_eq_false h9'] at b5
  exact List.length_eq_zero_iff.1 (by simpa using b5)
theorem CE {m M s:Int}{w:List (List UInt8)}{e:List Typ}{f:List TFd}(h:fj (.mk 8 m M s w e f)=0):m<=256:=by
 have hb:=(bJ h).2.1
 unfold cH at hb
 rw[if_neg (fun hh=>absurd hh.1 (by decide))] at hb
 by_cases hc:(2<=(8:Int)/\(8:Int)<=8)/\(M<m\/m<loK 8\/hiK 8<M)
 ·rw[if_pos hc] at hb;exact absurd hb (by decide)
 ·have h2:¬ (M<m\/m<loK 8\/hiK 8<M):=fun hh=>hc ⟨by decide,hh⟩
  rw[show hiK 8=256 from rfl] at h2
  omega
theorem CC {m M s:Int}{w:List (List UInt8)}{e:List Typ}{f:List TFd}(h:fj (.mk 10 m M s w e f)=0):∃ g r,f=g::r:=by
 have h1:=(bJ h).2.2.1
 cases f with
 | cons g r=>exact⟨g,r,rfl⟩
 | nil=>simp[bu] at h1
theorem Kt {k m M s:Int}{w:List (List UInt8)}{e:List Typ}{f:List TFd}(h:fj (.mk k m M s w e f)=0):f.length<=64:=by
 have h1:=(bJ h).2.2.1
 by_cases hc:64<f.length
 ·exfalso
  unfold bu at h1
  repeat' split at h1
  all_goals first | exact absurd h1 (by decide) | omega
 ·omega
theorem jP:∀ (n N:Nat) (t:Typ),n<=N->tyV n t->br n t->eJ N t
 | 0,_,_,_,h,_=>h.elim
 | _+1,0,_,h,_,_=>absurd h (by omega)
 | n+1,N+1,.mk k m M s w e f,hN,h,ht=>by
   obtain⟨ho,h8,h9⟩:=h
   simp only[br] at ht
   obtain⟨t1,t2,t3,t4,t5,t6⟩:=ht
   refine⟨fun hk hm=>?_,fun hk=>?_,fun hk=>⟨Kt ho,fun g hg=>?_⟩⟩
   ·subst hk
    obtain⟨x,rfl⟩:=jT ho
    exact⟨CE ho,x,[],rfl,jP n N x (by omega) (h8 rfl x (List.mem_cons_self ..)) (t5 x (List.mem_cons_self ..))⟩
   ·subst hk
    obtain⟨g,r,rfl⟩:=CC ho
    exact⟨g,r,rfl,jP n N g.typ (by omega) (h9 (.inr rfl) g (List.mem_cons_self ..)) (t6 g (List.mem_cons_self ..)).2.2⟩
   ·subst hk
    have hs:=jP n N g.typ (by omega) (h9 (.inl rfl) g hg) (t6 g hg).2.2
    obtain⟨b,hb⟩:=bH f [] (bJ ho).2.2.2 g hg
    have hd:=(t6 g hg).2.1
    obtain⟨n',nm',nd',t',d'⟩:=g
    refine⟨fun _=>hs,fun h3=>?_⟩
    subst h3
    obtain⟨x,r,rfl⟩:=fX hb
    obtain⟨x1,x2,x3⟩:=hd x (List.mem_cons_self ..)
    exact⟨x,r,rfl,x2,x1.1,x3⟩
theorem Fo:∀ (n:Nat) (t:Typ),n<=9->tyV n t->br n t->RA n t
 | 0,_,_,h,_=>h.elim
 | n+1,.mk k m M s w e f,hN,h,ht=>by
   have hs:=jP (n+1) 9 _ hN h ht
   obtain⟨ho,h8,h9⟩:=h
   obtain⟨he,hf⟩:=g7 ho
   simp only[br] at ht
   obtain⟨t1,t2,t3,t4,t5,t6⟩:=ht
   refine⟨hs,by omega,by omega,fun x hx=>?_,fun g hg=>?_⟩
   ·by_cases hk:k=8
    ·exact Fo n x (by omega) (h8 hk x hx) (t5 x hx)
    ·rw[he hk] at hx;cases hx
   ·by_cases hk:k=9\/k=10
    ·exact Fo n g.typ (by omega) (h9 hk g hg) (t6 g hg).2.2
    ·rw[hf hk] at hg;cases hg
def FL (n:Nat)(t:Typ):Int:=if (dB n 4096 t).1=0 then (if 4096<cp n t then 9 else 0) else (dB n 4096 t).1
theorem NX (n:Nat)(t:Typ)(hn:n<=5)(ht:br n t)(hw:aL n t):ak Tryz.prog aq 48 [t.pv] (.int .i64 (FL n t)):=by
 have hcnt:j2 n<=4096:=by
  have hc:n=0\/n=1\/n=2\/n=3\/n=4\/n=5:=by omega
  rcases hc with rfl | rfl | rfl | rfl | rfl | rfl<;>decide
 have h94:=EU n t 1 4096 ht hw (by omega) (by omega) hcnt (by omega)
 have h95:(dB n 4096 t).1=0->ak Tryz.prog aq 95 [t.pv] (.int .i64 (cp n t)):=fun h=>gj n t (Fo n t (by omega) (fA n 4096 t hw h) ht)
 simp only[FL]
 obtain⟨⟨z,L⟩,hq⟩:∃ q,q=dB n 4096 t:=⟨_,rfl⟩
 rw[<- hq] at h94 h95 ⊢
 simp only at h94 h95 ⊢
 clear hq
 generalize cp n t=G at h95 ⊢
 obtain⟨k,m,M,s,w,e,f⟩:=t
 simp only[Typ.pv_mk] at h94 h95
 refine ak.intro FH.2 (by simp[FH]) ?_
 by_cases hz:z=0
 ·subst hz
  have h95:=h95 rfl
  rw[if_pos rfl]
  by_cases hg:4096<G
  ·rw[if_pos hg]
   simp(disch:=try exact dI) only[FH,Typ.pv_mk,push_cast,seval]
   refine ab.lentK h94 [1] rfl qsZ qsZ ?_
   refine zgZ ?_
   refine ab.pure h95 rfl ?_
   simp(disch:=try exact dI) only[hg,push_cast,seval]
  ·rw[if_neg hg]
   simp(disch:=try exact dI) only[FH,Typ.pv_mk,push_cast,seval]
   refine ab.lentK h94 [1] rfl qsZ qsZ ?_
   refine zgZ ?_
   refine ab.pure h95 rfl ?_
   simp(disch:=try exact dI) only[hg,push_cast,seval]
 ·rw[if_neg hz]
  simp(disch:=try exact dI) only[FH,Typ.pv_mk,push_cast,seval]
  refine ab.lentK h94 [1] rfl qsZ qsZ ?_
  simp(disch:=try exact dI) only[hz,push_cast,seval]
theorem iQ (n a b:Int):ak Tryz.prog aq 288 [.int .i64 n,.int .i64 a,.int .i64 b] (.bool (!inB n a b)):=by
 refine ak.intro RL.2 (by simp[RL]) ?_
 by_cases h1:a<=n
 ·have h1':¬ n<a:=by omega
  by_cases h2:n<=b
  ·have h2':¬ b<n:=by omega
   rw[show inB n a b=true by simp[inB,h1,h2]]
   simp(disch:=try exact dI) only[RL,h1',h2',push_cast,seval]
  ·have h2':b<n:=by omega
   rw[show inB n a b=false by simp[inB,h2]]
   simp(disch:=try exact dI) only[RL,h1',h2',push_cast,seval]
 ·have h1':n<a:=by omega
  rw[show inB n a b=false by simp[inB,h1]]
  simp(disch:=try exact dI) only[RL,h1',push_cast,seval]
def fW (fs:List Fld):Int:=if cW fs.length 64 9=0 then eO none (fs.map Fld.name) else cW fs.length 64 9
theorem Ed (fs:List Fld):ak Tryz.prog aq 289 [.list (fs.map Fld.pv)] (.int .i64 (fW fs)):=by
 unfold fW
 by_cases h64:(64:Int)<fs.length
 ·rw[show cW fs.length 64 9=9 from if_pos h64]
  rw[if_neg (by omega)]
  refine ak.intro OU.2 (by simp[OU]) ?_
  simp(disch:=try exact dI) only[OU,h64,push_cast,seval]
 ·rw[show cW fs.length 64 9=0 from if_neg h64]
  rw[if_pos rfl]
  have hfl:fs.length<=64:=by omega
  obtain⟨R,hR⟩:∃ R,R=eO none (fs.map Fld.name):=⟨_,rfl⟩
  rw[<- hR]
  refine ak.intro OU.2 (by simp[OU]) ?_
  simp(disch:=try exact dI) only[OU,h64,push_cast,seval]
  refine ap ([]) (fun i:Nat=>[(3,.pv (.int .i64 (i:Int)))]) (fun _=>[]) (fun i=>i<=fs.length/\R=eO (gY fs i) ((fs.map Fld.name).drop i)) (fun i=>fs.length - i) (0) ?_;intro e0 σ0 n0 h0;simp(disch:=try exact dI) only[push_cast,seval] at h0;obtain⟨rfl,rfl,rfl⟩:=h0;refine⟨?_,?_,?_⟩
  ·exact qsZ
  ·exact⟨by omega,by simpa[gY] using hR⟩
  rintro i ⟨hi,hr⟩
  by_cases hlt:i<fs.length
  ·have hltI:(i:Int)<(fs.length:Int):=by omega
   obtain⟨c,hc⟩:∃ c,fs[i]? = some c:=⟨_,List.getElem?_eq_getElem hlt⟩
   obtain⟨nm,⟨k',n',s',t',l',f'⟩⟩:=c
   have hcp:(fs.map Fld.pv)[i]? = some (.agg [.str nm,.int .i64 k',.int .i64 n',.int .i64 s',.str t',.list (l'.map Val.pv),.list (f'.map Fld.pv)]):=by simp[hc,Fld.pv_mk,Val.pv_mk,ag]
   have hnm:(fs.map Fld.name)[i]? = some nm:=by simp[hc,Fld.name]
   have hn:=sK nm
   rw[kZ hnm] at hr
   have hnext:gY fs (i+1)=some nm:=by simp[gY,hc,Fld.name]
   cases hb:bN nm with
   | false=>
     rw[hb] at hn hr
     rw[if_pos rfl] at hr
     subst hr
     simp(disch:=try exact dI) only[hcp,push_cast,seval]
     refine ab.pure hn rfl ?_
     exact qsZ
   | true=>
     rw[hb] at hn hr
     rw[if_neg (by simp)] at hr
     by_cases hi0:i=0
     ·have hiI:¬ (0:Int)<(i:Int):=by omega
      have hpn:gY fs i=none:=if_pos hi0
      rw[hpn,if_neg (by simp),if_neg (by simp),<- hnext] at hr
      simp(disch:=try exact dI) only[hcp,push_cast,seval]
      refine ab.pure hn rfl ?_
      refine zgZ ?_
      exact⟨i+1,aK qsZ,⟨by omega,by rw[List.map_drop];exact hr⟩,by omega⟩
     ·obtain⟨j,rfl⟩:∃ j,i=j+1:=⟨i - 1,by omega⟩
      obtain⟨c,hc'⟩:∃ c,fs[j]? = some c:=⟨_,List.getElem?_eq_getElem (by omega)⟩
      have hpn:gY fs (j+1)=some c.name:=by simp[gY,hc']
      obtain⟨q,⟨k2,n2,s2,t2,l2,f2⟩⟩:=c
      have hcq:(fs.map Fld.pv)[j]? = some (.agg [.str q,.int .i64 k2,.int .i64 n2,.int .i64 s2,.str t2,.list (l2.map Val.pv),.list (f2.map Fld.pv)]):=by simp[hc',Fld.pv_mk,Val.pv_mk,ag]
      simp only[Fld.name] at hpn
      rw[hpn] at hr
      by_cases hq:nm=q
      ·subst hq
       rw[if_pos rfl] at hr
       subst hr
       simp(disch:=try exact dI) only[hcp,hcq,Int.add_sub_cancel,push_cast,seval]
       refine ab.pure hn rfl ?_
       simp(disch:=try exact dI) only[hcp,hcq,Int.add_sub_cancel,push_cast,seval]
      ·rw[if_neg (by simpa using fun e=>hq e.symm)] at hr
       cases hlt2:bc nm q with
       | true=>
         rw[if_pos (by simpa using hlt2)] at hr
         subst hr
         simp(disch:=try exact dI) only[hcp,hcq,Int.add_sub_cancel,push_cast,seval]
         refine ab.pure hn rfl ?_
         simp(disch:=try exact dI) only[hcp,hcq,Int.add_sub_cancel,hq,hlt2,push_cast,seval]
       | false=>
         rw[if_neg (by simp[hlt2]),<- hnext] at hr
         simp(disch:=try exact dI) only[hcp,hcq,Int.add_sub_cancel,push_cast,seval]
         refine ab.pure hn rfl ?_
         simp(disch:=try exact dI) only[hcp,hcq,Int.add_sub_cancel,hq,hlt2,push_cast,seval]
         exact⟨j+1+1,aK qsZ,⟨by omega,by rw[List.map_drop];exact hr⟩,by omega⟩
  ·have hie:i=fs.length:=by omega
   subst hie
   rw[List.drop_of_length_le (by simp)] at hr
   rw[show R=0 from hr]
   exact qsZ
theorem uB (v:Val)(hl:v.lst.length*88<=140737488351232)(hf:v.fields.length*104<=140737488351232):ak Tryz.prog aq 251 [v.pv] (.list ((aV v).map Val.pv)):=by
 obtain⟨k,n,s,t,l,fs⟩:=v
 simp only[Val.fields,Val.lst] at hf hl
 by_cases h8:k=8\/k=10
 ·rw[bY (v:=.mk k n s t l fs) h8]
  simp only[Val.lst]
  cases l with
  | nil=>
    rcases h8 with rfl | rfl
    ·refine ak.intro oM.2 (by simp[oM]) ?_
     simp(disch:=try exact dI) only[oM,Val.pv_mk,push_cast,seval]
    ·refine ak.intro oM.2 (by simp[oM]) ?_
     simp(disch:=try exact dI) only[oM,Val.pv_mk,push_cast,seval]
  | cons x r=>
    rw[List.length_cons] at hl
    rcases h8 with rfl | rfl
    ·refine ak.intro oM.2 (by simp[oM]) ?_
     simp(disch:=try exact dI) only[oM,Val.pv_mk,Val.cells_len,push_cast,seval]
    ·refine ak.intro oM.2 (by simp[oM]) ?_
     simp(disch:=try exact dI) only[oM,Val.pv_mk,Val.cells_len,push_cast,seval]
 ·by_cases h9:k=9
  ·subst h9
   rw[dg (v:=.mk 9 n s t l fs) rfl]
   simp only[Val.fields]
   refine ak.intro oM.2 (by simp[oM]) ?_
   simp(disch:=try exact dI) only[oM,Val.pv_mk,push_cast,seval]
   refine ap ([(3,0,31,6)]) (fun i:Nat=>[(3,.olist 0 6 (((fs.take i).map Fld.value).map Val.pv)),(4,.pv (.int .i64 (i:Int)))]) (fun _=>[]) (fun i=>i<=fs.length) (fun i=>fs.length - i) (0) ?_;intro e0 σ0 n0 h0;simp(disch:=try exact dI) only[push_cast,seval] at h0;obtain⟨rfl,rfl,rfl⟩:=h0;refine⟨?_,?_,?_⟩
   ·exact qsZ
   ·omega
   rintro i hi
   by_cases hlt:i<fs.length
   ·have hltI:(i:Int)<(fs.length:Int):=by omega
    obtain⟨c,hc⟩:∃ c,fs[i]? = some c:=⟨_,List.getElem?_eq_getElem hlt⟩
    have hts:=aD hc
    have hlt2:(fs.take i).length=i:=by rw[List.length_take];omega
    obtain⟨nm,⟨k',n',s',t',l',f'⟩⟩:=c
    have hcp:(fs.map Fld.pv)[i]? = some (.agg [.str nm,.int .i64 k',.int .i64 n',.int .i64 s',.str t',.list (l'.map Val.pv),.list (f'.map Fld.pv)]):=by simp[hc,Fld.pv_mk,Val.pv_mk,ag]
    simp(disch:=try exact dI) only[hcp,hlt2,push_cast,seval]
    exact⟨i+1,aK (by simp(disch:=try exact dI) only[hts,List.map_append,Fld.value,Val.pv_mk,push_cast,seval]),by omega,by omega⟩
   ·have he:i=fs.length:=by omega
    subst he
    simp(disch:=try exact dI) only[List.take_length,nY,push_cast,seval]
  ·rw[dV (v:=.mk k n s t l fs) h8 h9]
   refine ak.intro oM.2 (by simp[oM]) ?_
   have e1:¬ k=8:=by omega
   have e2:¬ k=10:=by omega
   simp(disch:=try exact dI) only[oM,Val.pv_mk,push_cast,seval]
def szN:Nat->Val->Nat
 | 0,_=>0
 | n+1,v=>1+((aV v).map (szN n)).sum
theorem lD {α β:Type}{p:α->List β}{q:α->Nat}:∀ (l:List α),(∀ x∈l,(p x).length=q x)->(l.flatMap p).length=(l.map q).sum
 | [],_=>rfl
 | x::r,h=>by
   rw[List.flatMap_cons,List.length_append,h x (List.mem_cons_self ..),lD r fun y hy=>h y (List.mem_cons_of_mem _ hy)]
   simp
theorem nU:∀ (n:Nat) (lv:Int) (v:Val),(cf n lv v).length=szN n v
 | 0,_,_=>rfl
 | n+1,lv,v=>by
   rw[cf,szN,List.length_cons,lD _ fun x _=>nU n (lv+1) x]
   omega
theorem oZ {p:Val->Nat}{f:List Val}{i:Nat}{g:Val}(h:f[i]? = some g):((f.take (i+1)).map p).sum=((f.take i).map p).sum+p g:=by
 rw[aD h,List.map_append,List.sum_append];simp
theorem Be {p:Val->Nat}{f:List Val}(i:Nat):((f.take i).map p).sum<=(f.map p).sum:=by
 have h:(f.map p).sum=((f.take i).map p).sum+((f.drop i).map p).sum:=by
  rw[<- List.sum_append,<- List.map_append,List.take_append_drop]
 omega
theorem Gx {p:Val->Nat}{f:List Val}{i:Nat}{g:Val}(h:f[i]? = some g):p g<=(f.map p).sum:=by
 have h1:=oZ (p:=p) h
 have h2:=Be (p:=p) (f:=f) (i+1)
 omega
theorem xx (v:Val)(hv:v.ok):(aV v).length<=140737488351232:=by
 obtain⟨k,n,s,t,l,fs⟩:=v
 rw[Val.ok_mk] at hv
 obtain⟨_,_,_,_,h5,_,h7,_⟩:=hv
 by_cases h8:k=8\/k=10
 ·rw[bY (v:=.mk k n s t l fs) h8];simp only[Val.lst];omega
 ·by_cases h9:k=9
  ·rw[dg (v:=.mk k n s t l fs) h9];simp only[Val.fields,List.length_map];omega
  ·rw[dV (v:=.mk k n s t l fs) h8 h9];simp
theorem pI {v x:Val}(hv:v.ok)(hx:x∈aV v):x.ok:=by
 obtain⟨k,n,s,t,l,fs⟩:=v
 rw[Val.ok_mk] at hv
 obtain⟨_,_,_,_,_,h6,_,h8'⟩:=hv
 by_cases h8:k=8\/k=10
 ·rw[bY (v:=.mk k n s t l fs) h8] at hx;exact h6 x hx
 ·by_cases h9:k=9
  ·rw[dg (v:=.mk k n s t l fs) h9] at hx
   obtain⟨f,hf,rfl⟩:=List.mem_map.1 hx
   have:=h8' f hf
   obtain⟨a,b⟩:=f
   rw[Fld.ok_mk] at this;exact this.2
  ·rw[dV (v:=.mk k n s t l fs) h8 h9] at hx;cases hx
theorem Bp:∀ (n:Nat) (v:Val),cy n v->v.ok->szN n v<=9223372036854775806->ak Tryz.prog aq 203 [v.pv] (.int .i64 (szN n v:Int))
 | 0,_,h,_,_=>h.elim
 | n+1,v,hd,hv,hs=>by
   have ih:=Bp n
   have hpl:=xx v hv
   have hpo:=fun x (hx:x∈aV v)=>pI hv hx
   have hp:=uB v (by cases v;rw[Val.ok_mk] at hv;exact hv.2.2.2.2.1) (by cases v;rw[Val.ok_mk] at hv;exact hv.2.2.2.2.2.2.1)
   rw[cy] at hd
   rw[szN] at hs ⊢
   generalize aV v=ps at *
   obtain⟨k,vn,s,t,l,fs⟩:=v
   simp only[Val.pv_mk] at hp
   refine ak.intro T8.2 (by simp[T8]) ?_
   simp(disch:=try exact dI) only[T8,Val.pv_mk,push_cast,seval]
   refine ab.pure hp rfl ?_
   refine zgZ ?_
   refine ap ([]) (fun i:Nat=>[(3,.pv (.int .i64 ((1+((ps.take i).map (szN n)).sum:Nat):Int))),(5,.pv (.int .i64 (i:Int)))]) (fun _=>[]) (fun i=>i<=ps.length) (fun i=>ps.length - i) (0) ?_;intro e0 σ0 n0 h0;simp(disch:=try exact dI) only[push_cast,seval] at h0;obtain⟨rfl,rfl,rfl⟩:=h0;refine⟨?_,?_,?_⟩
   ·simp(disch:=try exact dI) only[List.take_zero,List.map_nil,List.sum_nil,push_cast,seval]
   ·omega
   rintro i hi
   by_cases hlt:i<ps.length
   ·have hltI:(i:Int)<(ps.length:Int):=by omega
    obtain⟨x,hx⟩:∃ x,ps[i]? = some x:=⟨_,List.getElem?_eq_getElem hlt⟩
    have hxm:=List.mem_of_getElem? hx
    have h1:=oZ (p:=szN n) hx
    have h2:=Be (p:=szN n) (f:=ps) (i+1)
    have h3:=Gx (p:=szN n) hx
    have hc:=ih x (hd x hxm) (hpo x hxm) (by omega)
    generalize ((ps.take i).map (szN n)).sum=S at *
    generalize szN n x=z at *
    obtain⟨xk,xn,xs,xt,xl,xf⟩:=x
    simp only[Val.pv_mk] at hc
    simp(disch:=try exact dI) only[hx,Option.map_some,Val.pv_mk,push_cast,seval]
    refine ab.pure hc rfl ?_
    refine zgZ ?_
    exact⟨i+1,aK (by simp(disch:=try exact dI) only[h1,Int.add_assoc,push_cast,seval]),by omega,by omega⟩
   ·obtain rfl:i=ps.length:=by omega
    rw[List.take_length]
    simp(disch:=try exact dI) only[Int.lt_irrefl,push_cast,seval]
theorem MW (v:Val):ak Tryz.prog aq 286 [v.pv] (.bool (bf v)):=by
 obtain⟨k,n,s,t,l,fs⟩:=v
 have h5:(l.length=0/\(l.length:Int)=0)\/(¬ l.length=0/\¬ (l.length:Int)=0):=by omega
 have h6:(fs.length=0/\(fs.length:Int)=0)\/(¬ fs.length=0/\¬ (fs.length:Int)=0):=by omega
 obtain⟨r,hr⟩:∃ r,r=bf (.mk k n s t l fs):=⟨_,rfl⟩
 rw[<- hr]
 refine ak.intro TO.2 (by simp[TO]) ?_
 rcases Classical.em (k=0) with a | a
 all_goals first | (have:=hend;skip) | (refine aM (c:=false) hr ?_ ?_;(focus (simp[bf, *];done));rintro rfl;have hend:=trivial;clear h5 h6) | rcases Classical.em (n=0) with b | b
 all_goals first | (have:=hend;skip) | (refine aM (c:=false) hr ?_ ?_;(focus (simp[bf, *];done));rintro rfl;have hend:=trivial;clear h5 h6) | rcases Classical.em (s=0) with c | c
 all_goals first | (have:=hend;skip) | (refine aM (c:=false) hr ?_ ?_;(focus (simp[bf, *];done));rintro rfl;have hend:=trivial;clear h5 h6) | rcases Classical.em (t=[]) with d | d
 all_goals first | (have:=hend;skip) | (refine aM (c:=false) hr ?_ ?_;(focus (simp[bf, *];done));rintro rfl;have hend:=trivial;clear h5 h6) | rcases h5 with ⟨e,e1⟩ | ⟨e,e1⟩
 all_goals first | (have:=hend;skip) | (refine aM (c:=false) hr ?_ ?_;(focus (simp[bf, *];done));rintro rfl;have hend:=trivial;clear h6) | rcases h6 with ⟨f,f1⟩ | ⟨f,f1⟩
 all_goals first | (have:=hend;skip) | (refine aM (c:=true) hr ?_ ?_;(focus (simp[bf, *];done));rintro rfl) | (refine aM (c:=false) hr ?_ ?_;(focus (simp[bf, *];done));rintro rfl)
 all_goals clear hr
 all_goals simp(disch:=try exact dI) only[TO,Val.pv_mk, *,push_cast,seval]
theorem AZ (v:Val)(hk:1<=v.kind/\v.kind<=10):ak Tryz.prog aq 287 [v.pv] (.bool (!bl v)):=by
 obtain⟨k,n,s,t,l,fs⟩:=v
 simp only[Val.kind] at hk
 obtain⟨h1,h2,h3,h4,h5⟩:=AW k n s t l fs hk
 obtain⟨r,hr⟩:∃ r,r=bl (.mk k n s t l fs):=⟨_,rfl⟩
 rw[<- hr]
 refine ak.intro TN.2 (by simp[TN]) ?_
 have hc:k=1\/k=2\/k=3\/k=4\/k=5\/k=6\/k=7\/k=8\/k=9\/k=10:=by omega
 clear hk
 rcases hc with rfl | rfl | rfl | rfl | rfl | rfl | rfl | rfl | rfl | rfl
 all_goals rcases h1 with a | ⟨a,b⟩ | ⟨a,b⟩
 all_goals try omega
 all_goals first | (have:=hend;skip) | (refine aM (c:=false) hr ?_ ?_;(focus (simp[bl, *];done));rintro rfl;have hend:=trivial;clear h2 h3 h4 h5) | rcases h2 with a2 | ⟨a2,b2⟩ | ⟨a2,b2⟩
 all_goals try omega
 all_goals first | (have:=hend;skip) | (refine aM (c:=false) hr ?_ ?_;(focus (simp[bl, *];done));rintro rfl;have hend:=trivial;clear h3 h4 h5) | rcases h3 with a3 | ⟨a3,b3⟩ | ⟨a3,b3⟩
 all_goals try omega
 all_goals first | (have:=hend;skip) | (refine aM (c:=false) hr ?_ ?_;(focus (simp[bl, *];done));rintro rfl;have hend:=trivial;clear h4 h5) | rcases h4 with a4 | ⟨a4,b4,c4⟩ | ⟨a4,b4,c4⟩
 all_goals try omega
 all_goals first | (have:=hend;skip) | (refine aM (c:=false) hr ?_ ?_;(focus (simp[bl, *];done));rintro rfl;have hend:=trivial;clear h5) | rcases h5 with a5 | ⟨a5,b5,c5⟩ | ⟨a5,b5,c5⟩
 all_goals try omega
 all_goals first | (have:=hend;skip) | (refine aM (c:=true) hr ?_ ?_;(focus (simp[bl, *];done));rintro rfl) | (refine aM (c:=false) hr ?_ ?_;(focus (simp[bl, *];done));rintro rfl)
 all_goals clear hr
 all_goals simp(disch:=try exact dI) only[TN,Bool.not_true,Bool.not_false,Val.pv_mk, *,push_cast,seval]
def MO (v:Val):Int:=if bf v=true then 19 else if v.kind<1\/10<v.kind then 11 else if bl v=false then 3 else be v
theorem nW (n a b:Int):eB n a b=if inB n a b=false then 2 else 0:=by
 unfold eB inB;by_cases h1:a<=n<;>by_cases h2:n<=b<;>simp[h1,h2]<;>omega
theorem CH (n a b s c d:Int):(if eB n a b=0 then eB s c d else eB n a b)=if inB n a b=false then 2 else if inB s c d=false then 2 else 0:=by
 rw[nW,nW];by_cases h:inB n a b=false<;>simp[h]
theorem SP (n a b:Int):eB n a b=if eB n a b=0 then eB 0 0 12 else eB n a b:=by
 by_cases h:eB n a b=0
 ·rw[if_pos h,h];rfl
 ·rw[if_neg h]
theorem P3 (v:Val):ak Tryz.prog aq 250 [v.pv] (.int .i64 (MO v)):=by
 obtain⟨k,n,s,t,l,fs⟩:=v
 have hn:=MW (.mk k n s t l fs)
 have hu:=AZ (.mk k n s t l fs)
 have hs:bl (.mk k n s t l fs)=true->k=2->s=0:=by simp only[bl,Bool.and_eq_true,Bool.or_eq_true,decide_eq_true_eq];omega
 rw[show MO (.mk k n s t l fs)=if bf (.mk k n s t l fs)=true then 19 else if k<1\/10<k then 11 else if bl (.mk k n s t l fs)=false then 3 else be (.mk k n s t l fs) from rfl]
 generalize bf (.mk k n s t l fs)=b1 at hn ⊢
 generalize bl (.mk k n s t l fs)=b2 at hu hs ⊢
 simp only[Val.pv_mk,Val.kind] at hn hu
 refine ak.intro T2.2 (by simp[T2]) ?_
 simp(disch:=try exact dI) only[T2,Val.pv_mk,push_cast,seval]
 refine ab.pure hn rfl ?_
 cases b1 with
 | true=>simp(disch:=try exact dI) only[push_cast,seval]
 | false=>
 rw[if_neg (show ¬ false=true by decide)]
 by_cases h1:k<1
 ·rw[if_pos (.inl h1)]
  simp(disch:=try exact dI) only[h1,push_cast,seval]
 by_cases h2:10<k
 ·rw[if_pos (.inr h2)]
  simp(disch:=try exact dI) only[h1,h2,push_cast,seval]
 rw[if_neg (by omega)]
 have hu:=hu (by omega)
 simp(disch:=try exact dI) only[h1,h2,push_cast,seval]
 refine ab.pure hu rfl ?_
 cases b2 with
 | false=>simp(disch:=try exact dI) only[push_cast,seval]
 | true=>
 rw[if_neg (show ¬ true=false by decide)]
 have hs:=hs rfl
 have hc:(k=1\/k=6\/k=7)\/(k=2\/k=3)\/(k=4\/k=5)\/k=8\/k=9\/k=10:=by omega
 clear h1 h2
 rcases hc with h | h | h | rfl | rfl | rfl
 ·rcases h with rfl | rfl | rfl
  all_goals
   simp only[be,Int.reduceEq,reduceIte]
   rw[nW]
   refine zgZ ?_
   refine ab.pure (iQ n _ _) rfl ?_
   generalize inB n _ _=q
   cases q<;>simp(disch:=try exact dI) only[push_cast,seval]
 ·rcases h with rfl | rfl
  case' inl=>have h0:=hs rfl;subst h0
  all_goals
   simp only[be,Int.reduceEq,reduceIte]
   first | rw[CH] | rw[SP,CH]
   refine zgZ ?_
   refine ab.pure (iQ n _ _) rfl ?_
   generalize inB n _ _=q
   cases q
   case' true=>
    refine zgZ ?_
    refine ab.pure (iQ _ 0 12) rfl ?_
    generalize inB _ 0 12=q
    cases q
   all_goals simp(disch:=try exact dI) only[push_cast,seval]
 ·rcases h with rfl | rfl
  all_goals
   simp only[be,Int.reduceEq,reduceIte]
   by_cases h5:(1024:Int)<t.length
   ·rw[show cW t.length 1024 5=5 from if_pos h5]
    simp(disch:=try exact dI) only[h5,push_cast,seval]
   ·rw[show cW t.length 1024 5=0 from if_neg h5]
    simp(disch:=try exact dI) only[h5,push_cast,seval]
    all_goals
     refine ab.pure (dL t) rfl ?_
     cases Lib.validD t<;>simp(disch:=try exact dI) only[push_cast,seval]
 ·rw[show be (.mk 8 n s t l fs)=cW l.length 256 9 from rfl]
  by_cases h5:(256:Int)<l.length
  ·rw[show cW l.length 256 9=9 from if_pos h5]
   simp(disch:=try exact dI) only[h5,push_cast,seval]
  ·rw[show cW l.length 256 9=0 from if_neg h5]
   simp(disch:=try exact dI) only[h5,push_cast,seval]
 ·rw[show be (.mk 9 n s t l fs)=fW fs from rfl]
  have hr:=Ed fs
  generalize fW fs=q at hr ⊢
  refine zgZ ?_
  refine ab.pure hr rfl ?_
  exact qsZ
 ·rw[show be (.mk 10 n s t l fs)=(if bN t=false then 12 else if l.length=0 then 4 else cW l.length 1 3) from rfl]
  have hr:=sK t
  generalize bN t=q at hr ⊢
  refine zgZ ?_
  refine ab.pure hr rfl ?_
  cases q with
  | false=>simp(disch:=try exact dI) only[push_cast,seval]
  | true=>
  by_cases h0:l.length=0
  ·have h0I:(l.length:Int)=0:=by omega
   rw[if_pos h0]
   simp(disch:=try exact dI) only[h0I,push_cast,seval]
  ·have h0I:¬ (l.length:Int)=0:=by omega
   rw[if_neg h0]
   by_cases h5:(1:Int)<l.length
   ·rw[show cW l.length 1 3=3 from if_pos h5]
    simp(disch:=try exact dI) only[h0I,h5,push_cast,seval]
   ·rw[show cW l.length 1 3=0 from if_neg h5]
    simp(disch:=try exact dI) only[h0I,h5,push_cast,seval]
end Go.Proofs.YtbaaokocnegdoaaGreatDoor

/- A part. -/
import Derived.Test.YtngchmkoadaecaaGreatDoorClJSf
set_option linter.unusedVariables false
set_option linter.unusedSimpArgs false
set_option maxRecDepth 100000
open List renaming mem_cons_self->Vt
namespace Go.Proofs.YtngchmkoadaecaaGreatDoor
open Go Go.Ab
attribute [local irreducible] vc
theorem AW {k m M s:Int}{w:List (List UInt8)}{e:List Typ}{f:List TFd}(h:kq (.mk k m M s w e f)=0):(¬ k=8->e=[])/\(¬ (k=9\/k=10)->f=[]):=by
 rw[kq] at h
 by_cases a:inB k 1 10=false
 ·rw[if_pos a] at h;exact absurd h (by decide)
 rw[if_neg a] at h
 have hr:1<=k/\k<=10:=by simpa[inB] using a
 by_cases b:jR k (.mk k m M s w e f)=true
 ·rw[if_pos b] at h;exact absurd h (by decide)
 have b':jR k (.mk k m M s w e f)=false:=by simpa using b
 simp only[jR,aM,Bool.or_eq_false_iff] at b'
 obtain⟨_,_,_,b4,b5⟩:=b'
 refine⟨fun h8=>?_,fun h9=>?_⟩
 ·rw[decide_eq_false h8] at b4
  exact List.length_eq_zero_iff.1 (by simpa using b4)
 ·have h9':¬ 9<=k:=by omega
  rw[decide_eq_false h9'] at b5
  exact List.length_eq_zero_iff.1 (by simpa using b5)
theorem Lh {m M s:Int}{w:List (List UInt8)}{e:List Typ}{f:List TFd}(h:kq (.mk 8 m M s w e f)=0):m<=256:=by
 have hb:=(el h).2.1
 unfold fc at hb
 rw[if_neg (fun hh=>absurd hh.1 (by decide))] at hb
 by_cases hc:(2<=(8:Int)/\(8:Int)<=8)/\(M<m\/m<loK 8\/hiK 8<M)
 ·rw[if_pos hc] at hb;exact absurd hb (by decide)
 ·have h2:¬ (M<m\/m<loK 8\/hiK 8<M):=fun hh=>hc ⟨by decide,hh⟩
  rw[show hiK 8=256 from rfl] at h2
  omega
theorem Lg {m M s:Int}{w:List (List UInt8)}{e:List Typ}{f:List TFd}(h:kq (.mk 10 m M s w e f)=0):∃ g r,f=g::r:=by
 have h1:=(el h).2.2.1
 cases f with
 | cons g r=>exact⟨g,r,rfl⟩
 | nil=>simp[cU] at h1
theorem OF {k m M s:Int}{w:List (List UInt8)}{e:List Typ}{f:List TFd}(h:kq (.mk k m M s w e f)=0):f.length<=64:=by
 have h1:=(el h).2.2.1
 by_cases hc:64<f.length
 ·exfalso
  unfold cU at h1
  repeat' split at h1
  all_goals first | exact absurd h1 (by decide) | omega
 ·omega
theorem HD {n:Nat}{a:Int}{nm:List UInt8}{t:Typ}{x:Val}{r:List Val}(h:kA n (.mk a nm 3 t (x::r))=false)(hx:x.ok):NH x:=by
 have h1:accB n t x=true:=by simpa[kA,Ce] using h
 have h2:PF x=0:=by simp only[accB,Bool.and_eq_true,decide_eq_true_eq] at h1;exact h1.1
 have:=tt (eS (lvl x) 1 x) 0 (by omega) h2
 exact⟨hx,by omega⟩
theorem iS:∀ (n N:Nat) (t:Typ),n<=N->tyV n t->t.ok->eF N t
 | 0,_,_,_,h,_=>h.elim
 | _+1,0,_,h,_,_=>absurd h (by omega)
 | n+1,N+1,.mk k m M s w e f,hN,h,ht=>by
   obtain⟨ho,h8,h9⟩:=h
   rw[Ul] at ht
   obtain⟨_,_,_,_,_,_,t3,t5,t4,t6⟩:=ht
   refine⟨fun hk hm=>?_,fun hk=>?_,fun hk=>⟨OF ho,fun g hg=>?_⟩⟩
   ·subst hk
    obtain⟨x,rfl⟩:=sx ho
    exact⟨Lh ho,x,[],rfl,iS n N x (by omega) (h8 rfl x (Vt ..)) (t5 x (Vt ..))⟩
   ·subst hk
    obtain⟨g,r,rfl⟩:=Lg ho
    exact⟨g,r,rfl,iS n N g.typ (by omega) (h9 (.inr rfl) g (Vt ..)).1 (lj (t6 g (Vt ..))).1⟩
   ·subst hk
    have hs:=iS n N g.typ (by omega) (h9 (.inl rfl) g hg).1 (lj (t6 g hg)).1
    obtain⟨b,hb⟩:=fY f [] (el ho).2.2.2 g hg
    have hd:=(lj (t6 g hg)).2
    have hdf:=(h9 (.inl rfl) g hg).2 rfl
    obtain⟨n',nm',nd',t',d'⟩:=g
    refine⟨fun _=>hs,fun h3=>?_⟩
    subst h3
    obtain⟨x,r,rfl⟩:=lF hb
    exact⟨x,r,rfl,HD hdf (hd x (Vt ..))⟩
theorem DK:∀ (n:Nat) (t:Typ),n<=9->tyV n t->t.ok->Qn n t
 | 0,_,_,h,_=>h.elim
 | n+1,.mk k m M s w e f,hN,h,ht=>by
   have hs:=iS (n+1) 9 _ hN h ht
   obtain⟨ho,h8,h9⟩:=h
   obtain⟨he,hf⟩:=AW ho
   rw[Ul] at ht
   obtain⟨_,_,_,_,_,_,t3,t5,t4,t6⟩:=ht
   refine⟨hs,by omega,by omega,fun x hx=>?_,fun g hg=>?_⟩
   ·by_cases hk:k=8
    ·exact DK n x (by omega) (h8 hk x hx) (t5 x hx)
    ·rw[he hk] at hx;cases hx
   ·by_cases hk:k=9\/k=10
    ·exact DK n g.typ (by omega) (h9 hk g hg).1 (lj (t6 g hg)).1
    ·rw[hf hk] at hg;cases hg
noncomputable def Q0 (t:Typ):Int:=if (fJ 0 8 4096 t).1=0 then (if 4096<dR 8 t then 9 else 0) else (fJ 0 8 4096 t).1
theorem Mw (t:Typ)(ht:t.ok):ap Tryz.prog aB 92 [t.pv] (.int .i64 (Q0 t)):=by
 have h94:=De 8 (by omega) t 1 4096 ht (by omega) (by omega) (by omega)
 have h95:(fJ 0 8 4096 t).1=0->ap Tryz.prog aB 111 [t.pv] (.int .i64 (dR 8 t)):=fun h=>fI 8 t (DK 8 t (by omega) (j9 8 4096 t h) ht)
 simp only[Q0]
 obtain⟨⟨z,L⟩,hq⟩:∃ q,q=fJ 0 8 4096 t:=⟨_,rfl⟩
 rw[<- hq] at h94 h95 ⊢
 simp only at h94 h95 ⊢
 clear hq
 generalize dR 8 t=G at h95 ⊢
 obtain⟨k,m,M,s,w,e,f⟩:=t
 simp only[Um] at h94 h95
 refine ap.intro Q92.2 (by simp[Q92]) ?_
 by_cases hz:z=0
 ·subst hz
  have h95:=h95 rfl
  rw[if_pos rfl]
  by_cases hg:4096<G
  ·rw[if_pos hg]
   simp(maxSteps:=9^7) (disch:=try exact dI) only[Q92,Um,push_cast,seval]
   refine ab.lentK h94 [1] rfl qsZ qsZ ?_
   simp(maxSteps:=9^7) (disch:=try exact dI) only[push_cast,seval]
   refine ab.pure h95 rfl ?_
   simp(maxSteps:=9^7) (disch:=try exact dI) only[hg,push_cast,seval]
  ·rw[if_neg hg]
   simp(maxSteps:=9^7) (disch:=try exact dI) only[Q92,Um,push_cast,seval]
   refine ab.lentK h94 [1] rfl qsZ qsZ ?_
   simp(maxSteps:=9^7) (disch:=try exact dI) only[push_cast,seval]
   refine ab.pure h95 rfl ?_
   simp(maxSteps:=9^7) (disch:=try exact dI) only[hg,push_cast,seval]
 ·rw[if_neg hz]
  simp(maxSteps:=9^7) (disch:=try exact dI) only[Q92,Um,push_cast,seval]
  refine ab.lentK h94 [1] rfl qsZ qsZ ?_
  simp(maxSteps:=9^7) (disch:=try exact dI) only[hz,push_cast,seval]
noncomputable def Is (nm:List UInt8)(v:Int)(t:Typ):Int:=if aE nm=false then 12 else if inB v 1 999=false then 2 else if ¬ t.kind=9 then 11 else Q0 t
theorem mI (nm:List UInt8)(v:Int)(t:Typ)(ht:t.ok):ap Tryz.prog aB 40 [(Sch.mk nm v t).pv] (.int .i64 (Is nm v t)):=by
 have h43:=me nm
 have h44:=mr v 1 999
 have h41:=Mw t ht
 unfold Is
 generalize aE nm=a at *
 generalize inB v 1 999=b at *
 generalize Q0 t=z at *
 obtain⟨kk,hkk⟩:∃ kk,kk=t.kind:=⟨_,rfl⟩
 rw[<- hkk]
 obtain⟨k,m,M,s,w,e,f⟩:=t
 rw[Ub]
 simp only[Typ.kind] at hkk
 subst hkk
 simp only[Um] at h41 ⊢
 refine ap.intro Q40.2 (by simp[Q40]) ?_
 cases a with
 | false=>
   rw[if_pos rfl]
   simp(maxSteps:=9^7) (disch:=try exact dI) only[Q40,ae,push_cast,seval]
   refine ab.pure h43 rfl ?_
   simp(maxSteps:=9^7) (disch:=try exact dI) only[push_cast,seval]
 | true=>
   rw[if_neg (by decide)]
   cases b with
   | false=>
     rw[if_pos rfl]
     simp(maxSteps:=9^7) (disch:=try exact dI) only[Q40,ae,push_cast,seval]
     refine ab.pure h43 rfl ?_
     simp(maxSteps:=9^7) (disch:=try exact dI) only[push_cast,seval]
     refine ab.pure h44 rfl ?_
     simp(maxSteps:=9^7) (disch:=try exact dI) only[push_cast,seval]
   | true=>
     rw[if_neg (by decide)]
     by_cases hk:kk=9
     ·rw[if_neg (fun q=>q hk)]
      simp(maxSteps:=9^7) (disch:=try exact dI) only[Q40,ae,hk,push_cast,seval]
      refine ab.pure h43 rfl ?_
      simp(maxSteps:=9^7) (disch:=try exact dI) only[push_cast,seval]
      refine ab.pure h44 rfl ?_
      simp(maxSteps:=9^7) (disch:=try exact dI) only[hk,push_cast,seval]
      rw[hk] at h41
      refine ab.pure h41 rfl ?_
      simp(maxSteps:=9^7) (disch:=try exact dI) only[push_cast,seval]
     ·rw[if_pos hk]
      simp(maxSteps:=9^7) (disch:=try exact dI) only[Q40,ae,hk,push_cast,seval]
      refine ab.pure h43 rfl ?_
      simp(maxSteps:=9^7) (disch:=try exact dI) only[push_cast,seval]
      refine ab.pure h44 rfl ?_
      simp(maxSteps:=9^7) (disch:=try exact dI) only[hk,push_cast,seval]

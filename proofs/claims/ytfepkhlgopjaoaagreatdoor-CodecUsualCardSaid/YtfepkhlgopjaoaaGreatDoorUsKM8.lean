/- A part of the proof for CodecUsualCardSaid. -/
import Derived.Test.YtfepkhlgopjaoaaGreatDoorUsKM7
import Derived.Test.YtfepkhlgopjaoaaGreatDoorUsKSh
import Derived.Test.YtfepkhlgopjaoaaGreatDoorUsCore6
set_option linter.unusedVariables false
set_option linter.unusedSimpArgs false
set_option maxRecDepth 100000
-- many steps
namespace Go.Proofs.YtfepkhlgopjaoaaGreatDoor
open Go Go.Ab
attribute [local irreducible] vc
theorem Eb (nm:List UInt8)(v:Int)(t:Typ)(ht:t.ok):ap Tryz.prog az 10 [fmZ 0 0,(Sch.mk nm v t).pv] (.bool (Iw [] nm t)):=by
 have h:=MN 0 0 [] nm v t ht
 rw[d7] at h
 exact h.nz (.cons _ _ _ _ (lz 0 0) (.cons _ _ _ _ (.refl _) .nil))
theorem jk {t:Typ}(ht:t.ok):(b9 t).length≤9000000000000:=by
 obtain⟨k,m,M,s,w,e,f⟩:=t
 rw[Typ.ok_mk] at ht
 simp only[b9,List.length_map,Typ.fields]
 omega
theorem EG {t:Typ}(h:flE t=0):(b9 t).length≤1000000:=by
 have:=tO (un (nP h).1)
 obtain⟨k,m,M,s,w,e,f⟩:=t
 have:=DZ this
 simp only[b9,List.length_map,Typ.fields]
 omega
set_option maxHeartbeats 4000000 in
theorem JQ (kind:Int)(nm:List UInt8)(v:Int)(t:Typ)(ht:t.ok)(hfw:Iw [] nm t=false):ap Tryz.prog az 8 [.int .i64 kind,(Sch.mk nm v t).pv] (.bool true):=by
 have h9:=wN
 have h10:=Eb nm v t ht
 rw[hfw] at h10
 rw[Sch.pv_mk] at *
 simp only[fmZ] at h10
 clear ht hfw
 obtain⟨tk,m,M,sc,wd,el,fl⟩:=t
 simp only[Typ.pv_mk] at h10 ⊢
 refine ap.intro iB (by simp[F8]) ?_
 simp(maxSteps:=9^7) (disch:=try exact dI) only[F8,ag,push_cast,seval]
 first | refine ae.pure h9 rfl ?_ | refine ab h9 rfl ?_
 simp(maxSteps:=9^7) (disch:=try exact dI) only[push_cast,seval]
 first | refine ae.pure h10 rfl ?_ | refine ab h10 rfl ?_
 simp(maxSteps:=9^7) (disch:=try exact dI) only[push_cast,seval]
 first | refine ae.pure h9 rfl ?_ | refine ab h9 rfl ?_
 simp(maxSteps:=9^7) (disch:=try exact dI) only[push_cast,seval]
set_option maxHeartbeats 16000000 in
theorem JP (kind:Int)(nm:List UInt8)(v:Int)(t:Typ)(ht:t.ok)(hfw:Iw [] nm t=true){f:PV}{e:Int}(hc:UsuC kind nm v t f e):ap Tryz.prog az 8 [.int .i64 kind,(Sch.mk nm v t).pv] (.bool true):=by
 have h9:=wN
 have h10:=Eb nm v t ht
 have h25:=EN kind nm v t ht (jk ht) hc
 have h21:=bI nm v t ht
 have hz:=fun k s=>DV k s nm v t ht
 have hy:=fun k s=>Jn k s nm v t ht
 have h3:=FC 3 0 (b9 t) (jk ht) nm v t ht
 have h4:=Jo 3 0 (b9 t) (jk ht) nm v t ht
 have hwe:=jh t ht
 have hwo:=il t ht
 have hq:=G1 0 0
 rw[d7] at h3 h4
 rw[j9] at hwo
 rw[hfw] at h10
 simp only[Sch.pv_mk] at *
 cases hc with
 | kindE h=>
   clear h21 hz hy h3 h4 hwe hwo ht hfw
   simp only[fmZ] at *
   obtain⟨tk,m,M,sc,wd,el,fl⟩:=t
   simp only[Typ.pv_mk] at *
   refine ap.intro iB (by simp[F8]) ?_
   rcases h with h | h
   ·simp(maxSteps:=9^7) (disch:=try exact dI) only[F8,ag,h,push_cast,seval]
    first | refine ae.pure h9 rfl ?_ | refine ab h9 rfl ?_
    simp(maxSteps:=9^7) (disch:=try exact dI) only[push_cast,seval]
    first | refine ae.pure h10 rfl ?_ | refine ab h10 rfl ?_
    simp(maxSteps:=9^7) (disch:=try exact dI) only[push_cast,seval]
    first | refine ae.pure h25 rfl ?_ | refine ab h25 rfl ?_
    simp(maxSteps:=9^7) (disch:=try exact dI) only[h,push_cast,seval]
    first | refine ae.pure hq rfl ?_ | refine ab hq rfl ?_
    simp(maxSteps:=9^7) (disch:=try exact dI) only[push_cast,seval]
   ·have h':¬ kind<1:=by omega
    simp(maxSteps:=9^7) (disch:=try exact dI) only[F8,ag,h,h',push_cast,seval]
    first | refine ae.pure h9 rfl ?_ | refine ab h9 rfl ?_
    simp(maxSteps:=9^7) (disch:=try exact dI) only[push_cast,seval]
    first | refine ae.pure h10 rfl ?_ | refine ab h10 rfl ?_
    simp(maxSteps:=9^7) (disch:=try exact dI) only[push_cast,seval]
    first | refine ae.pure h25 rfl ?_ | refine ab h25 rfl ?_
    simp(maxSteps:=9^7) (disch:=try exact dI) only[h,h',push_cast,seval]
    first | refine ae.pure hq rfl ?_ | refine ab hq rfl ?_
    simp(maxSteps:=9^7) (disch:=try exact dI) only[push_cast,seval]
 | scm h1 h4' h=>
   generalize j2 nm v t=z at *
   clear hz hy h3 h4 hwe hwo ht hfw
   simp only[fmZ] at *
   obtain⟨tk,m,M,sc,wd,el,fl⟩:=t
   simp only[Typ.pv_mk] at *
   refine ap.intro iB (by simp[F8]) ?_
   simp(maxSteps:=9^7) (disch:=try exact dI) only[F8,ag,push_cast,seval]
   first | refine ae.pure h9 rfl ?_ | refine ab h9 rfl ?_
   simp(maxSteps:=9^7) (disch:=try exact dI) only[push_cast,seval]
   first | refine ae.pure h10 rfl ?_ | refine ab h10 rfl ?_
   simp(maxSteps:=9^7) (disch:=try exact dI) only[push_cast,seval]
   first | refine ae.pure h25 rfl ?_ | refine ab h25 rfl ?_
   simp(maxSteps:=9^7) (disch:=try exact dI) only[h1,h4',push_cast,seval]
   first | refine ae.pure h21 rfl ?_ | refine ab h21 rfl ?_
   simp(maxSteps:=9^7) (disch:=try exact dI) only[h,push_cast,seval]
   first | refine ae.pure h21 rfl ?_ | refine ab h21 rfl ?_
   simp(maxSteps:=9^7) (disch:=try exact dI) only[h,push_cast,seval]
   first | refine ae.pure hq rfl ?_ | refine ab hq rfl ?_
   simp(maxSteps:=9^7) (disch:=try exact dI) only[push_cast,seval]
 | wid hk hs h=>
   have hw:=hwe h
   rw[hs] at h21
   subst hk
   generalize flE t=z at *
   clear hz hy h3 h4 hwe hwo ht hfw hs
   simp only[fmZ] at *
   obtain⟨tk,m,M,sc,wd,el,fl⟩:=t
   simp only[Typ.pv_mk] at *
   refine ap.intro iB (by simp[F8]) ?_
   simp(maxSteps:=9^7) (disch:=try exact dI) only[F8,ag,push_cast,seval]
   first | refine ae.pure h9 rfl ?_ | refine ab h9 rfl ?_
   simp(maxSteps:=9^7) (disch:=try exact dI) only[push_cast,seval]
   first | refine ae.pure h10 rfl ?_ | refine ab h10 rfl ?_
   simp(maxSteps:=9^7) (disch:=try exact dI) only[push_cast,seval]
   first | refine ae.pure h25 rfl ?_ | refine ab h25 rfl ?_
   simp(maxSteps:=9^7) (disch:=try exact dI) only[push_cast,seval]
   first | refine ae.pure h21 rfl ?_ | refine ab h21 rfl ?_
   simp(maxSteps:=9^7) (disch:=try exact dI) only[push_cast,seval]
   first | refine ae.pure hw rfl ?_ | refine ab hw rfl ?_
   simp(maxSteps:=9^7) (disch:=try exact dI) only[h,push_cast,seval]
   first | refine ae.pure hq rfl ?_ | refine ab hq rfl ?_
   simp(maxSteps:=9^7) (disch:=try exact dI) only[push_cast,seval]
 | rep3 hk hs hf h=>
   have hw:=hwo hf
   rw[hs] at h21
   subst hk
   generalize gh 3 0 (b9 t) nm v t=z at *
   generalize b9 t=wds at *
   clear hz hy hwe hwo ht hfw hs hf
   simp only[fmZ] at *
   obtain⟨tk,m,M,sc,wd,el,fl⟩:=t
   simp only[Typ.pv_mk] at *
   refine ap.intro iB (by simp[F8]) ?_
   simp(maxSteps:=9^7) (disch:=try exact dI) only[F8,ag,push_cast,seval]
   first | refine ae.pure h9 rfl ?_ | refine ab h9 rfl ?_
   simp(maxSteps:=9^7) (disch:=try exact dI) only[push_cast,seval]
   first | refine ae.pure h10 rfl ?_ | refine ab h10 rfl ?_
   simp(maxSteps:=9^7) (disch:=try exact dI) only[push_cast,seval]
   first | refine ae.pure h25 rfl ?_ | refine ab h25 rfl ?_
   simp(maxSteps:=9^7) (disch:=try exact dI) only[push_cast,seval]
   first | refine ae.pure h21 rfl ?_ | refine ab h21 rfl ?_
   simp(maxSteps:=9^7) (disch:=try exact dI) only[push_cast,seval]
   first | refine ae.pure hw rfl ?_ | refine ab hw rfl ?_
   simp(maxSteps:=9^7) (disch:=try exact dI) only[push_cast,seval]
   first | refine ae.pure h4 rfl ?_ | refine ab h4 rfl ?_
   simp(maxSteps:=9^7) (disch:=try exact dI) only[h,push_cast,seval]
   first | refine ae.pure hq rfl ?_ | refine ab hq rfl ?_
   simp(maxSteps:=9^7) (disch:=try exact dI) only[push_cast,seval]
 | ok3 hk hs hf h=>
   have hw:=hwo hf
   have hqw:=MS 3 0 (b9 t) (EG hf)
   rw[hs] at h21
   rw[h] at h3 h4
   subst hk
   generalize b9 t=wds at *
   clear hz hy hwe hwo ht hfw hs hf h
   simp only[fmZ] at *
   obtain⟨tk,m,M,sc,wd,el,fl⟩:=t
   simp only[Typ.pv_mk] at *
   refine ap.intro iB (by simp[F8]) ?_
   simp(maxSteps:=9^7) (disch:=try exact dI) only[F8,ag,push_cast,seval]
   first | refine ae.pure h9 rfl ?_ | refine ab h9 rfl ?_
   simp(maxSteps:=9^7) (disch:=try exact dI) only[push_cast,seval]
   first | refine ae.pure h10 rfl ?_ | refine ab h10 rfl ?_
   simp(maxSteps:=9^7) (disch:=try exact dI) only[push_cast,seval]
   first | refine ae.pure h25 rfl ?_ | refine ab h25 rfl ?_
   simp(maxSteps:=9^7) (disch:=try exact dI) only[push_cast,seval]
   first | refine ae.pure h21 rfl ?_ | refine ab h21 rfl ?_
   simp(maxSteps:=9^7) (disch:=try exact dI) only[push_cast,seval]
   first | refine ae.pure hw rfl ?_ | refine ab hw rfl ?_
   simp(maxSteps:=9^7) (disch:=try exact dI) only[push_cast,seval]
   first | refine ae.pure h4 rfl ?_ | refine ab h4 rfl ?_
   simp(maxSteps:=9^7) (disch:=try exact dI) only[push_cast,seval]
   first | refine ae.pure hqw rfl ?_ | refine ab hqw rfl ?_
   simp(maxSteps:=9^7) (disch:=try exact dI) only[push_cast,seval]
   first | refine ae.pure h3 rfl ?_ | refine ab h3 rfl ?_
   simp(maxSteps:=9^7) (disch:=try exact dI) only[push_cast,seval]
 | rep2 hk hs h=>
   have hw:=hy 2 44
   rw[hs] at h21
   subst hk
   generalize gh 2 44 [] nm v t=z at *
   clear hz hy hwe hwo ht hfw hs h3 h4
   simp only[fmZ] at *
   obtain⟨tk,m,M,sc,wd,el,fl⟩:=t
   simp only[Typ.pv_mk] at *
   refine ap.intro iB (by simp[F8]) ?_
   simp(maxSteps:=9^7) (disch:=try exact dI) only[F8,ag,push_cast,seval]
   first | refine ae.pure h9 rfl ?_ | refine ab h9 rfl ?_
   simp(maxSteps:=9^7) (disch:=try exact dI) only[push_cast,seval]
   first | refine ae.pure h10 rfl ?_ | refine ab h10 rfl ?_
   simp(maxSteps:=9^7) (disch:=try exact dI) only[push_cast,seval]
   first | refine ae.pure h25 rfl ?_ | refine ab h25 rfl ?_
   simp(maxSteps:=9^7) (disch:=try exact dI) only[push_cast,seval]
   first | refine ae.pure h21 rfl ?_ | refine ab h21 rfl ?_
   simp(maxSteps:=9^7) (disch:=try exact dI) only[push_cast,seval]
   first | refine ae.pure hw rfl ?_ | refine ab hw rfl ?_
   simp(maxSteps:=9^7) (disch:=try exact dI) only[h,push_cast,seval]
   first | refine ae.pure hq rfl ?_ | refine ab hq rfl ?_
   simp(maxSteps:=9^7) (disch:=try exact dI) only[push_cast,seval]
 | ok2 hk hs h=>
   have hw:=hy 2 44
   have hv:=hz 2 44
   have hqw:=G1 2 44
   rw[hs] at h21
   rw[h] at hw hv
   subst hk
   clear hz hy hwe hwo ht hfw hs h3 h4 h
   simp only[fmZ] at *
   obtain⟨tk,m,M,sc,wd,el,fl⟩:=t
   simp only[Typ.pv_mk] at *
   refine ap.intro iB (by simp[F8]) ?_
   simp(maxSteps:=9^7) (disch:=try exact dI) only[F8,ag,push_cast,seval]
   first | refine ae.pure h9 rfl ?_ | refine ab h9 rfl ?_
   simp(maxSteps:=9^7) (disch:=try exact dI) only[push_cast,seval]
   first | refine ae.pure h10 rfl ?_ | refine ab h10 rfl ?_
   simp(maxSteps:=9^7) (disch:=try exact dI) only[push_cast,seval]
   first | refine ae.pure h25 rfl ?_ | refine ab h25 rfl ?_
   simp(maxSteps:=9^7) (disch:=try exact dI) only[push_cast,seval]
   first | refine ae.pure h21 rfl ?_ | refine ab h21 rfl ?_
   simp(maxSteps:=9^7) (disch:=try exact dI) only[push_cast,seval]
   first | refine ae.pure hw rfl ?_ | refine ab hw rfl ?_
   simp(maxSteps:=9^7) (disch:=try exact dI) only[push_cast,seval]
   first | refine ae.pure hqw rfl ?_ | refine ab hqw rfl ?_
   simp(maxSteps:=9^7) (disch:=try exact dI) only[push_cast,seval]
   first | refine ae.pure hv rfl ?_ | refine ab hv rfl ?_
   simp(maxSteps:=9^7) (disch:=try exact dI) only[push_cast,seval]
 | rep1 hk hs h=>
   have hw:=hy kind 0
   rw[hs] at h21
   generalize gh kind 0 [] nm v t=z at *
   clear hz hy hwe hwo ht hfw hs h3 h4
   simp only[fmZ] at *
   obtain⟨tk,m,M,sc,wd,el,fl⟩:=t
   simp only[Typ.pv_mk] at *
   refine ap.intro iB (by simp[F8]) ?_
   rcases hk with rfl | rfl
   all_goals
    simp(maxSteps:=9^7) (disch:=try exact dI) only[F8,ag,push_cast,seval]
    first | refine ae.pure h9 rfl ?_ | refine ab h9 rfl ?_
    simp(maxSteps:=9^7) (disch:=try exact dI) only[push_cast,seval]
    first | refine ae.pure h10 rfl ?_ | refine ab h10 rfl ?_
    simp(maxSteps:=9^7) (disch:=try exact dI) only[push_cast,seval]
    first | refine ae.pure h25 rfl ?_ | refine ab h25 rfl ?_
    simp(maxSteps:=9^7) (disch:=try exact dI) only[push_cast,seval]
    first | refine ae.pure h21 rfl ?_ | refine ab h21 rfl ?_
    simp(maxSteps:=9^7) (disch:=try exact dI) only[push_cast,seval]
    first | refine ae.pure hw rfl ?_ | refine ab hw rfl ?_
    simp(maxSteps:=9^7) (disch:=try exact dI) only[h,push_cast,seval]
    first | refine ae.pure hq rfl ?_ | refine ab hq rfl ?_
    simp(maxSteps:=9^7) (disch:=try exact dI) only[push_cast,seval]
 | ok1 hk hs h=>
   have hw:=hy kind 0
   have hv:=hz kind 0
   have hqw:=G1 kind 0
   rw[hs] at h21
   rw[h] at hw hv
   clear hz hy hwe hwo ht hfw hs h3 h4 h
   simp only[fmZ] at *
   obtain⟨tk,m,M,sc,wd,el,fl⟩:=t
   simp only[Typ.pv_mk] at *
   refine ap.intro iB (by simp[F8]) ?_
   rcases hk with rfl | rfl
   all_goals
    simp(maxSteps:=9^7) (disch:=try exact dI) only[F8,ag,push_cast,seval]
    first | refine ae.pure h9 rfl ?_ | refine ab h9 rfl ?_
    simp(maxSteps:=9^7) (disch:=try exact dI) only[push_cast,seval]
    first | refine ae.pure h10 rfl ?_ | refine ab h10 rfl ?_
    simp(maxSteps:=9^7) (disch:=try exact dI) only[push_cast,seval]
    first | refine ae.pure h25 rfl ?_ | refine ab h25 rfl ?_
    simp(maxSteps:=9^7) (disch:=try exact dI) only[push_cast,seval]
    first | refine ae.pure h21 rfl ?_ | refine ab h21 rfl ?_
    simp(maxSteps:=9^7) (disch:=try exact dI) only[push_cast,seval]
    first | refine ae.pure hw rfl ?_ | refine ab hw rfl ?_
    simp(maxSteps:=9^7) (disch:=try exact dI) only[push_cast,seval]
    first | refine ae.pure hqw rfl ?_ | refine ab hqw rfl ?_
    simp(maxSteps:=9^7) (disch:=try exact dI) only[push_cast,seval]
    first | refine ae.pure hv rfl ?_ | refine ab hv rfl ?_
    simp(maxSteps:=9^7) (disch:=try exact dI) only[push_cast,seval]
theorem Aa (p0 p1:PV)(h0:HasT Tryz.prog 3 p0)(h1:HasT Tryz.prog 31 p1):ap Tryz.prog az 8 [p0,p1] (.bool true):=by
 obtain⟨k,rfl,hk⟩:=bm h0 Tryz.underlying3
 obtain⟨S,rfl,hS⟩:=Cw h1
 obtain⟨nm,v,t⟩:=S
 rw[Sch.ok_mk] at hS
 cases hfw:Iw [] nm t with
 | false=>exact JQ k nm v t hS.2.2 hfw
 | true=>
   obtain⟨f,e,hc⟩:=IF k nm v t
   exact JP k nm v t hS.2.2 hfw hc
end Go.Proofs.YtfepkhlgopjaoaaGreatDoor
namespace Go.Proofs.YtfepkhlgopjaoaaGreatDoor
open Go Go.Ab Go.Lib Go.Proofs
theorem u8X:U8Extra Tryz.prog Tryz.lays196_ren:=⟨by kernel_rfl,by kernel_rfl,by kernel_rfl,by kernel_rfl,by kernel_rfl,by kernel_rfl,by kernel_rfl⟩
theorem CB {W:World}(h1:VarReads Tryz.prog W "unicode/utf8.first" firstData) (h2:VarReads Tryz.prog W "unicode/utf8.acceptRanges" acceptData)
  (h3:VarReads Tryz.prog W "internal/strconv.uint64pow10" (tabData .u64 pow10Tab)):bZ az W (lx W):=by
 have hu:=utf8Tabs_of_readsT (U8Types.of196 Tryz.lays196) u8X h1 h2
 refine xm fun g hg=>?_
 unfold az at hg ⊢
 by_cases e3:g=3
 ·subst e3
  exact pW (t:=364) (e:=252) (m:=20) h3 (by kernel_rfl) (by kernel_rfl) (by kernel_rfl) (by kernel_rfl) (by kernel_rfl) (by kernel_rfl) (by kernel_rfl)
 rw[if_neg e3] at hg ⊢
 by_cases e1:g=1
 ·subst e1
  rw[if_pos rfl] at hg ⊢
  refine jq (t:=311) (e:=5) (m:=256) h1 (by kernel_rfl) (by kernel_rfl) (by kernel_rfl) (by kernel_rfl) fun o p hp=>?_
  rw[LQ,List.getElem?_map,Option.map_eq_some_iff] at hp
  obtain⟨c,hc,rfl⟩:=hp
  obtain⟨hlt,hcc⟩:=List.getElem?_eq_some_iff.1 hc
  simp at hlt hcc
  subst hcc
  exact⟨_,_,rfl,hu.1 o hlt⟩
 rw[if_neg e1] at hg ⊢
 by_cases e2:g=2
 ·subst e2
  rw[if_pos rfl] at hg ⊢
  refine jq (t:=314) (e:=313) (m:=16) h2 (by kernel_rfl) (by kernel_rfl) (by kernel_rfl) (by kernel_rfl) fun o p hp=>?_
  rw[Io,List.getElem?_map,Option.map_eq_some_iff] at hp
  obtain⟨c,hc,rfl⟩:=hp
  obtain⟨hlt,hcc⟩:=List.getElem?_eq_some_iff.1 hc
  simp at hlt hcc
  subst hcc
  have:=hu.2 (o / 2) (by omega)
  by_cases ho:o % 2=0
  ·rw[if_pos ho]
   refine⟨_,_,rfl,?_⟩
   have:=this.1
   rwa [show 2*(o / 2)=o by omega] at this
  ·rw[if_neg ho]
   refine⟨_,_,rfl,?_⟩
   have:=this.2
   rwa [show 2*(o / 2)+1=o by omega] at this
 rw[if_neg e2] at hg
 exact absurd rfl hg
end Go.Proofs.YtfepkhlgopjaoaaGreatDoor

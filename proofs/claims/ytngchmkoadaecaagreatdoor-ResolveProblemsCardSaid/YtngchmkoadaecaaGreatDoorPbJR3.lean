/- A part. -/
import Derived.Test.YtngchmkoadaecaaGreatDoorPbJR1
set_option linter.unusedVariables false
set_option linter.unusedSimpArgs false
set_option maxHeartbeats 16000000
set_option maxRecDepth 100000
open Bool renaming true_and->Xv,and_false->Ye,false_and->XR
open List renaming getElem?_eq_getElem->WT,take_of_length_le->WY
namespace Go.Proofs.YtngchmkoadaecaaGreatDoor
open Go Go.Ab
attribute [local irreducible] vc
theorem j3 (v:Val):ap Tryz.prog aC 157 [v.pv] (.clo 185 [] [.eptr [v.pv] 0 0]):=by
 obtain⟨k,n,s,t,l,fs⟩:=v
 refine ap.intro Vn.2 (by simp[Vn]) ?_
 simp(disch:=try exact dI) only[Vn,WQ,push_cast,seval]
def Bz:PV:=.agg [.nilf,.clo 172 [] [],.clo 174 [] [],.clo 175 [] [],.clo 177 [] [],.clo 179 [] [],.clo 180 [] [],.clo 181 [] [],.clo 182 [] [],.clo 183 [] [],.clo 184 [] []]
theorem CC (f:Nat)(a b:List PV):PV.one (.clo f a b)=true:=rfl
theorem ul:PV.one .nilf=true:=rfl
theorem G0:ap Tryz.prog aC 156 [] Bz:=by
 refine ap.intro Vo.2 (by simp[Vo]) ?_
 simp(disch:=try exact dI) only[Vo,Bz,CC,ul,push_cast,seval]
theorem du (n a b:Int):ap Tryz.prog aC 173 [.int .i64 n,.int .i64 a,.int .i64 b] (.int .i64 (if n<a\/b<n then 2 else 0)):=by
 refine ap.intro SW.2 (by simp[SW]) ?_
 by_cases h1:n<a
 ·rw[if_pos (.inl h1)]
  simp(disch:=try exact dI) only[SW,push_cast,seval]
 ·by_cases h2:b<n
  ·rw[if_pos (.inr h2)]
   simp(disch:=try exact dI) only[SW,push_cast,seval]
  ·rw[if_neg (by omega)]
   simp(disch:=try exact dI) only[SW,push_cast,seval]
theorem jP (n m e:Int):ap Tryz.prog aC 178 [.int .i64 n,.int .i64 m,.int .i64 e] (.int .i64 (if m<n then e else 0)):=by
 refine ap.intro TI.2 (by simp[TI]) ?_
 by_cases h1:m<n
 ·rw[if_pos h1]
  simp(disch:=try exact dI) only[TI,push_cast,seval]
 ·rw[if_neg h1]
  simp(disch:=try exact dI) only[TI,push_cast,seval]
def fS:Val->Bool
 | .mk k n s t l fs=>decide (k=0)&&(decide (n=0)&&(decide (s=0)&&(decide (t=[])&&(decide (l.length=0)&&decide (fs.length=0)))))
def e7:Val->Bool
 | .mk k n s t l fs=>(decide (k=1\/k=2\/k=6\/k=7\/k=3)||decide (n=0))&&((decide (k=3)||decide (s=0))&&((decide (k=4\/k=5\/k=10)||decide (t=[]))&&((decide (k=8\/k=10)||decide (l.length=0))&&(decide (k=9)||decide (fs.length=0)))))
theorem ep {α:Type}{r b c:α}{P:Prop}(hr:r=b)(hb:b=c)(h:r=c->P):P:=h (hr.trans hb)
theorem LA (k n s:Int)(t:List UInt8)(l:List Val)(fs:List Fld)(hk:1<=k/\k<=10) :
  ((k=1\/k=2\/k=6\/k=7\/k=3)\/(¬ (k=1\/k=2\/k=6\/k=7\/k=3)/\¬ n=0)\/(¬ (k=1\/k=2\/k=6\/k=7\/k=3)/\n=0))/\(k=3\/(¬ k=3/\¬ s=0)\/(¬ k=3/\s=0)) /\
  ((k=4\/k=5\/k=10)\/(¬ (k=4\/k=5\/k=10)/\¬ t=[])\/(¬ (k=4\/k=5\/k=10)/\t=[])) /\
  ((k=8\/k=10)\/(¬ (k=8\/k=10)/\¬ l.length=0/\¬ (l.length:Int)=0)\/(¬ (k=8\/k=10)/\l.length=0/\(l.length:Int)=0)) /\
  (k=9\/(¬ k=9/\¬ fs.length=0/\¬ (fs.length:Int)=0)\/(¬ k=9/\fs.length=0/\(fs.length:Int)=0)):=by
 refine⟨by omega,by omega,?_,by omega,by omega⟩
 by_cases h:t=[]<;>simp only[h,true_and,and_true,not_true,not_false_iff,and_false,false_or,or_false]<;>exact Classical.em _
theorem NE (v:Val):ap Tryz.prog aC 158 [v.pv] (.bool (fS v)):=by
 obtain⟨k,n,s,t,l,fs⟩:=v
 have h5:(l.length=0/\(l.length:Int)=0)\/(¬ l.length=0/\¬ (l.length:Int)=0):=by omega
 have h6:(fs.length=0/\(fs.length:Int)=0)\/(¬ fs.length=0/\¬ (fs.length:Int)=0):=by omega
 obtain⟨r,hr⟩:∃ r,r=fS (.mk k n s t l fs):=⟨_,rfl⟩
 rw[<- hr]
 refine ap.intro Vm.2 (by simp[Vm]) ?_
 rcases Classical.em (k=0) with a | a
 all_goals first | (have:=hend;skip) | (refine ep (c:=false) hr ?_ ?_;(focus (simp[fS, *];done));rintro rfl;have hend:=trivial;clear h5 h6) | rcases Classical.em (n=0) with b | b
 all_goals first | (have:=hend;skip) | (refine ep (c:=false) hr ?_ ?_;(focus (simp[fS, *];done));rintro rfl;have hend:=trivial;clear h5 h6) | rcases Classical.em (s=0) with c | c
 all_goals first | (have:=hend;skip) | (refine ep (c:=false) hr ?_ ?_;(focus (simp[fS, *];done));rintro rfl;have hend:=trivial;clear h5 h6) | rcases Classical.em (t=[]) with d | d
 all_goals first | (have:=hend;skip) | (refine ep (c:=false) hr ?_ ?_;(focus (simp[fS, *];done));rintro rfl;have hend:=trivial;clear h5 h6) | rcases h5 with ⟨e,e1⟩ | ⟨e,e1⟩
 all_goals first | (have:=hend;skip) | (refine ep (c:=false) hr ?_ ?_;(focus (simp[fS, *];done));rintro rfl;have hend:=trivial;clear h6) | rcases h6 with ⟨f,f1⟩ | ⟨f,f1⟩
 all_goals first | (have:=hend;skip) | (refine ep (c:=true) hr ?_ ?_;(focus (simp[fS, *];done));rintro rfl) | (refine ep (c:=false) hr ?_ ?_;(focus (simp[fS, *];done));rintro rfl)
 all_goals clear hr
 all_goals simp(disch:=try exact dI) only[Vm,WQ, *,push_cast,seval]
theorem LB (v:Val)(hk:1<=v.kind/\v.kind<=10):ap Tryz.prog aC 159 [v.pv] (.bool (e7 v)):=by
 obtain⟨k,n,s,t,l,fs⟩:=v
 simp only[Val.kind] at hk
 obtain⟨h1,h2,h3,h4,h5⟩:=LA k n s t l fs hk
 obtain⟨r,hr⟩:∃ r,r=e7 (.mk k n s t l fs):=⟨_,rfl⟩
 rw[<- hr]
 refine ap.intro Vl.2 (by simp[Vl]) ?_
 have hc:k=1\/k=2\/k=3\/k=4\/k=5\/k=6\/k=7\/k=8\/k=9\/k=10:=by omega
 clear hk
 rcases hc with rfl | rfl | rfl | rfl | rfl | rfl | rfl | rfl | rfl | rfl
 all_goals rcases h1 with a | ⟨a,b⟩ | ⟨a,b⟩
 all_goals try omega
 all_goals first | (have:=hend;skip) | (refine ep (c:=false) hr ?_ ?_;(focus (simp[e7, *];done));rintro rfl;have hend:=trivial;clear h2 h3 h4 h5) | rcases h2 with a2 | ⟨a2,b2⟩ | ⟨a2,b2⟩
 all_goals try omega
 all_goals first | (have:=hend;skip) | (refine ep (c:=false) hr ?_ ?_;(focus (simp[e7, *];done));rintro rfl;have hend:=trivial;clear h3 h4 h5) | rcases h3 with a3 | ⟨a3,b3⟩ | ⟨a3,b3⟩
 all_goals try omega
 all_goals first | (have:=hend;skip) | (refine ep (c:=false) hr ?_ ?_;(focus (simp[e7, *];done));rintro rfl;have hend:=trivial;clear h4 h5) | rcases h4 with a4 | ⟨a4,b4,c4⟩ | ⟨a4,b4,c4⟩
 all_goals try omega
 all_goals first | (have:=hend;skip) | (refine ep (c:=false) hr ?_ ?_;(focus (simp[e7, *];done));rintro rfl;have hend:=trivial;clear h5) | rcases h5 with a5 | ⟨a5,b5,c5⟩ | ⟨a5,b5,c5⟩
 all_goals try omega
 all_goals first | (have:=hend;skip) | (refine ep (c:=true) hr ?_ ?_;(focus (simp[e7, *];done));rintro rfl) | (refine ep (c:=false) hr ?_ ?_;(focus (simp[e7, *];done));rintro rfl)
 all_goals clear hr
 all_goals simp(disch:=try exact dI) only[Vl,WQ, *,push_cast,seval]
theorem vZ (e:List (Nat×AV))(σ:List (Nat×Blk))(new:Nat)(x:AX):fH e σ new (.ofStr x)=j0 new (evE e x):=_root_.id rfl
theorem BR (new:Nat){k:List UInt8}(h:k.length<=140737488355328):j0 new (.pv (.str k))=some (.pv (.list (bc k)),[(new,.none)]):=by simp only[j0];rw[if_pos h]
def lg (c:UInt8):Bool:=decide (97<=c.toNat)&&decide (c.toNat<=122)
def okC (c:UInt8):Bool:=lg c||(decide (48<=c.toNat)&&decide (c.toNat<=57))||decide (c.toNat=95)
def az (s:List UInt8):Bool:=decide (0<s.length)&&(decide (s.length<=32)&&(lg (s.headD 0)&&s.all okC))
theorem z8 (s:List UInt8):(bc s).length=s.length:=by simp[bc]
theorem E7 {s:List UInt8}{i:Nat}{c:UInt8}(h:s[i]? = some c):(bc s)[i]? = some (.int .u8 (c.toNat:Int)):=by simp[bc,h]
theorem vw {s:List UInt8}{i:Nat}{c:UInt8}(h:s[i]? = some c):(s.take (i+1)).all okC=((s.take i).all okC&&okC c):=by rw[aE h];simp
theorem nH {s:List UInt8}{i:Nat}{c:UInt8}(h:s[i]? = some c)(hc:okC c=false):s.all okC=false:=by
 rw[Bool.eq_false_iff]
 intro ha
 have:=List.all_eq_true.1 ha c (List.mem_of_getElem? h)
 rw[hc] at this;cases this
theorem mY (s:List UInt8):ap Tryz.prog aC 90 [.str s] (.bool (az s)):=by
 cases s with
 | nil=>
   rw[show az []=false from rfl]
   refine ap.intro Q90.2 (by simp[Q90]) ?_
   simp(maxSteps:=9^7) (disch:=try exact dI) only[Q90,push_cast,seval]
 | cons c r=>
   generalize hs:c::r=s
   have hne:¬ s=[]:=by rw[<- hs];simp
   have h0:s[0]? = some c:=by rw[<- hs];rfl
   have hh:s.headD 0=c:=by rw[<- hs];rfl
   have hlen:0<s.length:=by rw[<- hs];simp
   clear hs
   refine ap.intro Q90.2 (by simp[Q90]) ?_
   by_cases h32:s.length<=32
   ·by_cases ha:97<=c.toNat
    ·by_cases hz:c.toNat<=122
     ·have e:az s=s.all okC:=by simp only[az,hh,lg,decide_eq_true hlen,decide_eq_true h32,decide_eq_true ha,decide_eq_true hz,Xv]
      rw[e]
      simp(maxSteps:=9^7) (disch:=try exact dI) only[Q90,hne,h0,bx,vZ,BR,z8,push_cast,seval]
      refine au ([]) (fun i:Nat=>[(25,.pv (.int .i64 (i:Int)))]) (fun _=>[]) (fun i=>i<=s.length/\(s.take i).all okC=true) (fun i=>s.length - i) (0) ?_;intro e0 σ0 n0 h0;simp(maxSteps:=9^7) (disch:=try exact dI) only[push_cast,seval] at h0;obtain⟨rfl,rfl,rfl⟩:=h0;refine⟨?_,?_,?_⟩
      ·simp(maxSteps:=9^7) (disch:=try exact dI) only[push_cast,seval]
      ·exact⟨by omega,by simp⟩
      rintro i ⟨hi,hall⟩
      by_cases hlt:i<s.length
      ·have hltI:(i:Int)<(s.length:Int):=by omega
       obtain⟨b,hb⟩:∃ b,s[i]? = some b:=⟨_,WT hlt⟩
       have hbp:=E7 hb
       have hbn:=b.toNat_lt
       have hsn:=vw hb
       rw[hall,Xv] at hsn
       have hc:b.toNat<48\/(48<=b.toNat/\b.toNat<=57)\/(57<b.toNat/\b.toNat<97/\b.toNat≠95)\/b.toNat=95\/(97<=b.toNat/\b.toNat<=122)\/122<b.toNat:=by omega
       rcases hc with hc | hc | hc | hc | hc | hc
       ·have hbad:s.all okC=false:=nH hb (by simp[okC,lg];omega)
        rw[hbad]
        simp(maxSteps:=9^7) (disch:=try exact dI) only[hbp,push_cast,seval]
       ·have hok:okC b=true:=by simp[okC,lg];omega
        simp(maxSteps:=9^7) (disch:=try exact dI) only[hbp,push_cast,seval]
        exact⟨i+1,aJ qsZ,⟨by omega,by rw[hsn,hok]⟩,by omega⟩
       ·have hbad:s.all okC=false:=nH hb (by simp[okC,lg];omega)
        rw[hbad]
        simp(maxSteps:=9^7) (disch:=try exact dI) only[hbp,push_cast,seval]
       ·have hok:okC b=true:=by simp[okC,lg];omega
        simp(maxSteps:=9^7) (disch:=try exact dI) only[hbp,push_cast,seval]
        exact⟨i+1,aJ qsZ,⟨by omega,by rw[hsn,hok]⟩,by omega⟩
       ·have hok:okC b=true:=by simp[okC,lg];omega
        simp(maxSteps:=9^7) (disch:=try exact dI) only[hbp,push_cast,seval]
        exact⟨i+1,aJ qsZ,⟨by omega,by rw[hsn,hok]⟩,by omega⟩
       ·have hbad:s.all okC=false:=nH hb (by simp[okC,lg];omega)
        rw[hbad]
        simp(maxSteps:=9^7) (disch:=try exact dI) only[hbp,push_cast,seval]
      ·have he:s.take i=s:=WY (by omega)
       rw[he] at hall
       rw[hall]
       simp(maxSteps:=9^7) (disch:=try exact dI) only[push_cast,seval]
     ·have e:az s=false:=by simp only[az,hh,lg,decide_eq_false hz,Ye,XR]
      rw[e]
      simp(maxSteps:=9^7) (disch:=try exact dI) only[Q90,hne,h0,bx,push_cast,seval]
    ·have e:az s=false:=by simp only[az,hh,lg,decide_eq_false ha,Ye,XR]
     rw[e]
     simp(maxSteps:=9^7) (disch:=try exact dI) only[Q90,hne,h0,bx,push_cast,seval]
   ·have e:az s=false:=by simp[az,h32]
    rw[e]
    simp(maxSteps:=9^7) (disch:=try exact dI) only[Q90,hne,push_cast,seval]
theorem cU (s:List UInt8):ap Tryz.prog aC 32 [.str s] (.bool (az s)):=by
 refine ap.intro Q32.2 (by simp[Q32]) ?_
 by_cases h0:s.length<1
 ·have e:az s=false:=by simp only[az,decide_eq_false (show ¬ 0<s.length by omega),XR]
  rw[e]
  simp(maxSteps:=9^7) (disch:=try exact dI) only[Q32,push_cast,seval]
 by_cases h32:32<s.length
 ·have e:az s=false:=by simp only[az,decide_eq_false (show ¬ s.length<=32 by omega),XR,Ye]
  rw[e]
  simp(maxSteps:=9^7) (disch:=try exact dI) only[Q32,push_cast,seval]
 simp(maxSteps:=9^7) (disch:=try exact dI) only[Q32,push_cast,seval]
 refine au ([]) (fun i:Nat=>[(16,.pv (.int .i64 (i:Int)))]) (fun _=>[]) (fun i=>i<=s.length/\(s.take i).all okC=true/\(0<i->lg (s.headD 0)=true)) (fun i=>s.length - i) (0) ?_;intro e0 σ0 n0 h0;simp(maxSteps:=9^7) (disch:=try exact dI) only[push_cast,seval] at h0;obtain⟨rfl,rfl,rfl⟩:=h0;refine⟨?_,?_,?_⟩
 ·simp(maxSteps:=9^7) (disch:=try exact dI) only[push_cast,seval]
 ·exact⟨by omega,by simp,fun h=>absurd h (by omega)⟩
 rintro i ⟨hi,hall,hlt0⟩
 by_cases hlt:i<s.length
 ·have hltI:(i:Int)<(s.length:Int):=by omega
  obtain⟨b,hb⟩:∃ b,s[i]? = some b:=⟨_,WT hlt⟩
  have hbn:=b.toNat_lt
  have hsn:=vw hb
  rw[hall,Xv] at hsn
  by_cases hlc:97<=b.toNat/\b.toNat<=122
  ·have a1:(97:Int)<=(b.toNat:Int):=by omega
   have a2:(b.toNat:Int)<=122:=by omega
   have hok:okC b=true:=by simp[okC,lg];omega
   have hl:lg b=true:=by simp[lg];omega
   simp(maxSteps:=9^7) (disch:=try exact dI) only[hltI,hb,bx,a1,a2,push_cast,seval]
   refine⟨i+1,aJ qsZ,⟨by omega,by rw[hsn,hok],fun _=>?_⟩,by omega⟩
   by_cases hz:i=0
   ·subst hz
    cases s with
    | nil=>cases hb
    | cons x r=>cases hb;exact hl
   ·exact hlt0 (by omega)
  ·by_cases hz:i=0
   ·subst hz
    have e:az s=false:=by
     have hh:s.headD 0=b:=by
      cases s with
      | nil=>cases hb
      | cons x r=>cases hb;rfl
     have hl:lg b=false:=by simp[lg];omega
     simp only[az,hh,hl,XR,Ye]
    rw[e]
    by_cases h97:97<=b.toNat
    ·have a1:(97:Int)<=(b.toNat:Int):=by omega
     have a2:¬ (b.toNat:Int)<=122:=by omega
     simp(maxSteps:=9^7) (disch:=try exact dI) only[hltI,hb,bx,a1,a2,push_cast,seval]
    ·have a1:¬ (97:Int)<=(b.toNat:Int):=by omega
     simp(maxSteps:=9^7) (disch:=try exact dI) only[hltI,hb,bx,a1,push_cast,seval]
   ·have hzI:¬ (i:Int)=0:=by omega
    have go:∀ (e1:okC b=false),az s=false:=fun e1=>by simp only[az,nH hb e1,Ye]
    have hc:b.toNat<48\/(48<=b.toNat/\b.toNat<=57)\/(57<b.toNat/\b.toNat<97/\b.toNat≠95)\/b.toNat=95\/122<b.toNat:=by omega
    rcases hc with hc | hc | hc | hc | hc
    ·rw[go (by simp[okC,lg];omega)]
     have a1:¬ (97:Int)<=(b.toNat:Int):=by omega
     have a3:¬ (b.toNat:Int)=95:=by omega
     simp(maxSteps:=9^7) (disch:=try exact dI) only[hltI,hb,bx,a1,a3,hzI,push_cast,seval]
    ·have hok:okC b=true:=by simp[okC,lg];omega
     have a1:¬ (97:Int)<=(b.toNat:Int):=by omega
     have a3:¬ (b.toNat:Int)=95:=by omega
     simp(maxSteps:=9^7) (disch:=try exact dI) only[hltI,hb,bx,a1,a3,hzI,push_cast,seval]
     exact⟨i+1,aJ qsZ,⟨by omega,by rw[hsn,hok],fun _=>hlt0 (by omega)⟩,by omega⟩
    ·rw[go (by simp[okC,lg];omega)]
     have a1:¬ (97:Int)<=(b.toNat:Int):=by omega
     have a3:¬ (b.toNat:Int)=95:=by omega
     simp(maxSteps:=9^7) (disch:=try exact dI) only[hltI,hb,bx,a1,a3,hzI,push_cast,seval]
    ·have hok:okC b=true:=by simp[okC,lg];omega
     have a1:¬ (97:Int)<=(b.toNat:Int):=by omega
     have a3:((b.toNat:Int)=95)=True:=eq_true (by omega)
     simp(maxSteps:=9^7) (disch:=try exact dI) only[hltI,hb,bx,a1,a3,hzI,push_cast,seval]
     exact⟨i+1,aJ qsZ,⟨by omega,by rw[hsn,hok],fun _=>hlt0 (by omega)⟩,by omega⟩
    ·rw[go (by simp[okC,lg];omega)]
     have a1:(97:Int)<=(b.toNat:Int):=by omega
     have a2:¬ (b.toNat:Int)<=122:=by omega
     have a3:¬ (b.toNat:Int)=95:=by omega
     simp(maxSteps:=9^7) (disch:=try exact dI) only[hltI,hb,bx,a1,a2,a3,hzI,push_cast,seval]
 ·have he:s.take i=s:=WY (by omega)
  rw[he] at hall
  have e:az s=true:=by
   simp only[az,hall,hlt0 (by omega),decide_eq_true (show 0<s.length by omega),decide_eq_true (show s.length<=32 by omega),Xv]
  rw[e]
  have hnI:¬ (i:Int)<(s.length:Int):=by omega
  simp(maxSteps:=9^7) (disch:=try exact dI) only[hnI,push_cast,seval]
theorem QJ (a b:List UInt8):gM 1 [PV.str a,PV.str b] 0=some (.pv (.eptr [PV.str a,PV.str b] 0 0)):=rfl
theorem QI (a b:List UInt8):gM 1 [PV.str a,PV.str b] 1=some (.pv (.eptr [PV.str a,PV.str b] 1 0)):=rfl
theorem Uh (a b:List UInt8):ap Tryz.prog aC 107 [.list [.str a,.str b]] (.str (if a=[] then b else a)):=by
 refine ap.intro VB.2 (by simp[VB]) ?_
 simp(maxSteps:=9^7) (disch:=try exact dI) only[VB,push_cast,seval]
 refine au ([]) (fun i:Nat=>[(8,.pv (.int .i64 (i:Int)))]) (fun _=>[]) (fun i=>i<=2/\(0<i->a=[])/\(1<i->b=[])) (fun i=>2 - i) (0) ?_;intro e0 σ0 n0 h0;simp(maxSteps:=9^7) (disch:=try exact dI) only[push_cast,seval] at h0;obtain⟨rfl,rfl,rfl⟩:=h0;refine⟨?_,?_,?_⟩
 ·simp(maxSteps:=9^7) (disch:=try exact dI) only[push_cast,seval]
 ·exact⟨by omega,fun h=>absurd h (by omega),fun h=>absurd h (by omega)⟩
 rintro i ⟨hi,h0,h1⟩
 have hc:i=0\/i=1\/i=2:=by omega
 rcases hc with rfl | rfl | rfl
 ·by_cases ha:a=[]
  ·subst ha
   simp(maxSteps:=9^7) (disch:=try exact dI) only[QJ,push_cast,seval]
   exact⟨1,aJ qsZ,⟨by omega,fun _=>by first | rfl | trivial,fun h=>absurd h (by omega)⟩,by show 2 - 1<2 - 0;omega⟩
  ·simp(maxSteps:=9^7) (disch:=try exact dI) only[ha,QJ,push_cast,seval]
 ·have ha:=h0 (by omega)
  subst ha
  by_cases hb:b=[]
  ·subst hb
   simp(maxSteps:=9^7) (disch:=try exact dI) only[QI,push_cast,seval]
   exact⟨2,aJ qsZ,⟨by omega,fun _=>by first | rfl | trivial,fun _=>by first | rfl | trivial⟩,by show 2 - 2<2 - 1;omega⟩
  ·simp(maxSteps:=9^7) (disch:=try exact dI) only[hb,QI,push_cast,seval]
 ·have ha:=h0 (by omega)
  have hb:=h1 (by omega)
  subst ha hb
  simp(maxSteps:=9^7) (disch:=try exact dI) only[push_cast,seval]
theorem Im (w:Wkd)(hr:I64 w.route)(hp:w.place.length<=900)(hok:∀ x∈w.place,I64 x):ap Tryz.prog aC 87 [w.pv] (.str (nmW w.route w.place w.step)):=by
 have h1:=tw w.route w.place hr hp hok
 have h2:=Uh w.step.name (jn w.route w.place)
 unfold nmW
 generalize jn w.route w.place=A at *
 obtain⟨r,pl,⟨s1,s2,s3,s4,s5,s6,s7,s8,s9,sa,sb⟩⟩:=w
 simp only[Wkd.route,Wkd.place,Wkd.step,Stp.name] at h1 h2 ⊢
 refine ap.intro Q87.2 (by simp[Q87]) ?_
 simp(maxSteps:=9^7) (disch:=try exact dI) only[Q87,WR,WF,ae,push_cast,seval]
 refine ag h1 rfl ?_
 simp(maxSteps:=9^7) (disch:=try exact dI) only[push_cast,seval]
 refine ab.pure h2 rfl ?_
 simp(maxSteps:=9^7) (disch:=try exact dI) only[push_cast,seval]
theorem In (w:Wkd)(hr:I64 w.route)(hp:w.place.length<=900)(hok:∀ x∈w.place,I64 x):ap Tryz.prog aC 12 [w.pv] (.str (nmW w.route w.place w.step)):=by
 have h1:=O5 w.route w.place hr hp hok
 unfold nmW
 generalize jn w.route w.place=A at *
 obtain⟨r,pl,⟨s1,s2,s3,s4,s5,s6,s7,s8,s9,sa,sb⟩⟩:=w
 simp only[Wkd.route,Wkd.place,Wkd.step,Stp.name] at h1 ⊢
 refine ap.intro Q12.2 (by simp[Q12]) ?_
 by_cases h:s1=[]
 ·subst h
  simp(maxSteps:=9^7) (disch:=try exact dI) only[Q12,WR,WF,ae,push_cast,seval]
  refine ab.pure h1 rfl ?_
  simp(maxSteps:=9^7) (disch:=try exact dI) only[push_cast,seval]
 ·simp(maxSteps:=9^7) (disch:=try exact dI) only[Q12,WR,WF,ae,h,push_cast,seval]

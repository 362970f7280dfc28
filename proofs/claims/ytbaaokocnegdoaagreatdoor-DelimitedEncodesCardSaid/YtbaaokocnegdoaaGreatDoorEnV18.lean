/- A part. -/
import Derived.Test.YtbaaokocnegdoaaGreatDoorEnVB
set_option linter.unusedVariables false
set_option linter.unusedSimpArgs false
set_option maxHeartbeats 16000000
set_option maxRecDepth 100000
open List renaming length_cons->Vq,length_eq_zero_iff->Wh,mem_of_mem_take->VU,getElem?_eq_getElem->Vg,mem_of_getElem?->Vk,nil_append->VB,cons_append->VF,take_of_length_le->VC,append_assoc->VQ,length_map->Vv,mem_map->Vy
open Nat renaming le_trans->V3,le_refl->Vw
namespace Go.Proofs.YtbaaokocnegdoaaGreatDoor
open Go Go.Ab
attribute [local irreducible] vc
variable (m:Int)
theorem KA (t:Bool)(l:List UInt8):bk Tryz.prog (m6 m) 1 90 [.ptr 0 0] (bB t l) (.pv (.tup [])) (bB true l):=by
 refine bk.intro FS (by simp[F90]) ?_
 cases l with
 | nil=>
   cases t with
   | true=>
     simp(disch:=try exact dI) only[F90,bB,aB,push_cast,seval]
     exact aC [] qsZ
   | false=>
     simp(disch:=try exact dI) only[F90,bB,aB,push_cast,seval]
     exact aC [] qsZ
 | cons b r=>
   cases t with
   | true=>
     simp(disch:=try exact dI) only[F90,bB,aB,push_cast,seval]
     exact aC [] qsZ
   | false=>
     simp(disch:=try exact dI) only[F90,bB,aB,push_cast,seval]
     exact aC [] qsZ
theorem fC (t:Bool)(l:List UInt8)(c:UInt8)(hl:l.length<=100000000):bk Tryz.prog (m6 m) 1 43 [.ptr 0 0,.pv (.int .u8 (c.toNat:Int))] (bB t l) (.pv .nili) (bB true (l++[c])):=by
 have hC:=KA m t l
 refine bk.intro Q43.2 (by simp[Q43]) ?_
 cases l with
 | nil=>
   cases t<;>(
   try simp only[bB,aB] at hC
   simp(disch:=try exact dI) only[Q43,bB,aB,push_cast,seval]
   refine ab.lentK hC [0] rfl qsZ qsZ ?_
   simp(disch:=try exact dI) only[bB,aB,push_cast,seval]
   exact aC [] (by simp(disch:=try exact dI) only[aG,push_cast,seval]))
 | cons b r=>
   have hA:=fun new q=>ou (t:=5) (q:=q) (new:=new) (f:=false) (l:=b::r) (c:=c) (len:=r.length+1) rfl (by simp at hl ⊢;omega)
   cases t<;>(
   try simp only[bB,aB] at hC
   simp(disch:=try exact dI) only[Q43,bB,aB,push_cast,seval]
   refine ab.lentK hC [0,1] rfl qsZ qsZ ?_
   simp(disch:=try exact dI) only[bB,aB,hA,push_cast,seval]
   exact aC [] (by simp(disch:=try exact dI) only[aG,List.length_append,push_cast,seval]))
theorem jh (t:Bool)(l k:List UInt8)(hl:l.length<=100000000)(hk:k.length<=100000000):bk Tryz.prog (m6 m) 1 66 [.ptr 0 0,.pv (.str k)] (bB t l) (.pv (.tup [.int .i64 (k.length:Int),.nili])) (bB true (l++k)):=by
 have hC:=KA m t l
 refine bk.intro Q66.2 (by simp[Q66]) ?_
 cases l with
 | nil=>
   cases k with
   | nil=>
     cases t<;>(
     try simp only[bB,aB] at hC
     simp(disch:=try exact dI) only[Q66,bB,aB,push_cast,seval]
     refine ab.lentK hC [0] rfl qsZ qsZ ?_
     simp(disch:=try exact dI) only[bB,aB,push_cast,seval]
     exact aC [] qsZ)
   | cons c k=>
     simp only[Vq] at hk
     cases t<;>(
     try simp only[bB,aB] at hC
     simp(disch:=try exact dI) only[Q66,bB,aB,push_cast,seval]
     refine ab.lentK hC [0] rfl qsZ qsZ ?_
     simp(disch:=try exact dI) only[bB,aB,push_cast,seval]
     exact aC [] qsZ)
 | cons b r=>
   have e2:(r++k).length+1=r.length+1+k.length:=by simp;omega
   have hA:=fun new q=>wV (t:=5) (q:=q) (new:=new) (f:=false) (l:=b::r) (k:=k) (len:=r.length+1) rfl (by simp at hl ⊢;omega)
   cases t<;>(
   try simp only[bB,aB] at hC
   simp(disch:=try exact dI) only[Q66,bB,aB,push_cast,seval]
   refine ab.lentK hC [0,1] rfl qsZ qsZ ?_
   simp(disch:=try exact dI) only[bB,aB,hA,push_cast,seval]
   exact aC [] (by simp(disch:=try exact dI) only[e2,push_cast,seval]))
theorem uR (t:Bool)(l:List UInt8)(hl:l.length<=100000000):bk Tryz.prog (m6 m) 1 44 [.ptr 0 0] (bB t l) (.pv (.str l)) (stB l):=by
 refine bk.intro Q44.2 (by simp[Q44]) ?_
 cases l with
 | nil=>
   cases t<;>(
   try simp only[bB,aB] at hC
   simp(disch:=try exact dI) only[Q44,bB,aB,push_cast,seval]
   exact aC [] (by simp(disch:=try exact dI) only[stB,push_cast,seval]))
 | cons b r=>
   have hA:=fun (k:Int) (q:Nat) (hk:k=((b::r).length:Int))=>uJ (t:=5) (r:=q) (f:=false) (l:=b::r) hk (by simp) (by simp at hl ⊢;omega)
   cases t<;>(
   try simp only[bB,aB] at hC
   simp(disch:=try exact dI) only[Q44,bB,aB,hA,push_cast,seval]
   exact aC [] (by simp(disch:=try exact dI) only[stB,push_cast,seval]))
theorem Qc (t:Bool)(l:List UInt8)(hl:l.length<=100000000):bk Tryz.prog (m6 m) 1 68 [.ptr 0 0] (bB t l) (.pv (.int .i64 (l.length:Int))) (bB t l):=by
 refine bk.intro Q68.2 (by simp[Q68]) ?_
 cases l with
 | nil=>
   cases t<;>(
   simp(disch:=try exact dI) only[Q68,bB,aB,push_cast,seval]
   exact aC [] qsZ)
 | cons b r=>
   cases t<;>(
   simp(disch:=try exact dI) only[Q68,bB,aB,push_cast,seval]
   exact aC [] qsZ)
theorem MZ (C:List Cel)(n:Int)(sep:UInt8)(hsep:eh n=true->n=(sep.toNat:Int))(hm:∀ c,c∈C->c.1.length<=70000)
  (hsp:eh n=true->∀ c,c∈C->c.2=false->ae Tryz.prog (m6 m) 53 [.str c.1,.int .i64 n] (.bool (spc sep c.1)))
  (hrp:∀ c,c∈C->c.2=true->ae Tryz.prog (m6 m) 67 [.str c.1,.str [34],.str [34,34]] (.str (dbl c.1))) :
  ae Tryz.prog (m6 m) 26 [.list (C.map iZ),.int .i64 n] (.tup [.str (cw (eh n) sep C).1,.int .i64 (cw (eh n) sep C).2]):=by
 have hs:=toM (m:=m) (tQ n)
 rw[uU] at hs
 generalize hb:eh n=b at *
 refine ae.intro Q26.2 (by simp[Q26]) ?_
 cases b with
 | false=>
   rw[show cw false sep C=([],2) from rfl]
   simp(disch:=try exact dI) only[Q26,push_cast,seval]
   refine ab.pure hs rfl ?_
   exact qsZ
 | true=>
   have hse:=hsep rfl
   subst hse
   replace hsp:=hsp rfl
   have hss:=sep.toNat_lt
   have hw:=ji (n:=(sep.toNat:Int)) (by omega) (by omega)
   by_cases h0:C.length=0
   ·have:C=[]:=Wh.1 h0
    subst this
    rw[show cw true sep []=([],4) from rfl]
    simp(disch:=try exact dI) only[Q26,push_cast,seval]
    refine ab.pure hs rfl ?_
    exact qsZ
   by_cases h64:64<C.length
   ·rw[show cw true sep C=([],9) by unfold cw;simp only[Bool.true_eq_false,if_false,if_neg h0,if_pos h64]]
    simp(disch:=try exact dI) only[Q26,push_cast,seval]
    refine ab.pure hs rfl ?_
    exact qsZ
   obtain⟨J,hJ⟩:∃ J,J=cw true sep C:=⟨_,rfl⟩
   rw[<- hJ]
   unfold cw at hJ
   simp only[Bool.true_eq_false,if_false,if_neg h0,if_neg h64] at hJ
   simp(disch:=try exact dI) only[Q26,push_cast,seval]
   refine ab.pure hs rfl ?_
   refine zgZ ?_
   refine kq (hdJ (sep.toNat:Int) C) (fun y=>y.1<=C.length/\y.2.2=bS sep (C.take y.1)/\(y.1=0↔y.2.1=false)/\(C.take y.1).any (gH sep)=false) (fun y=>C.length - y.1) (0,false,[]) [6] (exJ C) (fun y=>y.2=bS sep C/\C.any (gH sep)=false) ?_ ?_ ?_ ?_
   ·exact aI (by simp(disch:=try exact dI) only[hdJ,aB,push_cast,seval])
   ·exact⟨by simp,by simp[bS],by simp,by simp⟩
   ·rintro⟨i,t,l⟩ ⟨h1,h2,h3,h4⟩
    simp only at h1 h2 h3 h4
    have hll:l.length<=64*140003:=by
     rw[h2]
     refine V3 (iK sep _ 70000 fun c hc=>hm c (VU hc)) ?_
     refine Nat.mul_le_mul ?_ (Vw _)
     simp;omega
    by_cases hi:i<C.length
    ·obtain⟨c,hc⟩:∃ c,C[i]? = some c:=⟨_,Vg hi⟩
     have hcm:=Vk hc
     have hts:=aD hc
     obtain⟨tx,q⟩:=c
     have hlc:=hm _ hcm
     simp only at hlc
     have hdl:=mM tx
     have hn:=nW sep (C.take i) (tx,q)
     rw[<- hts,<- h2] at hn
     have hav:(C.take (i+1)).any (gH sep)=gH sep (tx,q):=by rw[hts,List.any_append,h4];simp
     have hcp:(C.map iZ)[i]? = some (.agg [.str tx,.bool q]):=by simp[hc,iZ]
     have hiI:(i:Int)<(C.length:Int):=by omega
     by_cases hi0:i=0
     ·have ht:t=false:=h3.1 hi0
      have hl0:l=[]:=by rw[h2,hi0];rfl
      subst ht hl0
      rw[if_pos (by rw[hi0];simp),VB] at hn
      cases q with
      | false=>
        have hsp1:=hsp _ hcm rfl
        simp only at hsp1
        cases hs1:spc sep tx with
        | true=>
          rw[hs1] at hsp1
          rw[if_pos (List.any_eq_true.2 ⟨_,hcm,by simp[gH,hs1]⟩)] at hJ
          rw[hJ]
          simp(disch:=try exact dI) only[hdJ,hcp,aB,push_cast,seval]
          refine ab.pure hsp1 rfl ?_
          exact qsZ
        | false=>
          rw[hs1] at hsp1
          have hav2:(C.take (i+1)).any (gH sep)=false:=by rw[hav];simp[gH,hs1]
          have hn2:bS sep (C.take (i+1))=tx:=by rw[hn];simp[wrt]
          have hW:=jh m false [] tx (by simp) (by omega)
          cases tx with
          | nil=>
            simp only[bB,aB,VB] at hW
            simp(disch:=try exact dI) only[hdJ,hcp,aB,push_cast,seval]
            refine ab.pure hsp1 rfl ?_
            refine zgZ ?_
            refine ab.lentK hW [0] rfl qsZ qsZ ?_
            refine zgZ ?_
            exact⟨(i+1,true,[]),aI (by simp(disch:=try exact dI) only[hdJ,aB,push_cast,seval]),⟨by simp only;omega,hn2.symm,by simp,hav2⟩,by simp only;omega⟩
          | cons c tx=>
            simp only[bB,aB,VB] at hW
            simp(disch:=try exact dI) only[hdJ,hcp,aB,push_cast,seval]
            refine ab.pure hsp1 rfl ?_
            refine zgZ ?_
            refine ab.lentK hW [0] rfl qsZ qsZ ?_
            refine zgZ ?_
            exact⟨(i+1,true,c::tx),aI (by simp(disch:=try exact dI) only[hdJ,aB,push_cast,seval]),⟨by simp only;omega,hn2.symm,by simp,hav2⟩,by simp only;omega⟩
      | true=>
        have hrp1:=hrp _ hcm rfl
        simp only at hrp1
        have hav2:(C.take (i+1)).any (gH sep)=false:=by rw[hav];simp[gH]
        have hn2:bS sep (C.take (i+1))=34::(dbl tx++[34]):=by rw[hn];simp[wrt]
        have hB1:=fC m false [] 34 (by simp)
        have hW:=jh m true [34] (dbl tx) (by simp) (by omega)
        have hB2:=fC m true (34::dbl tx) 34 (by simp;omega)
        simp only[bB,aB,VB,VF] at hB1 hW hB2
        rw[show (((34:UInt8).toNat:Nat):Int)=34 from rfl] at hB1 hB2
        simp(disch:=try exact dI) only[hdJ,hcp,aB,push_cast,seval]
        refine ab.lentK hB1 [0] rfl qsZ qsZ ?_
        refine zgZ ?_
        refine ab.pure hrp1 rfl ?_
        refine zgZ ?_
        refine ab.lentK hW [0,5] rfl qsZ qsZ ?_
        refine zgZ ?_
        refine ab.lentK hB2 [0,7] rfl qsZ qsZ ?_
        refine zgZ ?_
        exact⟨(i+1,true,34::(dbl tx++[34])),aI (by simp(disch:=try exact dI) only[hdJ,aB,push_cast,seval]),⟨by simp only;omega,hn2.symm,by simp,hav2⟩,by simp only;omega⟩
     ·have hi0I:(0:Int)<(i:Int):=by omega
      have ht:t=true:=by cases t with | true=>rfl | false=>exact absurd (h3.2 rfl) hi0
      subst ht
      rw[if_neg (by rw[List.length_take];omega)] at hn
      cases l with
      | nil=>
        have hB0:=fC m true [] sep (by simp at hll ⊢ <;> omega)
        cases q with
        | false=>
          have hsp1:=hsp _ hcm rfl
          simp only at hsp1
          cases hs1:spc sep tx with
          | true=>
            rw[hs1] at hsp1
            rw[if_pos (List.any_eq_true.2 ⟨_,hcm,by simp[gH,hs1]⟩)] at hJ
            rw[hJ]
            simp only[bB,aB,VB,VF] at hB0
            simp(disch:=try exact dI) only[hdJ,hcp,aB,hw,push_cast,seval]
            refine ab.lentK hB0 [0] rfl qsZ qsZ ?_
            refine zgZ ?_
            refine ab.pure hsp1 rfl ?_
            exact qsZ
          | false=>
            rw[hs1] at hsp1
            have hav2:(C.take (i+1)).any (gH sep)=false:=by rw[hav];simp[gH,hs1]
            have hn2:bS sep (C.take (i+1))=sep::tx:=by rw[hn];simp[wrt]
            have hW:=jh m true [sep] tx (by simp at hll ⊢ <;> omega) (by omega)
            simp only[bB,aB,VB,VF] at hB0 hW
            simp(disch:=try exact dI) only[hdJ,hcp,aB,hw,push_cast,seval]
            refine ab.lentK hB0 [0] rfl qsZ qsZ ?_
            refine zgZ ?_
            refine ab.pure hsp1 rfl ?_
            refine zgZ ?_
            refine ab.lentK hW [0,4] rfl qsZ qsZ ?_
            refine zgZ ?_
            exact⟨(i+1,true,sep::tx),aI (by simp(disch:=try exact dI) only[hdJ,aB,push_cast,seval]),⟨by simp only;omega,hn2.symm,by simp,hav2⟩,by simp only;omega⟩
        | true=>
          have hrp1:=hrp _ hcm rfl
          simp only at hrp1
          have hav2:(C.take (i+1)).any (gH sep)=false:=by rw[hav];simp[gH]
          have hn2:bS sep (C.take (i+1))=sep::34::(dbl tx++[34]):=by rw[hn];simp[wrt]
          have hB1:=fC m true [sep] 34 (by simp at hll ⊢ <;> omega)
          have hW:=jh m true [sep,34] (dbl tx) (by simp at hll ⊢ <;> omega) (by omega)
          have hB2:=fC m true (sep::34::dbl tx) 34 (by simp at hll ⊢ <;> omega)
          simp only[bB,aB,VB,VF] at hB0 hB1 hW hB2
          rw[show (((34:UInt8).toNat:Nat):Int)=34 from rfl] at hB1 hB2
          simp(disch:=try exact dI) only[hdJ,hcp,aB,hw,push_cast,seval]
          refine ab.lentK hB0 [0] rfl qsZ qsZ ?_
          refine zgZ ?_
          refine ab.lentK hB1 [0,4] rfl qsZ qsZ ?_
          refine zgZ ?_
          refine ab.pure hrp1 rfl ?_
          refine zgZ ?_
          refine ab.lentK hW [0,6] rfl qsZ qsZ ?_
          refine zgZ ?_
          refine ab.lentK hB2 [0,8] rfl qsZ qsZ ?_
          refine zgZ ?_
          exact⟨(i+1,true,sep::34::(dbl tx++[34])),aI (by simp(disch:=try exact dI) only[hdJ,aB,push_cast,seval]),⟨by simp only;omega,hn2.symm,by simp,hav2⟩,by simp only;omega⟩
      | cons b r=>
        have hB0:=fC m true (b::r) sep (by simp at hll ⊢ <;> omega)
        cases q with
        | false=>
          have hsp1:=hsp _ hcm rfl
          simp only at hsp1
          cases hs1:spc sep tx with
          | true=>
            rw[hs1] at hsp1
            rw[if_pos (List.any_eq_true.2 ⟨_,hcm,by simp[gH,hs1]⟩)] at hJ
            rw[hJ]
            simp only[bB,aB,VB,VF] at hB0
            simp(disch:=try exact dI) only[hdJ,hcp,aB,hw,push_cast,seval]
            refine ab.lentK hB0 [0,1] rfl qsZ qsZ ?_
            refine zgZ ?_
            refine ab.pure hsp1 rfl ?_
            exact qsZ
          | false=>
            rw[hs1] at hsp1
            have hav2:(C.take (i+1)).any (gH sep)=false:=by rw[hav];simp[gH,hs1]
            have hn2:bS sep (C.take (i+1))=b::(r++[sep]++tx):=by rw[hn];simp[wrt]
            have hW:=jh m true (b::(r++[sep])) tx (by simp at hll ⊢ <;> omega) (by omega)
            simp only[bB,aB,VB,VF] at hB0 hW
            simp(disch:=try exact dI) only[hdJ,hcp,aB,hw,push_cast,seval]
            refine ab.lentK hB0 [0,1] rfl qsZ qsZ ?_
            refine zgZ ?_
            refine ab.pure hsp1 rfl ?_
            refine zgZ ?_
            refine ab.lentK hW [0,5] rfl qsZ qsZ ?_
            refine zgZ ?_
            exact⟨(i+1,true,b::(r++[sep]++tx)),aI (by simp(disch:=try exact dI) only[hdJ,aB,push_cast,seval]),⟨by simp only;omega,hn2.symm,by simp,hav2⟩,by simp only;omega⟩
        | true=>
          have hrp1:=hrp _ hcm rfl
          simp only at hrp1
          have hav2:(C.take (i+1)).any (gH sep)=false:=by rw[hav];simp[gH]
          have hn2:bS sep (C.take (i+1))=b::(r++[sep]++[34]++dbl tx++[34]):=by rw[hn];simp[wrt]
          have hB1:=fC m true (b::(r++[sep])) 34 (by simp at hll ⊢ <;> omega)
          have hW:=jh m true (b::(r++[sep]++[34])) (dbl tx) (by simp at hll ⊢ <;> omega) (by omega)
          have hB2:=fC m true (b::(r++[sep]++[34]++dbl tx)) 34 (by simp at hll ⊢ <;> omega)
          simp only[bB,aB,VB,VF] at hB0 hB1 hW hB2
          rw[show (((34:UInt8).toNat:Nat):Int)=34 from rfl] at hB1 hB2
          simp(disch:=try exact dI) only[hdJ,hcp,aB,hw,push_cast,seval]
          refine ab.lentK hB0 [0,1] rfl qsZ qsZ ?_
          refine zgZ ?_
          refine ab.lentK hB1 [0,5] rfl qsZ qsZ ?_
          refine zgZ ?_
          refine ab.pure hrp1 rfl ?_
          refine zgZ ?_
          refine ab.lentK hW [0,7] rfl qsZ qsZ ?_
          refine zgZ ?_
          refine ab.lentK hB2 [0,9] rfl qsZ qsZ ?_
          refine zgZ ?_
          exact⟨(i+1,true,b::(r++[sep]++[34]++dbl tx++[34])),aI (by simp(disch:=try exact dI) only[hdJ,aB,push_cast,seval]),⟨by simp only;omega,hn2.symm,by simp,hav2⟩,by simp only;omega⟩
    ·have he:C.take i=C:=VC (by omega)
     rw[he] at h2 h4
     cases l with
     | nil=>
       cases t with
       | true=>
         simp(disch:=try exact dI) only[hdJ,aB,push_cast,seval]
         exact⟨(true,[]),aI (by simp(disch:=try exact dI) only[exJ,aB,push_cast,seval]),h2,h4⟩
       | false=>
         simp(disch:=try exact dI) only[hdJ,aB,push_cast,seval]
         exact⟨(false,[]),aI (by simp(disch:=try exact dI) only[exJ,aB,push_cast,seval]),h2,h4⟩
     | cons b r=>
       simp(disch:=try exact dI) only[hdJ,push_cast,seval]
       exact⟨(t,b::r),aI (by simp(disch:=try exact dI) only[exJ,push_cast,seval]),h2,h4⟩
   ·rintro⟨t,l⟩ ⟨h1,h2⟩
    simp only at h1 h2
    rw[if_neg (by rw[h2];simp),<- h1] at hJ
    have hll:l.length<=64*140003:=by
     rw[h1]
     exact V3 (iK sep _ 70000 hm) (Nat.mul_le_mul (by omega) (Vw _))
    have hLn:=Qc m t l (by omega)
    have hSt:=uR m t l (by omega)
    cases l with
    | nil=>
      rw[if_neg (by simp)] at hJ
      rw[hJ]
      cases t with
      | true=>
        simp only[bB,aB,stB] at hLn hSt
        simp(disch:=try exact dI) only[exJ,aB,push_cast,seval]
        refine ab.lentK hLn [0] rfl qsZ qsZ ?_
        refine zgZ ?_
        refine ab.lentK hSt [0] rfl qsZ qsZ ?_
        exact qsZ
      | false=>
        simp only[bB,aB,stB] at hLn hSt
        simp(disch:=try exact dI) only[exJ,aB,push_cast,seval]
        refine ab.lentK hLn [0] rfl qsZ qsZ ?_
        refine zgZ ?_
        refine ab.lentK hSt [0] rfl qsZ qsZ ?_
        exact qsZ
    | cons b r=>
      have hLn:=Qc m true (b::r) (by omega)
      have hSt:=uR m true (b::r) (by omega)
      simp only[bB,aB,stB] at hLn hSt
      by_cases h65:65536<(b::r).length
      ·rw[if_pos h65] at hJ
       rw[hJ]
       simp only[Vq] at h65
       simp(disch:=try exact dI) only[exJ,aB,push_cast,seval]
       refine ab.lentK hLn [0,1] rfl qsZ qsZ ?_
       exact qsZ
      ·rw[if_neg h65] at hJ
       rw[hJ]
       simp only[Vq] at h65
       simp(disch:=try exact dI) only[exJ,aB,push_cast,seval]
       refine ab.lentK hLn [0,1] rfl qsZ qsZ ?_
       refine zgZ ?_
       refine ab.lentK hSt [0,2] rfl qsZ qsZ ?_
       exact qsZ
theorem I9 (t:List UInt8)(c:UInt8):dbl (t++[c])=dbl t++(if c=34 then [34,34] else [c]):=by
 induction t with
 | nil=>simp[dbl]
 | cons d t ih=>simp only[VF,dbl,ih];split<;>simp
theorem pT (t:List UInt8)(sep:UInt8)(ht:t.length<=70000):ae Tryz.prog aq 56 [.str t,.int .i64 (sep.toNat:Int)] (.bool (spc sep t)):=by
 obtain⟨b,hb⟩:∃ b,b=spc sep t:=⟨_,rfl⟩
 rw[<- hb]
 refine ae.intro Q56.2 (by simp[Q56]) ?_
 simp(disch:=try exact dI) only[Q56,push_cast,seval]
 refine ap ([]) (fun i:Nat=>[(5,.pv (.int .i64 (i:Int)))]) (fun _=>[]) (fun i=>i<=t.length/\b=spc sep (t.drop i)) (fun i=>t.length - i) (0) ?_;intro e0 σ0 n0 h0;simp(disch:=try exact dI) only[push_cast,seval] at h0;obtain⟨rfl,rfl,rfl⟩:=h0;refine⟨?_,?_,?_⟩
 ·exact qsZ
 ·exact⟨by omega,by simpa using hb⟩
 rintro i ⟨hi,hbi⟩
 by_cases hlt:i<t.length
 ·obtain⟨c,hc⟩:∃ c,t[i]? = some c:=⟨_,Vg hlt⟩
  have h70:=BM c sep
  rw[bD hc] at hbi
  simp only[spc,List.any_cons] at hbi
  cases hq:(c == sep||bad c) with
  | true=>
    rw[hq] at h70 hbi
    rw[Bool.true_or] at hbi
    subst hbi
    simp(disch:=try exact dI) only[hc,am,push_cast,seval]
    refine ab.pure h70 rfl ?_
    exact qsZ
  | false=>
    rw[hq] at h70 hbi
    rw[Bool.false_or] at hbi
    simp(disch:=try exact dI) only[hc,am,push_cast,seval]
    refine ab.pure h70 rfl ?_
    refine zgZ ?_
    exact⟨i+1,aI qsZ,⟨by omega,hbi⟩,by omega⟩
 ·rw[List.drop_eq_nil_of_le (by omega)] at hbi
  have:b=false:=hbi
  subst this
  exact qsZ
theorem K2 (c:Cel)(a:Nat)(hc:c.1.length<=70000):ae Tryz.prog aq 69 [rR (c,a)] (.str (wrt c)):=by
 obtain⟨t,q⟩:=c
 simp only at hc
 refine ae.intro Q69.2 (by simp[Q69]) ?_
 cases q with
 | false=>
   rw[show wrt (t,false)=t from rfl]
   simp(disch:=try exact dI) only[Q69,rR,push_cast,seval]
 | true=>
   rw[show wrt (t,true)=34::(dbl t++[34]) from rfl]
   simp(disch:=try exact dI) only[Q69,rR,push_cast,seval]
   refine ap ([]) (fun i:Nat=>[(3,.pv (.str (34::dbl (t.take i)))),(4,.pv (.int .i64 (i:Int)))]) (fun _=>[]) (fun i=>i<=t.length) (fun i=>t.length - i) (0) ?_;intro e0 σ0 n0 h0;simp(disch:=try exact dI) only[push_cast,seval] at h0;obtain⟨rfl,rfl,rfl⟩:=h0;refine⟨?_,?_,?_⟩
   ·refine zgZ ?_
    rfl
   ·omega
   intro i hi
   have hdl:=mM (t.take i)
   have htl:(t.take i).length<=t.length:=by simp;omega
   by_cases hlt:i<t.length
   ·obtain⟨c,hcc⟩:∃ c,t[i]? = some c:=⟨_,Vg hlt⟩
    have hts:=aD hcc
    have hds:=I9 (t.take i) c
    rw[<- hts] at hds
    have ho:=PT hcc
    by_cases h4:c=34
    ·subst h4
     rw[if_pos rfl] at hds
     simp(disch:=try exact dI) only[hcc,am,ho,push_cast,seval]
     exact⟨i+1,aI (by simp(disch:=try exact dI) only[hds,VQ,push_cast,seval]),by omega,by omega⟩
    ·rw[if_neg h4] at hds
     have n4:=MH h4
     simp(disch:=try exact dI) only[hcc,am,ho,n4,push_cast,seval]
     exact⟨i+1,aI (by simp(disch:=try exact dI) only[hds,push_cast,seval]),by omega,by omega⟩
   ·have he:t.take i=t:=VC (by omega)
    rw[he] at hdl
    simp(disch:=try exact dI) only[he,push_cast,seval]
theorem Qd (Z:List (Cel×Nat))(n:Int)(sep:UInt8)(hsep:eh n=true->n=(sep.toNat:Int))(hm:∀ z,z∈Z->z.1.1.length<=70000) :
  ae Tryz.prog aq 27 [.list (Z.map rR),.int .i64 n] (.tup [.str (cw (eh n) sep (Z.map Prod.fst)).1,.int .i64 (cw (eh n) sep (Z.map Prod.fst)).2]):=by
 have hs:=Ph n
 generalize hb:eh n=b at *
 refine ae.intro Q27.2 (by simp[Q27]) ?_
 cases b with
 | false=>
   rw[show cw false sep (Z.map Prod.fst)=([],2) from rfl]
   simp(disch:=try exact dI) only[Q27,push_cast,seval]
   refine ab.pure hs rfl ?_
   exact qsZ
 | true=>
   have hse:=hsep rfl
   subst hse
   have hss:=sep.toNat_lt
   have hw:=ji (n:=(sep.toNat:Int)) (by omega) (by omega)
   by_cases h0:Z.length=0
   ·have:Z=[]:=Wh.1 h0
    subst this
    rw[show cw true sep ([].map Prod.fst)=([],4) from rfl]
    simp(disch:=try exact dI) only[Q27,push_cast,seval]
    refine ab.pure hs rfl ?_
    exact qsZ
   by_cases h64:64<Z.length
   ·rw[show cw true sep (Z.map Prod.fst)=([],9) by unfold cw;simp only[Bool.true_eq_false,if_false,Vv,if_neg h0,if_pos h64]]
    simp(disch:=try exact dI) only[Q27,push_cast,seval]
    refine ab.pure hs rfl ?_
    exact qsZ
   obtain⟨J,hJ⟩:∃ J,J=cw true sep (Z.map Prod.fst):=⟨_,rfl⟩
   rw[<- hJ]
   unfold cw at hJ
   simp only[Bool.true_eq_false,if_false,Vv,if_neg h0,if_neg h64] at hJ
   simp(disch:=try exact dI) only[Q27,push_cast,seval]
   refine ab.pure hs rfl ?_
   refine zgZ ?_
   refine ap ([]) (fun i:Nat=>[(6,.pv (.str (bS sep ((Z.take i).map Prod.fst)))),(7,.pv (.int .i64 (i:Int)))]) (fun _=>[]) (fun i=>i<=Z.length/\((Z.take i).map Prod.fst).any (gH sep)=false) (fun i=>Z.length - i) (0) ?_;intro e0 σ0 n0 h0;simp(disch:=try exact dI) only[push_cast,seval] at h0;obtain⟨rfl,rfl,rfl⟩:=h0;refine⟨?_,?_,?_⟩
   ·refine zgZ ?_
    rfl
   ·exact⟨by omega,by simp⟩
   rintro i ⟨h1,h4⟩
   have hll:(bS sep ((Z.take i).map Prod.fst)).length<=64*140003:=by
    refine V3 (iK sep _ 70000 fun c hc=>?_) ?_
    ·obtain⟨z,hz,rfl⟩:=Vy.1 hc
     exact hm z (VU hz)
    ·refine Nat.mul_le_mul ?_ (Vw _)
     simp;omega
   by_cases hi:i<Z.length
   ·obtain⟨z,hz⟩:∃ z,Z[i]? = some z:=⟨_,Vg hi⟩
    have hzm:=Vk hz
    have hts:=aD hz
    obtain⟨⟨tx,q⟩,a⟩:=z
    have hlc:=hm _ hzm
    simp only at hlc
    have hwl:=sn (tx,q)
    simp only at hwl
    have hn:=nW sep ((Z.take i).map Prod.fst) (tx,q)
    have hmp:(Z.take (i+1)).map Prod.fst=(Z.take i).map Prod.fst++[(tx,q)]:=by rw[hts];simp
    rw[<- hmp] at hn
    have hav:((Z.take (i+1)).map Prod.fst).any (gH sep)=gH sep (tx,q):=by rw[hmp,List.any_append,h4];simp
    have hcp:(Z.map rR)[i]? = some (.agg [.str tx,.bool q,.int .i64 (a:Int)]):=by simp[hz,rR]
    have h56:=pT tx sep hlc
    have h69:=K2 (tx,q) a hlc
    simp only[rR] at h69
    have hlen:((Z.take i).map Prod.fst).length=i:=by simp;omega
    rw[hlen] at hn
    have main:∀ (hq:q=true\/spc sep tx=false),gH sep (tx,q)=false:=by
     rintro (rfl | h)
     ·rfl
     ·simp[gH,h]
    generalize hl:bS sep ((Z.take i).map Prod.fst)=l at *
    cases q with
    | false=>
      cases hs1:spc sep tx with
      | true=>
        rw[hs1] at h56
        rw[if_pos (List.any_eq_true.2 ⟨(tx,false),Vy.2 ⟨_,hzm,rfl⟩,by simp[gH,hs1]⟩)] at hJ
        rw[hJ]
        simp(disch:=try exact dI) only[hcp,push_cast,seval]
        refine ab.pure h56 rfl ?_
        exact qsZ
      | false=>
        rw[hs1] at h56
        rw[main (.inr hs1)] at hav
        by_cases hi0:i=0
        ·rw[if_pos hi0,VB] at hn
         have hL0:l=[]:=by rw[<- hl,hi0];rfl
         rw[hL0]
         simp(disch:=try exact dI) only[hcp,push_cast,seval]
         refine ab.pure h56 rfl ?_
         simp(disch:=try exact dI) only[hcp,push_cast,seval]
         refine ab.pure h69 rfl ?_
         refine zgZ ?_
         exact⟨i+1,aI (by simp(disch:=try exact dI) only[hn,push_cast,seval]),⟨by omega,hav⟩,by omega⟩
        ·rw[if_neg hi0] at hn
         simp(disch:=try exact dI) only[hcp,push_cast,seval]
         refine ab.pure h56 rfl ?_
         simp(disch:=try exact dI) only[hcp,hw,UInt8.ofNat_toNat,push_cast,seval]
         refine ab.pure h69 rfl ?_
         refine zgZ ?_
         exact⟨i+1,aI (by simp(disch:=try exact dI) only[hn,VQ,push_cast,seval]),⟨by omega,hav⟩,by omega⟩
    | true=>
      rw[main (.inl rfl)] at hav
      by_cases hi0:i=0
      ·rw[if_pos hi0,VB] at hn
       have hL0:l=[]:=by rw[<- hl,hi0];rfl
       rw[hL0]
       simp(disch:=try exact dI) only[hcp,push_cast,seval]
       refine ab.pure h69 rfl ?_
       refine zgZ ?_
       exact⟨i+1,aI (by simp(disch:=try exact dI) only[hn,push_cast,seval]),⟨by omega,hav⟩,by omega⟩
      ·rw[if_neg hi0] at hn
       simp(disch:=try exact dI) only[hcp,hw,UInt8.ofNat_toNat,push_cast,seval]
       refine ab.pure h69 rfl ?_
       refine zgZ ?_
       exact⟨i+1,aI (by simp(disch:=try exact dI) only[hn,VQ,push_cast,seval]),⟨by omega,hav⟩,by omega⟩
   ·have he:Z.take i=Z:=VC (by omega)
    rw[he] at h4 hll
    rw[if_neg (by rw[h4];simp)] at hJ
    by_cases h65:65536<(bS sep (Z.map Prod.fst)).length
    ·rw[if_pos h65] at hJ
     rw[hJ]
     simp(disch:=try exact dI) only[he,push_cast,seval]
    ·rw[if_neg h65] at hJ
     rw[hJ]
     simp(disch:=try exact dI) only[he,push_cast,seval]
def Ay (c:Cel):Cel×Nat:=(c,0)

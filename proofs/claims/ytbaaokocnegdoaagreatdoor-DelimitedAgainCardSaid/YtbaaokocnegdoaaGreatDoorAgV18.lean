/- A part of the proof. -/
import Derived.Test.YtbaaokocnegdoaaGreatDoorAgVB2
set_option linter.unusedVariables false
set_option linter.unusedSimpArgs false
set_option maxHeartbeats 16000000
set_option maxRecDepth 100000
namespace Go.Proofs.YtbaaokocnegdoaaGreatDoor
open Go Go.Ab
attribute [local irreducible] vc
variable (m:Int)
theorem Kv (t:Bool)(l:List UInt8):bk Tryz.prog (ma m) 1 90 [.ptr 0 0] (bB t l) (.pv (.tup [])) (bB true l):=by
 refine bk.intro Fz (by simp[F90]) ?_
 cases l with
 | nil=>
   cases t with
   | true=>
     simp(disch:=try exact dI) only[F90,bB,aB,push_cast,seval]
     exact aA [] qsZ
   | false=>
     simp(disch:=try exact dI) only[F90,bB,aB,push_cast,seval]
     exact aA [] qsZ
 | cons b r=>
   cases t with
   | true=>
     simp(disch:=try exact dI) only[F90,bB,aB,push_cast,seval]
     exact aA [] qsZ
   | false=>
     simp(disch:=try exact dI) only[F90,bB,aB,push_cast,seval]
     exact aA [] qsZ
theorem eZ (t:Bool)(l:List UInt8)(c:UInt8)(hl:l.length<=100000000):bk Tryz.prog (ma m) 1 43 [.ptr 0 0,.pv (.int .u8 (c.toNat:Int))] (bB t l) (.pv .nili) (bB true (l++[c])):=by
 have hC:=Kv m t l
 refine bk.intro Q43.2 (by simp[Q43]) ?_
 cases l with
 | nil=>
   cases t<;>(
   try simp only[bB,aB] at hC
   simp(disch:=try exact dI) only[Q43,bB,aB,push_cast,seval]
   refine ab.lentK hC [0] rfl qsZ qsZ ?_
   simp(disch:=try exact dI) only[bB,aB,push_cast,seval]
   exact aA [] (by simp(disch:=try exact dI) only[aF,push_cast,seval]))
 | cons b r=>
   have hA:=fun new q=>nt (t:=5) (q:=q) (new:=new) (f:=false) (l:=b::r) (c:=c) (len:=r.length+1) rfl (by simp at hl ⊢;omega)
   cases t<;>(
   try simp only[bB,aB] at hC
   simp(disch:=try exact dI) only[Q43,bB,aB,push_cast,seval]
   refine ab.lentK hC [0,1] rfl qsZ qsZ ?_
   simp(disch:=try exact dI) only[bB,aB,hA,push_cast,seval]
   exact aA [] (by simp(disch:=try exact dI) only[aF,List.length_append,push_cast,seval]))
theorem ir (t:Bool)(l k:List UInt8)(hl:l.length<=100000000)(hk:k.length<=100000000):bk Tryz.prog (ma m) 1 66 [.ptr 0 0,.pv (.str k)] (bB t l) (.pv (.tup [.int .i64 (k.length:Int),.nili])) (bB true (l++k)):=by
 have hC:=Kv m t l
 refine bk.intro Q66.2 (by simp[Q66]) ?_
 cases l with
 | nil=>
   cases k with
   | nil=>
     cases t<;>(
     try simp only[bB,aB] at hC
     simp(disch:=try exact dI) only[Q66,bB,aB,push_cast,seval]
     refine ab.lentK hC [0] rfl qsZ qsZ ?_
     simp(disch:=try exact dI) only[bB,aB,push_cast,seval]
     exact aA [] qsZ)
   | cons c k=>
     simp only[List.length_cons] at hk
     cases t<;>(
     try simp only[bB,aB] at hC
     simp(disch:=try exact dI) only[Q66,bB,aB,push_cast,seval]
     refine ab.lentK hC [0] rfl qsZ qsZ ?_
     simp(disch:=try exact dI) only[bB,aB,push_cast,seval]
     exact aA [] qsZ)
 | cons b r=>
   have e2:(r++k).length+1=r.length+1+k.length:=by simp;omega
   have hA:=fun new q=>wk (t:=5) (q:=q) (new:=new) (f:=false) (l:=b::r) (k:=k) (len:=r.length+1) rfl (by simp at hl ⊢;omega)
   cases t<;>(
   try simp only[bB,aB] at hC
   simp(disch:=try exact dI) only[Q66,bB,aB,push_cast,seval]
   refine ab.lentK hC [0,1] rfl qsZ qsZ ?_
   simp(disch:=try exact dI) only[bB,aB,hA,push_cast,seval]
   exact aA [] (by simp(disch:=try exact dI) only[e2,push_cast,seval]))
theorem uq (t:Bool)(l:List UInt8)(hl:l.length<=100000000):bk Tryz.prog (ma m) 1 44 [.ptr 0 0] (bB t l) (.pv (.str l)) (stB l):=by
 refine bk.intro Q44.2 (by simp[Q44]) ?_
 cases l with
 | nil=>
   cases t<;>(
   try simp only[bB,aB] at hC
   simp(disch:=try exact dI) only[Q44,bB,aB,push_cast,seval]
   exact aA [] (by simp(disch:=try exact dI) only[stB,push_cast,seval]))
 | cons b r=>
   have hA:=fun (k:Int) (q:Nat) (hk:k=((b::r).length:Int))=>uk (t:=5) (r:=q) (f:=false) (l:=b::r) hk (by simp) (by simp at hl ⊢;omega)
   cases t<;>(
   try simp only[bB,aB] at hC
   simp(disch:=try exact dI) only[Q44,bB,aB,hA,push_cast,seval]
   exact aA [] (by simp(disch:=try exact dI) only[stB,push_cast,seval]))
theorem PK (t:Bool)(l:List UInt8)(hl:l.length<=100000000):bk Tryz.prog (ma m) 1 68 [.ptr 0 0] (bB t l) (.pv (.int .i64 (l.length:Int))) (bB t l):=by
 refine bk.intro Q68.2 (by simp[Q68]) ?_
 cases l with
 | nil=>
   cases t<;>(
   simp(disch:=try exact dI) only[Q68,bB,aB,push_cast,seval]
   exact aA [] qsZ)
 | cons b r=>
   cases t<;>(
   simp(disch:=try exact dI) only[Q68,bB,aB,push_cast,seval]
   exact aA [] qsZ)
theorem ML (C:List Cel)(n:Int)(sep:UInt8)(hsep:jx n=true->n=(sep.toNat:Int))(hm:∀ c,c∈C->c.1.length<=70000)
  (hsp:jx n=true->∀ c,c∈C->c.2=false->ae Tryz.prog (ma m) 53 [.str c.1,.int .i64 n] (.bool (spc sep c.1)))
  (hrp:∀ c,c∈C->c.2=true->ae Tryz.prog (ma m) 67 [.str c.1,.str [34],.str [34,34]] (.str (dbl c.1))) :
  ae Tryz.prog (ma m) 26 [.list (C.map g9),.int .i64 n] (.tup [.str (fK (jx n) sep C).1,.int .i64 (fK (jx n) sep C).2]):=by
 have hs:=toM (m:=m) (tt n)
 rw[Bx] at hs
 generalize hb:jx n=b at *
 refine ae.intro Q26.2 (by simp[Q26]) ?_
 cases b with
 | false=>
   rw[show fK false sep C=([],2) from rfl]
   simp(disch:=try exact dI) only[Q26,push_cast,seval]
   refine ab.pure hs rfl ?_
   exact qsZ
 | true=>
   have hse:=hsep rfl
   subst hse
   replace hsp:=hsp rfl
   have hss:=sep.toNat_lt
   have hw:=j4 (n:=(sep.toNat:Int)) (by omega) (by omega)
   by_cases h0:C.length=0
   ·have:C=[]:=List.length_eq_zero_iff.1 h0
    subst this
    rw[show fK true sep []=([],4) from rfl]
    simp(disch:=try exact dI) only[Q26,push_cast,seval]
    refine ab.pure hs rfl ?_
    exact qsZ
   by_cases h64:64<C.length
   ·rw[show fK true sep C=([],9) by unfold fK;simp only[Bool.true_eq_false,if_false,if_neg h0,if_pos h64]]
    simp(disch:=try exact dI) only[Q26,push_cast,seval]
    refine ab.pure hs rfl ?_
    exact qsZ
   obtain⟨J,hJ⟩:∃ J,J=fK true sep C:=⟨_,rfl⟩
   rw[<- hJ]
   unfold fK at hJ
   simp only[Bool.true_eq_false,if_false,if_neg h0,if_neg h64] at hJ
   simp(disch:=try exact dI) only[Q26,push_cast,seval]
   refine ab.pure hs rfl ?_
   refine zgZ ?_
   refine jK (hdJ (sep.toNat:Int) C) (fun y=>y.1<=C.length/\y.2.2=bY sep (C.take y.1)/\(y.1=0↔y.2.1=false)/\(C.take y.1).any (jd sep)=false) (fun y=>C.length - y.1) (0,false,[]) [6] (exJ C) (fun y=>y.2=bY sep C/\C.any (jd sep)=false) ?_ ?_ ?_ ?_
   ·exact aR (by simp(disch:=try exact dI) only[hdJ,aB,push_cast,seval])
   ·exact⟨by simp,by simp[bY],by simp,by simp⟩
   ·rintro⟨i,t,l⟩ ⟨h1,h2,h3,h4⟩
    simp only at h1 h2 h3 h4
    have hll:l.length<=64*140003:=by
     rw[h2]
     refine Nat.le_trans (lf sep _ 70000 fun c hc=>hm c (List.mem_of_mem_take hc)) ?_
     refine Nat.mul_le_mul ?_ (Nat.le_refl _)
     simp;omega
    by_cases hi:i<C.length
    ·obtain⟨c,hc⟩:∃ c,C[i]? = some c:=⟨_,List.getElem?_eq_getElem hi⟩
     have hcm:=List.mem_of_getElem? hc
     have hts:=aG hc
     obtain⟨tx,q⟩:=c
     have hlc:=hm _ hcm
     simp only at hlc
     have hdl:=ou tx
     have hn:=yu sep (C.take i) (tx,q)
     rw[<- hts,<- h2] at hn
     have hav:(C.take (i+1)).any (jd sep)=jd sep (tx,q):=by rw[hts,List.any_append,h4];simp
     have hcp:(C.map g9)[i]? = some (.agg [.str tx,.bool q]):=by simp[hc,g9]
     have hiI:(i:Int)<(C.length:Int):=by omega
     by_cases hi0:i=0
     ·have ht:t=false:=h3.1 hi0
      have hl0:l=[]:=by rw[h2,hi0];rfl
      subst ht hl0
      rw[if_pos (by rw[hi0];simp),List.nil_append] at hn
      cases q with
      | false=>
        have hsp1:=hsp _ hcm rfl
        simp only at hsp1
        cases hs1:spc sep tx with
        | true=>
          rw[hs1] at hsp1
          rw[if_pos (List.any_eq_true.2 ⟨_,hcm,by simp[jd,hs1]⟩)] at hJ
          rw[hJ]
          simp(disch:=try exact dI) only[hdJ,hcp,aB,push_cast,seval]
          refine ab.pure hsp1 rfl ?_
          exact qsZ
        | false=>
          rw[hs1] at hsp1
          have hav2:(C.take (i+1)).any (jd sep)=false:=by rw[hav];simp[jd,hs1]
          have hn2:bY sep (C.take (i+1))=tx:=by rw[hn];simp[wrt]
          have hW:=ir m false [] tx (by simp) (by omega)
          cases tx with
          | nil=>
            simp only[bB,aB,List.nil_append] at hW
            simp(disch:=try exact dI) only[hdJ,hcp,aB,push_cast,seval]
            refine ab.pure hsp1 rfl ?_
            refine zgZ ?_
            refine ab.lentK hW [0] rfl qsZ qsZ ?_
            refine zgZ ?_
            exact⟨(i+1,true,[]),aR (by simp(disch:=try exact dI) only[hdJ,aB,push_cast,seval]),⟨by simp only;omega,hn2.symm,by simp,hav2⟩,by simp only;omega⟩
          | cons c tx=>
            simp only[bB,aB,List.nil_append] at hW
            simp(disch:=try exact dI) only[hdJ,hcp,aB,push_cast,seval]
            refine ab.pure hsp1 rfl ?_
            refine zgZ ?_
            refine ab.lentK hW [0] rfl qsZ qsZ ?_
            refine zgZ ?_
            exact⟨(i+1,true,c::tx),aR (by simp(disch:=try exact dI) only[hdJ,aB,push_cast,seval]),⟨by simp only;omega,hn2.symm,by simp,hav2⟩,by simp only;omega⟩
      | true=>
        have hrp1:=hrp _ hcm rfl
        simp only at hrp1
        have hav2:(C.take (i+1)).any (jd sep)=false:=by rw[hav];simp[jd]
        have hn2:bY sep (C.take (i+1))=34::(dbl tx++[34]):=by rw[hn];simp[wrt]
        have hB1:=eZ m false [] 34 (by simp)
        have hW:=ir m true [34] (dbl tx) (by simp) (by omega)
        have hB2:=eZ m true (34::dbl tx) 34 (by simp;omega)
        simp only[bB,aB,List.nil_append,List.cons_append] at hB1 hW hB2
        rw[show (((34:UInt8).toNat:Nat):Int)=34 from rfl] at hB1 hB2
        simp(disch:=try exact dI) only[hdJ,hcp,aB,push_cast,seval]
        refine ab.lentK hB1 [0] rfl qsZ qsZ ?_
        refine zgZ ?_
        refine ab.pure hrp1 rfl ?_
        refine zgZ ?_
        refine ab.lentK hW [0,5] rfl qsZ qsZ ?_
        refine zgZ ?_
        refine ab.lentK hB2 [0,7] rfl qsZ qsZ ?_
        refine zgZ ?_
        exact⟨(i+1,true,34::(dbl tx++[34])),aR (by simp(disch:=try exact dI) only[hdJ,aB,push_cast,seval]),⟨by simp only;omega,hn2.symm,by simp,hav2⟩,by simp only;omega⟩
     ·have hi0I:(0:Int)<(i:Int):=by omega
      have ht:t=true:=by cases t with | true=>rfl | false=>exact absurd (h3.2 rfl) hi0
      subst ht
      rw[if_neg (by rw[List.length_take];omega)] at hn
      cases l with
      | nil=>
        have hB0:=eZ m true [] sep (by simp at hll ⊢ <;> omega)
        cases q with
        | false=>
          have hsp1:=hsp _ hcm rfl
          simp only at hsp1
          cases hs1:spc sep tx with
          | true=>
            rw[hs1] at hsp1
            rw[if_pos (List.any_eq_true.2 ⟨_,hcm,by simp[jd,hs1]⟩)] at hJ
            rw[hJ]
            simp only[bB,aB,List.nil_append,List.cons_append] at hB0
            simp(disch:=try exact dI) only[hdJ,hcp,aB,hw,push_cast,seval]
            refine ab.lentK hB0 [0] rfl qsZ qsZ ?_
            refine zgZ ?_
            refine ab.pure hsp1 rfl ?_
            exact qsZ
          | false=>
            rw[hs1] at hsp1
            have hav2:(C.take (i+1)).any (jd sep)=false:=by rw[hav];simp[jd,hs1]
            have hn2:bY sep (C.take (i+1))=sep::tx:=by rw[hn];simp[wrt]
            have hW:=ir m true [sep] tx (by simp at hll ⊢ <;> omega) (by omega)
            simp only[bB,aB,List.nil_append,List.cons_append] at hB0 hW
            simp(disch:=try exact dI) only[hdJ,hcp,aB,hw,push_cast,seval]
            refine ab.lentK hB0 [0] rfl qsZ qsZ ?_
            refine zgZ ?_
            refine ab.pure hsp1 rfl ?_
            refine zgZ ?_
            refine ab.lentK hW [0,4] rfl qsZ qsZ ?_
            refine zgZ ?_
            exact⟨(i+1,true,sep::tx),aR (by simp(disch:=try exact dI) only[hdJ,aB,push_cast,seval]),⟨by simp only;omega,hn2.symm,by simp,hav2⟩,by simp only;omega⟩
        | true=>
          have hrp1:=hrp _ hcm rfl
          simp only at hrp1
          have hav2:(C.take (i+1)).any (jd sep)=false:=by rw[hav];simp[jd]
          have hn2:bY sep (C.take (i+1))=sep::34::(dbl tx++[34]):=by rw[hn];simp[wrt]
          have hB1:=eZ m true [sep] 34 (by simp at hll ⊢ <;> omega)
          have hW:=ir m true [sep,34] (dbl tx) (by simp at hll ⊢ <;> omega) (by omega)
          have hB2:=eZ m true (sep::34::dbl tx) 34 (by simp at hll ⊢ <;> omega)
          simp only[bB,aB,List.nil_append,List.cons_append] at hB0 hB1 hW hB2
          rw[show (((34:UInt8).toNat:Nat):Int)=34 from rfl] at hB1 hB2
          simp(disch:=try exact dI) only[hdJ,hcp,aB,hw,push_cast,seval]
          refine ab.lentK hB0 [0] rfl qsZ qsZ ?_
          refine zgZ ?_
          refine ab.lentK hB1 [0,4] rfl qsZ qsZ ?_
          refine zgZ ?_
          refine ab.pure hrp1 rfl ?_
          refine zgZ ?_
          refine ab.lentK hW [0,6] rfl qsZ qsZ ?_
          refine zgZ ?_
          refine ab.lentK hB2 [0,8] rfl qsZ qsZ ?_
          refine zgZ ?_
          exact⟨(i+1,true,sep::34::(dbl tx++[34])),aR (by simp(disch:=try exact dI) only[hdJ,aB,push_cast,seval]),⟨by simp only;omega,hn2.symm,by simp,hav2⟩,by simp only;omega⟩
      | cons b r=>
        have hB0:=eZ m true (b::r) sep (by simp at hll ⊢ <;> omega)
        cases q with
        | false=>
          have hsp1:=hsp _ hcm rfl
          simp only at hsp1
          cases hs1:spc sep tx with
          | true=>
            rw[hs1] at hsp1
            rw[if_pos (List.any_eq_true.2 ⟨_,hcm,by simp[jd,hs1]⟩)] at hJ
            rw[hJ]
            simp only[bB,aB,List.nil_append,List.cons_append] at hB0
            simp(disch:=try exact dI) only[hdJ,hcp,aB,hw,push_cast,seval]
            refine ab.lentK hB0 [0,1] rfl qsZ qsZ ?_
            refine zgZ ?_
            refine ab.pure hsp1 rfl ?_
            exact qsZ
          | false=>
            rw[hs1] at hsp1
            have hav2:(C.take (i+1)).any (jd sep)=false:=by rw[hav];simp[jd,hs1]
            have hn2:bY sep (C.take (i+1))=b::(r++[sep]++tx):=by rw[hn];simp[wrt]
            have hW:=ir m true (b::(r++[sep])) tx (by simp at hll ⊢ <;> omega) (by omega)
            simp only[bB,aB,List.nil_append,List.cons_append] at hB0 hW
            simp(disch:=try exact dI) only[hdJ,hcp,aB,hw,push_cast,seval]
            refine ab.lentK hB0 [0,1] rfl qsZ qsZ ?_
            refine zgZ ?_
            refine ab.pure hsp1 rfl ?_
            refine zgZ ?_
            refine ab.lentK hW [0,5] rfl qsZ qsZ ?_
            refine zgZ ?_
            exact⟨(i+1,true,b::(r++[sep]++tx)),aR (by simp(disch:=try exact dI) only[hdJ,aB,push_cast,seval]),⟨by simp only;omega,hn2.symm,by simp,hav2⟩,by simp only;omega⟩
        | true=>
          have hrp1:=hrp _ hcm rfl
          simp only at hrp1
          have hav2:(C.take (i+1)).any (jd sep)=false:=by rw[hav];simp[jd]
          have hn2:bY sep (C.take (i+1))=b::(r++[sep]++[34]++dbl tx++[34]):=by rw[hn];simp[wrt]
          have hB1:=eZ m true (b::(r++[sep])) 34 (by simp at hll ⊢ <;> omega)
          have hW:=ir m true (b::(r++[sep]++[34])) (dbl tx) (by simp at hll ⊢ <;> omega) (by omega)
          have hB2:=eZ m true (b::(r++[sep]++[34]++dbl tx)) 34 (by simp at hll ⊢ <;> omega)
          simp only[bB,aB,List.nil_append,List.cons_append] at hB0 hB1 hW hB2
          rw[show (((34:UInt8).toNat:Nat):Int)=34 from rfl] at hB1 hB2
          simp(disch:=try exact dI) only[hdJ,hcp,aB,hw,push_cast,seval]
          refine ab.lentK hB0 [0,1] rfl qsZ qsZ ?_
          refine zgZ ?_
          refine ab.lentK hB1 [0,5] rfl qsZ qsZ ?_
          refine zgZ ?_
          refine ab.pure hrp1 rfl ?_
          refine zgZ ?_
          refine ab.lentK hW [0,7] rfl qsZ qsZ ?_
          refine zgZ ?_
          refine ab.lentK hB2 [0,9] rfl qsZ qsZ ?_
          refine zgZ ?_
          exact⟨(i+1,true,b::(r++[sep]++[34]++dbl tx++[34])),aR (by simp(disch:=try exact dI) only[hdJ,aB,push_cast,seval]),⟨by simp only;omega,hn2.symm,by simp,hav2⟩,by simp only;omega⟩
    ·have he:C.take i=C:=List.take_of_length_le (by omega)
     rw[he] at h2 h4
     cases l with
     | nil=>
       cases t with
       | true=>
         simp(disch:=try exact dI) only[hdJ,aB,push_cast,seval]
         exact⟨(true,[]),aR (by simp(disch:=try exact dI) only[exJ,aB,push_cast,seval]),h2,h4⟩
       | false=>
         simp(disch:=try exact dI) only[hdJ,aB,push_cast,seval]
         exact⟨(false,[]),aR (by simp(disch:=try exact dI) only[exJ,aB,push_cast,seval]),h2,h4⟩
     | cons b r=>
       simp(disch:=try exact dI) only[hdJ,push_cast,seval]
       exact⟨(t,b::r),aR (by simp(disch:=try exact dI) only[exJ,push_cast,seval]),h2,h4⟩
   ·rintro⟨t,l⟩ ⟨h1,h2⟩
    simp only at h1 h2
    rw[if_neg (by rw[h2];simp),<- h1] at hJ
    have hll:l.length<=64*140003:=by
     rw[h1]
     exact Nat.le_trans (lf sep _ 70000 hm) (Nat.mul_le_mul (by omega) (Nat.le_refl _))
    have hLn:=PK m t l (by omega)
    have hSt:=uq m t l (by omega)
    cases l with
    | nil=>
      rw[if_neg (by simp)] at hJ
      rw[hJ]
      cases t with
      | true=>
        simp only[bB,aB,stB] at hLn hSt
        simp(disch:=try exact dI) only[exJ,aB,push_cast,seval]
        refine ab.lentK hLn [0] rfl qsZ qsZ ?_
        refine zgZ ?_
        refine ab.lentK hSt [0] rfl qsZ qsZ ?_
        exact qsZ
      | false=>
        simp only[bB,aB,stB] at hLn hSt
        simp(disch:=try exact dI) only[exJ,aB,push_cast,seval]
        refine ab.lentK hLn [0] rfl qsZ qsZ ?_
        refine zgZ ?_
        refine ab.lentK hSt [0] rfl qsZ qsZ ?_
        exact qsZ
    | cons b r=>
      have hLn:=PK m true (b::r) (by omega)
      have hSt:=uq m true (b::r) (by omega)
      simp only[bB,aB,stB] at hLn hSt
      by_cases h65:65536<(b::r).length
      ·rw[if_pos h65] at hJ
       rw[hJ]
       simp only[List.length_cons] at h65
       simp(disch:=try exact dI) only[exJ,aB,push_cast,seval]
       refine ab.lentK hLn [0,1] rfl qsZ qsZ ?_
       exact qsZ
      ·rw[if_neg h65] at hJ
       rw[hJ]
       simp only[List.length_cons] at h65
       simp(disch:=try exact dI) only[exJ,aB,push_cast,seval]
       refine ab.lentK hLn [0,1] rfl qsZ qsZ ?_
       refine zgZ ?_
       refine ab.lentK hSt [0,2] rfl qsZ qsZ ?_
       exact qsZ
theorem ut {n:Int}(h:jx n=true):n=((n.toNat.toUInt8).toNat:Int)/\n.toNat.toUInt8≠34:=by
 have hn:0<=n/\n<128/\n≠34:=by unfold jx at h;simp at h;omega
 have e:((n.toNat.toUInt8).toNat:Int)=n:=by simp;omega
 refine⟨e.symm,fun h4=>?_⟩
 rw[h4] at e
 have:((34:UInt8).toNat:Int)=34:=rfl
 omega
theorem MM (m:Int)(D:List Cel)(n:Int)(hD:∀ c,c∈D->c.1.length<=70000) :
  ae Tryz.prog (ma m) 26 [.list (D.map g9),.int .i64 n] (.tup [.str (fK (jx n) n.toNat.toUInt8 D).1,.int .i64 (fK (jx n) n.toNat.toUInt8 D).2]):=by
 refine ML m D n n.toNat.toUInt8 (fun h=>(ut h).1) hD ?_ ?_
 ·intro hs c hc _
  obtain⟨h1,h2⟩:=ut hs
  rw[<- fg]
  have hb:jx ((n.toNat.toUInt8).toNat:Int)=true:=by rw[<- h1];exact hs
  have hn:n<128:=by unfold jx at hs;simp at hs;omega
  have h128:(n.toNat.toUInt8).toNat<128:=by omega
  have:=oX hb (jt c.1 [34,13,10,n.toNat.toUInt8] (by have:=hD c hc;omega) (by simp) (by simp) (by simp;simpa using h128))
  rw[<- h1] at this
  exact toM this
 ·intro c hc _
  exact wV m c.1 (by have:=hD c hc;omega)
end Go.Proofs.YtbaaokocnegdoaaGreatDoor
namespace Go.Ab
open Go
def iP (y:Int):Bool:=decide (y % 4=0)&&(!decide (y % 100=0)||decide (y % 400=0))
def mdI (y m:Int):Int:=if m=2 then (if iP y=true then 29 else 28) else if m=4\/m=6\/m=9\/m=11 then 30 else 31
def d7 (y:Int):Int:=365*(y - 1)+(y - 1) / 4 - (y - 1) / 100+(y - 1) / 400
def dG (y:Int):Nat->Int
 | 0=>0
 | k+1=>dG y k+mdI y (k+1:Nat)
theorem dS (y m:Int):28<=mdI y m/\mdI y m<=31:=by
 unfold mdI;split
 ·split<;>omega
 ·split<;>omega
theorem vh (y:Int):iP y=true↔y % 4=0/\(¬ y % 100=0\/y % 400=0):=by simp[iP]
theorem oz (y:Int):d7 (y+1)=d7 y+365+(if iP y=true then 1 else 0):=by
 have h:y+1 - 1=y:=by omega
 unfold d7
 rw[h]
 by_cases hl:iP y=true
 ·rw[if_pos hl]
  have:=(vh y).1 hl
  omega
 ·rw[if_neg hl]
  have:¬ (y % 4=0/\(¬ y % 100=0\/y % 400=0)):=fun h=>hl ((vh y).2 h)
  omega
theorem wg:∀ (k:Nat) (y:Int),d7 y+365*k<=d7 (y+k)
 | 0,y=>by simp
 | k+1,y=>by
   have h1:=wg k y
   have h2:=oz (y+k)
   have e:y+((k+1:Nat):Int)=y+k+1:=by omega
   rw[e,h2]
   have:(0:Int)<=if iP (y+k)=true then 1 else 0:=by split<;>omega
   omega
theorem QR {y z:Int}(h:y<z):d7 (y+1)<=d7 z:=by
 have:=wg (z - (y+1)).toNat (y+1)
 have e:y+1+((z - (y+1)).toNat:Int)=z:=by omega
 rw[e] at this
 omega
theorem JO (y:Int):dG y 12=365+(if iP y=true then 1 else 0):=by
 have e (k:Nat):dG y (k+1)=dG y k+mdI y (k+1:Nat):=rfl
 have z:dG y 0=0:=rfl
 rw[e 11,e 10,e 9,e 8,e 7,e 6,e 5,e 4,e 3,e 2,e 1,e 0,z]
 by_cases hl:iP y=true<;>simp[mdI,hl]
theorem cB (y:Int):∀ (k j:Nat),dG y j+28*k<=dG y (j+k)
 | 0,j=>by simp
 | k+1,j=>by
   have h1:=cB y k j
   have h2:=dS y ((j+k:Nat)+1:Nat)
   have e:dG y (j+(k+1))=dG y (j+k)+mdI y (j+k+1:Nat):=rfl
   rw[e]
   omega
structure DateOk (y:Int)(m:Nat)(d:Int):Prop where
 y1:1<=y
 y2:y<=9999
 m1:1<=m
 m2:m<=12
 d1:1<=d
 d2:d<=mdI y m
def iX (y:Int)(m:Nat)(d:Int):Int:=d7 y+dG y (m - 1)+d - 1
theorem qO {y:Int}{m:Nat}{d:Int}(h:DateOk y m d):d7 y<=iX y m d/\iX y m d<d7 (y+1):=by
 obtain⟨h1,h2,h3,h4,h5,h6⟩:=h
 have hs0:=cB y (m - 1) 0
 have z:dG y 0=0:=rfl
 simp only[Nat.zero_add] at hs0
 have hs1:dG y m=dG y (m - 1)+mdI y m:=by
  obtain⟨k,rfl⟩:∃ k,m=k+1:=⟨m - 1,by omega⟩
  rfl
 have hs2:=cB y (12 - m) m
 rw[show m+(12 - m)=12 by omega,JO] at hs2
 have hb:=oz y
 unfold iX
 omega
theorem ig {y:Int}(h1:1<=y)(h2:y<=10000):0<=d7 y/\d7 y<=3652059:=by
 unfold d7;omega
theorem ff {y:Int}{m:Nat}{d:Int}(h:DateOk y m d):0<=iX y m d/\iX y m d<=3652058:=by
 have:=qO h
 have h1:=ig h.y1 (by have:=h.y2;omega)
 have h2:=ig (y:=y+1) (by have:=h.y1;omega) (by have:=h.y2;omega)
 omega
end Go.Ab

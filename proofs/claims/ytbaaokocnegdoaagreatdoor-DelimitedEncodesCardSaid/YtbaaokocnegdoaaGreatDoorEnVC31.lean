/- A part. -/
import Derived.Test.YtbaaokocnegdoaaGreatDoorEnVC28
set_option linter.unusedVariables false
set_option linter.unusedSimpArgs false
set_option maxHeartbeats 16000000
set_option maxRecDepth 100000
open List renaming map_nil->Vo,getElem?_eq_getElem->Vg,nil_append->VB,cons_append->VF,mem_of_getElem?->Vk
namespace Go.Proofs.YtbaaokocnegdoaaGreatDoor
open Go Go.Ab
attribute [local irreducible] vc
def hdC (k:Int)(t:List UInt8):Nat×List UInt8->St
 | (i,[])=>⟨[(3,.ptr 0 0),(7,.pv (.int .i64 0)),(8,.ptr 1 0),(45,.pv (.int .i64 (t.length:Int))),(46,.pv (.int .i64 (i:Int)))],[(0,.cells 31 true [.pv (.int .i64 k),.pv (.int .i64 0),.pv (.int .i64 0),.pv (.str t),.pv (.list []),.pv (.list [])]),(1,.cells 89 true [.pv .nilp,.pv .nils])],2⟩
 | (i,b::r)=>⟨[(3,.ptr 0 0),(7,.pv (.int .i64 0)),(8,.ptr 1 0),(45,.pv (.int .i64 (t.length:Int))),(46,.pv (.int .i64 (i:Int)))],[(0,.cells 31 true [.pv (.int .i64 k),.pv (.int .i64 0),.pv (.int .i64 0),.pv (.str t),.pv (.list []),.pv (.list [])]),(1,.cells 89 true [.ptr 1 0,.row 2 1 0 (r.length+1)]),(2,.cells 5 false ((aG (b::r)).map .pv))],3⟩
def exC:List UInt8->St
 | []=>⟨[(7,.pv (.int .i64 0)),(8,.ptr 0 0)],[(0,.cells 89 true [.pv .nilp,.pv .nils])],1⟩
 | b::r=>⟨[(7,.pv (.int .i64 0)),(8,.ptr 0 0)],[(0,.cells 89 true [.ptr 0 0,.row 1 1 0 (r.length+1)]),(1,.cells 5 false ((aG (b::r)).map .pv))],2⟩
theorem lP (k:Int){a b c:Int}{w:List (List UInt8)}{e:List Typ}{f:List TFd}(s:List UInt8)(hl:s.length<=5000)(hk:nj k=true)(ht:eK 1 (.mk k a b c w e f))(ho:(rdQ k s).2=true)(hm:(aO 1 (.mk k a b c w e f) (bm k (rdQ k s).1) []).isEmpty=true) :
  ae Tryz.prog aq 32 [(Typ.mk k a b c w e f).pv] (.bool true)/\ae Tryz.prog aq 37 [(Typ.mk k a b c w e f).pv,(bm k (rdQ k s).1).pv] (.bool true)/\I64 (rdQ k s).1.1/\I64 (rdQ k s).1.2.1/\(rdQ k s).1.2.2.length<=5000:=by
 have hs:=oG (.mk k a b c w e f)
 rw[show nj (Typ.mk k a b c w e f).kind=true from hk] at hs
 have hq:=Ch hk hl ho
 have hF:=Em (.mk k a b c w e f) (bm k (rdQ k s).1) ((dQ _).1 hk) (kr hq.2.2) ht (sr hk hq)
 rw[hm] at hF
 exact⟨hs,hF,hq⟩
theorem Ax {a b c:Int}{w:List (List UInt8)}{e:List Typ}{f:List TFd}(s:List UInt8)(hl:s.length<=5000)(ht:eK 1 (.mk 1 a b c w e f))
  (ho:(rdQ 1 s).2=true) (hm:(aO 1 (.mk 1 a b c w e f) (bm 1 (rdQ 1 s).1) []).isEmpty=true) :
  ae Tryz.prog aq 16 [(Typ.mk 1 a b c w e f).pv,(bm 1 (rdQ 1 s).1).pv] (.tup [.str s,.int .i64 0]):=by
 obtain⟨hs,hF,hq⟩:=lP 1 s hl rfl ht ho hm
 clear hm
 simp only[Vd] at hs
 rw[G6] at ho hF ⊢
 simp only at ho hF ⊢
 unfold bm at hF ⊢
 simp only[Vd,Vf,Vo] at hF
 by_cases h1:s=gR
 ·rw[if_pos h1] at hF ⊢
  have hb:=(Kp true)
  rw[if_pos rfl] at hb
  subst h1
  refine ae.intro Q16.2 (by simp[Q16]) ?_
  simp(disch:=try exact dI) only[Q16,Vd,Vf,Vo,push_cast,seval]
  refine ab.pure hs rfl ?_
  simp(disch:=try exact dI) only[Vo,push_cast,seval]
  refine ab.pure hF rfl ?_
  simp(disch:=try exact dI) only[Vo,push_cast,seval]
  refine ab.pure hb rfl ?_
  simp(disch:=try exact dI) only[Vo,push_cast,seval]
 ·have h2:s=eF:=by
   rw[decide_eq_false h1,Bool.false_or] at ho
   exact of_decide_eq_true ho
  rw[if_neg h1] at hF ⊢
  have hb:=(Kp false)
  rw[if_neg (by simp)] at hb
  subst h2
  refine ae.intro Q16.2 (by simp[Q16]) ?_
  simp(disch:=try exact dI) only[Q16,Vd,Vf,Vo,push_cast,seval]
  refine ab.pure hs rfl ?_
  simp(disch:=try exact dI) only[Vo,push_cast,seval]
  refine ab.pure hF rfl ?_
  simp(disch:=try exact dI) only[Vo,push_cast,seval]
  refine ab.pure hb rfl ?_
  simp(disch:=try exact dI) only[Vo,push_cast,seval]
theorem Aw {a b c:Int}{w:List (List UInt8)}{e:List Typ}{f:List TFd}(s:List UInt8)(hl:s.length<=5000)(ht:eK 1 (.mk 2 a b c w e f))
  (ho:(rdQ 2 s).2=true) (hm:(aO 1 (.mk 2 a b c w e f) (bm 2 (rdQ 2 s).1) []).isEmpty=true) :
  ae Tryz.prog aq 16 [(Typ.mk 2 a b c w e f).pv,(bm 2 (rdQ 2 s).1).pv] (.tup [.str s,.int .i64 0]):=by
 obtain⟨hs,hF,hq⟩:=lP 2 s hl rfl ht ho hm
 clear hm
 simp only[Vd] at hs
 rw[Cm] at ho hF ⊢
 simp only at ho hF ⊢
 unfold bm at hF ⊢
 simp only[Vd,Vf,Vo] at hF
 simp only[Bool.and_eq_true,decide_eq_true_eq] at ho
 obtain⟨hn,hd⟩:=iE ho.1
 have hx:=(Bz hn)
 rw[hd] at hx
 generalize (aY s).1.1=n at *
 generalize (aY s).1.2=sc at *
 refine ae.intro Q16.2 (by simp[Q16]) ?_
 simp(disch:=try exact dI) only[Q16,Vd,Vf,Vo,push_cast,seval]
 refine ab.pure hs rfl ?_
 simp(disch:=try exact dI) only[Vo,push_cast,seval]
 refine ab.pure hF rfl ?_
 simp(disch:=try exact dI) only[Vo,push_cast,seval]
 refine ab.pure hx rfl ?_
 simp(disch:=try exact dI) only[Vo,push_cast,seval]
theorem Av {a b c:Int}{w:List (List UInt8)}{e:List Typ}{f:List TFd}(s:List UInt8)(hl:s.length<=5000)(ht:eK 1 (.mk 3 a b c w e f))
  (ho:(rdQ 3 s).2=true) (hm:(aO 1 (.mk 3 a b c w e f) (bm 3 (rdQ 3 s).1) []).isEmpty=true) :
  ae Tryz.prog aq 16 [(Typ.mk 3 a b c w e f).pv,(bm 3 (rdQ 3 s).1).pv] (.tup [.str s,.int .i64 0]):=by
 obtain⟨hs,hF,hq⟩:=lP 3 s hl rfl ht ho hm
 clear hm
 simp only[Vd] at hs
 rw[Cl] at ho hF ⊢
 simp only at ho hF ⊢
 unfold bm at hF ⊢
 simp only[Vd,Vf,Vo] at hF
 simp only[decide_eq_true_eq] at ho
 obtain⟨hn,hd⟩:=iE ho
 have hx:=(Bz hn)
 rw[hd] at hx
 generalize (aY s).1.1=n at *
 generalize (aY s).1.2=sc at *
 refine ae.intro Q16.2 (by simp[Q16]) ?_
 simp(disch:=try exact dI) only[Q16,Vd,Vf,Vo,push_cast,seval]
 refine ab.pure hs rfl ?_
 simp(disch:=try exact dI) only[Vo,push_cast,seval]
 refine ab.pure hF rfl ?_
 simp(disch:=try exact dI) only[Vo,push_cast,seval]
 refine ab.pure hx rfl ?_
 simp(disch:=try exact dI) only[Vo,push_cast,seval]
theorem Au {a b c:Int}{w:List (List UInt8)}{e:List Typ}{f:List TFd}(s:List UInt8)(hl:s.length<=5000)(ht:eK 1 (.mk 4 a b c w e f))
  (ho:(rdQ 4 s).2=true) (hm:(aO 1 (.mk 4 a b c w e f) (bm 4 (rdQ 4 s).1) []).isEmpty=true) :
  ae Tryz.prog aq 16 [(Typ.mk 4 a b c w e f).pv,(bm 4 (rdQ 4 s).1).pv] (.tup [.str s,.int .i64 0]):=by
 obtain⟨hs,hF,hq⟩:=lP 4 s hl rfl ht ho hm
 clear hm
 simp only[Vd] at hs
 rw[G5] at ho hF ⊢
 simp only at ho hF ⊢
 unfold bm at hF ⊢
 simp only[Vd,Vf,Vo] at hF
 refine ae.intro Q16.2 (by simp[Q16]) ?_
 simp(disch:=try exact dI) only[Q16,Vd,Vf,Vo,push_cast,seval]
 refine ab.pure hs rfl ?_
 simp(disch:=try exact dI) only[Vo,push_cast,seval]
 refine ab.pure hF rfl ?_
 simp(disch:=try exact dI) only[Vo,push_cast,seval]
theorem As {a b c:Int}{w:List (List UInt8)}{e:List Typ}{f:List TFd}(s:List UInt8)(hl:s.length<=5000)(ht:eK 1 (.mk 6 a b c w e f))
  (ho:(rdQ 6 s).2=true) (hm:(aO 1 (.mk 6 a b c w e f) (bm 6 (rdQ 6 s).1) []).isEmpty=true) :
  ae Tryz.prog aq 16 [(Typ.mk 6 a b c w e f).pv,(bm 6 (rdQ 6 s).1).pv] (.tup [.str s,.int .i64 0]):=by
 obtain⟨hs,hF,hq⟩:=lP 6 s hl rfl ht ho hm
 clear hm
 simp only[Vd] at hs
 rw[Cj] at ho hF ⊢
 simp only at ho hF ⊢
 unfold bm at hF ⊢
 simp only[Vd,Vf,Vo] at hF
 simp only[decide_eq_true_eq] at ho
 obtain⟨y,m,d,h1,h2,h3⟩:=tj (s:=s) (n:=(cz s).1) (by rw[<- ho])
 have hx:=(JQ h1)
 rw[<- h2,<- h3] at hx
 generalize (cz s).1=n at *
 refine ae.intro Q16.2 (by simp[Q16]) ?_
 simp(disch:=try exact dI) only[Q16,Vd,Vf,Vo,push_cast,seval]
 refine ab.pure hs rfl ?_
 simp(disch:=try exact dI) only[Vo,push_cast,seval]
 refine ab.pure hF rfl ?_
 simp(disch:=try exact dI) only[Vo,push_cast,seval]
 refine ab.pure hx rfl ?_
 simp(disch:=try exact dI) only[Vo,push_cast,seval]
theorem Ar {a b c:Int}{w:List (List UInt8)}{e:List Typ}{f:List TFd}(s:List UInt8)(hl:s.length<=5000)(ht:eK 1 (.mk 7 a b c w e f))
  (ho:(rdQ 7 s).2=true) (hm:(aO 1 (.mk 7 a b c w e f) (bm 7 (rdQ 7 s).1) []).isEmpty=true) :
  ae Tryz.prog aq 16 [(Typ.mk 7 a b c w e f).pv,(bm 7 (rdQ 7 s).1).pv] (.tup [.str s,.int .i64 0]):=by
 obtain⟨hs,hF,hq⟩:=lP 7 s hl rfl ht ho hm
 clear hm
 simp only[Vd] at hs
 rw[Ci] at ho hF ⊢
 simp only at ho hF ⊢
 unfold bm at hF ⊢
 simp only[Vd,Vf,Vo] at hF
 simp only[decide_eq_true_eq] at ho
 obtain⟨y,m,d,hh,mi,sec,ms,h1,g1,g2,g3,g4,h2,h3⟩:=lO (s:=s) (n:=(cy s).1) (by rw[<- ho])
 have hx:=(xx h1 g1 g2 g3 g4)
 rw[<- h2,<- h3] at hx
 generalize (cy s).1=n at *
 refine ae.intro Q16.2 (by simp[Q16]) ?_
 simp(disch:=try exact dI) only[Q16,Vd,Vf,Vo,push_cast,seval]
 refine ab.pure hs rfl ?_
 simp(disch:=try exact dI) only[Vo,push_cast,seval]
 refine ab.pure hF rfl ?_
 simp(disch:=try exact dI) only[Vo,push_cast,seval]
 refine ab.pure hx rfl ?_
 simp(disch:=try exact dI) only[Vo,push_cast,seval]
theorem At {a b c:Int}{w:List (List UInt8)}{e:List Typ}{f:List TFd}(s:List UInt8)(hl:s.length<=5000)(ht:eK 1 (.mk 5 a b c w e f))
  (ho:(rdQ 5 s).2=true) (hm:(aO 1 (.mk 5 a b c w e f) (bm 5 (rdQ 5 s).1) []).isEmpty=true) :
  ae Tryz.prog aq 16 [(Typ.mk 5 a b c w e f).pv,(bm 5 (rdQ 5 s).1).pv] (.tup [.str s,.int .i64 0]):=by
 obtain⟨hs,hF,hq⟩:=lP 5 s hl rfl ht ho hm
 clear hm
 simp only[Vd] at hs
 rw[Ck] at ho hF ⊢
 simp only at ho hF ⊢
 unfold bm at hF ⊢
 simp only[Vd,Vf,Vo] at hF
 simp only[Bool.and_eq_true,decide_eq_true_eq] at ho
 obtain⟨ho1,ho2⟩:=ho
 cases he:zh s with
 | none=>rw[he] at ho1;simp at ho1
 | some t=>
 simp only[he,Option.getD_some] at hF ⊢
 have hb:nl t=s:=rp (by rw[iM ho2,he])
 have htl:=kG he
 refine ae.intro Q16.2 (by simp[Q16]) ?_
 simp(disch:=try exact dI) only[Q16,Vd,Vf,Vo,push_cast,seval]
 refine ab.pure hs rfl ?_
 simp(disch:=try exact dI) only[Vo,push_cast,seval]
 refine ab.pure hF rfl ?_
 simp(disch:=try exact dI) only[Vo,push_cast,seval]
 refine kq (hdC 5 t) (fun y=>y.1<=t.length/\y.2=nl (t.take y.1)) (fun y=>t.length - y.1) (0,[]) [7,8] exC (fun l=>l=s) ?_ ?_ ?_ ?_
 ·exact aI (by simp(disch:=try exact dI) only[hdC,push_cast,seval])
 ·exact⟨by simp,by simp[nl]⟩
 ·rintro⟨i,l⟩ ⟨h1,h2⟩
  simp only at h1 h2
  by_cases hi:i<t.length
  ·obtain⟨x,hx1⟩:∃ x,t[i]? = some x:=⟨_,Vg hi⟩
   have hll:l.length<=20000:=by rw[h2,kF,List.length_take];omega
   have hxl:=x.toNat_lt
   obtain⟨u,hu⟩:∃ u,x.toNat / 16=u:=⟨_,rfl⟩
   obtain⟨v,hv⟩:∃ v,x.toNat % 16=v:=⟨_,rfl⟩
   have hs4:=UK x hu
   have ha15:=TK x hv
   have gu:=Km (u:=u) (by omega)
   have gv:=Km (u:=v) (by omega)
   unfold FZ at gu gv
   have hn:nl (t.take (i+1))=l++[hx u,hx v]:=by rw[aD hx1,pd,<- h2,hu,hv]
   cases l with
   | nil=>
     have hW1:=(ig false [] (hx u) (by simp))
     have hW2:=(ig true [hx u] (hx v) (by simp))
     simp only[bB,aB,VB,VF] at hW1 hW2
     simp(disch:=try exact dI) only[hdC,hx1,am,hs4,gu,push_cast,seval]
     refine ab.lentK hW1 [1] rfl qsZ qsZ ?_
     simp(disch:=try exact dI) only[hx1,am,ha15,gv,push_cast,seval]
     refine ab.lentK hW2 [1,3] rfl qsZ qsZ ?_
     refine zgZ ?_
     exact⟨(i+1,[hx u,hx v]),aI (by simp(disch:=try exact dI) only[hdC,push_cast,seval]),⟨by simp only;omega,hn.symm⟩,by simp only;omega⟩
   | cons b r=>
     have hW1:=ig true (b::r) (hx u) (by simp only[List.length_cons] at hll ⊢;omega)
     have hW2:=ig true (b::(r++[hx u])) (hx v) (by simp at hll ⊢;omega)
     simp only[bB,aB,VB,VF] at hW1 hW2
     simp(disch:=try exact dI) only[hdC,hx1,am,hs4,gu,push_cast,seval]
     refine ab.lentK hW1 [1,2] rfl qsZ qsZ ?_
     simp(disch:=try exact dI) only[hx1,am,ha15,gv,push_cast,seval]
     refine ab.lentK hW2 [1,4] rfl qsZ qsZ ?_
     refine zgZ ?_
     exact⟨(i+1,b::(r++[hx u]++[hx v])),aI (by simp(disch:=try exact dI) only[hdC,push_cast,seval]),⟨by simp only;omega,by rw[hn];simp⟩,by simp only;omega⟩
  ·have he2:t.take i=t:=List.take_of_length_le (by omega)
   rw[he2,hb] at h2
   cases l with
   | nil=>
     simp(disch:=try exact dI) only[hdC,push_cast,seval]
     exact⟨[],aI (by simp(disch:=try exact dI) only[exC,push_cast,seval]),h2⟩
   | cons b r=>
     simp(disch:=try exact dI) only[hdC,push_cast,seval]
     exact⟨b::r,aI (by simp(disch:=try exact dI) only[exC,push_cast,seval]),h2⟩
 ·rintro l rfl
  cases l with
  | nil=>
    have hSt:=ld false [] (by simp)
    simp only[bB,aB,stB] at hSt
    simp(disch:=try exact dI) only[exC,push_cast,seval]
    refine ab.lentK hSt [0] rfl qsZ qsZ ?_
    exact qsZ
  | cons b r=>
    have hSt:=ld true (b::r) (by omega)
    simp only[bB,aB,stB] at hSt
    simp(disch:=try exact dI) only[exC,push_cast,seval]
    refine ab.lentK hSt [0,1] rfl qsZ qsZ ?_
    exact qsZ
theorem uX:∀ (n:Nat) (a:Val),dep n a->ae Tryz.prog aq 15 [a.pv,a.pv] (.bool true)
 | 0,a,h=>h.elim
 | n+1,a,hd=>by
   have ih:=uX n
   obtain⟨w1,w2,w3,w4,w5,w6⟩:=a
   simp only[dep,Val.lst,Val.fields,Val.text] at hd
   obtain⟨d1,d2,d3,d4,d5⟩:=hd
   refine ae.intro Q15.2 (by simp[Q15]) ?_
   simp(disch:=try exact dI) only[Q15,Vf,push_cast,seval]
   refine ap ([]) (fun m:Nat=>[(5,.pv (.int .i64 (m:Int)))]) (fun m=>[]) (fun m=>m<=w5.length) (fun m=>w5.length - m) (0) ?_;intro e0 σ0 n0 h0;simp(disch:=try exact dI) only[push_cast,seval] at h0;obtain⟨rfl,rfl,rfl⟩:=h0;refine⟨?_,?_,?_⟩
   ·exact qsZ
   ·omega
   ·intro m hm
    by_cases hlt:m<w5.length
    ·have hltI:(m:Int)<w5.length:=by omega
     obtain⟨x,hx⟩:∃ x,w5[m]? = some x:=⟨_,Vg hlt⟩
     have hcall:=ih x (d4 x (Vk hx))
     obtain⟨z1,z2,z3,z4,z5,z6⟩:=x
     simp only[Vf] at hcall
     simp(disch:=try exact dI) only[hx,Vf,push_cast,seval]
     refine ab.pure hcall rfl ?_
     refine zgZ ?_
     exact⟨m+1,aI qsZ,by omega,by omega⟩
    ·have hltI:¬ (m:Int)<w5.length:=by omega
     refine zgZ ?_
     refine ap ([]) (fun m:Nat=>[(6,.pv (.int .i64 (m:Int)))]) (fun m=>[]) (fun m=>m<=w6.length) (fun m=>w6.length - m) (0) ?_;intro e0 σ0 n0 h0;simp(disch:=try exact dI) only[push_cast,seval] at h0;obtain⟨rfl,rfl,rfl⟩:=h0;refine⟨?_,?_,?_⟩
     ·exact qsZ
     ·omega
     ·intro m hm
      by_cases hlt:m<w6.length
      ·have hltI:(m:Int)<w6.length:=by omega
       obtain⟨x,hx⟩:∃ x,w6[m]? = some x:=⟨_,Vg hlt⟩
       have hcall:=ih x.value (d5 x (Vk hx)).2
       obtain⟨z0,⟨z1,z2,z3,z4,z5,z6⟩⟩:=x
       simp only[Fld.value,Vf] at hcall
       simp(disch:=try exact dI) only[hx,U3,Vf,push_cast,seval]
       refine ab.pure hcall rfl ?_
       refine zgZ ?_
       exact⟨m+1,aI qsZ,by omega,by omega⟩
      ·have hltI:¬ (m:Int)<w6.length:=by omega
       exact qsZ
variable {n:Nat}{fs:List TFd}{x:Fld}
theorem LA (t:Typ)(ht:t.ok):ae Tryz.prog aq 11 [t.pv] (a8 3 t).pv:=by
 have h:=sI 3 (by omega) t ht
 rw[show ((3:Nat):Int)=3 from rfl] at h
 generalize a8 3 t=u at *
 obtain⟨k1,a1,b1,c1,w1,e1,f1⟩:=t
 obtain⟨k2,a2,b2,c2,w2,e2,f2⟩:=u
 simp only[Vd] at h ⊢
 refine ae.intro Q11.2 (by simp[Q11]) ?_
 simp(disch:=try exact dI) only[Q11,push_cast,seval]
 refine ab.pure h rfl ?_
 exact qsZ
theorem Jh {t:Typ}{s:List UInt8}(hl:s.length<=5000)(ht:eK 1 t)(hk:nj t.kind=true)(ho:(rdQ t.kind s).2=true)(hm:(aO 1 t (bm t.kind (rdQ t.kind s).1) []).isEmpty=true) :
  ae Tryz.prog aq 16 [t.pv,(bm t.kind (rdQ t.kind s).1).pv] (.tup [.str s,.int .i64 0]):=by
 rw[dQ] at hk
 obtain⟨k,a,b,c,w,e,f⟩:=t
 simp only[Typ.kind] at hk ho hm ⊢
 have hc:k=1\/k=2\/k=3\/k=4\/k=5\/k=6\/k=7:=by omega
 rcases hc with rfl | rfl | rfl | rfl | rfl | rfl | rfl
 ·exact Ax s hl ht ho hm
 ·exact Aw s hl ht ho hm
 ·exact Av s hl ht ho hm
 ·exact Au s hl ht ho hm
 ·exact At s hl ht ho hm
 ·exact As s hl ht ho hm
 ·exact Ar s hl ht ho hm
theorem IG {G G':Nat->List PV}(key:∀ g,G g≠[]->G' g=G g){w:World}{imm:Nat->Nat->Prop}(h:bG G' w imm):bG G w imm:=by
 refine⟨fun g o p hp=>h.1 g o p ?_,fun g hg=>?_⟩
 ·rw[key g (by intro e;rw[e] at hp;simp at hp)];exact hp
 ·rw[<- key g hg]
  exact h.2 g (by rw[key g hg];exact hg)
theorem vw {G G':Nat->List PV}(key:∀ g,G g≠[]->G' g=G g){f:Nat}{args:List PV}{r:PV}(h:ae Tryz.prog G f args r):ae Tryz.prog G' f args r:=
 ⟨h.1,fun w imm vals hG=>h.2 w imm vals (IG key hG)⟩
def kv (m:Int)(T:Nat)(p:PV):Nat->List PV:=fun g=>if g=0 then [.int .i64 m] else pF T p g
section
variable {m:Int}{T:Nat}{p:PV}{f:Nat}{args:List PV}{r:PV}
theorem xE (h:ae Tryz.prog (pF T p) f args r):ae Tryz.prog (kv m T p) f args r:=by
 refine vw (fun g hg=>?_) h
 unfold kv
 by_cases h0:g=0
 ·subst h0;exact absurd rfl hg
 ·rw[if_neg h0]
theorem xG (h:ae Tryz.prog aq f args r):ae Tryz.prog (kv m T p) f args r:=xE (toE h)
theorem xM (h:ae Tryz.prog (m6 m) f args r):ae Tryz.prog (kv m T p) f args r:=by
 refine vw (fun g hg=>?_) h
 unfold kv m6 at *
 by_cases h0:g=0
 ·rw[if_pos h0,if_pos h0]
 ·rw[if_neg h0,if_neg h0]
  rw[if_neg h0] at hg
  unfold pF
  by_cases h1:g=1
  ·subst h1;exact absurd rfl hg
  ·rw[if_neg h1]
end
def aX (v:Val):List Val:=if v.kind=8\/v.kind=10 then v.lst else if v.kind=9 then v.fields.map Fld.value else []
theorem cg {v:Val}(h:v.kind=8\/v.kind=10):aX v=v.lst:=if_pos h
theorem dv {v:Val}(h:v.kind=9):aX v=v.fields.map Fld.value:=by unfold aX;rw[if_neg (by omega),if_pos h]
theorem eu {v:Val}(h:¬ (v.kind=8\/v.kind=10))(h9:¬ v.kind=9):aX v=[]:=by unfold aX;rw[if_neg h,if_neg h9]
theorem HD (v:Val)(hf:v.fields.length*104<=140737488351232):ae Tryz.prog aq 294 [v.pv] (.list ((aX v).map Val.pv)):=by
 obtain⟨k,n,s,t,l,fs⟩:=v
 simp only[Val.fields] at hf
 by_cases h8:k=8\/k=10
 ·rw[cg (v:=.mk k n s t l fs) h8]
  simp only[Val.lst]
  rcases h8 with rfl | rfl
  ·refine ae.intro AY.2 (by simp[AY]) ?_
   simp(disch:=try exact dI) only[AY,Vf,push_cast,seval]
  ·refine ae.intro AY.2 (by simp[AY]) ?_
   simp(disch:=try exact dI) only[AY,Vf,push_cast,seval]
 ·by_cases h9:k=9
  ·subst h9
   rw[dv (v:=.mk 9 n s t l fs) rfl]
   simp only[Val.fields]
   refine ae.intro AY.2 (by simp[AY]) ?_
   simp(disch:=try exact dI) only[AY,Vf,push_cast,seval]
   refine ap ([(3,0,31,6)]) (fun i:Nat=>[(3,.olist 0 6 (((fs.take i).map Fld.value).map Val.pv)),(18,.pv (.int .i64 (i:Int)))]) (fun _=>[]) (fun i=>i<=fs.length) (fun i=>fs.length - i) (0) ?_;intro e0 σ0 n0 h0;simp(disch:=try exact dI) only[push_cast,seval] at h0;obtain⟨rfl,rfl,rfl⟩:=h0;refine⟨?_,?_,?_⟩
   ·exact qsZ
   ·omega
   rintro i hi
   by_cases hlt:i<fs.length
   ·have hltI:(i:Int)<(fs.length:Int):=by omega
    obtain⟨c,hc⟩:∃ c,fs[i]? = some c:=⟨_,Vg hlt⟩
    have hts:=aD hc
    obtain⟨nm,⟨k',n',s',t',l',f'⟩⟩:=c
    have hcp:(fs.map Fld.pv)[i]? = some (.agg [.str nm,.int .i64 k',.int .i64 n',.int .i64 s',.str t',.list (l'.map Val.pv),.list (f'.map Fld.pv)]):=by simp[hc,U3,Vf,ag]
    simp(disch:=try exact dI) only[hcp,push_cast,seval]
    exact⟨i+1,aI (by simp(disch:=try exact dI) only[hts,List.map_append,Fld.value,Vf,push_cast,seval]),by omega,by omega⟩
   ·have he:i=fs.length:=by omega
    subst he
    simp(disch:=try exact dI) only[List.take_length,oU,push_cast,seval]
  ·rw[eu (v:=.mk k n s t l fs) h8 h9]
   refine ae.intro AY.2 (by simp[AY]) ?_
   have e1:¬ k=8:=by omega
   have e2:¬ k=10:=by omega
   simp(disch:=try exact dI) only[AY,Vf,push_cast,seval]

/- A part of the proof. -/
import Derived.Test.YtbojpfpliibfbaaGreatDoorEnRSh5
set_option maxHeartbeats 16000000
set_option maxRecDepth 100000
set_option linter.unusedVariables false
set_option linter.unusedSimpArgs false
-- many steps
namespace Go.Proofs.YtbojpfpliibfbaaGreatDoor
open Go Go.Ab
attribute [local irreducible] vc
theorem J1 (k m M s:Int)(w:List (List UInt8))(e:List Typ)(f:List TFd)(ho:bm (.mk k m M s w e f)=0)(ht:(Typ.mk k m M s w e f).ok)(hk:1<=k/\k<=7):am Tryz.prog az 30 [(Typ.mk k m M s w e f).pv] (.int .i64 (eW (.mk k m M s w e f))):=by
 rw[Typ.ok_mk] at ht
 have hwl:w.length<=9000000000000:=by omega
 clear ht
 by_cases h23:k=2\/k=3
 ·obtain⟨sc,rfl,hm,hM⟩:=pU ho h23
  have h1:=mF (k:=k) (m:=m) (M:=M) (w:=w) (e:=e) (f:=f) hm
  have h2:=mF (k:=k) (m:=m) (M:=M) (w:=w) (e:=e) (f:=f) hM
  rw[show eW (.mk k m M (sc:Int) w e f)=max ((gW m sc).length:Int) ((gW M sc).length:Int) by simp only[eW,if_pos h23,Int.toNat_natCast]]
  generalize gW m sc=a at *
  generalize gW M sc=b at *
  simp only[Typ.pv_mk] at h1 h2
  refine am.intro Q30.2 (by simp[Q30]) ?_
  rcases h23 with rfl | rfl
  ·simp(disch:=try exact dI) only[Q30,Typ.pv_mk,push_cast,seval]
   refine ap h1 rfl ?_
   refine zgZ ?_
   refine ap h2 rfl ?_
   exact qsZ
  ·simp(disch:=try exact dI) only[Q30,Typ.pv_mk,push_cast,seval]
   refine ap h1 rfl ?_
   refine zgZ ?_
   refine ap h2 rfl ?_
   exact qsZ
 by_cases h4:k=4
 ·subst h4
  rw[show eW (.mk 4 m M s w e f)=max (mb w M) 1 from rfl,<- rc]
  refine am.intro Q30.2 (by simp[Q30]) ?_
  simp(disch:=try exact dI) only[Q30,Typ.pv_mk,push_cast,seval]
  refine au ([]) (fun i:Nat=>[(3,.pv (.int .i64 (mb (w.take i) (max 1 M)))),(4,.pv (.int .i64 (i:Int)))]) (fun _=>[]) (fun i=>i<=w.length) (fun i=>w.length - i) (0) ?_;intro e0 σ0 n0 h0;simp(disch:=try exact dI) only[push_cast,seval] at h0;obtain⟨rfl,rfl,rfl⟩:=h0;refine⟨?_,?_,?_⟩
  ·simp(disch:=try exact dI) only[List.take_zero,mb,List.foldl_nil,push_cast,seval]
  ·omega
  rintro i hi
  by_cases hlt:i<w.length
  ·have hltI:(i:Int)<(w.length:Int):=by omega
   obtain⟨x,hx⟩:∃ x,w[i]? = some x:=⟨_,List.getElem?_eq_getElem hlt⟩
   have hst:=nw hx (max 1 M)
   simp(disch:=try exact dI) only[hx,Option.map_some,push_cast,seval]
   exact⟨i+1,aM (by simp(disch:=try exact dI) only[hst,push_cast,seval]),by omega,by omega⟩
  ·obtain rfl:i=w.length:=by omega
   rw[List.take_length]
   simp(disch:=try exact dI) only[Int.lt_irrefl,push_cast,seval]
 by_cases h5:k=5
 ·subst h5
  have hM:=pT ho
  rw[show eW (.mk 5 m M s w e f)=max (2*M) 1 from rfl,Int.max_comm]
  refine am.intro Q30.2 (by simp[Q30]) ?_
  simp(disch:=try exact dI) only[Q30,Typ.pv_mk,push_cast,seval]
 by_cases h6:k=6
 ·subst h6
  rw[show eW (.mk 6 m M s w e f)=10 from rfl]
  refine am.intro Q30.2 (by simp[Q30]) ?_
  simp(disch:=try exact dI) only[Q30,Typ.pv_mk,push_cast,seval]
 by_cases h7:k=7
 ·subst h7
  rw[show eW (.mk 7 m M s w e f)=24 from rfl]
  refine am.intro Q30.2 (by simp[Q30]) ?_
  simp(disch:=try exact dI) only[Q30,Typ.pv_mk,push_cast,seval]
 ·obtain rfl:k=1:=by omega
  rw[show eW (.mk 1 m M s w e f)=1 from rfl]
  refine am.intro Q30.2 (by simp[Q30]) ?_
  simp(disch:=try exact dI) only[Q30,Typ.pv_mk,push_cast,seval]
end Go.Proofs.YtbojpfpliibfbaaGreatDoor
-- many steps
namespace Go.Proofs.YtbojpfpliibfbaaGreatDoor
open Go Go.Ab
attribute [local irreducible] vc
theorem ln {t:Typ}(h:ni t=0):tyV 8 t:=by
 unfold ni at h
 by_cases h0:(ci 0 8 4096 t).1=0
 ·exact fv 8 4096 t h0
 ·rw[if_neg h0] at h;exact absurd h h0
theorem lh {n:Nat}{t:Typ}(h:tyV n t):bm t=0:=by
 cases n with
 | zero=>exact h.elim
 | succ n=>obtain⟨k,m,M,s,w,e,f⟩:=t;exact h.1
theorem KH {n:Nat}{t:Typ}(h:tyV n t)(ht:t.ok)(hs:scB t.kind=true):am Tryz.prog az 35 [t.pv] (.int .i64 (eW t))/\am Tryz.prog az 30 [t.pv] (.int .i64 (eW t)):=by
 have ho:=lh h
 obtain⟨k,m,M,s,w,e,f⟩:=t
 have hk:1<=k/\k<=7:=by
  simp only[scB,Typ.kind,Bool.and_eq_true,decide_eq_true_eq] at hs
  exact⟨of_decide_eq_true hs.1,of_decide_eq_true hs.2⟩
 exact⟨G1 k m M s w e f ho ht hk,J1 k m M s w e f ho ht hk⟩
theorem dP {t:Typ}(h:eF t=true):t.kind=9/\0<t.fields.length/\∀ g∈t.fields,scB g.typ.kind=true:=by
 obtain⟨k,m,M,s,w,e,f⟩:=t
 simp only[eF,Bool.and_eq_true,decide_eq_true_eq,Bool.not_eq_true'] at h
 refine⟨h.1,h.2.1,fun g hg=>?_⟩
 have:=List.any_eq_false.1 h.2.2 g hg
 rw[A5] at this
 cases hb:scB g.typ.kind with
 | true=>rfl
 | false=>rw[hb] at this;exact absurd rfl this
theorem I1 {t:Typ}(h:ni t=0)(ht:t.ok)(hf:eF t=true):∀ g∈t.fields,am Tryz.prog az 35 [g.typ.pv] (.int .i64 (eW g.typ))/\am Tryz.prog az 30 [g.typ.pv] (.int .i64 (eW g.typ)):=fun g hg=>by
 have hty:=ln h
 obtain⟨h9,_,hs⟩:=dP hf
 have hsg:=hs g hg
 obtain⟨k,m,M,s,w,e,f⟩:=t
 rw[Typ.ok_mk] at ht
 exact KH (hty.2.2 (.inl h9) g hg).1 (dt (ht.2.2.2.2.2.2.2.2.2 g hg)).1 hsg
theorem eG {t:Typ}(h:flE t=0):ni t=0/\eF t=true:=by
 unfold flE at h
 by_cases hz:ni t=0
 ·rw[if_pos hz] at h
  cases hb:eF t with
  | true=>exact⟨hz,rfl⟩
  | false=>rw[hb,if_neg (by decide)] at h;cases h
 ·rw[if_neg hz] at h;exact absurd h hz
end Go.Proofs.YtbojpfpliibfbaaGreatDoor
-- many steps
namespace Go.Proofs.YtbojpfpliibfbaaGreatDoor
open Go Go.Ab
attribute [local irreducible] vc
theorem jA (s:List UInt8)(hs:s.length<=140737488351232):am Tryz.prog az 41 [.str s] (.bool (wrB s)):=by
 obtain⟨R,hR⟩:∃ R,R=wrB s:=⟨_,rfl⟩
 rw[<- hR]
 refine am.intro Q41.2 (by simp[Q41]) ?_
 simp(disch:=try exact dI) only[Q41,push_cast,seval]
 refine au ([]) (fun i:Nat=>[(3,.pv (.int .i64 (i:Int)))]) (fun _=>[]) (fun i=>i<=s.length/\(s.take i).any qr=false) (fun i=>s.length - i) (0) ?_;intro e0 σ0 n0 h0;simp(disch:=try exact dI) only[push_cast,seval] at h0;obtain⟨rfl,rfl,rfl⟩:=h0;refine⟨?_,?_,?_⟩
 ·exact qsZ
 ·exact⟨by omega,by simp⟩
 rintro i ⟨hi,hn⟩
 by_cases hlt:i<s.length
 ·have hltI:(i:Int)<(s.length:Int):=by omega
  obtain⟨c,hc⟩:∃ c,s[i]? = some c:=⟨_,List.getElem?_eq_getElem hlt⟩
  by_cases h:c.toNat<32
  ·have hI:(c.toNat:Int)<32:=by omega
   have:R=false:=by
    rw[hR,wrB,List.any_eq_true.2 ⟨c,List.mem_of_getElem? hc,by simp[qr,h]⟩];simp
   subst this
   simp(disch:=try exact dI) only[hc,hI,push_cast,seval]
  ·have hI:¬ (c.toNat:Int)<32:=by omega
   have hsn:(s.take (i+1)).any qr=false:=by rw[aK hc,List.any_append,hn];simp[qr,h]
   simp(disch:=try exact dI) only[hc,hI,push_cast,seval]
   exact⟨i+1,aM qsZ,⟨by omega,hsn⟩,by omega⟩
 ·obtain rfl:i=s.length:=by omega
  rw[List.take_length] at hn
  have hR2:R=!wk s:=by rw[hR,wrB,hn];simp
  subst hR2
  by_cases h0:s=[]
  ·subst h0
   rw[show wk []=false from rfl]
   simp(disch:=try exact dI) only[Int.lt_irrefl,push_cast,seval]
  ·have hp:0<s.length:=List.length_pos_iff.2 h0
   obtain⟨q,hq⟩:∃ q,s.length=q+1:=⟨s.length - 1,by omega⟩
   obtain⟨c,hc⟩:∃ c,s[q]? = some c:=⟨_,List.getElem?_eq_getElem (by omega)⟩
   have hE:wk s=decide (c=32):=by unfold wk;rw[hq,Nat.add_sub_cancel,hc];simp
   rw[hE]
   by_cases h:c=32
   ·subst h
    rw[decide_eq_true rfl]
    simp(disch:=try exact dI) only[Int.lt_irrefl,h0,hq,Int.add_sub_cancel,hc,push_cast,seval]
   ·rw[decide_eq_false h]
    have hcI:¬ (c.toNat:Int)=32:=by
     intro h'
     exact h (UInt8.toNat_inj.1 (by have:(32:UInt8).toNat=32:=rfl;omega))
    simp(disch:=try exact dI) only[Int.lt_irrefl,h0,hq,Int.add_sub_cancel,hc,hcI,push_cast,seval]
def kT (s:List UInt8):Bool:=!wrB s
theorem OO (s:List UInt8)(hs:s.length<=140737488351232):am Tryz.prog az 38 [.str s] (.bool (kT s)):=by
 have h:=nu s hs
 unfold kT
 generalize wrB s=b at *
 refine am.intro Q38.2 (by simp[Q38]) ?_
 simp(disch:=try exact dI) only[Q38,push_cast,seval]
 refine ab.pure h rfl ?_
 exact qsZ
theorem IU (l:List (List UInt8))(hw:∀ x∈l,x.length<=140737488351232)(hl:l.length<=9000000000000):am Tryz.prog az 76 [.list (l.map PV.str),.clo 38 [] []] (.int .i64 (d7 kT l 0)):=by
 refine am.intro Q76.2 (by simp[Q76]) ?_
 simp(disch:=try exact dI) only[Q76,push_cast,seval]
 refine au ([]) (fun m:Nat=>[(8,.pv (.int .i64 (m:Int)))]) (fun m=>[]) (fun m=>m<=l.length/\d7 kT l 0=d7 kT (l.drop m) m) (fun m=>l.length - m) (0) ?_;intro e0 σ0 n0 h0;simp(disch:=try exact dI) only[push_cast,seval] at h0;obtain⟨rfl,rfl,rfl⟩:=h0;refine⟨?_,?_,?_⟩
 ·exact qsZ
 ·exact⟨by omega,by simp⟩
 ·rintro m ⟨hm,he⟩
  by_cases hlt:m<l.length
  ·have hltI:(m:Int)<l.length:=by omega
   obtain⟨x,hx⟩:∃ x,l[m]? = some x:=⟨_,List.getElem?_eq_getElem hlt⟩
   have hcall:=OO x (hw x (List.mem_of_getElem? hx))
   simp(disch:=try exact dI) only[hx,Option.map_some,push_cast,seval]
   refine ab.pure hcall rfl ?_
   cases hqx:kT x with
   | true=>
     rw[he,dX hx hqx]
     exact qsZ
   | false=>
     rw[cQ hx hqx] at he
     refine zgZ ?_
     exact⟨m+1,aM qsZ,⟨by omega,he⟩,by omega⟩
  ·have hltI:¬ (m:Int)<l.length:=by omega
   rw[he,dY hlt]
   exact qsZ
theorem vB (l:List (List UInt8))(hw:∀ x∈l,x.length<=140737488351232)(hl:l.length<=9000000000000):am Tryz.prog az 37 [.list (l.map PV.str),.clo 38 [] []] (.bool (l.any kT)):=by
 have h94:=IU l hw hl
 have hfa:=eI (p:=kT) l
 refine am.intro Q37.2 (by simp[Q37]) ?_
 rcases bx (p:=kT) l 0 with ⟨h1,h2⟩ | ⟨k,x,h1,h2,h3⟩
 ·rw[h2] at h94
  rw[h1] at hfa
  rw[<- hfa]
  simp(disch:=try exact dI) only[Q37,push_cast,seval]
  refine ab.pure h94 rfl ?_
  refine zgZ ?_
  exact .refl _
 ·rw[h3] at h94
  rw[h2] at hfa
  rw[<- hfa]
  have hk:(0:Int)<=((0+k:Nat):Int):=by omega
  generalize ((0+k:Nat):Int)=z at *
  simp(disch:=try exact dI) only[Q37,push_cast,seval]
  refine ab.pure h94 rfl ?_
  refine zgZ ?_
  exact .refl _
def cD:Typ->Bool
 | .mk k m _ _ w _ _=>if k=4/\0<w.length then w.any fun x=>decide (x=[]) else (decide (k=4)||decide (k=5))&&decide (m=0)
theorem Jg (k m M s:Int)(w:List (List UInt8))(e:List Typ)(f:List TFd)(hw:w.length<=9000000000000):am Tryz.prog az 36 [(Typ.mk k m M s w e f).pv] (.bool (cD (.mk k m M s w e f))):=by
 have hc:=fL w [] hw
 refine am.intro Q36.2 (by simp[Q36]) ?_
 by_cases h4:k=4
 ·subst h4
  by_cases h0:0<w.length
  ·have h0I:(0:Int)<(w.length:Int):=by omega
   rw[show cD (.mk 4 m M s w e f)=w.any fun x=>decide (x=[]) from if_pos ⟨rfl,h0⟩]
   generalize (w.any fun x=>decide (x=[]))=b at hc ⊢
   simp(disch:=try exact dI) only[Q36,Typ.pv_mk,h0I,push_cast,seval]
   refine ab.pure hc rfl ?_
   exact qsZ
  ·have h0I:¬ (0:Int)<(w.length:Int):=by omega
   rw[show cD (.mk 4 m M s w e f)=decide (m=0) by simp only[cD];rw[if_neg (fun h=>h0 h.2)];simp]
   by_cases hm:m=0
   ·rw[decide_eq_true hm]
    simp(disch:=try exact dI) only[Q36,Typ.pv_mk,h0I,hm,push_cast,seval]
   ·rw[decide_eq_false hm]
    simp(disch:=try exact dI) only[Q36,Typ.pv_mk,h0I,hm,push_cast,seval]
 ·by_cases h5:k=5
  ·subst h5
   rw[show cD (.mk 5 m M s w e f)=decide (m=0) by simp only[cD];rw[if_neg (fun h=>h4 h.1)];simp]
   by_cases hm:m=0
   ·rw[decide_eq_true hm]
    simp(disch:=try exact dI) only[Q36,Typ.pv_mk,hm,push_cast,seval]
   ·rw[decide_eq_false hm]
    simp(disch:=try exact dI) only[Q36,Typ.pv_mk,hm,push_cast,seval]
  ·rw[show cD (.mk k m M s w e f)=false by simp only[cD];rw[if_neg (fun h=>h4 h.1)];simp[h4,h5]]
   simp(disch:=try exact dI) only[Q36,Typ.pv_mk,h4,h5,push_cast,seval]
theorem yJ {k m M s:Int}{w:List (List UInt8)}{e:List Typ}{f:List TFd}(h:bm (.mk k m M s w e f)=0)(h4:¬ k=4):w.length=0:=by
 have hf:=mB h
 simp only[aY,aw,Bool.or_eq_false_iff] at hf
 have:=hf.2.2.1
 rw[decide_eq_false h4] at this
 simpa using this
theorem Kb (k m M s:Int)(w:List (List UInt8))(e:List Typ)(f:List TFd)(hw:w.length<=9000000000000)(h:bm (.mk k m M s w e f)=0):am Tryz.prog az 40 [(Typ.mk k m M s w e f).pv] (.bool (cD (.mk k m M s w e f))):=by
 have hwd:=yJ h
 obtain⟨R,hR⟩:∃ R,R=cD (.mk k m M s w e f):=⟨_,rfl⟩
 rw[<- hR]
 refine am.intro Q40.2 (by simp[Q40]) ?_
 by_cases h45:k=4\/k=5
 ·have hR0:w.length=0->R=decide (m=0):=fun h0=>by
   rw[hR];simp only[cD]
   rw[if_neg (by omega)]
   rcases h45 with rfl | rfl<;>simp
  have hR1:0<w.length->R=w.any fun x=>decide (x=[]):=fun h0=>by
   rw[hR];simp only[cD]
   rw[if_pos ⟨Decidable.byContradiction fun h4=>by have:=hwd h4;omega,h0⟩]
  clear hwd hR h
  have key:∀ (kk:Int),(kk=4\/kk=5)->k=kk->True:=fun _ _ _=>trivial
  rcases h45 with rfl | rfl
  ·simp(disch:=try exact dI) only[Q40,Typ.pv_mk,push_cast,seval]
   refine au ([]) (fun i:Nat=>[(3,.pv (.int .i64 (i:Int)))]) (fun _=>[]) (fun i=>i<=w.length/\((w.take i).any fun x=>decide (x=[]))=false) (fun i=>w.length - i) (0) ?_;intro e0 σ0 n0 h0;simp(disch:=try exact dI) only[push_cast,seval] at h0;obtain⟨rfl,rfl,rfl⟩:=h0;refine⟨?_,?_,?_⟩
   ·exact qsZ
   ·exact⟨by omega,by simp⟩
   rintro i ⟨hi,hn⟩
   by_cases hlt:i<w.length
   ·have hltI:(i:Int)<(w.length:Int):=by omega
    obtain⟨x,hx⟩:∃ x,w[i]? = some x:=⟨_,List.getElem?_eq_getElem hlt⟩
    by_cases hxe:x=[]
    ·have:R=true:=by rw[hR1 (by omega)];exact List.any_eq_true.2 ⟨x,List.mem_of_getElem? hx,by simp[hxe]⟩
     subst this
     subst hxe
     simp(disch:=try exact dI) only[hx,Option.map_some,push_cast,seval]
    ·have hsn:((w.take (i+1)).any fun x=>decide (x=[]))=false:=by rw[aK hx,List.any_append,hn];simp[hxe]
     simp(disch:=try exact dI) only[hx,Option.map_some,hxe,push_cast,seval]
     exact⟨i+1,aM qsZ,⟨by omega,hsn⟩,by omega⟩
   ·obtain rfl:i=w.length:=by omega
    rw[List.take_length] at hn
    by_cases h0:w.length=0
    ·rw[hR0 h0]
     by_cases hm:m=0
     ·rw[decide_eq_true hm]
      simp(disch:=try exact dI) only[Int.lt_irrefl,h0,hm,push_cast,seval]
     ·rw[decide_eq_false hm]
      simp(disch:=try exact dI) only[Int.lt_irrefl,h0,hm,push_cast,seval]
    ·have h0I:¬ (w.length:Int)=0:=by omega
     have:R=false:=by rw[hR1 (by omega)];exact hn
     subst this
     simp(disch:=try exact dI) only[Int.lt_irrefl,h0I,push_cast,seval]
  ·simp(disch:=try exact dI) only[Q40,Typ.pv_mk,push_cast,seval]
   refine au ([]) (fun i:Nat=>[(3,.pv (.int .i64 (i:Int)))]) (fun _=>[]) (fun i=>i<=w.length/\((w.take i).any fun x=>decide (x=[]))=false) (fun i=>w.length - i) (0) ?_;intro e0 σ0 n0 h0;simp(disch:=try exact dI) only[push_cast,seval] at h0;obtain⟨rfl,rfl,rfl⟩:=h0;refine⟨?_,?_,?_⟩
   ·exact qsZ
   ·exact⟨by omega,by simp⟩
   rintro i ⟨hi,hn⟩
   by_cases hlt:i<w.length
   ·have hltI:(i:Int)<(w.length:Int):=by omega
    obtain⟨x,hx⟩:∃ x,w[i]? = some x:=⟨_,List.getElem?_eq_getElem hlt⟩
    by_cases hxe:x=[]
    ·have:R=true:=by rw[hR1 (by omega)];exact List.any_eq_true.2 ⟨x,List.mem_of_getElem? hx,by simp[hxe]⟩
     subst this
     subst hxe
     simp(disch:=try exact dI) only[hx,Option.map_some,push_cast,seval]
    ·have hsn:((w.take (i+1)).any fun x=>decide (x=[]))=false:=by rw[aK hx,List.any_append,hn];simp[hxe]
     simp(disch:=try exact dI) only[hx,Option.map_some,hxe,push_cast,seval]
     exact⟨i+1,aM qsZ,⟨by omega,hsn⟩,by omega⟩
   ·obtain rfl:i=w.length:=by omega
    rw[List.take_length] at hn
    by_cases h0:w.length=0
    ·rw[hR0 h0]
     by_cases hm:m=0
     ·rw[decide_eq_true hm]
      simp(disch:=try exact dI) only[Int.lt_irrefl,h0,hm,push_cast,seval]
     ·rw[decide_eq_false hm]
      simp(disch:=try exact dI) only[Int.lt_irrefl,h0,hm,push_cast,seval]
    ·have h0I:¬ (w.length:Int)=0:=by omega
     have:R=false:=by rw[hR1 (by omega)];exact hn
     subst this
     simp(disch:=try exact dI) only[Int.lt_irrefl,h0I,push_cast,seval]
 ·have h4:¬ k=4:=fun h=>h45 (.inl h)
  have h5:¬ k=5:=fun h=>h45 (.inr h)
  have:R=false:=by rw[hR];simp only[cD];rw[if_neg (fun h=>h4 h.1)];simp[h4,h5]
  subst this
  simp(disch:=try exact dI) only[Q40,Typ.pv_mk,h4,h5,push_cast,seval]
open Go.RowKit Go.Shelf
attribute [local go_sem] Oper.semAt_some
def kY (w:List Nat)(i:Nat):Nat:=(w.take i).sum
def Bv (line:List UInt8)(w:List Nat)(i:Nat):List UInt8:=(line.take (kY w (i+1))).drop (kY w i)
def kZ (w:List Nat):List PV:=w.map fun (n:Nat)=>PV.int .i64 (n:Int)
def gY (line:List UInt8)(w:List Nat):List (List PV):=(List.range w.length).map fun i=>[.int .i64 (kY w i:Int),.str (Bv line w i)]
theorem Ij (w:List Nat):∀ i,kY w i<=w.sum:=fun i=>by
 unfold kY
 conv=>rhs;rw[<- List.take_append_drop i w]
 rw[List.sum_append];omega
theorem yA {w:List Nat}{i:Nat}{n:Nat}(h:w[i]? = some n):kY w (i+1)=kY w i+n:=by
 unfold kY;rw[aK h,List.sum_append];simp
theorem L6 {W:World}{imm:Nat->Nat->Prop}{p:PV}{u:Value}(hc:p.cells=[p])(h:PRel W imm (.eptr [p] 0 0) u):∃ b o v,u = .pointer (some ⟨b,o,none⟩)/\imm b o/\W.cell? ⟨b,o,none⟩=some v/\v.oneCell'=true/\PRel W imm p v:=by
 generalize hl:[p]=l at h
 cases h with
 | eptr _ b off c sz g _ _ h1 h2 h3 h4 h5 h6=>
   subst hl
   obtain⟨q1,q2,q3⟩:=h4 0 p 0 p rfl (by rw[hc];rfl)
   have q4:=h5 0 p 0 p rfl (by rw[hc];rfl)
   exact⟨b,off+0*sz+0,g 0 0,rfl,q1,q2,q3,q4⟩
theorem Br (line:List UInt8)(w:List Nat)(hs:w.sum<=line.length)(hl:line.length<=1000000)(hw:w.length<=1000000):Nr Tryz.prog az 104 [.eptr [.list (kZ w)] 0 0,.eptr [.str line] 0 0] (gY line w):=by
 refine⟨by kernel_rfl,fun W imm lbv l J Jx O hG himm hsz hlb hgrow hlt hround hJ=>?_⟩
 have hp:=hlb 0 _ rfl
 have hq:=hlb 1 _ rfl
 obtain⟨p,q,rfl⟩:∃ p q,lbv = #[p,q]:=by
  obtain⟨l⟩:=lbv
  match l,hsz with
  | [p,q],_=>exact⟨p,q,rfl⟩
 replace hp:PRel W imm (.eptr [.list (kZ w)] 0 0) p:=by simpa using hp
 replace hq:PRel W imm (.eptr [.str line] 0 0) q:=by simpa using hq
 obtain⟨b1,o1,v1,rfl,i1,c1,s1,r1⟩:=L6 rfl hp
 obtain⟨b2,o2,v2,rfl,i2,c2,s2,r2⟩:=L6 rfl hq
 obtain⟨rfl,_⟩:=mq r2
 simp only[List.append_toArray,List.cons_append,List.nil_append]
 refine callsIn_of_wp Tryz.func104 rfl trivial ?_ rfl
 simp only[Tryz.ntmps104,List.size_toArray,List.length_cons,List.length_nil,Nat.reduceAdd,Nat.reduceSub,Array.replicate_succ,Array.replicate_zero,List.push_toArray,List.append_toArray,List.nil_append,List.cons_append]
 generalize hL:kZ w=L at r1
 cases r1 with
 | lnil A c hc=>
   have hw0:w=[]:=by cases w with
    | nil=>rfl
    | cons x r=>simp[kZ] at hL
   subst hw0
   gi_wp2
   gi_loopw [9] (fun p wr=>p = .int .i64 0/\wr=W) (fun p wr=>0)
   case atStart=>exact⟨rfl,rfl⟩
   case round=>
    obtain⟨rfl,rfl⟩:=hrel
    gi_wp2
    go_end0
    exact⟨⟨_,rfl⟩,.inl ⟨_,hJ⟩⟩
 | list _ b3 off3 c3 sz3 g3 k1 k2 k3 k4 k5=>
   subst hL
   have hel:∀ (i n:Nat),w[i]? = some n->imm b3 (off3+i)/\W.cell? ⟨b3,off3+i,none⟩=some (.int .i64 (n:Int)):=fun i n hn=>by
    have hx:(kZ w)[i]? = some (.int .i64 (n:Int)):=by simp[kZ,hn]
    have hz:sz3=1:=(k3 i _ hx).symm
    subst hz
    obtain⟨q1,q2,q3⟩:=k4 i _ 0 _ hx rfl
    have q4:=k5 i _ 0 _ hx rfl
    generalize g3 i 0=u at q2 q4
    cases q4
    exact⟨by simpa using q1,by simpa using q2⟩
   have hlen:(kZ w).length=w.length:=by simp[kZ]
   rw[hlen] at c1 k1
   clear k3 k4 k5 hp hq r2 hlb
   gi_wp2
   gi_loopw [4,9] (fun p4 p9 wr=>∃ (k:Nat) (O':Nat->Nat->Prop),p4 = .int .i64 (kY w k:Int)/\p9 = .int .i64 (k:Int)/\k<=w.length/\J k O' wr/\Kept imm O' W wr/\nh wr) (fun p4 p9 wr=>w.length - (intOf p9).toNat)
   case atStart=>exact⟨0,O,rfl,rfl,Nat.zero_le _,hJ,⟨Nat.le_refl _,fun b o hb=>(himm b o hb).2,fun _ _ _ _ h=>h⟩,hG.2⟩
   case round=>
    obtain⟨k,O',rfl,rfl,hk,hJk,hKk,hGk⟩:=hrel
    by_cases hlt':k<w.length
    ·obtain⟨n,hn⟩:∃ n,w[k]? = some n:=⟨_,List.getElem?_eq_getElem hlt'⟩
     obtain⟨i3,c3'⟩:=hel k n hn
     have w3:=hKk.cell _ _ _ i3 c3'
     have w2:=hKk.cell _ _ _ i2 c2
     have hkI:(k:Int)<(w.length:Int):=by omega
     have hk0:(0:Int)<=(k:Int):=by omega
     have hst:=yA hn
     have hle:=Ij w (k+1)
     have hsl:=fun (w':World)=>run_slice_string (P:=Tryz.prog) w' 9 (⟨line.toArray⟩:ByteArray) .i64 .i64 (kY w k:Int) ((kY w k:Int)+(n:Int)) Tryz.underlying9 (by omega) (by omega) (by simp[ByteArray.size];omega)
     have hx:(gY line w)[k]? = some [.int .i64 (kY w k:Int),.str (Bv line w k)]:=by simp[gY,hlt']
     have he:(ByteArray.extract ⟨line.toArray⟩ (kY w k) (kY w k+n)).data.toList=Bv line w k:=by
      simp only[ByteArray.data_extract,Array.toList_extract,List.extract_eq_take_drop,Bv,hst,List.drop_take]
     have hstr:PRel wr imm (.str (Bv line w k)) (.string (ByteArray.extract ⟨line.toArray⟩ (kY w k) (kY w k+n))):=by
      rw[<- he]
      exact .str _ (by simp[ByteArray.size,ByteArray.data_extract];unfold maxLen;omega)
     obtain⟨fn,tmps,assign,body,hy,hR⟩:=hround 0 k _ O' wr #[.int .i64 (kY w k:Int),.string (ByteArray.extract ⟨line.toArray⟩ (kY w k) (kY w k+n))] imm imm hJk hx rfl (fun j y hy=>by
      match j,hy with
      | 0,hy=>simp at hy;subst hy;exact .int _ _
      | 1,hy=>simp at hy;subst hy;exact hstr
      | j+2,hy=>simp at hy) (fun b o h=>.inl h) (fun b o h=>h) (fun b o hb=>⟨Nat.lt_of_lt_of_le (himm b o hb).1 hKk.size,hKk.out b o hb⟩)
     have hkw:wrap64 ((k:Int)+1)=((k+1:Nat):Int):=by unfold wrap64;omega
     have hpw:wrap64 ((kY w k:Int)+(n:Int))=(kY w (k+1):Int):=by rw[hst];unfold wrap64;omega
     have hmu:w.length - (intOf (.int .i64 (wrap64 ((k:Int)+1)))).toNat<w.length - (intOf (.int .i64 (k:Int))).toNat:=by
      rw[hkw]
      exact Nat.sub_lt_sub_left hlt' (Nat.lt_succ_self k)
     gi_wp2
     refine⟨rfl,hR.mono ?_⟩
     rintro e W2 (⟨rfl,⟨O2,hJ2,ho2⟩,hsz2,hc2,hG2⟩ | ⟨rfl,hx2⟩)
     ·have hK2:Kept imm O2 W W2:=hKk.trans ⟨hsz2,ho2,hc2⟩
      gi_wp2
      exact⟨⟨k+1,O2,congrArg _ hpw,congrArg _ hkw,hlt',hJ2,hK2,hG2⟩,hmu⟩
     ·gi_wp2
      refine bodyPost_ret (results_none rfl _ _ _) rfl ?_
      exact⟨⟨_,rfl⟩,.inr hx2⟩
    ·obtain rfl:k=w.length:=by omega
     gi_wp2
     go_end0
     exact⟨⟨_,rfl⟩,.inl ⟨O',by simpa[gY] using hJk⟩⟩
end Go.Proofs.YtbojpfpliibfbaaGreatDoor

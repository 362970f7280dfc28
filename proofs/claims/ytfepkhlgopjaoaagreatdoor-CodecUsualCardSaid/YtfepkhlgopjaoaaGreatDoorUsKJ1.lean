/- A part of the proof for CodecUsualCardSaid. -/
import Derived.Test.YtfepkhlgopjaoaaGreatDoorUsF
import Derived.Test.YtfepkhlgopjaoaaGreatDoorUsKW9
import Derived.Test.YtfepkhlgopjaoaaGreatDoorUsCore6
import Derived.Test.YtfepkhlgopjaoaaGreatDoorUsK10
import Derived.Test.YtfepkhlgopjaoaaGreatDoorUsKD2
import Derived.Test.YtfepkhlgopjaoaaGreatDoorUsKSh
set_option linter.unusedVariables false
set_option linter.unusedSimpArgs false
set_option maxRecDepth 100000
-- many steps
namespace Go.Proofs.YtfepkhlgopjaoaaGreatDoor
open Go Go.Ab
attribute [local irreducible] vc
def Ed (s:List UInt8):Bool:=decide (s[s.length - 1]? = some 32)
def wA (c:UInt8):Bool:=decide (c.toNat<32)
def wrB (s:List UInt8):Bool:=!Ed s&&!(s.any wA)
theorem xT {s:List UInt8}{c:UInt8}(h:s[s.length - 1]? = some c):s.drop (s.length - 1)=[c]:=by
 have hi:=(List.getElem?_eq_some_iff.1 h).1
 have he:s[s.length - 1]=c:=(List.getElem?_eq_some_iff.1 h).2
 rw[List.drop_eq_getElem_cons hi,he,List.drop_of_length_le (by omega)]
theorem tZ (s:List UInt8)(hs:s.length≤140737488351232):ap Tryz.prog az 182 [.str s,.str [32]] (.bool (Ed s)):=by
 by_cases h0:s=[]
 ·subst h0
  rw[show Ed []=false from rfl]
  refine ap.intro zm (by simp[IA]) ?_
  simp(maxSteps:=9^7) (disch:=try exact dI) only[IA,push_cast,seval]
 ·have hp:0<s.length:=List.length_pos_iff.2 h0
  obtain⟨c,hc⟩:∃ c,s[s.length - 1]? = some c:=⟨_,List.getElem?_eq_getElem (by omega)⟩
  have hd:=xT hc
  have h1:(1:Int)≤(s.length:Int):=by omega
  have et:((s.length:Int) - 1).toNat=s.length - 1:=by omega
  have hEq:Ed s=decide (c=32):=by unfold Ed;rw[hc];simp
  rw[hEq]
  refine ap.intro zm (by simp[IA]) ?_
  by_cases h:c=32
  ·subst h
   rw[decide_eq_true rfl]
   simp(maxSteps:=9^7) (disch:=try exact dI) only[IA,h1,et,hd,List.take_length,push_cast,seval]
  ·rw[decide_eq_false h]
   have hne:¬ [c]=([32]:List UInt8):=by simpa using h
   simp(maxSteps:=9^7) (disch:=try exact dI) only[IA,h1,et,hd,List.take_length,hne,push_cast,seval]
theorem Ax (s:List UInt8)(hs:s.length≤140737488351232):ap Tryz.prog az 107 [.str s,.str [32]] (.bool (Ed s)):=by
 have h:=tZ s hs
 generalize Ed s=b at *
 refine ap.intro Ig (by simp[NK]) ?_
 simp(maxSteps:=9^7) (disch:=try exact dI) only[NK,push_cast,seval]
 refine ae.pure h rfl ?_
 simp(maxSteps:=9^7) (disch:=try exact dI) only[push_cast,seval]
theorem MC (c:UInt8):ap Tryz.prog az 109 [.int .u8 (c.toNat:Int)] (.bool (wA c)):=by
 unfold wA
 refine ap.intro Ie (by simp[L3]) ?_
 by_cases h:c.toNat<32
 ·have hI:(c.toNat:Int)<32:=by omega
  rw[decide_eq_true h]
  simp(maxSteps:=9^7) (disch:=try exact dI) only[L3,hI,push_cast,seval]
 ·have hI:¬ (c.toNat:Int)<32:=by omega
  rw[decide_eq_false h]
  simp(maxSteps:=9^7) (disch:=try exact dI) only[L3,hI,push_cast,seval]
theorem yE (s:List UInt8):(aE s).length=s.length:=by simp[aE]
theorem C8 {s:List UInt8}{i:Nat}{c:UInt8}(h:s[i]? = some c):(aE s)[i]? = some (.int .u8 (c.toNat:Int)):=by simp[aE,h]
theorem Cm (s:List UInt8)(hs:s.length≤140737488351232):ap Tryz.prog az 183 [.list (aE s),.clo 109 [] []] (.int .i64 (dq wA s 0)):=by
 refine ap.intro HY (by simp[NB]) ?_
 simp(maxSteps:=9^7) (disch:=try exact dI) only[NB,yE,push_cast,seval]
 refine aB ([]) (fun m:Nat=>[(8,.pv (.int .i64 (m:Int)))]) (fun m=>[]) (fun m=>m≤s.length∧dq wA s 0=dq wA (s.drop m) m) (fun m=>s.length - m) (0) ?_;intro e0 σ0 n0 h0;simp(maxSteps:=9^7) (disch:=try exact dI) only[push_cast,seval] at h0;obtain⟨rfl,rfl,rfl⟩:=h0;refine⟨?_,?_,?_⟩
 ·simp(maxSteps:=9^7) (disch:=try exact dI) only[push_cast,seval]
 ·exact⟨by omega,by simp⟩
 ·rintro m ⟨hm,he⟩
  by_cases hlt:m<s.length
  ·have hltI:(m:Int)<s.length:=by omega
   obtain⟨x,hx⟩:∃ x,s[m]? = some x:=⟨_,List.getElem?_eq_getElem hlt⟩
   have hcall:=MC x
   have hx':=C8 hx
   simp(maxSteps:=9^7) (disch:=try exact dI) only[hx',push_cast,seval]
   refine ae.pure hcall rfl ?_
   cases hqx:wA x with
   | true=>
     rw[he,dA hx hqx]
     simp(maxSteps:=9^7) (disch:=try exact dI) only[push_cast,seval]
   | false=>
     rw[cg hx hqx] at he
     simp(maxSteps:=9^7) (disch:=try exact dI) only[push_cast,seval]
     exact⟨m+1,bH qsZ,⟨by omega,he⟩,by omega⟩
  ·have hltI:¬ (m:Int)<s.length:=by omega
   rw[he,dB hlt]
   simp(maxSteps:=9^7) (disch:=try exact dI) only[push_cast,seval]
theorem sl (s:List UInt8)(hs:s.length≤140737488351232):ap Tryz.prog az 108 [.list (aE s),.clo 109 [] []] (.bool (s.any wA)):=by
 have h94:=Cm s hs
 have hfa:=cQ (p:=wA) s
 refine ap.intro If (by simp[L4]) ?_
 rcases bv (p:=wA) s 0 with ⟨h1,h2⟩ | ⟨k,x,h1,h2,h3⟩
 ·rw[h2] at h94
  rw[h1] at hfa
  rw[← hfa]
  simp(maxSteps:=9^7) (disch:=try exact dI) only[L4,push_cast,seval]
  refine ae.pure h94 rfl ?_
  simp(maxSteps:=9^7) (disch:=try exact dI) only[push_cast,seval]
  rfl
 ·rw[h3] at h94
  rw[h2] at hfa
  rw[← hfa]
  have hk:(0:Int)≤((0+k:Nat):Int):=by omega
  generalize ((0+k:Nat):Int)=z at *
  simp(maxSteps:=9^7) (disch:=try exact dI) only[L4,push_cast,seval]
  refine ae.pure h94 rfl ?_
  simp(maxSteps:=9^7) (disch:=try exact dI) only[push_cast,seval]
  rfl
theorem me (e:List (Nat×AV))(σ:List (Nat×Blk))(new:Nat)(x:AX):e5 e σ new (.ofStr x)=dZ new (evE e x):=_root_.id rfl
theorem qz (new:Nat){k:List UInt8}(h:k.length≤140737488355328):dZ new (.pv (.str k))=some (.pv (.list (aE k)),[(new,.none)]):=by simp[dZ,h]
theorem tw (s:List UInt8)(hs:s.length≤140737488351232):ap Tryz.prog az 63 [.str s] (.bool (wrB s)):=by
 have h66:=Ax s hs
 have h67:=sl s hs
 unfold wrB
 have hof:=fun new=>qz new (k:=s) (by omega)
 generalize Ed s=a at *
 generalize s.any wA=b at *
 refine ap.intro Le (by simp[F63]) ?_
 simp(maxSteps:=9^7) (disch:=try exact dI) only[F63,push_cast,seval]
 refine ae.pure h66 rfl ?_
 cases a with
 | true=>simp(maxSteps:=9^7) (disch:=try exact dI) only[push_cast,seval]
 | false=>
   simp(maxSteps:=9^7) (disch:=try exact dI) only[me,hof,push_cast,seval]
   refine ae.pure h67 rfl ?_
   simp(maxSteps:=9^7) (disch:=try exact dI) only[push_cast,seval]
end Go.Proofs.YtfepkhlgopjaoaaGreatDoor
-- many steps
namespace Go.Proofs.YtfepkhlgopjaoaaGreatDoor
open Go Go.Ab
attribute [local irreducible] vc
def vZ (s:List UInt8):Bool:=!wrB s
theorem M0 (s:List UInt8)(hs:s.length≤140737488351232):ap Tryz.prog az 62 [.str s] (.bool (vZ s)):=by
 have h:=tw s hs
 unfold vZ
 generalize wrB s=b at *
 refine ap.intro Lf (by simp[F62]) ?_
 simp(maxSteps:=9^7) (disch:=try exact dI) only[F62,push_cast,seval]
 refine ae.pure h rfl ?_
 simp(maxSteps:=9^7) (disch:=try exact dI) only[push_cast,seval]
theorem GD (l:List (List UInt8))(hw:∀ x∈l,x.length≤140737488351232)(hl:l.length≤9000000000000):ap Tryz.prog az 106 [.list (l.map PV.str),.clo 62 [] []] (.int .i64 (dq vZ l 0)):=by
 refine ap.intro Ih (by simp[NL]) ?_
 simp(maxSteps:=9^7) (disch:=try exact dI) only[NL,push_cast,seval]
 refine aB ([]) (fun m:Nat=>[(8,.pv (.int .i64 (m:Int)))]) (fun m=>[]) (fun m=>m≤l.length∧dq vZ l 0=dq vZ (l.drop m) m) (fun m=>l.length - m) (0) ?_;intro e0 σ0 n0 h0;simp(maxSteps:=9^7) (disch:=try exact dI) only[push_cast,seval] at h0;obtain⟨rfl,rfl,rfl⟩:=h0;refine⟨?_,?_,?_⟩
 ·simp(maxSteps:=9^7) (disch:=try exact dI) only[push_cast,seval]
 ·exact⟨by omega,by simp⟩
 ·rintro m ⟨hm,he⟩
  by_cases hlt:m<l.length
  ·have hltI:(m:Int)<l.length:=by omega
   obtain⟨x,hx⟩:∃ x,l[m]? = some x:=⟨_,List.getElem?_eq_getElem hlt⟩
   have hcall:=M0 x (hw x (List.mem_of_getElem? hx))
   simp(maxSteps:=9^7) (disch:=try exact dI) only[hx,Option.map_some,push_cast,seval]
   refine ae.pure hcall rfl ?_
   cases hqx:vZ x with
   | true=>
     rw[he,dA hx hqx]
     simp(maxSteps:=9^7) (disch:=try exact dI) only[push_cast,seval]
   | false=>
     rw[cg hx hqx] at he
     simp(maxSteps:=9^7) (disch:=try exact dI) only[push_cast,seval]
     exact⟨m+1,bH qsZ,⟨by omega,he⟩,by omega⟩
  ·have hltI:¬ (m:Int)<l.length:=by omega
   rw[he,dB hlt]
   simp(maxSteps:=9^7) (disch:=try exact dI) only[push_cast,seval]
theorem sm (l:List (List UInt8))(hw:∀ x∈l,x.length≤140737488351232)(hl:l.length≤9000000000000):ap Tryz.prog az 61 [.list (l.map PV.str),.clo 62 [] []] (.bool (l.any vZ)):=by
 have h94:=GD l hw hl
 have hfa:=cQ (p:=vZ) l
 refine ap.intro Lg (by simp[F61]) ?_
 rcases bv (p:=vZ) l 0 with ⟨h1,h2⟩ | ⟨k,x,h1,h2,h3⟩
 ·rw[h2] at h94
  rw[h1] at hfa
  rw[← hfa]
  simp(maxSteps:=9^7) (disch:=try exact dI) only[F61,push_cast,seval]
  refine ae.pure h94 rfl ?_
  simp(maxSteps:=9^7) (disch:=try exact dI) only[push_cast,seval]
  exact .refl _
 ·rw[h3] at h94
  rw[h2] at hfa
  rw[← hfa]
  have hk:(0:Int)≤((0+k:Nat):Int):=by omega
  generalize ((0+k:Nat):Int)=z at *
  simp(maxSteps:=9^7) (disch:=try exact dI) only[F61,push_cast,seval]
  refine ae.pure h94 rfl ?_
  simp(maxSteps:=9^7) (disch:=try exact dI) only[push_cast,seval]
  exact .refl _
def dD:Typ→Bool
 | .mk k m _ _ w _ _=>if k=4∧0<w.length then w.any fun x=>decide (x=[]) else (decide (k=4)||decide (k=5))&&decide (m=0)
theorem G2 (k m M s:Int)(w:List (List UInt8))(e:List Typ)(f:List TFd)(hw:w.length≤9000000000000):ap Tryz.prog az 60 [(Typ.mk k m M s w e f).pv] (.bool (dD (.mk k m M s w e f))):=by
 have hc:=ja w [] hw
 refine ap.intro Lh (by simp[F60]) ?_
 by_cases h4:k=4
 ·subst h4
  by_cases h0:0<w.length
  ·have h0I:(0:Int)<(w.length:Int):=by omega
   rw[show dD (.mk 4 m M s w e f)=w.any fun x=>decide (x=[]) from if_pos ⟨rfl,h0⟩]
   generalize (w.any fun x=>decide (x=[]))=b at hc ⊢
   simp(maxSteps:=9^7) (disch:=try exact dI) only[F60,Typ.pv_mk,h0I,push_cast,seval]
   refine ae.pure hc rfl ?_
   simp(maxSteps:=9^7) (disch:=try exact dI) only[push_cast,seval]
  ·have h0I:¬ (0:Int)<(w.length:Int):=by omega
   rw[show dD (.mk 4 m M s w e f)=decide (m=0) by simp only[dD];rw[if_neg (fun h=>h0 h.2)];simp]
   by_cases hm:m=0
   ·rw[decide_eq_true hm]
    simp(maxSteps:=9^7) (disch:=try exact dI) only[F60,Typ.pv_mk,h0I,hm,push_cast,seval]
   ·rw[decide_eq_false hm]
    simp(maxSteps:=9^7) (disch:=try exact dI) only[F60,Typ.pv_mk,h0I,hm,push_cast,seval]
 ·by_cases h5:k=5
  ·subst h5
   rw[show dD (.mk 5 m M s w e f)=decide (m=0) by simp only[dD];rw[if_neg (fun h=>h4 h.1)];simp]
   by_cases hm:m=0
   ·rw[decide_eq_true hm]
    simp(maxSteps:=9^7) (disch:=try exact dI) only[F60,Typ.pv_mk,hm,push_cast,seval]
   ·rw[decide_eq_false hm]
    simp(maxSteps:=9^7) (disch:=try exact dI) only[F60,Typ.pv_mk,hm,push_cast,seval]
  ·rw[show dD (.mk k m M s w e f)=false by simp only[dD];rw[if_neg (fun h=>h4 h.1)];simp[h4,h5]]
   simp(maxSteps:=9^7) (disch:=try exact dI) only[F60,Typ.pv_mk,h4,h5,push_cast,seval]
end Go.Proofs.YtfepkhlgopjaoaaGreatDoor
-- many steps
namespace Go.Proofs.YtfepkhlgopjaoaaGreatDoor
open Go Go.Ab
attribute [local irreducible] vc
def dy (w:List Int):List PV:=w.map (PV.int .i64)
theorem bR (l:List Int):(dy l).length=l.length:=by simp[dy]
theorem jH {l:List Int}{i:Nat}{x:Int}(h:l[i]? = some x):(dy l)[i]? = some (.int .i64 x):=by simp[dy,h]
def tg (x:Int):Bool:=decide (x<1)||decide (4096<x)
theorem Ck (l:List Int)(g:Nat)(q:Int→Bool)(hq:∀ x∈l,ap Tryz.prog az g [.int .i64 x] (.bool (q x)))(hl:l.length≤9000000000000) :
  ap Tryz.prog az 58 [.list (dy l),.clo g [] []] (.int .i64 (dq q l 0)):=by
 refine ap.intro Lj (by simp[F58]) ?_
 simp(maxSteps:=9^7) (disch:=try exact dI) only[F58,bR,push_cast,seval]
 refine aB ([]) (fun m:Nat=>[(8,.pv (.int .i64 (m:Int)))]) (fun m=>[]) (fun m=>m≤l.length∧dq q l 0=dq q (l.drop m) m) (fun m=>l.length - m) (0) ?_;intro e0 σ0 n0 h0;simp(maxSteps:=9^7) (disch:=try exact dI) only[push_cast,seval] at h0;obtain⟨rfl,rfl,rfl⟩:=h0;refine⟨?_,?_,?_⟩
 ·simp(maxSteps:=9^7) (disch:=try exact dI) only[push_cast,seval]
 ·exact⟨by omega,by simp⟩
 ·rintro m ⟨hm,he⟩
  by_cases hlt:m<l.length
  ·have hltI:(m:Int)<l.length:=by omega
   obtain⟨x,hx⟩:∃ x,l[m]? = some x:=⟨_,List.getElem?_eq_getElem hlt⟩
   have hcall:=hq x (List.mem_of_getElem? hx)
   have hx':=jH hx
   simp(maxSteps:=9^7) (disch:=try exact dI) only[hx',push_cast,seval]
   refine ae.pure hcall rfl ?_
   cases hqx:q x with
   | true=>
     rw[he,dA hx hqx]
     simp(maxSteps:=9^7) (disch:=try exact dI) only[push_cast,seval]
   | false=>
     rw[cg hx hqx] at he
     simp(maxSteps:=9^7) (disch:=try exact dI) only[push_cast,seval]
     exact⟨m+1,bH qsZ,⟨by omega,he⟩,by omega⟩
  ·have hltI:¬ (m:Int)<l.length:=by omega
   rw[he,dB hlt]
   simp(maxSteps:=9^7) (disch:=try exact dI) only[push_cast,seval]
theorem sk (l:List Int)(g:Nat)(q:Int→Bool)(hq:∀ x∈l,ap Tryz.prog az g [.int .i64 x] (.bool (q x)))(hl:l.length≤9000000000000) :
  ap Tryz.prog az 31 [.list (dy l),.clo g [] []] (.bool (l.any q)):=by
 have h94:=Ck l g q hq hl
 have hfa:=cQ (p:=q) l
 refine ap.intro Lr (by simp[F31]) ?_
 rcases bv (p:=q) l 0 with ⟨h1,h2⟩ | ⟨k,x,h1,h2,h3⟩
 ·rw[h2] at h94
  rw[h1] at hfa
  rw[← hfa]
  simp(maxSteps:=9^7) (disch:=try exact dI) only[F31,push_cast,seval]
  refine ae.pure h94 rfl ?_
  simp(maxSteps:=9^7) (disch:=try exact dI) only[push_cast,seval]
  rfl
 ·rw[h3] at h94
  rw[h2] at hfa
  rw[← hfa]
  have hk:(0:Int)≤((0+k:Nat):Int):=by omega
  generalize ((0+k:Nat):Int)=z at *
  simp(maxSteps:=9^7) (disch:=try exact dI) only[F31,push_cast,seval]
  refine ae.pure h94 rfl ?_
  simp(maxSteps:=9^7) (disch:=try exact dI) only[push_cast,seval]
  rfl
end Go.Proofs.YtfepkhlgopjaoaaGreatDoor

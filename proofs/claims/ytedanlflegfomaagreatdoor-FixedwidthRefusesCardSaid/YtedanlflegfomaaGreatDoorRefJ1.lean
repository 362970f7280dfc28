/- A part of the proof for FixedwidthRefusesCardSaid. -/
import Derived.Test.YtedanlflegfomaaGreatDoorRefF
import Derived.Test.YtedanlflegfomaaGreatDoorRefGD2
import Derived.Test.YtedanlflegfomaaGreatDoorRefHU
import Derived.Test.YtedanlflegfomaaGreatDoorCore6
import Derived.Test.YtedanlflegfomaaGreatDoorRefGSh
import Derived.Test.YtedanlflegfomaaGreatDoorCore5
set_option maxRecDepth 100000
set_option linter.unusedVariables false
set_option linter.unusedSimpArgs false
-- many steps
namespace Go.Proofs.YtedanlflegfomaaGreatDoor
open Go Go.Ab
attribute [local irreducible] vc
def jG (s:List UInt8):Bool:=decide (s[s.length - 1]? = some 32)
def kJ (c:UInt8):Bool:=decide (c.toNat<32)
def wrB (s:List UInt8):Bool:=!jG s&&!(s.any kJ)
theorem vv {s:List UInt8}{c:UInt8}(h:s[s.length - 1]? = some c):s.drop (s.length - 1)=[c]:=by
 have hi:=(List.getElem?_eq_some_iff.1 h).1
 have he:s[s.length - 1]=c:=(List.getElem?_eq_some_iff.1 h).2
 rw[List.drop_eq_getElem_cons hi,he,List.drop_of_length_le (by omega)]
theorem sd (s:List UInt8)(hs:s.length≤1000000):aq Tryz.prog aA 112 [.str s,.str [32]] (.bool (jG s)):=by
 by_cases h0:s=[]
 ·subst h0
  rw[show jG []=false from rfl]
  refine aq.intro wF (by simp[ES]) ?_
  simp(maxSteps:=9^7) (disch:=first|exact dI|fail) only[ES,push_cast,seval]
 ·have hp:0<s.length:=List.length_pos_iff.2 h0
  obtain⟨c,hc⟩:∃ c,s[s.length - 1]? = some c:=⟨_,List.getElem?_eq_getElem (by omega)⟩
  have hd:=vv hc
  have h1:(1:Int)≤(s.length:Int):=by omega
  have et:((s.length:Int) - 1).toNat=s.length - 1:=by omega
  have hEq:jG s=decide (c=32):=by unfold jG;rw[hc];simp
  rw[hEq]
  refine aq.intro wF (by simp[ES]) ?_
  by_cases h:c=32
  ·subst h
   rw[decide_eq_true rfl]
   simp(maxSteps:=9^7) (disch:=first|exact dI|fail) only[ES,h1,et,hd,List.take_length,push_cast,seval]
  ·rw[decide_eq_false h]
   have hne:¬ [c]=([32]:List UInt8):=by simpa using h
   simp(maxSteps:=9^7) (disch:=first|exact dI|fail) only[ES,h1,et,hd,List.take_length,hne,push_cast,seval]
theorem xA (s:List UInt8)(hs:s.length≤1000000):aq Tryz.prog aA 66 [.str s,.str [32]] (.bool (jG s)):=by
 have h:=sd s hs
 generalize jG s=b at *
 refine aq.intro Hc (by simp[F66]) ?_
 simp(maxSteps:=9^7) (disch:=first|exact dI|fail) only[F66,push_cast,seval]
 refine ae.pure h rfl ?_
 simp(maxSteps:=9^7) (disch:=first|exact dI|fail) only[push_cast,seval]
theorem Is (c:UInt8):aq Tryz.prog aA 68 [.int .u8 (c.toNat:Int)] (.bool (kJ c)):=by
 unfold kJ
 refine aq.intro Ha (by simp[F68]) ?_
 by_cases h:c.toNat<32
 ·have hI:(c.toNat:Int)<32:=by omega
  rw[decide_eq_true h]
  simp(maxSteps:=9^7) (disch:=first|exact dI|fail) only[F68,hI,push_cast,seval]
 ·have hI:¬ (c.toNat:Int)<32:=by omega
  rw[decide_eq_false h]
  simp(maxSteps:=9^7) (disch:=first|exact dI|fail) only[F68,hI,push_cast,seval]
theorem vY (s:List UInt8):(aD s).length=s.length:=by simp[aD]
theorem Aq {s:List UInt8}{i:Nat}{c:UInt8}(h:s[i]? = some c):(aD s)[i]? = some (.int .u8 (c.toNat:Int)):=by simp[aD,h]
theorem zF (s:List UInt8)(hs:s.length≤1000000):aq Tryz.prog aA 113 [.list (aD s),.clo 68 [] []] (.int .i64 (fi kJ s 0)):=by
 refine aq.intro Ev (by simp[Jl]) ?_
 simp(maxSteps:=9^7) (disch:=first|exact dI|fail) only[Jl,vY,push_cast,seval]
 refine az ([]) (fun m:Nat=>[(8,.pv (.int .i64 (m:Int)))]) (fun m=>[]) (fun m=>m≤s.length∧fi kJ s 0=fi kJ (s.drop m) m) (fun m=>s.length - m) (0) ?_;intro e0 σ0 n0 h0;simp(maxSteps:=9^7) (disch:=first|exact dI|fail) only[push_cast,seval] at h0;obtain⟨rfl,rfl,rfl⟩:=h0;refine⟨?_,?_,?_⟩
 ·simp(maxSteps:=9^7) (disch:=first|exact dI|fail) only[push_cast,seval]
 ·exact⟨by omega,by simp⟩
 ·rintro m ⟨hm,he⟩
  by_cases hlt:m<s.length
  ·have hltI:(m:Int)<s.length:=by omega
   obtain⟨x,hx⟩:∃ x,s[m]? = some x:=⟨_,List.getElem?_eq_getElem hlt⟩
   have hcall:=Is x
   have hx':=Aq hx
   simp(maxSteps:=9^7) (disch:=first|exact dI|fail) only[hx',push_cast,seval]
   refine ae.pure hcall rfl ?_
   cases hqx:kJ x with
   | true=>
     rw[he,gI hx hqx]
     simp(maxSteps:=9^7) (disch:=first|exact dI|fail) only[push_cast,seval]
   | false=>
     rw[eF hx hqx] at he
     simp(maxSteps:=9^7) (disch:=first|exact dI|fail) only[push_cast,seval]
     exact⟨m+1,bl (by simp(maxSteps:=9^7) (disch:=first|exact dI|fail) only[push_cast,seval]),⟨by omega,he⟩,by omega⟩
  ·have hltI:¬ (m:Int)<s.length:=by omega
   rw[he,gJ hlt]
   simp(maxSteps:=9^7) (disch:=first|exact dI|fail) only[push_cast,seval]
theorem qJ (s:List UInt8)(hs:s.length≤1000000):aq Tryz.prog aA 67 [.list (aD s),.clo 68 [] []] (.bool (s.any kJ)):=by
 have h94:=zF s hs
 have hfa:=jq (p:=kJ) s
 refine aq.intro Hb (by simp[F67]) ?_
 rcases dJ (p:=kJ) s 0 with ⟨h1,h2⟩ | ⟨k,x,h1,h2,h3⟩
 ·rw[h2] at h94
  rw[h1] at hfa
  rw[← hfa]
  simp(maxSteps:=9^7) (disch:=first|exact dI|fail) only[F67,push_cast,seval]
  refine ae.pure h94 rfl ?_
  simp(maxSteps:=9^7) (disch:=first|exact dI|fail) only[push_cast,seval]
  rfl
 ·rw[h3] at h94
  rw[h2] at hfa
  rw[← hfa]
  have hk:(0:Int)≤((0+k:Nat):Int):=by omega
  generalize ((0+k:Nat):Int)=z at *
  simp(maxSteps:=9^7) (disch:=first|exact dI|fail) only[F67,push_cast,seval]
  refine ae.pure h94 rfl ?_
  simp(maxSteps:=9^7) (disch:=first|exact dI|fail) only[push_cast,seval]
  rfl
theorem lD (e:List (Nat×AV))(σ:List (Nat×Blk))(new:Nat)(x:AX):ft e σ new (.ofStr x)=gm new (evE e x):=_root_.id rfl
theorem o9 (new:Nat){k:List UInt8}(h:k.length≤140737488355328):gm new (.pv (.str k))=some (.pv (.list (aD k)),[(new,.none)]):=by simp[gm,h]
theorem jL (s:List UInt8)(hs:s.length≤1000000):aq Tryz.prog aA 24 [.str s] (.bool (wrB s)):=by
 have h66:=xA s hs
 have h67:=qJ s hs
 unfold wrB
 have hof:=fun new=>o9 new (k:=s) (by omega)
 generalize jG s=a at *
 generalize s.any kJ=b at *
 refine aq.intro HC (by simp[F24]) ?_
 simp(maxSteps:=9^7) (disch:=first|exact dI|fail) only[F24,push_cast,seval]
 refine ae.pure h66 rfl ?_
 cases a with
 | true=>simp(maxSteps:=9^7) (disch:=first|exact dI|fail) only[push_cast,seval]
 | false=>
   simp(maxSteps:=9^7) (disch:=first|exact dI|fail) only[lD,hof,push_cast,seval]
   refine ae.pure h67 rfl ?_
   simp(maxSteps:=9^7) (disch:=first|exact dI|fail) only[push_cast,seval]
theorem nJ (f:Nat)(a b:List PV):PV.one (.clo f a b)=true:=rfl
theorem ka:PV.one .nilf=true:=rfl
theorem rJ:aq Tryz.prog aA 22 [] (.agg [.nilf,.clo 57 [] [],.clo 55 [] [],.clo 55 [] [],.clo 58 [] [],.clo 59 [] [],.clo 60 [] [],.clo 62 [] []]):=by
 refine aq.intro HE (by simp[F22]) ?_
 simp(maxSteps:=9^7) (disch:=first|exact dI|fail) only[F22,nJ,ka,push_cast,seval]
theorem wT (v:Val):aq Tryz.prog aA 58 [v.pv] (.str v.text):=by
 obtain⟨k,n,s,t,l,f⟩:=v
 change aq Tryz.prog aA 58 [(Val.mk k n s t l f).pv] (.str t)
 refine aq.intro Hh (by simp[F58]) ?_
 simp(maxSteps:=9^7) (disch:=first|exact dI|fail) only[F58,Val.pv_mk,push_cast,seval]
def spT:Nat→List UInt8
 | 0=>[]
 | n+1=>spT n++[32]
theorem bA:∀ n,(spT n).length=n
 | 0=>rfl
 | n+1=>by simp[spT,bA n]
theorem BY (s:List UInt8)(n:Nat)(hs:s.length+n≤1000000)(he:jG s=false):aq Tryz.prog aA 125 [.str (s++spT n),.int .u8 32] (.str s):=by
 refine aq.intro Er (by simp[Jj]) ?_
 simp(maxSteps:=9^7) (disch:=first|exact dI|fail) only[Jj,push_cast,seval]
 refine az ([]) (fun m:Nat=>[(0,.pv (.str (s++spT m)))]) (fun m=>[]) (fun m=>m≤n) (fun m=>m) (n) ?_;intro e0 σ0 n0 h0;simp(maxSteps:=9^7) (disch:=first|exact dI|fail) only[push_cast,seval] at h0;obtain⟨rfl,rfl,rfl⟩:=h0;refine⟨?_,?_,?_⟩
 ·simp(maxSteps:=9^7) (disch:=first|exact dI|fail) only[push_cast,seval]
 ·omega
 ·rintro m hm
  have hlen:(s++spT m).length=s.length+m:=by rw[List.length_append,bA]
  have hlenI:(((s++spT m).length:Nat):Int)=(s.length:Int)+m:=by omega
  cases m with
  | zero=>
    rw[show s++spT 0=s by simp[spT]]
    by_cases h0:s=[]
    ·subst h0
     simp(maxSteps:=9^7) (disch:=first|exact dI|fail) only[push_cast,seval]
    ·have hp:0<s.length:=List.length_pos_iff.2 h0
     have hpI:(0:Int)<(s.length:Int):=by omega
     obtain⟨c,hc⟩:∃ c,s[s.length - 1]? = some c:=⟨_,List.getElem?_eq_getElem (by omega)⟩
     have hc32:¬ c=32:=by
      intro h;rw[jG,hc,h] at he;simp at he
     have hcI:¬ (c.toNat:Int)=32:=by
      intro h
      exact hc32 (UInt8.toNat_inj.1 (by have:(32:UInt8).toNat=32:=rfl;omega))
     obtain⟨q,hq⟩:∃ q,s.length=q+1:=⟨s.length - 1,by omega⟩
     have hc':s[q]? = some c:=by rw[← hc];congr 1;omega
     simp(maxSteps:=9^7) (disch:=first|exact dI|fail) only[hpI,hq,Int.add_sub_cancel,hc',hcI,push_cast,seval]
  | succ m=>
    have hl2:(((s++spT (m+1)).length:Nat):Int)=((s.length+m:Nat):Int)+1:=by omega
    have hlast:(s++spT (m+1))[s.length+m]? = some 32:=by
     rw[spT,← List.append_assoc,List.getElem?_append_right (by rw[List.length_append,bA];exact Nat.le_refl _),List.length_append,bA];simp
    have htk:(s++spT (m+1)).take (s.length+m)=s++spT m:=by
     rw[spT,← List.append_assoc,List.take_append_of_le_length (by rw[List.length_append,bA];exact Nat.le_refl _),List.take_of_length_le (by rw[List.length_append,bA];exact Nat.le_refl _)]
    generalize s++spT (m+1)=L at *
    generalize s.length+m=q at *
    have hpI:(0:Int)<(q:Int)+1:=by omega
    simp(maxSteps:=9^7) (disch:=first|exact dI|fail) only[hl2,hpI,Int.add_sub_cancel,hlast,htk,push_cast,seval]
    exact⟨m,bl (by simp(maxSteps:=9^7) (disch:=first|exact dI|fail) only[push_cast,seval]),by omega,by omega⟩
theorem EZ (s:List UInt8)(n:Nat)(hs:s.length+n≤1000000)(he:jG s=false):aq Tryz.prog aA 82 [.str (s++spT n),.str [32]] (.str s):=by
 have h:=BY s n hs he
 by_cases h0:s++spT n=[]
 ·have hs0:s=[]:=(List.append_eq_nil_iff.1 h0).1
  rw[h0,hs0]
  refine aq.intro BH (by simp[F82]) ?_
  simp(maxSteps:=9^7) (disch:=first|exact dI|fail) only[F82,push_cast,seval]
 ·generalize s++spT n=L at *
  refine aq.intro BH (by simp[F82]) ?_
  simp(maxSteps:=9^7) (disch:=first|exact dI|fail) only[F82,h0,push_cast,seval]
  refine ae.pure h rfl ?_
  simp(maxSteps:=9^7) (disch:=first|exact dI|fail) only[push_cast,seval]
theorem B1 (s:List UInt8):aq Tryz.prog aA 131 [.str s] (.agg [.int .i64 4,.int .i64 0,.int .i64 0,.str s,.nils,.nils]):=by
 refine aq.intro Eo (by simp[Jh]) ?_
 simp(maxSteps:=9^7) (disch:=first|exact dI|fail) only[Jh,push_cast,seval]
end Go.Proofs.YtedanlflegfomaaGreatDoor
set_option maxRecDepth 100000
set_option linter.unusedVariables false
set_option linter.unusedSimpArgs false
namespace Go.Proofs.YtedanlflegfomaaGreatDoor
open Go Go.Ab
attribute [local irreducible] vc
def aB:Bool→AV
 | true=>.ptr 0 0
 | false=>.pv .nilp
def bB (t:Bool):List UInt8→List Blk
 | []=>[.cells 63 true [aB t,.pv .nils]]
 | b::r=>[.cells 63 true [aB t,.row 1 1 0 (r.length+1)],.cells 5 false ((aD (b::r)).map .pv)]
theorem copyB (t:Bool)(l:List UInt8):bu Tryz.prog aA 1 73 [.ptr 0 0] (bB t l) (.pv (.tup [])) (bB true l):=by
 refine bu.intro G9 (by simp[F73]) ?_
 cases l with
 | nil=>
   cases t with
   | true=>
     simp(disch:=first|exact dI|fail) only[F73,bB,aB,push_cast,seval]
     exact aJ [] (by simp(disch:=first|exact dI|fail) only[push_cast,seval])
   | false=>
     simp(disch:=first|exact dI|fail) only[F73,bB,aB,push_cast,seval]
     exact aJ [] (by simp(disch:=first|exact dI|fail) only[push_cast,seval])
 | cons b r=>
   cases t with
   | true=>
     simp(disch:=first|exact dI|fail) only[F73,bB,aB,push_cast,seval]
     exact aJ [] (by simp(disch:=first|exact dI|fail) only[push_cast,seval])
   | false=>
     simp(disch:=first|exact dI|fail) only[F73,bB,aB,push_cast,seval]
     exact aJ [] (by simp(disch:=first|exact dI|fail) only[push_cast,seval])
theorem ET (t:Bool)(l k:List UInt8)(hl:l.length≤100000000)(hk:k.length≤100000000):bu Tryz.prog aA 1 26 [.ptr 0 0,.pv (.str k)] (bB t l) (.pv (.tup [.int .i64 (k.length:Int),.nili])) (bB true (l++k)):=by
 have hC:=copyB t l
 refine bu.intro HB (by simp[F26]) ?_
 cases l with
 | nil=>
   cases k with
   | nil=>
     cases t<;>(
     try simp only[bB,aB] at hC
     simp(disch:=first|exact dI|fail) only[F26,bB,aB,push_cast,seval]
     refine ae.lentK hC [0] rfl (by simp(disch:=first|exact dI|fail) only[push_cast,seval]) (by simp(disch:=first|exact dI|fail) only[push_cast,seval]) ?_
     simp(disch:=first|exact dI|fail) only[bB,aB,push_cast,seval]
     exact aJ [] (by simp(disch:=first|exact dI|fail) only[push_cast,seval]))
   | cons c k=>
     simp only[List.length_cons] at hk
     cases t<;>(
     try simp only[bB,aB] at hC
     simp(disch:=first|exact dI|fail) only[F26,bB,aB,push_cast,seval]
     refine ae.lentK hC [0] rfl (by simp(disch:=first|exact dI|fail) only[push_cast,seval]) (by simp(disch:=first|exact dI|fail) only[push_cast,seval]) ?_
     simp(disch:=first|exact dI|fail) only[bB,aB,push_cast,seval]
     exact aJ [] (by simp(disch:=first|exact dI|fail) only[push_cast,seval]))
 | cons b r=>
   have e2:(r++k).length+1=r.length+1+k.length:=by simp;omega
   have hA:=fun new q=>AA (t:=5) (q:=q) (new:=new) (f:=false) (l:=b::r) (k:=k) (len:=r.length+1) rfl (by simp at hl ⊢;omega)
   cases t<;>(
   try simp only[bB,aB] at hC
   simp(disch:=first|exact dI|fail) only[F26,bB,aB,push_cast,seval]
   refine ae.lentK hC [0,1] rfl (by simp(disch:=first|exact dI|fail) only[push_cast,seval]) (by simp(disch:=first|exact dI|fail) only[push_cast,seval]) ?_
   simp(disch:=first|exact dI|fail) only[bB,aB,hA,push_cast,seval]
   exact aJ [] (by simp(disch:=first|exact dI|fail) only[e2,push_cast,seval]))
def stB:List UInt8→List Blk
 | []=>[.none]
 | _::_=>[.none,.none]
theorem B3 (t:Bool)(l:List UInt8)(hl:l.length≤100000000):bu Tryz.prog aA 1 27 [.ptr 0 0] (bB t l) (.pv (.str l)) (stB l):=by
 refine bu.intro HA (by simp[F27]) ?_
 cases l with
 | nil=>
   cases t<;>(
   try simp only[bB,aB] at hC
   simp(disch:=first|exact dI|fail) only[F27,bB,aB,push_cast,seval]
   exact aJ [] (by simp(disch:=first|exact dI|fail) only[stB,push_cast,seval]))
 | cons b r=>
   have hA:=fun (k:Int) (q:Nat) (hk:k=((b::r).length:Int))=>xb (t:=5) (r:=q) (f:=false) (l:=b::r) hk (by simp) (by simp at hl ⊢;omega)
   cases t<;>(
   try simp only[bB,aB] at hC
   simp(disch:=first|exact dI|fail) only[F27,bB,aB,hA,push_cast,seval]
   exact aJ [] (by simp(disch:=first|exact dI|fail) only[stB,push_cast,seval]))
end Go.Proofs.YtedanlflegfomaaGreatDoor

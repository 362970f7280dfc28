/- A part of the proof for FixedwidthRepresentableCardSaid. -/
import Derived.Test.YtbojpfpliibfbaaGreatDoorReRC19
import Derived.Test.YtbojpfpliibfbaaGreatDoorReF
import Derived.Test.YtbojpfpliibfbaaGreatDoorReRWC
import Derived.Test.YtbojpfpliibfbaaGreatDoorReCore6
set_option maxRecDepth 100000
set_option linter.unusedVariables false
set_option linter.unusedSimpArgs false
-- many steps
namespace Go.Proofs.YtbojpfpliibfbaaGreatDoor
open Go Go.Ab
attribute [local irreducible] vc
set_option maxHeartbeats 4000000 in
theorem Gk (k m M s:Int)(w:List (List UInt8))(e:List Typ)(f:List TFd)(ho:bh (.mk k m M s w e f)=0)(ht:(Typ.mk k m M s w e f).ok)(hk:1≤k∧k≤7):ag Tryz.prog aD 30 [(Typ.mk k m M s w e f).pv] (.int .i64 (gw (.mk k m M s w e f))):=by
 rw[Typ.ok_mk] at ht
 have hwl:w.length≤9000000000000:=by omega
 clear ht
 by_cases h23:k=2∨k=3
 ·obtain⟨sc,rfl,hm,hM⟩:=uU ho h23
  have h1:=oX (k:=k) (m:=m) (M:=M) (w:=w) (e:=e) (f:=f) hm
  have h2:=oX (k:=k) (m:=m) (M:=M) (w:=w) (e:=e) (f:=f) hM
  rw[show gw (.mk k m M (sc:Int) w e f)=max ((jZ m sc).length:Int) ((jZ M sc).length:Int) by simp only[gw,if_pos h23,Int.toNat_natCast]]
  generalize jZ m sc=a at *
  generalize jZ M sc=b at *
  simp only[Typ.pv_mk] at h1 h2
  refine ag.intro j9 (by simp[F30]) ?_
  rcases h23 with rfl | rfl
  ·simp(maxSteps:=9^7) (disch:=try exact dI) only[F30,Typ.pv_mk,push_cast,seval]
   refine aA h1 rfl ?_
   simp(maxSteps:=9^7) (disch:=try exact dI) only[push_cast,seval]
   refine aA h2 rfl ?_
   simp(maxSteps:=9^7) (disch:=try exact dI) only[push_cast,seval]
  ·simp(maxSteps:=9^7) (disch:=try exact dI) only[F30,Typ.pv_mk,push_cast,seval]
   refine aA h1 rfl ?_
   simp(maxSteps:=9^7) (disch:=try exact dI) only[push_cast,seval]
   refine aA h2 rfl ?_
   simp(maxSteps:=9^7) (disch:=try exact dI) only[push_cast,seval]
 by_cases h4:k=4
 ·subst h4
  rw[show gw (.mk 4 m M s w e f)=max (pY w M) 1 from rfl,← ou]
  refine ag.intro j9 (by simp[F30]) ?_
  simp(maxSteps:=9^7) (disch:=try exact dI) only[F30,Typ.pv_mk,push_cast,seval]
  refine aw ([]) (fun i:Nat=>[(3,.pv (.int .i64 (pY (w.take i) (max 1 M)))),(4,.pv (.int .i64 (i:Int)))]) (fun _=>[]) (fun i=>i≤w.length) (fun i=>w.length - i) (0) ?_;intro e0 σ0 n0 h0;simp(maxSteps:=9^7) (disch:=try exact dI) only[push_cast,seval] at h0;obtain⟨rfl,rfl,rfl⟩:=h0;refine⟨?_,?_,?_⟩
  ·simp(maxSteps:=9^7) (disch:=try exact dI) only[List.take_zero,pY,List.foldl_nil,push_cast,seval]
  ·omega
  rintro i hi
  by_cases hlt:i<w.length
  ·have hltI:(i:Int)<(w.length:Int):=by omega
   obtain⟨x,hx⟩:∃ x,w[i]? = some x:=⟨_,List.getElem?_eq_getElem hlt⟩
   have hst:=ld hx (max 1 M)
   simp(maxSteps:=9^7) (disch:=try exact dI) only[hx,Option.map_some,push_cast,seval]
   exact⟨i+1,aT (by simp(maxSteps:=9^7) (disch:=try exact dI) only[hst,push_cast,seval]),by omega,by omega⟩
  ·obtain rfl:i=w.length:=by omega
   rw[List.take_length]
   simp(maxSteps:=9^7) (disch:=try exact dI) only[Int.lt_irrefl,push_cast,seval]
 by_cases h5:k=5
 ·subst h5
  have hM:=uT ho
  rw[show gw (.mk 5 m M s w e f)=max (2*M) 1 from rfl,Int.max_comm]
  refine ag.intro j9 (by simp[F30]) ?_
  simp(maxSteps:=9^7) (disch:=try exact dI) only[F30,Typ.pv_mk,push_cast,seval]
 by_cases h6:k=6
 ·subst h6
  rw[show gw (.mk 6 m M s w e f)=10 from rfl]
  refine ag.intro j9 (by simp[F30]) ?_
  simp(maxSteps:=9^7) (disch:=try exact dI) only[F30,Typ.pv_mk,push_cast,seval]
 by_cases h7:k=7
 ·subst h7
  rw[show gw (.mk 7 m M s w e f)=24 from rfl]
  refine ag.intro j9 (by simp[F30]) ?_
  simp(maxSteps:=9^7) (disch:=try exact dI) only[F30,Typ.pv_mk,push_cast,seval]
 ·obtain rfl:k=1:=by omega
  rw[show gw (.mk 1 m M s w e f)=1 from rfl]
  refine ag.intro j9 (by simp[F30]) ?_
  simp(maxSteps:=9^7) (disch:=try exact dI) only[F30,Typ.pv_mk,push_cast,seval]
end Go.Proofs.YtbojpfpliibfbaaGreatDoor
-- many steps
namespace Go.Proofs.YtbojpfpliibfbaaGreatDoor
open Go Go.Ab
attribute [local irreducible] vc
theorem CN {t:Typ}(h:oA t=0):tyV 8 t:=by
 unfold oA at h
 by_cases h0:(bO 0 8 4096 t).1=0
 ·exact eu 8 4096 t h0
 ·rw[if_neg h0] at h;exact absurd h h0
theorem CK {n:Nat}{t:Typ}(h:tyV n t):bh t=0:=by
 cases n with
 | zero=>exact h.elim
 | succ n=>obtain⟨k,m,M,s,w,e,f⟩:=t;exact h.1
theorem HW {n:Nat}{t:Typ}(h:tyV n t)(ht:t.ok)(hs:scB t.kind=true):ag Tryz.prog aD 35 [t.pv] (.int .i64 (gw t))∧ag Tryz.prog aD 30 [t.pv] (.int .i64 (gw t)):=by
 have ho:=CK h
 obtain⟨k,m,M,s,w,e,f⟩:=t
 have hk:1≤k∧k≤7:=by
  simp only[scB,Typ.kind,Bool.and_eq_true,decide_eq_true_eq] at hs
  exact⟨of_decide_eq_true hs.1,of_decide_eq_true hs.2⟩
 exact⟨DF k m M s w e f ho ht hk,Gk k m M s w e f ho ht hk⟩
theorem pm {t:Typ}(h:e5 t=true):t.kind=9∧0<t.fields.length∧∀ g∈t.fields,scB g.typ.kind=true:=by
 obtain⟨k,m,M,s,w,e,f⟩:=t
 simp only[e5,Bool.and_eq_true,decide_eq_true_eq,Bool.not_eq_true'] at h
 refine⟨h.1,h.2.1,fun g hg=>?_⟩
 have:=List.any_eq_false.1 h.2.2 g hg
 rw[wX] at this
 cases hb:scB g.typ.kind with
 | true=>rfl
 | false=>rw[hb] at this;exact absurd rfl this
theorem Fz {t:Typ}(h:oA t=0)(ht:t.ok)(hf:e5 t=true):∀ g∈t.fields,ag Tryz.prog aD 35 [g.typ.pv] (.int .i64 (gw g.typ))∧ag Tryz.prog aD 30 [g.typ.pv] (.int .i64 (gw g.typ)):=fun g hg=>by
 have hty:=CN h
 obtain⟨h9,_,hs⟩:=pm hf
 have hsg:=hs g hg
 obtain⟨k,m,M,s,w,e,f⟩:=t
 rw[Typ.ok_mk] at ht
 exact HW (hty.2.2 (.inl h9) g hg).1 (df (ht.2.2.2.2.2.2.2.2.2 g hg)).1 hsg
theorem kJ {t:Typ}(h:flE t=0):oA t=0∧e5 t=true:=by
 unfold flE at h
 by_cases hz:oA t=0
 ·rw[if_pos hz] at h
  cases hb:e5 t with
  | true=>exact⟨hz,rfl⟩
  | false=>rw[hb,if_neg (by decide)] at h;cases h
 ·rw[if_neg hz] at h;exact absurd h hz
end Go.Proofs.YtbojpfpliibfbaaGreatDoor
-- many steps
namespace Go.Proofs.YtbojpfpliibfbaaGreatDoor
open Go Go.Ab
attribute [local irreducible] vc
def sH (s:List UInt8):Bool:=decide (s[s.length - 1]? = some 32)
def nO (c:UInt8):Bool:=decide (c.toNat<32)
def wrB (s:List UInt8):Bool:=!sH s&&!(s.any nO)
theorem wP {s:List UInt8}{c:UInt8}(h:s[s.length - 1]? = some c):s.drop (s.length - 1)=[c]:=by
 have hi:=(List.getElem?_eq_some_iff.1 h).1
 have he:s[s.length - 1]=c:=(List.getElem?_eq_some_iff.1 h).2
 rw[List.drop_eq_getElem_cons hi,he,List.drop_of_length_le (by omega)]
theorem tH (s:List UInt8)(hs:s.length≤140737488351232):ag Tryz.prog aD 132 [.str s,.str [32]] (.bool (sH s)):=by
 by_cases h0:s=[]
 ·subst h0
  rw[show sH []=false from rfl]
  refine ag.intro yj (by simp[HU]) ?_
  simp(maxSteps:=9^7) (disch:=try exact dI) only[HU,push_cast,seval]
 ·have hp:0<s.length:=List.length_pos_iff.2 h0
  obtain⟨c,hc⟩:∃ c,s[s.length - 1]? = some c:=⟨_,List.getElem?_eq_getElem (by omega)⟩
  have hd:=wP hc
  have h1:(1:Int)≤(s.length:Int):=by omega
  have et:((s.length:Int) - 1).toNat=s.length - 1:=by omega
  have hEq:sH s=decide (c=32):=by unfold sH;rw[hc];simp
  rw[hEq]
  refine ag.intro yj (by simp[HU]) ?_
  by_cases h:c=32
  ·subst h
   rw[decide_eq_true rfl]
   simp(maxSteps:=9^7) (disch:=try exact dI) only[HU,h1,et,hd,List.take_length,push_cast,seval]
  ·rw[decide_eq_false h]
   have hne:¬ [c]=([32]:List UInt8):=by simpa using h
   simp(maxSteps:=9^7) (disch:=try exact dI) only[HU,h1,et,hd,List.take_length,hne,push_cast,seval]
theorem y9 (s:List UInt8)(hs:s.length≤140737488351232):ag Tryz.prog aD 77 [.str s,.str [32]] (.bool (sH s)):=by
 have h:=tH s hs
 generalize sH s=b at *
 refine ag.intro Ke (by simp[F77]) ?_
 simp(maxSteps:=9^7) (disch:=try exact dI) only[F77,push_cast,seval]
 refine ab.pure h rfl ?_
 simp(maxSteps:=9^7) (disch:=try exact dI) only[push_cast,seval]
theorem L7 (c:UInt8):ag Tryz.prog aD 79 [.int .u8 (c.toNat:Int)] (.bool (nO c)):=by
 unfold nO
 refine ag.intro Kc (by simp[F79]) ?_
 by_cases h:c.toNat<32
 ·have hI:(c.toNat:Int)<32:=by omega
  rw[decide_eq_true h]
  simp(maxSteps:=9^7) (disch:=try exact dI) only[F79,hI,push_cast,seval]
 ·have hI:¬ (c.toNat:Int)<32:=by omega
  rw[decide_eq_false h]
  simp(maxSteps:=9^7) (disch:=try exact dI) only[F79,hI,push_cast,seval]
theorem xG (s:List UInt8):(aW s).length=s.length:=by simp[aW]
theorem Ci {s:List UInt8}{i:Nat}{c:UInt8}(h:s[i]? = some c):(aW s)[i]? = some (.int .u8 (c.toNat:Int)):=by simp[aW,h]
theorem BE (s:List UInt8)(hs:s.length≤140737488351232):ag Tryz.prog aD 133 [.list (aW s),.clo 79 [] []] (.int .i64 (dy nO s 0)):=by
 refine ag.intro Hq (by simp[Nh]) ?_
 simp(maxSteps:=9^7) (disch:=try exact dI) only[Nh,xG,push_cast,seval]
 refine aw ([]) (fun m:Nat=>[(8,.pv (.int .i64 (m:Int)))]) (fun m=>[]) (fun m=>m≤s.length∧dy nO s 0=dy nO (s.drop m) m) (fun m=>s.length - m) (0) ?_;intro e0 σ0 n0 h0;simp(maxSteps:=9^7) (disch:=try exact dI) only[push_cast,seval] at h0;obtain⟨rfl,rfl,rfl⟩:=h0;refine⟨?_,?_,?_⟩
 ·simp(maxSteps:=9^7) (disch:=try exact dI) only[push_cast,seval]
 ·exact⟨by omega,by simp⟩
 ·rintro m ⟨hm,he⟩
  by_cases hlt:m<s.length
  ·have hltI:(m:Int)<s.length:=by omega
   obtain⟨x,hx⟩:∃ x,s[m]? = some x:=⟨_,List.getElem?_eq_getElem hlt⟩
   have hcall:=L7 x
   have hx':=Ci hx
   simp(maxSteps:=9^7) (disch:=try exact dI) only[hx',push_cast,seval]
   refine ab.pure hcall rfl ?_
   cases hqx:nO x with
   | true=>
     rw[he,dn hx hqx]
     simp(maxSteps:=9^7) (disch:=try exact dI) only[push_cast,seval]
   | false=>
     rw[cl hx hqx] at he
     simp(maxSteps:=9^7) (disch:=try exact dI) only[push_cast,seval]
     exact⟨m+1,aT qsZ,⟨by omega,he⟩,by omega⟩
  ·have hltI:¬ (m:Int)<s.length:=by omega
   rw[he,dp hlt]
   simp(maxSteps:=9^7) (disch:=try exact dI) only[push_cast,seval]
theorem r5 (s:List UInt8)(hs:s.length≤140737488351232):ag Tryz.prog aD 78 [.list (aW s),.clo 79 [] []] (.bool (s.any nO)):=by
 have h94:=BE s hs
 have hfa:=dS (p:=nO) s
 refine ag.intro Kd (by simp[F78]) ?_
 rcases bB (p:=nO) s 0 with ⟨h1,h2⟩ | ⟨k,x,h1,h2,h3⟩
 ·rw[h2] at h94
  rw[h1] at hfa
  rw[← hfa]
  simp(maxSteps:=9^7) (disch:=try exact dI) only[F78,push_cast,seval]
  refine ab.pure h94 rfl ?_
  simp(maxSteps:=9^7) (disch:=try exact dI) only[push_cast,seval]
  rfl
 ·rw[h3] at h94
  rw[h2] at hfa
  rw[← hfa]
  have hk:(0:Int)≤((0+k:Nat):Int):=by omega
  generalize ((0+k:Nat):Int)=z at *
  simp(maxSteps:=9^7) (disch:=try exact dI) only[F78,push_cast,seval]
  refine ab.pure h94 rfl ?_
  simp(maxSteps:=9^7) (disch:=try exact dI) only[push_cast,seval]
  rfl
theorem mK (e:List (Nat×AV))(σ:List (Nat×Blk))(new:Nat)(x:AX):HE e σ new (.ofStr x)=eQ new (evE e x):=_root_.id rfl
theorem qJ (new:Nat){k:List UInt8}(h:k.length≤140737488355328):eQ new (.pv (.str k))=some (.pv (.list (aW k)),[(new,.none)]):=by simp[eQ,h]
theorem sM (s:List UInt8)(hs:s.length≤140737488351232):ag Tryz.prog aD 39 [.str s] (.bool (wrB s)):=by
 have h66:=y9 s hs
 have h67:=r5 s hs
 unfold wrB
 have hof:=fun new=>qJ new (k:=s) (by omega)
 generalize sH s=a at *
 generalize s.any nO=b at *
 refine ag.intro Kv (by simp[F39]) ?_
 simp(maxSteps:=9^7) (disch:=try exact dI) only[F39,push_cast,seval]
 refine ab.pure h66 rfl ?_
 cases a with
 | true=>simp(maxSteps:=9^7) (disch:=try exact dI) only[push_cast,seval]
 | false=>
   simp(maxSteps:=9^7) (disch:=try exact dI) only[mK,hof,push_cast,seval]
   refine ab.pure h67 rfl ?_
   simp(maxSteps:=9^7) (disch:=try exact dI) only[push_cast,seval]
end Go.Proofs.YtbojpfpliibfbaaGreatDoor

/- A part of the proof for FixedwidthRepresentableCardSaid. -/
import Derived.Test.YtbojpfpliibfbaaGreatDoorReRR2
import Derived.Test.YtbojpfpliibfbaaGreatDoorReCore6
set_option maxRecDepth 100000
set_option linter.unusedVariables false
set_option linter.unusedSimpArgs false
-- many steps
namespace Go.Proofs.YtbojpfpliibfbaaGreatDoor
open Go Go.Ab
attribute [local irreducible] vc
theorem pX (e:List (Nat×AV))(σ:List (Nat×Blk))(new:Nat)(x:AX):HE e σ new (.ofStr x)=eQ new (evE e x):=_root_.id rfl
theorem um (new:Nat){k:List UInt8}(h:k.length≤140737488355328):eQ new (.pv (.str k))=some (.pv (.list (aW k)),[(new,.none)]):=by simp only[eQ];rw[if_pos h]
def gn (c:UInt8):Bool:=decide (97≤c.toNat)&&decide (c.toNat≤122)
def okC (c:UInt8):Bool:=gn c||(decide (48≤c.toNat)&&decide (c.toNat≤57))||decide (c.toNat=95)
def bM (s:List UInt8):Bool:=decide (0<s.length)&&(decide (s.length≤32)&&(gn (s.headD 0)&&s.all okC))
theorem su (s:List UInt8):(aW s).length=s.length:=by simp[aW]
theorem xH {s:List UInt8}{i:Nat}{c:UInt8}(h:s[i]? = some c):(aW s)[i]? = some (.int .u8 (c.toNat:Int)):=by simp[aW,h]
theorem pR {s:List UInt8}{i:Nat}{c:UInt8}(h:s[i]? = some c):(s.take (i+1)).all okC=((s.take i).all okC&&okC c):=by rw[aI h];simp
theorem f7 {s:List UInt8}{i:Nat}{c:UInt8}(h:s[i]? = some c)(hc:okC c=false):s.all okC=false:=by
 rw[Bool.eq_false_iff]
 intro ha
 have:=List.all_eq_true.1 ha c (List.mem_of_getElem? h)
 rw[hc] at this;cases this
set_option maxHeartbeats 2000000 in
theorem nE (s:List UInt8):ag Tryz.prog aD 258 [.str s] (.bool (bM s)):=by
 cases s with
 | nil=>
   rw[show bM []=false from rfl]
   refine ag.intro yb (by simp[Dw]) ?_
   simp(maxSteps:=9^7) (disch:=try exact dI) only[Dw,push_cast,seval]
 | cons c r=>
   generalize hs:c::r=s
   have hne:¬ s=[]:=by rw[← hs];simp
   have h0:s[0]? = some c:=by rw[← hs];rfl
   have hh:s.headD 0=c:=by rw[← hs];rfl
   have hlen:0<s.length:=by rw[← hs];simp
   clear hs
   refine ag.intro yb (by simp[Dw]) ?_
   by_cases h32:s.length≤32
   ·by_cases ha:97≤c.toNat
    ·by_cases hz:c.toNat≤122
     ·have e:bM s=s.all okC:=by simp only[bM,hh,gn,decide_eq_true hlen,decide_eq_true h32,decide_eq_true ha,decide_eq_true hz,Bool.true_and]
      rw[e]
      simp(maxSteps:=9^7) (disch:=try exact dI) only[Dw,hne,h0,aY,pX,um,su,push_cast,seval]
      refine aw ([]) (fun i:Nat=>[(25,.pv (.int .i64 (i:Int)))]) (fun _=>[]) (fun i=>i≤s.length∧(s.take i).all okC=true) (fun i=>s.length - i) (0) ?_;intro e0 σ0 n0 h0;simp(maxSteps:=9^7) (disch:=try exact dI) only[push_cast,seval] at h0;obtain⟨rfl,rfl,rfl⟩:=h0;refine⟨?_,?_,?_⟩
      ·simp(maxSteps:=9^7) (disch:=try exact dI) only[push_cast,seval]
      ·exact⟨by omega,by simp⟩
      rintro i ⟨hi,hall⟩
      by_cases hlt:i<s.length
      ·have hltI:(i:Int)<(s.length:Int):=by omega
       obtain⟨b,hb⟩:∃ b,s[i]? = some b:=⟨_,List.getElem?_eq_getElem hlt⟩
       have hbp:=xH hb
       have hbn:=b.toNat_lt
       have hsn:=pR hb
       rw[hall,Bool.true_and] at hsn
       have hc:b.toNat<48∨(48≤b.toNat∧b.toNat≤57)∨(57<b.toNat∧b.toNat<97∧b.toNat≠95)∨b.toNat=95∨(97≤b.toNat∧b.toNat≤122)∨122<b.toNat:=by omega
       rcases hc with hc | hc | hc | hc | hc | hc
       ·have hbad:s.all okC=false:=f7 hb (by simp[okC,gn];omega)
        rw[hbad]
        simp(maxSteps:=9^7) (disch:=try exact dI) only[hbp,push_cast,seval]
       ·have hok:okC b=true:=by simp[okC,gn];omega
        simp(maxSteps:=9^7) (disch:=try exact dI) only[hbp,push_cast,seval]
        exact⟨i+1,aT qsZ,⟨by omega,by rw[hsn,hok]⟩,by omega⟩
       ·have hbad:s.all okC=false:=f7 hb (by simp[okC,gn];omega)
        rw[hbad]
        simp(maxSteps:=9^7) (disch:=try exact dI) only[hbp,push_cast,seval]
       ·have hok:okC b=true:=by simp[okC,gn];omega
        simp(maxSteps:=9^7) (disch:=try exact dI) only[hbp,push_cast,seval]
        exact⟨i+1,aT qsZ,⟨by omega,by rw[hsn,hok]⟩,by omega⟩
       ·have hok:okC b=true:=by simp[okC,gn];omega
        simp(maxSteps:=9^7) (disch:=try exact dI) only[hbp,push_cast,seval]
        exact⟨i+1,aT qsZ,⟨by omega,by rw[hsn,hok]⟩,by omega⟩
       ·have hbad:s.all okC=false:=f7 hb (by simp[okC,gn];omega)
        rw[hbad]
        simp(maxSteps:=9^7) (disch:=try exact dI) only[hbp,push_cast,seval]
      ·have he:s.take i=s:=List.take_of_length_le (by omega)
       rw[he] at hall
       rw[hall]
       simp(maxSteps:=9^7) (disch:=try exact dI) only[push_cast,seval]
     ·have e:bM s=false:=by simp only[bM,hh,gn,decide_eq_false hz,Bool.and_false,Bool.false_and]
      rw[e]
      simp(maxSteps:=9^7) (disch:=try exact dI) only[Dw,hne,h0,aY,push_cast,seval]
    ·have e:bM s=false:=by simp only[bM,hh,gn,decide_eq_false ha,Bool.and_false,Bool.false_and]
     rw[e]
     simp(maxSteps:=9^7) (disch:=try exact dI) only[Dw,hne,h0,aY,push_cast,seval]
   ·have e:bM s=false:=by simp[bM,h32]
    rw[e]
    simp(maxSteps:=9^7) (disch:=try exact dI) only[Dw,hne,push_cast,seval]
end Go.Proofs.YtbojpfpliibfbaaGreatDoor

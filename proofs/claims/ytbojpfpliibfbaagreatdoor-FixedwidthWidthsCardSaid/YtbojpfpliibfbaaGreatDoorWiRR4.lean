/- A part of the proof for FixedwidthWidthsCardSaid. -/
import Derived.Test.YtbojpfpliibfbaaGreatDoorWiRR2
import Derived.Test.YtbojpfpliibfbaaGreatDoorWiCore6
set_option maxRecDepth 100000
set_option linter.unusedVariables false
set_option linter.unusedSimpArgs false
-- many steps
namespace Go.Proofs.YtbojpfpliibfbaaGreatDoor
open Go Go.Ab
attribute [local irreducible] vc
theorem pS (e:List (Nat×AV))(σ:List (Nat×Blk))(new:Nat)(x:AX):Hz e σ new (.ofStr x)=ir new (evE e x):=_root_.id rfl
theorem ub (new:Nat){k:List UInt8}(h:k.length≤140737488355328):ir new (.pv (.str k))=some (.pv (.list (bm k)),[(new,.none)]):=by simp only[ir];rw[if_pos h]
def gn (c:UInt8):Bool:=decide (97≤c.toNat)&&decide (c.toNat≤122)
def okC (c:UInt8):Bool:=gn c||(decide (48≤c.toNat)&&decide (c.toNat≤57))||decide (c.toNat=95)
def bK (s:List UInt8):Bool:=decide (0<s.length)&&(decide (s.length≤32)&&(gn (s.headD 0)&&s.all okC))
theorem se (s:List UInt8):(bm s).length=s.length:=by simp[bm]
theorem xw {s:List UInt8}{i:Nat}{c:UInt8}(h:s[i]? = some c):(bm s)[i]? = some (.int .u8 (c.toNat:Int)):=by simp[bm,h]
theorem pO {s:List UInt8}{i:Nat}{c:UInt8}(h:s[i]? = some c):(s.take (i+1)).all okC=((s.take i).all okC&&okC c):=by rw[aL h];simp
theorem f5 {s:List UInt8}{i:Nat}{c:UInt8}(h:s[i]? = some c)(hc:okC c=false):s.all okC=false:=by
 rw[Bool.eq_false_iff]
 intro ha
 have:=List.all_eq_true.1 ha c (List.mem_of_getElem? h)
 rw[hc] at this;cases this
set_option maxHeartbeats 2000000 in
theorem nD (s:List UInt8):ae Tryz.prog aD 258 [.str s] (.bool (bK s)):=by
 cases s with
 | nil=>
   rw[show bK []=false from rfl]
   refine ae.intro xV (by simp[De]) ?_
   simp(maxSteps:=9^7) (disch:=try exact dI) only[De,push_cast,seval]
 | cons c r=>
   generalize hs:c::r=s
   have hne:¬ s=[]:=by rw[← hs];simp
   have h0:s[0]? = some c:=by rw[← hs];rfl
   have hh:s.headD 0=c:=by rw[← hs];rfl
   have hlen:0<s.length:=by rw[← hs];simp
   clear hs
   refine ae.intro xV (by simp[De]) ?_
   by_cases h32:s.length≤32
   ·by_cases ha:97≤c.toNat
    ·by_cases hz:c.toNat≤122
     ·have e:bK s=s.all okC:=by simp only[bK,hh,gn,decide_eq_true hlen,decide_eq_true h32,decide_eq_true ha,decide_eq_true hz,Bool.true_and]
      rw[e]
      simp(maxSteps:=9^7) (disch:=try exact dI) only[De,hne,h0,aW,pS,ub,se,push_cast,seval]
      refine aA ([]) (fun i:Nat=>[(25,.pv (.int .i64 (i:Int)))]) (fun _=>[]) (fun i=>i≤s.length∧(s.take i).all okC=true) (fun i=>s.length - i) (0) ?_;intro e0 σ0 n0 h0;simp(maxSteps:=9^7) (disch:=try exact dI) only[push_cast,seval] at h0;obtain⟨rfl,rfl,rfl⟩:=h0;refine⟨?_,?_,?_⟩
      ·simp(maxSteps:=9^7) (disch:=try exact dI) only[push_cast,seval]
      ·exact⟨by omega,by simp⟩
      rintro i ⟨hi,hall⟩
      by_cases hlt:i<s.length
      ·have hltI:(i:Int)<(s.length:Int):=by omega
       obtain⟨b,hb⟩:∃ b,s[i]? = some b:=⟨_,List.getElem?_eq_getElem hlt⟩
       have hbp:=xw hb
       have hbn:=b.toNat_lt
       have hsn:=pO hb
       rw[hall,Bool.true_and] at hsn
       have hc:b.toNat<48∨(48≤b.toNat∧b.toNat≤57)∨(57<b.toNat∧b.toNat<97∧b.toNat≠95)∨b.toNat=95∨(97≤b.toNat∧b.toNat≤122)∨122<b.toNat:=by omega
       rcases hc with hc | hc | hc | hc | hc | hc
       ·have hbad:s.all okC=false:=f5 hb (by simp[okC,gn];omega)
        rw[hbad]
        simp(maxSteps:=9^7) (disch:=try exact dI) only[hbp,push_cast,seval]
       ·have hok:okC b=true:=by simp[okC,gn];omega
        simp(maxSteps:=9^7) (disch:=try exact dI) only[hbp,push_cast,seval]
        exact⟨i+1,aV qsZ,⟨by omega,by rw[hsn,hok]⟩,by omega⟩
       ·have hbad:s.all okC=false:=f5 hb (by simp[okC,gn];omega)
        rw[hbad]
        simp(maxSteps:=9^7) (disch:=try exact dI) only[hbp,push_cast,seval]
       ·have hok:okC b=true:=by simp[okC,gn];omega
        simp(maxSteps:=9^7) (disch:=try exact dI) only[hbp,push_cast,seval]
        exact⟨i+1,aV qsZ,⟨by omega,by rw[hsn,hok]⟩,by omega⟩
       ·have hok:okC b=true:=by simp[okC,gn];omega
        simp(maxSteps:=9^7) (disch:=try exact dI) only[hbp,push_cast,seval]
        exact⟨i+1,aV qsZ,⟨by omega,by rw[hsn,hok]⟩,by omega⟩
       ·have hbad:s.all okC=false:=f5 hb (by simp[okC,gn];omega)
        rw[hbad]
        simp(maxSteps:=9^7) (disch:=try exact dI) only[hbp,push_cast,seval]
      ·have he:s.take i=s:=List.take_of_length_le (by omega)
       rw[he] at hall
       rw[hall]
       simp(maxSteps:=9^7) (disch:=try exact dI) only[push_cast,seval]
     ·have e:bK s=false:=by simp only[bK,hh,gn,decide_eq_false hz,Bool.and_false,Bool.false_and]
      rw[e]
      simp(maxSteps:=9^7) (disch:=try exact dI) only[De,hne,h0,aW,push_cast,seval]
    ·have e:bK s=false:=by simp only[bK,hh,gn,decide_eq_false ha,Bool.and_false,Bool.false_and]
     rw[e]
     simp(maxSteps:=9^7) (disch:=try exact dI) only[De,hne,h0,aW,push_cast,seval]
   ·have e:bK s=false:=by simp[bK,h32]
    rw[e]
    simp(maxSteps:=9^7) (disch:=try exact dI) only[De,hne,push_cast,seval]
end Go.Proofs.YtbojpfpliibfbaaGreatDoor

/- A part of the proof for DelimitedRepresentableCardSaid. -/
import Derived.Test.YtbaaokocnegdoaaGreatDoorRepVR3
import Derived.Test.YtbaaokocnegdoaaGreatDoorCore6
set_option maxRecDepth 100000
set_option linter.unusedVariables false
set_option linter.unusedSimpArgs false
-- many steps
namespace Go.Proofs.YtbaaokocnegdoaaGreatDoor
open Go Go.Ab
attribute [local irreducible] vc
theorem qV (e:List (Nat×AV))(σ:List (Nat×Blk))(new:Nat)(x:AX):gu e σ new (.ofStr x)=iJ new (evE e x):=_root_.id rfl
theorem we (new:Nat){k:List UInt8}(h:k.length≤140737488355328):iJ new (.pv (.str k))=some (.pv (.list (aQ k)),[(new,.none)]):=by simp only[iJ];rw[if_pos h]
def gz (c:UInt8):Bool:=decide (97≤c.toNat)&&decide (c.toNat≤122)
def okC (c:UInt8):Bool:=gz c||(decide (48≤c.toNat)&&decide (c.toNat≤57))||decide (c.toNat=95)
def bK (s:List UInt8):Bool:=decide (0<s.length)&&(decide (s.length≤32)&&(gz (s.headD 0)&&s.all okC))
theorem tZ (s:List UInt8):(aQ s).length=s.length:=by simp[aQ]
theorem zF {s:List UInt8}{i:Nat}{c:UInt8}(h:s[i]? = some c):(aQ s)[i]? = some (.int .u8 (c.toNat:Int)):=by simp[aQ,h]
theorem qP {s:List UInt8}{i:Nat}{c:UInt8}(h:s[i]? = some c):(s.take (i+1)).all okC=((s.take i).all okC&&okC c):=by rw[aH h];simp
theorem gq {s:List UInt8}{i:Nat}{c:UInt8}(h:s[i]? = some c)(hc:okC c=false):s.all okC=false:=by
 rw[Bool.eq_false_iff]
 intro ha
 have:=List.all_eq_true.1 ha c (List.mem_of_getElem? h)
 rw[hc] at this;cases this
set_option maxHeartbeats 2000000 in
theorem ox (s:List UInt8):ak Tryz.prog aD 240 [.str s] (.bool (bK s)):=by
 cases s with
 | nil=>
   rw[show bK []=false from rfl]
   refine ak.intro pu (by simp[EE]) ?_
   simp(maxSteps:=9^7) (disch:=first|exact dI|fail) only[EE,push_cast,seval]
 | cons c r=>
   generalize hs:c::r=s
   have hne:¬ s=[]:=by rw[← hs];simp
   have h0:s[0]? = some c:=by rw[← hs];rfl
   have hh:s.headD 0=c:=by rw[← hs];rfl
   have hlen:0<s.length:=by rw[← hs];simp
   clear hs
   refine ak.intro pu (by simp[EE]) ?_
   by_cases h32:s.length≤32
   ·by_cases ha:97≤c.toNat
    ·by_cases hz:c.toNat≤122
     ·have e:bK s=s.all okC:=by simp only[bK,hh,gz,decide_eq_true hlen,decide_eq_true h32,decide_eq_true ha,decide_eq_true hz,Bool.true_and]
      rw[e]
      simp(maxSteps:=9^7) (disch:=first|exact dI|fail) only[EE,hne,h0,aZ,qV,we,tZ,push_cast,seval]
      refine aB ([]) (fun i:Nat=>[(25,.pv (.int .i64 (i:Int)))]) (fun _=>[]) (fun i=>i≤s.length∧(s.take i).all okC=true) (fun i=>s.length - i) (0) ?_;intro e0 σ0 n0 h0;simp(maxSteps:=9^7) (disch:=first|exact dI|fail) only[push_cast,seval] at h0;obtain⟨rfl,rfl,rfl⟩:=h0;refine⟨?_,?_,?_⟩
      ·simp(maxSteps:=9^7) (disch:=first|exact dI|fail) only[push_cast,seval]
      ·exact⟨by omega,by simp⟩
      rintro i ⟨hi,hall⟩
      by_cases hlt:i<s.length
      ·have hltI:(i:Int)<(s.length:Int):=by omega
       obtain⟨b,hb⟩:∃ b,s[i]? = some b:=⟨_,List.getElem?_eq_getElem hlt⟩
       have hbp:=zF hb
       have hbn:=b.toNat_lt
       have hsn:=qP hb
       rw[hall,Bool.true_and] at hsn
       have hc:b.toNat<48∨(48≤b.toNat∧b.toNat≤57)∨(57<b.toNat∧b.toNat<97∧b.toNat≠95)∨b.toNat=95∨(97≤b.toNat∧b.toNat≤122)∨122<b.toNat:=by omega
       rcases hc with hc | hc | hc | hc | hc | hc
       ·have hbad:s.all okC=false:=gq hb (by simp[okC,gz];omega)
        rw[hbad]
        simp(maxSteps:=9^7) (disch:=first|exact dI|fail) only[hbp,push_cast,seval]
       ·have hok:okC b=true:=by simp[okC,gz];omega
        simp(maxSteps:=9^7) (disch:=first|exact dI|fail) only[hbp,push_cast,seval]
        exact⟨i+1,bg (by simp(maxSteps:=9^7) (disch:=first|exact dI|fail) only[push_cast,seval]),⟨by omega,by rw[hsn,hok]⟩,by omega⟩
       ·have hbad:s.all okC=false:=gq hb (by simp[okC,gz];omega)
        rw[hbad]
        simp(maxSteps:=9^7) (disch:=first|exact dI|fail) only[hbp,push_cast,seval]
       ·have hok:okC b=true:=by simp[okC,gz];omega
        simp(maxSteps:=9^7) (disch:=first|exact dI|fail) only[hbp,push_cast,seval]
        exact⟨i+1,bg (by simp(maxSteps:=9^7) (disch:=first|exact dI|fail) only[push_cast,seval]),⟨by omega,by rw[hsn,hok]⟩,by omega⟩
       ·have hok:okC b=true:=by simp[okC,gz];omega
        simp(maxSteps:=9^7) (disch:=first|exact dI|fail) only[hbp,push_cast,seval]
        exact⟨i+1,bg (by simp(maxSteps:=9^7) (disch:=first|exact dI|fail) only[push_cast,seval]),⟨by omega,by rw[hsn,hok]⟩,by omega⟩
       ·have hbad:s.all okC=false:=gq hb (by simp[okC,gz];omega)
        rw[hbad]
        simp(maxSteps:=9^7) (disch:=first|exact dI|fail) only[hbp,push_cast,seval]
      ·have he:s.take i=s:=List.take_of_length_le (by omega)
       rw[he] at hall
       rw[hall]
       simp(maxSteps:=9^7) (disch:=first|exact dI|fail) only[push_cast,seval]
     ·have e:bK s=false:=by simp only[bK,hh,gz,decide_eq_false hz,Bool.and_false,Bool.false_and]
      rw[e]
      simp(maxSteps:=9^7) (disch:=first|exact dI|fail) only[EE,hne,h0,aZ,push_cast,seval]
    ·have e:bK s=false:=by simp only[bK,hh,gz,decide_eq_false ha,Bool.and_false,Bool.false_and]
     rw[e]
     simp(maxSteps:=9^7) (disch:=first|exact dI|fail) only[EE,hne,h0,aZ,push_cast,seval]
   ·have e:bK s=false:=by simp[bK,h32]
    rw[e]
    simp(maxSteps:=9^7) (disch:=first|exact dI|fail) only[EE,hne,push_cast,seval]
set_option maxHeartbeats 2000000 in
theorem ow (s:List UInt8):ak Tryz.prog aD 249 [.str s] (.bool (bK s)):=by
 refine ak.intro IP (by simp[L5]) ?_
 by_cases h1:0<s.length
 ·by_cases h32:s.length≤32
  ·have e:bK s=(gz (s.headD 0)&&s.all okC):=by simp only[bK,decide_eq_true h1,decide_eq_true h32,Bool.true_and]
   rw[e]
   have hd0:s[0]? = some (s.headD 0):=by cases s with
    | nil=>simp at h1
    | cons a b=>rfl
   simp(maxSteps:=9^7) (disch:=first|exact dI|fail) only[L5,push_cast,seval]
   refine aB ([]) (fun i:Nat=>[(3,.pv (.int .i64 (i:Int)))]) (fun _=>[]) (fun i=>i≤s.length∧(s.take i).all okC=true∧(0<i→gz (s.headD 0)=true)) (fun i=>s.length - i) (0) ?_;intro e0 σ0 n0 h0;simp(maxSteps:=9^7) (disch:=first|exact dI|fail) only[push_cast,seval] at h0;obtain⟨rfl,rfl,rfl⟩:=h0;refine⟨?_,?_,?_⟩
   ·simp(maxSteps:=9^7) (disch:=first|exact dI|fail) only[push_cast,seval]
   ·exact⟨by omega,by simp,by omega⟩
   rintro i ⟨hi,hall,hl0⟩
   by_cases hlt:i<s.length
   ·have hltI:(i:Int)<(s.length:Int):=by omega
    obtain⟨b,hb⟩:∃ b,s[i]? = some b:=⟨_,List.getElem?_eq_getElem hlt⟩
    have hbn:=b.toNat_lt
    have hsn:=qP hb
    rw[hall,Bool.true_and] at hsn
    by_cases hlt2:97≤b.toNat∧b.toNat≤122
    ·have hok:okC b=true:=by simp[okC,gz];omega
     have hlet:0<i+1→gz (s.headD 0)=true:=by
      intro _
      by_cases hi0:i=0
      ·subst hi0
       rw[hb] at hd0
       rw[← Option.some.inj hd0]
       simp[gz];omega
      ·exact hl0 (by omega)
     simp(maxSteps:=9^7) (disch:=first|exact dI|fail) only[hb,aZ,push_cast,seval]
     exact⟨i+1,bg (by simp(maxSteps:=9^7) (disch:=first|exact dI|fail) only[push_cast,seval]),⟨by omega,by rw[hsn,hok],hlet⟩,by omega⟩
    ·by_cases hi0:i=0
     ·subst hi0
      have hbad:(gz (s.headD 0)&&s.all okC)=false:=by
       rw[hb] at hd0
       rw[← Option.some.inj hd0]
       simp only[gz,Bool.and_eq_false_iff,decide_eq_false_iff_not];left;omega
      rw[hbad]
      have hc:b.toNat<97∨122<b.toNat:=by omega
      rcases hc with hc | hc
      ·simp(maxSteps:=9^7) (disch:=first|exact dI|fail) only[hb,aZ,push_cast,seval]
      ·simp(maxSteps:=9^7) (disch:=first|exact dI|fail) only[hb,aZ,push_cast,seval]
     ·have hi0I:¬ (i:Int)=0:=by omega
      have hl:=hl0 (by omega)
      have hc:b.toNat<48∨(48≤b.toNat∧b.toNat≤57)∨(57<b.toNat∧b.toNat<97∧b.toNat≠95)∨b.toNat=95∨122<b.toNat:=by omega
      rcases hc with hc | hc | hc | hc | hc
      ·have hbad:(gz (s.headD 0)&&s.all okC)=false:=by rw[gq hb (by simp[okC,gz];omega),Bool.and_false]
       rw[hbad]
       simp(maxSteps:=9^7) (disch:=first|exact dI|fail) only[hb,aZ,push_cast,seval]
      ·have hok:okC b=true:=by simp[okC,gz];omega
       simp(maxSteps:=9^7) (disch:=first|exact dI|fail) only[hb,aZ,push_cast,seval]
       exact⟨i+1,bg (by simp(maxSteps:=9^7) (disch:=first|exact dI|fail) only[push_cast,seval]),⟨by omega,by rw[hsn,hok],fun _=>hl⟩,by omega⟩
      ·have hbad:(gz (s.headD 0)&&s.all okC)=false:=by rw[gq hb (by simp[okC,gz];omega),Bool.and_false]
       rw[hbad]
       simp(maxSteps:=9^7) (disch:=first|exact dI|fail) only[hb,aZ,push_cast,seval]
      ·have hok:okC b=true:=by simp[okC,gz];omega
       simp(maxSteps:=9^7) (disch:=first|exact dI|fail) only[hb,aZ,push_cast,seval]
       exact⟨i+1,bg (by simp(maxSteps:=9^7) (disch:=first|exact dI|fail) only[push_cast,seval]),⟨by omega,by rw[hsn,hok],fun _=>hl⟩,by omega⟩
      ·have hbad:(gz (s.headD 0)&&s.all okC)=false:=by rw[gq hb (by simp[okC,gz];omega),Bool.and_false]
       rw[hbad]
       simp(maxSteps:=9^7) (disch:=first|exact dI|fail) only[hb,aZ,push_cast,seval]
   ·have he:s.take i=s:=List.take_of_length_le (by omega)
    rw[he] at hall
    rw[hall,hl0 (by omega)]
    simp(maxSteps:=9^7) (disch:=first|exact dI|fail) only[push_cast,seval]
  ·have e:bK s=false:=by simp[bK,h32]
   rw[e]
   simp(maxSteps:=9^7) (disch:=first|exact dI|fail) only[L5,push_cast,seval]
 ·have e:bK s=false:=by simp[bK,h1]
  rw[e]
  simp(maxSteps:=9^7) (disch:=first|exact dI|fail) only[L5,push_cast,seval]
end Go.Proofs.YtbaaokocnegdoaaGreatDoor

/- A part of the proof for LiteralQuotesCardSaid. -/
import Derived.Test.YtamoeblcphjbaaaGreatDoorQuLR2
import Derived.Test.YtamoeblcphjbaaaGreatDoorCore6
set_option maxRecDepth 100000
set_option linter.unusedVariables false
set_option linter.unusedSimpArgs false
-- many steps
namespace Go.Proofs.YtamoeblcphjbaaaGreatDoor
open Go Go.Ab
attribute [local irreducible] vc
theorem sD (e:List (Nat×AV))(σ:List (Nat×Blk))(new:Nat)(x:AX):eD e σ new (.ofStr x)=iR new (evE e x):=_root_.id rfl
theorem xW (new:Nat){k:List UInt8}(h:k.length≤140737488355328):iR new (.pv (.str k))=some (.pv (.list (az k)),[(new,.none)]):=by simp only[iR];rw[if_pos h]
def zG (c:UInt8):Bool:=decide (97≤c.toNat)&&decide (c.toNat≤122)
def okC (c:UInt8):Bool:=zG c||(decide (48≤c.toNat)&&decide (c.toNat≤57))||decide (c.toNat=95)
def db (s:List UInt8):Bool:=decide (0<s.length)&&(decide (s.length≤32)&&(zG (s.headD 0)&&s.all okC))
theorem vO (s:List UInt8):(az s).length=s.length:=by simp[az]
theorem BD {s:List UInt8}{i:Nat}{c:UInt8}(h:s[i]? = some c):(az s)[i]? = some (.int .u8 (c.toNat:Int)):=by simp[az,h]
theorem FN {s:List UInt8}{i:Nat}{c:UInt8}(h:s[i]? = some c):(s.take (i+1)).all okC=((s.take i).all okC&&okC c):=by rw[bt h];simp
theorem qC {s:List UInt8}{i:Nat}{c:UInt8}(h:s[i]? = some c)(hc:okC c=false):s.all okC=false:=by
 rw[Bool.eq_false_iff]
 intro ha
 have:=List.all_eq_true.1 ha c (List.mem_of_getElem? h)
 rw[hc] at this;cases this
set_option maxHeartbeats 2000000 in
theorem k8 (s:List UInt8):aw Tryz.prog aF 82 [.str s] (.bool (db s)):=by
 cases s with
 | nil=>
   rw[show db []=false from rfl]
   refine aw.intro GY (by simp[F82]) ?_
   simp(maxSteps:=9^7) (disch:=first|exact dI|fail) only[F82,push_cast,seval]
 | cons c r=>
   generalize hs:c::r=s
   have hne:¬ s=[]:=by rw[← hs];simp
   have h0:s[0]? = some c:=by rw[← hs];rfl
   have hh:s.headD 0=c:=by rw[← hs];rfl
   have hlen:0<s.length:=by rw[← hs];simp
   clear hs
   refine aw.intro GY (by simp[F82]) ?_
   by_cases h32:s.length≤32
   ·by_cases ha:97≤c.toNat
    ·by_cases hz:c.toNat≤122
     ·have e:db s=s.all okC:=by simp only[db,hh,zG,decide_eq_true hlen,decide_eq_true h32,decide_eq_true ha,decide_eq_true hz,Bool.true_and]
      rw[e]
      simp(maxSteps:=9^7) (disch:=first|exact dI|fail) only[F82,hne,h0,ag,sD,xW,vO,push_cast,seval]
      refine bg ([]) (fun i:Nat=>[(25,.pv (.int .i64 (i:Int)))]) (fun _=>[]) (fun i=>i≤s.length∧(s.take i).all okC=true) (fun i=>s.length - i) (0) ?_;intro e0 σ0 n0 h0;simp(maxSteps:=9^7) (disch:=first|exact dI|fail) only[push_cast,seval] at h0;obtain⟨rfl,rfl,rfl⟩:=h0;refine⟨?_,?_,?_⟩
      ·simp(maxSteps:=9^7) (disch:=first|exact dI|fail) only[push_cast,seval]
      ·exact⟨by omega,by simp⟩
      rintro i ⟨hi,hall⟩
      by_cases hlt:i<s.length
      ·have hltI:(i:Int)<(s.length:Int):=by omega
       obtain⟨b,hb⟩:∃ b,s[i]? = some b:=⟨_,List.getElem?_eq_getElem hlt⟩
       have hbp:=BD hb
       have hbn:=b.toNat_lt
       have hsn:=FN hb
       rw[hall,Bool.true_and] at hsn
       have hc:b.toNat<48∨(48≤b.toNat∧b.toNat≤57)∨(57<b.toNat∧b.toNat<97∧b.toNat≠95)∨b.toNat=95∨(97≤b.toNat∧b.toNat≤122)∨122<b.toNat:=by omega
       rcases hc with hc | hc | hc | hc | hc | hc
       ·have hbad:s.all okC=false:=qC hb (by simp[okC,zG];omega)
        rw[hbad]
        simp(maxSteps:=9^7) (disch:=first|exact dI|fail) only[hbp,push_cast,seval]
       ·have hok:okC b=true:=by simp[okC,zG];omega
        simp(maxSteps:=9^7) (disch:=first|exact dI|fail) only[hbp,push_cast,seval]
        exact⟨i+1,bM (by simp(maxSteps:=9^7) (disch:=first|exact dI|fail) only[push_cast,seval]),⟨by omega,by rw[hsn,hok]⟩,by omega⟩
       ·have hbad:s.all okC=false:=qC hb (by simp[okC,zG];omega)
        rw[hbad]
        simp(maxSteps:=9^7) (disch:=first|exact dI|fail) only[hbp,push_cast,seval]
       ·have hok:okC b=true:=by simp[okC,zG];omega
        simp(maxSteps:=9^7) (disch:=first|exact dI|fail) only[hbp,push_cast,seval]
        exact⟨i+1,bM (by simp(maxSteps:=9^7) (disch:=first|exact dI|fail) only[push_cast,seval]),⟨by omega,by rw[hsn,hok]⟩,by omega⟩
       ·have hok:okC b=true:=by simp[okC,zG];omega
        simp(maxSteps:=9^7) (disch:=first|exact dI|fail) only[hbp,push_cast,seval]
        exact⟨i+1,bM (by simp(maxSteps:=9^7) (disch:=first|exact dI|fail) only[push_cast,seval]),⟨by omega,by rw[hsn,hok]⟩,by omega⟩
       ·have hbad:s.all okC=false:=qC hb (by simp[okC,zG];omega)
        rw[hbad]
        simp(maxSteps:=9^7) (disch:=first|exact dI|fail) only[hbp,push_cast,seval]
      ·have he:s.take i=s:=List.take_of_length_le (by omega)
       rw[he] at hall
       rw[hall]
       simp(maxSteps:=9^7) (disch:=first|exact dI|fail) only[push_cast,seval]
     ·have e:db s=false:=by simp only[db,hh,zG,decide_eq_false hz,Bool.and_false,Bool.false_and]
      rw[e]
      simp(maxSteps:=9^7) (disch:=first|exact dI|fail) only[F82,hne,h0,ag,push_cast,seval]
    ·have e:db s=false:=by simp only[db,hh,zG,decide_eq_false ha,Bool.and_false,Bool.false_and]
     rw[e]
     simp(maxSteps:=9^7) (disch:=first|exact dI|fail) only[F82,hne,h0,ag,push_cast,seval]
   ·have e:db s=false:=by simp[db,h32]
    rw[e]
    simp(maxSteps:=9^7) (disch:=first|exact dI|fail) only[F82,hne,push_cast,seval]
end Go.Proofs.YtamoeblcphjbaaaGreatDoor

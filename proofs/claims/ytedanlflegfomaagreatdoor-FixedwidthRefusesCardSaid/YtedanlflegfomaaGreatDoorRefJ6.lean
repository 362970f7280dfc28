/- A part of the proof for FixedwidthRefusesCardSaid. -/
import Derived.Test.YtedanlflegfomaaGreatDoorRefJ2
import Derived.Test.YtedanlflegfomaaGreatDoorRefG5
set_option maxRecDepth 100000
set_option linter.unusedVariables false
set_option linter.unusedSimpArgs false
-- many steps
namespace Go.Proofs.YtedanlflegfomaaGreatDoor
open Go Go.Ab
attribute [local irreducible] vc
def lB (s:List UInt8)(i:Nat):Bool:=jG s||(s.take i).any kJ
theorem wc {s:List UInt8}{i:Nat}{c:UInt8}(h:s[i]? = some c):lB s (i+1)=(lB s i||kJ c):=by
 unfold lB;rw[a8 h,List.any_append];simp[Bool.or_assoc]
theorem At (s:List UInt8):lB s s.length=!wrB s:=by
 unfold lB wrB;rw[List.take_length];cases jG s<;>cases s.any kJ<;>rfl
theorem wb (s:List UInt8):lB s 0=jG s:=by unfold lB;simp
set_option maxHeartbeats 4000000 in
theorem lW (h8:aq Tryz.prog aA 8 [] (.bool true))(s0:List UInt8):aq Tryz.prog aA 3 [.str s0] (.bool true):=by
 have hm40:min (s0.length:Int) 40=((min s0.length 40:Nat):Int):=by omega
 have et:(((min s0.length 40:Nat):Int)).toNat=min s0.length 40:=by omega
 have hmle:((min s0.length 40:Nat):Int)≤(s0.length:Int):=by omega
 have hs:(s0.take (min s0.length 40)).length≤40:=by rw[List.length_take];omega
 generalize hS:s0.take (min s0.length 40)=s at hs
 have hf:=Du s hs
 have h7:=DG s hs (Lib.validD s) hf (Dy s hs) (rK s)
 have h9:=JR s hs
 have hbz:=wb s
 have hba:=At s
 have hbs:=fun (i:Nat) (c:UInt8) (h:s[i]? = some c)=>wc h
 have hdec:Lib.validD s=true→wrB s=true→aq Tryz.prog aA 10 [t1P,w1P,.str (s++spT (41 - s.length))] (.tup [vP s,.int .i64 0,.int .i64 0]):=fun hv hw=>
  DL s _ (by rw[List.length_append,bA];omega) (GB s (41 - s.length) hs (by omega) hv hw (by have:=Dt s hs;rw[hv] at this;exact this))
 have heq:=Gf s hs
 have hPl:=bA (41 - s.length)
 have hend:(s=[]∧jG s=false)∨∃ c,s[s.length - 1]? = some c∧0<s.length∧jG s=decide (c=32):=by
  by_cases h0:s=[]
  ·exact .inl ⟨h0,by rw[h0];rfl⟩
  ·have hp:0<s.length:=List.length_pos_iff.2 h0
   obtain⟨c,hc⟩:∃ c,s[s.length - 1]? = some c:=⟨_,List.getElem?_eq_getElem (by omega)⟩
   exact .inr ⟨c,hc,hp,by unfold jG;rw[hc];simp⟩
 simp only[t1P,w1P,vP] at h7 h9 hdec heq
 obtain⟨line,e,hE,hcase⟩:∃ line e,HY (Lib.validD s) s = .tup [.str line,.int .i64 e]∧((Lib.validD s=false∧line=[]∧e=18)∨(Lib.validD s=true∧wrB s=false∧line=[]∧e=6)∨(Lib.validD s=true∧wrB s=true∧line=s++spT (41 - s.length)∧e=0)):=by
  unfold HY
  cases hv:Lib.validD s with
  | false=>exact⟨[],18,rfl,.inl ⟨rfl,rfl,rfl⟩⟩
  | true=>
    cases hw:wrB s with
    | false=>exact⟨[],6,rfl,.inr (.inl ⟨rfl,rfl,rfl,rfl⟩)⟩
    | true=>exact⟨_,0,rfl,.inr (.inr ⟨rfl,rfl,rfl,rfl⟩)⟩
 rw[hE] at h7
 clear hE hf
 rcases hend with ⟨h0,he0⟩ | ⟨c,hc,hp,hee⟩
 ·have hb0:lB s 0=false:=by rw[hbz,he0]
  have h0E:(s=[])=True:=eq_true h0
  refine aq.intro Ei (by simp[F3]) ?_
  simp(maxSteps:=9^7) (disch:=first|exact dI|fail) only[F3,hm40,et,hS,push_cast,seval]
  refine ae.pure h7 rfl ?_
  simp(maxSteps:=9^7) (disch:=first|exact dI|fail) only[push_cast,seval]
  refine ae.pure h8 rfl ?_
  simp(maxSteps:=9^7) (disch:=first|exact dI|fail) only[h0E,push_cast,seval]
  refine az ([]) (fun i:Nat=>[(7,.pv (.bool (lB s i))),(8,.pv (.int .i64 (i:Int)))]) (fun _=>[]) (fun i=>i≤s.length) (fun i=>s.length - i) (0) ?_;intro e0 σ0 n0 h0;simp(maxSteps:=9^7) (disch:=first|exact dI|fail) only[push_cast,seval] at h0;obtain⟨rfl,rfl,rfl⟩:=h0;refine⟨?_,?_,?_⟩
  ·simp(maxSteps:=9^7) (disch:=first|exact dI|fail) only[hb0,push_cast,seval]
  ·omega
  intro i hi
  by_cases hlt:i<s.length
  ·have hltI:(i:Int)<(s.length:Int):=by omega
   obtain⟨d,hd⟩:∃ d,s[i]? = some d:=⟨_,List.getElem?_eq_getElem hlt⟩
   have hst:=hbs i d hd
   cases hbi:lB s i with
   | true=>
     rw[hbi,Bool.true_or] at hst
     simp(maxSteps:=9^7) (disch:=first|exact dI|fail) only[hd,push_cast,seval]
     exact⟨i+1,bl (by simp(maxSteps:=9^7) (disch:=first|exact dI|fail) only[hst,push_cast,seval]),by omega,by omega⟩
   | false=>
     rw[hbi,Bool.false_or,kJ] at hst
     by_cases hlow:d.toNat<32
     ·have hlowI:(d.toNat:Int)<32:=by omega
      rw[decide_eq_true hlow] at hst
      simp(maxSteps:=9^7) (disch:=first|exact dI|fail) only[hd,hlowI,push_cast,seval]
      exact⟨i+1,bl (by simp(maxSteps:=9^7) (disch:=first|exact dI|fail) only[hst,push_cast,seval]),by omega,by omega⟩
     ·have hlowI:¬ (d.toNat:Int)<32:=by omega
      rw[decide_eq_false hlow] at hst
      simp(maxSteps:=9^7) (disch:=first|exact dI|fail) only[hd,hlowI,push_cast,seval]
      exact⟨i+1,bl (by simp(maxSteps:=9^7) (disch:=first|exact dI|fail) only[hst,push_cast,seval]),by omega,by omega⟩
  obtain rfl:i=s.length:=by omega
  clear hi hlt
  rw[hba]
  rcases hcase with ⟨hv,rfl,rfl⟩ | ⟨hv,hw,rfl,rfl⟩ | ⟨hv,hw,hln,rfl⟩
  ·rw[show ij s=[.agg [.str [97],.int .i64 8]] by unfold ij;rw[hv];rfl] at h9
   cases wrB s<;>(
   simp(maxSteps:=9^7) (disch:=first|exact dI|fail) only[Int.lt_irrefl,push_cast,seval]
   refine ae.pure h9 rfl ?_
   simp(maxSteps:=9^7) (disch:=first|exact dI|fail) only[push_cast,seval])
  ·rw[show ij s=[] by unfold ij;rw[hv];rfl] at h9
   rw[hw,Bool.not_false]
   simp(maxSteps:=9^7) (disch:=first|exact dI|fail) only[Int.lt_irrefl,push_cast,seval]
   refine ae.pure h9 rfl ?_
   simp(maxSteps:=9^7) (disch:=first|exact dI|fail) only[push_cast,seval]
  ·rw[show ij s=[] by unfold ij;rw[hv];rfl] at h9
   have h10:=hdec hv hw
   rw[← hln] at h10
   have hl41:((line.length:Nat):Int)=41:=by rw[hln,List.length_append,bA];omega
   have hls:(s.length:Int)≤(line.length:Int):=by omega
   have htk:line.take s.length=s:=by rw[hln];simp
   rw[hw,Bool.not_true]
   simp(maxSteps:=9^7) (disch:=first|exact dI|fail) only[Int.lt_irrefl,push_cast,seval]
   refine ae.pure h9 rfl ?_
   simp(maxSteps:=9^7) (disch:=first|exact dI|fail) only[push_cast,seval]
   refine ae.pure h10 rfl ?_
   simp(maxSteps:=9^7) (disch:=first|exact dI|fail) only[hl41,htk,push_cast,seval]
   refine ae.pure heq rfl ?_
   simp(maxSteps:=9^7) (disch:=first|exact dI|fail) only[push_cast,seval]
 ·obtain⟨q,hq⟩:∃ q,s.length=q+1:=⟨s.length - 1,by omega⟩
  have hqI:(s.length:Int)=(q:Int)+1:=by omega
  have hc':s[q]? = some c:=by rw[← hc];congr 1;omega
  have h0:¬ s=[]:=List.length_pos_iff.1 hp
  by_cases h32:c=32
  ·have hb0:lB s 0=true:=by rw[hbz,hee,decide_eq_true h32]
   have hcI:(c.toNat:Int)=32:=by rw[h32];rfl
   refine aq.intro Ei (by simp[F3]) ?_
   simp(maxSteps:=9^7) (disch:=first|exact dI|fail) only[F3,hm40,et,hS,push_cast,seval]
   refine ae.pure h7 rfl ?_
   simp(maxSteps:=9^7) (disch:=first|exact dI|fail) only[push_cast,seval]
   refine ae.pure h8 rfl ?_
   simp(maxSteps:=9^7) (disch:=first|exact dI|fail) only[h0,hq,Int.add_sub_cancel,hc',hcI,push_cast,seval]
   refine az ([]) (fun i:Nat=>[(7,.pv (.bool (lB s i))),(8,.pv (.int .i64 (i:Int)))]) (fun _=>[]) (fun i=>i≤s.length) (fun i=>s.length - i) (0) ?_;intro e0 σ0 n0 h0;simp(maxSteps:=9^7) (disch:=first|exact dI|fail) only[push_cast,seval] at h0;obtain⟨rfl,rfl,rfl⟩:=h0;refine⟨?_,?_,?_⟩
   ·simp(maxSteps:=9^7) (disch:=first|exact dI|fail) only[hb0,push_cast,seval]
   ·omega
   intro i hi
   by_cases hlt:i<s.length
   ·have hltI:(i:Int)<(s.length:Int):=by omega
    obtain⟨d,hd⟩:∃ d,s[i]? = some d:=⟨_,List.getElem?_eq_getElem hlt⟩
    have hst:=hbs i d hd
    cases hbi:lB s i with
    | true=>
      rw[hbi,Bool.true_or] at hst
      simp(maxSteps:=9^7) (disch:=first|exact dI|fail) only[hd,push_cast,seval]
      exact⟨i+1,bl (by simp(maxSteps:=9^7) (disch:=first|exact dI|fail) only[hst,push_cast,seval]),by omega,by omega⟩
    | false=>
      rw[hbi,Bool.false_or,kJ] at hst
      by_cases hlow:d.toNat<32
      ·have hlowI:(d.toNat:Int)<32:=by omega
       rw[decide_eq_true hlow] at hst
       simp(maxSteps:=9^7) (disch:=first|exact dI|fail) only[hd,hlowI,push_cast,seval]
       exact⟨i+1,bl (by simp(maxSteps:=9^7) (disch:=first|exact dI|fail) only[hst,push_cast,seval]),by omega,by omega⟩
      ·have hlowI:¬ (d.toNat:Int)<32:=by omega
       rw[decide_eq_false hlow] at hst
       simp(maxSteps:=9^7) (disch:=first|exact dI|fail) only[hd,hlowI,push_cast,seval]
       exact⟨i+1,bl (by simp(maxSteps:=9^7) (disch:=first|exact dI|fail) only[hst,push_cast,seval]),by omega,by omega⟩
   obtain rfl:i=s.length:=by omega
   clear hi hlt
   rw[hba]
   rcases hcase with ⟨hv,rfl,rfl⟩ | ⟨hv,hw,rfl,rfl⟩ | ⟨hv,hw,hln,rfl⟩
   ·rw[show ij s=[.agg [.str [97],.int .i64 8]] by unfold ij;rw[hv];rfl] at h9
    cases wrB s<;>(
    simp(maxSteps:=9^7) (disch:=first|exact dI|fail) only[Int.lt_irrefl,push_cast,seval]
    refine ae.pure h9 rfl ?_
    simp(maxSteps:=9^7) (disch:=first|exact dI|fail) only[push_cast,seval])
   ·rw[show ij s=[] by unfold ij;rw[hv];rfl] at h9
    rw[hw,Bool.not_false]
    simp(maxSteps:=9^7) (disch:=first|exact dI|fail) only[Int.lt_irrefl,push_cast,seval]
    refine ae.pure h9 rfl ?_
    simp(maxSteps:=9^7) (disch:=first|exact dI|fail) only[push_cast,seval]
   ·rw[show ij s=[] by unfold ij;rw[hv];rfl] at h9
    have h10:=hdec hv hw
    rw[← hln] at h10
    have hl41:((line.length:Nat):Int)=41:=by rw[hln,List.length_append,bA];omega
    have hls:(s.length:Int)≤(line.length:Int):=by omega
    have htk:line.take s.length=s:=by rw[hln];simp
    rw[hw,Bool.not_true]
    simp(maxSteps:=9^7) (disch:=first|exact dI|fail) only[Int.lt_irrefl,push_cast,seval]
    refine ae.pure h9 rfl ?_
    simp(maxSteps:=9^7) (disch:=first|exact dI|fail) only[push_cast,seval]
    refine ae.pure h10 rfl ?_
    simp(maxSteps:=9^7) (disch:=first|exact dI|fail) only[hl41,htk,push_cast,seval]
    refine ae.pure heq rfl ?_
    simp(maxSteps:=9^7) (disch:=first|exact dI|fail) only[push_cast,seval]
  ·have hb0:lB s 0=false:=by rw[hbz,hee,decide_eq_false h32]
   have hcI:¬ (c.toNat:Int)=32:=by
    intro h
    exact h32 (UInt8.toNat_inj.1 (by have:(32:UInt8).toNat=32:=rfl;omega))
   refine aq.intro Ei (by simp[F3]) ?_
   simp(maxSteps:=9^7) (disch:=first|exact dI|fail) only[F3,hm40,et,hS,push_cast,seval]
   refine ae.pure h7 rfl ?_
   simp(maxSteps:=9^7) (disch:=first|exact dI|fail) only[push_cast,seval]
   refine ae.pure h8 rfl ?_
   simp(maxSteps:=9^7) (disch:=first|exact dI|fail) only[h0,hq,Int.add_sub_cancel,hc',hcI,push_cast,seval]
   refine az ([]) (fun i:Nat=>[(7,.pv (.bool (lB s i))),(8,.pv (.int .i64 (i:Int)))]) (fun _=>[]) (fun i=>i≤s.length) (fun i=>s.length - i) (0) ?_;intro e0 σ0 n0 h0;simp(maxSteps:=9^7) (disch:=first|exact dI|fail) only[push_cast,seval] at h0;obtain⟨rfl,rfl,rfl⟩:=h0;refine⟨?_,?_,?_⟩
   ·simp(maxSteps:=9^7) (disch:=first|exact dI|fail) only[hb0,push_cast,seval]
   ·omega
   intro i hi
   by_cases hlt:i<s.length
   ·have hltI:(i:Int)<(s.length:Int):=by omega
    obtain⟨d,hd⟩:∃ d,s[i]? = some d:=⟨_,List.getElem?_eq_getElem hlt⟩
    have hst:=hbs i d hd
    cases hbi:lB s i with
    | true=>
      rw[hbi,Bool.true_or] at hst
      simp(maxSteps:=9^7) (disch:=first|exact dI|fail) only[hd,push_cast,seval]
      exact⟨i+1,bl (by simp(maxSteps:=9^7) (disch:=first|exact dI|fail) only[hst,push_cast,seval]),by omega,by omega⟩
    | false=>
      rw[hbi,Bool.false_or,kJ] at hst
      by_cases hlow:d.toNat<32
      ·have hlowI:(d.toNat:Int)<32:=by omega
       rw[decide_eq_true hlow] at hst
       simp(maxSteps:=9^7) (disch:=first|exact dI|fail) only[hd,hlowI,push_cast,seval]
       exact⟨i+1,bl (by simp(maxSteps:=9^7) (disch:=first|exact dI|fail) only[hst,push_cast,seval]),by omega,by omega⟩
      ·have hlowI:¬ (d.toNat:Int)<32:=by omega
       rw[decide_eq_false hlow] at hst
       simp(maxSteps:=9^7) (disch:=first|exact dI|fail) only[hd,hlowI,push_cast,seval]
       exact⟨i+1,bl (by simp(maxSteps:=9^7) (disch:=first|exact dI|fail) only[hst,push_cast,seval]),by omega,by omega⟩
   obtain rfl:i=s.length:=by omega
   clear hi hlt
   rw[hba]
   rcases hcase with ⟨hv,rfl,rfl⟩ | ⟨hv,hw,rfl,rfl⟩ | ⟨hv,hw,hln,rfl⟩
   ·rw[show ij s=[.agg [.str [97],.int .i64 8]] by unfold ij;rw[hv];rfl] at h9
    cases wrB s<;>(
    simp(maxSteps:=9^7) (disch:=first|exact dI|fail) only[Int.lt_irrefl,push_cast,seval]
    refine ae.pure h9 rfl ?_
    simp(maxSteps:=9^7) (disch:=first|exact dI|fail) only[push_cast,seval])
   ·rw[show ij s=[] by unfold ij;rw[hv];rfl] at h9
    rw[hw,Bool.not_false]
    simp(maxSteps:=9^7) (disch:=first|exact dI|fail) only[Int.lt_irrefl,push_cast,seval]
    refine ae.pure h9 rfl ?_
    simp(maxSteps:=9^7) (disch:=first|exact dI|fail) only[push_cast,seval]
   ·rw[show ij s=[] by unfold ij;rw[hv];rfl] at h9
    have h10:=hdec hv hw
    rw[← hln] at h10
    have hl41:((line.length:Nat):Int)=41:=by rw[hln,List.length_append,bA];omega
    have hls:(s.length:Int)≤(line.length:Int):=by omega
    have htk:line.take s.length=s:=by rw[hln];simp
    rw[hw,Bool.not_true]
    simp(maxSteps:=9^7) (disch:=first|exact dI|fail) only[Int.lt_irrefl,push_cast,seval]
    refine ae.pure h9 rfl ?_
    simp(maxSteps:=9^7) (disch:=first|exact dI|fail) only[push_cast,seval]
    refine ae.pure h10 rfl ?_
    simp(maxSteps:=9^7) (disch:=first|exact dI|fail) only[hl41,htk,push_cast,seval]
    refine ae.pure heq rfl ?_
    simp(maxSteps:=9^7) (disch:=first|exact dI|fail) only[push_cast,seval]
end Go.Proofs.YtedanlflegfomaaGreatDoor
set_option maxRecDepth 100000
set_option linter.unusedVariables false
set_option linter.unusedSimpArgs false
-- many steps
namespace Go.Proofs.YtedanlflegfomaaGreatDoor
open Go Go.Ab
attribute [local irreducible] vc
theorem wj {p:Int→Bool}{l:List Int}{i:Nat}{x:Int}(h:l[i]? = some x):(l.drop i).any p=(p x||(l.drop (i+1)).any p):=by
 have hi:=(List.getElem?_eq_some_iff.1 h).1
 have he:l[i]=x:=(List.getElem?_eq_some_iff.1 h).2
 rw[List.drop_eq_getElem_cons hi,he,List.any_cons]
theorem sI (line:List UInt8)(w:List Int)(hl:w.length≤1000000)(hb:lA w=true):aq Tryz.prog aA 15 [.str line,.list (bY w)] (.tup [.nils,.int .i64 2]):=by
 by_cases h64:64<w.length
 ·have h64I:(64:Int)<(w.length:Int):=by omega
  refine aq.intro wD (by simp[F15]) ?_
  simp(maxSteps:=9^7) (disch:=first|exact dI|fail) only[F15,aU,h64I,push_cast,seval]
 have h64I:¬ (64:Int)<(w.length:Int):=by omega
 rw[lA,decide_eq_false h64,Bool.false_or] at hb
 refine aq.intro wD (by simp[F15]) ?_
 simp(maxSteps:=9^7) (disch:=first|exact dI|fail) only[F15,aU,h64I,push_cast,seval]
 refine az ([]) (fun x:Nat×Int=>[(6,.pv (.int .i64 x.2)),(7,.pv (.int .i64 (x.1:Int)))]) (fun _=>[]) (fun x=>x.1≤w.length∧(w.drop x.1).any rx=true∧0≤x.2∧x.2≤4096*x.1) (fun x=>w.length - x.1) ((0,0)) ?_;intro e0 σ0 n0 h0;simp(maxSteps:=9^7) (disch:=first|exact dI|fail) only[push_cast,seval] at h0;obtain⟨rfl,rfl,rfl⟩:=h0;refine⟨?_,?_,?_⟩
 ·simp(maxSteps:=9^7) (disch:=first|exact dI|fail) only[push_cast,seval]
 ·exact⟨by simp,by simpa using hb,by simp,by simp⟩
 rintro⟨i,S⟩ ⟨hi,hd,h0,h1⟩
 simp only at hi hd h0 h1
 by_cases hlt:i<w.length
 ·have hltI:(i:Int)<(w.length:Int):=by omega
  obtain⟨x,hx⟩:∃ x,w[i]? = some x:=⟨_,List.getElem?_eq_getElem hlt⟩
  have hx':=jl hx
  rw[wj hx,rx] at hd
  by_cases b1:x<1
  ·simp(maxSteps:=9^7) (disch:=first|exact dI|fail) only[aU,hx',b1,push_cast,seval]
  ·by_cases b2:4096<x
   ·simp(maxSteps:=9^7) (disch:=first|exact dI|fail) only[aU,hx',b1,b2,push_cast,seval]
   ·rw[decide_eq_false b1,decide_eq_false b2,Bool.false_or,Bool.false_or] at hd
    simp(maxSteps:=9^7) (disch:=first|exact dI|fail) only[aU,hx',b1,b2,push_cast,seval]
    exact⟨(i+1,S+x),bl (by simp(maxSteps:=9^7) (disch:=first|exact dI|fail) only[push_cast,seval]),⟨by simp only;omega,hd,by simp only;omega,by simp only;omega⟩,by simp only;omega⟩
 ·rw[List.drop_of_length_le (by omega),List.any_nil] at hd
  cases hd
theorem bX (v:List Nat):(cw v).length=v.length:=by simp[cw]
theorem nO {v:List Nat}{i n:Nat}(h:v[i]? = some n):(cw v)[i]? = some (.int .i64 (n:Int)):=by simp[cw,h]
theorem j8 (v:List Nat):bP v 0=0:=rfl
theorem nG (v:List Nat):bP v v.length=v.sum:=by unfold bP;rw[List.take_length]
set_option maxHeartbeats 4000000 in
theorem nB (line:List UInt8)(v:List Nat)(hn:line.length≤1000000)(hv:∀ x∈v,1≤x∧x≤4096)(hl:v.length≤64):aq Tryz.prog aA 15 [.str line,.list (cw v)] (.tup [if line.length=v.sum then .list (pD line v v.length) else .nils,.int .i64 (fI line.length (v.sum:Nat))]):=by
 have h64I:¬ (64:Int)<(v.length:Int):=by omega
 have hps:∀ i,bP v i≤4096*i:=by
  intro i
  induction i with
  | zero=>simp[bP]
  | succ i ih=>
    by_cases hlt:i<v.length
    ·obtain⟨n,hn⟩:∃ n,v[i]? = some n:=⟨_,List.getElem?_eq_getElem hlt⟩
     have:=hv n (List.mem_of_getElem? hn)
     rw[dl hn];omega
    ·have:bP v (i+1)=bP v i:=by unfold bP;rw[List.take_of_length_le (by omega),List.take_of_length_le (by omega)]
     omega
 unfold fI
 refine aq.intro wD (by simp[F15]) ?_
 simp(maxSteps:=9^7) (disch:=first|exact dI|fail) only[F15,bX,h64I,push_cast,seval]
 refine az ([]) (fun i:Nat=>[(6,.pv (.int .i64 (bP v i:Int))),(7,.pv (.int .i64 (i:Int)))]) (fun _=>[]) (fun i=>i≤v.length) (fun i=>v.length - i) (0) ?_;intro e0 σ0 n0 h0;simp(maxSteps:=9^7) (disch:=first|exact dI|fail) only[push_cast,seval] at h0;obtain⟨rfl,rfl,rfl⟩:=h0;refine⟨?_,?_,?_⟩
 ·simp(maxSteps:=9^7) (disch:=first|exact dI|fail) only[j8,push_cast,seval]
 ·omega
 rintro i hi
 have hpi:=hps i
 by_cases hlt:i<v.length
 ·have hltI:(i:Int)<(v.length:Int):=by omega
  obtain⟨n,hn⟩:∃ n,v[i]? = some n:=⟨_,List.getElem?_eq_getElem hlt⟩
  have hx':=nO hn
  have hb:=hv n (List.mem_of_getElem? hn)
  have b1:¬ (n:Int)<1:=by omega
  have b2:¬ (4096:Int)<(n:Int):=by omega
  have hst:=dl hn
  have hstI:((bP v (i+1):Nat):Int)=(bP v i:Int)+(n:Int):=by omega
  simp(maxSteps:=9^7) (disch:=first|exact dI|fail) only[bX,hx',b1,b2,push_cast,seval]
  exact⟨i+1,bl (by simp(maxSteps:=9^7) (disch:=first|exact dI|fail) only[hstI,push_cast,seval]),by omega,by omega⟩
 ·obtain rfl:i=v.length:=by omega
  rw[nG] at hpi ⊢
  by_cases c1:(line.length:Int)<(v.sum:Nat)
  ·rw[if_pos c1,if_neg (by omega)]
   simp(maxSteps:=9^7) (disch:=first|exact dI|fail) only[bX,c1,Int.lt_irrefl,push_cast,seval]
  by_cases c2:((v.sum:Nat):Int)<line.length
  ·rw[if_neg c1,if_pos c2,if_neg (by omega)]
   simp(maxSteps:=9^7) (disch:=first|exact dI|fail) only[bX,c1,c2,Int.lt_irrefl,push_cast,seval]
  have hls:line.length=v.sum:=by omega
  rw[if_neg c1,if_neg c2,if_pos hls]
  simp(maxSteps:=9^7) (disch:=first|exact dI|fail) only[bX,c1,c2,Int.lt_irrefl,push_cast,seval]
  refine az ([(8,0,9,1)]) (fun i:Nat=>[(8,.olist 0 1 (pD line v i)),(9,.pv (.int .i64 (bP v i:Int))),(10,.pv (.int .i64 (i:Int)))]) (fun _=>[]) (fun i=>i≤v.length) (fun i=>v.length - i) (0) ?_;intro e0 σ0 n0 h0;simp(maxSteps:=9^7) (disch:=first|exact dI|fail) only[push_cast,seval] at h0;obtain⟨rfl,rfl,rfl⟩:=h0;refine⟨?_,?_,?_⟩
  ·simp(maxSteps:=9^7) (disch:=first|exact dI|fail) only[j8,nI,push_cast,seval]
  ·omega
  rintro i hi
  have hpi:=hps i
  by_cases hlt:i<v.length
  ·have hltI:(i:Int)<(v.length:Int):=by omega
   obtain⟨n,hn⟩:∃ n,v[i]? = some n:=⟨_,List.getElem?_eq_getElem hlt⟩
   have hx':=nO hn
   have hst:=dl hn
   have hle:=tA v (i+1)
   have hstI:((bP v (i+1):Nat):Int)=(bP v i:Int)+(n:Int):=by omega
   have hsn:=j9 line v i
   have hol:=jb line v i
   have et:((bP v i:Int)+(n:Int)).toNat=bP v (i+1):=by omega
   have hcx:(line.take (bP v (i+1))).drop (bP v i)=dQ line v i:=rfl
   simp(maxSteps:=9^7) (disch:=first|exact dI|fail) only[bX,hx',et,hcx,hol,push_cast,seval]
   exact⟨i+1,bl (by simp(maxSteps:=9^7) (disch:=first|exact dI|fail) only[hstI,hsn,push_cast,seval]),by omega,by omega⟩
  ·obtain rfl:i=v.length:=by omega
   simp(maxSteps:=9^7) (disch:=first|exact dI|fail) only[bX,Int.lt_irrefl,push_cast,seval]
end Go.Proofs.YtedanlflegfomaaGreatDoor

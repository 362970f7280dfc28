/- A part of the proof for LiteralTextsCardSaid. -/
import Derived.Test.YtamoeblcphjbaaaGreatDoorTxL1
import Derived.Test.YtamoeblcphjbaaaGreatDoorCore6
set_option maxRecDepth 100000
set_option linter.unusedVariables false
set_option linter.unusedSimpArgs false
-- many steps
namespace Go.Proofs.YtamoeblcphjbaaaGreatDoor
open Go Go.Ab
attribute [local irreducible] vc
theorem eZ (c:UInt8)(l:List UInt8):bB true (c::l)=[.cells 83 true [.ptr 0 0,.row 1 1 0 (l.length+1)],.cells 5 false ((ap (c::l)).map .pv)]:=rfl
theorem wB (M:List UInt8)(d:UInt8)(h:M.length≤10000000):jh Tryz.prog aD 1 49 [.ptr 0 0,.pv (.int .u8 (d.toNat:Int))] [.cells 83 true [.ptr 0 0,.row 1 1 0 (M.length+1)],.cells 5 false ((ap (34::M)).map .pv)]
  (.pv .nili) [.cells 83 true [.ptr 0 0,.row 1 1 0 ((M++[d]).length+1)],.cells 5 false ((ap (34::(M++[d]))).map .pv)]:=by
 have h:=Bh true (34::M) d (by rw[List.length_cons];omega)
 rw[List.cons_append,eZ,eZ] at h;exact h
theorem wS (M k:List UInt8)(h:M.length≤10000000)(hk:k.length≤10000000):jh Tryz.prog aD 1 50 [.ptr 0 0,.pv (.str k)] [.cells 83 true [.ptr 0 0,.row 1 1 0 (M.length+1)],.cells 5 false ((ap (34::M)).map .pv)]
  (.pv (.tup [.int .i64 (k.length:Int),.nili])) [.cells 83 true [.ptr 0 0,.row 1 1 0 ((M++k).length+1)],.cells 5 false ((ap (34::(M++k))).map .pv)]:=by
 have h:=rG true (34::M) k (by rw[List.length_cons];omega) (by omega)
 rw[List.cons_append,eZ,eZ] at h;exact h
set_option maxHeartbeats 4000000 in
theorem lU (s:List UInt8)(hs:s.length≤100000):aw Tryz.prog aD 20 [.str s] (.str (a8 s)):=by
 have hB0:=Bh false [] 34 (by simp)
 simp only[bB,aB,List.nil_append] at hB0
 refine aw.intro HE (by simp[F20]) ?_
 simp(maxSteps:=9^7) (disch:=first|exact dI|fail) only[F20,push_cast,seval]
 refine ae.lentK hB0 [0] rfl (by simp(maxSteps:=9^7) (disch:=first|exact dI|fail) only[push_cast,seval]) (by simp(maxSteps:=9^7) (disch:=first|exact dI|fail) only[push_cast,seval]) ?_
 simp(maxSteps:=9^7) (disch:=first|exact dI|fail) only[push_cast,seval]
 refine be ([]) (fun i:Nat=>[(9,.pv (.int .i64 (i:Int)))]) (fun i=>[(0,.cells 83 true [.ptr 0 0,.row 1 1 0 (((s.take i).flatMap cu).length+1)]),(1,.cells 5 false ((ap (34::(s.take i).flatMap cu)).map .pv))]) (fun i=>i≤s.length) (fun i=>s.length - i) (0) ?_;intro e0 σ0 n0 h0;simp(maxSteps:=9^7) (disch:=first|exact dI|fail) only[push_cast,seval] at h0;obtain⟨rfl,rfl,rfl⟩:=h0;refine⟨?_,?_,?_⟩
 ·simp(maxSteps:=9^7) (disch:=first|exact dI|fail) only[List.flatMap_nil,List.length_nil,Nat.zero_add,push_cast,seval]
 ·omega
 ·rintro i hi
  have hl:((s.take i).flatMap cu).length≤600000:=by
   have:=er (s.take i)
   rw[List.length_take] at this
   omega
  by_cases hlt:i<s.length
  ·obtain⟨c,hc⟩:∃ c,s[i]? = some c:=⟨_,List.getElem?_eq_getElem hlt⟩
   have hltI:(i:Int)<(s.length:Int):=by omega
   have hB:=eq hc cu
   generalize (s.take i).flatMap cu=M at *
   by_cases h1:c.toNat=34∨c.toNat=92
   ·rw[Gk h1,show M++[92,c]=M++[92]++[c] by simp] at hB
    have k1:=wB M 92 (by omega)
    have k2:=wB (M++[92]) c (by simp;omega)
    rw[show (((92:UInt8).toNat:Nat):Int)=92 from rfl] at k1
    by_cases h34:c.toNat=34
    ·have h34I:((c.toNat:Int)=34)=True:=eq_true (by omega)
     simp(maxSteps:=9^7) (disch:=first|exact dI|fail) only[hltI,hc,h34I,push_cast,seval]
     refine ae.lentK k1 [0,1] rfl (by simp(maxSteps:=9^7) (disch:=first|exact dI|fail) only[push_cast,seval]) (by simp(maxSteps:=9^7) (disch:=first|exact dI|fail) only[push_cast,seval]) ?_
     simp(maxSteps:=9^7) (disch:=first|exact dI|fail) only[push_cast,seval]
     refine ae.lentK k2 [0,2] rfl (by simp(maxSteps:=9^7) (disch:=first|exact dI|fail) only[push_cast,seval]) (by simp(maxSteps:=9^7) (disch:=first|exact dI|fail) only[push_cast,seval]) ?_
     simp(maxSteps:=9^7) (disch:=first|exact dI|fail) only[push_cast,seval]
     exact⟨i+1,bX (by simp(maxSteps:=9^7) (disch:=first|exact dI|fail) only[hB,push_cast,seval]),by omega,by omega⟩
    ·have h34I:¬ (c.toNat:Int)=34:=by omega
     have h92I:((c.toNat:Int)=92)=True:=eq_true (by omega)
     simp(maxSteps:=9^7) (disch:=first|exact dI|fail) only[hltI,hc,h34I,h92I,push_cast,seval]
     refine ae.lentK k1 [0,1] rfl (by simp(maxSteps:=9^7) (disch:=first|exact dI|fail) only[push_cast,seval]) (by simp(maxSteps:=9^7) (disch:=first|exact dI|fail) only[push_cast,seval]) ?_
     simp(maxSteps:=9^7) (disch:=first|exact dI|fail) only[push_cast,seval]
     refine ae.lentK k2 [0,2] rfl (by simp(maxSteps:=9^7) (disch:=first|exact dI|fail) only[push_cast,seval]) (by simp(maxSteps:=9^7) (disch:=first|exact dI|fail) only[push_cast,seval]) ?_
     simp(maxSteps:=9^7) (disch:=first|exact dI|fail) only[push_cast,seval]
     exact⟨i+1,bX (by simp(maxSteps:=9^7) (disch:=first|exact dI|fail) only[hB,push_cast,seval]),by omega,by omega⟩
   ·have h34I:¬ (c.toNat:Int)=34:=by omega
    have h92I:¬ (c.toNat:Int)=92:=by omega
    by_cases h10:c.toNat=10
    ·have h10I:((c.toNat:Int)=10)=True:=eq_true (by omega)
     rw[Gj h10] at hB
     have k1:=wS M [92,110] (by omega) (by simp)
     simp(maxSteps:=9^7) (disch:=first|exact dI|fail) only[hltI,hc,h34I,h92I,h10I,push_cast,seval]
     refine ae.lentK k1 [0,1] rfl (by simp(maxSteps:=9^7) (disch:=first|exact dI|fail) only[push_cast,seval]) (by simp(maxSteps:=9^7) (disch:=first|exact dI|fail) only[push_cast,seval]) ?_
     simp(maxSteps:=9^7) (disch:=first|exact dI|fail) only[push_cast,seval]
     exact⟨i+1,bX (by simp(maxSteps:=9^7) (disch:=first|exact dI|fail) only[hB,push_cast,seval]),by omega,by omega⟩
    have h10I:¬ (c.toNat:Int)=10:=by omega
    by_cases h13:c.toNat=13
    ·have h13I:((c.toNat:Int)=13)=True:=eq_true (by omega)
     rw[Gi h13] at hB
     have k1:=wS M [92,114] (by omega) (by simp)
     simp(maxSteps:=9^7) (disch:=first|exact dI|fail) only[hltI,hc,h34I,h92I,h10I,h13I,push_cast,seval]
     refine ae.lentK k1 [0,1] rfl (by simp(maxSteps:=9^7) (disch:=first|exact dI|fail) only[push_cast,seval]) (by simp(maxSteps:=9^7) (disch:=first|exact dI|fail) only[push_cast,seval]) ?_
     simp(maxSteps:=9^7) (disch:=first|exact dI|fail) only[push_cast,seval]
     exact⟨i+1,bX (by simp(maxSteps:=9^7) (disch:=first|exact dI|fail) only[hB,push_cast,seval]),by omega,by omega⟩
    have h13I:¬ (c.toNat:Int)=13:=by omega
    by_cases h9:c.toNat=9
    ·have h9I:((c.toNat:Int)=9)=True:=eq_true (by omega)
     rw[Gh h9] at hB
     have k1:=wS M [92,116] (by omega) (by simp)
     simp(maxSteps:=9^7) (disch:=first|exact dI|fail) only[hltI,hc,h34I,h92I,h10I,h13I,h9I,push_cast,seval]
     refine ae.lentK k1 [0,1] rfl (by simp(maxSteps:=9^7) (disch:=first|exact dI|fail) only[push_cast,seval]) (by simp(maxSteps:=9^7) (disch:=first|exact dI|fail) only[push_cast,seval]) ?_
     simp(maxSteps:=9^7) (disch:=first|exact dI|fail) only[push_cast,seval]
     exact⟨i+1,bX (by simp(maxSteps:=9^7) (disch:=first|exact dI|fail) only[hB,push_cast,seval]),by omega,by omega⟩
    have h9I:¬ (c.toNat:Int)=9:=by omega
    by_cases h5:c.toNat<32∨c.toNat=127
    ·have hf:=Aq c h5
     have hxl:(Af c).length≤2:=by unfold Af;split<;>simp
     rw[Gg h5 h10 h13 h9] at hB
     generalize Af c=X at *
     have k1:=wS M (92::117::123::(X++[125])) (by omega) (by simp;omega)
     by_cases h32:c.toNat<32
     ·have h32I:(c.toNat:Int)<32:=by omega
      simp(maxSteps:=9^7) (disch:=first|exact dI|fail) only[hltI,hc,h34I,h92I,h10I,h13I,h9I,h32I,push_cast,seval]
      refine ae.pure hf rfl ?_
      simp(maxSteps:=9^7) (disch:=first|exact dI|fail) only[push_cast,seval]
      refine ae.lentK k1 [0,1] rfl (by simp(maxSteps:=9^7) (disch:=first|exact dI|fail) only[push_cast,seval]) (by simp(maxSteps:=9^7) (disch:=first|exact dI|fail) only[push_cast,seval]) ?_
      simp(maxSteps:=9^7) (disch:=first|exact dI|fail) only[push_cast,seval]
      exact⟨i+1,bX (by simp(maxSteps:=9^7) (disch:=first|exact dI|fail) only[hB,push_cast,seval]),by omega,by omega⟩
     ·have h32I:¬ (c.toNat:Int)<32:=by omega
      have h127:((c.toNat:Int)=127)=True:=eq_true (by omega)
      simp(maxSteps:=9^7) (disch:=first|exact dI|fail) only[hltI,hc,h34I,h92I,h10I,h13I,h9I,h32I,h127,push_cast,seval]
      refine ae.pure hf rfl ?_
      simp(maxSteps:=9^7) (disch:=first|exact dI|fail) only[push_cast,seval]
      refine ae.lentK k1 [0,1] rfl (by simp(maxSteps:=9^7) (disch:=first|exact dI|fail) only[push_cast,seval]) (by simp(maxSteps:=9^7) (disch:=first|exact dI|fail) only[push_cast,seval]) ?_
      simp(maxSteps:=9^7) (disch:=first|exact dI|fail) only[push_cast,seval]
      exact⟨i+1,bX (by simp(maxSteps:=9^7) (disch:=first|exact dI|fail) only[hB,push_cast,seval]),by omega,by omega⟩
    ·have h32I:¬ (c.toNat:Int)<32:=by omega
     have h127I:¬ (c.toNat:Int)=127:=by omega
     rw[Ec h5 h1] at hB
     have k1:=wB M c (by omega)
     simp(maxSteps:=9^7) (disch:=first|exact dI|fail) only[hltI,hc,h34I,h92I,h10I,h13I,h9I,h32I,h127I,push_cast,seval]
     refine ae.lentK k1 [0,1] rfl (by simp(maxSteps:=9^7) (disch:=first|exact dI|fail) only[push_cast,seval]) (by simp(maxSteps:=9^7) (disch:=first|exact dI|fail) only[push_cast,seval]) ?_
     simp(maxSteps:=9^7) (disch:=first|exact dI|fail) only[push_cast,seval]
     exact⟨i+1,bX (by simp(maxSteps:=9^7) (disch:=first|exact dI|fail) only[hB,push_cast,seval]),by omega,by omega⟩
  ·have hltI:¬ (i:Int)<(s.length:Int):=by omega
   obtain rfl:i=s.length:=by omega
   have hq:a8 s=34::((s.take s.length).flatMap cu++[34]):=by rw[List.take_length];rfl
   rw[hq]
   generalize (s.take s.length).flatMap cu=M at *
   have k1:=wB M 34 (by omega)
   have k2:=lu true (34::(M++[34])) (by simp;omega)
   rw[eZ] at k2
   rw[show (((34:UInt8).toNat:Nat):Int)=34 from rfl] at k1
   simp(maxSteps:=9^7) (disch:=first|exact dI|fail) only[hltI,push_cast,seval]
   refine ae.lentK k1 [0,1] rfl (by simp(maxSteps:=9^7) (disch:=first|exact dI|fail) only[push_cast,seval]) (by simp(maxSteps:=9^7) (disch:=first|exact dI|fail) only[push_cast,seval]) ?_
   simp(maxSteps:=9^7) (disch:=first|exact dI|fail) only[push_cast,seval]
   refine ae.lentK k2 [0,2] rfl (by simp(maxSteps:=9^7) (disch:=first|exact dI|fail) only[push_cast,seval]) (by simp(maxSteps:=9^7) (disch:=first|exact dI|fail) only[push_cast,seval]) ?_
   simp(maxSteps:=9^7) (disch:=first|exact dI|fail) only[push_cast,seval]
end Go.Proofs.YtamoeblcphjbaaaGreatDoor
set_option maxRecDepth 100000
set_option linter.unusedVariables false
set_option linter.unusedSimpArgs false
-- many steps
namespace Go.Proofs.YtamoeblcphjbaaaGreatDoor
open Go Go.Ab
attribute [local irreducible] vc
def hdQ (s:List UInt8):Nat×List UInt8→St
 | (i,[])=>⟨[(0,.pv (.str s)),(3,.ptr 0 0),(6,.pv (.int .i64 (s.length:Int))),(7,.pv (.int .i64 (i:Int)))],[(0,.cells 83 true [.pv .nilp,.pv .nils])],1⟩
 | (i,b::r)=>⟨[(0,.pv (.str s)),(3,.ptr 0 0),(6,.pv (.int .i64 (s.length:Int))),(7,.pv (.int .i64 (i:Int)))],[(0,.cells 83 true [.ptr 0 0,.row 1 1 0 (r.length+1)]),(1,.cells 5 false ((ap (b::r)).map .pv))],2⟩
def exQ:List UInt8→St
 | []=>⟨[(3,.ptr 0 0)],[(0,.cells 83 true [.pv .nilp,.pv .nils])],1⟩
 | b::r=>⟨[(3,.ptr 0 0)],[(0,.cells 83 true [.ptr 0 0,.row 1 1 0 (r.length+1)]),(1,.cells 5 false ((ap (b::r)).map .pv))],2⟩
theorem uN {n:Nat}(h:n<16):(wT.take (n+1)).drop n=[hxB n]:=by
 have h1:=vo h
 have hl:n<(wT.take (n+1)).length:=by rw[List.length_take];simp[wT];omega
 rw[List.drop_eq_getElem_cons hl,List.drop_eq_nil_of_le (by rw[List.length_take];omega)]
 have:(wT.take (n+1))[n]? = some (hxB n):=by rw[List.getElem?_take,if_pos (by omega)];exact h1
 rw[List.getElem?_eq_getElem hl] at this
 rw[Option.some.inj this]
set_option maxHeartbeats 4000000 in
theorem y5 (s:List UInt8)(hs:s.length≤100000):aw Tryz.prog aD 22 [.str s] (.str (rp s)):=by
 refine aw.intro HC (by simp[F22]) ?_
 simp(maxSteps:=9^7) (disch:=first|exact dI|fail) only[F22,push_cast,seval]
 refine xg (hdQ s) (fun y=>y.1≤s.length∧y.2=(s.take y.1).flatMap hx2) (fun y=>s.length - y.1) (0,[]) [3] exQ (fun y=>y=s.flatMap hx2) ?_ ?_ ?_ ?_
 ·exact bX (by simp(maxSteps:=9^7) (disch:=first|exact dI|fail) only[hdQ,push_cast,seval])
 ·exact⟨by simp,by simp⟩
 ·rintro⟨i,M⟩ ⟨hi,hM⟩
  simp only at hi hM
  have hl:M.length≤200000:=by
   rw[hM,dk,List.length_take];omega
  by_cases hlt:i<s.length
  ·obtain⟨c,hc⟩:∃ c,s[i]? = some c:=⟨_,List.getElem?_eq_getElem hlt⟩
   have hltI:(i:Int)<(s.length:Int):=by omega
   have hB:=eq hc hx2
   rw[← hM] at hB
   obtain⟨q,hqN⟩:∃ q,q=c.toNat / 16:=⟨_,rfl⟩
   obtain⟨m,hmN⟩:∃ m,m=c.toNat % 16:=⟨_,rfl⟩
   have hcl:=c.toNat_lt
   have hq16:q<16:=by omega
   have hm16:m<16:=by omega
   have hq:((c.toNat:Int) / 16)=(q:Int):=by omega
   have hm:((c.toNat:Int) % 16)=(m:Int):=by omega
   have hxq:=uN hq16
   have hxm:=uN hm16
   simp only[wT,List.take_succ_cons] at hxq hxm
   unfold hx2 at hB
   rw[← hqN,← hmN] at hB
   cases M with
   | nil=>
     have k1:=rG false [] ([hxB q]++[hxB m]) (by simp) (by simp)
     simp only[bB,aB,List.nil_append,List.cons_append] at k1
     rw[List.nil_append] at hB
     simp(maxSteps:=9^7) (disch:=first|exact dI|fail) only[hdQ,hltI,hc,hq,hm,hxq,hxm,List.cons_append,List.nil_append,push_cast,seval]
     refine ae.lentK k1 [0] rfl (by simp(maxSteps:=9^7) (disch:=first|exact dI|fail) only[push_cast,seval]) (by simp(maxSteps:=9^7) (disch:=first|exact dI|fail) only[push_cast,seval]) ?_
     simp(maxSteps:=9^7) (disch:=first|exact dI|fail) only[push_cast,seval]
     exact⟨(i+1,[hxB q,hxB m]),bX (by simp(maxSteps:=9^7) (disch:=first|exact dI|fail) only[hdQ,push_cast,seval]),⟨by simp only;omega,hB.symm⟩,by simp only;omega⟩
   | cons b r=>
     have k1:=rG true (b::r) ([hxB q]++[hxB m]) (by simp at hl ⊢;omega) (by simp)
     rw[show (b::r)++([hxB q]++[hxB m])=b::(r++[hxB q,hxB m]) by simp] at k1
     simp only[bB,aB,List.nil_append,List.cons_append] at k1
     rw[List.cons_append] at hB
     simp(maxSteps:=9^7) (disch:=first|exact dI|fail) only[hdQ,hltI,hc,hq,hm,hxq,hxm,List.cons_append,List.nil_append,push_cast,seval]
     refine ae.lentK k1 [0,1] rfl (by simp(maxSteps:=9^7) (disch:=first|exact dI|fail) only[push_cast,seval]) (by simp(maxSteps:=9^7) (disch:=first|exact dI|fail) only[push_cast,seval]) ?_
     simp(maxSteps:=9^7) (disch:=first|exact dI|fail) only[push_cast,seval]
     exact⟨(i+1,b::(r++[hxB q,hxB m])),bX (by simp(maxSteps:=9^7) (disch:=first|exact dI|fail) only[hdQ,push_cast,seval]),⟨by simp only;omega,hB.symm⟩,by simp only;omega⟩
  ·have hltI:¬ (i:Int)<(s.length:Int):=by omega
   obtain rfl:i=s.length:=by omega
   rw[List.take_length] at hM
   cases M with
   | nil=>
     simp(maxSteps:=9^7) (disch:=first|exact dI|fail) only[hdQ,hltI,push_cast,seval]
     exact⟨[],bX (by simp(maxSteps:=9^7) (disch:=first|exact dI|fail) only[exQ,push_cast,seval]),hM⟩
   | cons b r=>
     simp(maxSteps:=9^7) (disch:=first|exact dI|fail) only[hdQ,hltI,push_cast,seval]
     exact⟨b::r,bX (by simp(maxSteps:=9^7) (disch:=first|exact dI|fail) only[exQ,push_cast,seval]),hM⟩
 ·rintro y hy
  have hl:y.length≤200000:=by rw[hy,dk];omega
  have hh:rp s=120::34::(y++[34]):=by rw[hy];rfl
  rw[hh]
  cases y with
  | nil=>
    have k:=lu false [] (by simp)
    simp only[bB,aB] at k
    simp(maxSteps:=9^7) (disch:=first|exact dI|fail) only[exQ,push_cast,seval]
    refine ae.lentK k [0] rfl (by simp(maxSteps:=9^7) (disch:=first|exact dI|fail) only[push_cast,seval]) (by simp(maxSteps:=9^7) (disch:=first|exact dI|fail) only[push_cast,seval]) ?_
    simp(maxSteps:=9^7) (disch:=first|exact dI|fail) only[push_cast,seval]
  | cons b r=>
    have k:=lu true (b::r) (by omega)
    rw[eZ] at k
    have hl2:r.length≤200000:=by simp at hl;omega
    simp(maxSteps:=9^7) (disch:=first|exact dI|fail) only[exQ,push_cast,seval]
    refine ae.lentK k [0,1] rfl (by simp(maxSteps:=9^7) (disch:=first|exact dI|fail) only[push_cast,seval]) (by simp(maxSteps:=9^7) (disch:=first|exact dI|fail) only[push_cast,seval]) ?_
    simp(maxSteps:=9^7) (disch:=first|exact dI|fail) only[push_cast,seval]
end Go.Proofs.YtamoeblcphjbaaaGreatDoor
set_option linter.unusedVariables false
set_option linter.unusedSimpArgs false
namespace Go.Ab
open Go
def eU (y:Int):Bool:=decide (y % 4=0)&&(!decide (y % 100=0)||decide (y % 400=0))
def mdI (y m:Int):Int:=if m=2 then (if eU y=true then 29 else 28) else if m=4∨m=6∨m=9∨m=11 then 30 else 31
def dE (y:Int):Int:=365*(y - 1)+(y - 1) / 4 - (y - 1) / 100+(y - 1) / 400
def dG (y:Int):Nat→Int
 | 0=>0
 | k+1=>dG y k+mdI y (k+1:Nat)
theorem f7 (y m:Int):28≤mdI y m∧mdI y m≤31:=by
 unfold mdI;split
 ·split<;>omega
 ·split<;>omega
theorem nM (y:Int):eU y=true↔y % 4=0∧(¬ y % 100=0∨y % 400=0):=by simp[eU]
theorem i7 (y:Int):dE (y+1)=dE y+365+(if eU y=true then 1 else 0):=by
 have h:y+1 - 1=y:=by omega
 unfold dE
 rw[h]
 by_cases hl:eU y=true
 ·rw[if_pos hl]
  have:=(nM y).1 hl
  omega
 ·rw[if_neg hl]
  have:¬ (y % 4=0∧(¬ y % 100=0∨y % 400=0)):=fun h=>hl ((nM y).2 h)
  omega
theorem od:∀ (k:Nat) (y:Int),dE y+365*k≤dE (y+k)
 | 0,y=>by simp
 | k+1,y=>by
   have h1:=od k y
   have h2:=i7 (y+k)
   have e:y+((k+1:Nat):Int)=y+k+1:=by omega
   rw[e,h2]
   have:(0:Int)≤if eU (y+k)=true then 1 else 0:=by split<;>omega
   omega
theorem GQ {y z:Int}(h:y<z):dE (y+1)≤dE z:=by
 have:=od (z - (y+1)).toNat (y+1)
 have e:y+1+((z - (y+1)).toNat:Int)=z:=by omega
 rw[e] at this
 omega
theorem Bm (y:Int):dG y 12=365+(if eU y=true then 1 else 0):=by
 have e (k:Nat):dG y (k+1)=dG y k+mdI y (k+1:Nat):=rfl
 have z:dG y 0=0:=rfl
 rw[e 11,e 10,e 9,e 8,e 7,e 6,e 5,e 4,e 3,e 2,e 1,e 0,z]
 by_cases hl:eU y=true<;>simp[mdI,hl]
theorem cz (y:Int):∀ (k j:Nat),dG y j+28*k≤dG y (j+k)
 | 0,j=>by simp
 | k+1,j=>by
   have h1:=cz y k j
   have h2:=f7 y ((j+k:Nat)+1:Nat)
   have e:dG y (j+(k+1))=dG y (j+k)+mdI y (j+k+1:Nat):=rfl
   rw[e]
   omega
structure DateOk (y:Int)(m:Nat)(d:Int):Prop where
 y1:1≤y
 y2:y≤9999
 m1:1≤m
 m2:m≤12
 d1:1≤d
 d2:d≤mdI y m
def kY (y:Int)(m:Nat)(d:Int):Int:=dE y+dG y (m - 1)+d - 1
theorem kE {y:Int}{m:Nat}{d:Int}(h:DateOk y m d):dE y≤kY y m d∧kY y m d<dE (y+1):=by
 obtain⟨h1,h2,h3,h4,h5,h6⟩:=h
 have hs0:=cz y (m - 1) 0
 have z:dG y 0=0:=rfl
 simp only[Nat.zero_add] at hs0
 have hs1:dG y m=dG y (m - 1)+mdI y m:=by
  obtain⟨k,rfl⟩:∃ k,m=k+1:=⟨m - 1,by omega⟩
  rfl
 have hs2:=cz y (12 - m) m
 rw[show m+(12 - m)=12 by omega,Bm] at hs2
 have hb:=i7 y
 unfold kY
 omega
theorem gD {y:Int}(h1:1≤y)(h2:y≤10000):0≤dE y∧dE y≤3652059:=by
 unfold dE;omega
theorem kD {y:Int}{m:Nat}{d:Int}(h:DateOk y m d):0≤kY y m d∧kY y m d≤3652058:=by
 have:=kE h
 have h1:=gD h.y1 (by have:=h.y2;omega)
 have h2:=gD (y:=y+1) (by have:=h.y1;omega) (by have:=h.y2;omega)
 omega
end Go.Ab

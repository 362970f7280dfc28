/- A part of the proof for LiteralQuotesCardSaid. -/
import Derived.Test.YtamoeblcphjbaaaGreatDoorQuLP7
import Derived.Test.YtamoeblcphjbaaaGreatDoorCore5
set_option maxRecDepth 100000
set_option linter.unusedVariables false
set_option linter.unusedSimpArgs false
-- many steps
namespace Go.Proofs.YtamoeblcphjbaaaGreatDoor
open Go Go.Ab
attribute [local irreducible] vc
def hx2 (c:UInt8):List UInt8:=[hxB (c.toNat / 16),hxB (c.toNat % 16)]
def lp (s:List UInt8):List UInt8:=120::34::(s.flatMap hx2++[34])
theorem eu (s:List UInt8):(s.flatMap hx2).length=2*s.length:=by
 induction s with
 | nil=>simp
 | cons c r ih=>simp only[List.flatMap_cons,List.length_append,List.length_cons,ih,hx2,List.length_nil];omega
set_option maxHeartbeats 4000000 in
theorem I4 (s:List UInt8)(hs:s.length≤100000):aw Tryz.prog aF 23 [.str s] (.str (lp s)):=by
 refine aw.intro N2 (by simp[F23]) ?_
 simp(maxSteps:=9^7) (disch:=first|exact dI|fail) only[F23,push_cast,seval]
 refine bg ([]) (fun i:Nat=>[(4,.olist 0 1 (az (120::34::(s.take i).flatMap hx2))),(5,.pv (.int .i64 (i:Int)))]) (fun _=>[]) (fun i=>i≤s.length) (fun i=>s.length - i) (0) ?_;intro e0 σ0 n0 h0;simp(maxSteps:=9^7) (disch:=first|exact dI|fail) only[push_cast,seval] at h0;obtain⟨rfl,rfl,rfl⟩:=h0;refine⟨?_,?_,?_⟩
 ·simp(maxSteps:=9^7) (disch:=first|exact dI|fail) only[push_cast,seval]
  exact .refl _
 ·omega
 ·rintro i hi
  by_cases hlt:i<s.length
  ·obtain⟨c,hc⟩:∃ c,s[i]? = some c:=⟨_,List.getElem?_eq_getElem hlt⟩
   have hltI:(i:Int)<(s.length:Int):=by omega
   obtain⟨q,hqN⟩:∃ q,q=c.toNat / 16:=⟨_,rfl⟩
   obtain⟨m,hmN⟩:∃ m,m=c.toNat % 16:=⟨_,rfl⟩
   have hq:((c.toNat:Int) / 16)=(q:Int):=by omega
   have hm:((c.toNat:Int) % 16)=(m:Int):=by omega
   have hcl:=c.toNat_lt
   have hxq:=Ai (n:=q) (by omega)
   have hxm:=Ai (n:=m) (by omega)
   unfold Cl at hxq hxm
   have hB:az (120::34::(s.take (i+1)).flatMap hx2)=az (120::34::(s.take i).flatMap hx2)++[.int .u8 ((hxB q).toNat:Int),.int .u8 ((hxB m).toNat:Int)]:=by
    rw[fL hc,← List.cons_append,← List.cons_append,kC,hqN,hmN];rfl
   have hl:(az (120::34::(s.take i).flatMap hx2)).length≤600001:=by
    have:=eu (s.take i)
    rw[dU,List.length_cons,List.length_cons]
    rw[List.length_take] at this
    omega
   generalize az (120::34::(s.take i).flatMap hx2)=Q at *
   simp(maxSteps:=9^7) (disch:=first|exact dI|fail) only[hltI,hc,hq,hm,hxq,hxm,push_cast,seval]
   exact⟨i+1,bM (by simp(maxSteps:=9^7) (disch:=first|exact dI|fail) only[hB,push_cast,seval]),by omega,by omega⟩
  ·have hltI:¬ (i:Int)<(s.length:Int):=by omega
   obtain rfl:i=s.length:=by omega
   have hl:(az (120::34::(s.take s.length).flatMap hx2)).length≤600001:=by
    have:=eu s
    rw[dU,List.length_cons,List.length_cons,List.take_length]
    omega
   have hU:u8s (az (120::34::(s.take s.length).flatMap hx2)++[.int .u8 34])=some (lp s):=by
    rw[List.take_length,show az (120::34::s.flatMap hx2)++[.int .u8 34]=az (lp s) by simp[az,lp]]
    exact fo _
   generalize az (120::34::(s.take s.length).flatMap hx2)=Q at *
   simp(maxSteps:=9^7) (disch:=first|exact dI|fail) only[hltI,hU,push_cast,seval]
end Go.Proofs.YtamoeblcphjbaaaGreatDoor
set_option maxRecDepth 100000
set_option linter.unusedVariables false
namespace Go.Proofs.YtamoeblcphjbaaaGreatDoor
open Go Go.Ab
noncomputable def Pt (p:Nat×List Nat):TabRow:=⟨p.1,p.2,(cFn Tryz.prog p.2 p.1).getD ⟨0,[],.skip⟩⟩
theorem Hk {l:List (Nat×List Nat)}(h:(l.all fun p=>(cFn Tryz.prog p.2 p.1).isSome)=true):∀ r∈l.map Pt,cFn Tryz.prog r.muts r.f=some r.fn:=by
 intro r hr
 obtain⟨p,hp,rfl⟩:=List.mem_map.1 hr
 have h:=List.all_eq_true.1 h p hp
 simp only[Pt]
 cases h':cFn Tryz.prog p.2 p.1 with
 | some x=>rfl
 | none=>rw[h'] at h;cases h
def Qz (f:Nat)(ps:List PV):Option PV:=none
def Gh:List (Nat×List Nat):=[(51,[]),(108,[]),(179,[]),(217,[]),(218,[]),(247,[])]
def isS (l:List UInt8):Option PV→Bool
 | some (.str k)=>decide (k=l)
 | _=>false
theorem MA {l:List UInt8}{o:Option PV}(h:isS l o=true):o=some (.str l):=by
 unfold isS at h
 split at h
 ·simp only[decide_eq_true_eq] at h;rw[h]
 ·cases h
def IP:List Nat:=127::List.range 32
theorem Lu:(Gh.all fun p=>(cFn Tryz.prog p.2 p.1).isSome)=true:=by kernel_rfl
theorem QS:(IP.all fun n=>isS (lX (UInt8.ofNat n)) (tV (exF (Gh.map Pt) Qz aF 200 20) 51 [.int .i64 (n:Int),.int .i64 16]))=true:=by kernel_rfl
theorem E7 (c:UInt8)(h:c.toNat<32∨c.toNat=127):aw Tryz.prog aF 51 [.int .i64 (c.toNat:Int),.int .i64 16] (.str (lX c)):=by
 have hm:c.toNat∈IP:=by
  simp only[IP,List.mem_cons,List.mem_range];omega
 have:=List.all_eq_true.1 QS _ hm
 rw[UInt8.ofNat_toNat] at this
 exact aw.of_ex (O:=Qz) (Hk Lu) (fun f ps r h=>by cases h) (MA this)
end Go.Proofs.YtamoeblcphjbaaaGreatDoor
set_option maxRecDepth 100000
set_option linter.unusedVariables false
set_option linter.unusedSimpArgs false
-- many steps
namespace Go.Proofs.YtamoeblcphjbaaaGreatDoor
open Go Go.Ab
attribute [local irreducible] vc
theorem gA (c:UInt8)(l:List UInt8):bB true (c::l)=[.cells 83 true [.ptr 0 0,.row 1 1 0 (l.length+1)],.cells 5 false ((az (c::l)).map .pv)]:=rfl
theorem wB (M:List UInt8)(d:UInt8)(h:M.length≤10000000):aL Tryz.prog aF 1 49 [.ptr 0 0,.pv (.int .u8 (d.toNat:Int))] [.cells 83 true [.ptr 0 0,.row 1 1 0 (M.length+1)],.cells 5 false ((az (34::M)).map .pv)]
  (.pv .nili) [.cells 83 true [.ptr 0 0,.row 1 1 0 ((M++[d]).length+1)],.cells 5 false ((az (34::(M++[d]))).map .pv)]:=by
 have h:=jV true (34::M) d (by rw[List.length_cons];omega)
 rw[List.cons_append,gA,gA] at h;exact h
theorem wS (M k:List UInt8)(h:M.length≤10000000)(hk:k.length≤10000000):aL Tryz.prog aF 1 50 [.ptr 0 0,.pv (.str k)] [.cells 83 true [.ptr 0 0,.row 1 1 0 (M.length+1)],.cells 5 false ((az (34::M)).map .pv)]
  (.pv (.tup [.int .i64 (k.length:Int),.nili])) [.cells 83 true [.ptr 0 0,.row 1 1 0 ((M++k).length+1)],.cells 5 false ((az (34::(M++k))).map .pv)]:=by
 have h:=mc true (34::M) k (by rw[List.length_cons];omega) (by omega)
 rw[List.cons_append,gA,gA] at h;exact h
set_option maxHeartbeats 4000000 in
theorem Ik (s:List UInt8)(hs:s.length≤100000):aw Tryz.prog aF 20 [.str s] (.str (bR s)):=by
 have hB0:=jV false [] 34 (by simp)
 simp only[bB,aB,List.nil_append] at hB0
 refine aw.intro N8 (by simp[F20]) ?_
 simp(maxSteps:=9^7) (disch:=first|exact dI|fail) only[F20,push_cast,seval]
 refine ab.lentK hB0 [0] rfl (by simp(maxSteps:=9^7) (disch:=first|exact dI|fail) only[push_cast,seval]) (by simp(maxSteps:=9^7) (disch:=first|exact dI|fail) only[push_cast,seval]) ?_
 simp(maxSteps:=9^7) (disch:=first|exact dI|fail) only[push_cast,seval]
 refine bg ([]) (fun i:Nat=>[(9,.pv (.int .i64 (i:Int)))]) (fun i=>[(0,.cells 83 true [.ptr 0 0,.row 1 1 0 (((s.take i).flatMap cr).length+1)]),(1,.cells 5 false ((az (34::(s.take i).flatMap cr)).map .pv))]) (fun i=>i≤s.length) (fun i=>s.length - i) (0) ?_;intro e0 σ0 n0 h0;simp(maxSteps:=9^7) (disch:=first|exact dI|fail) only[push_cast,seval] at h0;obtain⟨rfl,rfl,rfl⟩:=h0;refine⟨?_,?_,?_⟩
 ·simp(maxSteps:=9^7) (disch:=first|exact dI|fail) only[List.flatMap_nil,List.length_nil,Nat.zero_add,push_cast,seval]
 ·omega
 ·rintro i hi
  have hl:((s.take i).flatMap cr).length≤600000:=by
   have:=fM (s.take i)
   rw[List.length_take] at this
   omega
  by_cases hlt:i<s.length
  ·obtain⟨c,hc⟩:∃ c,s[i]? = some c:=⟨_,List.getElem?_eq_getElem hlt⟩
   have hltI:(i:Int)<(s.length:Int):=by omega
   have hB:=fL hc cr
   generalize (s.take i).flatMap cr=M at *
   by_cases h1:c.toNat=34∨c.toNat=92
   ·rw[Fg h1,show M++[92,c]=M++[92]++[c] by simp] at hB
    have k1:=wB M 92 (by omega)
    have k2:=wB (M++[92]) c (by simp;omega)
    rw[show (((92:UInt8).toNat:Nat):Int)=92 from rfl] at k1
    by_cases h34:c.toNat=34
    ·have h34I:((c.toNat:Int)=34)=True:=eq_true (by omega)
     simp(maxSteps:=9^7) (disch:=first|exact dI|fail) only[hltI,hc,h34I,push_cast,seval]
     refine ab.lentK k1 [0,1] rfl (by simp(maxSteps:=9^7) (disch:=first|exact dI|fail) only[push_cast,seval]) (by simp(maxSteps:=9^7) (disch:=first|exact dI|fail) only[push_cast,seval]) ?_
     simp(maxSteps:=9^7) (disch:=first|exact dI|fail) only[push_cast,seval]
     refine ab.lentK k2 [0,2] rfl (by simp(maxSteps:=9^7) (disch:=first|exact dI|fail) only[push_cast,seval]) (by simp(maxSteps:=9^7) (disch:=first|exact dI|fail) only[push_cast,seval]) ?_
     simp(maxSteps:=9^7) (disch:=first|exact dI|fail) only[push_cast,seval]
     exact⟨i+1,bM (by simp(maxSteps:=9^7) (disch:=first|exact dI|fail) only[hB,push_cast,seval]),by omega,by omega⟩
    ·have h34I:¬ (c.toNat:Int)=34:=by omega
     have h92I:((c.toNat:Int)=92)=True:=eq_true (by omega)
     simp(maxSteps:=9^7) (disch:=first|exact dI|fail) only[hltI,hc,h34I,h92I,push_cast,seval]
     refine ab.lentK k1 [0,1] rfl (by simp(maxSteps:=9^7) (disch:=first|exact dI|fail) only[push_cast,seval]) (by simp(maxSteps:=9^7) (disch:=first|exact dI|fail) only[push_cast,seval]) ?_
     simp(maxSteps:=9^7) (disch:=first|exact dI|fail) only[push_cast,seval]
     refine ab.lentK k2 [0,2] rfl (by simp(maxSteps:=9^7) (disch:=first|exact dI|fail) only[push_cast,seval]) (by simp(maxSteps:=9^7) (disch:=first|exact dI|fail) only[push_cast,seval]) ?_
     simp(maxSteps:=9^7) (disch:=first|exact dI|fail) only[push_cast,seval]
     exact⟨i+1,bM (by simp(maxSteps:=9^7) (disch:=first|exact dI|fail) only[hB,push_cast,seval]),by omega,by omega⟩
   ·have h34I:¬ (c.toNat:Int)=34:=by omega
    have h92I:¬ (c.toNat:Int)=92:=by omega
    by_cases h10:c.toNat=10
    ·have h10I:((c.toNat:Int)=10)=True:=eq_true (by omega)
     rw[Ju h10] at hB
     have k1:=wS M [92,110] (by omega) (by simp)
     simp(maxSteps:=9^7) (disch:=first|exact dI|fail) only[hltI,hc,h34I,h92I,h10I,push_cast,seval]
     refine ab.lentK k1 [0,1] rfl (by simp(maxSteps:=9^7) (disch:=first|exact dI|fail) only[push_cast,seval]) (by simp(maxSteps:=9^7) (disch:=first|exact dI|fail) only[push_cast,seval]) ?_
     simp(maxSteps:=9^7) (disch:=first|exact dI|fail) only[push_cast,seval]
     exact⟨i+1,bM (by simp(maxSteps:=9^7) (disch:=first|exact dI|fail) only[hB,push_cast,seval]),by omega,by omega⟩
    have h10I:¬ (c.toNat:Int)=10:=by omega
    by_cases h13:c.toNat=13
    ·have h13I:((c.toNat:Int)=13)=True:=eq_true (by omega)
     rw[Jt h13] at hB
     have k1:=wS M [92,114] (by omega) (by simp)
     simp(maxSteps:=9^7) (disch:=first|exact dI|fail) only[hltI,hc,h34I,h92I,h10I,h13I,push_cast,seval]
     refine ab.lentK k1 [0,1] rfl (by simp(maxSteps:=9^7) (disch:=first|exact dI|fail) only[push_cast,seval]) (by simp(maxSteps:=9^7) (disch:=first|exact dI|fail) only[push_cast,seval]) ?_
     simp(maxSteps:=9^7) (disch:=first|exact dI|fail) only[push_cast,seval]
     exact⟨i+1,bM (by simp(maxSteps:=9^7) (disch:=first|exact dI|fail) only[hB,push_cast,seval]),by omega,by omega⟩
    have h13I:¬ (c.toNat:Int)=13:=by omega
    by_cases h9:c.toNat=9
    ·have h9I:((c.toNat:Int)=9)=True:=eq_true (by omega)
     rw[Js h9] at hB
     have k1:=wS M [92,116] (by omega) (by simp)
     simp(maxSteps:=9^7) (disch:=first|exact dI|fail) only[hltI,hc,h34I,h92I,h10I,h13I,h9I,push_cast,seval]
     refine ab.lentK k1 [0,1] rfl (by simp(maxSteps:=9^7) (disch:=first|exact dI|fail) only[push_cast,seval]) (by simp(maxSteps:=9^7) (disch:=first|exact dI|fail) only[push_cast,seval]) ?_
     simp(maxSteps:=9^7) (disch:=first|exact dI|fail) only[push_cast,seval]
     exact⟨i+1,bM (by simp(maxSteps:=9^7) (disch:=first|exact dI|fail) only[hB,push_cast,seval]),by omega,by omega⟩
    have h9I:¬ (c.toNat:Int)=9:=by omega
    by_cases h5:c.toNat<32∨c.toNat=127
    ·have hf:=E7 c h5
     have hxl:(lX c).length≤2:=by unfold lX;split<;>simp
     rw[Jr h5 h10 h13 h9] at hB
     generalize lX c=X at *
     have k1:=wS M (92::117::123::(X++[125])) (by omega) (by simp;omega)
     by_cases h32:c.toNat<32
     ·have h32I:(c.toNat:Int)<32:=by omega
      simp(maxSteps:=9^7) (disch:=first|exact dI|fail) only[hltI,hc,h34I,h92I,h10I,h13I,h9I,h32I,push_cast,seval]
      refine ab.pure hf rfl ?_
      simp(maxSteps:=9^7) (disch:=first|exact dI|fail) only[push_cast,seval]
      refine ab.lentK k1 [0,1] rfl (by simp(maxSteps:=9^7) (disch:=first|exact dI|fail) only[push_cast,seval]) (by simp(maxSteps:=9^7) (disch:=first|exact dI|fail) only[push_cast,seval]) ?_
      simp(maxSteps:=9^7) (disch:=first|exact dI|fail) only[push_cast,seval]
      exact⟨i+1,bM (by simp(maxSteps:=9^7) (disch:=first|exact dI|fail) only[hB,push_cast,seval]),by omega,by omega⟩
     ·have h32I:¬ (c.toNat:Int)<32:=by omega
      have h127:((c.toNat:Int)=127)=True:=eq_true (by omega)
      simp(maxSteps:=9^7) (disch:=first|exact dI|fail) only[hltI,hc,h34I,h92I,h10I,h13I,h9I,h32I,h127,push_cast,seval]
      refine ab.pure hf rfl ?_
      simp(maxSteps:=9^7) (disch:=first|exact dI|fail) only[push_cast,seval]
      refine ab.lentK k1 [0,1] rfl (by simp(maxSteps:=9^7) (disch:=first|exact dI|fail) only[push_cast,seval]) (by simp(maxSteps:=9^7) (disch:=first|exact dI|fail) only[push_cast,seval]) ?_
      simp(maxSteps:=9^7) (disch:=first|exact dI|fail) only[push_cast,seval]
      exact⟨i+1,bM (by simp(maxSteps:=9^7) (disch:=first|exact dI|fail) only[hB,push_cast,seval]),by omega,by omega⟩
    ·have h32I:¬ (c.toNat:Int)<32:=by omega
     have h127I:¬ (c.toNat:Int)=127:=by omega
     rw[Jq h5 h1] at hB
     have k1:=wB M c (by omega)
     simp(maxSteps:=9^7) (disch:=first|exact dI|fail) only[hltI,hc,h34I,h92I,h10I,h13I,h9I,h32I,h127I,push_cast,seval]
     refine ab.lentK k1 [0,1] rfl (by simp(maxSteps:=9^7) (disch:=first|exact dI|fail) only[push_cast,seval]) (by simp(maxSteps:=9^7) (disch:=first|exact dI|fail) only[push_cast,seval]) ?_
     simp(maxSteps:=9^7) (disch:=first|exact dI|fail) only[push_cast,seval]
     exact⟨i+1,bM (by simp(maxSteps:=9^7) (disch:=first|exact dI|fail) only[hB,push_cast,seval]),by omega,by omega⟩
  ·have hltI:¬ (i:Int)<(s.length:Int):=by omega
   obtain rfl:i=s.length:=by omega
   have hq:bR s=34::((s.take s.length).flatMap cr++[34]):=by rw[List.take_length];rfl
   rw[hq]
   generalize (s.take s.length).flatMap cr=M at *
   have k1:=wB M 34 (by omega)
   have k2:=iC true (34::(M++[34])) (by simp;omega)
   rw[gA] at k2
   rw[show (((34:UInt8).toNat:Nat):Int)=34 from rfl] at k1
   simp(maxSteps:=9^7) (disch:=first|exact dI|fail) only[hltI,push_cast,seval]
   refine ab.lentK k1 [0,1] rfl (by simp(maxSteps:=9^7) (disch:=first|exact dI|fail) only[push_cast,seval]) (by simp(maxSteps:=9^7) (disch:=first|exact dI|fail) only[push_cast,seval]) ?_
   simp(maxSteps:=9^7) (disch:=first|exact dI|fail) only[push_cast,seval]
   refine ab.lentK k2 [0,2] rfl (by simp(maxSteps:=9^7) (disch:=first|exact dI|fail) only[push_cast,seval]) (by simp(maxSteps:=9^7) (disch:=first|exact dI|fail) only[push_cast,seval]) ?_
   simp(maxSteps:=9^7) (disch:=first|exact dI|fail) only[push_cast,seval]
end Go.Proofs.YtamoeblcphjbaaaGreatDoor

/- A part of the proof for LiteralAgainCardSaid. -/
import Derived.Test.YtamoeblcphjbaaaGreatDoorAgLP7
import Derived.Test.YtamoeblcphjbaaaGreatDoorAgCore5
set_option maxRecDepth 100000
set_option linter.unusedVariables false
set_option linter.unusedSimpArgs false
-- many steps
namespace Go.Proofs.YtamoeblcphjbaaaGreatDoor
open Go Go.Ab
attribute [local irreducible] vc
def hx2 (c:UInt8):List UInt8:=[hxB (c.toNat / 16),hxB (c.toNat % 16)]
def lC (s:List UInt8):List UInt8:=120::34::(s.flatMap hx2++[34])
theorem fo (s:List UInt8):(s.flatMap hx2).length=2*s.length:=by
 induction s with
 | nil=>simp
 | cons c r ih=>simp only[List.flatMap_cons,List.length_append,List.length_cons,ih,hx2,List.length_nil];omega
set_option maxHeartbeats 4000000 in
theorem Jw (s:List UInt8)(hs:s.length≤100000):aq Tryz.prog aF 23 [.str s] (.str (lC s)):=by
 refine aq.intro OD (by simp[F23]) ?_
 simp(disch:=try exact dI) only[F23,push_cast,seval]
 refine be ([]) (fun i:Nat=>[(4,.olist 0 1 (aA (120::34::(s.take i).flatMap hx2))),(5,.pv (.int .i64 (i:Int)))]) (fun _=>[]) (fun i=>i≤s.length) (fun i=>s.length - i) (0) ?_;intro e0 σ0 n0 h0;simp(disch:=try exact dI) only[push_cast,seval] at h0;obtain⟨rfl,rfl,rfl⟩:=h0;refine⟨?_,?_,?_⟩
 ·simp(disch:=try exact dI) only[push_cast,seval]
  exact .refl _
 ·omega
 ·rintro i hi
  by_cases hlt:i<s.length
  ·obtain⟨c,hc⟩:∃ c,s[i]? = some c:=⟨_,List.getElem?_eq_getElem hlt⟩
   have hltI:(i:Int)<(s.length:Int):=by omega
   obtain⟨q,hqN⟩:∃ q,q=c.toNat / 16:=⟨_,rfl⟩
   obtain⟨m,hmN⟩:∃ m,m=c.toNat % 16:=⟨_,rfl⟩
   have hq:((c.toNat:Int) / 16)=(q:Int):=by omega
   have hm:((c.toNat:Int) % 16)=(m:Int):=by omega
   have hcl:=c.toNat_lt
   have hxq:=AW (n:=q) (by omega)
   have hxm:=AW (n:=m) (by omega)
   unfold CR at hxq hxm
   have hB:aA (120::34::(s.take (i+1)).flatMap hx2)=aA (120::34::(s.take i).flatMap hx2)++[.int .u8 ((hxB q).toNat:Int),.int .u8 ((hxB m).toNat:Int)]:=by
    rw[gV hc,← List.cons_append,← List.cons_append,mx,hqN,hmN];rfl
   have hl:(aA (120::34::(s.take i).flatMap hx2)).length≤600001:=by
    have:=fo (s.take i)
    rw[eQ,List.length_cons,List.length_cons]
    rw[List.length_take] at this
    omega
   generalize aA (120::34::(s.take i).flatMap hx2)=Q at *
   simp(disch:=try exact dI) only[hltI,hc,hq,hm,hxq,hxm,push_cast,seval]
   exact⟨i+1,bT (by simp(disch:=try exact dI) only[hB,push_cast,seval]),by omega,by omega⟩
  ·have hltI:¬ (i:Int)<(s.length:Int):=by omega
   obtain rfl:i=s.length:=by omega
   have hl:(aA (120::34::(s.take s.length).flatMap hx2)).length≤600001:=by
    have:=fo s
    rw[eQ,List.length_cons,List.length_cons,List.take_length]
    omega
   have hU:u8s (aA (120::34::(s.take s.length).flatMap hx2)++[.int .u8 34])=some (lC s):=by
    rw[List.take_length,show aA (120::34::s.flatMap hx2)++[.int .u8 34]=aA (lC s) by simp[aA,lC]]
    exact gv _
   generalize aA (120::34::(s.take s.length).flatMap hx2)=Q at *
   simp(disch:=try exact dI) only[hltI,hU,push_cast,seval]
end Go.Proofs.YtamoeblcphjbaaaGreatDoor
namespace Go.Proofs.YtamoeblcphjbaaaGreatDoor
open Go Go.Ab
noncomputable def Ql (p:Nat×List Nat):TabRow:=⟨p.1,p.2,(cFn Tryz.prog p.2 p.1).getD ⟨0,[],.skip⟩⟩
theorem HZ {l:List (Nat×List Nat)}(h:(l.all fun p=>(cFn Tryz.prog p.2 p.1).isSome)=true):∀ r∈l.map Ql,cFn Tryz.prog r.muts r.f=some r.fn:=by
 intro r hr
 obtain⟨p,hp,rfl⟩:=List.mem_map.1 hr
 have h:=List.all_eq_true.1 h p hp
 simp only[Ql]
 cases h':cFn Tryz.prog p.2 p.1 with
 | some x=>rfl
 | none=>rw[h'] at h;cases h
def Rq (f:Nat)(ps:List PV):Option PV:=none
def GQ:List (Nat×List Nat):=[(51,[]),(108,[]),(179,[]),(217,[]),(218,[]),(247,[])]
def isS (l:List UInt8):Option PV→Bool
 | some (.str k)=>decide (k=l)
 | _=>false
theorem M8 {l:List UInt8}{o:Option PV}(h:isS l o=true):o=some (.str l):=by
 unfold isS at h
 split at h
 ·simp only[decide_eq_true_eq] at h;rw[h]
 ·cases h
def Jl:List Nat:=127::List.range 32
theorem LZ:(GQ.all fun p=>(cFn Tryz.prog p.2 p.1).isSome)=true:=by kernel_rfl
theorem RM:(Jl.all fun n=>isS (nM (UInt8.ofNat n)) (vp (exF (GQ.map Ql) Rq aF 200 20) 51 [.int .i64 (n:Int),.int .i64 16]))=true:=by kernel_rfl
theorem FM (c:UInt8)(h:c.toNat<32∨c.toNat=127):aq Tryz.prog aF 51 [.int .i64 (c.toNat:Int),.int .i64 16] (.str (nM c)):=by
 have hm:c.toNat∈Jl:=by
  simp only[Jl,List.mem_cons,List.mem_range];omega
 have:=List.all_eq_true.1 RM _ hm
 rw[UInt8.ofNat_toNat] at this
 exact aq.of_ex (O:=Rq) (HZ LZ) (fun f ps r h=>by cases h) (M8 this)
end Go.Proofs.YtamoeblcphjbaaaGreatDoor
-- many steps
namespace Go.Proofs.YtamoeblcphjbaaaGreatDoor
open Go Go.Ab
attribute [local irreducible] vc
theorem iT (c:UInt8)(l:List UInt8):bB true (c::l)=[.cells 83 true [.ptr 0 0,.row 1 1 0 (l.length+1)],.cells 5 false ((aA (c::l)).map .pv)]:=rfl
theorem wB (M:List UInt8)(d:UInt8)(h:M.length≤10000000):aQ Tryz.prog aF 1 49 [.ptr 0 0,.pv (.int .u8 (d.toNat:Int))] [.cells 83 true [.ptr 0 0,.row 1 1 0 (M.length+1)],.cells 5 false ((aA (34::M)).map .pv)]
  (.pv .nili) [.cells 83 true [.ptr 0 0,.row 1 1 0 ((M++[d]).length+1)],.cells 5 false ((aA (34::(M++[d]))).map .pv)]:=by
 have h:=lH true (34::M) d (by rw[List.length_cons];omega)
 rw[List.cons_append,iT,iT] at h;exact h
theorem wS (M k:List UInt8)(h:M.length≤10000000)(hk:k.length≤10000000):aQ Tryz.prog aF 1 50 [.ptr 0 0,.pv (.str k)] [.cells 83 true [.ptr 0 0,.row 1 1 0 (M.length+1)],.cells 5 false ((aA (34::M)).map .pv)]
  (.pv (.tup [.int .i64 (k.length:Int),.nili])) [.cells 83 true [.ptr 0 0,.row 1 1 0 ((M++k).length+1)],.cells 5 false ((aA (34::(M++k))).map .pv)]:=by
 have h:=nR true (34::M) k (by rw[List.length_cons];omega) (by omega)
 rw[List.cons_append,iT,iT] at h;exact h
set_option maxHeartbeats 4000000 in
theorem qR (s:List UInt8)(hs:s.length≤100000):aq Tryz.prog aF 20 [.str s] (.str (aL s)):=by
 have hB0:=lH false [] 34 (by simp)
 simp only[bB,aB,List.nil_append] at hB0
 refine aq.intro OJ (by simp[F20]) ?_
 simp(disch:=try exact dI) only[F20,push_cast,seval]
 refine ab.lentK hB0 [0] rfl qsZ qsZ ?_
 simp(disch:=try exact dI) only[push_cast,seval]
 refine be ([]) (fun i:Nat=>[(9,.pv (.int .i64 (i:Int)))]) (fun i=>[(0,.cells 83 true [.ptr 0 0,.row 1 1 0 (((s.take i).flatMap c7).length+1)]),(1,.cells 5 false ((aA (34::(s.take i).flatMap c7)).map .pv))]) (fun i=>i≤s.length) (fun i=>s.length - i) (0) ?_;intro e0 σ0 n0 h0;simp(disch:=try exact dI) only[push_cast,seval] at h0;obtain⟨rfl,rfl,rfl⟩:=h0;refine⟨?_,?_,?_⟩
 ·simp(disch:=try exact dI) only[List.flatMap_nil,List.length_nil,Nat.zero_add,push_cast,seval]
 ·omega
 ·rintro i hi
  have hl:((s.take i).flatMap c7).length≤600000:=by
   have:=gW (s.take i)
   rw[List.length_take] at this
   omega
  by_cases hlt:i<s.length
  ·obtain⟨c,hc⟩:∃ c,s[i]? = some c:=⟨_,List.getElem?_eq_getElem hlt⟩
   have hltI:(i:Int)<(s.length:Int):=by omega
   have hB:=gV hc c7
   generalize (s.take i).flatMap c7=M at *
   by_cases h1:c.toNat=34∨c.toNat=92
   ·rw[FY h1,show M++[92,c]=M++[92]++[c] by simp] at hB
    have k1:=wB M 92 (by omega)
    have k2:=wB (M++[92]) c (by simp;omega)
    rw[show (((92:UInt8).toNat:Nat):Int)=92 from rfl] at k1
    by_cases h34:c.toNat=34
    ·have h34I:((c.toNat:Int)=34)=True:=eq_true (by omega)
     simp(disch:=try exact dI) only[hltI,hc,h34I,push_cast,seval]
     refine ab.lentK k1 [0,1] rfl qsZ qsZ ?_
     simp(disch:=try exact dI) only[push_cast,seval]
     refine ab.lentK k2 [0,2] rfl qsZ qsZ ?_
     simp(disch:=try exact dI) only[push_cast,seval]
     exact⟨i+1,bT (by simp(disch:=try exact dI) only[hB,push_cast,seval]),by omega,by omega⟩
    ·have h34I:¬ (c.toNat:Int)=34:=by omega
     have h92I:((c.toNat:Int)=92)=True:=eq_true (by omega)
     simp(disch:=try exact dI) only[hltI,hc,h34I,h92I,push_cast,seval]
     refine ab.lentK k1 [0,1] rfl qsZ qsZ ?_
     simp(disch:=try exact dI) only[push_cast,seval]
     refine ab.lentK k2 [0,2] rfl qsZ qsZ ?_
     simp(disch:=try exact dI) only[push_cast,seval]
     exact⟨i+1,bT (by simp(disch:=try exact dI) only[hB,push_cast,seval]),by omega,by omega⟩
   ·have h34I:¬ (c.toNat:Int)=34:=by omega
    have h92I:¬ (c.toNat:Int)=92:=by omega
    by_cases h10:c.toNat=10
    ·have h10I:((c.toNat:Int)=10)=True:=eq_true (by omega)
     rw[JV h10] at hB
     have k1:=wS M [92,110] (by omega) (by simp)
     simp(disch:=try exact dI) only[hltI,hc,h34I,h92I,h10I,push_cast,seval]
     refine ab.lentK k1 [0,1] rfl qsZ qsZ ?_
     simp(disch:=try exact dI) only[push_cast,seval]
     exact⟨i+1,bT (by simp(disch:=try exact dI) only[hB,push_cast,seval]),by omega,by omega⟩
    have h10I:¬ (c.toNat:Int)=10:=by omega
    by_cases h13:c.toNat=13
    ·have h13I:((c.toNat:Int)=13)=True:=eq_true (by omega)
     rw[JU h13] at hB
     have k1:=wS M [92,114] (by omega) (by simp)
     simp(disch:=try exact dI) only[hltI,hc,h34I,h92I,h10I,h13I,push_cast,seval]
     refine ab.lentK k1 [0,1] rfl qsZ qsZ ?_
     simp(disch:=try exact dI) only[push_cast,seval]
     exact⟨i+1,bT (by simp(disch:=try exact dI) only[hB,push_cast,seval]),by omega,by omega⟩
    have h13I:¬ (c.toNat:Int)=13:=by omega
    by_cases h9:c.toNat=9
    ·have h9I:((c.toNat:Int)=9)=True:=eq_true (by omega)
     rw[JT h9] at hB
     have k1:=wS M [92,116] (by omega) (by simp)
     simp(disch:=try exact dI) only[hltI,hc,h34I,h92I,h10I,h13I,h9I,push_cast,seval]
     refine ab.lentK k1 [0,1] rfl qsZ qsZ ?_
     simp(disch:=try exact dI) only[push_cast,seval]
     exact⟨i+1,bT (by simp(disch:=try exact dI) only[hB,push_cast,seval]),by omega,by omega⟩
    have h9I:¬ (c.toNat:Int)=9:=by omega
    by_cases h5:c.toNat<32∨c.toNat=127
    ·have hf:=FM c h5
     have hxl:(nM c).length≤2:=by unfold nM;split<;>simp
     rw[JS h5 h10 h13 h9] at hB
     generalize nM c=X at *
     have k1:=wS M (92::117::123::(X++[125])) (by omega) (by simp;omega)
     by_cases h32:c.toNat<32
     ·have h32I:(c.toNat:Int)<32:=by omega
      simp(disch:=try exact dI) only[hltI,hc,h34I,h92I,h10I,h13I,h9I,h32I,push_cast,seval]
      refine ab.pure hf rfl ?_
      simp(disch:=try exact dI) only[push_cast,seval]
      refine ab.lentK k1 [0,1] rfl qsZ qsZ ?_
      simp(disch:=try exact dI) only[push_cast,seval]
      exact⟨i+1,bT (by simp(disch:=try exact dI) only[hB,push_cast,seval]),by omega,by omega⟩
     ·have h32I:¬ (c.toNat:Int)<32:=by omega
      have h127:((c.toNat:Int)=127)=True:=eq_true (by omega)
      simp(disch:=try exact dI) only[hltI,hc,h34I,h92I,h10I,h13I,h9I,h32I,h127,push_cast,seval]
      refine ab.pure hf rfl ?_
      simp(disch:=try exact dI) only[push_cast,seval]
      refine ab.lentK k1 [0,1] rfl qsZ qsZ ?_
      simp(disch:=try exact dI) only[push_cast,seval]
      exact⟨i+1,bT (by simp(disch:=try exact dI) only[hB,push_cast,seval]),by omega,by omega⟩
    ·have h32I:¬ (c.toNat:Int)<32:=by omega
     have h127I:¬ (c.toNat:Int)=127:=by omega
     rw[FX h5 h1] at hB
     have k1:=wB M c (by omega)
     simp(disch:=try exact dI) only[hltI,hc,h34I,h92I,h10I,h13I,h9I,h32I,h127I,push_cast,seval]
     refine ab.lentK k1 [0,1] rfl qsZ qsZ ?_
     simp(disch:=try exact dI) only[push_cast,seval]
     exact⟨i+1,bT (by simp(disch:=try exact dI) only[hB,push_cast,seval]),by omega,by omega⟩
  ·have hltI:¬ (i:Int)<(s.length:Int):=by omega
   obtain rfl:i=s.length:=by omega
   have hq:aL s=34::((s.take s.length).flatMap c7++[34]):=by rw[List.take_length];rfl
   rw[hq]
   generalize (s.take s.length).flatMap c7=M at *
   have k1:=wB M 34 (by omega)
   have k2:=jW true (34::(M++[34])) (by simp;omega)
   rw[iT] at k2
   rw[show (((34:UInt8).toNat:Nat):Int)=34 from rfl] at k1
   simp(disch:=try exact dI) only[hltI,push_cast,seval]
   refine ab.lentK k1 [0,1] rfl qsZ qsZ ?_
   simp(disch:=try exact dI) only[push_cast,seval]
   refine ab.lentK k2 [0,2] rfl qsZ qsZ ?_
   simp(disch:=try exact dI) only[push_cast,seval]
end Go.Proofs.YtamoeblcphjbaaaGreatDoor
-- many steps
namespace Go.Proofs.YtamoeblcphjbaaaGreatDoor
open Go Go.Ab
attribute [local irreducible] vc
def hdQ (s:List UInt8):Nat×List UInt8→St
 | (i,[])=>⟨[(0,.pv (.str s)),(3,.ptr 0 0),(6,.pv (.int .i64 (s.length:Int))),(7,.pv (.int .i64 (i:Int)))],[(0,.cells 83 true [.pv .nilp,.pv .nils])],1⟩
 | (i,b::r)=>⟨[(0,.pv (.str s)),(3,.ptr 0 0),(6,.pv (.int .i64 (s.length:Int))),(7,.pv (.int .i64 (i:Int)))],[(0,.cells 83 true [.ptr 0 0,.row 1 1 0 (r.length+1)]),(1,.cells 5 false ((aA (b::r)).map .pv))],2⟩
def exQ:List UInt8→St
 | []=>⟨[(3,.ptr 0 0)],[(0,.cells 83 true [.pv .nilp,.pv .nils])],1⟩
 | b::r=>⟨[(3,.ptr 0 0)],[(0,.cells 83 true [.ptr 0 0,.row 1 1 0 (r.length+1)]),(1,.cells 5 false ((aA (b::r)).map .pv))],2⟩
theorem Av {n:Nat}(h:n<16):(CR.take (n+1)).drop n=[hxB n]:=by
 have h1:=AW h
 have hl:n<(CR.take (n+1)).length:=by rw[List.length_take];simp[CR];omega
 rw[List.drop_eq_getElem_cons hl,List.drop_eq_nil_of_le (by rw[List.length_take];omega)]
 have:(CR.take (n+1))[n]? = some (hxB n):=by rw[List.getElem?_take,if_pos (by omega)];exact h1
 rw[List.getElem?_eq_getElem hl] at this
 rw[Option.some.inj this]
set_option maxHeartbeats 4000000 in
theorem EF (s:List UInt8)(hs:s.length≤100000):aq Tryz.prog aF 22 [.str s] (.str (lC s)):=by
 refine aq.intro OE (by simp[F22]) ?_
 simp(disch:=try exact dI) only[F22,push_cast,seval]
 refine C0 (hdQ s) (fun y=>y.1≤s.length∧y.2=(s.take y.1).flatMap hx2) (fun y=>s.length - y.1) (0,[]) [3] exQ (fun y=>y=s.flatMap hx2) ?_ ?_ ?_ ?_
 ·exact bT (by simp(disch:=try exact dI) only[hdQ,push_cast,seval])
 ·exact⟨by simp,by simp⟩
 ·rintro⟨i,M⟩ ⟨hi,hM⟩
  simp only at hi hM
  have hl:M.length≤200000:=by
   rw[hM,fo,List.length_take];omega
  by_cases hlt:i<s.length
  ·obtain⟨c,hc⟩:∃ c,s[i]? = some c:=⟨_,List.getElem?_eq_getElem hlt⟩
   have hltI:(i:Int)<(s.length:Int):=by omega
   have hB:=gV hc hx2
   rw[← hM] at hB
   obtain⟨q,hqN⟩:∃ q,q=c.toNat / 16:=⟨_,rfl⟩
   obtain⟨m,hmN⟩:∃ m,m=c.toNat % 16:=⟨_,rfl⟩
   have hcl:=c.toNat_lt
   have hq16:q<16:=by omega
   have hm16:m<16:=by omega
   have hq:((c.toNat:Int) / 16)=(q:Int):=by omega
   have hm:((c.toNat:Int) % 16)=(m:Int):=by omega
   have hxq:=Av hq16
   have hxm:=Av hm16
   simp only[CR,List.take_succ_cons] at hxq hxm
   unfold hx2 at hB
   rw[← hqN,← hmN] at hB
   cases M with
   | nil=>
     have k1:=nR false [] ([hxB q]++[hxB m]) (by simp) (by simp)
     simp only[bB,aB,List.nil_append,List.cons_append] at k1
     rw[List.nil_append] at hB
     simp(disch:=try exact dI) only[hdQ,hltI,hc,hq,hm,hxq,hxm,List.cons_append,List.nil_append,push_cast,seval]
     refine ab.lentK k1 [0] rfl qsZ qsZ ?_
     simp(disch:=try exact dI) only[push_cast,seval]
     exact⟨(i+1,[hxB q,hxB m]),bT (by simp(disch:=try exact dI) only[hdQ,push_cast,seval]),⟨by simp only;omega,hB.symm⟩,by simp only;omega⟩
   | cons b r=>
     have k1:=nR true (b::r) ([hxB q]++[hxB m]) (by simp at hl ⊢;omega) (by simp)
     rw[show (b::r)++([hxB q]++[hxB m])=b::(r++[hxB q,hxB m]) by simp] at k1
     simp only[bB,aB,List.nil_append,List.cons_append] at k1
     rw[List.cons_append] at hB
     simp(disch:=try exact dI) only[hdQ,hltI,hc,hq,hm,hxq,hxm,List.cons_append,List.nil_append,push_cast,seval]
     refine ab.lentK k1 [0,1] rfl qsZ qsZ ?_
     simp(disch:=try exact dI) only[push_cast,seval]
     exact⟨(i+1,b::(r++[hxB q,hxB m])),bT (by simp(disch:=try exact dI) only[hdQ,push_cast,seval]),⟨by simp only;omega,hB.symm⟩,by simp only;omega⟩
  ·have hltI:¬ (i:Int)<(s.length:Int):=by omega
   obtain rfl:i=s.length:=by omega
   rw[List.take_length] at hM
   cases M with
   | nil=>
     simp(disch:=try exact dI) only[hdQ,hltI,push_cast,seval]
     exact⟨[],bT (by simp(disch:=try exact dI) only[exQ,push_cast,seval]),hM⟩
   | cons b r=>
     simp(disch:=try exact dI) only[hdQ,hltI,push_cast,seval]
     exact⟨b::r,bT (by simp(disch:=try exact dI) only[exQ,push_cast,seval]),hM⟩
 ·rintro y hy
  have hl:y.length≤200000:=by rw[hy,fo];omega
  have hh:lC s=120::34::(y++[34]):=by rw[hy];rfl
  rw[hh]
  cases y with
  | nil=>
    have k:=jW false [] (by simp)
    simp only[bB,aB] at k
    simp(disch:=try exact dI) only[exQ,push_cast,seval]
    refine ab.lentK k [0] rfl qsZ qsZ ?_
    simp(disch:=try exact dI) only[push_cast,seval]
  | cons b r=>
    have k:=jW true (b::r) (by omega)
    rw[iT] at k
    have hl2:r.length≤200000:=by simp at hl;omega
    simp(disch:=try exact dI) only[exQ,push_cast,seval]
    refine ab.lentK k [0,1] rfl qsZ qsZ ?_
    simp(disch:=try exact dI) only[push_cast,seval]
end Go.Proofs.YtamoeblcphjbaaaGreatDoor

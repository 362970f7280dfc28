/- A part of the proof for LiteralDiffersCardSaid. -/
import Derived.Test.YtamoeblcphjbaaaGreatDoorDiLB
import Derived.Test.YtamoeblcphjbaaaGreatDoorCore5
set_option maxRecDepth 100000
set_option linter.unusedVariables false
set_option linter.unusedSimpArgs false
-- many steps
namespace Go.Proofs.YtamoeblcphjbaaaGreatDoor
open Go Go.Ab
attribute [local irreducible] vc
def hx2 (c:UInt8):List UInt8:=[hxB (c.toNat / 16),hxB (c.toNat % 16)]
def ja (s:List UInt8):List UInt8:=120::34::(s.flatMap hx2++[34])
theorem dF (s:List UInt8):(s.flatMap hx2).length=2*s.length:=by
 induction s with
 | nil=>simp
 | cons c r ih=>simp only[List.flatMap_cons,List.length_append,List.length_cons,ih,hx2,List.length_nil];omega
set_option maxHeartbeats 4000000 in
theorem DJ (s:List UInt8)(hs:s.length≤100000):aq Tryz.prog aC 23 [.str s] (.str (ja s)):=by
 refine aq.intro HH (by simp[F23]) ?_
 simp(disch:=try exact dI) only[F23,push_cast,seval]
 refine aX ([]) (fun i:Nat=>[(4,.olist 0 1 (ap (120::34::(s.take i).flatMap hx2))),(5,.pv (.int .i64 (i:Int)))]) (fun _=>[]) (fun i=>i≤s.length) (fun i=>s.length - i) (0) ?_;intro e0 σ0 n0 h0;simp(disch:=try exact dI) only[push_cast,seval] at h0;obtain⟨rfl,rfl,rfl⟩:=h0;refine⟨?_,?_,?_⟩
 ·simp(disch:=try exact dI) only[push_cast,seval]
  exact .refl _
 ·omega
 ·rintro i hi
  by_cases hlt:i<s.length
  ·obtain⟨c,hc⟩:∃ c,s[i]? = some c:=⟨_,List.getElem?_eq_getElem hlt⟩
   have hltI:(i:Int)<(s.length:Int):=by omega
   obtain⟨q,hqN⟩:∃ q,q=c.toNat / 16:=⟨_,rfl⟩
   obtain⟨m,hmN⟩:∃ m,m=c.toNat % 16:=⟨_,rfl⟩
   have hq:((c.toNat:Int) / 16)=(q:Int):=by omega
   have hm:((c.toNat:Int) % 16)=(m:Int):=by omega
   have hcl:=c.toNat_lt
   have hxq:=vj (n:=q) (by omega)
   have hxm:=vj (n:=m) (by omega)
   unfold wL at hxq hxm
   have hB:ap (120::34::(s.take (i+1)).flatMap hx2)=ap (120::34::(s.take i).flatMap hx2)++[.int .u8 ((hxB q).toNat:Int),.int .u8 ((hxB m).toNat:Int)]:=by
    rw[eU hc,← List.cons_append,← List.cons_append,jr,hqN,hmN];rfl
   have hl:(ap (120::34::(s.take i).flatMap hx2)).length≤600001:=by
    have:=dF (s.take i)
    rw[dh,List.length_cons,List.length_cons]
    rw[List.length_take] at this
    omega
   generalize ap (120::34::(s.take i).flatMap hx2)=Q at *
   simp(disch:=try exact dI) only[hltI,hc,hq,hm,hxq,hxm,push_cast,seval]
   exact⟨i+1,bX (by simp(disch:=try exact dI) only[hB,push_cast,seval]),by omega,by omega⟩
  ·have hltI:¬ (i:Int)<(s.length:Int):=by omega
   obtain rfl:i=s.length:=by omega
   have hl:(ap (120::34::(s.take s.length).flatMap hx2)).length≤600001:=by
    have:=dF s
    rw[dh,List.length_cons,List.length_cons,List.take_length]
    omega
   have hU:u8s (ap (120::34::(s.take s.length).flatMap hx2)++[.int .u8 34])=some (ja s):=by
    rw[List.take_length,show ap (120::34::s.flatMap hx2)++[.int .u8 34]=ap (ja s) by simp[ap,ja]]
    exact eG _
   generalize ap (120::34::(s.take s.length).flatMap hx2)=Q at *
   simp(disch:=try exact dI) only[hltI,hU,push_cast,seval]
end Go.Proofs.YtamoeblcphjbaaaGreatDoor
namespace Go.Proofs.YtamoeblcphjbaaaGreatDoor
open Go Go.Ab
noncomputable def IZ (p:Nat×List Nat):TabRow:=⟨p.1,p.2,(cFn Tryz.prog p.2 p.1).getD ⟨0,[],.skip⟩⟩
theorem Ca {l:List (Nat×List Nat)}(h:(l.all fun p=>(cFn Tryz.prog p.2 p.1).isSome)=true):∀ r∈l.map IZ,cFn Tryz.prog r.muts r.f=some r.fn:=by
 intro r hr
 obtain⟨p,hp,rfl⟩:=List.mem_map.1 hr
 have h:=List.all_eq_true.1 h p hp
 simp only[IZ]
 cases h':cFn Tryz.prog p.2 p.1 with
 | some x=>rfl
 | none=>rw[h'] at h;cases h
def JO (f:Nat)(ps:List PV):Option PV:=none
def Ba:List (Nat×List Nat):=[(51,[]),(108,[]),(179,[]),(217,[]),(218,[]),(247,[])]
def isS (l:List UInt8):Option PV→Bool
 | some (.str k)=>decide (k=l)
 | _=>false
theorem Gd {l:List UInt8}{o:Option PV}(h:isS l o=true):o=some (.str l):=by
 unfold isS at h
 split at h
 ·simp only[decide_eq_true_eq] at h;rw[h]
 ·cases h
def Dx:List Nat:=127::List.range 32
theorem Fe:(Ba.all fun p=>(cFn Tryz.prog p.2 p.1).isSome)=true:=by kernel_rfl
theorem J8:(Dx.all fun n=>isS (ki (UInt8.ofNat n)) (qn (exF (Ba.map IZ) JO aC 200 20) 51 [.int .i64 (n:Int),.int .i64 16]))=true:=by kernel_rfl
theorem Ag (c:UInt8)(h:c.toNat<32∨c.toNat=127):aq Tryz.prog aC 51 [.int .i64 (c.toNat:Int),.int .i64 16] (.str (ki c)):=by
 have hm:c.toNat∈Dx:=by
  simp only[Dx,List.mem_cons,List.mem_range];omega
 have:=List.all_eq_true.1 J8 _ hm
 rw[UInt8.ofNat_toNat] at this
 exact aq.of_ex (O:=JO) (Ca Fe) (fun f ps r h=>by cases h) (Gd this)
end Go.Proofs.YtamoeblcphjbaaaGreatDoor
-- many steps
namespace Go.Proofs.YtamoeblcphjbaaaGreatDoor
open Go Go.Ab
attribute [local irreducible] vc
theorem fC (c:UInt8)(l:List UInt8):bB true (c::l)=[.cells 83 true [.ptr 0 0,.row 1 1 0 (l.length+1)],.cells 5 false ((ap (c::l)).map .pv)]:=rfl
theorem wB (M:List UInt8)(d:UInt8)(h:M.length≤10000000):kj Tryz.prog aC 1 49 [.ptr 0 0,.pv (.int .u8 (d.toNat:Int))] [.cells 83 true [.ptr 0 0,.row 1 1 0 (M.length+1)],.cells 5 false ((ap (34::M)).map .pv)]
  (.pv .nili) [.cells 83 true [.ptr 0 0,.row 1 1 0 ((M++[d]).length+1)],.cells 5 false ((ap (34::(M++[d]))).map .pv)]:=by
 have h:=AQ true (34::M) d (by rw[List.length_cons];omega)
 rw[List.cons_append,fC,fC] at h;exact h
theorem wS (M k:List UInt8)(h:M.length≤10000000)(hk:k.length≤10000000):kj Tryz.prog aC 1 50 [.ptr 0 0,.pv (.str k)] [.cells 83 true [.ptr 0 0,.row 1 1 0 (M.length+1)],.cells 5 false ((ap (34::M)).map .pv)]
  (.pv (.tup [.int .i64 (k.length:Int),.nili])) [.cells 83 true [.ptr 0 0,.row 1 1 0 ((M++k).length+1)],.cells 5 false ((ap (34::(M++k))).map .pv)]:=by
 have h:=rQ true (34::M) k (by rw[List.length_cons];omega) (by omega)
 rw[List.cons_append,fC,fC] at h;exact h
set_option maxHeartbeats 4000000 in
theorem mL (s:List UInt8)(hs:s.length≤100000):aq Tryz.prog aC 20 [.str s] (.str (aH s)):=by
 have hB0:=AQ false [] 34 (by simp)
 simp only[bB,aB,List.nil_append] at hB0
 refine aq.intro HK (by simp[F20]) ?_
 simp(disch:=try exact dI) only[F20,push_cast,seval]
 refine ab.lentK hB0 [0] rfl qsZ qsZ ?_
 simp(disch:=try exact dI) only[push_cast,seval]
 refine aX ([]) (fun i:Nat=>[(9,.pv (.int .i64 (i:Int)))]) (fun i=>[(0,.cells 83 true [.ptr 0 0,.row 1 1 0 (((s.take i).flatMap bP).length+1)]),(1,.cells 5 false ((ap (34::(s.take i).flatMap bP)).map .pv))]) (fun i=>i≤s.length) (fun i=>s.length - i) (0) ?_;intro e0 σ0 n0 h0;simp(disch:=try exact dI) only[push_cast,seval] at h0;obtain⟨rfl,rfl,rfl⟩:=h0;refine⟨?_,?_,?_⟩
 ·simp(disch:=try exact dI) only[List.flatMap_nil,List.length_nil,Nat.zero_add,push_cast,seval]
 ·omega
 ·rintro i hi
  have hl:((s.take i).flatMap bP).length≤600000:=by
   have:=eV (s.take i)
   rw[List.length_take] at this
   omega
  by_cases hlt:i<s.length
  ·obtain⟨c,hc⟩:∃ c,s[i]? = some c:=⟨_,List.getElem?_eq_getElem hlt⟩
   have hltI:(i:Int)<(s.length:Int):=by omega
   have hB:=eU hc bP
   generalize (s.take i).flatMap bP=M at *
   by_cases h1:c.toNat=34∨c.toNat=92
   ·rw[Aq h1,show M++[92,c]=M++[92]++[c] by simp] at hB
    have k1:=wB M 92 (by omega)
    have k2:=wB (M++[92]) c (by simp;omega)
    rw[show (((92:UInt8).toNat:Nat):Int)=92 from rfl] at k1
    by_cases h34:c.toNat=34
    ·have h34I:((c.toNat:Int)=34)=True:=eq_true (by omega)
     simp(disch:=try exact dI) only[hltI,hc,h34I,push_cast,seval]
     refine ab.lentK k1 [0,1] rfl qsZ qsZ ?_
     simp(disch:=try exact dI) only[push_cast,seval]
     refine ab.lentK k2 [0,2] rfl qsZ qsZ ?_
     simp(disch:=try exact dI) only[push_cast,seval]
     exact⟨i+1,bX (by simp(disch:=try exact dI) only[hB,push_cast,seval]),by omega,by omega⟩
    ·have h34I:¬ (c.toNat:Int)=34:=by omega
     have h92I:((c.toNat:Int)=92)=True:=eq_true (by omega)
     simp(disch:=try exact dI) only[hltI,hc,h34I,h92I,push_cast,seval]
     refine ab.lentK k1 [0,1] rfl qsZ qsZ ?_
     simp(disch:=try exact dI) only[push_cast,seval]
     refine ab.lentK k2 [0,2] rfl qsZ qsZ ?_
     simp(disch:=try exact dI) only[push_cast,seval]
     exact⟨i+1,bX (by simp(disch:=try exact dI) only[hB,push_cast,seval]),by omega,by omega⟩
   ·have h34I:¬ (c.toNat:Int)=34:=by omega
    have h92I:¬ (c.toNat:Int)=92:=by omega
    by_cases h10:c.toNat=10
    ·have h10I:((c.toNat:Int)=10)=True:=eq_true (by omega)
     rw[D1 h10] at hB
     have k1:=wS M [92,110] (by omega) (by simp)
     simp(disch:=try exact dI) only[hltI,hc,h34I,h92I,h10I,push_cast,seval]
     refine ab.lentK k1 [0,1] rfl qsZ qsZ ?_
     simp(disch:=try exact dI) only[push_cast,seval]
     exact⟨i+1,bX (by simp(disch:=try exact dI) only[hB,push_cast,seval]),by omega,by omega⟩
    have h10I:¬ (c.toNat:Int)=10:=by omega
    by_cases h13:c.toNat=13
    ·have h13I:((c.toNat:Int)=13)=True:=eq_true (by omega)
     rw[D0 h13] at hB
     have k1:=wS M [92,114] (by omega) (by simp)
     simp(disch:=try exact dI) only[hltI,hc,h34I,h92I,h10I,h13I,push_cast,seval]
     refine ab.lentK k1 [0,1] rfl qsZ qsZ ?_
     simp(disch:=try exact dI) only[push_cast,seval]
     exact⟨i+1,bX (by simp(disch:=try exact dI) only[hB,push_cast,seval]),by omega,by omega⟩
    have h13I:¬ (c.toNat:Int)=13:=by omega
    by_cases h9:c.toNat=9
    ·have h9I:((c.toNat:Int)=9)=True:=eq_true (by omega)
     rw[DZ h9] at hB
     have k1:=wS M [92,116] (by omega) (by simp)
     simp(disch:=try exact dI) only[hltI,hc,h34I,h92I,h10I,h13I,h9I,push_cast,seval]
     refine ab.lentK k1 [0,1] rfl qsZ qsZ ?_
     simp(disch:=try exact dI) only[push_cast,seval]
     exact⟨i+1,bX (by simp(disch:=try exact dI) only[hB,push_cast,seval]),by omega,by omega⟩
    have h9I:¬ (c.toNat:Int)=9:=by omega
    by_cases h5:c.toNat<32∨c.toNat=127
    ·have hf:=Ag c h5
     have hxl:(ki c).length≤2:=by unfold ki;split<;>simp
     rw[DY h5 h10 h13 h9] at hB
     generalize ki c=X at *
     have k1:=wS M (92::117::123::(X++[125])) (by omega) (by simp;omega)
     by_cases h32:c.toNat<32
     ·have h32I:(c.toNat:Int)<32:=by omega
      simp(disch:=try exact dI) only[hltI,hc,h34I,h92I,h10I,h13I,h9I,h32I,push_cast,seval]
      refine ab.pure hf rfl ?_
      simp(disch:=try exact dI) only[push_cast,seval]
      refine ab.lentK k1 [0,1] rfl qsZ qsZ ?_
      simp(disch:=try exact dI) only[push_cast,seval]
      exact⟨i+1,bX (by simp(disch:=try exact dI) only[hB,push_cast,seval]),by omega,by omega⟩
     ·have h32I:¬ (c.toNat:Int)<32:=by omega
      have h127:((c.toNat:Int)=127)=True:=eq_true (by omega)
      simp(disch:=try exact dI) only[hltI,hc,h34I,h92I,h10I,h13I,h9I,h32I,h127,push_cast,seval]
      refine ab.pure hf rfl ?_
      simp(disch:=try exact dI) only[push_cast,seval]
      refine ab.lentK k1 [0,1] rfl qsZ qsZ ?_
      simp(disch:=try exact dI) only[push_cast,seval]
      exact⟨i+1,bX (by simp(disch:=try exact dI) only[hB,push_cast,seval]),by omega,by omega⟩
    ·have h32I:¬ (c.toNat:Int)<32:=by omega
     have h127I:¬ (c.toNat:Int)=127:=by omega
     rw[Ap h5 h1] at hB
     have k1:=wB M c (by omega)
     simp(disch:=try exact dI) only[hltI,hc,h34I,h92I,h10I,h13I,h9I,h32I,h127I,push_cast,seval]
     refine ab.lentK k1 [0,1] rfl qsZ qsZ ?_
     simp(disch:=try exact dI) only[push_cast,seval]
     exact⟨i+1,bX (by simp(disch:=try exact dI) only[hB,push_cast,seval]),by omega,by omega⟩
  ·have hltI:¬ (i:Int)<(s.length:Int):=by omega
   obtain rfl:i=s.length:=by omega
   have hq:aH s=34::((s.take s.length).flatMap bP++[34]):=by rw[List.take_length];rfl
   rw[hq]
   generalize (s.take s.length).flatMap bP=M at *
   have k1:=wB M 34 (by omega)
   have k2:=mt true (34::(M++[34])) (by simp;omega)
   rw[fC] at k2
   rw[show (((34:UInt8).toNat:Nat):Int)=34 from rfl] at k1
   simp(disch:=try exact dI) only[hltI,push_cast,seval]
   refine ab.lentK k1 [0,1] rfl qsZ qsZ ?_
   simp(disch:=try exact dI) only[push_cast,seval]
   refine ab.lentK k2 [0,2] rfl qsZ qsZ ?_
   simp(disch:=try exact dI) only[push_cast,seval]
end Go.Proofs.YtamoeblcphjbaaaGreatDoor
-- many steps
namespace Go.Proofs.YtamoeblcphjbaaaGreatDoor
open Go Go.Ab
attribute [local irreducible] vc
def hdQ (s:List UInt8):Nat×List UInt8→St
 | (i,[])=>⟨[(0,.pv (.str s)),(3,.ptr 0 0),(6,.pv (.int .i64 (s.length:Int))),(7,.pv (.int .i64 (i:Int)))],[(0,.cells 83 true [.pv .nilp,.pv .nils])],1⟩
 | (i,b::r)=>⟨[(0,.pv (.str s)),(3,.ptr 0 0),(6,.pv (.int .i64 (s.length:Int))),(7,.pv (.int .i64 (i:Int)))],[(0,.cells 83 true [.ptr 0 0,.row 1 1 0 (r.length+1)]),(1,.cells 5 false ((ap (b::r)).map .pv))],2⟩
def exQ:List UInt8→St
 | []=>⟨[(3,.ptr 0 0)],[(0,.cells 83 true [.pv .nilp,.pv .nils])],1⟩
 | b::r=>⟨[(3,.ptr 0 0)],[(0,.cells 83 true [.ptr 0 0,.row 1 1 0 (r.length+1)]),(1,.cells 5 false ((ap (b::r)).map .pv))],2⟩
theorem uM {n:Nat}(h:n<16):(wL.take (n+1)).drop n=[hxB n]:=by
 have h1:=vj h
 have hl:n<(wL.take (n+1)).length:=by rw[List.length_take];simp[wL];omega
 rw[List.drop_eq_getElem_cons hl,List.drop_eq_nil_of_le (by rw[List.length_take];omega)]
 have:(wL.take (n+1))[n]? = some (hxB n):=by rw[List.getElem?_take,if_pos (by omega)];exact h1
 rw[List.getElem?_eq_getElem hl] at this
 rw[Option.some.inj this]
set_option maxHeartbeats 4000000 in
theorem yQ (s:List UInt8)(hs:s.length≤100000):aq Tryz.prog aC 22 [.str s] (.str (ja s)):=by
 refine aq.intro HI (by simp[F22]) ?_
 simp(disch:=try exact dI) only[F22,push_cast,seval]
 refine wW (hdQ s) (fun y=>y.1≤s.length∧y.2=(s.take y.1).flatMap hx2) (fun y=>s.length - y.1) (0,[]) [3] exQ (fun y=>y=s.flatMap hx2) ?_ ?_ ?_ ?_
 ·exact bX (by simp(disch:=try exact dI) only[hdQ,push_cast,seval])
 ·exact⟨by simp,by simp⟩
 ·rintro⟨i,M⟩ ⟨hi,hM⟩
  simp only at hi hM
  have hl:M.length≤200000:=by
   rw[hM,dF,List.length_take];omega
  by_cases hlt:i<s.length
  ·obtain⟨c,hc⟩:∃ c,s[i]? = some c:=⟨_,List.getElem?_eq_getElem hlt⟩
   have hltI:(i:Int)<(s.length:Int):=by omega
   have hB:=eU hc hx2
   rw[← hM] at hB
   obtain⟨q,hqN⟩:∃ q,q=c.toNat / 16:=⟨_,rfl⟩
   obtain⟨m,hmN⟩:∃ m,m=c.toNat % 16:=⟨_,rfl⟩
   have hcl:=c.toNat_lt
   have hq16:q<16:=by omega
   have hm16:m<16:=by omega
   have hq:((c.toNat:Int) / 16)=(q:Int):=by omega
   have hm:((c.toNat:Int) % 16)=(m:Int):=by omega
   have hxq:=uM hq16
   have hxm:=uM hm16
   simp only[wL,List.take_succ_cons] at hxq hxm
   unfold hx2 at hB
   rw[← hqN,← hmN] at hB
   cases M with
   | nil=>
     have k1:=rQ false [] ([hxB q]++[hxB m]) (by simp) (by simp)
     simp only[bB,aB,List.nil_append,List.cons_append] at k1
     rw[List.nil_append] at hB
     simp(disch:=try exact dI) only[hdQ,hltI,hc,hq,hm,hxq,hxm,List.cons_append,List.nil_append,push_cast,seval]
     refine ab.lentK k1 [0] rfl qsZ qsZ ?_
     simp(disch:=try exact dI) only[push_cast,seval]
     exact⟨(i+1,[hxB q,hxB m]),bX (by simp(disch:=try exact dI) only[hdQ,push_cast,seval]),⟨by simp only;omega,hB.symm⟩,by simp only;omega⟩
   | cons b r=>
     have k1:=rQ true (b::r) ([hxB q]++[hxB m]) (by simp at hl ⊢;omega) (by simp)
     rw[show (b::r)++([hxB q]++[hxB m])=b::(r++[hxB q,hxB m]) by simp] at k1
     simp only[bB,aB,List.nil_append,List.cons_append] at k1
     rw[List.cons_append] at hB
     simp(disch:=try exact dI) only[hdQ,hltI,hc,hq,hm,hxq,hxm,List.cons_append,List.nil_append,push_cast,seval]
     refine ab.lentK k1 [0,1] rfl qsZ qsZ ?_
     simp(disch:=try exact dI) only[push_cast,seval]
     exact⟨(i+1,b::(r++[hxB q,hxB m])),bX (by simp(disch:=try exact dI) only[hdQ,push_cast,seval]),⟨by simp only;omega,hB.symm⟩,by simp only;omega⟩
  ·have hltI:¬ (i:Int)<(s.length:Int):=by omega
   obtain rfl:i=s.length:=by omega
   rw[List.take_length] at hM
   cases M with
   | nil=>
     simp(disch:=try exact dI) only[hdQ,hltI,push_cast,seval]
     exact⟨[],bX (by simp(disch:=try exact dI) only[exQ,push_cast,seval]),hM⟩
   | cons b r=>
     simp(disch:=try exact dI) only[hdQ,hltI,push_cast,seval]
     exact⟨b::r,bX (by simp(disch:=try exact dI) only[exQ,push_cast,seval]),hM⟩
 ·rintro y hy
  have hl:y.length≤200000:=by rw[hy,dF];omega
  have hh:ja s=120::34::(y++[34]):=by rw[hy];rfl
  rw[hh]
  cases y with
  | nil=>
    have k:=mt false [] (by simp)
    simp only[bB,aB] at k
    simp(disch:=try exact dI) only[exQ,push_cast,seval]
    refine ab.lentK k [0] rfl qsZ qsZ ?_
    simp(disch:=try exact dI) only[push_cast,seval]
  | cons b r=>
    have k:=mt true (b::r) (by omega)
    rw[fC] at k
    have hl2:r.length≤200000:=by simp at hl;omega
    simp(disch:=try exact dI) only[exQ,push_cast,seval]
    refine ab.lentK k [0,1] rfl qsZ qsZ ?_
    simp(disch:=try exact dI) only[push_cast,seval]
end Go.Proofs.YtamoeblcphjbaaaGreatDoor

/- A part of the proof for LiteralTextsCardSaid. -/
import Derived.Test.YtamoeblcphjbaaaGreatDoorTxF
import Derived.Test.YtamoeblcphjbaaaGreatDoorTxLSh
import Derived.Test.YtamoeblcphjbaaaGreatDoorTxLD2
import Derived.Test.YtamoeblcphjbaaaGreatDoorCore6
set_option maxRecDepth 100000
set_option linter.unusedVariables false
set_option linter.unusedSimpArgs false
-- many steps
namespace Go.Proofs.YtamoeblcphjbaaaGreatDoor
open Go Go.Ab
attribute [local irreducible] vc
def wT:List UInt8:=[48,49,50,51,52,53,54,55,56,57,97,98,99,100,101,102]
def hxB (n:Nat):UInt8:=wT.getD n 0
theorem vo {n:Nat}(h:n<16):wT[n]? = some (hxB n):=by
 unfold hxB
 rw[List.getD_eq_getElem?_getD,List.getElem?_eq_getElem (by simpa[wT] using h)];rfl
def Af (c:UInt8):List UInt8:=(if 16≤c.toNat then [hxB (c.toNat / 16)] else [])++[hxB (c.toNat % 16)]
def cu (c:UInt8):List UInt8:=
 if c.toNat=34∨c.toNat=92 then [92,c] else if c.toNat=10 then [92,110] else if c.toNat=13 then [92,114] else if c.toNat=9 then [92,116]
 else if c.toNat<32∨c.toNat=127 then 92::117::123::(Af c++[125]) else [c]
def a8 (s:List UInt8):List UInt8:=34::(s.flatMap cu++[34])
theorem Az (c:UInt8):(cu c).length≤6:=by
 unfold cu Af
 repeat' split
 all_goals simp
theorem er (s:List UInt8):(s.flatMap cu).length≤6*s.length:=by
 induction s with
 | nil=>simp
 | cons c r ih=>have:=Az c;simp only[List.flatMap_cons,List.length_append,List.length_cons];omega
theorem iq (a b:List UInt8):ap (a++b)=ap a++ap b:=by simp[ap]
theorem cP (a:List UInt8):(ap a).length=a.length:=by simp[ap]
theorem eq {s:List UInt8}{i:Nat}{c:UInt8}(h:s[i]? = some c)(f:UInt8→List UInt8):(s.take (i+1)).flatMap f=(s.take i).flatMap f++f c:=by
 rw[aZ h];simp
theorem Gk {c:UInt8}(h:c.toNat=34∨c.toNat=92):cu c=[92,c]:=if_pos h
theorem Gj {c:UInt8}(h:c.toNat=10):cu c=[92,110]:=by unfold cu;rw[if_neg (by omega),if_pos h]
theorem Gi {c:UInt8}(h:c.toNat=13):cu c=[92,114]:=by unfold cu;rw[if_neg (by omega),if_neg (by omega),if_pos h]
theorem Gh {c:UInt8}(h:c.toNat=9):cu c=[92,116]:=by unfold cu;rw[if_neg (by omega),if_neg (by omega),if_neg (by omega),if_pos h]
theorem Gg {c:UInt8}(h:c.toNat<32∨c.toNat=127)(h1:¬ c.toNat=10)(h2:¬ c.toNat=13)(h3:¬ c.toNat=9):cu c=92::117::123::(Af c++[125]):=by
 unfold cu;rw[if_neg (by omega),if_neg h1,if_neg h2,if_neg h3,if_pos h]
theorem Ec {c:UInt8}(h:¬ (c.toNat<32∨c.toNat=127))(h0:¬ (c.toNat=34∨c.toNat=92)):cu c=[c]:=by
 unfold cu;rw[if_neg h0,if_neg (by omega),if_neg (by omega),if_neg (by omega),if_neg h]
set_option maxHeartbeats 4000000 in
theorem y4 (s:List UInt8)(hs:s.length≤100000):aw Tryz.prog aD 21 [.str s] (.str (a8 s)):=by
 refine aw.intro HD (by simp[F21]) ?_
 simp(maxSteps:=9^7) (disch:=first|exact dI|fail) only[F21,push_cast,seval]
 refine be ([]) (fun i:Nat=>[(4,.olist 0 1 (ap (34::(s.take i).flatMap cu))),(5,.pv (.int .i64 (i:Int)))]) (fun _=>[]) (fun i=>i≤s.length) (fun i=>s.length - i) (0) ?_;intro e0 σ0 n0 h0;simp(maxSteps:=9^7) (disch:=first|exact dI|fail) only[push_cast,seval] at h0;obtain⟨rfl,rfl,rfl⟩:=h0;refine⟨?_,?_,?_⟩
 ·simp(maxSteps:=9^7) (disch:=first|exact dI|fail) only[push_cast,seval]
  exact .refl _
 ·omega
 ·rintro i hi
  by_cases hlt:i<s.length
  ·obtain⟨c,hc⟩:∃ c,s[i]? = some c:=⟨_,List.getElem?_eq_getElem hlt⟩
   have hltI:(i:Int)<(s.length:Int):=by omega
   have hB:ap (34::(s.take (i+1)).flatMap cu)=ap (34::(s.take i).flatMap cu)++ap (cu c):=by
    rw[eq hc,← List.cons_append,iq]
   have hl:(ap (34::(s.take i).flatMap cu)).length≤600001:=by
    have:=er (s.take i)
    rw[cP,List.length_cons]
    rw[List.length_take] at this
    omega
   generalize ap (34::(s.take i).flatMap cu)=Q at *
   by_cases h1:c.toNat=34∨c.toNat=92
   ·have hE:ap (cu c)=[.int .u8 92,.int .u8 (c.toNat:Int)]:=by rw[Gk h1];rfl
    rw[hE] at hB
    by_cases h34:c.toNat=34
    ·have h34I:(c.toNat:Int)=34:=by omega
     simp(maxSteps:=9^7) (disch:=first|exact dI|fail) only[hltI,hc,h34I,push_cast,seval]
     exact⟨i+1,bX (by simp(maxSteps:=9^7) (disch:=first|exact dI|fail) only[hB,h34I,push_cast,seval]),by omega,by omega⟩
    ·have h34I:¬ (c.toNat:Int)=34:=by omega
     have h92I:(c.toNat:Int)=92:=by omega
     simp(maxSteps:=9^7) (disch:=first|exact dI|fail) only[hltI,hc,h34I,h92I,push_cast,seval]
     exact⟨i+1,bX (by simp(maxSteps:=9^7) (disch:=first|exact dI|fail) only[hB,h92I,push_cast,seval]),by omega,by omega⟩
   ·have h34I:¬ (c.toNat:Int)=34:=by omega
    have h92I:¬ (c.toNat:Int)=92:=by omega
    by_cases h10:c.toNat=10
    ·have h10I:(c.toNat:Int)=10:=by omega
     have hE:ap (cu c)=[.int .u8 92,.int .u8 110]:=by rw[Gj h10];rfl
     rw[hE] at hB
     clear h34I h92I
     simp(maxSteps:=9^7) (disch:=first|exact dI|fail) only[hltI,hc,h10I,push_cast,seval]
     exact⟨i+1,bX (by simp(maxSteps:=9^7) (disch:=first|exact dI|fail) only[hB,push_cast,seval]),by omega,by omega⟩
    have h10I:¬ (c.toNat:Int)=10:=by omega
    by_cases h13:c.toNat=13
    ·have h13I:(c.toNat:Int)=13:=by omega
     have hE:ap (cu c)=[.int .u8 92,.int .u8 114]:=by rw[Gi h13];rfl
     rw[hE] at hB
     clear h34I h92I h10I
     simp(maxSteps:=9^7) (disch:=first|exact dI|fail) only[hltI,hc,h13I,push_cast,seval]
     exact⟨i+1,bX (by simp(maxSteps:=9^7) (disch:=first|exact dI|fail) only[hB,push_cast,seval]),by omega,by omega⟩
    have h13I:¬ (c.toNat:Int)=13:=by omega
    by_cases h9:c.toNat=9
    ·have h9I:(c.toNat:Int)=9:=by omega
     have hE:ap (cu c)=[.int .u8 92,.int .u8 116]:=by rw[Gh h9];rfl
     rw[hE] at hB
     clear h34I h92I h10I h13I
     simp(maxSteps:=9^7) (disch:=first|exact dI|fail) only[hltI,hc,h9I,push_cast,seval]
     exact⟨i+1,bX (by simp(maxSteps:=9^7) (disch:=first|exact dI|fail) only[hB,push_cast,seval]),by omega,by omega⟩
    have h9I:¬ (c.toNat:Int)=9:=by omega
    by_cases h5:c.toNat<32∨c.toNat=127
    ·obtain⟨q,hqN⟩:∃ q,q=c.toNat / 16:=⟨_,rfl⟩
     obtain⟨m,hmN⟩:∃ m,m=c.toNat % 16:=⟨_,rfl⟩
     have hq:((c.toNat:Int) / 16)=(q:Int):=by omega
     have hm:((c.toNat:Int) % 16)=(m:Int):=by omega
     have hxq:=vo (n:=q) (by omega)
     have hxm:=vo (n:=m) (by omega)
     unfold wT at hxq hxm
     have hE:=congrArg ap (Gg h5 h10 h13 h9)
     unfold Af at hE
     rw[← hqN,← hmN] at hE
     by_cases h16:16≤c.toNat
     ·have h16I:(16:Int)≤(c.toNat:Int):=by omega
      rw[if_pos h16] at hE
      replace hE:ap (cu c)=[.int .u8 92,.int .u8 117,.int .u8 123,.int .u8 ((hxB q).toNat:Int),.int .u8 ((hxB m).toNat:Int),.int .u8 125]:=hE
      rw[hE] at hB
      by_cases h32:c.toNat<32
      ·have h32I:(c.toNat:Int)<32:=by omega
       simp(maxSteps:=9^7) (disch:=first|exact dI|fail) only[hltI,hc,h34I,h92I,h10I,h13I,h9I,h32I,h16I,hq,hm,hxq,hxm,push_cast,seval]
       exact⟨i+1,bX (by simp(maxSteps:=9^7) (disch:=first|exact dI|fail) only[hB,List.append_assoc,List.cons_append,List.nil_append,push_cast,seval]),by omega,by omega⟩
      ·have h32I:¬ (c.toNat:Int)<32:=by omega
       have h127:((c.toNat:Int)=127)=True:=eq_true (by omega)
       simp(maxSteps:=9^7) (disch:=first|exact dI|fail) only[hltI,hc,h34I,h92I,h10I,h13I,h9I,h32I,h127,h16I,hq,hm,hxq,hxm,push_cast,seval]
       exact⟨i+1,bX (by simp(maxSteps:=9^7) (disch:=first|exact dI|fail) only[hB,List.append_assoc,List.cons_append,List.nil_append,push_cast,seval]),by omega,by omega⟩
     ·have h16I:¬ (16:Int)≤(c.toNat:Int):=by omega
      rw[if_neg h16] at hE
      replace hE:ap (cu c)=[.int .u8 92,.int .u8 117,.int .u8 123,.int .u8 ((hxB m).toNat:Int),.int .u8 125]:=hE
      rw[hE] at hB
      have h32I:(c.toNat:Int)<32:=by omega
      simp(maxSteps:=9^7) (disch:=first|exact dI|fail) only[hltI,hc,h34I,h92I,h10I,h13I,h9I,h32I,h16I,hm,hxm,push_cast,seval]
      exact⟨i+1,bX (by simp(maxSteps:=9^7) (disch:=first|exact dI|fail) only[hB,List.append_assoc,List.cons_append,List.nil_append,push_cast,seval]),by omega,by omega⟩
    ·have h32I:¬ (c.toNat:Int)<32:=by omega
     have h127I:¬ (c.toNat:Int)=127:=by omega
     have hE:ap (cu c)=[.int .u8 (c.toNat:Int)]:=by rw[Ec h5 h1];rfl
     rw[hE] at hB
     simp(maxSteps:=9^7) (disch:=first|exact dI|fail) only[hltI,hc,h34I,h92I,h10I,h13I,h9I,h32I,h127I,push_cast,seval]
     exact⟨i+1,bX (by simp(maxSteps:=9^7) (disch:=first|exact dI|fail) only[hB,push_cast,seval]),by omega,by omega⟩
  ·have hltI:¬ (i:Int)<(s.length:Int):=by omega
   obtain rfl:i=s.length:=by omega
   have hl:(ap (34::(s.take s.length).flatMap cu)).length≤600001:=by
    have:=er s
    rw[cP,List.length_cons,List.take_length]
    omega
   have hU:u8s (ap (34::(s.take s.length).flatMap cu)++[.int .u8 34])=some (a8 s):=by
    rw[List.take_length,show ap (34::s.flatMap cu)++[.int .u8 34]=ap (a8 s) by simp[ap,a8]]
    exact d6 _
   generalize ap (34::(s.take s.length).flatMap cu)=Q at *
   simp(maxSteps:=9^7) (disch:=first|exact dI|fail) only[hltI,hU,push_cast,seval]
end Go.Proofs.YtamoeblcphjbaaaGreatDoor
set_option maxRecDepth 100000
set_option linter.unusedVariables false
set_option linter.unusedSimpArgs false
-- many steps
namespace Go.Proofs.YtamoeblcphjbaaaGreatDoor
open Go Go.Ab
attribute [local irreducible] vc
def hx2 (c:UInt8):List UInt8:=[hxB (c.toNat / 16),hxB (c.toNat % 16)]
def rp (s:List UInt8):List UInt8:=120::34::(s.flatMap hx2++[34])
theorem dk (s:List UInt8):(s.flatMap hx2).length=2*s.length:=by
 induction s with
 | nil=>simp
 | cons c r ih=>simp only[List.flatMap_cons,List.length_append,List.length_cons,ih,hx2,List.length_nil];omega
set_option maxHeartbeats 4000000 in
theorem DV (s:List UInt8)(hs:s.length≤100000):aw Tryz.prog aD 23 [.str s] (.str (rp s)):=by
 refine aw.intro HB (by simp[F23]) ?_
 simp(maxSteps:=9^7) (disch:=first|exact dI|fail) only[F23,push_cast,seval]
 refine be ([]) (fun i:Nat=>[(4,.olist 0 1 (ap (120::34::(s.take i).flatMap hx2))),(5,.pv (.int .i64 (i:Int)))]) (fun _=>[]) (fun i=>i≤s.length) (fun i=>s.length - i) (0) ?_;intro e0 σ0 n0 h0;simp(maxSteps:=9^7) (disch:=first|exact dI|fail) only[push_cast,seval] at h0;obtain⟨rfl,rfl,rfl⟩:=h0;refine⟨?_,?_,?_⟩
 ·simp(maxSteps:=9^7) (disch:=first|exact dI|fail) only[push_cast,seval]
  exact .refl _
 ·omega
 ·rintro i hi
  by_cases hlt:i<s.length
  ·obtain⟨c,hc⟩:∃ c,s[i]? = some c:=⟨_,List.getElem?_eq_getElem hlt⟩
   have hltI:(i:Int)<(s.length:Int):=by omega
   obtain⟨q,hqN⟩:∃ q,q=c.toNat / 16:=⟨_,rfl⟩
   obtain⟨m,hmN⟩:∃ m,m=c.toNat % 16:=⟨_,rfl⟩
   have hq:((c.toNat:Int) / 16)=(q:Int):=by omega
   have hm:((c.toNat:Int) % 16)=(m:Int):=by omega
   have hcl:=c.toNat_lt
   have hxq:=vo (n:=q) (by omega)
   have hxm:=vo (n:=m) (by omega)
   unfold wT at hxq hxm
   have hB:ap (120::34::(s.take (i+1)).flatMap hx2)=ap (120::34::(s.take i).flatMap hx2)++[.int .u8 ((hxB q).toNat:Int),.int .u8 ((hxB m).toNat:Int)]:=by
    rw[eq hc,← List.cons_append,← List.cons_append,iq,hqN,hmN];rfl
   have hl:(ap (120::34::(s.take i).flatMap hx2)).length≤600001:=by
    have:=dk (s.take i)
    rw[cP,List.length_cons,List.length_cons]
    rw[List.length_take] at this
    omega
   generalize ap (120::34::(s.take i).flatMap hx2)=Q at *
   simp(maxSteps:=9^7) (disch:=first|exact dI|fail) only[hltI,hc,hq,hm,hxq,hxm,push_cast,seval]
   exact⟨i+1,bX (by simp(maxSteps:=9^7) (disch:=first|exact dI|fail) only[hB,push_cast,seval]),by omega,by omega⟩
  ·have hltI:¬ (i:Int)<(s.length:Int):=by omega
   obtain rfl:i=s.length:=by omega
   have hl:(ap (120::34::(s.take s.length).flatMap hx2)).length≤600001:=by
    have:=dk s
    rw[cP,List.length_cons,List.length_cons,List.take_length]
    omega
   have hU:u8s (ap (120::34::(s.take s.length).flatMap hx2)++[.int .u8 34])=some (rp s):=by
    rw[List.take_length,show ap (120::34::s.flatMap hx2)++[.int .u8 34]=ap (rp s) by simp[ap,rp]]
    exact d6 _
   generalize ap (120::34::(s.take s.length).flatMap hx2)=Q at *
   simp(maxSteps:=9^7) (disch:=first|exact dI|fail) only[hltI,hU,push_cast,seval]
end Go.Proofs.YtamoeblcphjbaaaGreatDoor
set_option maxRecDepth 100000
set_option linter.unusedVariables false
namespace Go.Proofs.YtamoeblcphjbaaaGreatDoor
open Go Go.Ab
noncomputable def Iy (p:Nat×List Nat):TabRow:=⟨p.1,p.2,(cFn Tryz.prog p.2 p.1).getD ⟨0,[],.skip⟩⟩
theorem Cq {l:List (Nat×List Nat)}(h:(l.all fun p=>(cFn Tryz.prog p.2 p.1).isSome)=true):∀ r∈l.map Iy,cFn Tryz.prog r.muts r.f=some r.fn:=by
 intro r hr
 obtain⟨p,hp,rfl⟩:=List.mem_map.1 hr
 have h:=List.all_eq_true.1 h p hp
 simp only[Iy]
 cases h':cFn Tryz.prog p.2 p.1 with
 | some x=>rfl
 | none=>rw[h'] at h;cases h
def I9 (f:Nat)(ps:List PV):Option PV:=none
def By:List (Nat×List Nat):=[(51,[]),(108,[]),(179,[]),(217,[]),(218,[]),(247,[])]
def isS (l:List UInt8):Option PV→Bool
 | some (.str k)=>decide (k=l)
 | _=>false
theorem F1 {l:List UInt8}{o:Option PV}(h:isS l o=true):o=some (.str l):=by
 unfold isS at h
 split at h
 ·simp only[decide_eq_true_eq] at h;rw[h]
 ·cases h
def DH:List Nat:=127::List.range 32
theorem E7:(By.all fun p=>(cFn Tryz.prog p.2 p.1).isSome)=true:=by kernel_rfl
theorem Jr:(DH.all fun n=>isS (Af (UInt8.ofNat n)) (pq (exF (By.map Iy) I9 aD 200 20) 51 [.int .i64 (n:Int),.int .i64 16]))=true:=by kernel_rfl
theorem Aq (c:UInt8)(h:c.toNat<32∨c.toNat=127):aw Tryz.prog aD 51 [.int .i64 (c.toNat:Int),.int .i64 16] (.str (Af c)):=by
 have hm:c.toNat∈DH:=by
  simp only[DH,List.mem_cons,List.mem_range];omega
 have:=List.all_eq_true.1 Jr _ hm
 rw[UInt8.ofNat_toNat] at this
 exact aw.of_ex (O:=I9) (Cq E7) (fun f ps r h=>by cases h) (F1 this)
end Go.Proofs.YtamoeblcphjbaaaGreatDoor

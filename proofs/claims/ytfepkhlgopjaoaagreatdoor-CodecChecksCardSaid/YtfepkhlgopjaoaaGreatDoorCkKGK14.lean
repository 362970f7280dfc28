/- A part of the proof for CodecChecksCardSaid. -/
import Derived.Test.YtfepkhlgopjaoaaGreatDoorCkKR6
import Derived.Test.YtfepkhlgopjaoaaGreatDoorCkKM3
import Derived.Test.YtfepkhlgopjaoaaGreatDoorCkK16
set_option linter.unusedVariables false
set_option linter.unusedSimpArgs false
set_option maxRecDepth 100000
namespace Go.Proofs.YtfepkhlgopjaoaaGreatDoor
open Go Go.Ab
def tC:List PV→Option (List (List UInt8))
 | []=>some []
 | .str s::r=>match tC r with
   | some l=>some (s::l)
   | none=>none
 | _=>none
theorem n9:∀ {l:List PV} {ss:List (List UInt8)},tC l=some ss→l=ss.map .str
 | [],ss,h=>by simp only[tC,Option.some.injEq] at h;subst h;rfl
 | x::r,ss,h=>by
   unfold tC at h
   split at h
   ·rename_i e;cases e
   ·rename_i s r' e
    cases e
    split at h
    ·rename_i l hl
     cases h
     rw[n9 hl];rfl
    ·cases h
   ·cases h
def eqL (p:PV→PV→Bool):List PV→List PV→Bool
 | [],[]=>true
 | x::r,y::q=>p x y&&eqL p r q
 | _,_=>false
def eqP:Nat→PV→PV→Bool
 | n+1,.int k a,.int k' b=>decide (k=k')&&decide (a=b)
 | n+1,.str a,.str b=>decide (a=b)
 | n+1,.nils,.nils=>true
 | n+1,.agg a,.agg b=>eqL (eqP n) a b
 | n+1,.list a,.list b=>eqL (eqP n) a b
 | _,_,_=>false
theorem xg {p:PV→PV→Bool}(hp:∀ x y,p x y=true→x=y):∀ a b,eqL p a b=true→a=b
 | [],[],_=>rfl
 | x::r,y::q,h=>by
   simp only[eqL,Bool.and_eq_true] at h
   rw[hp x y h.1,xg hp r q h.2]
 | [],y::q,h=>by simp[eqL] at h
 | x::r,[],h=>by simp[eqL] at h
theorem xe:∀ n x y,eqP n x y=true→x=y
 | 0,x,y,h=>by simp[eqP] at h
 | n+1,x,y,h=>by
   unfold eqP at h
   split at h
   ·simp only[Bool.and_eq_true,decide_eq_true_eq] at h;rw[h.1,h.2]
   ·simp only[decide_eq_true_eq] at h;rw[h]
   ·rfl
   ·rw[xg (xe _) _ _ h]
   ·rw[xg (xe _) _ _ h]
   ·cases h
def v0:Val:=.mk 9 0 0 [] [] [.mk [97] (.mk 2 7 0 [] [] []),.mk [98] (.mk 4 0 0 [120] [] [])]
def v0P:PV:=.agg [.int .i64 9,.int .i64 0,.int .i64 0,.str [],.nils,.list [.agg [.str [97],.int .i64 2,.int .i64 7,.int .i64 0,.str [],.nils,.nils],.agg [.str [98],.int .i64 4,.int .i64 0,.int .i64 0,.str [120],.nils,.nils]]]
theorem CF:aq Tryz.prog aA 74 [v0P] (.int .i64 0):=by
 have h:=jI 3 v0 (by simp[v0,gX,bx,Val.kind,Val.fields,Fld.value]) (by simp[v0,Val.ok_mk,Fld.ok_mk,I64])
 have e:lB 0 (dg 3 1 v0)=0:=by decide +kernel
 rw[e] at h
 refine h.nz ?_
 simp only[v0P,v0,Val.pv_mk,Fld.pv_mk,List.map_cons,List.map_nil]
 repeat' constructor
def orc (f:Nat)(ps:List PV):Option PV:=
 match f with
 | 136=>match ps with
   | [.int .i64 n]=>if -9223372036854775808≤n∧n≤9223372036854775807 then some (.str (jx n)) else none
   | _=>none
 | 98=>match ps with
   | [.str a,.str b]=>some (.int .i64 (Lib.compareBytes a b))
   | _=>none
 | 219=>match ps with
   | [.str a]=>some (.bool (Lib.validD a))
   | _=>none
 | 230=>match ps with
   | [.list l,.str s]=>match tC l with
     | some ss=>if ss.length≤140737488355328∧(fM s ss).length≤140737488355328 then some (.str (fM s ss)) else none
     | none=>none
   | _=>none
 | 71=>match ps with
   | [.str a,.int .i64 n]=>if 0≤n∧n≤9223372036854775807∧a.length*n.toNat≤140737488355328 then some (.str (Lib.repeatL a n.toNat)) else none
   | _=>none
 | 74=>match ps with
   | [p]=>if eqP 6 p v0P=true then some (.int .i64 0) else none
   | _=>none
 | _=>none
theorem IZ:∀ f ps r,orc f ps=some r→aq Tryz.prog aA f ps r:=by
 intro f ps r h
 unfold orc at h
 split at h
 ·split at h
  ·split at h
   ·rename_i hh;cases h;exact wu _ hh.1 hh.2
   ·cases h
  ·cases h
 ·split at h
  ·cases h;exact rW _ _
  ·cases h
 ·split at h
  ·cases h;exact dU _
  ·cases h
 ·split at h
  ·split at h
   ·rename_i e
    split at h
    ·rename_i hh;cases h
     rw[n9 e]
     exact F5 _ _ hh.1 hh.2
    ·cases h
   ·cases h
  ·cases h
 ·split at h
  ·split at h
   ·rename_i hh;cases h;exact kb _ _ hh.1 hh.2.1 hh.2.2
   ·cases h
  ·cases h
 ·split at h
  ·split at h
   ·rename_i hh;cases h;rw[xe _ _ _ hh];exact CF
   ·cases h
  ·cases h
 ·cases h
noncomputable def gFn (p:Nat×List Nat):TabRow:=⟨p.1,p.2,(cFn Tryz.prog p.2 p.1).getD ⟨0,[],.skip⟩⟩
def Dr:List (Nat×List Nat):=[(39,[]),(9,[]),(34,[]),(65,[]),(70,[]),(66,[]),(63,[]),(72,[14]),(73,[]),(86,[33]),(18,[]),(28,[]),(16,[]),(53,[]),(54,[]),(61,[]),(112,[]),(123,[]),(116,[]),(125,[]),(113,[]),(85,[]),(107,[]),(108,[]),(109,[]),(132,[19]),(31,[]),(154,[]),(155,[]),(19,[]),(156,[]),(157,[]),(13,[]),(36,[]),(20,[]),(41,[]),(59,[]),(106,[]),(172,[]),(194,[]),(195,[]),(196,[]),(200,[]),(201,[]),(197,[]),(198,[]),(182,[]),(183,[]),(58,[]),(270,[]),(259,[]),(260,[]),(11,[]),(21,[]),(33,[]),(42,[]),(77,[]),(78,[]),(103,[]),(104,[]),(294,[]),(180,[]),(295,[]),(150,[44]),(57,[]),(323,[]),(332,[]),(30,[]),(32,[]),(43,[]),(44,[]),(79,[]),(141,[]),(142,[]),(143,[]),(252,[]),(253,[12]),(102,[]),(146,[]),(147,[]),(231,[]),(232,[]),(234,[]),(318,[]),(319,[]),(236,[]),(237,[]),(309,[]),(348,[]),(310,[]),(354,[]),(385,[]),(418,[]),(46,[]),(83,[24]),(84,[]),(149,[]),(114,[]),(117,[14]),(251,[]),(317,[]),(421,[]),(423,[]),(40,[]),(75,[]),(76,[]),(138,[]),(140,[])]
theorem Ib {l:List (Nat×List Nat)}(h:(l.all fun p=>(cFn Tryz.prog p.2 p.1).isSome)=true):∀ r∈l.map gFn,cFn Tryz.prog r.muts r.f=some r.fn:=by
 intro r hr
 obtain⟨p,hp,rfl⟩:=List.mem_map.1 hr
 have h:=List.all_eq_true.1 h p hp
 simp only[gFn]
 cases h':cFn Tryz.prog p.2 p.1 with
 | some x=>rfl
 | none=>rw[h'] at h;cases h
theorem If:(Dr.all fun p=>(cFn Tryz.prog p.2 p.1).isSome)=true:=by kernel_rfl
theorem NE:vg (exF (Dr.map gFn) orc aA 5000 60) 9 []=some (.bool true):=by kernel_rfl
theorem F4:aq Tryz.prog aA 9 [] (.bool true):=aq.of_ex (Ib If) IZ NE
end Go.Proofs.YtfepkhlgopjaoaaGreatDoor
-- many steps
namespace Go.Proofs.YtfepkhlgopjaoaaGreatDoor
open Go Go.Ab
attribute [local irreducible] vc
theorem Mx (x:Int):aq Tryz.prog aA 32 [.int .i64 x] (.bool (sK x)):=by
 unfold sK
 refine aq.intro KV (by simp[F32]) ?_
 by_cases h1:x<1
 ·rw[decide_eq_true h1,Bool.true_or]
  simp(maxSteps:=9^7) (disch:=try exact dI) only[F32,h1,push_cast,seval]
 ·rw[decide_eq_false h1,Bool.false_or]
  simp(maxSteps:=9^7) (disch:=try exact dI) only[F32,h1,push_cast,seval]
def fR (k s:Int)(w:List Int):Int:=
 if k<1∨4<k then 11 else if (¬ s=0∧¬ k=2)∨(0<w.length∧¬ k=3) then 3 else if k=2∧fj s=false then 2 else if 64<w.length then 9 else if w.any sK=true then 2 else 0
theorem gQ (k s:Int)(w:List Int):(Fmt.mk k s w).pv = .agg [.int .i64 k,.int .i64 s,.list (gL w)]:=by rw[Fmt.pv_mk];rfl
theorem lz (k s:Int)(w:List Int) :
  (k<1∧fR k s w=11)∨(¬ k<1∧4<k∧fR k s w=11) ∨
  (¬ k<1∧¬ 4<k∧¬ k=2∧¬ s=0∧fR k s w=3) ∨
  (¬ k<1∧¬ 4<k∧(k=2∨s=0)∧0<w.length∧¬ k=3∧fR k s w=3) ∨
  (k=2∧w=[]∧fj s=false∧fR k s w=2) ∨
  (k=2∧w=[]∧fj s=true∧fR k s w=0) ∨
  ((k=1∨k=4)∧s=0∧w=[]∧fR k s w=0) ∨
  (k=3∧s=0∧64<w.length∧fR k s w=9) ∨
  (k=3∧s=0∧¬ 64<w.length∧fR k s w=if w.any sK=true then 2 else 0):=by
 by_cases h1:k<1
 ·exact .inl ⟨h1,if_pos (.inl h1)⟩
 by_cases h2:4<k
 ·exact .inr (.inl ⟨h1,h2,if_pos (.inr h2)⟩)
 have h12:¬ (k<1∨4<k):=by omega
 by_cases h3:¬ k=2∧¬ s=0
 ·exact .inr (.inr (.inl ⟨h1,h2,h3.1,h3.2,by unfold fR;rw[if_neg h12,if_pos (.inl ⟨h3.2,h3.1⟩)]⟩))
 by_cases h4:0<w.length∧¬ k=3
 ·exact .inr (.inr (.inr (.inl ⟨h1,h2,by omega,h4.1,h4.2,by unfold fR;rw[if_neg h12,if_pos (.inr h4)]⟩)))
 have h34:¬ ((¬ s=0∧¬ k=2)∨(0<w.length∧¬ k=3)):=fun q=>q.elim (fun q=>h3 ⟨q.2,q.1⟩) h4
 by_cases hk:k=3
 ·have hs:s=0:=by omega
  by_cases h64:64<w.length
  ·exact .inr (.inr (.inr (.inr (.inr (.inr (.inr (.inl ⟨hk,hs,h64,by unfold fR;rw[if_neg h12,if_neg h34,if_neg (fun q=>absurd q.1 (by omega)),if_pos h64]⟩)))))))
  ·exact .inr (.inr (.inr (.inr (.inr (.inr (.inr (.inr ⟨hk,hs,h64,by unfold fR;rw[if_neg h12,if_neg h34,if_neg (fun q=>absurd q.1 (by omega)),if_neg h64]⟩)))))))
 have hw:w=[]:=List.length_eq_zero_iff.1 (by omega)
 subst hw
 by_cases k2:k=2
 ·cases hb:fj s with
  | false=>exact .inr (.inr (.inr (.inr (.inl ⟨k2,rfl,rfl,by unfold fR;rw[if_neg h12,if_neg h34,if_pos ⟨k2,hb⟩]⟩))))
  | true=>exact .inr (.inr (.inr (.inr (.inr (.inl ⟨k2,rfl,rfl,by unfold fR;rw[if_neg h12,if_neg h34,if_neg (fun q=>by rw[hb] at q;cases q.2)];rfl⟩)))))
 ·exact .inr (.inr (.inr (.inr (.inr (.inr (.inl ⟨by omega,by omega,rfl,by unfold fR;rw[if_neg h12,if_neg h34,if_neg (fun q=>k2 q.1)];rfl⟩))))))
theorem xN (k s:Int)(w:List Int)(hl:w.length≤9000000000000):aq Tryz.prog aA 11 [(Fmt.mk k s w).pv] (.int .i64 (fR k s w)):=by
 have h31:=rR w 32 sK (fun x _=>Mx x) hl
 have h30:=nv s
 have hwl:=bO w
 have hc:=lz k s w
 rw[gQ]
 generalize fR k s w=z at *
 obtain⟨L,hL⟩:∃ L,L=gL w:=⟨_,rfl⟩
 rw[← hL] at hwl h31 ⊢
 rcases hc with ⟨h1,rfl⟩ | ⟨h1,h2,rfl⟩ | ⟨h1,h2,h3,h4,rfl⟩ | ⟨h1,h2,h3,h4,h5,rfl⟩ | ⟨rfl,rfl,hb,rfl⟩ | ⟨rfl,rfl,hb,rfl⟩ | ⟨h1,rfl,rfl,rfl⟩ | ⟨rfl,rfl,h1,rfl⟩ | ⟨rfl,rfl,h1,hz⟩
 ·refine aq.intro dE (by simp[F11]) ?_
  simp(maxSteps:=9^7) (disch:=try exact dI) only[F11,h1,push_cast,seval]
 ·refine aq.intro dE (by simp[F11]) ?_
  simp(maxSteps:=9^7) (disch:=try exact dI) only[F11,h1,h2,push_cast,seval]
 ·refine aq.intro dE (by simp[F11]) ?_
  simp(maxSteps:=9^7) (disch:=try exact dI) only[F11,h1,h2,h3,h4,push_cast,seval]
 ·have h4I:(0:Int)<(w.length:Int):=by omega
  rcases h3 with rfl | rfl
  ·refine aq.intro dE (by simp[F11]) ?_
   by_cases hs:s=0
   ·simp(maxSteps:=9^7) (disch:=try exact dI) only[F11,hs,hwl,h4I,push_cast,seval]
   ·simp(maxSteps:=9^7) (disch:=try exact dI) only[F11,hs,hwl,h4I,push_cast,seval]
  ·refine aq.intro dE (by simp[F11]) ?_
   simp(maxSteps:=9^7) (disch:=try exact dI) only[F11,h1,h2,h5,hwl,h4I,push_cast,seval]
 ·simp only[List.length_nil,List.any_nil] at hwl h31
  rw[hb] at h30
  refine aq.intro dE (by simp[F11]) ?_
  by_cases hs:s=0
  ·simp(maxSteps:=9^7) (disch:=try exact dI) only[F11,hs,hwl,push_cast,seval]
   rw[hs] at h30
   refine ab.pure h30 rfl ?_
   simp(maxSteps:=9^7) (disch:=try exact dI) only[push_cast,seval]
  ·simp(maxSteps:=9^7) (disch:=try exact dI) only[F11,hs,hwl,push_cast,seval]
   refine ab.pure h30 rfl ?_
   simp(maxSteps:=9^7) (disch:=try exact dI) only[push_cast,seval]
 ·simp only[List.length_nil,List.any_nil] at hwl h31
  rw[hb] at h30
  refine aq.intro dE (by simp[F11]) ?_
  by_cases hs:s=0
  ·simp(maxSteps:=9^7) (disch:=try exact dI) only[F11,hs,hwl,push_cast,seval]
   rw[hs] at h30
   refine ab.pure h30 rfl ?_
   simp(maxSteps:=9^7) (disch:=try exact dI) only[push_cast,seval]
   refine ab.pure h31 rfl ?_
   simp(maxSteps:=9^7) (disch:=try exact dI) only[push_cast,seval]
  ·simp(maxSteps:=9^7) (disch:=try exact dI) only[F11,hs,hwl,push_cast,seval]
   refine ab.pure h30 rfl ?_
   simp(maxSteps:=9^7) (disch:=try exact dI) only[push_cast,seval]
   refine ab.pure h31 rfl ?_
   simp(maxSteps:=9^7) (disch:=try exact dI) only[push_cast,seval]
 ·simp only[List.length_nil,List.any_nil] at hwl h31
  refine aq.intro dE (by simp[F11]) ?_
  rcases h1 with rfl | rfl
  ·simp(maxSteps:=9^7) (disch:=try exact dI) only[F11,hwl,push_cast,seval]
   refine ab.pure h31 rfl ?_
   simp(maxSteps:=9^7) (disch:=try exact dI) only[push_cast,seval]
  ·simp(maxSteps:=9^7) (disch:=try exact dI) only[F11,hwl,push_cast,seval]
   refine ab.pure h31 rfl ?_
   simp(maxSteps:=9^7) (disch:=try exact dI) only[push_cast,seval]
 ·have h1I:(64:Int)<(w.length:Int):=by omega
  refine aq.intro dE (by simp[F11]) ?_
  by_cases h0:0<w.length
  ·have h0I:(0:Int)<(w.length:Int):=by omega
   simp(maxSteps:=9^7) (disch:=try exact dI) only[F11,hwl,h1I,h0I,push_cast,seval]
  ·omega
 ·have h1I:¬ (64:Int)<(w.length:Int):=by omega
  subst hz
  cases hb:w.any sK with
  | true=>
    rw[hb] at h31
    rw[if_pos rfl]
    refine aq.intro dE (by simp[F11]) ?_
    by_cases h0:(0:Int)<(w.length:Int)
    ·simp(maxSteps:=9^7) (disch:=try exact dI) only[F11,hwl,h1I,h0,push_cast,seval]
     refine ab.pure h31 rfl ?_
     simp(maxSteps:=9^7) (disch:=try exact dI) only[push_cast,seval]
    ·simp(maxSteps:=9^7) (disch:=try exact dI) only[F11,hwl,h1I,h0,push_cast,seval]
     refine ab.pure h31 rfl ?_
     simp(maxSteps:=9^7) (disch:=try exact dI) only[push_cast,seval]
  | false=>
    rw[hb] at h31
    rw[if_neg (by decide)]
    refine aq.intro dE (by simp[F11]) ?_
    by_cases h0:(0:Int)<(w.length:Int)
    ·simp(maxSteps:=9^7) (disch:=try exact dI) only[F11,hwl,h1I,h0,push_cast,seval]
     refine ab.pure h31 rfl ?_
     simp(maxSteps:=9^7) (disch:=try exact dI) only[push_cast,seval]
    ·simp(maxSteps:=9^7) (disch:=try exact dI) only[F11,hwl,h1I,h0,push_cast,seval]
     refine ab.pure h31 rfl ?_
     simp(maxSteps:=9^7) (disch:=try exact dI) only[push_cast,seval]
end Go.Proofs.YtfepkhlgopjaoaaGreatDoor
-- many steps
namespace Go.Proofs.YtfepkhlgopjaoaaGreatDoor
open Go Go.Ab
attribute [local irreducible] vc
end Go.Proofs.YtfepkhlgopjaoaaGreatDoor

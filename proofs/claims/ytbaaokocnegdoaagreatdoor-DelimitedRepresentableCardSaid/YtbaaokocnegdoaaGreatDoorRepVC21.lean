/- A part of the proof for DelimitedRepresentableCardSaid. -/
import Derived.Test.YtbaaokocnegdoaaGreatDoorRepVC2
import Derived.Test.YtbaaokocnegdoaaGreatDoorRepWD
import Derived.Test.YtbaaokocnegdoaaGreatDoorRepW9
import Derived.Test.YtbaaokocnegdoaaGreatDoorRepWG
set_option maxRecDepth 100000
set_option linter.unusedVariables false
set_option linter.unusedSimpArgs false
-- many steps
namespace Go.Proofs.YtbaaokocnegdoaaGreatDoor
open Go Go.Ab
attribute [local irreducible] vc
def K9 (T:Nat)(p:PV):Nat→List PV:=fun g=>if g=1 then [.iface T p] else aE g
theorem OP {T:Nat}{p:PV}{w:World}{imm:Nat→Nat→Prop}(h:cu (K9 T p) w imm):cu aE w imm:=by
 have key:∀ g,aE g≠[]→K9 T p g=aE g:=by
  intro g hg
  unfold K9
  by_cases h0:g=1
  ·subst h0;exact absurd rfl hg
  ·rw[if_neg h0]
 refine⟨fun g o p hp=>h.1 g o p ?_,fun g hg=>?_⟩
 ·rw[key g (by intro e;rw[e] at hp;simp at hp)];exact hp
 ·rw[← key g hg]
  exact h.2 g (by rw[key g hg];exact hg)
theorem toE {T:Nat}{p:PV}{f:Nat}{args:List PV}{r:PV}(h:am Tryz.prog aE f args r):am Tryz.prog (K9 T p) f args r:=
 ⟨h.1,fun w imm vals hG=>h.2 w imm vals (OP hG)⟩
end Go.Proofs.YtbaaokocnegdoaaGreatDoor
set_option maxRecDepth 100000
set_option linter.unusedVariables false
set_option linter.unusedSimpArgs false
-- many steps
namespace Go.Proofs.YtbaaokocnegdoaaGreatDoor
open Go Go.Ab
attribute [local irreducible] vc
def BR:List UInt8→Option (List UInt8×List UInt8)
 | []=>none
 | c::r=>if c=46 then some ([],r) else (BR r).map fun q=>(c::q.1,q.2)
end Go.Proofs.YtbaaokocnegdoaaGreatDoor
set_option maxRecDepth 100000
set_option linter.unusedVariables false
set_option linter.unusedSimpArgs false
namespace Go.Proofs.YtbaaokocnegdoaaGreatDoor
open Go Go.Ab
theorem gZ:∀ (k acc a:Nat) (r:List UInt8),Lib.decFrom acc (dj k a++r)=Lib.decFrom (acc*10 ^ k+a % 10 ^ k) r
 | 0,acc,a,r=>by simp[dj,Nat.mod_one]
 | k+1,acc,a,r=>by
   rw[dj,List.append_assoc,gZ k acc (a / 10)]
   have hd:(UInt8.ofNat (48+a % 10)).toNat=48+a % 10:=by
    rw[UInt8.toNat_ofNat'];omega
   have hv:Lib.digitVal (UInt8.ofNat (48+a % 10))=some (a % 10):=by
    unfold Lib.digitVal
    rw[hd,if_pos (by omega)]
    congr 1;omega
   rw[List.singleton_append,Lib.decFrom,hv]
   have e:a % 10 ^ (k+1)=a % 10+10*(a / 10 % 10 ^ k):=by rw[Nat.pow_succ,Nat.mul_comm,Nat.mod_mul]
   rw[e,Nat.pow_succ]
   simp only
   congr 1
   have e2:acc*(10 ^ k*10)=acc*10 ^ k*10:=by rw[Nat.mul_assoc]
   rw[e2]
   omega
theorem mj:∀ (k v c a:Nat) (r:List UInt8),rdS false v c (dj k a++r)=rdS false (v*10 ^ k+a % 10 ^ k) c r
 | 0,v,c,a,r=>by simp[dj,Nat.mod_one]
 | k+1,v,c,a,r=>by
   rw[dj,List.append_assoc,mj k v c (a / 10)]
   have hd:(UInt8.ofNat (48+a % 10)).toNat=48+a % 10:=by
    rw[UInt8.toNat_ofNat'];omega
   have hD:isD (UInt8.ofNat (48+a % 10))=true:=by unfold isD;rw[hd];simp;omega
   have h46:(false||decide (UInt8.ofNat (48+a % 10)=46))=false:=by
    rw[Bool.false_or]
    refine decide_eq_false fun h=>?_
    have:=congrArg UInt8.toNat h
    rw[hd] at this
    simp at this
    omega
   rw[List.singleton_append,rdS,if_pos hD,h46,hd]
   have e:a % 10 ^ (k+1)=a % 10+10*(a / 10 % 10 ^ k):=by rw[Nat.pow_succ,Nat.mul_comm,Nat.mod_mul]
   rw[e,Nat.pow_succ]
   simp only[Bool.false_eq_true,if_false]
   congr 1
   have e2:v*(10 ^ k*10)=v*10 ^ k*10:=by rw[Nat.mul_assoc]
   rw[e2]
   omega
theorem qI:∀ (k v c a:Nat) (r:List UInt8),rdS true v c (dj k a++r)=rdS true (v*10 ^ k+a % 10 ^ k) (c+k) r
 | 0,v,c,a,r=>by simp[dj,Nat.mod_one]
 | k+1,v,c,a,r=>by
   rw[dj,List.append_assoc,qI k v c (a / 10)]
   have hd:(UInt8.ofNat (48+a % 10)).toNat=48+a % 10:=by
    rw[UInt8.toNat_ofNat'];omega
   have hD:isD (UInt8.ofNat (48+a % 10))=true:=by unfold isD;rw[hd];simp;omega
   rw[List.singleton_append,rdS,if_pos hD,hd]
   have e:a % 10 ^ (k+1)=a % 10+10*(a / 10 % 10 ^ k):=by rw[Nat.pow_succ,Nat.mul_comm,Nat.mod_mul]
   rw[e,Nat.pow_succ]
   simp only[Bool.true_or,if_true]
   have e2:v*(10 ^ k*10)=v*10 ^ k*10:=by rw[Nat.mul_assoc]
   rw[e2]
   congr 1
   omega
theorem tp:∀ (k a:Nat),BR (dj k a)=none∧∀ r,BR (dj k a++46::r)=some (dj k a,r)
 | k,a=>by
   have key:∀ l:List UInt8,(∀ x,x∈l→x≠46)→BR l=none∧∀ r,BR (l++46::r)=some (l,r):=by
    intro l
    induction l with
    | nil=>intro _;exact⟨rfl,fun r=>by simp[BR]⟩
    | cons c l ih=>
      intro h
      have hc:c≠46:=h c (by simp)
      have ih:=ih fun x hx=>h x (by simp[hx])
      refine⟨by rw[BR,if_neg hc,ih.1];rfl,fun r=>by rw[List.cons_append,BR,if_neg hc,ih.2 r];rfl⟩
   refine key _ ?_
   have:∀ (k a:Nat) x,x∈dj k a→48≤x.toNat:=by
    intro k
    induction k with
    | zero=>intro a x hx;simp[dj] at hx
    | succ k ih=>
      intro a x hx
      rw[dj,List.mem_append] at hx
      rcases hx with hx | hx
      ·exact ih _ x hx
      ·simp only[List.mem_singleton] at hx
       rw[hx,UInt8.toNat_ofNat']
       omega
   intro x hx e
   have:=this k a x hx
   rw[e] at this
   revert this;decide
theorem mI {k a:Nat}(hk:0<k):∃ c r,dj k a=c::r∧48≤c.toNat∧c.toNat≤57:=by
 obtain⟨j,rfl⟩:∃ j,k=j+1:=⟨k - 1,by omega⟩
 refine⟨UInt8.ofNat (48+a / 10 ^ j % 10),dj j a,yE j a,?_,?_⟩
 ·rw[UInt8.toNat_ofNat'];omega
 ·rw[UInt8.toNat_ofNat'];omega
structure DecP (n:Int)(c:Nat)(A B:List UInt8):Prop where
 cut:BR (Ji n c)=if c=0 then none else some (A,B)
 txt:Ji n c=if c=0 then A else A++46::B
 len:B.length=c
 val:Lib.atoi (A++B)=some n
 rd:rdS false 0 0 (Ji n c)=(n.natAbs,c)
 sg:sgI (Ji n c) n.natAbs=n
 ne:Ji n c≠[]
theorem decP {n:Int}{c:Nat}(h:IsN n c):∃ A B,DecP n c A B:=by
 obtain⟨h1,h2,h3⟩:=h
 have hlt:n.natAbs<10 ^ 15:=by simp;omega
 have hdl:=Jg hlt
 obtain⟨a,ha⟩:∃ a,a=n.natAbs:=⟨_,rfl⟩
 rw[← ha] at hlt hdl
 obtain⟨K,hK⟩:∃ K,K=max (dl a) (c+1):=⟨_,rfl⟩
 have haK:a<10 ^ K:=Nat.lt_of_lt_of_le hdl.2.2 (Nat.pow_le_pow_right (by omega) (by omega))
 have hsp:=gx (K - c) c a
 rw[show K - c+c=K by omega] at hsp
 have hdec:Ji n c=(if n<0 then [45] else [])++(dj (K - c) (a / 10 ^ c)++(if c=0 then [] else 46::dj c a)):=by unfold Ji;rw[← ha,← hK]
 have hni:=tp (K - c) (a / 10 ^ c)
 obtain⟨x,r,hx,hx1,hx2⟩:=mI (k:=K - c) (a:=a / 10 ^ c) (by omega)
 have hx45:x≠45:=by intro e;subst e;revert hx1;decide
 have hx43:x≠43:=by intro e;subst e;revert hx1;decide
 have hq:a / 10 ^ c % 10 ^ (K - c)=a / 10 ^ c:=by
  refine Nat.mod_eq_of_lt (Nat.div_lt_of_lt_mul ?_)
  rw[← Nat.pow_add,show c+(K - c)=K by omega]
  exact haK
 have hrd:rdS false 0 0 (dj (K - c) (a / 10 ^ c)++(if c=0 then [] else 46::dj c a))=(a,c):=by
  rw[mj,hq]
  by_cases h0:c=0
  ·rw[if_pos h0,h0];simp[rdS]
  ·rw[if_neg h0,rdS,if_neg (by decide)]
   have:=qI c (0*10 ^ (K - c)+a / 10 ^ c) 0 a []
   rw[List.append_nil] at this
   rw[show (false||decide ((46:UInt8)=46))=true from rfl,this,rdS]
   rw[show 0*10 ^ (K - c)+a / 10 ^ c=a / 10 ^ c by omega,Nat.zero_add]
   have e2:=Nat.div_add_mod a (10 ^ c)
   rw[Nat.mul_comm] at e2
   rw[e2]
 have hval:Lib.decNat (dj K a)=some a:=by
  unfold Lib.decNat
  have hne:(dj K a).isEmpty=false:=by
   obtain⟨y,q,hy,_⟩:=mI (k:=K) (a:=a) (by omega)
   rw[hy];rfl
  rw[hne]
  have:=gZ K 0 a []
  rw[List.append_nil] at this
  simp only[Bool.false_eq_true,if_false]
  rw[this,Lib.decFrom,Nat.mod_eq_of_lt haK]
  congr 1;omega
 by_cases hneg:n<0
 ·rw[if_pos hneg] at hdec
  refine⟨45::dj (K - c) (a / 10 ^ c),dj c a,?_⟩
  constructor
  ·rw[hdec,List.singleton_append,BR,if_neg (by decide)]
   by_cases h0:c=0
   ·rw[if_pos h0,if_pos h0,List.append_nil,hni.1];rfl
   ·rw[if_neg h0,if_neg h0,hni.2];rfl
  ·rw[hdec]
   by_cases h0:c=0
   ·rw[if_pos h0,if_pos h0];simp
   ·rw[if_neg h0,if_neg h0];simp
  ·exact iy c a
  ·rw[List.cons_append,← hsp]
   unfold Lib.atoi
   simp only[beq_self_eq_true,if_true]
   rw[hval]
   simp only[Option.map_some]
   congr 1;omega
  ·rw[hdec,List.singleton_append,rdS,if_neg (by decide)]
   rw[show (false||decide ((45:UInt8)=46))=false from rfl,hrd,← ha]
  ·unfold sgI
   rw[hdec,List.singleton_append,List.head?_cons,if_pos rfl]
   omega
  ·rw[hdec];simp
 ·rw[if_neg hneg] at hdec
  rw[List.nil_append] at hdec
  refine⟨dj (K - c) (a / 10 ^ c),dj c a,?_⟩
  constructor
  ·rw[hdec]
   by_cases h0:c=0
   ·rw[if_pos h0,if_pos h0,List.append_nil,hni.1]
   ·rw[if_neg h0,if_neg h0,hni.2]
  ·rw[hdec]
   by_cases h0:c=0
   ·rw[if_pos h0,if_pos h0];simp
   ·rw[if_neg h0,if_neg h0]
  ·exact iy c a
  ·rw[← hsp]
   have hval':=hval
   rw[hsp,hx] at hval' ⊢
   rw[List.cons_append] at hval' ⊢
   unfold Lib.atoi
   simp only
   rw[show (x == 45)=false by simpa using hx45,show (x == 43)=false by simpa using hx43]
   simp only[Bool.false_eq_true,if_false]
   rw[hval']
   simp only[Option.map_some]
   congr 1;omega
  ·rw[hdec,hrd,← ha]
  ·unfold sgI
   rw[hdec,hx,List.cons_append,List.head?_cons,if_neg (by simpa using hx45)]
   omega
  ·rw[hdec,hx];simp
end Go.Proofs.YtbaaokocnegdoaaGreatDoor
set_option maxRecDepth 100000
set_option linter.unusedVariables false
set_option linter.unusedSimpArgs false
-- many steps
namespace Go.Proofs.YtbaaokocnegdoaaGreatDoor
open Go Go.Ab
attribute [local irreducible] vc
end Go.Proofs.YtbaaokocnegdoaaGreatDoor
set_option maxRecDepth 100000
set_option linter.unusedVariables false
set_option linter.unusedSimpArgs false
-- many steps
namespace Go.Proofs.YtbaaokocnegdoaaGreatDoor
open Go Go.Ab
attribute [local irreducible] vc
def P5:List UInt8:=[48,49,50,51,52,53,54,55,56,57,97,98,99,100,101,102]
end Go.Proofs.YtbaaokocnegdoaaGreatDoor
set_option maxRecDepth 100000
set_option linter.unusedVariables false
set_option linter.unusedSimpArgs false
-- many steps
namespace Go.Proofs.YtbaaokocnegdoaaGreatDoor
open Go Go.Ab
attribute [local irreducible] vc
def EC (k:Int):Bool:=decide (1≤k)&&decide (k≤7)
theorem q0 (k:Int):EC k=true↔1≤k∧k≤7:=by simp[EC]
theorem CE (k:Int):am Tryz.prog aE 38 [.int .i64 k] (.bool (EC k)):=by
 unfold EC
 by_cases h1:1≤k
 ·rw[decide_eq_true h1,Bool.true_and]
  refine am.intro GP (by simp[F38]) ?_
  simp(maxSteps:=9^7) (disch:=first|exact dI|fail) only[F38,push_cast,seval]
 ·rw[decide_eq_false h1,Bool.false_and]
  refine am.intro GP (by simp[F38]) ?_
  simp(maxSteps:=9^7) (disch:=first|exact dI|fail) only[F38,push_cast,seval]
def vN (k a b:Int)(c:List UInt8):PV:=.agg [.int .i64 k,.int .i64 a,.int .i64 b,.str c,.nils,.nils]
end Go.Proofs.YtbaaokocnegdoaaGreatDoor
set_option maxRecDepth 100000
set_option linter.unusedVariables false
set_option linter.unusedSimpArgs false
-- many steps
namespace Go.Proofs.YtbaaokocnegdoaaGreatDoor
open Go Go.Ab
attribute [local irreducible] vc
end Go.Proofs.YtbaaokocnegdoaaGreatDoor
set_option maxRecDepth 100000
set_option linter.unusedVariables false
set_option linter.unusedSimpArgs false
namespace Go.Proofs.YtbaaokocnegdoaaGreatDoor
open Go Go.Ab
attribute [local irreducible] vc
def stepM:Bool→List Mis→Mis→Bool×List Mis
 | true,l,_=>(true,l)
 | false,l,m=>(!decide (l.length+1<64),l++[m])
end Go.Proofs.YtbaaokocnegdoaaGreatDoor
set_option maxRecDepth 100000
set_option linter.unusedVariables false
set_option linter.unusedSimpArgs false
namespace Go.Proofs.YtbaaokocnegdoaaGreatDoor
open Go Go.Ab
attribute [local irreducible] vc
def wp (p n:List UInt8):List UInt8:=if p=[] then n else p++(46::n)
def BN (mn mx:Int)(p:List UInt8)(n:Int):List Mis:=if n<mn∨mx<n then [.mk p 2] else []
theorem Gj {mn mx n:Int}{p:List UInt8}(h:n<mn∨mx<n):BN mn mx p n=[.mk p 2]:=if_pos h
theorem LQ {mn mx n:Int}{p:List UInt8}(h:¬ (n<mn∨mx<n)):BN mn mx p n=[]:=if_neg h
end Go.Proofs.YtbaaokocnegdoaaGreatDoor
set_option maxRecDepth 100000
set_option linter.unusedVariables false
set_option linter.unusedSimpArgs false
namespace Go.Proofs.YtbaaokocnegdoaaGreatDoor
open Go Go.Ab
attribute [local irreducible] vc
def ixM {α β:Type}(F:α→Nat→List β)(l:List α):List β:=l.zipIdx.flatMap fun q=>F q.1 q.2
def atT (p:List UInt8)(i:Nat):List UInt8:=p++(91::(m9 i++[93]))
def OW (R:Typ→Val→List UInt8→List Mis)(e:List Typ)(p:List UInt8)(x:Val)(i:Nat):List Mis:=
 match e with
 | [t]=>R t x (atT p i)
 | _=>[.mk (atT p i) 1]
def Mi (R:Typ→Val→List UInt8→List Mis)(fs:List Fld)(p:List UInt8)(x:TFd):List Mis:=
 match fs.find? (cG x.name) with
 | some y=>R x.typ y.value (wp p x.name)
 | none=>if x.need=2 then [] else [.mk (wp p x.name) 5]
def LR (ts:List TFd)(p:List UInt8)(x:Fld):List Mis:=if (ts.find? (named x.name)).isSome=true then [] else [.mk (wp p x.name) 6]
def P0 (R:Typ→Val→List UInt8→List Mis)(t:Typ)(v:Val)(p:List UInt8):List Mis:=t.fields.flatMap (Mi R v.fields p)++v.fields.flatMap (LR t.fields p)
def PW (R:Typ→Val→List UInt8→List Mis)(t:Typ)(v:Val)(p:List UInt8):List Mis:=
 match t.fields.find? (named v.text) with
 | some c=>R c.typ (v.lst.headD BW) (p++(63::v.text))
 | none=>[.mk p 7]
def d8 (R:Typ→Val→List UInt8→List Mis)(t:Typ)(v:Val)(p:List UInt8):List Mis:=
 if t.kind<1∨10<t.kind∨¬ v.kind=t.kind then [.mk p 1]
 else if ae v=false then [.mk p 8]
 else if t.kind=2∨t.kind=6∨t.kind=7 then BN t.min t.max p v.num
 else if t.kind=3 then (if v.scale=t.scale then BN t.min t.max p v.num else [.mk p 3])
 else if t.kind=4∨t.kind=5 then (if t.kind=4∧0<t.words.length then (if (t.words.any fun x=>decide (x=v.text))=true then [] else [.mk p 4]) else BN t.min t.max p v.text.length)
 else if t.kind=8 then BN t.min t.max p v.lst.length++ixM (OW R t.elem p) v.lst
 else if t.kind=9 then P0 R t v p
 else if t.kind=10 then PW R t v p
 else []
def cW:Nat→Typ→Val→List UInt8→List Mis
 | 0=>fun _ _ _=>[]
 | n+1=>d8 (cW n)
def dep:Nat→Val→Prop
 | 0,_=>False
 | n+1,v=>v.lst.length≤300∧v.fields.length≤300∧v.text.length≤100∧(∀ x∈v.lst,dep n x)∧∀ f∈v.fields,f.name.length≤100∧dep n f.value
def fh:Nat→Typ→Prop
 | 0,_=>True
 | n+1,t=>t.fields.length≤300∧t.words.length≤300∧(∀ e∈t.elem,fh n e)∧∀ f∈t.fields,f.name.length≤100∧fh n f.typ
def P4 (d:Bool)(l:List Mis):Prop:=l.length≤64∧(d=false→l.length<64)
end Go.Proofs.YtbaaokocnegdoaaGreatDoor
set_option maxRecDepth 100000
set_option linter.unusedVariables false
set_option linter.unusedSimpArgs false
namespace Go.Proofs.YtbaaokocnegdoaaGreatDoor
open Go Go.Ab
attribute [local irreducible] vc
section
variable {R:Typ→Val→List UInt8→List Mis}{t:Typ}{v:Val}{p:List UInt8}
theorem tD (h:t.kind<1∨10<t.kind∨¬ v.kind=t.kind):d8 R t v p=[.mk p 1]:=if_pos h
theorem yZ (h:¬ (t.kind<1∨10<t.kind∨¬ v.kind=t.kind))(hf:ae v=false):d8 R t v p=[.mk p 8]:=by
 unfold d8;rw[if_neg h,if_pos hf]
theorem jn (h:¬ (t.kind<1∨10<t.kind∨¬ v.kind=t.kind))(hf:ae v=true)(hk:t.kind=2∨t.kind=6∨t.kind=7):d8 R t v p=BN t.min t.max p v.num:=by
 unfold d8;rw[if_neg h,if_neg (by rw[hf];simp),if_pos hk]
theorem yY (h:¬ (t.kind<1∨10<t.kind∨¬ v.kind=t.kind))(hf:ae v=true)(hk:t.kind=3)(hs:v.scale=t.scale):d8 R t v p=BN t.min t.max p v.num:=by
 unfold d8;rw[if_neg h,if_neg (by rw[hf];simp),if_neg (by omega),if_pos hk,if_pos hs]
theorem pr (h:¬ (t.kind<1∨10<t.kind∨¬ v.kind=t.kind))(hf:ae v=true)(hk:t.kind=3)(hs:¬ v.scale=t.scale):d8 R t v p=[.mk p 3]:=by
 unfold d8;rw[if_neg h,if_neg (by rw[hf];simp),if_neg (by omega),if_pos hk,if_neg hs]
theorem tB (h:¬ (t.kind<1∨10<t.kind∨¬ v.kind=t.kind))(hf:ae v=true)(hk:t.kind=4)(hw:0<t.words.length)(ha:(t.words.any fun x=>decide (x=v.text))=true):d8 R t v p=[]:=by
 unfold d8;rw[if_neg h,if_neg (by rw[hf];simp),if_neg (by omega),if_neg (by omega),if_pos (.inl hk),if_pos ⟨hk,hw⟩,if_pos ha]
theorem mP (h:¬ (t.kind<1∨10<t.kind∨¬ v.kind=t.kind))(hf:ae v=true)(hk:t.kind=4)(hw:0<t.words.length)(ha:(t.words.any fun x=>decide (x=v.text))=false):d8 R t v p=[.mk p 4]:=by
 unfold d8;rw[if_neg h,if_neg (by rw[hf];simp),if_neg (by omega),if_neg (by omega),if_pos (.inl hk),if_pos ⟨hk,hw⟩,if_neg (by rw[ha];simp)]
theorem km (h:¬ (t.kind<1∨10<t.kind∨¬ v.kind=t.kind))(hf:ae v=true)(hk:t.kind=4∨t.kind=5)(hw:t.kind=4→t.words.length=0):d8 R t v p=BN t.min t.max p v.text.length:=by
 unfold d8;rw[if_neg h,if_neg (by rw[hf];simp),if_neg (by omega),if_neg (by omega),if_pos hk,if_neg (by intro hh;have:=hw hh.1;omega)]
theorem tC (h:¬ (t.kind<1∨10<t.kind∨¬ v.kind=t.kind))(hf:ae v=true)(hk:t.kind=1):d8 R t v p=[]:=by
 unfold d8;rw[if_neg h,if_neg (by rw[hf];simp),if_neg (by omega),if_neg (by omega),if_neg (by omega),if_neg (by omega),if_neg (by omega),if_neg (by omega)]
end
theorem bd (n:Nat)(t:Typ)(v:Val)(p:List UInt8):cW (n+1) t v p=d8 (cW n) t v p:=rfl
end Go.Proofs.YtbaaokocnegdoaaGreatDoor
set_option maxRecDepth 100000
set_option linter.unusedVariables false
set_option linter.unusedSimpArgs false
namespace Go.Proofs.YtbaaokocnegdoaaGreatDoor
open Go Go.Ab
attribute [local irreducible] vc
end Go.Proofs.YtbaaokocnegdoaaGreatDoor

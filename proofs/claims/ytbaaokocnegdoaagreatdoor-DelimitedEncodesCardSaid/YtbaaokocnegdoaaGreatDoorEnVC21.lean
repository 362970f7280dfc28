/- A part. -/
import Derived.Test.YtbaaokocnegdoaaGreatDoorEnVC18
set_option linter.unusedVariables false
set_option linter.unusedSimpArgs false
set_option maxRecDepth 100000
open Nat renaming lt_of_lt_of_le->VE,pow_succ->Wd,mul_comm->Wa,pow_le_pow_right->Wg
open Option renaming map_eq_some_iff->Vi,map_some->Vl
open List renaming append_assoc->VQ,singleton_append->WH,cons_append->VF,append_nil->VZ,length_cons->Vq
open UInt8 renaming ofNat->VT,toNat_ofNat'->Ws
open Bool renaming false_eq_true->Vz
namespace Go.Proofs.YtbaaokocnegdoaaGreatDoor
open Go Go.Ab
attribute [local irreducible] vc
def pF (T:Nat)(p:PV):Nat->List PV:=fun g=>if g=1 then [.iface T p] else aq g
theorem S3 {T:Nat}{p:PV}{w:World}{imm:Nat->Nat->Prop}(h:bG (pF T p) w imm):bG aq w imm:=by
 have key:∀ g,aq g≠[]->pF T p g=aq g:=by
  intro g hg
  unfold pF
  by_cases h0:g=1
  ·subst h0;exact absurd rfl hg
  ·rw[if_neg h0]
 refine⟨fun g o p hp=>h.1 g o p ?_,fun g hg=>?_⟩
 ·rw[key g (by intro e;rw[e] at hp;simp at hp)];exact hp
 ·rw[<- key g hg]
  exact h.2 g (by rw[key g hg];exact hg)
theorem toE {T:Nat}{p:PV}{f:Nat}{args:List PV}{r:PV}(h:ae Tryz.prog aq f args r):ae Tryz.prog (pF T p) f args r:=
 ⟨h.1,fun w imm vals hG=>h.2 w imm vals (S3 hG)⟩
def Fv:PV:=.iface 203 (.eptr [.str [65,116,111,105]] 0 0)
def NP:Option Int->PV
 | some n=>.tup [.int .i64 n,.nili]
 | none=>.tup [.int .i64 0,Fv]
theorem Rl {T:Nat}{p:PV}(s:List UInt8)(hl:s.length<=18):ae Tryz.prog (pF T p) 72 [.str s] (NP (Lib.atoi s)):=by
 refine⟨by kernel_rfl,fun w imm vals hG hlt hsz hargs=>?_⟩
 have hv:=Bh hsz
 obtain⟨h1,_⟩:=dX (hargs 0 (.str s) rfl)
 rw[hv,h1]
 have hbl:(⟨s.toArray⟩:ByteArray).size<=18:=by show s.toArray.size<=18;simpa using hl
 have hbd:(⟨s.toArray⟩:ByteArray).data.toList=s:=rfl
 cases ha:Lib.atoi s with
 | some n=>
   refine (Any.strconv_Atoi Tryz.lays172 ⟨s.toArray⟩ n hbl (by rw[hbd];exact ha) w).mono ?_
   rintro e w' ⟨rfl,t,rfl⟩
   have hb:=Lib.bytesWorld_below w (Tryz.lays172_ren.t 5) t
   refine⟨_,imm,rfl,hb,fun _ _ h=>h,fun _ _ h=>.inl h,fun b o h=>VE (hlt b o h) hb.size,?_⟩
   refine PRel.tup _ _ rfl fun i x hx=>?_
   match i,hx with
   | 0,hx=>cases hx;exact .int _ _
   | 1,hx=>cases hx;exact .nili
   | i+2,hx=>simp at hx
 | none=>
   obtain⟨_,ev,hev,_,hrel⟩:=hG.1 1 0 (.iface T p) rfl
   have hev2:ev = .nilIface\/∃ te pe,ev = .iface te pe:=by cases hrel;exact .inr ⟨_,_,rfl⟩
   refine (Tryz.strconv_Atoi_err ⟨s.toArray⟩ hbl (by rw[hbd];exact ha) ev w hev hev2).mono ?_
   rintro e w' ⟨N,rfl,hN,hcells,hb⟩
   have hNl:N<w'.heap.size:=(Array.getElem?_eq_some_iff.1 hcells).1
   refine⟨_,fun b o=>imm b o\/b=N,rfl,hb,fun _ _ h=>.inl h,fun b o h=>h.elim .inl fun e=>.inr (e▸hN),fun b o h=>h.elim (fun h=>VE (hlt b o h) hb.size) fun e=>e▸hNl,?_⟩
   refine PRel.tup _ _ rfl fun i x hx=>?_
   match i,hx with
   | 0,hx=>cases hx;exact .int _ _
   | 1,hx=>
     cases hx
     refine .iface _ _ _ ?_
     refine PRel.eptr [.str [65,116,111,105]] N 0 1 1 (fun _ _=>.string ⟨#[65,116,111,105]⟩) 0 0 (by simp) (by unfold maxLen;omega) ?_ ?_ ?_ (by simp)
     ·intro i x hx
      match i,hx with
      | 0,hx=>cases hx;rfl
      | i+1,hx=>simp at hx
     ·intro i x j y hx hy
      match i,hx with
      | 0,hx=>
        cases hx
        match j,hy with
        | 0,hy=>
          refine⟨.inr rfl,?_,rfl⟩
          have:=cell_of_row w' N 0 _ _ _ hcells
          simpa using this
        | j+1,hy=>simp[PV.cells] at hy
      | i+1,hx=>simp at hx
     ·intro i x j y hx hy
      match i,hx with
      | 0,hx=>
        cases hx
        match j,hy with
        | 0,hy=>
          cases hy
          exact PRel.str ⟨#[65,116,111,105]⟩ (by unfold maxLen;decide)
        | j+1,hy=>simp[PV.cells] at hy
      | i+1,hx=>simp at hx
   | i+2,hx=>simp at hx
def ol:List UInt8->Option (List UInt8×List UInt8)
 | []=>none
 | c::r=>if c=46 then some ([],r) else (ol r).map fun q=>(c::q.1,q.2)
theorem rM:∀ {s:List UInt8} (k:Nat),ol s=none->jd 46 s k = -1
 | [],k,_=>rfl
 | c::r,k,h=>by
   rw[ol] at h
   split at h
   ·cases h
   ·rename_i hc
    rw[jd,if_neg (by simpa using hc)]
    exact rM (k+1) (by simpa using h)
theorem mP:∀ {s a b:List UInt8} (k:Nat),ol s=some (a,b)->jd 46 s k=(k:Int)+a.length/\s=a++46::b
 | [],a,b,k,h=>by simp[ol] at h
 | c::r,a,b,k,h=>by
   rw[ol] at h
   split at h
   ·rename_i hc
    cases h
    subst hc
    rw[jd,if_pos (by simp)]
    exact⟨by simp,rfl⟩
   ·rename_i hc
    simp only[Vi] at h
    obtain⟨q,hq,he⟩:=h
    cases he
    have ih:=mP (k+1) hq
    rw[jd,if_neg (by simpa using hc),ih.1]
    refine⟨by simp;omega,?_⟩
    conv=>lhs;rw[ih.2]
    rfl
def OA (s:List UInt8):PV:=
 match ol s with
 | some (a,b)=>.tup [.str a,.str b,.bool true]
 | none=>.tup [.str s,.str [],.bool false]
theorem Ip (s:List UInt8):ae Tryz.prog aq 169 [.str s,.str [46]] (.int .i64 (jd 46 s 0)):=by
 by_cases h:s=[46]
 ·subst h
  refine ae.intro KP.2 (by simp[KP]) ?_
  rw[show jd 46 [46] 0=0 from rfl]
  simp(disch:=try exact dI) only[KP,push_cast,seval]
 ·have hi:=vZ s 46
  rw[show (46:Int).toNat.toUInt8=46 from rfl] at hi
  have hb:decide ([46]=s)=false:=decide_eq_false fun e=>h e.symm
  generalize jd 46 s 0=q at *
  refine ae.intro KP.2 (by simp[KP]) ?_
  have e46:(((46:UInt8).toNat:Nat):Int)=46:=rfl
  simp(disch:=try exact dI) only[KP,hb,push_cast,seval]
  refine ab.pure hi rfl ?_
  exact qsZ
theorem QM (s:List UInt8)(hl:s.length<=100000):ae Tryz.prog aq 120 [.str s,.str [46]] (OA s):=by
 have hi:=Ip s
 unfold OA
 cases hc:ol s with
 | none=>
   rw[rM 0 hc] at hi
   refine ae.intro KT.2 (by simp[KT]) ?_
   simp(disch:=try exact dI) only[KT,push_cast,seval]
   refine ab.pure hi rfl ?_
   exact qsZ
 | some q=>
   obtain⟨a,b⟩:=q
   obtain⟨h1,h2⟩:=mP 0 hc
   rw[h1] at hi
   have hsl:s.length=a.length+(b.length+1):=by rw[h2];simp
   have t1:s.take a.length=a:=by rw[h2];simp
   have t2:s.drop (a.length+1)=b:=by rw[h2];simp
   have ez:((0:Nat):Int)+(a.length:Int)=(a.length:Int):=by omega
   rw[ez] at hi
   have e1:((a.length:Int)).toNat=a.length:=by omega
   have e2:((a.length:Int)+1).toNat=a.length+1:=by omega
   refine ae.intro KT.2 (by simp[KT]) ?_
   simp(disch:=try exact dI) only[KT,push_cast,seval]
   refine ab.pure hi rfl ?_
   simp(disch:=try exact dI) only[t1,t2,e1,e2,List.take_length,push_cast,seval]
theorem Tw (s:List UInt8)(hl:s.length<=100000):ae Tryz.prog aq 71 [.str s,.str [46]] (OA s):=by
 have h:=QM s hl
 unfold OA at h ⊢
 cases hc:ol s with
 | none=>
   rw[hc] at h
   refine ae.intro Q71.2 (by simp[Q71]) ?_
   simp(disch:=try exact dI) only[Q71,push_cast,seval]
   refine ab.pure h rfl ?_
   exact qsZ
 | some q=>
   obtain⟨a,b⟩:=q
   rw[hc] at h
   refine ae.intro Q71.2 (by simp[Q71]) ?_
   simp(disch:=try exact dI) only[Q71,push_cast,seval]
   refine ab.pure h rfl ?_
   exact qsZ
theorem j2:∀ (k acc a:Nat) (r:List UInt8),Lib.decFrom acc (aT k a++r)=Lib.decFrom (acc*10 ^ k+a % 10 ^ k) r
 | 0,acc,a,r=>by simp[aT,Nat.mod_one]
 | k+1,acc,a,r=>by
   rw[aT,VQ,j2 k acc (a / 10)]
   have hd:(VT (48+a % 10)).toNat=48+a % 10:=by
    rw[Ws];omega
   have hv:Lib.digitVal (VT (48+a % 10))=some (a % 10):=by
    unfold Lib.digitVal
    rw[hd,if_pos (by omega)]
    congr 1;omega
   rw[WH,Lib.decFrom,hv]
   have e:a % 10 ^ (k+1)=a % 10+10*(a / 10 % 10 ^ k):=by rw[Wd,Wa,Nat.mod_mul]
   rw[e,Wd]
   simp only
   congr 1
   have e2:acc*(10 ^ k*10)=acc*10 ^ k*10:=by rw[Nat.mul_assoc]
   rw[e2]
   omega
theorem lG:∀ (k v c a:Nat) (r:List UInt8),rdS false v c (aT k a++r)=rdS false (v*10 ^ k+a % 10 ^ k) c r
 | 0,v,c,a,r=>by simp[aT,Nat.mod_one]
 | k+1,v,c,a,r=>by
   rw[aT,VQ,lG k v c (a / 10)]
   have hd:(VT (48+a % 10)).toNat=48+a % 10:=by
    rw[Ws];omega
   have hD:isD (VT (48+a % 10))=true:=by unfold isD;rw[hd];simp;omega
   have h46:(false||decide (VT (48+a % 10)=46))=false:=by
    rw[Bool.false_or]
    refine decide_eq_false fun h=>?_
    have:=congrArg UInt8.toNat h
    rw[hd] at this
    simp at this
    omega
   rw[WH,rdS,if_pos hD,h46,hd]
   have e:a % 10 ^ (k+1)=a % 10+10*(a / 10 % 10 ^ k):=by rw[Wd,Wa,Nat.mod_mul]
   rw[e,Wd]
   simp only[Vz,if_false]
   congr 1
   have e2:v*(10 ^ k*10)=v*10 ^ k*10:=by rw[Nat.mul_assoc]
   rw[e2]
   omega
theorem oK:∀ (k v c a:Nat) (r:List UInt8),rdS true v c (aT k a++r)=rdS true (v*10 ^ k+a % 10 ^ k) (c+k) r
 | 0,v,c,a,r=>by simp[aT,Nat.mod_one]
 | k+1,v,c,a,r=>by
   rw[aT,VQ,oK k v c (a / 10)]
   have hd:(VT (48+a % 10)).toNat=48+a % 10:=by
    rw[Ws];omega
   have hD:isD (VT (48+a % 10))=true:=by unfold isD;rw[hd];simp;omega
   rw[WH,rdS,if_pos hD,hd]
   have e:a % 10 ^ (k+1)=a % 10+10*(a / 10 % 10 ^ k):=by rw[Wd,Wa,Nat.mod_mul]
   rw[e,Wd]
   simp only[Bool.true_or,if_true]
   have e2:v*(10 ^ k*10)=v*10 ^ k*10:=by rw[Nat.mul_assoc]
   rw[e2]
   congr 1
   omega
theorem yF:∀ (k a:Nat),ol (aT k a)=none/\∀ r,ol (aT k a++46::r)=some (aT k a,r)
 | k,a=>by
   have key:∀ l:List UInt8,(∀ x,x∈l->x≠46)->ol l=none/\∀ r,ol (l++46::r)=some (l,r):=by
    intro l
    induction l with
    | nil=>intro _;exact⟨rfl,fun r=>by simp[ol]⟩
    | cons c l ih=>
      intro h
      have hc:c≠46:=h c (by simp)
      have ih:=ih fun x hx=>h x (by simp[hx])
      refine⟨by rw[ol,if_neg hc,ih.1];rfl,fun r=>by rw[VF,ol,if_neg hc,ih.2 r];rfl⟩
   refine key _ ?_
   have:∀ (k a:Nat) x,x∈aT k a->48<=x.toNat:=by
    intro k
    induction k with
    | zero=>intro a x hx;simp[aT] at hx
    | succ k ih=>
      intro a x hx
      rw[aT,List.mem_append] at hx
      rcases hx with hx | hx
      ·exact ih _ x hx
      ·simp only[List.mem_singleton] at hx
       rw[hx,Ws]
       omega
   intro x hx e
   have:=this k a x hx
   rw[e] at this
   revert this;decide
theorem lW {k a:Nat}(hk:0<k):∃ c r,aT k a=c::r/\48<=c.toNat/\c.toNat<=57:=by
 obtain⟨j,rfl⟩:∃ j,k=j+1:=⟨k - 1,by omega⟩
 refine⟨VT (48+a / 10 ^ j % 10),aT j a,iG j a,?_,?_⟩
 ·rw[Ws];omega
 ·rw[Ws];omega
structure DecP (n:Int)(c:Nat)(A B:List UInt8):Prop where
 cut:ol (iX n c)=if c=0 then none else some (A,B)
 txt:iX n c=if c=0 then A else A++46::B
 len:B.length=c
 val:Lib.atoi (A++B)=some n
 rd:rdS false 0 0 (iX n c)=(n.natAbs,c)
 sg:sgI (iX n c) n.natAbs=n
 ne:iX n c≠[]
theorem Tu {n:Int}{c:Nat}(h:IsN n c):∃ A B,DecP n c A B:=by
 obtain⟨h1,h2,h3⟩:=h
 have hlt:n.natAbs<10 ^ 15:=by simp;omega
 have hdl:=jI hlt
 obtain⟨a,ha⟩:∃ a,a=n.natAbs:=⟨_,rfl⟩
 rw[<- ha] at hlt hdl
 obtain⟨K,hK⟩:∃ K,K=max (dl a) (c+1):=⟨_,rfl⟩
 have haK:a<10 ^ K:=VE hdl.2.2 (Wg (by omega) (by omega))
 have hsp:=gi (K - c) c a
 rw[show K - c+c=K by omega] at hsp
 have hdec:iX n c=(if n<0 then [45] else [])++(aT (K - c) (a / 10 ^ c)++(if c=0 then [] else 46::aT c a)):=by unfold iX;rw[<- ha,<- hK]
 have hni:=yF (K - c) (a / 10 ^ c)
 obtain⟨x,r,hx,hx1,hx2⟩:=lW (k:=K - c) (a:=a / 10 ^ c) (by omega)
 have hx45:x≠45:=by intro e;subst e;revert hx1;decide
 have hx43:x≠43:=by intro e;subst e;revert hx1;decide
 have hq:a / 10 ^ c % 10 ^ (K - c)=a / 10 ^ c:=by
  refine Nat.mod_eq_of_lt (Nat.div_lt_of_lt_mul ?_)
  rw[<- Nat.pow_add,show c+(K - c)=K by omega]
  exact haK
 have hrd:rdS false 0 0 (aT (K - c) (a / 10 ^ c)++(if c=0 then [] else 46::aT c a))=(a,c):=by
  rw[lG,hq]
  by_cases h0:c=0
  ·rw[if_pos h0,h0];simp[rdS]
  ·rw[if_neg h0,rdS,if_neg (by decide)]
   have:=oK c (0*10 ^ (K - c)+a / 10 ^ c) 0 a []
   rw[VZ] at this
   rw[show (false||decide ((46:UInt8)=46))=true from rfl,this,rdS]
   rw[show 0*10 ^ (K - c)+a / 10 ^ c=a / 10 ^ c by omega,Nat.zero_add]
   have e2:=Nat.div_add_mod a (10 ^ c)
   rw[Wa] at e2
   rw[e2]
 have hval:Lib.decNat (aT K a)=some a:=by
  unfold Lib.decNat
  have hne:(aT K a).isEmpty=false:=by
   obtain⟨y,q,hy,_⟩:=lW (k:=K) (a:=a) (by omega)
   rw[hy];rfl
  rw[hne]
  have:=j2 K 0 a []
  rw[VZ] at this
  simp only[Vz,if_false]
  rw[this,Lib.decFrom,Nat.mod_eq_of_lt haK]
  congr 1;omega
 by_cases hneg:n<0
 ·rw[if_pos hneg] at hdec
  refine⟨45::aT (K - c) (a / 10 ^ c),aT c a,?_⟩
  constructor
  ·rw[hdec,WH,ol,if_neg (by decide)]
   by_cases h0:c=0
   ·rw[if_pos h0,if_pos h0,VZ,hni.1];rfl
   ·rw[if_neg h0,if_neg h0,hni.2];rfl
  ·rw[hdec]
   by_cases h0:c=0
   ·rw[if_pos h0,if_pos h0];simp
   ·rw[if_neg h0,if_neg h0];simp
  ·exact aM c a
  ·rw[VF,<- hsp]
   unfold Lib.atoi
   simp only[beq_self_eq_true,if_true]
   rw[hval]
   simp only[Vl]
   congr 1;omega
  ·rw[hdec,WH,rdS,if_neg (by decide)]
   rw[show (false||decide ((45:UInt8)=46))=false from rfl,hrd,<- ha]
  ·unfold sgI
   rw[hdec,WH,List.head?_cons,if_pos rfl]
   omega
  ·rw[hdec];simp
 ·rw[if_neg hneg] at hdec
  rw[List.nil_append] at hdec
  refine⟨aT (K - c) (a / 10 ^ c),aT c a,?_⟩
  constructor
  ·rw[hdec]
   by_cases h0:c=0
   ·rw[if_pos h0,if_pos h0,VZ,hni.1]
   ·rw[if_neg h0,if_neg h0,hni.2]
  ·rw[hdec]
   by_cases h0:c=0
   ·rw[if_pos h0,if_pos h0];simp
   ·rw[if_neg h0,if_neg h0]
  ·exact aM c a
  ·rw[<- hsp]
   have hval':=hval
   rw[hsp,hx] at hval' ⊢
   rw[VF] at hval' ⊢
   unfold Lib.atoi
   simp only
   rw[show (x == 45)=false by simpa using hx45,show (x == 43)=false by simpa using hx43]
   simp only[Vz,if_false]
   rw[hval']
   simp only[Vl]
   congr 1;omega
  ·rw[hdec,hrd,<- ha]
  ·unfold sgI
   rw[hdec,hx,VF,List.head?_cons,if_neg (by simpa using hx45)]
   omega
  ·rw[hdec,hx];simp
theorem rF:∀ (l:List UInt8) (acc m:Nat),Lib.decFrom acc l=some m->m+1<=(acc+1)*10 ^ l.length
 | [],acc,m,h=>by simp only[Lib.decFrom] at h;cases h;simp
 | b::r,acc,m,h=>by
   rw[Lib.decFrom] at h
   unfold Lib.digitVal at h
   split at h
   ·rename_i hd
    split at hd
    ·rename_i hb
     cases hd
     have ih:=rF r _ m h
     refine Nat.le_trans ih ?_
     rw[Vq,Wd,Wa (10 ^ r.length) 10,<- Nat.mul_assoc]
     exact Nat.mul_le_mul_right _ (by omega)
    ·cases hd
   ·cases h
theorem AE {s:List UInt8}{n:Int}(hl:s.length<=18)(h:Lib.atoi s=some n):n.natAbs<=1000000000000000000:=by
 have key:∀ (l:List UInt8) (m:Nat),l.length<=18->Lib.decNat l=some m->m<=1000000000000000000:=by
  intro l m hl h
  unfold Lib.decNat at h
  split at h
  ·cases h
  ·have:=rF l 0 m h
   have hp:10 ^ l.length<=10 ^ 18:=Wg (by omega) hl
   omega
 cases s with
 | nil=>simp[Lib.atoi] at h
 | cons b r=>
   simp only[Vq] at hl
   unfold Lib.atoi at h
   simp only at h
   split at h
   ·simp only[Vi] at h
    obtain⟨m,hm,rfl⟩:=h
    have:=key r m (by omega) hm
    omega
   ·split at h
    ·simp only[Vi] at h
     obtain⟨m,hm,rfl⟩:=h
     have:=key r m (by omega) hm
     omega
    ·simp only[Vi] at h
     obtain⟨m,hm,rfl⟩:=h
     have:=key (b::r) m (by simpa using hl) hm
     omega
def rL (s:List UInt8):List UInt8×List UInt8×Bool:=
 match ol s with
 | some (a,b)=>(a,b,true)
 | none=>(s,[],false)
def yj (s:List UInt8):(Int×Nat)×Int:=
 match Lib.atoi ((rL s).1++(rL s).2.1) with
 | some n=>if IsN n (rL s).2.1.length/\iX n (rL s).2.1.length=s/\((rL s).2.2=true->(rL s).2.1≠[]) then ((n,(rL s).2.1.length),0) else ((0,0),13)
 | none=>((0,0),13)
theorem Hw {s:List UInt8}(h0:s≠[])(hl:¬ 17<s.length):yj s=aY s:=by
 have yes:∀ n c,IsN n c->iX n c=s->yj s=((n,c),0)/\aY s=((n,c),0):=by
  intro n c hn hd
  obtain⟨A,B,P⟩:=Tu hn
  constructor
  ·have hc:=P.cut
   have ht:=P.txt
   have hv:=P.val
   rw[hd] at hc ht
   by_cases hz:c=0
   ·subst hz
    rw[if_pos rfl] at hc ht
    have hB:B=[]:=List.length_eq_zero_iff.1 P.len
    subst hB
    rw[VZ] at hv
    rw[<- ht] at hv
    unfold yj rL
    rw[hc]
    simp only[VZ,hv,List.length_nil]
    rw[if_pos ⟨hn,hd,by simp⟩]
   ·rw[if_neg hz] at hc
    unfold yj rL
    rw[hc]
    simp only[hv,P.len]
    rw[if_pos ⟨hn,hd,fun _ e=>hz (by rw[<- P.len,e];rfl)⟩]
  ·have hr:=P.rd
   have hs:=P.sg
   rw[hd] at hr hs
   unfold aY
   rw[if_neg h0,if_neg hl,hr]
   simp only[hs]
   rw[if_pos ⟨hn,hd⟩]
 by_cases hp:IsN (sgI s (rdS false 0 0 s).1) (rdS false 0 0 s).2/\iX (sgI s (rdS false 0 0 s).1) (rdS false 0 0 s).2=s
 ·obtain⟨e1,e2⟩:=yes _ _ hp.1 hp.2
  rw[e1,e2]
 ·have e2:aY s=((0,0),13):=by
   unfold aY
   rw[if_neg h0,if_neg hl,if_neg hp]
  rw[e2]
  unfold yj
  split
  ·rename_i n hn
   split
   ·rename_i hh
    have:=(yes _ _ hh.1 hh.2.1).2
    rw[e2] at this
    simp at this
   ·rfl
  ·rfl
theorem en {e:List (Nat×AV)}{σ:List (Nat×Blk)}{new:Nat}(ng:Bool)(x y:AX):nv e σ new (.inil ng x y)=gO [] (qy ng (evE e x) (evE e y)):=by
 simp only[nv,gO];cases qy ng (evE e x) (evE e y)<;>rfl
theorem sT (ng:Bool)(T:Nat)(p:PV):qy ng (.pv (.iface T p)) (.pv .nili)=some (.pv (.bool ng)):=rfl
theorem ep (ng:Bool):qy ng (.pv .nili) (.pv .nili)=some (.pv (.bool (!ng))):=rfl
theorem nC {n:Int}(h:-9223372036854775808<n)(h2:n<=9223372036854775807)(c:Nat) :
  ae Tryz.prog aq 42 [.agg [.int .i64 n,.int .i64 (c:Int)]] (.tup [.str (if IsN n c then iX n c else []),.int .i64 (if IsN n c then 0 else 2)]):=by
 by_cases hn:IsN n c
 ·rw[if_pos hn,if_pos hn];exact Bz hn
 ·rw[if_neg hn,if_neg hn];exact By h h2 hn
theorem QL (s:List UInt8):OA s = .tup [.str (rL s).1,.str (rL s).2.1,.bool (rL s).2.2]:=by
 unfold OA rL
 cases h:ol s with
 | none=>rfl
 | some q=>rfl
theorem Ja (s:List UInt8):(rL s).1.length+(rL s).2.1.length<=s.length:=by
 unfold rL
 split
 ·rename_i a b h
  rw[(mP 0 h).2]
  simp
 ·simp
theorem CY {T:Nat}{p:PV}(s:List UInt8):ae Tryz.prog (pF T p) 33 [.str s] (.tup [.agg [.int .i64 (aY s).1.1,.int .i64 ((aY s).1.2:Int)],.int .i64 (aY s).2]):=by
 by_cases h0:s=[]
 ·subst h0
  unfold aY
  rw[if_pos rfl]
  refine ae.intro Q33.2 (by simp[Q33]) ?_
  simp(disch:=try exact dI) only[Q33,push_cast,seval]
 have h0b:decide (s=[])=false:=decide_eq_false h0
 by_cases hl:17<s.length
 ·unfold aY
  rw[if_neg h0,if_pos hl]
  have hlI:(17:Int)<(s.length:Int):=by omega
  refine ae.intro Q33.2 (by simp[Q33]) ?_
  simp(disch:=try exact dI) only[Q33,h0b,push_cast,seval]
 rw[<- Hw h0 hl]
 have hlI:¬ (17:Int)<(s.length:Int):=by omega
 have hc:=toE (T:=T) (p:=p) (Tw s (by omega))
 rw[QL] at hc
 have hcl:=Ja s
 unfold yj
 generalize rL s=W at *
 obtain⟨w,r,b⟩:=W
 simp only at hc hcl ⊢
 have ha:=Rl (T:=T) (p:=p) (w++r) (by simp;omega)
 have hbd:=fun n=>AE (s:=w++r) (n:=n) (by simp;omega)
 cases hv:Lib.atoi (w++r) with
 | none=>
   rw[hv] at ha
   simp only[NP,Fv] at ha
   have ht:=toE (T:=T) (p:=p) (nC (n:=0) (by omega) (by omega) r.length)
   generalize (if IsN 0 r.length then iX 0 r.length else [])=t1 at *
   generalize (if IsN 0 r.length then (0:Int) else 2)=t2 at *
   refine ae.intro Q33.2 (by simp[Q33]) ?_
   simp(disch:=try exact dI) only[Q33,h0b,push_cast,seval]
   refine ab.pure hc rfl ?_
   refine zgZ ?_
   refine ab.pure ha rfl ?_
   refine zgZ ?_
   refine ab.pure ht rfl ?_
   simp(disch:=try exact dI) only[en,sT,push_cast,seval]
 | some n=>
   rw[hv] at ha
   simp only[NP] at ha
   have hb:=hbd n hv
   have ht:=toE (T:=T) (p:=p) (nC (n:=n) (by omega) (by omega) r.length)
   simp only
   by_cases hn:IsN n r.length
   ·rw[if_pos hn,if_pos hn] at ht
    by_cases hd:iX n r.length=s
    ·rw[hd] at ht
     cases b with
     | true=>
       by_cases hr:r=[]
       ·rw[if_neg (fun h=>h.2.2 rfl hr)]
        subst hr
        rw[VZ] at ha
        refine ae.intro Q33.2 (by simp[Q33]) ?_
        simp(disch:=try exact dI) only[Q33,h0b,push_cast,seval]
        refine ab.pure hc rfl ?_
        refine zgZ ?_
        refine ab.pure ha rfl ?_
        refine zgZ ?_
        refine ab.pure ht rfl ?_
        simp(disch:=try exact dI) only[en,ep,push_cast,seval]
       ·rw[if_pos ⟨hn,hd,fun _=>hr⟩]
        have hrb:decide (r=[])=false:=decide_eq_false hr
        refine ae.intro Q33.2 (by simp[Q33]) ?_
        simp(disch:=try exact dI) only[Q33,h0b,push_cast,seval]
        refine ab.pure hc rfl ?_
        refine zgZ ?_
        refine ab.pure ha rfl ?_
        refine zgZ ?_
        refine ab.pure ht rfl ?_
        simp(disch:=try exact dI) only[hrb,en,ep,push_cast,seval]
     | false=>
       rw[if_pos ⟨hn,hd,fun h=>by cases h⟩]
       refine ae.intro Q33.2 (by simp[Q33]) ?_
       simp(disch:=try exact dI) only[Q33,h0b,push_cast,seval]
       refine ab.pure hc rfl ?_
       refine zgZ ?_
       refine ab.pure ha rfl ?_
       refine zgZ ?_
       refine ab.pure ht rfl ?_
       simp(disch:=try exact dI) only[en,ep,push_cast,seval]
    ·rw[if_neg (fun h=>hd h.2.1)]
     generalize iX n r.length=t at *
     have htb:(!decide (t=s))=true:=by simp[hd]
     refine ae.intro Q33.2 (by simp[Q33]) ?_
     simp(disch:=try exact dI) only[Q33,h0b,push_cast,seval]
     refine ab.pure hc rfl ?_
     refine zgZ ?_
     refine ab.pure ha rfl ?_
     refine zgZ ?_
     refine ab.pure ht rfl ?_
     simp(disch:=try exact dI) only[htb,en,ep,push_cast,seval]
   ·rw[if_neg hn,if_neg hn] at ht
    rw[if_neg (fun h=>hn h.1)]
    refine ae.intro Q33.2 (by simp[Q33]) ?_
    simp(disch:=try exact dI) only[Q33,h0b,push_cast,seval]
    refine ab.pure hc rfl ?_
    refine zgZ ?_
    refine ab.pure ha rfl ?_
    refine zgZ ?_
    refine ab.pure ht rfl ?_
    simp(disch:=try exact dI) only[en,ep,push_cast,seval]

/- A part. -/
import Derived.Test.YtamoeblcphjbaaaGreatDoorTyLC6
set_option linter.unusedVariables false
set_option linter.unusedSimpArgs false
set_option maxRecDepth 100000
open Nat renaming lt_of_lt_of_le->W0,pow_succ->XJ,mul_comm->XA,pow_le_pow_right->Xx
open Option renaming map_eq_some_iff->WI,map_some->WZ
open List renaming take_length->WV,append_assoc->WS,singleton_append->Xc,cons_append->WQ,append_nil->W7,length_cons->WG,getElem?_eq_getElem->WE,mem_of_getElem?->WK
open UInt8 renaming ofNat->Xn,toNat_ofNat'->XD
open Bool renaming false_eq_true->Xz
namespace Go.Proofs.YtamoeblcphjbaaaGreatDoor
open Go Go.Ab
attribute [local irreducible] vc
def ci (T:Nat)(p:PV):Nat->List PV:=fun g=>if g=6 then [.iface T p] else aC g
theorem Ur {T:Nat}{p:PV}{w:World}{imm:Nat->Nat->Prop}(h:dd (ci T p) w imm):dd aC w imm:=by
 have key:∀ g,aC g≠[]->ci T p g=aC g:=by
  intro g hg
  unfold ci
  by_cases h0:g=6
  ·subst h0;exact absurd rfl hg
  ·rw[if_neg h0]
 refine⟨fun g o p hp=>h.1 g o p ?_,fun g hg=>?_⟩
 ·rw[key g (by intro e;rw[e] at hp;simp at hp)];exact hp
 ·rw[<- key g hg]
  exact h.2 g (by rw[key g hg];exact hg)
theorem toE {T:Nat}{p:PV}{f:Nat}{args:List PV}{r:PV}(h:am Tryz.prog aC f args r):am Tryz.prog (ci T p) f args r:=
 ⟨h.1,fun w imm vals hG=>h.2 w imm vals (Ur hG)⟩
theorem kP {T:Nat}{p:PV}{k f:Nat}{args:List AV}{bs:List Blk}{v:AV}{bs':List Blk}(h:aP Tryz.prog aC k f args bs v bs'):aP Tryz.prog (ci T p) k f args bs v bs':=by
 have key:∀ g,aC g≠[]->ci T p g=aC g:=by
  intro g hg
  unfold ci
  by_cases h0:g=6
  ·subst h0;exact absurd rfl hg
  ·rw[if_neg h0]
 obtain⟨hc,h⟩:=h
 refine⟨hc,fun κ vals hS hf hsz hv=>?_⟩
 have hS1:SRel (cQ κ (fun r=>lookB r (cB bs 0)) aC) κ (fun r=>lookB r (cB bs 0)):=by
  refine⟨hS.blk,hS.apart,hS.mine,hS.immLt,fun g o p hp=>hS.glob.1 g o p ?_,fun g hg=>?_⟩
  ·show (ci T _ g)[o]? = some p
   have hp':(aC g)[o]? = some p:=hp
   rw[key g (by intro e;rw[e] at hp';simp at hp')];exact hp'
  ·have hg':aC g≠[]:=hg
   have:=hS.glob.2 g (show ci T _ g≠[] by rw[key g hg'];exact hg')
   obtain⟨h1,h2,cs,T',fz,h3,h4⟩:=this
   exact⟨h1,h2,cs,T',fz,h3,h4.trans (congrArg List.length (key g hg'))⟩
 refine (h κ vals hS1 hf hsz hv).mono ?_
 rintro e w' ⟨u,v',κ',sto',next',h1,h2,he,hL,hv',hS',hf',hQ⟩
 exact⟨u,v',κ',sto',next',h1,h2,he,⟨hL.os,hL.tape,hL.output,hL.size,hL.block,hL.imm⟩,hv',⟨hS'.blk,hS'.apart,hS'.mine,hS'.immLt,Wr (κ:=κ.cut k) he hS.glob hL.block⟩,hf',hQ⟩
def F8:PV:=.iface 243 (.eptr [.str [65,116,111,105]] 0 0)
def Pf:Option Int->PV
 | some n=>.tup [.int .i64 n,.nili]
 | none=>.tup [.int .i64 0,F8]
theorem Pg {T:Nat}{p:PV}(s:List UInt8)(hl:s.length<=18):am Tryz.prog (ci T p) 185 [.str s] (Pf (Lib.atoi s)):=by
 refine⟨by kernel_rfl,fun w imm vals hG hlt hsz hargs=>?_⟩
 have hv:=BF hsz
 obtain⟨h1,_⟩:=jK (hargs 0 (.str s) rfl)
 rw[hv,h1]
 have hbl:(⟨s.toArray⟩:ByteArray).size<=18:=by show s.toArray.size<=18;simpa using hl
 have hbd:(⟨s.toArray⟩:ByteArray).data.toList=s:=rfl
 cases ha:Lib.atoi s with
 | some n=>
   refine (Any.strconv_Atoi Tryz.lays172 ⟨s.toArray⟩ n hbl (by rw[hbd];exact ha) w).mono ?_
   rintro e w' ⟨rfl,t,rfl⟩
   have hb:=Lib.bytesWorld_below w (Tryz.lays172_ren.t 5) t
   refine⟨_,imm,rfl,hb,fun _ _ h=>h,fun _ _ h=>.inl h,fun b o h=>W0 (hlt b o h) hb.size,?_⟩
   refine PRel.tup _ _ rfl fun i x hx=>?_
   match i,hx with
   | 0,hx=>cases hx;exact .int _ _
   | 1,hx=>cases hx;exact .nili
   | i+2,hx=>simp at hx
 | none=>
   obtain⟨_,ev,hev,_,hrel⟩:=hG.1 6 0 (.iface T p) rfl
   have hev2:ev = .nilIface\/∃ te pe,ev = .iface te pe:=by cases hrel;exact .inr ⟨_,_,rfl⟩
   refine (Tryz.strconv_Atoi_err ⟨s.toArray⟩ hbl (by rw[hbd];exact ha) ev w hev hev2).mono ?_
   rintro e w' ⟨N,rfl,hN,hcells,hb⟩
   have hNl:N<w'.heap.size:=(Array.getElem?_eq_some_iff.1 hcells).1
   refine⟨_,fun b o=>imm b o\/b=N,rfl,hb,fun _ _ h=>.inl h,fun b o h=>h.elim .inl fun e=>.inr (e▸hN),fun b o h=>h.elim (fun h=>W0 (hlt b o h) hb.size) fun e=>e▸hNl,?_⟩
   refine PRel.tup _ _ rfl fun i x hx=>?_
   match i,hx with
   | 0,hx=>cases hx;exact .int _ _
   | 1,hx=>
     cases hx
     refine .iface _ _ _ ?_
     refine PRel.eptr [.str [65,116,111,105]] N 0 1 1 (fun _ _=>.string ⟨#[65,116,111,105]⟩) 0 0 (by simp) (by unfold maxLen;omega) ?_ ?_ ?_ (by simp)
     ·intro i x hx
      match i,hx with
      | 0,hx=>cases hx;rfl
      | i+1,hx=>simp at hx
     ·intro i x j y hx hy
      match i,hx with
      | 0,hx=>
        cases hx
        match j,hy with
        | 0,hy=>
          refine⟨.inr rfl,?_,rfl⟩
          have:=cell_of_row w' N 0 _ _ _ hcells
          simpa using this
        | j+1,hy=>simp[PV.cells] at hy
      | i+1,hx=>simp at hx
     ·intro i x j y hx hy
      match i,hx with
      | 0,hx=>
        cases hx
        match j,hy with
        | 0,hy=>
          cases hy
          exact PRel.str ⟨#[65,116,111,105]⟩ (by unfold maxLen;decide)
        | j+1,hy=>simp[PV.cells] at hy
      | i+1,hx=>simp at hx
   | i+2,hx=>simp at hx
def ki (d:UInt8):List UInt8->Option (List UInt8×List UInt8)
 | []=>none
 | c::r=>if c=d then some ([],r) else (ki d r).map fun q=>(c::q.1,q.2)
theorem sB {d:UInt8}:∀ {s:List UInt8} (k:Nat),ki d s=none->fZ d s k = -1
 | [],k,_=>rfl
 | c::r,k,h=>by
   rw[ki] at h
   split at h
   ·cases h
   ·rename_i hc
    rw[fZ,if_neg (by simpa using hc)]
    exact sB (k+1) (by simpa using h)
theorem jA {d:UInt8}:∀ {s a b:List UInt8} (k:Nat),ki d s=some (a,b)->fZ d s k=(k:Int)+a.length/\s=a++d::b
 | [],a,b,k,h=>by simp[ki] at h
 | c::r,a,b,k,h=>by
   rw[ki] at h
   split at h
   ·rename_i hc
    cases h
    subst hc
    rw[fZ,if_pos (by simp)]
    exact⟨by simp,rfl⟩
   ·rename_i hc
    simp only[WI] at h
    obtain⟨q,hq,he⟩:=h
    cases he
    have ih:=jA (k+1) hq
    rw[fZ,if_neg (by simpa using hc),ih.1]
    refine⟨by simp;omega,?_⟩
    conv=>lhs;rw[ih.2]
    rfl
def p8 (d:UInt8)(s:List UInt8):PV:=
 match ki d s with
 | some (a,b)=>.tup [.str a,.str b,.bool true]
 | none=>.tup [.str s,.str [],.bool false]
theorem Je (s:List UInt8)(d:UInt8):am Tryz.prog aC 248 [.str s,.str [d]] (.int .i64 (fZ d s 0)):=by
 by_cases h:s=[d]
 ·subst h
  refine am.intro PY.2 (by simp[PY]) ?_
  rw[show fZ d [d] 0=0 by simp[fZ]]
  simp(disch:=try exact dI) only[PY,push_cast,seval]
 ·have hi:=xg s (d.toNat:Int)
  rw[show ((d.toNat:Int)).toNat.toUInt8=d by simp] at hi
  have hb:decide ([d]=s)=false:=decide_eq_false fun e=>h e.symm
  generalize fZ d s 0=q at *
  refine am.intro PY.2 (by simp[PY]) ?_
  simp(disch:=try exact dI) only[PY,hb,push_cast,seval]
  refine ae.pure hi rfl ?_
  exact qsZ
theorem R5 (d:UInt8)(s:List UInt8)(hl:s.length<=100000):am Tryz.prog aC 220 [.str s,.str [d]] (p8 d s):=by
 have hi:=Je s d
 unfold p8
 cases hc:ki d s with
 | none=>
   rw[sB 0 hc] at hi
   refine am.intro PZ.2 (by simp[PZ]) ?_
   simp(disch:=try exact dI) only[PZ,push_cast,seval]
   refine ae.pure hi rfl ?_
   exact qsZ
 | some q=>
   obtain⟨a,b⟩:=q
   obtain⟨h1,h2⟩:=jA 0 hc
   rw[h1] at hi
   have hsl:s.length=a.length+(b.length+1):=by rw[h2];simp
   have t1:s.take a.length=a:=by rw[h2];simp
   have t2:s.drop (a.length+1)=b:=by rw[h2];simp
   have ez:((0:Nat):Int)+(a.length:Int)=(a.length:Int):=by omega
   rw[ez] at hi
   have e1:((a.length:Int)).toNat=a.length:=by omega
   have e2:((a.length:Int)+1).toNat=a.length+1:=by omega
   refine am.intro PZ.2 (by simp[PZ]) ?_
   simp(disch:=try exact dI) only[PZ,push_cast,seval]
   refine ae.pure hi rfl ?_
   simp(disch:=try exact dI) only[t1,t2,e1,e2,WV,push_cast,seval]
theorem Fy (d:UInt8)(s:List UInt8)(hl:s.length<=100000):am Tryz.prog aC 184 [.str s,.str [d]] (p8 d s):=by
 have h:=R5 d s hl
 unfold p8 at h ⊢
 cases hc:ki d s with
 | none=>
   rw[hc] at h
   refine am.intro P3.2 (by simp[P3]) ?_
   simp(disch:=try exact dI) only[P3,push_cast,seval]
   refine ae.pure h rfl ?_
   exact qsZ
 | some q=>
   obtain⟨a,b⟩:=q
   rw[hc] at h
   refine am.intro P3.2 (by simp[P3]) ?_
   simp(disch:=try exact dI) only[P3,push_cast,seval]
   refine ae.pure h rfl ?_
   exact qsZ
def sZ:List UInt8->Option (List UInt8×List UInt8)
 | []=>none
 | c::r=>if c=46 then some ([],r) else (sZ r).map fun q=>(c::q.1,q.2)
theorem Fv:∀ s:List UInt8,sZ s=ki 46 s
 | []=>rfl
 | c::r=>by rw[sZ,ki,Fv r]
theorem Fu {s a b:List UInt8}(k:Nat)(h:sZ s=some (a,b)):fZ 46 s k=(k:Int)+a.length/\s=a++46::b:=jA k ((Fv s).symm.trans h)
def Tj (s:List UInt8):PV:=
 match sZ s with
 | some (a,b)=>.tup [.str a,.str b,.bool true]
 | none=>.tup [.str s,.str [],.bool false]
theorem UK (s:List UInt8)(hl:s.length<=100000):am Tryz.prog aC 184 [.str s,.str [46]] (Tj s):=by
 have:=Fy 46 s hl
 unfold p8 at this;unfold Tj;rw[Fv];exact this
theorem kC:∀ (k acc a:Nat) (r:List UInt8),Lib.decFrom acc (bn k a++r)=Lib.decFrom (acc*10 ^ k+a % 10 ^ k) r
 | 0,acc,a,r=>by simp[bn,Nat.mod_one]
 | k+1,acc,a,r=>by
   rw[bn,WS,kC k acc (a / 10)]
   have hd:(Xn (48+a % 10)).toNat=48+a % 10:=by
    rw[XD];omega
   have hv:Lib.digitVal (Xn (48+a % 10))=some (a % 10):=by
    unfold Lib.digitVal
    rw[hd,if_pos (by omega)]
    congr 1;omega
   rw[Xc,Lib.decFrom,hv]
   have e:a % 10 ^ (k+1)=a % 10+10*(a / 10 % 10 ^ k):=by rw[XJ,XA,Nat.mod_mul]
   rw[e,XJ]
   simp only
   congr 1
   have e2:acc*(10 ^ k*10)=acc*10 ^ k*10:=by rw[Nat.mul_assoc]
   rw[e2]
   omega
theorem mc:∀ (k v c a:Nat) (r:List UInt8),rdS false v c (bn k a++r)=rdS false (v*10 ^ k+a % 10 ^ k) c r
 | 0,v,c,a,r=>by simp[bn,Nat.mod_one]
 | k+1,v,c,a,r=>by
   rw[bn,WS,mc k v c (a / 10)]
   have hd:(Xn (48+a % 10)).toNat=48+a % 10:=by
    rw[XD];omega
   have hD:isD (Xn (48+a % 10))=true:=by unfold isD;rw[hd];simp;omega
   have h46:(false||decide (Xn (48+a % 10)=46))=false:=by
    rw[Bool.false_or]
    refine decide_eq_false fun h=>?_
    have:=congrArg UInt8.toNat h
    rw[hd] at this
    simp at this
    omega
   rw[Xc,rdS,if_pos hD,h46,hd]
   have e:a % 10 ^ (k+1)=a % 10+10*(a / 10 % 10 ^ k):=by rw[XJ,XA,Nat.mod_mul]
   rw[e,XJ]
   simp only[Xz,if_false]
   congr 1
   have e2:v*(10 ^ k*10)=v*10 ^ k*10:=by rw[Nat.mul_assoc]
   rw[e2]
   omega
theorem pn:∀ (k v c a:Nat) (r:List UInt8),rdS true v c (bn k a++r)=rdS true (v*10 ^ k+a % 10 ^ k) (c+k) r
 | 0,v,c,a,r=>by simp[bn,Nat.mod_one]
 | k+1,v,c,a,r=>by
   rw[bn,WS,pn k v c (a / 10)]
   have hd:(Xn (48+a % 10)).toNat=48+a % 10:=by
    rw[XD];omega
   have hD:isD (Xn (48+a % 10))=true:=by unfold isD;rw[hd];simp;omega
   rw[Xc,rdS,if_pos hD,hd]
   have e:a % 10 ^ (k+1)=a % 10+10*(a / 10 % 10 ^ k):=by rw[XJ,XA,Nat.mod_mul]
   rw[e,XJ]
   simp only[Bool.true_or,if_true]
   have e2:v*(10 ^ k*10)=v*10 ^ k*10:=by rw[Nat.mul_assoc]
   rw[e2]
   congr 1
   omega
theorem zH:∀ (k a:Nat),sZ (bn k a)=none/\∀ r,sZ (bn k a++46::r)=some (bn k a,r)
 | k,a=>by
   have key:∀ l:List UInt8,(∀ x,x∈l->x≠46)->sZ l=none/\∀ r,sZ (l++46::r)=some (l,r):=by
    intro l
    induction l with
    | nil=>intro _;exact⟨rfl,fun r=>by simp[sZ]⟩
    | cons c l ih=>
      intro h
      have hc:c≠46:=h c (by simp)
      have ih:=ih fun x hx=>h x (by simp[hx])
      refine⟨by rw[sZ,if_neg hc,ih.1];rfl,fun r=>by rw[WQ,sZ,if_neg hc,ih.2 r];rfl⟩
   refine key _ ?_
   have:∀ (k a:Nat) x,x∈bn k a->48<=x.toNat:=by
    intro k
    induction k with
    | zero=>intro a x hx;simp[bn] at hx
    | succ k ih=>
      intro a x hx
      rw[bn,List.mem_append] at hx
      rcases hx with hx | hx
      ·exact ih _ x hx
      ·simp only[List.mem_singleton] at hx
       rw[hx,XD]
       omega
   intro x hx e
   have:=this k a x hx
   rw[e] at this
   revert this;decide
theorem dZ {k a:Nat}(hk:0<k):∃ c r,bn k a=c::r/\48<=c.toNat/\c.toNat<=57:=by
 obtain⟨j,rfl⟩:∃ j,k=j+1:=⟨k - 1,by omega⟩
 refine⟨Xn (48+a / 10 ^ j % 10),bn j a,Dv j a,?_,?_⟩
 ·rw[XD];omega
 ·rw[XD];omega
structure DecP (n:Int)(c:Nat)(A B:List UInt8):Prop where
 cut:sZ (cl n c)=if c=0 then none else some (A,B)
 txt:cl n c=if c=0 then A else A++46::B
 len:B.length=c
 val:Lib.atoi (A++B)=some n
 rd:rdS false 0 0 (cl n c)=(n.natAbs,c)
 sg:sgI (cl n c) n.natAbs=n
 ne:cl n c≠[]
theorem decP {n:Int}{c:Nat}(h:IsN n c):∃ A B,DecP n c A B:=by
 obtain⟨h1,h2,h3⟩:=h
 have hlt:n.natAbs<10 ^ 15:=by simp;omega
 have hdl:=fH hlt
 obtain⟨a,ha⟩:∃ a,a=n.natAbs:=⟨_,rfl⟩
 rw[<- ha] at hlt hdl
 obtain⟨K,hK⟩:∃ K,K=max (dl a) (c+1):=⟨_,rfl⟩
 have haK:a<10 ^ K:=W0 hdl.2.2 (Xx (by omega) (by omega))
 have hsp:=gQ (K - c) c a
 rw[show K - c+c=K by omega] at hsp
 have hdec:cl n c=(if n<0 then [45] else [])++(bn (K - c) (a / 10 ^ c)++(if c=0 then [] else 46::bn c a)):=by unfold cl;rw[<- ha,<- hK]
 have hni:=zH (K - c) (a / 10 ^ c)
 obtain⟨x,r,hx,hx1,hx2⟩:=dZ (k:=K - c) (a:=a / 10 ^ c) (by omega)
 have hx45:x≠45:=by intro e;subst e;revert hx1;decide
 have hx43:x≠43:=by intro e;subst e;revert hx1;decide
 have hq:a / 10 ^ c % 10 ^ (K - c)=a / 10 ^ c:=by
  refine Nat.mod_eq_of_lt (Nat.div_lt_of_lt_mul ?_)
  rw[<- Nat.pow_add,show c+(K - c)=K by omega]
  exact haK
 have hrd:rdS false 0 0 (bn (K - c) (a / 10 ^ c)++(if c=0 then [] else 46::bn c a))=(a,c):=by
  rw[mc,hq]
  by_cases h0:c=0
  ·rw[if_pos h0,h0];simp[rdS]
  ·rw[if_neg h0,rdS,if_neg (by decide)]
   have:=pn c (0*10 ^ (K - c)+a / 10 ^ c) 0 a []
   rw[W7] at this
   rw[show (false||decide ((46:UInt8)=46))=true from rfl,this,rdS]
   rw[show 0*10 ^ (K - c)+a / 10 ^ c=a / 10 ^ c by omega,Nat.zero_add]
   have e2:=Nat.div_add_mod a (10 ^ c)
   rw[XA] at e2
   rw[e2]
 have hval:Lib.decNat (bn K a)=some a:=by
  unfold Lib.decNat
  have hne:(bn K a).isEmpty=false:=by
   obtain⟨y,q,hy,_⟩:=dZ (k:=K) (a:=a) (by omega)
   rw[hy];rfl
  rw[hne]
  have:=kC K 0 a []
  rw[W7] at this
  simp only[Xz,if_false]
  rw[this,Lib.decFrom,Nat.mod_eq_of_lt haK]
  congr 1;omega
 by_cases hneg:n<0
 ·rw[if_pos hneg] at hdec
  refine⟨45::bn (K - c) (a / 10 ^ c),bn c a,?_⟩
  constructor
  ·rw[hdec,Xc,sZ,if_neg (by decide)]
   by_cases h0:c=0
   ·rw[if_pos h0,if_pos h0,W7,hni.1];rfl
   ·rw[if_neg h0,if_neg h0,hni.2];rfl
  ·rw[hdec]
   by_cases h0:c=0
   ·rw[if_pos h0,if_pos h0];simp
   ·rw[if_neg h0,if_neg h0];simp
  ·exact bj c a
  ·rw[WQ,<- hsp]
   unfold Lib.atoi
   simp only[beq_self_eq_true,if_true]
   rw[hval]
   simp only[WZ]
   congr 1;omega
  ·rw[hdec,Xc,rdS,if_neg (by decide)]
   rw[show (false||decide ((45:UInt8)=46))=false from rfl,hrd,<- ha]
  ·unfold sgI
   rw[hdec,Xc,List.head?_cons,if_pos rfl]
   omega
  ·rw[hdec];simp
 ·rw[if_neg hneg] at hdec
  rw[List.nil_append] at hdec
  refine⟨bn (K - c) (a / 10 ^ c),bn c a,?_⟩
  constructor
  ·rw[hdec]
   by_cases h0:c=0
   ·rw[if_pos h0,if_pos h0,W7,hni.1]
   ·rw[if_neg h0,if_neg h0,hni.2]
  ·rw[hdec]
   by_cases h0:c=0
   ·rw[if_pos h0,if_pos h0];simp
   ·rw[if_neg h0,if_neg h0]
  ·exact bj c a
  ·rw[<- hsp]
   have hval':=hval
   rw[hsp,hx] at hval' ⊢
   rw[WQ] at hval' ⊢
   unfold Lib.atoi
   simp only
   rw[show (x == 45)=false by simpa using hx45,show (x == 43)=false by simpa using hx43]
   simp only[Xz,if_false]
   rw[hval']
   simp only[WZ]
   congr 1;omega
  ·rw[hdec,hrd,<- ha]
  ·unfold sgI
   rw[hdec,hx,WQ,List.head?_cons,if_neg (by simpa using hx45)]
   omega
  ·rw[hdec,hx];simp
theorem sv:∀ (l:List UInt8) (acc m:Nat),Lib.decFrom acc l=some m->m+1<=(acc+1)*10 ^ l.length
 | [],acc,m,h=>by simp only[Lib.decFrom] at h;cases h;simp
 | b::r,acc,m,h=>by
   rw[Lib.decFrom] at h
   unfold Lib.digitVal at h
   split at h
   ·rename_i hd
    split at hd
    ·rename_i hb
     cases hd
     have ih:=sv r _ m h
     refine Nat.le_trans ih ?_
     rw[WG,XJ,XA (10 ^ r.length) 10,<- Nat.mul_assoc]
     exact Nat.mul_le_mul_right _ (by omega)
    ·cases hd
   ·cases h
theorem A4 {s:List UInt8}{n:Int}(hl:s.length<=18)(h:Lib.atoi s=some n):n.natAbs<=1000000000000000000:=by
 have key:∀ (l:List UInt8) (m:Nat),l.length<=18->Lib.decNat l=some m->m<=1000000000000000000:=by
  intro l m hl h
  unfold Lib.decNat at h
  split at h
  ·cases h
  ·have:=sv l 0 m h
   have hp:10 ^ l.length<=10 ^ 18:=Xx (by omega) hl
   omega
 cases s with
 | nil=>simp[Lib.atoi] at h
 | cons b r=>
   simp only[WG] at hl
   unfold Lib.atoi at h
   simp only at h
   split at h
   ·simp only[WI] at h
    obtain⟨m,hm,rfl⟩:=h
    have:=key r m (by omega) hm
    omega
   ·split at h
    ·simp only[WI] at h
     obtain⟨m,hm,rfl⟩:=h
     have:=key r m (by omega) hm
     omega
    ·simp only[WI] at h
     obtain⟨m,hm,rfl⟩:=h
     have:=key (b::r) m (by simpa using hl) hm
     omega
def sy (s:List UInt8):List UInt8×List UInt8×Bool:=
 match sZ s with
 | some (a,b)=>(a,b,true)
 | none=>(s,[],false)
def zm (s:List UInt8):(Int×Nat)×Int:=
 match Lib.atoi ((sy s).1++(sy s).2.1) with
 | some n=>if IsN n (sy s).2.1.length/\cl n (sy s).2.1.length=s/\((sy s).2.2=true->(sy s).2.1≠[]) then ((n,(sy s).2.1.length),0) else ((0,0),13)
 | none=>((0,0),13)
theorem Io {s:List UInt8}(h0:s≠[])(hl:¬ 17<s.length):zm s=bC s:=by
 have yes:∀ n c,IsN n c->cl n c=s->zm s=((n,c),0)/\bC s=((n,c),0):=by
  intro n c hn hd
  obtain⟨A,B,P⟩:=decP hn
  constructor
  ·have hc:=P.cut
   have ht:=P.txt
   have hv:=P.val
   rw[hd] at hc ht
   by_cases hz:c=0
   ·subst hz
    rw[if_pos rfl] at hc ht
    have hB:B=[]:=List.length_eq_zero_iff.1 P.len
    subst hB
    rw[W7] at hv
    rw[<- ht] at hv
    unfold zm sy
    rw[hc]
    simp only[W7,hv,List.length_nil]
    rw[if_pos ⟨hn,hd,by simp⟩]
   ·rw[if_neg hz] at hc
    unfold zm sy
    rw[hc]
    simp only[hv,P.len]
    rw[if_pos ⟨hn,hd,fun _ e=>hz (by rw[<- P.len,e];rfl)⟩]
  ·have hr:=P.rd
   have hs:=P.sg
   rw[hd] at hr hs
   unfold bC
   rw[if_neg h0,if_neg hl,hr]
   simp only[hs]
   rw[if_pos ⟨hn,hd⟩]
 by_cases hp:IsN (sgI s (rdS false 0 0 s).1) (rdS false 0 0 s).2/\cl (sgI s (rdS false 0 0 s).1) (rdS false 0 0 s).2=s
 ·obtain⟨e1,e2⟩:=yes _ _ hp.1 hp.2
  rw[e1,e2]
 ·have e2:bC s=((0,0),13):=by
   unfold bC
   rw[if_neg h0,if_neg hl,if_neg hp]
  rw[e2]
  unfold zm
  split
  ·rename_i n hn
   split
   ·rename_i hh
    have:=(yes _ _ hh.1 hh.2.1).2
    rw[e2] at this
    simp at this
   ·rfl
  ·rfl
theorem eK {e:List (Nat×AV)}{σ:List (Nat×Blk)}{new:Nat}(ng:Bool)(x y:AX):kX e σ new (.inil ng x y)=iu [] (rc ng (evE e x) (evE e y)):=by
 simp only[kX,iu];cases rc ng (evE e x) (evE e y)<;>rfl
theorem tI (ng:Bool)(T:Nat)(p:PV):rc ng (.pv (.iface T p)) (.pv .nili)=some (.pv (.bool ng)):=rfl
theorem eN (ng:Bool):rc ng (.pv .nili) (.pv .nili)=some (.pv (.bool (!ng))):=rfl
theorem nR {n:Int}(h:-9223372036854775808<n)(h2:n<=9223372036854775807)(c:Nat) :
  am Tryz.prog aC 42 [.agg [.int .i64 n,.int .i64 (c:Int)]] (.tup [.str (if IsN n c then cl n c else []),.int .i64 (if IsN n c then 0 else 2)]):=by
 by_cases hn:IsN n c
 ·rw[if_pos hn,if_pos hn];exact qE hn
 ·rw[if_neg hn,if_neg hn];exact BS h h2 hn
theorem R4 (s:List UInt8):Tj s = .tup [.str (sy s).1,.str (sy s).2.1,.bool (sy s).2.2]:=by
 unfold Tj sy
 cases h:sZ s with
 | none=>rfl
 | some q=>rfl
theorem JZ (s:List UInt8):(sy s).1.length+(sy s).2.1.length<=s.length:=by
 unfold sy
 split
 ·rename_i a b h
  rw[(Fu 0 h).2]
  simp
 ·simp
theorem fu {T:Nat}{p:PV}(s:List UInt8):am Tryz.prog (ci T p) 113 [.str s] (.tup [.agg [.int .i64 (bC s).1.1,.int .i64 ((bC s).1.2:Int)],.int .i64 (bC s).2]):=by
 by_cases h0:s=[]
 ·subst h0
  unfold bC
  rw[if_pos rfl]
  refine am.intro lE.2 (by simp[lE]) ?_
  simp(disch:=try exact dI) only[lE,push_cast,seval]
 have h0b:decide (s=[])=false:=decide_eq_false h0
 by_cases hl:17<s.length
 ·unfold bC
  rw[if_neg h0,if_pos hl]
  have hlI:(17:Int)<(s.length:Int):=by omega
  refine am.intro lE.2 (by simp[lE]) ?_
  simp(disch:=try exact dI) only[lE,h0b,push_cast,seval]
 rw[<- Io h0 hl]
 have hlI:¬ (17:Int)<(s.length:Int):=by omega
 have hc:=toE (T:=T) (p:=p) (UK s (by omega))
 rw[R4] at hc
 have hcl:=JZ s
 unfold zm
 generalize sy s=W at *
 obtain⟨w,r,b⟩:=W
 simp only at hc hcl ⊢
 have ha:=Pg (T:=T) (p:=p) (w++r) (by simp;omega)
 have hbd:=fun n=>A4 (s:=w++r) (n:=n) (by simp;omega)
 cases hv:Lib.atoi (w++r) with
 | none=>
   rw[hv] at ha
   simp only[Pf,F8] at ha
   have ht:=toE (T:=T) (p:=p) (nR (n:=0) (by omega) (by omega) r.length)
   generalize (if IsN 0 r.length then cl 0 r.length else [])=t1 at *
   generalize (if IsN 0 r.length then (0:Int) else 2)=t2 at *
   refine am.intro lE.2 (by simp[lE]) ?_
   simp(disch:=try exact dI) only[lE,h0b,push_cast,seval]
   refine ae.pure hc rfl ?_
   refine zgZ ?_
   refine ae.pure ha rfl ?_
   refine zgZ ?_
   refine ae.pure ht rfl ?_
   simp(disch:=try exact dI) only[eK,tI,push_cast,seval]
 | some n=>
   rw[hv] at ha
   simp only[Pf] at ha
   have hb:=hbd n hv
   have ht:=toE (T:=T) (p:=p) (nR (n:=n) (by omega) (by omega) r.length)
   simp only
   by_cases hn:IsN n r.length
   ·rw[if_pos hn,if_pos hn] at ht
    by_cases hd:cl n r.length=s
    ·rw[hd] at ht
     cases b with
     | true=>
       by_cases hr:r=[]
       ·rw[if_neg (fun h=>h.2.2 rfl hr)]
        subst hr
        rw[W7] at ha
        refine am.intro lE.2 (by simp[lE]) ?_
        simp(disch:=try exact dI) only[lE,h0b,push_cast,seval]
        refine ae.pure hc rfl ?_
        refine zgZ ?_
        refine ae.pure ha rfl ?_
        refine zgZ ?_
        refine ae.pure ht rfl ?_
        simp(disch:=try exact dI) only[eK,eN,push_cast,seval]
       ·rw[if_pos ⟨hn,hd,fun _=>hr⟩]
        have hrb:decide (r=[])=false:=decide_eq_false hr
        refine am.intro lE.2 (by simp[lE]) ?_
        simp(disch:=try exact dI) only[lE,h0b,push_cast,seval]
        refine ae.pure hc rfl ?_
        refine zgZ ?_
        refine ae.pure ha rfl ?_
        refine zgZ ?_
        refine ae.pure ht rfl ?_
        simp(disch:=try exact dI) only[hrb,eK,eN,push_cast,seval]
     | false=>
       rw[if_pos ⟨hn,hd,fun h=>by cases h⟩]
       refine am.intro lE.2 (by simp[lE]) ?_
       simp(disch:=try exact dI) only[lE,h0b,push_cast,seval]
       refine ae.pure hc rfl ?_
       refine zgZ ?_
       refine ae.pure ha rfl ?_
       refine zgZ ?_
       refine ae.pure ht rfl ?_
       simp(disch:=try exact dI) only[eK,eN,push_cast,seval]
    ·rw[if_neg (fun h=>hd h.2.1)]
     generalize cl n r.length=t at *
     have htb:(!decide (t=s))=true:=by simp[hd]
     refine am.intro lE.2 (by simp[lE]) ?_
     simp(disch:=try exact dI) only[lE,h0b,push_cast,seval]
     refine ae.pure hc rfl ?_
     refine zgZ ?_
     refine ae.pure ha rfl ?_
     refine zgZ ?_
     refine ae.pure ht rfl ?_
     simp(disch:=try exact dI) only[htb,eK,eN,push_cast,seval]
   ·rw[if_neg hn,if_neg hn] at ht
    rw[if_neg (fun h=>hn h.1)]
    refine am.intro lE.2 (by simp[lE]) ?_
    simp(disch:=try exact dI) only[lE,h0b,push_cast,seval]
    refine ae.pure hc rfl ?_
    refine zgZ ?_
    refine ae.pure ha rfl ?_
    refine zgZ ?_
    refine ae.pure ht rfl ?_
    simp(disch:=try exact dI) only[eK,eN,push_cast,seval]
theorem wD (s:List UInt8)(k:Nat)(hk:k<=8):am Tryz.prog aC 193 [.str s,.int .i64 (k:Int)] (Lh s (ua k s)):=by
 refine am.intro Tw.2 (by simp[Tw]) ?_
 by_cases hl:s.length<k
 ·rw[show ua k s=none from if_neg (by omega)]
  simp(disch:=try exact dI) only[Tw,Lh,push_cast,seval]
 ·obtain⟨R,hR⟩:∃ R,R=ua k s:=⟨_,rfl⟩
  rw[<- hR]
  simp(disch:=try exact dI) only[Tw,push_cast,seval]
  refine aG ([]) (fun i:Nat=>[(4,.pv (.int .i64 (kU 0 (s.take i)))),(14,.pv (.int .i64 (i:Int)))]) (fun _=>[]) (fun i=>i<=k/\(s.take i).all isD=true) (fun i=>k - i) (0) ?_;intro e0 σ0 n0 h0;simp(disch:=try exact dI) only[push_cast,seval] at h0;obtain⟨rfl,rfl,rfl⟩:=h0;refine⟨?_,?_,?_⟩
  ·refine zgZ ?_
   rfl
  ·exact⟨by omega,by simp⟩
  rintro i ⟨hi,hd⟩
  have hdl:=RX hd (by simp;omega)
  by_cases hlt:i<k
  ·obtain⟨c,hc⟩:∃ c,s[i]? = some c:=⟨_,WE (by omega)⟩
   have hcl:=c.toNat_lt
   have hw:=iP (n:=(c.toNat:Int)) (by omega) (by omega)
   have hts:=aK hc
   by_cases hcd:isD c=true
   ·have hb:=jm hcd
    have hin:=eG (n:=(c.toNat:Int)) (lo:=48) (hi:=57) ⟨by omega,by omega⟩
    have hw2:=iP (n:=(c.toNat:Int) - 48) (by omega) (by omega)
    have hdv:kU 0 (s.take (i+1))=10*kU 0 (s.take i)+((c.toNat:Int) - 48):=by rw[hts,lu]
    have hd2:(s.take (i+1)).all isD=true:=by rw[hts,List.all_append,hd];simp[hcd]
    simp(disch:=try exact dI) only[hc,aq,hw,push_cast,seval]
    refine ae.pure hin rfl ?_
    simp(disch:=try exact dI) only[hc,aq,hw2,push_cast,seval]
    exact⟨i+1,bl (by simp(disch:=try exact dI) only[hdv,push_cast,seval]),⟨by omega,hd2⟩,by omega⟩
   ·have hin:=pN (n:=(c.toNat:Int)) (lo:=48) (hi:=57) (fun h=>hcd (by simp[isD];omega))
    have hnone:R=none:=by
     rw[hR]
     refine if_neg fun h=>hcd ?_
     exact List.all_eq_true.1 h.2 c (WK (i:=i) (by rw[List.getElem?_take_of_lt hlt];exact hc))
    rw[hnone]
    simp(disch:=try exact dI) only[hc,aq,hw,push_cast,seval]
    refine ae.pure hin rfl ?_
    simp(disch:=try exact dI) only[Lh,push_cast,seval]
  ·have hik:i=k:=by omega
   subst hik
   have hsome:R=some (kU 0 (s.take i),s.drop i):=by rw[hR];exact if_pos ⟨by omega,hd⟩
   rw[hsome]
   simp(disch:=try exact dI) only[Lh,WV,push_cast,seval]
theorem mM (s p:List UInt8):am Tryz.prog aC 203 [.str s,.str p] (.bool (decide (s.take p.length=p/\p.length<=s.length))):=by
 refine am.intro S3.2 (by simp[S3]) ?_
 by_cases hl:p.length<=s.length
 ·by_cases he:s.take p.length=p
  ·rw[show decide (s.take p.length=p/\p.length<=s.length)=true from decide_eq_true ⟨he,hl⟩]
   simp(disch:=try exact dI) only[S3,he,push_cast,seval]
  ·rw[show decide (s.take p.length=p/\p.length<=s.length)=false from decide_eq_false (fun h=>he h.1)]
   simp(disch:=try exact dI) only[S3,he,push_cast,seval]
 ·rw[show decide (s.take p.length=p/\p.length<=s.length)=false from decide_eq_false (fun h=>hl h.2)]
  simp(disch:=try exact dI) only[S3,push_cast,seval]
def ii (p s:List UInt8):Bool:=decide (s.take p.length=p/\p.length<=s.length)
theorem Fw (s p:List UInt8):am Tryz.prog aC 224 [.str s,.str p] (.tup [.str (if ii p s=true then s.drop p.length else s),.bool (ii p s)]):=by
 have hp:=mM s p
 have hl:ii p s=true->p.length<=s.length:=fun h=>(of_decide_eq_true h).2
 refine am.intro Tv.2 (by simp[Tv]) ?_
 change am Tryz.prog aC 203 [.str s,.str p] (.bool (ii p s)) at hp
 cases hb:ii p s with
 | true=>
   have:=hl hb
   rw[hb] at hp
   simp only[if_true]
   simp(disch:=try exact dI) only[Tv,push_cast,seval]
   refine ae.pure hp rfl ?_
   simp(disch:=try exact dI) only[WV,push_cast,seval]
 | false=>
   rw[hb] at hp
   simp only[Xz,if_false]
   simp(disch:=try exact dI) only[Tv,push_cast,seval]
   refine ae.pure hp rfl ?_
   exact qsZ
theorem xN (s p:List UInt8):am Tryz.prog aC 192 [.str s,.str p] (.tup [.str (if ii p s=true then s.drop p.length else s),.bool (ii p s)]):=by
 have h:=Fw s p
 generalize (if ii p s=true then s.drop p.length else s)=q at *
 generalize ii p s=b at *
 refine am.intro Vm.2 (by simp[Vm]) ?_
 simp(disch:=try exact dI) only[Vm,push_cast,seval]
 refine ae.pure h rfl ?_
 exact qsZ
def PR (n:Nat):PV:=.int .i64 n
def dy:List (List UInt8)->List Nat->List UInt8->Option (List Int×List UInt8)
 | [],_,s=>some ([],s)
 | _::_,[],_=>none
 | m::ms,k::ks,s=>if ii m s=true then (match ua k (s.drop m.length) with
   | some p=>(dy ms ks p.2).map fun q=>(p.1::q.1,q.2)
   | none=>none) else none
def rx (s:List UInt8):Option (List Int×List UInt8)->PV
 | some p=>.tup [.list (p.1.map (PV.int .i64)),.str p.2,.bool true]
 | none=>.tup [.nils,.str s,.bool false]
theorem ry (s:List UInt8)(ms:List (List UInt8))(ks:List Nat)(hm:ms.length=ks.length)(hl:ms.length<=100)(hk:∀ k,k∈ks->k<=8) :
  am Tryz.prog aC 190 [.str s,.list (ms.map PV.str),.list (ks.map PR)] (rx s (dy ms ks s)):=by
 obtain⟨R,hR⟩:∃ R,R=dy ms ks s:=⟨_,rfl⟩
 rw[<- hR]
 refine am.intro Vn.2 (by simp[Vn]) ?_
 simp(disch:=try exact dI) only[Vn,push_cast,seval]
 refine aG ([(6,0,3,1)]) (fun y:Nat×List Int×List UInt8=>[(6,.olist 0 1 (y.2.1.map (PV.int .i64))),(7,.pv (.str y.2.2)),(15,.pv (.int .i64 (y.1:Int)))]) (fun _=>[]) (fun y=>y.1<=ms.length/\y.2.1.length<=y.1/\R=(dy (ms.drop y.1) (ks.drop y.1) y.2.2).map fun q=>(y.2.1++q.1,q.2)) (fun y=>ms.length - y.1) ((0,[],s)) ?_;intro e0 σ0 n0 h0;simp(disch:=try exact dI) only[push_cast,seval] at h0;obtain⟨rfl,rfl,rfl⟩:=h0;refine⟨?_,?_,?_⟩
 ·exact qsZ
 ·exact⟨by simp,by simp,by simp[hR]⟩
 rintro⟨i,L,r⟩ ⟨h1,h2,h3⟩
 simp only at h1 h2 h3
 by_cases hlt:i<ms.length
 ·obtain⟨m,hmi⟩:∃ m,ms[i]? = some m:=⟨_,WE hlt⟩
  obtain⟨k,hki⟩:∃ k,ks[i]? = some k:=⟨_,WE (by omega)⟩
  have hmp:(ms.map PV.str)[i]? = some (.str m):=by simp[hmi]
  have hkp:(ks.map PR)[i]? = some (.int .i64 (k:Int)):=by simp[hki,PR]
  have hk8:=hk k (WK hki)
  have hc:=xN r m
  rw[dm hmi,dm hki] at h3
  simp only[dy] at h3
  cases hb:ii m r with
  | false=>
    rw[hb] at hc h3
    simp only[Xz,if_false,Option.map_none] at hc h3
    rw[h3]
    simp(disch:=try exact dI) only[hmp,push_cast,seval]
    refine ae.pure hc rfl ?_
    simp(disch:=try exact dI) only[rx,push_cast,seval]
  | true=>
    rw[hb] at hc h3
    simp only[if_true] at hc h3
    have hn:=wD (r.drop m.length) k hk8
    cases hv:ua k (r.drop m.length) with
    | none=>
      rw[hv] at hn h3
      simp only[Lh,Option.map_none] at hn h3
      rw[h3]
      simp(disch:=try exact dI) only[hmp,push_cast,seval]
      refine ae.pure hc rfl ?_
      simp(disch:=try exact dI) only[hkp,push_cast,seval]
      refine ae.pure hn rfl ?_
      simp(disch:=try exact dI) only[rx,push_cast,seval]
    | some p=>
      rw[hv] at hn h3
      simp only[Lh] at hn h3
      simp(disch:=try exact dI) only[hmp,push_cast,seval]
      refine ae.pure hc rfl ?_
      simp(disch:=try exact dI) only[hkp,push_cast,seval]
      refine ae.pure hn rfl ?_
      refine zgZ ?_
      exact⟨(i+1,L++[p.1],p.2),bl (by simp(disch:=try exact dI) only[List.map_append,push_cast,seval]),⟨by simp only;omega,by simp;omega,by rw[h3,Option.map_map];congr 1;funext q;simp⟩,by simp only;omega⟩
 ·have hi:i=ms.length:=by omega
  have hd1:ms.drop i=[]:=List.drop_eq_nil_of_le (by omega)
  rw[hd1] at h3
  simp only[dy,WZ,W7] at h3
  rw[h3]
  simp(disch:=try exact dI) only[rx,push_cast,seval]

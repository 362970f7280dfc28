/- A program logic over the model: part 3 (a proof is built on it; nothing of the statement is said here). -/
import Derived.Orders
import Derived.RangeFuncSeq
import Derived.RangeFuncLeaves
import Derived.Test.YtbojpfpliibfbaaGreatDoorMxCore2
set_option linter.unusedVariables false
set_option linter.unusedSimpArgs false
namespace Go.Ab
open Go Go.RowKit
section
variable {β:Type}
def lz (g:Nat->β):List (Nat×β)->Nat->β
 | []=>g
 | p::r=>lz (fun x=>if x=p.1 then p.2 else g x) r
def aR (u:List (Nat×β)):List Nat:=u.map (·.1)
theorem gQ {r:Nat}:∀ (u:List (Nat×β)) (g:Nat->β),r∉aR u->lz g u r=g r
 | [],g,_=>rfl
 | p::q,g,h=>by
   simp only[aR,List.map_cons,List.mem_cons,not_or] at h
   rw[lz,gQ q _ h.2,if_neg h.1]
theorem nI {r:Nat}:∀ (u:List (Nat×β)) (g g':Nat->β),(r∈aR u\/g r=g' r)->lz g u r=lz g' u r
 | [],g,g',h=>by
   rcases h with h | h
   ·simp[aR] at h
   ·exact h
 | p::q,g,g',h=>by
   rw[lz,lz]
   refine nI q _ _ ?_
   by_cases hp:r=p.1
   ·right;simp[hp]
   ·rcases h with h | h
    ·simp only[aR,List.map_cons,List.mem_cons] at h
     exact .inl (h.resolve_left hp)
    ·right;simp[hp,h]
def bD (S:Nat->Bool):List (List (Nat×β))->Nat->(Nat->β)->Nat->β
 | [],_,g=>g
 | u::r,k,g=>bD S r (k+1) (if S k=true then lz g u else g)
theorem fE {S S':Nat->Bool}{r:Nat}:∀ (W:List (List (Nat×β))) (k:Nat) (g g':Nat->β),(∀ i u,W[i]? = some u->r∈aR u->S (k+i)=S' (k+i))->g r=g' r->bD S W k g r=bD S' W k g' r
 | [],k,g,g',_,h=>h
 | u::q,k,g,g',hs,h=>by
   rw[bD,bD]
   refine fE q (k+1) _ _ (fun i v hv hr=>?_) ?_
   ·have:=hs (i+1) v (by simpa using hv) hr
    rw[show k+1+i=k+(i+1) by omega];exact this
   ·by_cases hr:r∈aR u
    ·have:=hs 0 u (by simp) hr
     simp only[Nat.add_zero] at this
     rw[this]
     split
     ·exact nI u _ _ (.inl hr)
     ·exact h
    ·split<;>split<;>simp[gQ u _ hr,h]
theorem qj {S:Nat->Bool}{r:Nat}:∀ (W:List (List (Nat×β))) (k i:Nat) (u:List (Nat×β)) (g g':Nat->β),W[i]? = some u->S (k+i)=true->r∈aR u->(∀ j v,i<j->W[j]? = some v->r∈aR v->S (k+j)=false) ->
  bD S W k g r=lz g' u r
 | [],k,i,u,g,g',h,_,_,_=>by simp at h
 | v::q,k,i,u,g,g',h,hS,hr,hl=>by
   rw[bD]
   cases i with
   | zero=>
     simp only[List.getElem?_cons_zero,Option.some.injEq] at h
     subst h
     simp only[Nat.add_zero] at hS
     rw[if_pos hS]
     have hz:bD S q (k+1) (lz g v) r=bD (fun _=>false) q (k+1) (lz g v) r:=
      fE q (k+1) _ _ (fun j w hw hrw=>by
       have:=hl (j+1) w (by omega) (by simpa using hw) hrw
       rw[show k+1+j=k+(j+1) by omega];exact this) rfl
     have hno:∀ (W:List (List (Nat×β))) (k:Nat) (g:Nat->β),bD (fun _=>false) W k g=g:=by
      intro W
      induction W with
      | nil=>intros;rfl
      | cons a b ih=>intro k g;rw[bD];simpa using ih (k+1) g
     rw[hz,hno]
     exact nI v _ _ (.inl hr)
   | succ i=>
     exact qj q (k+1) i u _ g' (by simpa using h) (by rw[show k+1+i=k+(i+1) by omega];exact hS) hr (fun j w hj hw hrw=>by
      have:=hl (j+1) w (by omega) (by simpa using hw) hrw
      rw[show k+1+j=k+(j+1) by omega];exact this)
theorem p7 {S S':Nat->Bool}{W:List (List (Nat×β))}{i:Nat}{u:List (Nat×β)}{g:Nat->β}(hi:W[i]? = some u)(h1:S' i=true)(h2:∀ j,j≠i->S' j=S j)
  (ho:∀ j v r,j≠i->W[j]? = some v->r∈aR v->r∈aR u->i<j->S j=false):bD S' W 0 g=lz (bD S W 0 g) u:=by
 funext r
 by_cases hr:r∈aR u
 ·refine qj W 0 i u g _ hi (by simpa using h1) hr (fun j v hj hv hrv=>?_)
  rw[Nat.zero_add,h2 j (by omega)]
  exact ho j v r (by omega) hv hrv hr hj
 ·rw[gQ u _ hr]
  refine fE W 0 g g (fun j v hv hrv=>?_) rfl
  rw[Nat.zero_add]
  refine h2 j ?_
  rintro rfl
  rw[hi] at hv;cases hv
  exact hr hrv
theorem p8 {S:Nat->Bool}{W:List (List (Nat×β))}{i r:Nat}{g:Nat->β}(hi:S i=false)(ho:∀ j v,j≠i->W[j]? = some v->r∈aR v->(j<i/\S j=true)\/(i<j/\S j=false)) :
  bD S W 0 g r=bD (fun j=>decide (j<i)) W 0 g r:=by
 refine fE W 0 g g (fun j v hv hrv=>?_) rfl
 rw[Nat.zero_add]
 by_cases hj:j=i
 ·subst hj;simp[hi]
 ·rcases ho j v hj hv hrv with ⟨h1,h2⟩ | ⟨h1,h2⟩
  ·simp[h1,h2]
  ·rw[h2];simp;omega
theorem nM (S:Nat->Bool):∀ (W:List (List (Nat×β))) (k:Nat) (g:Nat->β),(∀ i,i<W.length->S (k+i)=true)->bD S W k g=bD (fun _=>true) W k g
 | [],k,g,_=>rfl
 | v::q,k,g,h=>by
   have h0:=h 0 (by simp)
   rw[Nat.add_zero] at h0
   rw[bD,bD,if_pos h0,if_pos rfl]
   exact nM S q (k+1) _ (fun i hi=>by rw[show k+1+i=k+(i+1) by omega];exact h (i+1) (by simp;omega))
end
theorem au {E E':Nat->AV}{x:AX}(h:∀ i∈x.slots,E i=E' i):x.ev E=x.ev E':=by
 cases x with
 | t i=>exact h i (by simp[AX.slots])
 | c p=>rfl
 | m i tb=>simp only[AX.ev];rw[h i (by simp[AX.slots])]
theorem gF {E E':Nat->AV}{xs:List AX}(h:∀ i∈xs.flatMap AX.slots,E i=E' i):xs.map (·.ev E)=xs.map (·.ev E'):=
 List.map_congr_left fun x hx=>au fun i hi=>h i (List.mem_flatMap.2 ⟨x,hx,hi⟩)
theorem gG {E E':Nat->AV}{x:Option AX}(h:∀ i∈lU x,E i=E' i):x.map (·.ev E)=x.map (·.ev E'):=by
 cases x with
 | none=>rfl
 | some x=>simp only[Option.map_some];rw[au (x:=x) (fun i hi=>h i (by simpa[lU] using hi))]
theorem TOp.run_congr {E E':Nat->AV}{o:TOp}(h:∀ i∈o.slots,E i=E' i):o.run E=o.run E':=by
 cases o<;>simp only[TOp.run,TOp.slots,List.mem_append] at h ⊢
 case mv x=>rw[au h]
 case pick c a b=>rw[au (x:=c) (fun i hi=>h i (.inl (.inl hi))),au (x:=a) (fun i hi=>h i (.inl (.inr hi))),au (x:=b) (fun i hi=>h i (.inr hi))]
 case build zs ps=>
  have:(ps.map fun p=>(p.1,p.2.1,p.2.2.ev E))=ps.map fun p=>(p.1,p.2.1,p.2.2.ev E'):=
   List.map_congr_left fun p hp=>by rw[au (x:=p.2.2) (fun i hi=>h i (List.mem_flatMap.2 ⟨p,hp,hi⟩))]
  rw[this]
 case faddr off x=>rw[au h]
 case field g sz off x=>rw[au h]
 case len st x=>rw[au h]
 case neg x=>rw[au h]
 case not x=>rw[au h]
 case conv k x=>rw[au h]
 case ext x i=>rw[au h]
 case nilck x=>rw[au h]
 case sliceL sz x l hh=>rw[au (x:=x) (fun i hi=>h i (.inl (.inl hi))),gG (x:=l) (fun i hi=>h i (.inl (.inr hi))),gG (x:=hh) (fun i hi=>h i (.inr hi))]
 case sliceS x l hh=>rw[au (x:=x) (fun i hi=>h i (.inl (.inl hi))),gG (x:=l) (fun i hi=>h i (.inl (.inr hi))),gG (x:=hh) (fun i hi=>h i (.inr hi))]
 case clo f fs cs=>rw[gF (xs:=fs) (fun i hi=>h i (.inl hi)),gF (xs:=cs) (fun i hi=>h i (.inr hi))]
 all_goals
  rename_i x y
  rw[au (x:=x) (fun i hi=>h i (.inl hi)),au (x:=y) (fun i hi=>h i (.inr hi))]
def AV.name:AV->List Nat
 | .ptr r _=>[r]
 | .row r _ _ _=>[r]
 | .olist r _ _=>[r]
 | _=>[]
def XOp.reads (E:Nat->AV):XOp->List Nat
 | .ucast _ _ _ x | .apps _ _ x _ | .ustr _ x _ | .same x=>(x.ev E).name
 | .noesc _ | .peq _ _ _ | .sdata _ | .ofStr _ | .inil _ _ _ | .idxb _ _=>[]
def MOp.reads (E:Nat->AV):MOp->List Nat
 | .load _ _ x | .toStr x=>(x.ev E).name
 | .store _ x _=>(x.ev E).name
 | .append _ _ _ _ x y=>(x.ev E).name++(y.ev E).name
 | .xop o=>o.reads E
 | _=>[]
theorem gI {σ σ':ap}{sz:Nat}{y:AV}(h:∀ r∈y.name,σ r=σ' r):aZ σ sz y=aZ σ' sz y:=by
 cases y with
 | row r s off len=>simp only[aZ,h r (by simp[AV.name])]
 | pv p=>cases p<;>rfl
 | _=>rfl
theorem XOp.reads_congr {E E':Nat->AV}{o:XOp}(h:∀ i∈o.slots,E i=E' i):o.reads E=o.reads E':=by
 cases o<;>simp only[XOp.slots,XOp.reads,List.mem_append] at h ⊢
 case ucast u n b x=>rw[au h]
 case same x=>rw[au h]
 case apps e b x y=>rw[au (x:=x) (fun i hi=>h i (.inl hi))]
 case ustr e x y=>rw[au (x:=x) (fun i hi=>h i (.inl hi))]
theorem XOp.run_congr {new:Nat}{E E':Nat->AV}{σ σ':ap}{o:XOp}(h:∀ i∈o.slots,E i=E' i)(hr:∀ r∈o.reads E,σ r=σ' r):o.run new E σ=o.run new E' σ':=by
 cases o<;>simp only[XOp.run,XOp.slots,XOp.reads,List.mem_append] at h hr ⊢
 case noesc x=>rw[au h]
 case same x=>
  rw[<- au (x:=x) h]
  cases hx:x.ev E with
  | olist r s l=>
    cases l with
    | nil=>rfl
    | cons y l=>simp only[AY];rw[hr r (by simp[hx,AV.name])]
  | _=>rfl
 case peq ng x y=>rw[<- au (x:=x) (fun i hi=>h i (.inl hi)),<- au (x:=y) (fun i hi=>h i (.inr hi))]
 case sdata x=>rw[au h]
 case ofStr x=>rw[au h]
 case inil ng x y=>rw[<- au (x:=x) (fun i hi=>h i (.inl hi)),<- au (x:=y) (fun i hi=>h i (.inr hi))]
 case idxb x y=>rw[<- au (x:=x) (fun i hi=>h i (.inl hi)),<- au (x:=y) (fun i hi=>h i (.inr hi))]
 case ucast u n b x=>
  rw[<- au (x:=x) h]
  congr 1
  cases hx:x.ev E with
  | ptr r o=>simp only[e5];rw[hr r (by simp[hx,AV.name])]
  | _=>rfl
 case apps e b x y=>
  rw[<- au (x:=x) (fun i hi=>h i (.inl hi)),<- au (x:=y) (fun i hi=>h i (.inr hi))]
  have key:∀ ys,JF e 1 b new σ (x.ev E) ys=JF e 1 b new σ' (x.ev E) ys:=by
   intro ys
   cases hx:x.ev E with
   | row r s off len=>simp only[JF];rw[hr r (by simp[hx,AV.name])]
   | pv p=>cases p<;>rfl
   | _=>rfl
  cases y.ev E with
  | pv q=>cases q<;>first | rfl | exact key _
  | _=>rfl
 case ustr e x y=>
  rw[<- au (x:=x) (fun i hi=>h i (.inl hi)),<- au (x:=y) (fun i hi=>h i (.inr hi))]
  cases hx:x.ev E with
  | ptr r o=>
    cases y.ev E with
    | pv p=>
      cases p with
      | int k n=>cases k<;>simp only[oz];rw[hr r (by simp[hx,AV.name])]
      | _=>rfl
    | _=>rfl
  | pv p=>
    cases y.ev E with
    | pv q=>
      cases p with
      | nilp=>
        cases q with
        | int k n=>cases k<;>rfl
        | _=>rfl
      | _=>rfl
    | _=>cases p<;>rfl
  | _=>rfl
theorem MOp.run_congr {G:Nat->List PV}{new:Nat}{E E':Nat->AV}{σ σ':ap}{o:MOp}(h:∀ i∈o.slots,E i=E' i)(hr:∀ r∈o.reads E,σ r=σ' r):o.run G new E σ=o.run G new E' σ':=by
 cases o<;>simp only[MOp.run,MOp.slots,MOp.reads,List.mem_append] at h hr ⊢
 case box T x=>rw[au h]
 case xop o=>exact XOp.run_congr h hr
 case cbox T x=>rw[au h]
 case load g sz x=>
  rw[<- au (x:=x) h]
  congr 1
  cases hx:x.ev E with
  | ptr r o=>simp only[ef];rw[hr r (by simp[hx,AV.name])]
  | pv p=>cases p<;>rfl
  | _=>rfl
 case store sz x v=>
  rw[<- au (x:=x) (fun i hi=>h i (.inl hi)),<- au (x:=v) (fun i hi=>h i (.inr hi))]
  congr 1
  cases hx:x.ev E with
  | ptr r o=>simp only[gq];rw[hr r (by simp[hx,AV.name])]
  | _=>rfl
 case toStr x=>
  rw[<- au (x:=x) h]
  unfold eG
  rw[gI (fun r hrr=>hr r hrr)]
 case bslice mu e sz len xs=>rw[gF h]
 case append mu e sz by_ x y=>
  rw[<- au (x:=x) (fun i hi=>h i (.inl hi)),<- au (x:=y) (fun i hi=>h i (.inr hi))]
  unfold dx
  rw[gI (fun r hrr=>hr r (.inr hrr))]
  cases aZ σ' sz (y.ev E) with
  | none=>rfl
  | some ys=>
    simp only
    cases hx:x.ev E with
    | olist r s l=>cases mu<;>simp only[hr r (.inl (by simp[hx,AV.name]))]
    | row r s off len=>cases mu<;>simp only[hr r (.inl (by simp[hx,AV.name]))]
    | pv p=>cases p<;>cases mu<;>rfl
    | _=>cases mu<;>rfl
 case mk mu e sz by_ zs x y=>rw[<- au (x:=x) (fun i hi=>h i (.inl hi)),<- au (x:=y) (fun i hi=>h i (.inr hi))]
def AOp.slots:AOp->List Nat
 | .t o=>o.slots
 | .m o=>o.slots
 | .call f xs=>f.slots++xs.flatMap AX.slots
 | .fz _ x=>x.slots
def AOper.slots (o:AOper):List Nat:=
 (match o.guard with
  | some (i,_)=>[i]
  | none=>[])++o.op.slots
def aN (o:Oper):List Nat:=(o.after.toList.filter (Region.binds .any)).map (·.on)
def TM (x:Nat)(d:List Nat):List Nat:=match d.contains x with
 | true=>d
 | false=>x::d
def Jr:List Nat->List Nat
 | []=>[]
 | x::r=>TM x (Jr r)
theorem jo {x:Nat}:∀ {l:List Nat},x∈Jr l↔x∈l
 | []=>by simp[Jr]
 | y::r=>by
   simp only[Jr,TM]
   split
   ·rename_i h
    rw[jo,List.mem_cons]
    refine⟨.inr,fun h'=>h'.elim (fun e=>?_) id⟩
    subst e
    exact jo.1 (by simpa using h)
   ·rw[List.mem_cons,List.mem_cons,jo]
def aO:List (List Nat)->List (List Nat)->List (List Nat)
 | [],acc=>acc
 | d::r,acc=>aO r (acc++[Jr (d++d.flatMap fun j=>acc.getD j [])])
def EL (A:List (List Nat))(i j:Nat):Bool:=
 if i<j then (A.getD j []).contains i else (A.getD i []).contains j
def OU (a b:List Nat):Bool:=a.any fun x=>b.contains x
def okB (A:List (List Nat))(l:List (List Nat×List Nat)):Bool:=
 (l.zipIdx).all fun p=>(l.zipIdx).all fun q=>p.2 == q.2||!(OU p.1.1 (q.1.2++q.1.1))||EL A p.2 q.2
def jP (ops:List AOper):List (List Nat×List Nat):=ops.map fun o=>(o.dst.toList,o.slots)
def Dv (ops:List Oper)(aops:List AOper)(k:Nat):Bool:=
 let ds:=ops.map aN
 okB (aO ds []) (jP (aops.take k))&&((ds.zipIdx).all fun p=>p.1.all fun j=>decide (j<p.2)) &&
  (List.range ops.length).all fun i=>decide (i<k)||(List.range i).all fun j=>((aO ds []).getD i []).contains j
def CI (A:List (List Nat)):Nat->Nat
 | 0=>0
 | n+1=>if (List.range n).all (fun j=>(A.getD n []).contains j)=true then CI A n else n+1
def lE (md:Region.Mode)(ops:Array Oper):List (List Nat):=ops.toList.map fun o=>(o.after.toList.filter (Region.binds md)).map (·.on)
def Q0 (x:Nat):List Nat->Nat
 | []=>0
 | y::r=>if y=x then 0 else Q0 x r+1
def Gw:List (Nat×List Nat)->List Nat->List (Nat×List Nat)×List Nat
 | [],d=>([],d)
 | p::r,d=>if p.2.all (fun j=>d.contains j)=true then Gw r (d++[p.1]) else ((p::(Gw r d).1),(Gw r d).2)
def J7:Nat->List (Nat×List Nat)->List Nat->List Nat
 | 0,_,d=>d
 | n+1,ps,d=>match Gw ps d with
   | ([],d')=>d'
   | (q,d')=>J7 n q d'
def tl (md:Region.Mode)(ops:Array Oper):Bool:=
 let ps:=(lE md ops).zipIdx.map fun p=>(p.2,p.1)
 let L:=J7 ps.length ps []
 ps.all fun p=>p.2.all fun j=>decide (j<ps.length)&&decide (Q0 j L<Q0 p.1 L)
def rH (ops:Array Oper):Bool:=!(Region.departs ops)||(tl .text ops&&tl .gc ops)
def P9 (P:Program)(G:Nat->List PV)(args:List AV)(K:PV->Prop)(p:Nat×List AV×List AV):Prop:=
 ∃ ps r,pvs (p.2.1++args++p.2.2)=some ps/\ag P G p.1 ps r/\K r
def eU (mk:Nat)(ks rs:List Nat):List Nat×List Nat:=((if mk=2 then [0] else [])++ks.map (· + 1),(if mk=1 then [0] else [])++rs.map (· + 1))
def bq (o:MOp):Nat:=if o.makes=true then 1 else 0
def mz (P:Program)(G:Nat->List PV)(F:List (List Nat×List Nat)->St->Prop)(T:List (List Nat×List Nat))(s:St)(d:Option Nat)(args:List AV)(p:Nat×List AV×List AV):Prop:=
 P9 P G args (fun r=>F (T++[([],[])]) (s.put d (.pv r))) p \/
 ∃ v δ top,bU P G p.1 (p.2.1++args++p.2.2) s.sto s.next (fun v' sto' n'=>v'=v/\sto'=mG s.sto δ/\n'=top)/\s.next<=top/\F (T++[eU 2 (aR δ) (s.sto.map (·.1))]) ((⟨s.env,mG s.sto δ,top⟩:St).put d v)
def Ak (F:List (List Nat×List Nat)->St->Prop)(T:List (List Nat×List Nat))(s:St)(d:Option Nat)(v:AV):Prop:=F (T++[([],[])]) (s.put d v)
def stepM (F:List (List Nat×List Nat)->St->Prop)(T:List (List Nat×List Nat))(s:St)(d:Option Nat)(mk:Nat)(rd:List Nat)(p:AV×List (Nat×Blk)):Prop:=F (T++[eU mk (aR p.2) rd]) ((s.mem p.2).put d p.1)
def gJ (P:Program)(G:Nat->List PV)(F:List (List Nat×List Nat)->St->Prop)(T:List (List Nat×List Nat))(s:St)(d:Option Nat):AOp->Prop
 | .t o=>aJ (o.run s.E) (Ak F T s d)
 | .m o=>aJ (o.run G s.next s.E s.σ) (stepM F T s d (bq o) (o.reads s.E))
 | .call f xs=>aJ (df (f.ev s.E)) (mz P G F T s d (xs.map (·.ev s.E)))
 | .fz _ _=>False
def pH (P:Program)(G:Nat->List PV)(F:List (List Nat×List Nat)->St->Prop)(T:List (List Nat×List Nat))(s:St)(d:Option Nat)(o:AOp)(b:Bool):Prop:=
 match b with
 | true=>gJ P G F T s d o
 | false=>F (T++[([],[])]) (s.put d (.pv .undef))
def vcD (P:Program)(G:Nat->List PV)(A:List (List Nat))(F:St->Prop):List AOper->List (List Nat×List Nat)->St->Prop
 | [],T,s=>okB A T=true/\F s
 | o::r,T,s=>aJ (bI s o.guard) (pH P G (vcD P G A F r) T s o.dst o.op)
structure Ent where
 dst:Option Nat
 v:AV
 δ:List (Nat×Blk)
 reads:List Nat
 isM:Bool
 new:Nat
 top:Nat
 kd:Nat
def Ent.env (e:Ent):List (Nat×AV):=
 match e.dst with
 | some d=>[(d,e.v)]
 | none=>[]
def nO (P:Program)(G:Nat->List PV)(E:Nat->AV)(σ:ap)(wt:Option Bool)(op:AOp)(e:Ent):Prop:=
 (wt=some false/\e.v = .pv .undef/\e.δ=[]/\e.reads=[]/\e.isM=false/\e.kd=0) \/
 (wt=some true/\match op with
  | .t o=>o.run E=some e.v/\e.δ=[]/\e.reads=[]/\e.isM=false/\e.kd=0
  | .m o=>o.run G e.new E σ=some (e.v,e.δ)/\e.reads=o.reads E/\e.isM=true/\e.top=e.new+1/\e.kd=bq o
  | .call f xs=>∃ p,df (f.ev E)=some p /\
    ((∃ ps r,pvs (p.2.1++xs.map (·.ev E)++p.2.2)=some ps/\ag P G p.1 ps r/\e.v = .pv r/\e.δ=[]/\e.reads=[]/\e.isM=false/\e.kd=0) \/
     (∃ sto,(fun r=>lookB r sto)=σ/\bU P G p.1 (p.2.1++xs.map (·.ev E)++p.2.2) sto e.new (fun v' sto' n'=>v'=e.v/\(fun r=>lookB r sto')=σ.upd e.δ/\n'=e.top)/\e.new<=e.top/\e.isM=true/\e.kd=2/\∀ r,σ r≠.none->r∈e.reads))
  | .fz _ _=>False)
def gy (s:St)(e:Ent):St:=if e.isM=true then (⟨s.env,mG s.sto e.δ,e.top⟩:St).put e.dst e.v else s.put e.dst e.v
def Tr (P:Program)(G:Nat->List PV):List AOper->St->List Ent->St->Prop
 | [],s,[],s'=>s'=s
 | o::r,s,e::T,s'=>e.dst=o.dst/\e.new=s.next/\nO P G s.E s.σ (bI s o.guard) o.op e/\Tr P G r (gy s e) T s'
 | _,_,_,_=>False
theorem pl {r:Nat}:∀ {l:List (Nat×Blk)},lookB r l≠.none->r∈l.map (·.1)
 | [],h=>by simp[lookB] at h
 | p::q,h=>by
   simp only[lookB] at h
   by_cases hp:p.1=r
   ·simp[hp]
   ·rw[if_neg hp] at h
    have:=pl h
    simp only[List.map_cons,List.mem_cons];exact .inr this
theorem lF {P:Program}{G:Nat->List PV}{A:List (List Nat)}{F:St->Prop}:∀ (ops:List AOper) (T0:List (List Nat×List Nat)) (s:St),vcD P G A F ops T0 s ->
  ∃ T s',Tr P G ops s T s'/\okB A (T0++T.map fun e=>eU e.kd (aR e.δ) e.reads)=true/\F s'
 | [],T0,s,h=>⟨[],s,rfl,by simpa using h.1,h.2⟩
 | o::r,T0,s,h=>by
   simp only[vcD,aJ] at h
   split at h
   ·rename_i b hb
    cases b with
    | false=>
      simp only[pH] at h
      obtain⟨T,s',h1,h2,h3⟩:=lF r _ _ h
      exact⟨⟨o.dst,.pv .undef,[],[],false,s.next,s.next,0⟩::T,s',⟨rfl,rfl,.inl ⟨hb,rfl,rfl,rfl,rfl,rfl⟩,h1⟩,by simpa[aR,eU] using h2,h3⟩
    | true=>
      simp only[pH] at h
      cases hop:o.op with
      | t op=>
        rw[hop] at h
        simp only[gJ,aJ] at h
        split at h
        ·rename_i v hv
         obtain⟨T,s',h1,h2,h3⟩:=lF r _ _ h
         exact⟨⟨o.dst,v,[],[],false,s.next,s.next,0⟩::T,s',⟨rfl,rfl,.inr ⟨hb,by rw[hop];exact⟨hv,rfl,rfl,rfl,rfl⟩⟩,h1⟩,by simpa[aR,eU] using h2,h3⟩
        ·exact h.elim
      | m op=>
        rw[hop] at h
        simp only[gJ,aJ] at h
        split at h
        ·rename_i p hp
         obtain⟨T,s',h1,h2,h3⟩:=lF r _ _ h
         exact⟨⟨o.dst,p.1,p.2,op.reads s.E,true,s.next,s.next+1,bq op⟩::T,s',⟨rfl,rfl,.inr ⟨hb,by rw[hop];exact⟨hp,rfl,rfl,rfl,rfl⟩⟩,h1⟩,by simpa using h2,h3⟩
        ·exact h.elim
      | call f xs=>
        rw[hop] at h
        simp only[gJ,aJ] at h
        split at h
        ·rename_i p hp
         rcases h with ⟨ps,q,hps,hP,hk⟩ | ⟨v,δ,top,hT,htop,hk⟩
         ·obtain⟨T,s',h1,h2,h3⟩:=lF r _ _ hk
          exact⟨⟨o.dst,.pv q,[],[],false,s.next,s.next,0⟩::T,s',⟨rfl,rfl,.inr ⟨hb,by rw[hop];exact⟨p,hp,.inl ⟨ps,q,hps,hP,rfl,rfl,rfl,rfl,rfl⟩⟩⟩,h1⟩,by simpa[aR,eU] using h2,h3⟩
         ·obtain⟨T,s',h1,h2,h3⟩:=lF r _ _ hk
          refine⟨⟨o.dst,v,δ,s.sto.map (·.1),true,s.next,top,2⟩::T,s',⟨rfl,rfl,.inr ⟨hb,by
           rw[hop]
           refine⟨p,hp,.inr ⟨s.sto,rfl,?_,htop,rfl,rfl,fun r hr=>pl hr⟩⟩
           obtain⟨t1,t2⟩:=hT
           refine⟨t1,fun κ vals a1 a2 a3 a4=>(t2 κ vals a1 a2 a3 a4).mono ?_⟩
           rintro e w' ⟨u,v',κ',sto',next',b1,b2,b3,b4,b5,b6,b7,rfl,rfl,rfl⟩
           exact⟨u,_,κ',_,_,b1,b2,b3,b4,b5,b6,b7,rfl,by funext r;exact gz δ s.sto r,rfl⟩⟩,h1⟩,by simpa using h2,h3⟩
        ·exact h.elim
      | fz g x=>
        rw[hop] at h
        exact h.elim
   ·exact h.elim
theorem OC (s:St)(d:Option Nat)(v:AV):(s.put d v).E=lz s.E (match d with | some d=>[(d,v)] | none=>[]):=by
 cases d with
 | none=>rfl
 | some d=>
   funext i
   simp only[St.put,St.E,look,lz]
   by_cases h:i=d
   ·simp[h]
   ·rw[if_neg (fun e=>h e.symm),if_neg h]
theorem d7 (σ:ap)(δ:List (Nat×Blk)):ap.upd σ δ=lz σ δ:=by
 induction δ generalizing σ with
 | nil=>rfl
 | cons p q ih=>rw[ap.upd,lz,ih];rfl
theorem tF (s:St)(e:Ent):(gy s e).E=lz s.E e.env:=by
 unfold gy Ent.env
 split
 ·rw[OC];rfl
 ·rw[OC]
theorem BX (s:St)(δ:List (Nat×Blk))(n:Nat):(⟨s.env,mG s.sto δ,n⟩:St).σ=ap.upd s.σ δ:=by
 funext r;exact gz δ s.sto r
theorem tE (s:St)(e:Ent)(h:e.isM=false->e.δ=[]):(gy s e).σ=lz s.σ e.δ:=by
 have hp:∀ (s:St) (d:Option Nat) (v:AV),(s.put d v).σ=s.σ:=by intro s d v;cases d<;>rfl
 unfold gy
 split
 ·rw[hp]
  rw[BX,d7]
 ·rename_i hm
  rw[hp,h (by simpa using hm)];rfl
theorem nO.noM {P:Program}{G:Nat->List PV}{E:Nat->AV}{σ:ap}{wt:Option Bool}{op:AOp}{e:Ent}(h:nO P G E σ wt op e):e.isM=false->e.δ=[]:=by
 intro hm
 rcases h with ⟨_,_,h,_⟩ | ⟨_,h⟩
 ·exact h
 ·cases op with
  | t o=>exact h.2.1
  | m o=>rw[h.2.2.1] at hm;cases hm
  | call f xs=>
    obtain⟨p,_,⟨ps,r,_,_,_,h,_⟩ | ⟨sto,_,_,_,h,_⟩⟩:=h
    ·exact h
    ·rw[hm] at h;cases h
  | fz g x=>exact h.elim
theorem nO.tops {P:Program}{G:Nat->List PV}{E:Nat->AV}{σ:ap}{wt:Option Bool}{op:AOp}{e:Ent}(h:nO P G E σ wt op e):(e.isM=true->e.new<=e.top)/\(e.kd≠0->e.isM=true)/\(e.kd=1->e.top=e.new+1):=by
 rcases h with ⟨_,_,_,_,h1,h2⟩ | ⟨_,h⟩
 ·exact⟨fun h=>(by rw[h1] at h;cases h),fun h=>absurd h2 h,fun h=>(by rw[h2] at h;cases h)⟩
 ·cases op with
  | t o=>
    obtain⟨_,_,_,h1,h2⟩:=h
    exact⟨fun h=>(by rw[h1] at h;cases h),fun h=>absurd h2 h,fun h=>(by rw[h2] at h;cases h)⟩
  | m o=>
    obtain⟨_,_,h1,h2,_⟩:=h
    exact⟨fun _=>by omega,fun _=>h1,fun _=>h2⟩
  | call f xs=>
    obtain⟨p,_,⟨ps,r,_,_,_,_,_,h1,h2⟩ | ⟨sto,_,_,h0,h1,h2,_⟩⟩:=h
    ·exact⟨fun h=>(by rw[h1] at h;cases h),fun h=>absurd h2 h,fun h=>(by rw[h2] at h;cases h)⟩
    ·exact⟨fun _=>h0,fun _=>h1,fun h=>(by rw[h2] at h;cases h)⟩
  | fz g x=>exact h.elim
theorem QE {P:Program}{G:Nat->List PV}:∀ (ops:List AOper) (s:St) (T:List Ent) (s':St),Tr P G ops s T s' ->
  ops.length=T.length/\s'.E=bD (fun _=>true) (T.map Ent.env) 0 s.E/\s'.σ=bD (fun _=>true) (T.map (·.δ)) 0 s.σ/\s.next<=s'.next /\
  (∀ (i:Nat) (e:Ent),T[i]? = some e->e.isM=true->s.next<=e.new/\e.top<=s'.next) /\
  (∀ (i j:Nat) (e e':Ent),i<j->T[i]? = some e->T[j]? = some e'->e.isM=true->e'.isM=true->e.top<=e'.new) /\
  ∀ (i:Nat) (e:Ent),T[i]? = some e->∃ o,ops[i]? = some o/\e.dst=o.dst/\∃ si:St,si.E=bD (fun j=>decide (j<i)) (T.map Ent.env) 0 s.E/\si.σ=bD (fun j=>decide (j<i)) (T.map (·.δ)) 0 s.σ /\
    nO P G si.E si.σ (bI si o.guard) o.op e
 | [],s,[],s',h=>by
   have h:s'=s:=h
   subst h
   exact⟨rfl,rfl,rfl,Nat.le_refl _,by simp,by simp,by simp⟩
 | o::r,s,e::T,s',h=>by
   obtain⟨hd,hn,hst,hr⟩:=h
   obtain⟨h1,h2,h3,h4,h5,h6,h7⟩:=QE r (gy s e) T s' hr
   have hnx:(gy s e).next=if e.isM=true then e.top else s.next:=by
    have hp:∀ (s:St) (d:Option Nat) (v:AV),(s.put d v).next=s.next:=by intro s d v;cases d<;>rfl
    unfold gy
    split
    ·rw[hp]
    ·rw[hp]
   have htp:=hst.tops.1
   have hle:s.next<=(gy s e).next:=by
    rw[hnx]
    split
    ·have:=htp ‹_›;omega
    ·exact Nat.le_refl _
   have shift:∀ {β:Type} (S:Nat->Bool) (W:List (List (Nat×β))) (k:Nat) (g:Nat->β),bD (fun j=>S (j+1)) W k g=bD S W (k+1) g:=by
    intro β S W
    induction W with
    | nil=>intros;rfl
    | cons a b ih=>intro k g;simp only[bD];exact ih (k+1) _
   refine⟨by simp[h1],?_,?_,by omega,?_,?_,?_⟩
   ·rw[h2,tF]
    simp only[List.map_cons,bD,if_true]
    rw[<- shift]
   ·rw[h3,tE s e hst.noM]
    simp only[List.map_cons,bD,if_true]
    rw[<- shift]
   ·intro i e' hi hm
    cases i with
    | zero=>
      simp only[List.getElem?_cons_zero,Option.some.injEq] at hi
      subst hi
      rw[if_pos hm] at hnx
      omega
    | succ i=>
      have:=h5 i e' (by simpa using hi) hm
      omega
   ·intro i j e1 e2 hij hi hj hm1 hm2
    cases j with
    | zero=>omega
    | succ j=>
      cases i with
      | zero=>
        simp only[List.getElem?_cons_zero,Option.some.injEq] at hi
        subst hi
        have:=(h5 j e2 (by simpa using hj) hm2).1
        rw[if_pos hm1] at hnx
        omega
      | succ i=>exact h6 i j e1 e2 (by omega) (by simpa using hi) (by simpa using hj) hm1 hm2
   ·intro i e' hi
    cases i with
    | zero=>
      simp only[List.getElem?_cons_zero,Option.some.injEq] at hi
      subst hi
      have hno:∀ {β:Type} (W:List (List (Nat×β))) (k:Nat) (g:Nat->β),bD (fun j=>decide (j<0)) W k g=g:=by
       intro β W
       induction W with
       | nil=>intros;rfl
       | cons a b ih=>intro k g;rw[bD];simpa using ih (k+1) g
      exact⟨o,rfl,hd,s,(hno _ _ _).symm,(hno _ _ _).symm,hst⟩
    | succ i=>
      obtain⟨o',ho',hd',si,k1,k2,k3⟩:=h7 i e' (by simpa using hi)
      refine⟨o',by simpa using ho',hd',si,?_,?_,k3⟩
      ·rw[k1,tF]
       simp only[List.map_cons,bD,Nat.zero_lt_succ,decide_true,if_true]
       rw[<- shift]
       simp
      ·rw[k2,tE s e hst.noM]
       simp only[List.map_cons,bD,Nat.zero_lt_succ,decide_true,if_true]
       rw[<- shift]
       simp
 | [],s,e::T,s',h=>h.elim
 | o::r,s,[],s',h=>h.elim
theorem lV {A:List (List Nat)}{L:List (List Nat×List Nat)}(h:okB A L=true){i j x:Nat}{p q:List Nat×List Nat}(hj:L[j]? = some p)(hi:L[i]? = some q)(hne:j≠i)(hx:x∈p.1)(hy:x∈q.2\/x∈q.1):EL A j i=true:=by
 have h1:=(List.all_eq_true.1 h) (p,j) (List.mem_of_getElem? (i:=j) (by simp[List.getElem?_zipIdx,hj]))
 have h2:=(List.all_eq_true.1 h1) (q,i) (List.mem_of_getElem? (i:=i) (by simp[List.getElem?_zipIdx,hi]))
 simp only[Bool.or_eq_true,beq_iff_eq,Bool.not_eq_true'] at h2
 rcases h2 with (h2 | h2) | h2
 ·exact absurd h2 hne
 ·exfalso
  have:OU p.1 (q.2++q.1)=true:=by
   refine List.any_eq_true.2 ⟨x,hx,?_⟩
   simp only[List.contains_eq_mem,decide_eq_true_eq,List.mem_append]
   exact hy
  rw[this] at h2;cases h2
 ·exact h2
theorem fA {S:Nat->Bool}:∀ (ds acc:List (List Nat)) (k:Nat),acc.length=k->(∀ i d,ds[i]? = some d->S (k+i)=true->∀ j∈d,S j=true) ->
  (∀ i a,acc[i]? = some a->S i=true->∀ j∈a,S j=true)->(∀ i a,acc[i]? = some a->i<k) ->
  (∀ i a,(aO ds acc)[i]? = some a->S i=true->∀ j∈a,S j=true) /\
  ∀ i d,ds[i]? = some d->(∀ j∈d,S j=true)->∀ a,(aO ds acc)[k+i]? = some a->∀ j∈a,S j=true
 | [],acc,k,hk,_,h2,_=>⟨h2,by simp⟩
 | d::r,acc,k,hk,h1,h2,h3=>by
   have hrow:(∀ j∈d,S j=true)->∀ j∈Jr (d++d.flatMap fun j=>acc.getD j []),S j=true:=by
    intro hd j hj
    rw[jo] at hj
    rcases List.mem_append.1 hj with hj | hj
    ·exact hd j hj
    ·obtain⟨m,hm,hj⟩:=List.mem_flatMap.1 hj
     cases ha:acc[m]? with
     | none=>rw[List.getD_eq_getElem?_getD,ha] at hj;simp at hj
     | some a=>rw[List.getD_eq_getElem?_getD,ha] at hj;exact h2 m a ha (hd m hm) j hj
   have hacc:∀ i a,(acc++[Jr (d++d.flatMap fun j=>acc.getD j [])])[i]? = some a->S i=true->∀ j∈a,S j=true:=by
    intro i a ha hS
    by_cases hi:i<k
    ·rw[List.getElem?_append_left (by omega)] at ha
     exact h2 i a ha hS
    ·rw[List.getElem?_append_right (by omega)] at ha
     have hik:i=k:=by
      have:=(List.getElem?_eq_some_iff.1 ha).1
      simp at this;omega
     subst hik
     rw[hk] at ha
     simp only[Nat.sub_self,List.getElem?_cons_zero,Option.some.injEq] at ha
     subst ha
     exact hrow (h1 0 d rfl (by simpa using hS))
   obtain⟨k1,k2⟩:=fA r (acc++[Jr (d++d.flatMap fun j=>acc.getD j [])]) (k+1) (by simp[hk]) (fun i e he hS=>h1 (i+1) e (by simpa using he) (by rw[show k+(i+1)=k+1+i by omega];exact hS)) hacc
    (fun i a ha=>by have:=(List.getElem?_eq_some_iff.1 ha).1;simp at this;omega)
   refine⟨k1,fun i e he hd a ha=>?_⟩
   have keep:∀ (ds acc:List (List Nat)) (i:Nat),i<acc.length->(aO ds acc)[i]? = acc[i]?:=by
    intro ds
    induction ds with
    | nil=>intros;rfl
    | cons d r ih=>
      intro acc i hi
      rw[aO,ih _ i (by simp;omega),List.getElem?_append_left hi]
   cases i with
   | zero=>
     simp only[List.getElem?_cons_zero,Option.some.injEq] at he
     subst he
     rw[aO,Nat.add_zero,keep _ _ _ (by simp;omega),List.getElem?_append_right (by omega),hk] at ha
     simp only[Nat.sub_self,List.getElem?_cons_zero,Option.some.injEq] at ha
     subst ha
     exact hrow hd
   | succ i=>
     rw[aO,show k+(i+1)=k+1+i by omega] at ha
     exact k2 i e (by simpa using he) hd a ha
theorem fB:∀ (ds acc:List (List Nat)),(aO ds acc).length=acc.length+ds.length
 | [],acc=>by simp[aO]
 | d::r,acc=>by rw[aO,fB];simp;omega
section
variable {P:Program}{c:Ctx}{κ0:Kap}{N:Nat}{ro:Option Nat}{nf:Nat}
theorem sA {muts:List Nat}{ops:Array Oper}:∀ (l:List Oper) (aops:List AOper),EO P muts N ops l=some aops->l.length=aops.length/\∀ (i:Nat) (o:Oper),l[i]? = some o->∃ ao,aops[i]? = some ao/\x9 P muts N ops o=some ao
 | [],aops,h=>by simp[EO] at h;subst h;simp
 | o::r,aops,h=>by
   simp only[EO] at h
   split at h
   ·rename_i a b ha hb
    cases h
    obtain⟨h1,h2⟩:=sA r b hb
    refine⟨by simp[h1],fun i o' hi=>?_⟩
    cases i with
    | zero=>simp only[List.getElem?_cons_zero,Option.some.injEq] at hi;subst hi;exact⟨a,rfl,ha⟩
    | succ i=>exact h2 i o' (by simpa using hi)
   ·cases h
structure Mid (c:Ctx)(κ0:Kap)(N:Nat)(s:St)(T:List Ent)(S:Nat->Bool)(a:Act)(w:World)(κ:Kap):Prop where
 w_eq:κ.w=w
 ext0:Ext κ0 κ
 rel:SRel c κ (bD S (T.map (·.δ)) 0 s.σ)
 left:Left c κ0.imm κ
 env:∀ x,ARel κ (bD S (T.map Ent.env) 0 s.E x) (a.tmps.getD x Go.undef)
 size:a.tmps.size=N
 defers:dh c κ a.defers
 fresh:∀ r,s.next<=r->κ.nm r≠none->∃ j e,S j=true/\T[j]? = some e/\((e.kd=1/\e.new=r)\/(e.kd=2/\r<e.top))
theorem nA {e:Ent}{x:Nat}:x∈aR e.env↔e.dst=some x:=by
 unfold Ent.env aR
 cases e.dst with
 | none=>simp
 | some d=>simp[eq_comm]
theorem G6 {muts:List Nat}{ops:Array Oper}{o:Oper}{ao:AOper}{s si:St}{T:List Ent}{S S':Nat->Bool}{a:Act}{w:World}{κ:Kap}{e:Ent}{i:Nat}{K:Act->World->Prop}{Q:Exit->Act->World->Prop}
  (hc:x9 P muts N ops o=some ao) (hM:Mid c κ0 N s T S a w κ) (hi:T[i]? = some e) (hSi:S i=false) (hS':S' i=true) (hSS:∀ j,j≠i->S' j=S j) (hdst:e.dst=ao.dst)
  (hstep:nO P c.G si.E si.σ (bI si ao.guard) ao.op e)
  (hE:∀ x∈ao.slots,bD S (T.map Ent.env) 0 s.E x=si.E x) (hσ:∀ r∈e.reads,bD S (T.map (·.δ)) 0 s.σ r=si.σ r)
  (hoE:∀ j v r,j≠i->(T.map Ent.env)[j]? = some v->r∈aR v->r∈aR e.env->i<j->S j=false) (hoσ:∀ j v r,j≠i->(T.map (·.δ))[j]? = some v->r∈aR v->r∈aR e.δ->i<j->S j=false)
  (hnew:e.isM=true->s.next<=e.new) (hnone:e.kd≠0->∀ r,(e.kd=1->r=e.new)->e.new<=r->∀ j e',S j=true->T[j]? = some e'->¬ ((e'.kd=1/\e'.new=r)\/(e'.kd=2/\r<e'.top)))
  (hK:∀ a w κ,Mid c κ0 N s T S' a w κ->K a w) :
  if Region.wanted o (yielded ops a.tmps)=true then o.wpIn (FR ro) nf P a w K Q else K (a.put o.dst Go.undef) w:=by
 have hw:=hM.w_eq
 subst hw
 unfold x9 at hc
 split at hc
 ·rename_i g op hg hop
  split at hc
  ·rename_i hd
   cases hc
   simp only at hstep hdst
   let sS:St:=⟨[],[],0⟩
   have hEenv:bD S' (T.map Ent.env) 0 s.E=lz (bD S (T.map Ent.env) 0 s.E) e.env:=p7 (by simp[hi]) hS' hSS hoE
   have hσenv:bD S' (T.map (·.δ)) 0 s.σ=lz (bD S (T.map (·.δ)) 0 s.σ) e.δ:=p7 (by simp[hi]) hS' hSS hoσ
   have put':∀ (κ':Kap) (u:Value),(∀ x,ARel κ' (bD S (T.map Ent.env) 0 s.E x) (a.tmps.getD x Go.undef))->ARel κ' e.v u ->
     (∀ x,ARel κ' (bD S' (T.map Ent.env) 0 s.E x) ((a.put o.dst u).tmps.getD x Go.undef))/\(a.put o.dst u).tmps.size=N/\(a.put o.dst u).defers=a.defers:=by
    intro κ' u h1 h2
    rw[hEenv]
    cases hod:o.dst with
    | none=>
      have:e.env=[]:=by unfold Ent.env;rw[hdst,hod]
      rw[this]
      exact⟨h1,hM.size,rfl⟩
    | some d=>
      have hev:e.env=[(d,e.v)]:=by unfold Ent.env;rw[hdst,hod]
      rw[hev]
      rw[hod] at hd
      simp only[xu,decide_eq_true_eq] at hd
      refine⟨fun x=>?_,by simp[Act.put,hM.size],rfl⟩
      simp only[lz,Act.put]
      by_cases hx:x=d
      ·subst hx
       rw[if_pos rfl]
       have:(a.tmps.setIfInBounds x u).getD x Go.undef=u:=by simp[Array.getD_eq_getD_getElem?,hM.size,hd]
       rw[this];exact h2
      ·rw[if_neg hx]
       have:(a.tmps.setIfInBounds d u).getD x Go.undef=a.tmps.getD x Go.undef:=by
        simp only[Array.getD_eq_getD_getElem?,Array.getElem?_setIfInBounds]
        rw[if_neg (fun h=>hx h.symm)]
       rw[this];exact h1 x
   have hguard:∀ b,bI si g=some b->Region.wanted o (yielded ops a.tmps)=b:=by
    intro b hb
    have hcg:bI ⟨(match g with | some (i,_)=>[(i,si.E i)] | none=>[]),[],0⟩ g=some b:=by
     cases g with
     | none=>exact hb
     | some p=>
       obtain⟨x,y⟩:=p
       simp only[bI,St.E,look,if_true] at hb ⊢
       exact hb
    refine eR (κ:=κ) (a:=a) hg (fun x=>?_) hcg
    cases g with
    | none=>exact .any _
    | some p=>
      obtain⟨y,z⟩:=p
      simp only[St.E,look]
      by_cases hx:y=x
      ·subst hx
       rw[if_pos rfl]
       have:=hM.env y
       rw[hE y (by simp[AOper.slots])] at this
       exact this
      ·rw[if_neg hx];exact .any _
   have fresh0:∀ r,s.next<=r->κ.nm r≠none->∃ j e,S' j=true/\T[j]? = some e/\((e.kd=1/\e.new=r)\/(e.kd=2/\r<e.top)):=by
    intro r hr hn
    obtain⟨j,e',h1,h2,h3⟩:=hM.fresh r hr hn
    have hj:j≠i:=by rintro rfl;rw[hSi] at h1;cases h1
    exact⟨j,e',by rw[hSS j hj];exact h1,h2,h3⟩
   have slotsE:∀ x∈op.slots,bD S (T.map Ent.env) 0 s.E x=si.E x:=fun x hx=>hE x (by simp[AOper.slots,hx])
   rcases hstep with ⟨hb,hv,hδ,hrd,hm,_⟩ | ⟨hb,hst⟩
   ·rw[hguard _ hb,if_neg (by simp)]
    obtain⟨p1,p2,p3⟩:=put' κ Go.undef hM.env (by rw[hv];exact .pv _ _ .undef)
    exact hK _ _ κ ⟨rfl,hM.ext0,by rw[hσenv,hδ];exact hM.rel,hM.left,p1,p2,by rw[p3];exact hM.defers,fresh0⟩
   ·rw[hguard _ hb,if_pos rfl]
    generalize hmu:TK muts o.dst=mu at hop
    rcases JC hop with ⟨g,x,rfl,hz⟩ | ⟨t,rfl,ht⟩ | ⟨m,rfl,hmm⟩ | rfl
    ·exact hst.elim
    ·replace ht:=uB ht
     obtain⟨hrun,hδ,hrd,hm,_⟩:=hst
     rw[<- TOp.run_congr (E:=bD S (T.map Ent.env) 0 s.E) (E':=si.E) (fun x hx=>slotsE x hx)] at hrun
     obtain⟨u,h1,h2⟩:=oe (P:=P) (κ:=κ) (E:=bD S (T.map Ent.env) 0 s.E) (a:=a) ht (fun x _=>hM.env x) hrun
     obtain⟨p1,p2,p3⟩:=put' κ u hM.env h2
     refine dN h1 ?_
     exact hK _ _ κ ⟨rfl,hM.ext0,by rw[hσenv,hδ];exact hM.rel,hM.left,p1,p2,by rw[p3];exact hM.defers,fresh0⟩
    ·
      obtain⟨hrun,hrd,hm,htop,hkd⟩:=hst
      have hreads:m.reads (bD S (T.map Ent.env) 0 s.E)=m.reads si.E:=by
       have hh:∀ x∈m.slots,bD S (T.map Ent.env) 0 s.E x=si.E x:=fun x hx=>slotsE x hx
       cases m<;>simp only[MOp.reads,MOp.slots,List.mem_append] at hh ⊢
       case load g sz x=>rw[au hh]
       case toStr x=>rw[au hh]
       case xop o=>exact XOp.reads_congr hh
       case store sz x v=>rw[au (x:=x) (fun i hi=>hh i (.inl hi))]
       case append mu e sz b x y=>rw[au (x:=x) (fun i hi=>hh i (.inl hi)),au (x:=y) (fun i hi=>hh i (.inr hi))]
      rw[<- MOp.run_congr (E:=bD S (T.map Ent.env) 0 s.E) (E':=si.E) (σ:=bD S (T.map (·.δ)) 0 s.σ) (σ':=si.σ) (fun x hx=>slotsE x hx) (fun r hr=>hσ r (by rw[hrd,<- hreads];exact hr))] at hrun
      have hn:m.makes=true->κ.nm e.new=none:=by
       intro hmk
       have hk1:e.kd=1:=by rw[hkd,bq,if_pos hmk]
       cases hk:κ.nm e.new with
       | none=>rfl
       | some d=>
         obtain⟨j,e',h1,h2,h3⟩:=hM.fresh e.new (hnew hm) (by rw[hk];simp)
         exact absurd h3 (hnone (by omega) e.new (fun _=>rfl) (Nat.le_refl _) j e' h1 h2)
      obtain⟨x,u,κ',h1,h2,h3,h4,h5,h6⟩:=lY (P:=P) hmm hM.rel hM.left.size hn (fun x _=>hM.env x) hrun
      obtain⟨p1,p2,p3⟩:=put' κ' u (fun x=>(hM.env x).ext h4.ext) h3
      have hMid:Mid c κ0 N s T S' (a.put o.dst u) κ'.w κ':=by
       refine⟨rfl,hM.ext0.trans h4.ext,?_,h4.left _ hM.left,p1,p2,by rw[p3];exact hM.defers.ext h4.ext,fun r hr hnn=>?_⟩
       ·rw[hσenv,<- d7];exact h5
       ·cases hmk:m.makes with
        | false=>rw[h6 hmk] at hnn;exact fresh0 r hr hnn
        | true=>
          by_cases hre:r=e.new
          ·exact⟨i,e,hS',hi,.inl ⟨by rw[hkd,bq,if_pos hmk],hre.symm⟩⟩
          ·refine fresh0 r hr fun hz=>hnn (h4.fresh r hre hz)
      rcases h2 with rfl | ⟨rfl,rfl⟩
      ·exact dN h1 (hK _ _ κ' hMid)
      ·exact tz h1 (hK _ _ κ' hMid)
    ·
      rcases pU P o.op with hb | ⟨af,xs,hce,hco⟩
      ·rw[hb] at hst;obtain⟨p,hcl,_⟩:=hst;simp[ji,AX.ev,df] at hcl
      ·rw[hce] at hst slotsE
       ·obtain⟨p,hcl,hst⟩:=hst
        have hevf:af.ev (bD S (T.map Ent.env) 0 s.E)=af.ev si.E:=au fun x hx=>slotsE x (by simp[AOp.slots,hx])
        have hevx:xs.map (·.ev (bD S (T.map Ent.env) 0 s.E))=xs.map (·.ev si.E):=gF fun x hx=>slotsE x (by simp only[AOp.slots,List.mem_append];exact .inr hx)
        rw[<- hevf] at hcl
        obtain⟨vs,us,args,hvs,hus,hv1,hu1,hxs,hrun0⟩:=uw (P:=P) (κ:=κ) (E:=bD S (T.map Ent.env) 0 s.E) (a:=a) hco (fun x=>hM.env x) hcl
        obtain⟨hxl,hxr⟩:=iK (κ:=κ) (E:=bD S (T.map Ent.env) 0 s.E) (a:=a) hxs (fun x _=>hM.env x)
        have hmid:∀ (i:Nat) (x:AV),(xs.map (·.ev (bD S (T.map Ent.env) 0 s.E)))[i]? = some x->ARel κ x ((args.map a.eval).getD i Go.undef):=by
         intro i x hx
         rw[aE];simpa using hxr i x hx
        have hall:=cg (κ:=κ) (by simp[hvs];exact hxl) (cg (κ:=κ) hvs hv1 hmid) hu1
        rcases hst with ⟨ps,r,hps,⟨hcal,hP⟩,hv,hδ,hrd,hm,_⟩ | ⟨sto,hsto,⟨hcal,hT⟩,htop,hm,hkd,hlive⟩
        rotate_left
        ·-- a call that is lent memory
         rw[<- hevx] at hT
         have hrun:=hrun0 hcal κ.w
         refine j9 hrun ?_
         have hR:=hM.rel
         have hL:=hM.left
         have hreads:∀ r,si.σ r≠.none->bD S (T.map (·.δ)) 0 s.σ r=si.σ r:=fun r hr=>hσ r (hlive r hr)
         have hzz:∀ r,si.σ r≠.none->bD S (T.map (·.δ)) 0 s.σ r≠.none:=fun r hr=>by rw[hreads r hr];exact hr
         have hS0:SRel (bP κ si.σ c.G) κ si.σ:=by
          refine⟨fun r=>?_,fun r r' d d' b h1 h2=>hR.apart r r' d d' b (hzz r h1) (hzz r' h2),fun r d b h1 h2 h3=>.inr ⟨r,d,h1,h2,h3⟩,hR.immLt,hR.glob.lend fun b ⟨r,d,h1,h2,h3⟩=>hR.mine r d b (hzz r h1) h2 h3⟩
          by_cases hr:si.σ r = .none
          ·rw[hr];trivial
          ·rw[<- hreads r hr];exact hR.blk r
         have hfr:∀ r,e.new<=r->κ.nm r=none:=by
          intro r hr
          cases hk:κ.nm r with
          | none=>rfl
          | some d=>
            obtain⟨j,e',h1,h2,h3⟩:=hM.fresh r (Nat.le_trans (hnew hm) hr) (by rw[hk];simp)
            exact absurd h3 (hnone (by omega) r (fun h=>by omega) hr j e' h1 h2)
         refine (hT κ _ (by rw[hsto];exact hS0) hfr (by simp[hvs,hus];simpa using hxl) hall).mono ?_
         rintro e1 w' ⟨u,v',κ',sto',next',rfl,rfl,he,hL1,hv1,hS1,hf1,rfl,hsto',rfl⟩
         rw[hsto] at hL1 hS1
         rw[hsto'] at hS1
         obtain⟨p1,p2,p3⟩:=put' κ' u (fun x=>(hM.env x).ext he) hv1
         have hlent:∀ b,(bP κ si.σ c.G).lent b->c.mine b:=by
          rintro b ⟨r,d,h1,h2,h3⟩
          exact hR.mine r d b (hzz r h1) h2 h3
         have hmine:∀ b,(bP κ si.σ c.G).mine b->c.mine b:=by
          intro b hb
          rcases hb with hb | hb
          ·exact .inl (Nat.le_trans hL.size hb)
          ·exact hlent b hb
         have hupd:∀ r,r∈aR e.δ\/si.σ r≠.none->ap.upd (bD S (T.map (·.δ)) 0 s.σ) e.δ r=ap.upd si.σ e.δ r:=by
          intro r hr
          rw[d7,d7]
          exact nI e.δ _ _ (hr.imp id (hreads r))
         have hout:∀ r,¬ (r∈aR e.δ\/si.σ r≠.none)->ap.upd (bD S (T.map (·.δ)) 0 s.σ) e.δ r=bD S (T.map (·.δ)) 0 s.σ r/\ap.upd si.σ e.δ r = .none:=by
          intro r hr
          have hk:r∉aR e.δ:=fun h=>hr (.inl h)
          have hz:si.σ r = .none:=Classical.byContradiction fun h=>hr (.inr h)
          rw[d7,d7,gQ _ _ hk,gQ _ _ hk]
          exact⟨rfl,hz⟩
         have hfar:∀ r d b,bD S (T.map (·.δ)) 0 s.σ r≠.none->¬ (r∈aR e.δ\/si.σ r≠.none)->κ.nm r=some d->d.block=some b->b<κ.w.heap.size/\¬ (bP κ si.σ c.G).lent b:=by
          intro r d b h1 h2 h3 h4
          refine⟨(hR.blk r).lt h1 h3 h4,?_⟩
          rintro⟨r',d',k1,k2,k3⟩
          have hne:r≠r':=by rintro rfl;exact h2 (.inr k1)
          exact hR.apart r r' d d' b h1 (hzz r' k1) hne h3 k2 h4 k3
         have hnm:∀ r d',bD S (T.map (·.δ)) 0 s.σ r≠.none->κ'.nm r=some d'->∃ d,κ.nm r=some d/\d=d':=by
          intro r d' h1 h2
          have hb:=hR.blk r
          generalize bD S (T.map (·.δ)) 0 s.σ r=B at hb h1
          cases B with
          | none=>exact absurd rfl h1
          | cells A f l=>
            rcases hb with ⟨_,_,q1⟩ | ⟨b,n,cs,q1,_⟩
            ·have:=he.nm r _ q1
             rw[this] at h2;cases h2
             exact⟨_,q1,rfl⟩
            have:=he.nm r _ q1
            rw[this] at h2;cases h2
            exact⟨_,q1,rfl⟩
          | tok A z=>
            rcases hb with q1 | ⟨b,n,cap,cs,q1,_⟩
            ·have:=he.nm r _ q1
             rw[this] at h2;cases h2
             exact⟨_,q1,rfl⟩
            have:=he.nm r _ q1
            rw[this] at h2;cases h2
            exact⟨_,q1,rfl⟩
          | bts e l=>
            obtain⟨b,n,cs,fz,q1,_⟩:=hb
            have:=he.nm r _ q1
            rw[this] at h2;cases h2
            exact⟨_,q1,rfl⟩
         refine hK _ _ κ' ⟨rfl,hM.ext0.trans he,?_,⟨hL1.os.trans hL.os,hL1.tape.trans hL.tape,hL1.output.trans hL.output,Nat.le_trans hL.size hL1.size,fun b hlt hl=>?_,fun b o hi=>?_⟩,p1,p2,by rw[p3];exact hM.defers.ext he,fun r hr hnn=>?_⟩
         ·rw[hσenv,<- d7]
          refine⟨fun r=>?_,fun r r' d d' b h1 h2 hne h3 h4 h5=>?_,fun r d b h1 h2 h3=>?_,hS1.immLt,hR.glob.back hlent hS1.glob hL1.block⟩
          ·by_cases hr:r∈aR e.δ\/si.σ r≠.none
           ·rw[hupd r hr];exact hS1.blk r
           ·rw[(hout r hr).1]
            refine (hR.blk r).keep he fun hz d b hd hbk=>?_
            obtain⟨q1,q2⟩:=hfar r d b hz hr hd hbk
            exact⟨hL1.block b q1 q2,fun o ho=>(hL1.imm b o ho).elim id fun h=>h.elim (fun h=>absurd q1 (Nat.not_lt.2 h)) (fun h=>absurd h q2)⟩
          ·by_cases hr:r∈aR e.δ\/si.σ r≠.none
           ·rw[hupd r hr] at h1
            by_cases hr':r'∈aR e.δ\/si.σ r'≠.none
            ·rw[hupd r' hr'] at h2
             exact hS1.apart r r' d d' b h1 h2 hne h3 h4 h5
            ·rw[(hout r' hr').1] at h2
             intro h6
             obtain⟨d2,q1,rfl⟩:=hnm r' d' h2 h4
             obtain⟨q3,q4⟩:=hfar r' _ b h2 hr' q1 h6
             rcases hS1.mine r d b h1 h3 h5 with h | h
             ·exact absurd q3 (Nat.not_lt.2 h)
             ·exact q4 h
           ·rw[(hout r hr).1] at h1
            obtain⟨d1,q1,rfl⟩:=hnm r d h1 h3
            obtain⟨q3,q4⟩:=hfar r _ b h1 hr q1 h5
            intro h6
            by_cases hr':r'∈aR e.δ\/si.σ r'≠.none
            ·rw[hupd r' hr'] at h2
             rcases hS1.mine r' d' b h2 h4 h6 with h | h
             ·exact absurd q3 (Nat.not_lt.2 h)
             ·exact q4 h
            ·rw[(hout r' hr').1] at h2
             obtain⟨d2,q1',rfl⟩:=hnm r' d' h2 h4
             exact hR.apart r r' _ _ b h1 h2 hne q1 q1' h5 h6
          ·by_cases hr:r∈aR e.δ\/si.σ r≠.none
           ·rw[hupd r hr] at h1
            exact hmine b (hS1.mine r d b h1 h2 h3)
           ·rw[(hout r hr).1] at h1
            obtain⟨d1,q1,rfl⟩:=hnm r d h1 h2
            exact hR.mine r _ b h1 q1 h3
         ·refine (hL1.block b (Nat.lt_of_lt_of_le hlt hL.size) fun h=>?_).trans (hL.block b hlt hl)
          rcases hlent b h with h | h
          ·exact absurd hlt (Nat.not_lt.2 h)
          ·exact hl h
         ·rcases hL1.imm b o hi with h | h
          ·exact hL.imm b o h
          ·exact .inr (hmine b h)
         ·by_cases hk:κ.nm r=none
          ·refine⟨i,e,hS',hi,.inr ⟨hkd,?_⟩⟩
           rcases Nat.lt_or_ge r e.top with h | h
           ·exact h
           ·exact absurd (hf1 r h) hnn
          ·exact fresh0 r hr hk
        rw[<- hevx] at hps
        have hrun:=hrun0 hcal κ.w
        refine j9 hrun ?_
        refine (hP κ.w κ.imm _ hM.rel.glob.ok hM.rel.immLt (by rw[bK hps];simp[hvs,hus];simpa using hxl) fun k x hx=>?_).mono ?_
        ·obtain⟨y,hy,hp⟩:=bX hps k x hx
         exact bG hp (hall k y hy)
        ·rintro e' w' ⟨u,imm',rfl,hbl,h1,h2,h3,h4⟩
         have hst:Rel c κ0 N ⟨[],[],s.next⟩ a κ.w κ->True:=fun _=>trivial
         have he:Ext κ ⟨w',κ.nm,imm'⟩:=by
          refine⟨h1,fun b o v hi hc=>?_,fun _ _ h=>h,fun b o ho _=>(hbl.block b (Array.getElem?_eq_some_iff.1 ho).1).trans ho⟩
          have hl:=World.block_lt_of_cell? κ.w _ hc
          exact (World.cell?_of_block (a:=⟨b,o,none⟩) (hbl.block b hl)).trans hc
         have hL:=hM.left
         have hR:=hM.rel
         obtain⟨p1,p2,p3⟩:=put' ⟨w',κ.nm,imm'⟩ u (fun x=>(hM.env x).ext he) (by rw[hv];exact .pv _ _ h4)
         refine hK _ _ ⟨w',κ.nm,imm'⟩ ⟨rfl,hM.ext0.trans he,?_,⟨hbl.os.trans hL.os,hbl.tape.trans hL.tape,hbl.output.trans hL.output,Nat.le_trans hL.size hbl.size,fun b hlt hl=>?_,fun b o hi=>?_⟩,p1,p2,by rw[p3];exact hM.defers.ext he,fresh0⟩
         ·rw[hσenv,hδ]
          refine⟨fun r=>?_,hR.apart,hR.mine,h3,SRel.glob_ext he hR.glob fun g h1 _=>hbl.block g (Nat.lt_of_lt_of_le h1 hL.size)⟩
          refine (hR.blk r).keep he fun hz d b hd hbk=>?_
          have hl:=(hR.blk r).lt hz hd hbk
          exact⟨hbl.block b hl,fun o ho=>(h2 b o ho).elim id (fun h=>by omega)⟩
         ·exact (hbl.block b (Nat.lt_of_lt_of_le hlt hL.size)).trans (hL.block b hlt hl)
         ·rcases h2 b o hi with h | h
          ·exact hL.imm b o h
          ·exact .inr (.inl (Nat.le_trans hL.size h))
  ·cases hc
 ·cases hc
end
section
variable {P:Program}{c:Ctx}{κ0:Kap}{N:Nat}{ro:Option Nat}{nf:Nat}
theorem Eg {md:Region.Mode}{e:Edge}(h:Region.binds .any e=true):Region.binds md e=true:=by
 unfold Region.binds at h ⊢
 split at h
 ·exact absurd h (by decide)
 ·exact absurd h (by decide)
 ·rfl
theorem jX {md:Region.Mode}{ops:Array Oper}{listed:Array Bool}{i:Nat}(h:i∈Region.ready md ops listed):∃ o,ops[i]? = some o/\i<ops.size/\listed.getD i true=false/\∀ j∈aN o,listed.getD j false=true:=by
 unfold Region.ready at h
 simp only[List.mem_filter,List.mem_range,Bool.and_eq_true,Bool.not_eq_true'] at h
 obtain⟨h1,h2,h3⟩:=h
 refine⟨ops[i],by simp[h1],h1,h2,fun j hj=>?_⟩
 have ho:ops[i]? = some ops[i]:=by simp[h1]
 rw[ho] at h3
 simp only[Option.map_some,Option.getD_some,Array.all_eq_true_iff_forall_mem,Bool.or_eq_true,Bool.not_eq_true'] at h3
 simp only[aN,List.mem_map,List.mem_filter] at hj
 obtain⟨e,⟨he,hb⟩,rfl⟩:=hj
 rcases h3 e (by simpa using he) with h | h
 ·rw[Eg hb] at h;cases h
 ·exact h
theorem ow {md:Region.Mode}{ops:Array Oper}{listed:Array Bool}(hsz:listed.size=ops.size)(hr:Region.ready md ops listed=[])(rank:Nat->Nat)
  (hlt:∀ (i:Nat) (o:Oper),ops[i]? = some o->∀ e∈o.after,Region.binds md e=true->e.on<ops.size/\rank e.on<rank i) :
  ∀ i,i<ops.size->listed.getD i false=true:=by
 have main:∀ n i,rank i=n->i<ops.size->listed.getD i false=true:=by
  intro n
  induction n using Nat.strongRecOn with
  | _ n ih=>
    intro i hin hi
    cases hL:listed.getD i false with
    | true=>rfl
    | false=>
      exfalso
      have hm:i∈Region.ready md ops listed:=by
       unfold Region.ready
       simp only[List.mem_filter,List.mem_range,Bool.and_eq_true,Bool.not_eq_true']
       have ho:ops[i]? = some ops[i]:=by simp[hi]
       refine⟨hi,?_,?_⟩
       ·have hi':i<listed.size:=by omega
        simp[Array.getD_eq_getD_getElem?,hi'] at hL ⊢
        exact hL
       ·rw[ho]
        simp only[Option.map_some,Option.getD_some,Array.all_eq_true_iff_forall_mem,Bool.or_eq_true,Bool.not_eq_true']
        intro e he
        cases hb:Region.binds md e with
        | false=>exact .inl rfl
        | true=>
          right
          obtain⟨h1,h2⟩:=hlt i _ ho e he hb
          exact ih (rank e.on) (by omega) e.on rfl h1
      rw[hr] at hm;cases hm
 exact fun i hi=>main _ i rfl hi
theorem jZ {md:Region.Mode}{ops:Array Oper}(h:tl md ops=true):∃ rank:Nat->Nat,∀ (i:Nat) (o:Oper),ops[i]? = some o->∀ e∈o.after,Region.binds md e=true->e.on<ops.size/\rank e.on<rank i:=by
 unfold tl at h
 simp only at h
 refine⟨fun i=>Q0 i (J7 ((lE md ops).zipIdx.map fun p=>(p.2,p.1)).length ((lE md ops).zipIdx.map fun p=>(p.2,p.1)) []),fun i o ho e he hb=>?_⟩
 have hm:(i,(o.after.toList.filter (Region.binds md)).map (·.on))∈(lE md ops).zipIdx.map fun p=>(p.2,p.1):=by
  refine List.mem_map.2 ⟨((o.after.toList.filter (Region.binds md)).map (·.on),i),List.mem_of_getElem? (i:=i) ?_,rfl⟩
  simp[List.getElem?_zipIdx,lE,ho]
 have h1:=(List.all_eq_true.1 h) _ hm
 have h2:=(List.all_eq_true.1 h1) e.on (List.mem_map.2 ⟨e,List.mem_filter.2 ⟨by simpa using he,hb⟩,rfl⟩)
 simp only[Bool.and_eq_true,decide_eq_true_eq] at h2
 refine⟨?_,h2.2⟩
 have:=h2.1
 simpa[lE] using this
theorem jD {ops:Array Oper}{id:Nat}{a:Act}{w:World}{Q:Exit->Act->World->Prop}
  (h:∀ md,md = .any\/Region.departs ops=true->wpAnyIn (FR ro) nf P md ops Q ops.size (Array.replicate ops.size false) a { w with drawn:=w.drawn+1 }):(Code.region id ops true).wpIn (FR ro) nf P Q a w:=
 wpIn_region_draw fun t=>by
  unfold Region.schedule
  split
  ·exact wpAnyIn_sound ops.size t _ a _ (h .any (.inl rfl))
  ·rename_i hd
   have hdep:Region.departs ops=true:=by
    cases hx:Region.departs ops with
    | true=>rfl
    | false=>simp[hx] at hd
   exact wpAnyIn_sound ops.size (t / 2) _ a _ (h _ (.inr hdep))
theorem mP {k r:Nat}{ks rs:List Nat}(h:r∈ks):r+1∈(eU k ks rs).1:=by
 simp only[eU,List.mem_append,List.mem_map]
 exact .inr ⟨r,h,rfl⟩
theorem Aw {k r:Nat}{ks rs:List Nat}(h:r∈rs):r+1∈(eU k ks rs).2:=by
 simp only[eU,List.mem_append,List.mem_map]
 exact .inr ⟨r,h,rfl⟩
theorem BI {A:List (List Nat)}{i j:Nat}(hne:j≠i)(h:EL A i j=true):EL A j i=true:=by
 unfold EL at h ⊢
 by_cases h1:i<j
 ·rw[if_pos h1] at h
  rw[if_neg (by omega)];exact h
 ·rw[if_neg h1] at h
  rw[if_pos (by omega)];exact h
theorem nO.kds {P:Program}{G:Nat->List PV}{E:Nat->AV}{σ:ap}{wt:Option Bool}{op:AOp}{e:Ent}(h:nO P G E σ wt op e)(h0:e.kd≠0):e.kd=1\/e.kd=2:=by
 rcases h with ⟨_,_,_,_,h1,h2⟩ | ⟨_,h⟩
 ·exact absurd h2 h0
 ·cases op with
  | t o=>exact absurd h.2.2.2.2 h0
  | m o=>
    have h2:=h.2.2.2.2
    unfold bq at h2
    split at h2
    ·exact .inl h2
    ·exact absurd h2 h0
  | call f xs=>
    obtain⟨p,_,⟨ps,r,_,_,_,_,_,h1,h2⟩ | ⟨sto,_,_,h1,h2,h3,_⟩⟩:=h
    ·exact absurd h2 h0
    ·exact .inr h3
  | fz g x=>exact h.elim
theorem u7 {muts:List Nat}{ops:Array Oper}{aops:List AOper}{F:St->Prop}{Q:Exit->Act->World->Prop}{k:Nat}{md:Region.Mode}
  (hc:EO P muts N ops ops.toList=some aops) (hlt:∀ (i:Nat) (o:Oper),ops[i]? = some o->∀ j∈aN o,j<i)
  (htail:∀ i,k<=i->i<ops.size->∀ j,j<i->((aO (ops.toList.map aN) []).getD i []).contains j=true)
  (hrank:∃ rank:Nat->Nat,∀ (i:Nat) (o:Oper),ops[i]? = some o->∀ e∈o.after,Region.binds md e=true->e.on<ops.size/\rank e.on<rank i)
  (hQ:∀ s a w κ,Rel c κ0 N s a w κ->F s->Q .normal a w):∀ (fuel m:Nat) (listed:Array Bool) (s:St) (a:Act) (w:World) (κ:Kap),listed.size=ops.size->k<=m->(∀ j,j<ops.size->listed.getD j false=decide (j<m)) ->
   ops.size - m<=fuel->Rel c κ0 N s a w κ->di P c.G (aops.drop m) F s->wpAnyIn (FR ro) nf P md ops Q fuel listed a w:=by
 obtain⟨l1,l2⟩:=sA (P:=P) (N:=N) ops.toList aops hc
 have hn:aops.length=ops.size:=by rw[<- l1];simp
 have hget:∀ (listed:Array Bool) (i:Nat),listed.size=ops.size->i<ops.size->listed.getD i true=listed.getD i false:=by
  intro listed i h1 h2
  simp[Array.getD_eq_getD_getElem?,show i<listed.size by omega]
 have done:∀ (m:Nat) (s:St) (a:Act) (w:World) (κ:Kap),ops.size<=m->Rel c κ0 N s a w κ->di P c.G (aops.drop m) F s->Q .normal a w:=by
  intro m s a w κ hm hR hv
  rw[List.drop_eq_nil_of_le (by omega)] at hv
  exact hQ s a w κ hR hv
 intro fuel
 induction fuel with
 | zero=>
   intro m listed s a w κ hsz hkm hl hf hR hv
   refine⟨?_,done m s a w κ (by omega) hR hv⟩
   cases hrd:Region.ready md ops listed with
   | nil=>rfl
   | cons i r=>
     obtain⟨o,ho,hi,hli,_⟩:=jX (i:=i) (by rw[hrd];simp)
     rw[hget listed i hsz hi,hl i hi] at hli
     simp at hli;omega
 | succ fuel ih=>
   intro m listed s a w κ hsz hkm hl hf hR hv
   refine⟨fun hr=>?_,fun i hi=>?_⟩
   ·obtain⟨rank,hrk⟩:=hrank
    have hall:=ow hsz hr rank hrk
    refine done m s a w κ ?_ hR hv
    rcases Nat.lt_or_ge m ops.size with h | h
    ·have:=hall m h
     rw[hl m h] at this
     simp at this
    ·exact h
   ·obtain⟨o,ho,hil,hli,hdeps⟩:=jX hi
    rw[hget listed i hsz hil,hl i hil] at hli
    have hmi:m<=i:=by simpa using hli
    have him:i=m:=by
     rcases Nat.lt_or_ge m i with h | h
     ·exfalso
      obtain⟨c1,c2⟩:=fA (S:=fun i=>listed.getD i false) (ops.toList.map aN) [] 0 rfl (fun i d hd hS j hj=>by
       simp only[Nat.zero_add] at hS
       simp only[List.getElem?_map,Option.map_eq_some_iff] at hd
       obtain⟨o',ho',rfl⟩:=hd
       have ho'':ops[i]? = some o':=by simpa using ho'
       have h1:=hlt i o' ho'' j hj
       have h2:i<ops.size:=(Array.getElem?_eq_some_iff.1 ho'').1
       rw[hl i h2] at hS
       rw[hl j (by omega)]
       simp at hS ⊢;omega) (by simp) (by simp)
      have hlenA:(aO (ops.toList.map aN) []).length=ops.size:=by rw[fB];simp
      have hA:(aO (ops.toList.map aN) [])[i]? = some ((aO (ops.toList.map aN) []).getD i []):=by
       simp[List.getD_eq_getElem?_getD,show i<(aO (ops.toList.map aN) []).length by omega]
      have:=c2 i (aN o) (by simp[ho]) hdeps _ (by simpa using hA) m (by simpa using htail i (by omega) hil m h)
      rw[hl m (by omega)] at this
      simp at this
     ·omega
    subst him
    have hol:ops.toList[i]? = some o:=by simpa using ho
    obtain⟨ao,hao,hco⟩:=l2 i o hol
    have hdrop:aops.drop i=ao::aops.drop (i+1):=by
     have hlt':i<aops.length:=by omega
     rw[List.drop_eq_getElem_cons hlt']
     congr 1
     exact (List.getElem?_eq_some_iff.1 hao).2
    rw[hdrop] at hv
    have next:∀ s a w κ,Rel c κ0 N s a w κ->di P c.G (aops.drop (i+1)) F s->wpAnyIn (FR ro) nf P md ops Q fuel (listed.setIfInBounds i true) a w:=by
     intro s a w κ hR hv
     refine ih (i+1) (listed.setIfInBounds i true) s a w κ (by simp[hsz]) (by omega) (fun j hj=>?_) (by omega) hR hv
     simp only[Array.getD_eq_getD_getElem?,Array.getElem?_setIfInBounds]
     by_cases hji:i=j
     ·subst hji;simp[show i<listed.size by omega]
     ·rw[if_neg hji,<- Array.getD_eq_getD_getElem?,hl j hj]
      have:decide (j<i)=decide (j<i+1):=by
       rw[decide_eq_decide];omega
      exact this
    unfold x9 at hco
    split at hco
    ·rename_i g op hg hop
     split at hco
     ·rename_i hd
      cases hco
      simp only[di,aJ] at hv
      split at hv
      ·rename_i b hb
       have hwant:=eR (ops:=ops) (o:=o) hg hR.env hb
       unfold wpOpIn
       rw[ho]
       simp only
       rw[hwant]
       cases b with
       | true=>
         rw[if_pos rfl]
         exact lW hop hR hd hv next
       | false=>
         rw[if_neg (by simp)]
         refine⟨fun _ _=>trivial,?_⟩
         exact next _ _ w κ (hR.put (κ':=κ) (w':=w) hd (.pv _ _ .undef)) hv
      ·exact hv.elim
     ·cases hco
    ·cases hco
theorem mp {muts:List Nat}{ops:Array Oper}{aops:List AOper}{id:Nat}{F:St->Prop}{Q:Exit->Act->World->Prop}{s:St}{a:Act}{w:World}{κ:Kap}
  {k:Nat} (hc:EO P muts N ops ops.toList=some aops) (hok:Dv ops.toList aops k=true) (hk:k<=aops.length) (hm:rH ops=true) (hR:Rel c κ0 N s a w κ)
  (hv:vcD P c.G (aO (ops.toList.map aN) []) (di P c.G (aops.drop k) F) (aops.take k) [] s) (hQ:∀ s a w κ,Rel c κ0 N s a w κ->F s->Q .normal a w):(Code.region id ops true).wpIn (FR ro) nf P Q a w:=by
 obtain⟨T,s',hT,hnames,hF⟩:=lF (aops.take k) [] s hv
 simp only[List.nil_append] at hnames
 obtain⟨t1,t2,t3,t4,t5,t6,t7⟩:=QE (aops.take k) s T s' hT
 obtain⟨l1,l2⟩:=sA (P:=P) (N:=N) ops.toList aops hc
 simp only[Dv,Bool.and_eq_true] at hok
 obtain⟨⟨hslots,hback⟩,htl⟩:=hok
 have hTk:T.length=k:=by rw[<- t1];simp;omega
 have hlt:∀ (i:Nat) (o:Oper),ops[i]? = some o->∀ j∈aN o,j<i:=by
  intro i o ho j hj
  have hd:((ops.toList.map aN).zipIdx)[i]? = some (aN o,i):=by simp[List.getElem?_zipIdx,ho]
  have:=(List.all_eq_true.1 hback) _ (List.mem_of_getElem? hd)
  have:=(List.all_eq_true.1 this) j hj
  simpa using this
 have hn:ops.size=aops.length:=by rw[<- l1];simp
 have htail:∀ i,k<=i->i<ops.size->∀ j,j<i->((aO (ops.toList.map aN) []).getD i []).contains j=true:=by
  intro i h1 h2 j hj
  have h3:=(List.all_eq_true.1 htl) i (by simpa using h2)
  simp only[Bool.or_eq_true,decide_eq_true_eq] at h3
  rcases h3 with h3 | h3
  ·omega
  ·exact (List.all_eq_true.1 h3) j (by simpa using hj)
 refine jD fun md hmd=>?_
 have hrank:∃ rank:Nat->Nat,∀ (i:Nat) (o:Oper),ops[i]? = some o->∀ e∈o.after,Region.binds md e=true->e.on<ops.size/\rank e.on<rank i:=by
  have hany:∃ rank:Nat->Nat,∀ (i:Nat) (o:Oper),ops[i]? = some o->∀ e∈o.after,Region.binds .any e=true->e.on<ops.size/\rank e.on<rank i:=by
   refine⟨fun i=>i,fun i o ho e he hb=>?_⟩
   have h1:=hlt i o ho e.on (by
    simp only[aN,List.mem_map,List.mem_filter]
    exact⟨e,⟨by simpa using he,hb⟩,rfl⟩)
   have h2:i<ops.size:=(Array.getElem?_eq_some_iff.1 ho).1
   exact⟨by omega,h1⟩
  rcases hmd with rfl | hdep
  ·exact hany
  ·simp only[rH,hdep,Bool.not_true,Bool.false_or,Bool.and_eq_true] at hm
   cases md with
   | text=>exact jZ hm.1
   | gc=>exact jZ hm.2
   | any=>exact hany
 have key:∀ (fuel:Nat) (listed:Array Bool) (a:Act) (w:World) (κ:Kap),listed.size=ops.size ->
   (∀ i d,(ops.toList.map aN)[i]? = some d->listed.getD i false=true->∀ j∈d,listed.getD j false=true) ->
   (((List.range k).filter fun i=>!listed.getD i false).length+(ops.size - k)<=fuel)->(∀ i,k<=i->listed.getD i false=false) ->
   Mid c κ0 N s T (fun i=>listed.getD i false) a w κ->wpAnyIn (FR ro) nf P md ops Q fuel listed a w:=by
  have fin:∀ (fuel:Nat) (listed:Array Bool) (a:Act) (w:World) (κ:Kap),listed.size=ops.size->ops.size - k<=fuel->(∀ i,i<k->listed.getD i false=true)->(∀ i,k<=i->listed.getD i false=false) ->
    Mid c κ0 N s T (fun i=>listed.getD i false) a w κ->wpAnyIn (FR ro) nf P md ops Q fuel listed a w:=by
   intro fuel listed a w κ hsz hf hall hno hM
   refine u7 (F:=F) hc hlt htail hrank hQ fuel k listed s' a w κ hsz (Nat.le_refl _) (fun j hj=>?_) hf ⟨hM.w_eq,hM.ext0,?_,hM.left,fun x=>?_,hM.size,hM.defers,fun r hr=>?_⟩ hF
   ·by_cases h:j<k
    ·rw[hall j h];simp[h]
    ·rw[hno j (by omega)];simp[h]
   ·have e:s'.σ=bD (fun i=>listed.getD i false) (T.map (·.δ)) 0 s.σ:=by
     rw[t3,nM (fun i=>listed.getD i false)]
     intro i hi
     rw[Nat.zero_add]
     exact hall i (by simp at hi;omega)
    rw[e];exact hM.rel
   ·have e:s'.E=bD (fun i=>listed.getD i false) (T.map Ent.env) 0 s.E:=by
     rw[t2,nM (fun i=>listed.getD i false)]
     intro i hi
     rw[Nat.zero_add]
     exact hall i (by simp at hi;omega)
    rw[e];exact hM.env x
   ·cases hk:κ.nm r with
    | none=>rfl
    | some d=>
      obtain⟨j,e,h1,h2,h3⟩:=hM.fresh r (by omega) (by rw[hk];simp)
      obtain⟨_,_,_,sj,_,_,hst⟩:=t7 j e h2
      have htp:=hst.tops
      rcases h3 with ⟨h3,h4⟩ | ⟨h3,h4⟩
      ·have h5:=htp.2.1 (by omega)
       have h6:=htp.2.2 h3
       have:=(t5 j e h2 h5).2
       omega
      ·have h5:=htp.2.1 (by omega)
       have:=(t5 j e h2 h5).2
       omega
  intro fuel
  induction fuel with
  | zero=>
    intro listed a w κ hsz hcl hf hno hM
    refine fin 0 listed a w κ hsz (by omega) (fun i hi=>?_) hno hM
    have h0:((List.range k).filter fun i=>!listed.getD i false)=[]:=List.eq_nil_of_length_eq_zero (by omega)
    cases hL:listed.getD i false with
    | true=>rfl
    | false=>
      have:i∈(List.range k).filter fun i=>!listed.getD i false:=List.mem_filter.2 ⟨List.mem_range.2 hi,by rw[hL];rfl⟩
      rw[h0] at this;cases this
  | succ fuel ih=>
    intro listed a w κ hsz hcl hf hno hM
    by_cases hallk:∀ i,i<k->listed.getD i false=true
    ·exact fin _ listed a w κ hsz (by omega) hallk hno hM
    obtain⟨u0,hu0,hu1⟩:∃ i,i<k/\listed.getD i false=false:=by
     refine Classical.byContradiction fun h=>hallk fun i hi=>?_
     cases hL:listed.getD i false with
     | true=>rfl
     | false=>exact absurd ⟨i,hi,hL⟩ h
    refine⟨fun hr=>?_,fun i hi=>?_⟩
    ·obtain⟨rank,hrk⟩:=hrank
     have:=ow hsz hr rank hrk u0 (by omega)
     rw[hu1] at this;cases this
    obtain⟨o,ho,hil,hl,hdeps⟩:=jX hi
    have hi':i<listed.size:=by omega
    have hik:i<k:=by
     rcases Nat.lt_or_ge i k with h | h
     ·exact h
     ·exfalso
      obtain⟨c1,c2⟩:=fA (S:=fun i=>listed.getD i false) (ops.toList.map aN) [] 0 rfl (fun i d hd hS=>hcl i d hd (by simpa using hS)) (by simp) (by simp)
      have hlenA:(aO (ops.toList.map aN) []).length=ops.size:=by rw[fB];simp
      have hA:(aO (ops.toList.map aN) [])[i]? = some ((aO (ops.toList.map aN) []).getD i []):=by
       simp[List.getD_eq_getElem?_getD,show i<(aO (ops.toList.map aN) []).length by omega]
      have:=c2 i (aN o) (by simp[ho]) hdeps _ (by simpa using hA) u0 (by simpa using htail i h hil u0 (by omega))
      rw[hu1] at this;cases this
    have hSi:listed.getD i false=false:=by
     simp[Array.getD_eq_getD_getElem?,hi'] at hl ⊢;exact hl
    have hol:ops.toList[i]? = some o:=by simpa using ho
    obtain⟨ao,hao,hco⟩:=l2 i o hol
    have hTi:T[i]? = some T[i]:=List.getElem?_eq_getElem (by omega)
    obtain⟨ao',hao',hdst,si,e1,e2,hstep⟩:=t7 i _ hTi
    rw[List.getElem?_take,if_pos hik,hao] at hao';cases hao'
    have hbefore:∀ j,EL (aO (ops.toList.map aN) []) j i=true->j≠i->(j<i/\listed.getD j false=true)\/(i<j/\listed.getD j false=false):=by
     intro j hord hne
     obtain⟨c1,c2⟩:=fA (S:=fun i=>listed.getD i false) (ops.toList.map aN) [] 0 rfl (fun i d hd hS=>hcl i d hd (by simpa using hS)) (by simp) (by simp)
     have hlenA:(aO (ops.toList.map aN) []).length=ops.size:=by rw[fB];simp
     unfold EL at hord
     split at hord
     ·rename_i hji
      refine .inl ⟨hji,?_⟩
      have hA:(aO (ops.toList.map aN) [])[i]? = some ((aO (ops.toList.map aN) []).getD i []):=by
       simp[List.getD_eq_getElem?_getD,show i<(aO (ops.toList.map aN) []).length by omega]
      exact c2 i (aN o) (by simp[ho]) hdeps _ (by simpa using hA) j (by simpa using hord)
     ·rename_i hji
      have hij:i<j:=by omega
      refine .inr ⟨hij,?_⟩
      cases hL:listed.getD j false with
      | false=>rfl
      | true=>
        exfalso
        by_cases hjn:j<ops.size
        ·have hA:(aO (ops.toList.map aN) [])[j]? = some ((aO (ops.toList.map aN) []).getD j []):=by
          simp[List.getD_eq_getElem?_getD,show j<(aO (ops.toList.map aN) []).length by omega]
         have:=c1 j _ hA hL i (by simpa using hord)
         rw[hSi] at this;cases this
        ·rw[Array.getD_eq_getD_getElem?,Array.getElem?_eq_none (by omega)] at hL
         cases hL
    have hslotPair:∀ (j:Nat) (e:Ent),T[j]? = some e->∃ ao,aops[j]? = some ao/\e.dst=ao.dst/\(jP (aops.take k))[j]? = some (ao.dst.toList,ao.slots):=by
     intro j e hj
     obtain⟨ao,h1,h2,_⟩:=t7 j e hj
     have hjk:j<k:=by have:=(List.getElem?_eq_some_iff.1 hj).1;omega
     refine⟨ao,by rw[List.getElem?_take,if_pos hjk] at h1;exact h1,h2,?_⟩
     simp only[jP,List.getElem?_map,h1,Option.map_some]
    have hE:∀ x∈ao.slots,bD (fun i=>listed.getD i false) (T.map Ent.env) 0 s.E x=si.E x:=by
     intro x hx
     rw[e1]
     refine p8 hSi fun j v hne hj hkv=>?_
     simp only[List.getElem?_map,Option.map_eq_some_iff] at hj
     obtain⟨e,he,rfl⟩:=hj
     obtain⟨aj,a1,a2,a3⟩:=hslotPair j e he
     obtain⟨ai,b1,b2,b3⟩:=hslotPair i _ hTi
     rw[hao] at b1;cases b1
     refine hbefore j (lV hslots a3 b3 hne (x:=x) ?_ (.inl hx)) hne
     have:=nA.1 hkv
     rw[a2] at this
     simp[this]
    have hσ:∀ r∈T[i].reads,bD (fun i=>listed.getD i false) (T.map (·.δ)) 0 s.σ r=si.σ r:=by
     intro r hr
     rw[e2]
     refine p8 hSi fun j v hne hj hkv=>?_
     simp only[List.getElem?_map,Option.map_eq_some_iff] at hj
     obtain⟨e,he,rfl⟩:=hj
     exact hbefore j (lV hnames (p:=eU e.kd (aR e.δ) e.reads) (q:=eU T[i].kd (aR T[i].δ) T[i].reads) (x:=r+1) (by simp[he]) (by simp[hTi]) hne (mP hkv) (.inl (Aw hr))) hne
    have hgetset:∀ j,(listed.setIfInBounds i true).getD j false=if j=i then true else listed.getD j false:=by
     intro j
     simp only[Array.getD_eq_getD_getElem?,Array.getElem?_setIfInBounds]
     by_cases hj:i=j
     ·subst hj;simp[hi']
     ·rw[if_neg hj,if_neg (fun h=>hj h.symm)]
    have step:=G6 (P:=P) (ro:=ro) (nf:=nf) (s:=s) (si:=si) (T:=T) (S:=fun i=>listed.getD i false) (S':=fun j=>(listed.setIfInBounds i true).getD j false) (e:=T[i]) (i:=i) (K:=wpAnyIn (FR ro) nf P md ops Q fuel (listed.setIfInBounds i true)) (Q:=Q)
     hco hM hTi hSi (by simp only[hgetset];simp) (fun j hj=>by simp only[hgetset,if_neg hj]) hdst hstep hE hσ
     (fun j v r hne hj hkv hke hij=>by
      simp only[List.getElem?_map,Option.map_eq_some_iff] at hj
      obtain⟨e,he,rfl⟩:=hj
      obtain⟨aj,a1,a2,a3⟩:=hslotPair j e he
      obtain⟨ai,b1,b2,b3⟩:=hslotPair i _ hTi
      have h1:=nA.1 hkv
      have h2:=nA.1 hke
      rw[a2] at h1;rw[b2] at h2
      rcases hbefore j (lV hslots a3 b3 hne (x:=r) (by simp[h1]) (.inr (by simp[h2]))) hne with ⟨h,_⟩ | ⟨_,h⟩
      ·omega
      ·exact h)
     (fun j v r hne hj hkv hke hij=>by
      simp only[List.getElem?_map,Option.map_eq_some_iff] at hj
      obtain⟨e,he,rfl⟩:=hj
      rcases hbefore j (lV hnames (p:=eU e.kd (aR e.δ) e.reads) (q:=eU T[i].kd (aR T[i].δ) T[i].reads) (x:=r+1) (by simp[he]) (by simp[hTi]) hne (mP hkv) (.inr (mP hke))) hne with ⟨h,_⟩ | ⟨_,h⟩
      ·omega
      ·exact h)
     (fun hm=>(t5 i _ hTi hm).1)
     (fun hkd r hr hge j e' hSj he'=>by
      obtain⟨_,_,_,sj,_,_,hst'⟩:=t7 j e' he'
      have htp':=hst'.tops
      have htp:=hstep.tops
      have hmi:=htp.2.1 hkd
      have hjne:j≠i:=by
       rintro rfl
       rw[hSi] at hSj;cases hSj
      have before:j<i->e'.isM=true->e'.top<=T[i].new:=fun h hm'=>t6 j i e' _ h he' hTi hm' hmi
      have after:i<j->e'.isM=true->T[i].top<=e'.new:=fun h hm'=>t6 i j _ e' h hTi he' hmi hm'
      have ordered:(T[i].kd=2/\e'.kd≠0)\/e'.kd=2->j<i:=by
       intro h
       have hpair:(eU e'.kd (aR e'.δ) e'.reads,j)≠(eU e'.kd (aR e'.δ) e'.reads,i):=fun h=>hjne (Prod.mk.inj h).2
       have hTj:(T.map fun e=>eU e.kd (aR e.δ) e.reads)[j]? = some (eU e'.kd (aR e'.δ) e'.reads):=by simp[he']
       have hTi':(T.map fun e=>eU e.kd (aR e.δ) e.reads)[i]? = some (eU T[i].kd (aR T[i].δ) T[i].reads):=by simp[hTi]
       have k0:T[i].kd=1\/T[i].kd=2:=hstep.kds hkd
       have ho:EL (aO (ops.toList.map aN) []) j i=true\/EL (aO (ops.toList.map aN) []) i j=true:=by
        rcases h with ⟨h,h'⟩ | h
        ·have k1:e'.kd=1\/e'.kd=2:=hst'.kds h'
         refine .inr (lV hnames hTi' hTj (fun h=>hjne h.symm) (x:=0) (by simp[eU,h]) ?_)
         rcases k1 with k1 | k1
         ·exact .inl (by simp[eU,k1])
         ·exact .inr (by simp[eU,k1])
        ·refine .inl (lV hnames hTj hTi' hjne (x:=0) (by simp[eU,h]) ?_)
         rcases k0 with k0 | k0
         ·exact .inl (by simp[eU,k0])
         ·exact .inr (by simp[eU,k0])
       have ho':EL (aO (ops.toList.map aN) []) j i=true:=by
        rcases ho with ho | ho
        ·exact ho
        ·exact BI hjne ho
       rcases hbefore j ho' hjne with ⟨h,_⟩ | ⟨_,h⟩
       ·exact h
       ·rw[hSj] at h;cases h
      rintro (⟨h1,h2⟩ | ⟨h1,h2⟩)
      ·have hm':=htp'.2.1 (by omega)
       have ht':=htp'.2.2 h1
       rcases Nat.lt_or_gt_of_ne hjne with h | h
       ·have:=before h hm';omega
       ·rcases hstep.kds hkd with k0 | k0
        ·have:=after h hm'
         have:=htp.2.2 k0
         have:=hr k0
         omega
        ·have:=ordered (.inl ⟨k0,by omega⟩);omega
      ·have hm':=htp'.2.1 (by omega)
       have:=ordered (.inr h1)
       have:=before this hm'
       omega)
     (fun a w κ hM'=>ih (listed.setIfInBounds i true) a w κ (by simp[hsz]) (fun k d hd hk j hj=>by
       rw[hgetset] at hk ⊢
       by_cases hki:k=i
       ·subst hki
        simp only[List.getElem?_map,hol,Option.map_some,Option.some.injEq] at hd
        subst hd
        rw[hdeps j hj];simp
       ·rw[if_neg hki] at hk
        rw[hcl k d hd hk j hj];simp) (by
       have hsub:((List.range k).filter fun q=>!(listed.setIfInBounds i true).getD q false).length<((List.range k).filter fun q=>!listed.getD q false).length:=by
        have:((List.range k).filter fun q=>!(listed.setIfInBounds i true).getD q false)=((List.range k).filter fun q=>!listed.getD q false).filter fun q=>decide (q≠i):=by
         rw[List.filter_filter]
         apply List.filter_congr
         intro q _
         rw[hgetset]
         by_cases hk:q=i<;>simp[hk]
        rw[this]
        refine List.length_filter_lt_length_iff_exists.2 ⟨i,List.mem_filter.2 ⟨List.mem_range.2 hik,by rw[hSi];rfl⟩,by simp⟩
       omega) (fun q hq=>by rw[hgetset,if_neg (by omega)];exact hno q hq) hM')
    unfold wpOpIn
    rw[ho]
    simp only
    split
    ·rename_i hw
     rw[if_pos hw] at step
     exact step
    ·rename_i hw
     rw[if_neg hw] at step
     exact⟨fun _ _=>trivial,step⟩
 have hfalse:∀ j,(Array.replicate ops.size false).getD j false=false:=by
  intro j
  simp only[Array.getD_eq_getD_getElem?,Array.getElem?_replicate]
  split<;>rfl
 have hw:=hR.w_eq
 subst hw
 refine key ops.size (Array.replicate ops.size false) a _ ⟨{ κ.w with drawn:=κ.w.drawn+1 },κ.nm,κ.imm⟩ (by simp) (fun i d _ h=>by rw[hfalse] at h;cases h) (by
  have:=List.length_filter_le (fun i=>!(Array.replicate ops.size false).getD i false) (List.range k)
  simp only[List.length_range] at this
  omega) (fun i _=>hfalse i) ?_
 have hno:∀ {β:Type} (W:List (List (Nat×β))) (k:Nat) (g:Nat->β),bD (fun i=>(Array.replicate ops.size false).getD i false) W k g=g:=by
  intro β W
  induction W with
  | nil=>intros;rfl
  | cons x y ih=>intro k g;rw[bD,hfalse];simpa using ih (k+1) g
 have he:Ext κ ⟨{ κ.w with drawn:=κ.w.drawn+1 },κ.nm,κ.imm⟩:=⟨fun _ _ h=>h,fun _ _ _ _ h=>h,fun _ _ h=>h,fun _ _ h _=>h⟩
 have hS:=hR.rel
 have hL:=hR.left
 refine⟨rfl,hR.ext0.trans he,?_,⟨hL.os,hL.tape,hL.output,hL.size,hL.block,hL.imm⟩,fun x=>?_,hR.size,hR.defers.ext he,fun r hr h=>absurd (hR.fresh r hr) h⟩
 ·rw[hno]
  refine⟨fun r=>(hS.blk r).keep he fun _ _ _ _ _=>⟨rfl,fun _ h=>h⟩,hS.apart,hS.mine,hS.immLt,SRel.glob_ext he hS.glob fun _ _ _=>rfl⟩
 ·rw[hno];exact (hR.env x).ext he
end
inductive ACode where
 | skip
 | ops (l:List AOper) (keep:List Nat)
 | draw (A:List (List Nat)) (l l2:List AOper) (keep:List Nat)
 | seq (a b:ACode)
 | cond (x:AX) (a b:ACode)
 | block (id:Nat) (b:ACode)
 | loop (keep:List Nat) (b:ACode)
 | range (f:AX) (ps:List Nat) (keep:List Nat) (a b:ACode)
 | exit (id:Nat)
 | ret
inductive AExit where
 | norm
 | exit (id:Nat)
 | ret
def clip0 (keep:List Nat)(s:St):St:=⟨keep.map fun i=>(i,s.E i),s.sto,s.next⟩
def tI (k:Nat):List Nat->Bool
 | []=>false
 | j::r=>if j=k then true else tI k r
def xH (k:Nat)(b:Blk)(r:List (Nat×Blk)):Bool->List (Nat×Blk)
 | true=>r
 | false=>(k,b)::r
def i6:List Nat->List (Nat×Blk)->List (Nat×Blk)
 | _,[]=>[]
 | seen,p::r=>xH p.1 p.2 (i6 (p.1::seen) r) (tI p.1 seen)
theorem o7 (k j:Nat)(r:List Nat):tI k (j::r)=if j=k then true else tI k r:=rfl
theorem kr:∀ (l:List (Nat×Blk)) (seen:List Nat) (r:Nat),tI r seen=false->lookB r (i6 seen l)=lookB r l
 | [],seen,r,_=>rfl
 | p::q,seen,r,h=>by
   simp only[i6]
   by_cases hp:p.1=r
   ·rw[hp,h]
    simp only[xH,lookB,if_pos hp,if_true]
   ·have hr:tI r (p.1::seen)=false:=by rw[o7,if_neg hp];exact h
    have:=kr q (p.1::seen) r hr
    cases tI p.1 seen<;>simp only[xH,lookB,if_neg hp,this]
def clip (keep:List Nat)(s:St):St:=⟨keep.map fun i=>(i,s.E i),i6 [] s.sto,s.next⟩
def bt (acc:List Nat):List Nat->List Nat
 | []=>acc
 | n::r=>bt (if acc.contains n then acc else acc++[n]) r
mutual
def AV.names:AV->List Nat
 | .ptr r _=>[r]
 | .row r _ _ _=>[r]
 | .olist r _ _=>[r]
 | .agg cs=>AV.namesL cs
 | .tup cs=>AV.namesL cs
 | .clo _ fs cs=>AV.namesL fs++AV.namesL cs
 | _=>[]
def AV.namesL:List AV->List Nat
 | []=>[]
 | x::r=>AV.names x++AV.namesL r
end
def Blk.names:Blk->List Nat
 | .cells _ _ l=>AV.namesL l
 | _=>[]
def fK (m0:Nat)(sto:List (Nat×Blk)):Nat->List Nat->List Nat
 | 0,acc=>acc
 | k+1,acc=>fK m0 sto k (bt acc ((acc.flatMap fun r=>(lookB r sto).names).filter fun r=>decide (m0<=r)))
def xm (m0:Nat)(sto:List (Nat×Blk)):List Nat:=(List.range m0).flatMap fun r=>(lookB r sto).names
def OL (m0:Nat)(keep:List Nat)(s:St):List Nat:=
 fK m0 s.sto s.sto.length (bt [] (((keep.flatMap fun i=>(s.E i).names)++xm m0 s.sto).filter fun r=>decide (m0<=r)))
def Hu (x:Nat):List Nat->Nat->Option Nat
 | [],_=>none
 | y::r,k=>if y=x then some k else Hu x r (k+1)
def dy (m0:Nat)(os:List Nat)(r:Nat):Option Nat:=if r<m0 then some r else Hu r os m0
mutual
def AV.ren (f:Nat->Option Nat):AV->AV
 | .ptr r o=>match f r with
   | some r'=>.ptr r' o
   | none=>.any
 | .row r a b c=>match f r with
   | some r'=>.row r' a b c
   | none=>.any
 | .olist r a l=>match f r with
   | some r'=>.olist r' a l
   | none=>.pv (.list l)
 | .agg cs=>.agg (AV.renL f cs)
 | .tup cs=>.tup (AV.renL f cs)
 | .clo g fs cs=>.clo g (AV.renL f fs) (AV.renL f cs)
 | .pv p=>.pv p
 | .any=>.any
def AV.renL (f:Nat->Option Nat):List AV->List AV
 | []=>[]
 | x::r=>AV.ren f x::AV.renL f r
end
def Blk.ren (f:Nat->Option Nat):Blk->Blk
 | .cells T b l=>.cells T b (AV.renL f l)
 | x=>x
def eF (m0:Nat)(f:Nat->Option Nat)(sto:List (Nat×Blk)):List Nat->Nat->List (Nat×Blk)
 | [],_=>[]
 | r::q,k=>(k,(lookB r sto).ren f)::eF m0 f sto q (k+1)
def norm (m0:Nat)(keep:List Nat)(s:St):St:=
 let os:=OL m0 keep s
 let f:=dy m0 os
 ⟨keep.map fun i=>(i,(s.E i).ren f),eF m0 f s.sto (List.range m0++os) 0,m0+os.length⟩
def rB (Q:AExit->St->Prop)(keep:List Nat)(s:St):Prop:=Q .norm (clip keep s)
def JJ (F:St->Prop)(Q:AExit->St->Prop):AExit->St->Prop
 | .norm,s=>F s
 | .exit i,s=>Q (.exit i) s
 | .ret,s=>Q .ret s
def fO (id:Nat)(Q:AExit->St->Prop):AExit->St->Prop
 | .norm,s=>Q .norm s
 | .exit i,s=>if i=id then Q .norm s else Q (.exit i) s
 | .ret,s=>Q .ret s
def QT (m0:Nat)(I:Nat->St->Prop)(n:Nat)(Q:AExit->St->Prop):AExit->St->Prop
 | .norm,s=>∃ n' s',n'<n/\Wk m0 s s'/\I n' s'
 | .exit i,s=>∃ s',Wk m0 s s'/\Q (.exit i) s'
 | .ret,s=>Q .ret s
def LG (body:(AExit->St->Prop)->St->Prop)(m0:Nat)(keep:List Nat)(Q:AExit->St->Prop)(s:St):Prop:=
 ∃ I:Nat->St->Prop,(∃ n s',Wk m0 s s'/\I n s')/\∀ n s,I n s->body (QT m0 I n Q) s
def oM (v:AV)(F G:St->Prop)(s:St):Prop:=
 match v with
 | .pv (.bool true)=>F s
 | .pv (.bool false)=>G s
 | _=>False
def ifB (b:Bool)(F G:St->Prop)(s:St):Prop:=
 match b with
 | true=>F s
 | false=>G s
def Nq (P:Program)(G:Nat->List PV)(g:Nat)(lb:List PV)(xs:List (List PV)):Prop:=
 bH P g=true/\∀ (w:World) (imm:Nat->Nat->Prop) (lbv:Array Value) (l:Nat) (J:Nat->(Nat->Nat->Prop)->World->Prop) (Jx:World->Prop) (O:Nat->Nat->Prop),
  bV G w imm->(∀ b o,imm b o->b<w.heap.size/\¬ O b o)->lbv.size=lb.length->(∀ (i:Nat) (x:PV),lb[i]? = some x->PRel w imm x (lbv.getD i Go.undef)) ->
  (∀ i O W W',J i O W->Below W.heap.size W W'->J i O W')->(∀ i O W b o,J i O W->O b o->b<W.heap.size) ->
  (∀ (m i:Nat) (x:List PV) (O:Nat->Nat->Prop) (W:World) (vals:Array Value) (imm' kp:Nat->Nat->Prop),J i O W->xs[i]? = some x->vals.size=x.length ->
   (∀ (j:Nat) (y:PV),x[j]? = some y->PRel W imm' y (vals.getD j Go.undef))->(∀ b o,imm' b o->imm b o\/w.heap.size<=b)->(∀ b o,imm' b o->kp b o)->(∀ b o,kp b o->b<W.heap.size/\¬ O b o) ->
   YieldAt Fence.wide m P l vals W fun e W'=>
    (e = .returned (.bool true)/\(∃ O',J (i+1) O' W'/\∀ b o,kp b o->¬ O' b o)/\W.heap.size<=W'.heap.size/\(∀ b o v,kp b o->W.cell? ⟨b,o,none⟩=some v->W'.cell? ⟨b,o,none⟩=some v) /\
     ∀ g,G g≠[]->∃ cs T fz,W'.heap[g]? = some (.cells cs T fz)/\cs.size=(G g).length) \/
    (e = .returned (.bool false)/\Jx W')) ->
  J 0 O w ->
  CallsIn Fence.wide 0 P g (#[.func (.yield l) #[] #[]]++lbv) w fun e w'=>(∃ v,e = .returned v)/\((∃ O',J xs.length O' w')\/Jx w')
def Gt:List Nat->List PV->List (Nat×AV)->List (Nat×AV)
 | p::ps,x::xs,e=>Gt ps xs ((p,.pv x)::e)
 | _,_,e=>e
def TH (F:St->Prop):AExit->St->Prop
 | .norm,s=>F s
 | _,_=>False
def QF (m0:Nat)(I:Nat->St->Prop)(i:Nat)(Q:AExit->St->Prop)(e0:List (Nat×AV)):AExit->St->Prop
 | .norm,s=>∃ s',Wk m0 ⟨e0,s.sto,s.next⟩ s'/\I (i+1) s'
 | .exit id,s=>Q (.exit id) ⟨e0,s.sto,s.next⟩
 | .ret,s=>Q .ret ⟨e0,s.sto,s.next⟩
def ML (vb:Nat->(AExit->St->Prop)->St->Prop)(Q:AExit->St->Prop)(s:St):Prop:=vb s.next Q s
def OB (P:Program)(G:Nat->List PV)(va vb:Nat->(AExit->St->Prop)->St->Prop)(m0:Nat)(ps:List Nat)(Q:AExit->St->Prop)(I:Nat->St->Prop)(p:Nat×List AV×List AV):Prop:=
 p.2.1=[]/\∃ lb xs,pvs p.2.2=some lb/\Nq P G p.1 lb xs /\
  (∀ i x s',xs[i]? = some x->I i s'->x.length=ps.length/\va s'.next (TH (ML vb (QF m0 I i Q s'.env))) ⟨Gt ps x s'.env,s'.sto,s'.next⟩)/\∀ s',I xs.length s'->Q .norm s'
def I4 (P:Program)(G:Nat->List PV)(va vb:Nat->(AExit->St->Prop)->St->Prop)(m0:Nat)(f:AX)(ps:List Nat)(Q:AExit->St->Prop)(s:St):Prop:=
 ∃ (I:Nat->St->Prop) (s0:St),Wk m0 s s0/\I 0 s0/\aJ (df (f.ev s0.E)) (OB P G va vb m0 ps Q I)
def vc (P:Program)(G:Nat->List PV):Nat->ACode->(AExit->St->Prop)->St->Prop
 | m0,.skip,Q,s=>Q .norm s
 | m0,.ops l keep,Q,s=>di P G l (rB Q keep) s
 | m0,.draw A l l2 keep,Q,s=>vcD P G A (di P G l2 (rB Q keep)) l [] s
 | m0,.seq a b,Q,s=>vc P G m0 a (JJ (vc P G m0 b Q) Q) s
 | m0,.cond x a b,Q,s=>oM (x.ev s.E) (vc P G m0 a Q) (vc P G m0 b Q) s
 | m0,.block id b,Q,s=>vc P G m0 b (fO id Q) s
 | m0,.loop keep b,Q,s=>LG (vc P G m0 b) m0 keep Q s
 | m0,.range f ps keep a b,Q,s=>I4 P G (fun m=>vc P G m a) (fun m=>vc P G m b) m0 f ps Q s
 | m0,.exit id,Q,s=>Q (.exit id) s
 | m0,.ret,Q,s=>Q .ret s
def fQ (a:List Nat):List Nat->List Nat
 | []=>a
 | x::r=>fQ (if a.contains x then a else a++[x]) r
def Cl:List AOper->List Nat->List Nat
 | [],out=>out
 | o::r,out=>fQ ((Cl r out).filter fun x=>!(o.dst == some x)) o.slots
def OW (i:Nat):List (Nat×List Nat)->List Nat
 | []=>[]
 | p::r=>if p.1=i then p.2 else OW i r
def TL (x:Nat):List Nat->List Nat
 | []=>[x]
 | y::r=>if x<=y then x::y::r else y::TL x r
def oi:List Nat->List Nat
 | []=>[]
 | x::r=>TL x (oi r)
def Df:List (Nat×List Nat)->List Nat
 | []=>[]
 | p::r=>fQ (Df r) p.2
def a8:Code->Bool
 | .rangeFunc _ _ _ _=>true
 | .seq a b=>a8 a||a8 b
 | .cond _ a b=>a8 a||a8 b
 | .block _ b=>a8 b
 | .loop b=>a8 b
 | _=>false
def OE (N:Nat):List Nat->Bool
 | []=>true
 | p::r=>decide (p<N)&&!r.contains p&&OE N r
def bd (P:Program)(muts:List Nat)(N:Nat)(ret:List Nat):Code->List (Nat×List Nat)->List Nat->Option (ACode×List Nat)
 | .skip,_,out=>some (.skip,out)
 | .region _ ops d,_,out=>match EO P muts N ops ops.toList with
   | some l=>match d with
     | false=>some (.ops l (oi out),Cl l out)
     | true=>if Dv ops.toList l (CI (aO (ops.toList.map aN) []) l.length)=true/\CI (aO (ops.toList.map aN) []) l.length<=l.length/\rH ops=true then
       some (.draw (aO (ops.toList.map aN) []) (l.take (CI (aO (ops.toList.map aN) []) l.length)) (l.drop (CI (aO (ops.toList.map aN) []) l.length)) (oi out),Cl l out)
       else none
   | none=>none
 | .seq a b,ex,out=>match bd P muts N ret b ex out with
   | some (b',lb)=>match bd P muts N ret a ex lb with
     | some (a',la)=>some (.seq a' b',la)
     | none=>none
   | none=>none
 | .cond x a b,ex,out=>match cX x,bd P muts N ret a ex out,bd P muts N ret b ex out with
   | some ax,some (a',la),some (b',lb)=>some (.cond ax a' b',fQ (fQ la lb) ax.slots)
   | _,_,_=>none
 | .block id b,ex,out=>match bd P muts N ret b ((id,out)::ex) out with
   | some (b',lb)=>some (.block id b',lb)
   | none=>none
 | .loop b,ex,out=>match bd P muts N ret b ex [] with
   | some (_,l1)=>match bd P muts N ret b ex l1 with
     | some (_,l2)=>match bd P muts N ret b ex l2 with
       | some (b',l3)=>some (.loop (oi l2) b',l2)
       | none=>none
     | none=>none
   | none=>none
 | .exit id,ex,_=>some (.exit id,OW id ex)
 | .ret,_,_=>some (.ret,ret)
 | .rangeFunc g ps a b,ex,out=>match a8 a||a8 b,cX g,bd P muts N ret b ex [],OE N ps.toList with
   | false,some ax,some (b',lb),true=>match bd P muts N ret a ex lb with
     | some (a',la)=>some (.range ax ps.toList (oi (fQ (fQ (fQ la out) (fQ ret (Df ex))) ax.slots)) a' b',fQ (fQ (fQ la out) (fQ ret (Df ex))) ax.slots)
     | none=>none
   | _,_,_,_=>some (.ops [⟨none,ji,none⟩] [],[])
 | _,_,_=>some (.ops [⟨none,ji,none⟩] [],[])
theorem nh (keep:List Nat)(g:Nat->AV)(i:Nat):look i (keep.map fun k=>(k,g k))=if i∈keep then g i else .any:=by
 induction keep with
 | nil=>rfl
 | cons k r ih=>
   simp only[List.map_cons,look,ih,List.mem_cons]
   by_cases h:k=i
   ·simp[h]
   ·simp only[if_neg h,show (i=k)=False from eq_false (fun e=>h e.symm),false_or]
theorem dD:∀ (l acc:List Nat),acc.Nodup->(bt acc l).Nodup
 | [],acc,h=>h
 | n::r,acc,h=>by
   rw[bt]
   refine dD r _ ?_
   split
   ·exact h
   ·rename_i hn
    have hn':n∉acc:=by simpa using hn
    refine List.nodup_append.2 ⟨h,by simp,?_⟩
    intro a ha b hb
    simp at hb;subst hb
    rintro rfl
    exact hn' ha
theorem fl:∀ (l acc:List Nat) (x:Nat),x∈bt acc l->x∈acc\/x∈l
 | [],acc,x,h=>.inl h
 | n::r,acc,x,h=>by
   rw[bt] at h
   rcases fl r _ x h with h | h
   ·split at h
    ·exact .inl h
    ·rcases List.mem_append.1 h with h | h
     ·exact .inl h
     ·simp at h;subst h;exact .inr (by simp)
   ·exact .inr (by simp[h])
theorem ox (m0:Nat)(sto:List (Nat×Blk)):∀ (k:Nat) (acc:List Nat),acc.Nodup->(∀ x∈acc,m0<=x)->(fK m0 sto k acc).Nodup/\∀ x∈fK m0 sto k acc,m0<=x
 | 0,acc,h,g=>⟨h,g⟩
 | k+1,acc,h,g=>by
   rw[fK]
   refine ox m0 sto k _ (dD _ _ h) fun x hx=>?_
   rcases fl _ _ _ hx with h | h
   ·exact g x h
   ·simpa using (List.mem_filter.1 h).2
theorem Ll (m0:Nat)(keep:List Nat)(s:St):(OL m0 keep s).Nodup/\∀ x∈OL m0 keep s,m0<=x:=by
 refine ox m0 s.sto _ _ (dD _ _ (by simp)) fun x hx=>?_
 rcases fl _ _ _ hx with h | h
 ·simp at h
 ·simpa using (List.mem_filter.1 h).2
theorem tP {x i:Nat}:∀ (l:List Nat) (k:Nat),Hu x l k=some i->k<=i/\l[i - k]? = some x
 | [],k,h=>by simp[Hu] at h
 | y::r,k,h=>by
   rw[Hu] at h
   split at h
   ·rename_i hy
    cases h
    exact⟨Nat.le_refl _,by simp[hy]⟩
   ·obtain⟨h1,h2⟩:=tP r (k+1) h
    refine⟨by omega,?_⟩
    rw[show i - k=(i - (k+1))+1 by omega]
    simpa using h2
mutual
theorem qN {κ κ':Kap}(hw:κ'.w=κ.w)(hi:κ'.imm=κ.imm){f:Nat->Option Nat}(hf:∀ r r',f r=some r'->κ'.nm r'=κ.nm r):∀ (x:AV) (v:Value),ARel κ x v->ARel κ' (x.ren f) v
 | .pv p,v,h=>by
   cases h with
   | pv _ _ hp=>exact .pv _ _ (by rw[hw,hi];exact hp)
 | .any,v,h=>.any v
 | .ptr r o,v,h=>by
   cases h with
   | ptr _ _ b n hn=>
     simp only[AV.ren]
     split
     ·rename_i r' hr;exact .ptr _ _ b n (by rw[hf r r' hr];exact hn)
     ·exact .any _
 | .row r a b c,v,h=>by
   cases h with
   | row _ _ _ _ bb n cap hn h1 h2 h3 h4=>
     simp only[AV.ren]
     split
     ·rename_i r' hr;exact .row _ _ _ _ bb n cap (by rw[hf r r' hr];exact hn) h1 h2 h3 h4
     ·exact .any _
   | row0 _ _ hn=>
     simp only[AV.ren]
     split
     ·rename_i r' hr;exact .row0 _ _ (by rw[hf r r' hr];exact hn)
     ·exact .any _
 | .olist r a l,v,h=>by
   cases h with
   | olist _ _ _ _ hn hp hs=>
     simp only[AV.ren]
     split
     ·rename_i r' hr;exact .olist _ _ _ _ (by rw[hf r r' hr];exact hn) (by rw[hw,hi];exact hp) hs
     ·exact .pv _ _ (by rw[hw,hi];exact hp)
 | .agg cs,v,h=>by
   cases h with
   | agg _ vs hl hr=>
     simp only[AV.ren]
     obtain⟨h1,h2⟩:=ed hw hi hf cs vs hr
     exact .agg _ _ (by rw[h1];exact hl) h2
 | .tup cs,v,h=>by
   cases h with
   | tup _ vs hl hr=>
     simp only[AV.ren]
     obtain⟨h1,h2⟩:=ed hw hi hf cs vs hr
     exact .tup _ _ (by rw[h1];exact hl) h2
 | .clo g fs cs,v,h=>by
   cases h with
   | clo _ _ _ vs us hl hr hl' hr'=>
     simp only[AV.ren]
     obtain⟨h1,h2⟩:=ed hw hi hf fs vs hr
     obtain⟨h3,h4⟩:=ed hw hi hf cs us hr'
     exact .clo _ _ _ _ _ (by rw[h1];exact hl) h2 (by rw[h3];exact hl') h4
theorem ed {κ κ':Kap}(hw:κ'.w=κ.w)(hi:κ'.imm=κ.imm){f:Nat->Option Nat}(hf:∀ r r',f r=some r'->κ'.nm r'=κ.nm r):∀ (xs:List AV) (vs:Array Value),
  (∀ (i:Nat) (x:AV),xs[i]? = some x->ARel κ x (vs.getD i Go.undef))->(AV.renL f xs).length=xs.length/\∀ (i:Nat) (x:AV),(AV.renL f xs)[i]? = some x->ARel κ' x (vs.getD i Go.undef)
 | [],vs,h=>by simp[AV.renL]
 | x::r,vs,h=>by
   obtain⟨h1,h2⟩:=ed hw hi hf r (vs.extract 1 vs.size) (fun i y hy=>by
    have:=h (i+1) y (by simpa using hy)
    have e:(vs.extract 1 vs.size).getD i Go.undef=vs.getD (i+1) Go.undef:=by
     simp only[Array.getD_eq_getD_getElem?,Array.getElem?_extract]
     by_cases hh:i<min vs.size vs.size - 1
     ·rw[if_pos hh];congr 2;omega
     ·rw[if_neg hh,Array.getElem?_eq_none (by omega)]
    rw[e];exact this)
   refine⟨by simp[AV.renL,h1],fun i y hy=>?_⟩
   cases i with
   | zero=>
     simp only[AV.renL,List.getElem?_cons_zero,Option.some.injEq] at hy
     subst hy
     exact qN hw hi hf x _ (h 0 x (by simp))
   | succ i=>
     simp only[AV.renL,List.getElem?_cons_succ] at hy
     have:=h2 i y hy
     have e:(vs.extract 1 vs.size).getD i Go.undef=vs.getD (i+1) Go.undef:=by
      simp only[Array.getD_eq_getD_getElem?,Array.getElem?_extract]
      by_cases hh:i<min vs.size vs.size - 1
      ·rw[if_pos hh];congr 2;omega
      ·rw[if_neg hh,Array.getElem?_eq_none (by omega)]
     rw[e] at this;exact this
end
theorem jV {m0:Nat}{f:Nat->Option Nat}{sto:List (Nat×Blk)}{x:Nat}:∀ (l:List Nat) (k:Nat),lookB x (eF m0 f sto l k)=if k<=x then (match l[x - k]? with | some r=>(lookB r sto).ren f | none=>.none) else .none
 | [],k=>by simp[eF,lookB]
 | r::q,k=>by
   rw[eF,lookB]
   simp only
   by_cases h:k=x
   ·subst h;simp
   ·rw[if_neg h,jV q (k+1)]
    by_cases hk:k<=x
    ·rw[if_pos (by omega),if_pos hk,show x - k=(x - (k+1))+1 by omega]
     simp
    ·rw[if_neg (by omega),if_neg hk]
section
variable {P:Program}{c:Ctx}{κ0 κ:Kap}{N:Nat}{s:St}{a:Act}{w:World}
theorem Rel.clip (h:Rel c κ0 N s a w κ)(keep:List Nat):Rel c κ0 N (clip keep s) a w κ:=by
 have e:(Go.Ab.clip keep s).σ=s.σ:=by funext r;exact kr s.sto [] r rfl
 refine⟨h.w_eq,h.ext0,by rw[e];exact h.rel,h.left,fun i=>?_,h.size,h.defers,h.fresh⟩
 simp only[Go.Ab.clip,St.E]
 rw[nh keep (fun i=>look i s.env) i]
 split
 ·exact h.env i
 ·exact .any _
theorem Rel.clip0 (h:Rel c κ0 N s a w κ)(keep:List Nat):Rel c κ0 N (clip0 keep s) a w κ:=by
 refine⟨h.w_eq,h.ext0,h.rel,h.left,fun i=>?_,h.size,h.defers,h.fresh⟩
 simp only[Go.Ab.clip0,St.E]
 rw[nh keep (fun i=>look i s.env) i]
 split
 ·exact h.env i
 ·exact .any _
theorem Rel.norm (h:Rel c κ0 N s a w κ){m0:Nat}(h0:∀ r,m0<=r->κ0.nm r=none)(keep:List Nat):∃ κ',Rel c κ0 N (norm m0 keep s) a w κ':=by
 obtain⟨hnd,hge⟩:=Ll m0 keep s
 let os:=OL m0 keep s
 let f:=dy m0 os
 let nm':Nat->Option Den:=fun n=>if n<m0 then κ.nm n else match os[n - m0]? with | some r=>κ.nm r | none=>none
 let κ':Kap:=⟨κ.w,nm',κ.imm⟩
 have hf:∀ r r',f r=some r'->κ'.nm r'=κ.nm r:=by
  intro r r' hr
  simp only[f,dy] at hr
  split at hr
  ·cases hr;rename_i hlt;simp[κ',nm',hlt]
  ·obtain⟨h1,h2⟩:=tP os m0 hr
   simp only[κ',nm']
   rw[if_neg (by omega),h2]
 have he0:Ext κ0 κ':=by
  refine⟨h.ext0.imm,h.ext0.cell,fun r d hr=>?_,h.ext0.obj⟩
  have hlt:r<m0:=by
   rcases Nat.lt_or_ge r m0 with h1 | h1
   ·exact h1
   ·rw[h0 r h1] at hr;cases hr
  simp only[κ',nm',if_pos hlt]
  exact h.ext0.nm r d hr
 have hS:=h.rel
 have hlook:∀ n,(Go.Ab.norm m0 keep s).σ n=if n<m0 then (lookB n s.sto).ren f else match os[n - m0]? with | some r=>(lookB r s.sto).ren f | none=>.none:=by
  intro n
  show lookB n (eF m0 f s.sto (List.range m0++os) 0)=_
  rw[jV,if_pos (Nat.zero_le _),Nat.sub_zero]
  by_cases hn:n<m0
  ·rw[if_pos hn,List.getElem?_append_left (by simpa using hn),List.getElem?_range hn]
  ·rw[if_neg hn,List.getElem?_append_right (by simp;omega)]
   simp only[List.length_range]
 have hold:∀ n,(Go.Ab.norm m0 keep s).σ n≠.none->∃ r,(Go.Ab.norm m0 keep s).σ n=(lookB r s.sto).ren f/\κ'.nm n=κ.nm r/\(lookB r s.sto)≠.none/\((n<m0/\r=n)\/(m0<=n/\os[n - m0]? = some r)):=by
  intro n hn
  rw[hlook] at hn ⊢
  by_cases hlt:n<m0
  ·rw[if_pos hlt] at hn ⊢
   refine⟨n,rfl,by simp[κ',nm',hlt],fun e=>hn (by rw[e];rfl),.inl ⟨hlt,rfl⟩⟩
  ·rw[if_neg hlt] at hn ⊢
   cases hr:os[n - m0]? with
   | none=>rw[hr] at hn;exact absurd rfl hn
   | some r=>
     rw[hr] at hn
     simp only at hn ⊢
     refine⟨r,rfl,?_,fun e=>hn (by rw[e];rfl),.inr ⟨by omega,rfl⟩⟩
     simp only[κ',nm']
     rw[if_neg hlt,hr]
 have hinj:∀ n n' r,((n<m0/\r=n)\/(m0<=n/\os[n - m0]? = some r))->((n'<m0/\r=n')\/(m0<=n'/\os[n' - m0]? = some r))->n=n':=by
  intro n n' r h1 h2
  rcases h1 with ⟨a1,a2⟩ | ⟨a1,a2⟩<;>rcases h2 with ⟨b1,b2⟩ | ⟨b1,b2⟩
  ·omega
  ·have:=hge r (List.mem_of_getElem? b2);omega
  ·have:=hge r (List.mem_of_getElem? a2);omega
  ·have hlt:n - m0<os.length:=(List.getElem?_eq_some_iff.1 a2).1
   have:=(List.getElem?_inj hlt hnd).1 (a2.trans b2.symm)
   omega
 refine⟨κ',h.w_eq,he0,⟨fun n=>?_,fun n n' d d' b h1 h2 hne hd hd' hb=>?_,fun n d b h1 hd hb=>?_,hS.immLt,hS.glob⟩,⟨h.left.os,h.left.tape,h.left.output,h.left.size,h.left.block,h.left.imm⟩,fun i=>?_,h.size,h.defers,fun r hr=>?_⟩
 ·by_cases hn:(Go.Ab.norm m0 keep s).σ n = .none
  ·rw[hn];trivial
  ·obtain⟨r,e1,e2,e3,_⟩:=hold n hn
   rw[e1]
   have hB:=hS.blk r
   have hB:eA κ r (lookB r s.sto):=hB
   cases hl:lookB r s.sto with
   | none=>exact absurd hl e3
   | cells T b l=>
     rw[hl] at hB
     rcases hB with ⟨k1,k2,k3⟩ | ⟨bb,n',cs,k1,k2,k3,k4,k5,k6,k7⟩
     ·exact .inl ⟨k1,by rw[k2];simp only[AV.renL],by rw[e2];exact k3⟩
     obtain⟨q1,q2⟩:=ed (κ:=κ) (κ':=κ') rfl rfl hf l cs k6
     exact .inr ⟨bb,n',cs,by rw[e2];exact k1,k2,k3,by rw[q1];exact k4,fun hb=>by rw[q1];exact k5 hb,q2,k7⟩
   | tok e sz=>
     rw[hl] at hB
     rcases hB with k1 | ⟨g,n',cap,cur,k1,k2⟩
     ·exact .inl (by rw[e2];exact k1)
     exact .inr ⟨g,n',cap,cur,by rw[e2];exact k1,k2⟩
   | bts e l=>
     rw[hl] at hB
     obtain⟨b,n',cs,fz,k1,k2⟩:=hB
     exact⟨b,n',cs,fz,by rw[e2];exact k1,k2⟩
 ·obtain⟨r,e1,e2,e3,e4⟩:=hold n h1
  obtain⟨r',f1,f2,f3,f4⟩:=hold n' h2
  rw[e2] at hd;rw[f2] at hd'
  refine hS.apart r r' d d' b e3 f3 ?_ hd hd' hb
  rintro rfl
  exact hne (hinj n n' r e4 f4)
 ·obtain⟨r,e1,e2,e3,e4⟩:=hold n h1
  rw[e2] at hd
  exact hS.mine r d b e3 hd hb
 ·show ARel κ' (look i (keep.map fun i=>(i,(s.E i).ren f))) _
  rw[nh keep (fun i=>(s.E i).ren f) i]
  split
  ·exact qN (κ:=κ) (κ':=κ') rfl rfl hf _ _ (h.env i)
  ·exact .any _
 ·have hr':m0+os.length<=r:=hr
  simp only[κ',nm']
  rw[if_neg (by omega),List.getElem?_eq_none (by omega)]
end
theorem Wk.norm (m0:Nat)(keep:List Nat)(s:St):Wk m0 s (norm m0 keep s):=fun c κ0 κ N a w h0 hr=>hr.norm h0 keep
section
variable {P:Program}{c:Ctx}{κ0 κ:Kap}{N:Nat}{s:St}{a:Act}{w:World}
def fI (κ:Kap)(σ:ap)(b:Nat):Prop:=∃ r d,σ r≠.none/\κ.nm r=some d/\d.block=some b
theorem fI.lt {σ:ap}{b:Nat}(hS:SRel c κ σ)(h:fI κ σ b):b<κ.w.heap.size:=by
 obtain⟨r,d,h1,h2,h3⟩:=h
 exact (hS.blk r).lt h1 h2 h3
def Jy (κ:Kap)(σ:ap)(G:Nat->List PV):Ctx:=⟨κ.w,fI κ σ,G,true⟩
def Ctx.round (c:Ctx):Ctx:=⟨c.w0,c.lent,c.G,true⟩
theorem Rel.rebase (h:Rel c κ0 N s a w κ)(nmb:Nat->Option Den)(hn:∀ r d,nmb r=some d->κ.nm r=some d):Rel (Jy κ s.σ c.G) ⟨κ.w,nmb,κ.imm⟩ N s a w κ:=by
 have hS:=h.rel
 refine⟨h.w_eq,⟨fun _ _ h=>h,fun _ _ _ _ h=>h,hn,fun _ _ h _=>h⟩,⟨hS.blk,hS.apart,fun r d b h1 h2 h3=>.inr ⟨r,d,h1,h2,h3⟩,hS.immLt,hS.glob.1,fun g hg=>?_⟩,
  ⟨rfl,rfl,rfl,Nat.le_refl _,fun _ _ _=>rfl,fun _ _ h=>.inl h⟩,h.env,h.size,.inl rfl,h.fresh⟩
 obtain⟨h1,h2,cs,T,fz,h3,h4⟩:=hS.glob.2 g hg
 refine⟨(Array.getElem?_eq_some_iff.1 h3).1,?_,cs,T,fz,h3,h4⟩
 rintro⟨r,d,k1,k2,k3⟩
 exact ek h1 h2 (hS.mine r d g k1 k2 k3)
theorem Rel.upward (h:Rel c κ0 N s a w κ){nmb:Nat->Option Den}{s1:St}{a1:Act}{w1:World}{κ1:Kap}(h1:Rel (Jy κ s.σ c.G) ⟨κ.w,nmb,κ.imm⟩ N s1 a1 w1 κ1)(he:Ext κ0 ⟨κ.w,nmb,κ.imm⟩) :
  Ext κ0 κ1/\SRel c κ1 s1.σ/\Left c κ0.imm κ1:=by
 have hl0:=h.left
 have hL:=h1.left
 have hS:=h1.rel
 have hlm:∀ b,fI κ s.σ b->c.mine b:=fun b ⟨r,d,h1,h2,h3⟩=>h.rel.mine r d b h1 h2 h3
 have hmine:∀ b,(Jy κ s.σ c.G).mine b->c.mine b:=by
  intro b hb
  rcases hb with hb | hb
  ·exact .inl (Nat.le_trans hl0.size hb)
  ·exact hlm b hb
 refine⟨he.trans h1.ext0,⟨hS.blk,hS.apart,fun r d b h1 h2 h3=>hmine b (hS.mine r d b h1 h2 h3),hS.immLt,hS.glob.1,fun g hg=>?_⟩,
  ⟨hL.os.trans hl0.os,hL.tape.trans hl0.tape,hL.output.trans hl0.output,Nat.le_trans hl0.size hL.size,fun b hlt hl=>?_,fun b o hi=>?_⟩⟩
 ·obtain⟨g1,g2,cs,T,fz,g3,g4⟩:=h.rel.glob.2 g hg
  exact⟨g1,g2,cs,T,fz,(hL.block g (Array.getElem?_eq_some_iff.1 g3).1 fun hl=>ek g1 g2 (hlm g hl)).trans g3,g4⟩
 ·refine (hL.block b (Nat.lt_of_lt_of_le hlt hl0.size) fun hn=>?_).trans (hl0.block b hlt hl)
  rcases hlm b hn with h4 | h4
  ·omega
  ·exact hl h4
 ·rcases hL.imm b o hi with h1 | h1
  ·exact hl0.imm b o h1
  ·exact .inr (hmine b h1)
theorem Rel.lift (h:Rel c κ0 N s a w κ){s1:St}{a1:Act}{w1:World}{κ1:Kap}(h1:Rel (Jy κ s.σ c.G) κ N s1 a1 w1 κ1):Rel c κ0 N ⟨s.env,s1.sto,s1.next⟩ a w1 κ1:=by
 obtain⟨k1,k2,k3⟩:=h.upward (nmb:=κ.nm) h1 h.ext0
 exact⟨h1.w_eq,k1,k2,k3,fun i=>(h.env i).ext h1.ext0,h.size,h.defers.ext h1.ext0,h1.fresh⟩
theorem Rel.lift2 (h:Rel c κ0 N s a w κ){s1:St}{a1:Act}{w1:World}{κ1:Kap}(h1:Rel (Jy κ s.σ c.G) κ N s1 a1 w1 κ1):Rel c.round κ0 N s1 a1 w1 κ1:=by
 obtain⟨k1,k2,k3⟩:=h.upward (nmb:=κ.nm) h1 h.ext0
 exact⟨h1.w_eq,k1,⟨k2.blk,k2.apart,k2.mine,k2.immLt,k2.glob⟩,⟨k3.os,k3.tape,k3.output,k3.size,k3.block,k3.imm⟩,h1.env,h1.size,.inl rfl,h1.fresh⟩
theorem Wk.sub {m0:Nat}{s':St}(hW:Wk m0 s s')(h0:∀ r,m0<=r->κ0.nm r=none)(h:Rel c κ0 N s a w κ) :
  ∃ κ',Rel c κ0 N s' a w κ'/\(∀ b o,κ.imm b o->κ'.imm b o)/\∀ b,fI κ' s'.σ b->fI κ s.σ b:=by
 let nmb:Nat->Option Den:=fun r=>if r<m0 then κ.nm r else none
 have hr:=h.rebase nmb (fun r d hd=>by
  simp only[nmb] at hd
  split at hd
  ·exact hd
  ·cases hd)
 obtain⟨κ',h'⟩:=hW _ ⟨κ.w,nmb,κ.imm⟩ κ N a w (fun r hr=>by simp only[nmb];rw[if_neg (by omega)]) hr
 have he0:Ext κ0 ⟨κ.w,nmb,κ.imm⟩:=by
  refine⟨h.ext0.imm,h.ext0.cell,fun r d hd=>?_,h.ext0.obj⟩
  have hlt:r<m0:=by
   rcases Nat.lt_or_ge r m0 with h1 | h1
   ·exact h1
   ·rw[h0 r h1] at hd;cases hd
  simp only[nmb]
  rw[if_pos hlt];exact h.ext0.nm r d hd
 obtain⟨k1,k2,k3⟩:=h.upward h' he0
 have hw:κ'.w=κ.w:=h'.w_eq.trans h.w_eq.symm
 have hm:dh c κ' a.defers:=by
  rcases h.defers with hm | ⟨Ds,m1,m2,m3⟩
  ·exact .inl hm
  ·exact .inr ⟨Ds,m1,m2,fun D hD=>⟨(m3 D hD).1,by rw[hw];exact (m3 D hD).2⟩⟩
 refine⟨κ',⟨h'.w_eq,k1,k2,k3,h'.env,h'.size,hm,h'.fresh⟩,fun b o hi=>h'.ext0.imm b o hi,fun b hn=>?_⟩
 have hlt:=hn.lt h'.rel
 obtain⟨r,d,q1,q2,q3⟩:=hn
 rcases h'.rel.mine r d b q1 q2 q3 with h4 | h4
 ·rw[hw] at hlt;exact absurd hlt (Nat.not_lt.2 h4)
 ·exact h4
theorem Rel.turn (h:Rel c κ0 N s a w κ)(hk:κ0.w.heap.size<=c.w0.heap.size){w':World}(h1:w'.os=w.os)(h2:w'.tape=w.tape)(h3:w'.output=w.output)(h4:w.heap.size<=w'.heap.size)
  (h5:∀ (b:Nat) (o:Obj),w.heap[b]? = some o->GB o=true->w'.heap[b]? = some o) (h6:∀ b,b<c.w0.heap.size->w'.heap[b]? = w.heap[b]?) {ds:List Deferred} (hm:dh c ⟨w',κ.nm,κ.imm⟩ ds) :
  Rel c κ0 N s ⟨a.tmps,ds⟩ w' ⟨w',κ.nm,κ.imm⟩:=by
 have hw:=h.w_eq
 subst hw
 have hc:∀ b o v,κ.w.cell? ⟨b,o,none⟩=some v->w'.cell? ⟨b,o,none⟩=some v:=fun b o v hv=>by
  obtain⟨q,hq,hqc⟩:=cells_of_cell hv
  exact (World.cell?_of_block (a:=⟨b,o,none⟩) ((h5 b q hq (by cases q<;>first | rfl | cases hqc)).trans hq.symm)).trans hv
 have hx:∀ x v,ARel κ x v->ARel ⟨w',κ.nm,κ.imm⟩ x v:=fun x v hx=>ARel.extC (κ:=κ) (κ':=⟨w',κ.nm,κ.imm⟩) (fun _ _ h=>h) (fun b o v _ hv=>hc b o v hv) (fun _ _ h=>h) hx
 have hS:=h.rel
 refine⟨rfl,⟨h.ext0.imm,fun b o v hi hv=>hc _ _ _ (h.ext0.cell b o v hi hv),h.ext0.nm,fun b o ho hb=>?_⟩,⟨fun r=>?_,hS.apart,hS.mine,fun b o hi=>Nat.lt_of_lt_of_le (hS.immLt b o hi) h4,fun g o p hp=>?_,fun g hg=>?_⟩,
  ⟨h1.trans h.left.os,h2.trans h.left.tape,h3.trans h.left.output,Nat.le_trans h.left.size h4,fun b hb hl=>(h6 b hb).trans (h.left.block b hb hl),h.left.imm⟩,fun i=>hx _ _ (h.env i),h.size,hm,h.fresh⟩
 ·exact (h6 b (Nat.lt_of_lt_of_le (Array.getElem?_eq_some_iff.1 ho).1 hk)).trans (h.ext0.obj b o ho hb)
 ·refine (hS.blk r).keepC hx (fun _ _ hp=>PRel.mono (w:=κ.w) (w':=w') (imm:=κ.imm) (imm':=κ.imm) (fun _ _ h=>h) (fun b o v _ hv=>hc b o v hv) hp) (fun _ _ h=>h) fun hB d b hd hb=>⟨?_,fun o ho=>ho⟩
  have hlt:=(hS.blk r).lt hB hd hb
  obtain⟨o,ho⟩:∃ o,κ.w.heap[b]? = some o:=⟨_,Array.getElem?_eq_getElem hlt⟩
  exact (h5 b o ho ((hS.blk r).isCells hB hd hb ho)).trans ho.symm
 ·obtain⟨q1,v,q2,q3,q4⟩:=hS.glob.1 g o p hp
  exact⟨q1,v,hc _ _ _ q2,q3,PRel.mono (w:=κ.w) (w':=w') (imm:=κ.imm) (imm':=κ.imm) (fun _ _ h=>h) (fun b o v _ hv=>hc b o v hv) q4⟩
 ·obtain⟨q1,q2,cs,T,fz,q3,q4⟩:=hS.glob.2 g hg
  exact⟨q1,q2,cs,T,fz,h5 g _ q3 rfl,q4⟩
theorem dh.keep {ds:List Deferred}(h:dh c κ ds){w':World}(hk:∀ (D:Nat),κ.w.heap[D]? = some (.deferred (some []))->w'.heap[D]? = some (.deferred (some []))):dh c ⟨w',κ.nm,κ.imm⟩ ds:=by
 rcases h with h | ⟨Ds,m1,m2,m3⟩
 ·exact .inl h
 ·exact .inr ⟨Ds,m1,m2,fun D hD=>⟨(m3 D hD).1,hk D (m3 D hD).2⟩⟩
theorem Rel.below (h:Rel c κ0 N s a w κ)(hk:κ0.w.heap.size<=c.w0.heap.size){w':World}(hb:Below w.heap.size w w'):Rel c κ0 N s a w' ⟨w',κ.nm,κ.imm⟩:=by
 have hw:=h.w_eq
 have hsz:=h.left.size
 rw[hw] at hsz
 exact h.turn hk (ds:=a.defers) hb.os hb.tape hb.output hb.size (fun b o ho _=>(hb.block b (Array.getElem?_eq_some_iff.1 ho).1).trans ho) (fun b hlt=>hb.block b (by omega))
  (h.defers.keep fun D hD=>by rw[hw] at hD;exact (hb.block D (Array.getElem?_eq_some_iff.1 hD).1).trans hD)
theorem Rel.putObj (h:Rel c κ0 N s a w κ)(hk:κ0.w.heap.size<=c.w0.heap.size){l:Nat}{o:Obj}(o':Obj)(hl:w.heap[l]? = some o)(ho:GB o=false)(hc:c.w0.heap.size<=l){ds:List Deferred}
  (hm:dh c ⟨w.putObj l o',κ.nm,κ.imm⟩ ds):Rel c κ0 N s ⟨a.tmps,ds⟩ (w.putObj l o') ⟨w.putObj l o',κ.nm,κ.imm⟩:=
 h.turn (w':=w.putObj l o') hk rfl rfl rfl (by simp) (fun b q hq hqc=>by
  have:b≠l:=by rintro rfl;rw[hl] at hq;cases hq;rw[ho] at hqc;cases hqc
  exact (World.putObj_heap_other this).trans hq) (fun b hb=>World.putObj_heap_other (by omega)) hm
theorem Rel.more (h:Rel c κ0 N s a w κ){im:Nat->Nat->Prop}(h1:∀ b o,im b o->b<w.heap.size)(h2:∀ b o,im b o->fI κ s.σ b->κ.imm b o)(h3:∀ b o,im b o->κ0.imm b o\/c.mine b) :
  Rel c κ0 N s a w ⟨κ.w,κ.nm,fun b o=>κ.imm b o\/im b o⟩:=by
 have hw:=h.w_eq
 subst hw
 have hS:=h.rel
 have he:Ext κ ⟨κ.w,κ.nm,fun b o=>κ.imm b o\/im b o⟩:=⟨fun _ _ h=>.inl h,fun _ _ _ _ h=>h,fun _ _ h=>h,fun _ _ h _=>h⟩
 refine⟨rfl,h.ext0.trans he,⟨fun r=>?_,hS.apart,hS.mine,fun b o ho=>ho.elim (hS.immLt b o) (h1 b o),SRel.glob_ext he hS.glob fun _ _ _=>rfl⟩,⟨h.left.os,h.left.tape,h.left.output,h.left.size,h.left.block,fun b o ho=>ho.elim (h.left.imm b o) (h3 b o)⟩,
  fun i=>(h.env i).ext he,h.size,h.defers.ext he,h.fresh⟩
 by_cases hB:s.σ r = .none
 ·rw[hB];trivial
 ·exact (hS.blk r).keep he fun _ d b hd hb=>⟨rfl,fun o ho=>ho.elim _root_.id fun hi=>h2 b o hi ⟨r,d,hB,hd,hb⟩⟩
theorem lT:∀ (ps:List Nat) (vs:List Value) (x:List PV) (e:List (Nat×AV)) (t:Array Value),(∀ i,ARel κ (look i e) (t.getD i Go.undef))->t.size=N->OE N ps=true->vs.length=ps.length->x.length=ps.length ->
  (∀ (j:Nat) (y:PV),x[j]? = some y->PRel κ.w κ.imm y (vs.getD j Go.undef)) ->
  (∀ i,ARel κ (look i (Gt ps x e)) (((ps.zip vs).foldl (fun t (p,v)=>t.setIfInBounds p v) t).getD i Go.undef))/\((ps.zip vs).foldl (fun (t:Array Value) (p,v)=>t.setIfInBounds p v) t).size=N
 | [],vs,x,e,t,h1,h2,_,_,h5,_=>by
   have:x=[]:=by simpa using h5
   subst this
   exact⟨h1,h2⟩
 | p::ps,[],x,e,t,h1,h2,_,h4,_,_=>by simp at h4
 | p::ps,v::vs,[],e,t,h1,h2,_,_,h5,_=>by simp at h5
 | p::ps,v::vs,x::xs,e,t,h1,h2,h3,h4,h5,h6=>by
   simp only[OE,Bool.and_eq_true,decide_eq_true_eq] at h3
   simp only[Gt,List.zip_cons_cons,List.foldl_cons]
   refine lT ps vs xs ((p,.pv x)::e) (t.setIfInBounds p v) (fun i=>?_) (by simpa using h2) h3.2 (by simpa using h4) (by simpa using h5) (fun j y hy=>by simpa using h6 (j+1) y (by simpa using hy))
   simp only[look]
   by_cases hi:p=i
   ·subst hi
    rw[if_pos rfl]
    have:(t.setIfInBounds p v).getD p Go.undef=v:=by simp[Array.getD_eq_getD_getElem?,h2,h3.1.1]
    rw[this];exact .pv _ _ (by simpa using h6 0 x rfl)
   ·rw[if_neg hi]
    have:(t.setIfInBounds p v).getD i Go.undef=t.getD i Go.undef:=by
     simp only[Array.getD_eq_getD_getElem?,Array.getElem?_setIfInBounds]
     rw[if_neg hi]
    rw[this];exact h1 i
end
def lift (c:Ctx)(κ0:Kap)(N:Nat)(Q:AExit->St->Prop):Exit->Act->World->Prop
 | .normal,a,w=>∃ s κ,Rel c κ0 N s a w κ/\Q .norm s
 | .exit id,a,w=>∃ s κ,Rel c κ0 N s a w κ/\Q (.exit id) s
 | .ret,a,w=>∃ s κ,Rel c κ0 N s a w κ/\Q .ret s
 | _,_,_=>False
theorem jE {F:Fence}{nf:Nat}{P:Program}{co:Code}{Q:Exit->Act->World->Prop}{a:Act}{w:World}(J:Nat->Act->World->Prop)(h:∃ n,J n a w)
  (round:∀ n a w,J n a w->co.wpIn F nf P (Exit.then (fun a' w'=>∃ n',n'<n/\J n' a' w') Q) a w):(Code.loop co).wpIn F nf P Q a w:=by
 classical
 have least:∀ a w,(∃ n,J n a w)->∃ n,J n a w/\∀ k,J k a w->n<=k:=by
  rintro a w ⟨n,hn⟩
  induction n using Nat.strongRecOn with
  | _ n ih=>
    by_cases h:∃ k,k<n/\J k a w
    ·obtain⟨k,h1,h2⟩:=h
     exact ih k h1 h2
    ·exact⟨n,hn,fun k hk=>Nat.le_of_not_lt fun hlt=>h ⟨k,hlt,hk⟩⟩
 let μ:Act->World->Nat:=fun a w=>if h:∃ n,J n a w then Classical.choose (least a w h) else 0
 have hμ:∀ a w n,J n a w->μ a w<=n/\J (μ a w) a w:=by
  intro a w n hn
  have hx:∃ n,J n a w:=⟨n,hn⟩
  simp only[μ,dif_pos hx]
  have:=Classical.choose_spec (least a w hx)
  exact⟨this.2 n hn,this.1⟩
 refine wpIn_loop (fun a w=>∃ n,J n a w) μ h fun a w ⟨n,hn⟩=>?_
 refine wpIn_mono (round _ a w (hμ a w n hn).2) ?_
 intro e a' w' hq
 cases e with
 | normal=>
   obtain⟨n',h1,h2⟩:=hq
   exact⟨⟨n',h2⟩,Nat.lt_of_le_of_lt (hμ a' w' n' h2).1 h1⟩
 | _=>exact hq
section
variable {P:Program}{c:Ctx}{κ0:Kap}{N:Nat}
theorem pW {G:Nat->List PV}{m0:Nat}{Q:AExit->St->Prop}{s:St}(h:vc P G m0 (.ops [⟨none,ji,none⟩] []) Q s):False:=by
 simp[vc,di,bI,Jp,lk,ji,AX.ev,df,aJ] at h
theorem qR {muts:List Nat}{assign body:Code}{g:Operand}{ps:Array Tmp}{f:AX}{Q:AExit->St->Prop}{m0 nf:Nat}{va vb:Nat->(AExit->St->Prop)->St->Prop}{s:St}{a:Act}{w:World}{κ:Kap}
  (hA:∀ (c1:Ctx) (κ1:Kap) (m1 l n:Nat) (Q:AExit->St->Prop) (s:St) (a:Act) (w:World) (κ:Kap),c1.G=c.G->(∀ r,m1<=r->κ1.nm r=none)->κ1.w.heap.size<=c1.w0.heap.size->Rel c1 κ1 N s a w κ->va m1 Q s->assign.wpIn (FR (some l)) n P (lift c1 κ1 N Q) a w)
  (hB:∀ (c1:Ctx) (κ1:Kap) (m1 l n:Nat) (Q:AExit->St->Prop) (s:St) (a:Act) (w:World) (κ:Kap),c1.G=c.G->(∀ r,m1<=r->κ1.nm r=none)->κ1.w.heap.size<=c1.w0.heap.size->Rel c1 κ1 N s a w κ->vb m1 Q s->body.wpIn (FR (some l)) n P (lift c1 κ1 N Q) a w)
  (hg:cX g=some f) (hps:OE N ps.toList=true) (h0:∀ r,m0<=r->κ0.nm r=none) (hk:κ0.w.heap.size<=c.w0.heap.size) (hR:Rel c κ0 N s a w κ) (hv:I4 P c.G va vb m0 f ps.toList Q s) :
  (Code.rangeFunc g ps assign body).wpIn (FR none) nf P (lift c κ0 N Q) a w:=by
 obtain⟨I,s0,hW,hI0,hv⟩:=hv
 obtain⟨κ,hR⟩:=hW c κ0 κ N a w h0 hR
 have hw:=hR.w_eq
 subst hw
 simp only[aJ] at hv
 split at hv
 rotate_left
 ·exact hv.elim
 rename_i p hp
 obtain⟨hfs,lb,xs,hlb,⟨hcal,hseq⟩,hrnd,hdone⟩:=hv
 obtain⟨vs,us,hfun,hvs,hus,_,hu1⟩:=DJ (aC (κ:=κ) (E:=s0.E) (a:=a) hg (fun i _=>hR.env i)) hp
 have hvs0:vs = #[]:=by rw[hfs] at hvs;exact Array.eq_empty_of_size_eq_zero hvs
 subst hvs0
 have hc0:c.w0.heap.size<=κ.w.heap.size:=hR.left.size
 refine wpIn_rangeFunc fun fn _=>?_
 let D:=κ.w.heap.size
 let L:LoopState->Option Code->Obj:=fun st pe=>.loop { state:=st,pending:=pe,fn:=fn,tmps:=a.tmps,params:=ps,assign:=assign,body:=body,defers:=D }
 let W1:=(κ.w.alloc (.deferred (some []))).alloc (L .ready none)
 have g1:W1.heap[D+1]? = some (L .ready none):=by
  have:=World.alloc_heap_new (κ.w.alloc (.deferred (some []))) (L .ready none)
  rwa [World.size_alloc] at this
 have g2:W1.heap[D]? = some (.deferred (some [])):=(Below.heap_alloc _ _ _ (by simp[D])).trans (World.alloc_heap_new κ.w _)
 have gb:Below κ.w.heap.size κ.w W1:=((Below.refl _ κ.w).alloc (Nat.le_refl _) _).alloc (by simp) _
 have hR1:=hR.below hk gb
 have he1:Ext κ ⟨W1,κ.nm,κ.imm⟩:=⟨fun _ _ h=>h,fun b o v hi hc=>(World.cell?_of_block (a:=⟨b,o,none⟩) (gb.block b (World.block_lt_of_cell? κ.w _ hc))).trans hc,fun _ _ h=>h,fun b o ho _=>(gb.block b (Array.getElem?_eq_some_iff.1 ho).1).trans ho⟩
 have hlt:∀ {W:World} {o:Obj} {k:Nat},W.heap[k]? = some o->k<W.heap.size:=fun h=>(Array.getElem?_eq_some_iff.1 h).1
 have hDs:∀ {Ds:List Nat},a.defers=Ds.map Jc->(c.rnd=true\/D∉Ds):=by
  intro Ds hd
  rcases hR.defers with h | ⟨Es,m1,m2,m3⟩
  ·exact .inl h
  ·refine .inr fun hm=>?_
   have:Jc D∈Es.map Jc:=by rw[<- m1,hd];exact List.mem_map.2 ⟨D,hm,rfl⟩
   obtain⟨E,hE,hEe⟩:=List.mem_map.1 this
   have hED:E=D:=by simpa[Jc] using hEe
   have:=hlt (m3 E hE).2
   omega
 have markD:∀ {W:World} {κ':Kap} {o':Obj},dh c κ' a.defers->κ'.w=W->W.heap[D]? = some (.deferred (some []))->W.heap[D+1]?≠none->(∀ k:Nat,k≠D+1->(W.putObj (D+1) o').heap[k]? = W.heap[k]?)->(∀ q,W.heap[D+1]?≠some (.deferred q))->dh c ⟨W.putObj (D+1) o',κ'.nm,κ'.imm⟩ (Jc D::a.defers):=by
  intro W κ' o' hm hw hD _ hput hnd
  have hkeep:∀ (E:Nat),W.heap[E]? = some (.deferred (some []))->(W.putObj (D+1) o').heap[E]? = some (.deferred (some [])):=fun E hE=>by
   rw[hput E (by rintro rfl;exact hnd _ hE)];exact hE
  rcases hm with h | ⟨Es,m1,m2,m3⟩
  ·exact .inl h
  ·rcases hDs m1 with h | h
   ·exact .inl h
   ·refine .inr ⟨D::Es,by rw[m1];rfl,List.nodup_cons.2 ⟨h,m2⟩,fun E hE=>?_⟩
    rcases List.mem_cons.1 hE with rfl | hE
    ·exact⟨hc0,hkeep _ hD⟩
    ·exact⟨(m3 E hE).1,hkeep _ (by rw[<- hw];exact (m3 E hE).2)⟩
 let J:Nat->(Nat->Nat->Prop)->World->Prop:=fun i O W=>∃ s' κ',I i s'/\Rel c κ0 N s' a W κ'/\(∀ b o,O b o↔((fI κ' s'.σ b/\¬ κ'.imm b o)\/b=D\/b=D+1))/\W.heap[D+1]? = some (L .ready none)/\W.heap[D]? = some (.deferred (some []))
 let Jx:World->Prop:=fun W=>∃ cd s' κ',((cd = .ret/\Q .ret s')\/∃ id,cd = .exit id/\Q (.exit id) s')/\Rel c κ0 N s' a W κ'/\W.heap[D+1]? = some (L .done (some cd))/\W.heap[D]? = some (.deferred (some []))
 refine⟨D+1,[Jc D],W1,{ target:=.fn (.func p.1) us,args:=#[.func (.yield (D+1)) #[] #[]] },W1,p.1,#[.func (.yield (D+1)) #[] #[]]++us,W1,run_enterLoop_outer _ _ _ _ _,?_,fun _ _=>trivial,?_,fun h=>absurd h (uK none),?_⟩
 ·simp only[resolve,hfun];simp[go_sem]
 ·simp[invoke,go_sem,fj hcal]
 have hmain:=hseq W1 κ.imm us (D+1) J Jx (fun b o=>(fI κ s0.σ b/\¬ κ.imm b o)\/b=D\/b=D+1) hR1.rel.glob.ok (fun b o hi=>?_) (hus.trans (by simpa using (bK hlb).symm)) (fun i x hx=>?_) ?_ ?_ ?_ ⟨s0,_,hI0,hR1,fun _ _=>Iff.rfl,g1,g2⟩
 ·refine CallsIn.mono (show CallsIn (FR none) (nf - 1) P p.1 _ W1 _ from (callsIn_wide (n:=nf - 1)).2 ((callsIn_wide (n:=0)).1 hmain)) ?_
  rintro e W2 ⟨⟨v,rfl⟩,⟨O',s',κ',hI,hR',hO,hL,hD⟩ | ⟨cd,s',κ',hQ,hR',hL,hD⟩⟩
  ·have hRe:=hR'.putObj hk (L .exhausted none) hL rfl (by omega) (markD hR'.defers hR'.w_eq hD (by rw[hL];simp) (fun k hk=>World.putObj_heap_other hk) (fun q hq=>by rw[hL] at hq;cases hq))
   exact⟨none,_,run_endLoop hL (by simp),s',_,hRe,hdone s' hI⟩
  ·have hRe:=hR'.putObj hk (L .exhausted (some cd)) hL rfl (by omega) (markD hR'.defers hR'.w_eq hD (by rw[hL];simp) (fun k hk=>World.putObj_heap_other hk) (fun q hq=>by rw[hL] at hq;cases hq))
   refine⟨some cd,_,run_endLoop hL (by simp),?_⟩
   rcases hQ with ⟨rfl,hQ⟩ | ⟨id,rfl,hQ⟩
   ·exact wpIn_ret ⟨s',_,hRe,hQ⟩
   ·exact wpIn_exit ⟨s',_,hRe,hQ⟩
 ·have h1:=hR.rel.immLt b o hi
  refine⟨Nat.lt_of_lt_of_le h1 gb.size,?_⟩
  rintro (⟨_,h⟩ | h | h)
  ·exact h hi
  ·omega
  ·omega
 ·obtain⟨y,hy,hq⟩:=bX hlb i x hx
  exact bG hq ((hu1 i y hy).ext he1)
 ·rintro i O W W' ⟨s',κ',q1,q2,q3,q4,q5⟩ hb
  exact⟨s',_,q1,q2.below hk hb,q3,(hb.block _ (hlt q4)).trans q4,(hb.block _ (hlt q5)).trans q5⟩
 ·rintro i O W b o ⟨s',κ',q1,q2,q3,q4,q5⟩ ho
  rcases (q3 b o).1 ho with ⟨h,_⟩ | rfl | rfl
  ·have:=h.lt q2.rel
   rwa [q2.w_eq] at this
  ·exact hlt q5
  ·exact hlt q4
 ·rintro m i x O W vals imm' kp ⟨s',κ',hI,hR',hO,hL,hD⟩ hx hsz hpx him hkp hkO
  have hw':=hR'.w_eq
  subst hw'
  obtain⟨hlen,hva⟩:=hrnd i x s' hx hI
  have hnot:∀ b o,kp b o->fI κ' s'.σ b->κ'.imm b o:=fun b o h hn=>Classical.byContradiction fun hc=>(hkO b o h).2 ((hO b o).2 (.inl ⟨hn,hc⟩))
  have hneD:∀ b o,kp b o->b≠D/\b≠D+1:=fun b o h=>⟨fun e=>(hkO b o h).2 ((hO b o).2 (.inr (.inl e))),fun e=>(hkO b o h).2 ((hO b o).2 (.inr (.inr e)))⟩
  have hM:=hR'.more (im:=imm') (fun b o h=>(hkO b o (hkp b o h)).1) (fun b o h hn=>hnot b o (hkp b o h) hn) (fun b o h=>by
   rcases him b o h with h | h
   ·exact hR.left.imm b o h
   ·exact .inr (.inl (by have:=gb.size;omega)))
  obtain⟨e1,e2⟩:=lT (κ:=⟨κ'.w,κ'.nm,fun b o=>κ'.imm b o\/imm' b o⟩) (N:=N) ps.toList vals.toList x s'.env a.tmps hM.env hM.size hps (by simp[hsz,hlen]) hlen (fun j y hy=>by
   rw[<- aE]
   exact (hpx j y hy).mono (fun _ _ h=>.inr h) (fun _ _ _ _ h=>h))
  have hfold:(ps.zip vals).foldl (fun (t:Array Value) (p,v)=>t.setIfInBounds p v) a.tmps=(ps.toList.zip vals.toList).foldl (fun (t:Array Value) (p,v)=>t.setIfInBounds p v) a.tmps:=by
   rw[<- Array.foldl_toList,Array.toList_zip]
  rw[<- hfold] at e1 e2
  have hP:Rel c κ0 N ⟨Gt ps.toList x s'.env,s'.sto,s'.next⟩ ⟨(ps.zip vals).foldl (fun (t:Array Value) (p,v)=>t.setIfInBounds p v) a.tmps,[]⟩ κ'.w ⟨κ'.w,κ'.nm,fun b o=>κ'.imm b o\/imm' b o⟩:=
   ⟨rfl,hM.ext0,hM.rel,hM.left,e1,e2,dh.nil _ _,hM.fresh⟩
  have hb1:=hP.rebase κ'.nm (fun _ _ h=>h)
  refine⟨fn,_,assign,body,run_yield hL (by simp[hsz,hlen]),roundIn_of_wpIn trivial (Go.wpIn_mono (hA (Jy ⟨κ'.w,κ'.nm,fun b o=>κ'.imm b o\/imm' b o⟩ s'.σ c.G) ⟨κ'.w,κ'.nm,fun b o=>κ'.imm b o\/imm' b o⟩ s'.next (D+1) m _ _ _ _ _ rfl (fun r hr=>hR'.fresh r hr) (Nat.le_refl _) hb1 hva) ?_)⟩
  intro e a2 w2 hq
  cases e with
  | exit id=>obtain⟨_,_,_,hf⟩:=hq;exact hf.elim
  | ret=>obtain⟨_,_,_,hf⟩:=hq;exact hf.elim
  | goto t=>exact hq.elim
  | panic ch=>exact hq.elim
  | outgrown=>exact hq.elim
  | normal=>
    obtain⟨s2,κ2,hR2,hv2⟩:=hq
    have hw2:=hR2.w_eq
    subst hw2
    have hL2:κ2.w.heap[D+1]? = some (L .ready none):=hR2.ext0.obj _ _ hL rfl
    have hD2:κ2.w.heap[D]? = some (.deferred (some [])):=hR2.ext0.obj _ _ hD rfl
    refine⟨_,run_beginRound hL2 rfl,?_⟩
    let W3:=κ2.w.putObj (D+1) (L .busy none)
    have hmk:∀ {K:Kap} {o o':Obj} {ds:List Deferred},dh c K ds->K.w.heap[D+1]? = some o->(∀ q,o≠.deferred q)->dh c ⟨K.w.putObj (D+1) o',K.nm,K.imm⟩ ds:=by
     intro K o o' ds hm hl ho
     exact hm.keep fun E hE=>by
      have:E≠D+1:=by rintro rfl;rw[hl] at hE;cases hE;exact ho _ rfl
      exact (World.putObj_heap_other this).trans hE
    have o2:=hM.lift (s1:=s2) hR2
    have o3:=o2.putObj hk (L .busy none) hL2 rfl (by omega) (hmk o2.defers hL2 (fun q h=>by cases h))
    have i2:=hP.lift2 hR2
    have i3:=i2.putObj (c:=c.round) hk (L .busy none) hL2 rfl (show c.w0.heap.size<=D+1 by omega) (ds:=a2.defers) (.inl rfl)
    have hb3:=i3.rebase κ2.nm (fun _ _ h=>h)
    have hL3:W3.heap[D+1]? = some (L .busy none):=World.putObj_heap_same (hlt hL2)
    have hD3:W3.heap[D]? = some (.deferred (some [])):=(World.putObj_heap_other (by omega)).trans hD2
    refine Go.wpIn_mono (hB (Jy ⟨W3,κ2.nm,κ2.imm⟩ s2.σ c.G) ⟨W3,κ2.nm,κ2.imm⟩ s2.next (D+1) m _ s2 _ W3 _ rfl (fun r hr=>hR2.fresh r hr) (Nat.le_refl _) hb3 hv2) ?_
    intro e a4 w4 hq
    have fin:∀ (s4:St) (κ4:Kap) (jump:Option Code),Rel (Jy ⟨W3,κ2.nm,κ2.imm⟩ s2.σ c.G) ⟨W3,κ2.nm,κ2.imm⟩ N s4 a4 w4 κ4 ->
      let W5:=w4.putObj (D+1) (L (if jump.isNone then .ready else .done) jump)
      (Instr.endRound (D+1) jump).run P w4 = .ok (.bool jump.isNone) W5/\W5.heap[D+1]? = some (L (if jump.isNone then .ready else .done) jump)/\W5.heap[D]? = some (.deferred (some [])) /\
      Rel c κ0 N ⟨s'.env,s4.sto,s4.next⟩ a W5 ⟨W5,κ4.nm,κ4.imm⟩:=by
     intro s4 κ4 jump hR4
     have hw4:=hR4.w_eq
     subst hw4
     have hL4:κ4.w.heap[D+1]? = some (L .busy none):=hR4.ext0.obj _ _ hL3 rfl
     have hD4:κ4.w.heap[D]? = some (.deferred (some [])):=hR4.ext0.obj _ _ hD3 rfl
     have o4:=o3.lift (s1:=s4) hR4
     exact⟨run_endRound jump hL4,World.putObj_heap_same (hlt hL4),(World.putObj_heap_other (by omega)).trans hD4,o4.putObj hk _ hL4 rfl (by omega) (hmk o4.defers hL4 (fun q h=>by cases h))⟩
    cases e with
    | goto t=>exact hq.elim
    | panic ch=>exact hq.elim
    | outgrown=>exact hq.elim
    | ret=>
      obtain⟨s4,κ4,hR4,hq⟩:=hq
      obtain⟨f1,f2,f3,f4⟩:=fin s4 κ4 (some .ret) hR4
      exact⟨_,_,f1,.inr ⟨rfl,.ret,_,_,.inl ⟨rfl,hq⟩,f4,f2,f3⟩⟩
    | exit id=>
      obtain⟨s4,κ4,hR4,hq⟩:=hq
      obtain⟨f1,f2,f3,f4⟩:=fin s4 κ4 (some (.exit id)) hR4
      exact⟨_,_,f1,.inr ⟨rfl,.exit id,_,_,.inr ⟨id,rfl,hq⟩,f4,f2,f3⟩⟩
    | normal=>
      obtain⟨s4,κ4,hR4,s6,hW6,hI6⟩:=hq
      obtain⟨f1,f2,f3,f4⟩:=fin s4 κ4 none hR4
      obtain⟨κ6,hR6,him6,hnm6⟩:=hW6.sub h0 f4
      have hw4:=hR4.w_eq
      subst hw4
      have hlt':∀ b o,kp b o->b<κ'.w.heap.size:=fun b o h=>(hkO b o h).1
      have s12:κ'.w.heap.size<=κ2.w.heap.size:=hR2.left.size
      have s23:κ2.w.heap.size=W3.heap.size:=by simp[W3]
      have s34:W3.heap.size<=κ4.w.heap.size:=hR4.left.size
      have n2:∀ b,b<κ'.w.heap.size->fI κ2 s2.σ b->fI κ' s'.σ b:=by
       rintro b hb ⟨r,d,q1,q2,q3⟩
       rcases hR2.rel.mine r d b q1 q2 q3 with h | h
       ·exact absurd hb (Nat.not_lt.2 h)
       ·exact h
      have n4:∀ b,b<κ'.w.heap.size->fI κ4 s4.σ b->fI κ' s'.σ b:=by
       rintro b hb ⟨r,d,q1,q2,q3⟩
       rcases hR4.rel.mine r d b q1 q2 q3 with h | h
       ·exact absurd (Nat.lt_of_lt_of_le hb (Nat.le_trans s12 (Nat.le_of_eq s23))) (Nat.not_lt.2 h)
       ·exact n2 b hb h
      have i12:∀ b o,κ'.imm b o->κ4.imm b o:=fun b o h=>hR4.ext0.imm b o (hR2.ext0.imm b o (.inl h))
      refine⟨_,_,f1,.inl ⟨rfl,⟨fun b o=>(fI κ6 s6.σ b/\¬ κ6.imm b o)\/b=D\/b=D+1,⟨s6,κ6,hI6,hR6,fun _ _=>Iff.rfl,f2,f3⟩,fun b o hkb=>?_⟩,?_,fun b o v hkb hv=>?_,fun g hg=>?_⟩⟩
      ·rintro (⟨h1,h2⟩ | h | h)
       ·exact h2 (him6 b o (i12 b o (hnot b o hkb (n4 b (hlt' b o hkb) (hnm6 b h1)))))
       ·exact (hneD b o hkb).1 h
       ·exact (hneD b o hkb).2 h
      ·simp;omega
      ·have turn:∀ {X:World} {o':Obj},X.cell? ⟨b,o,none⟩=some v->(X.putObj (D+1) o').cell? ⟨b,o,none⟩=some v:=fun {X o'} h=>
        (World.cell?_of_block (a:=⟨b,o,none⟩) (World.putObj_heap_other (hneD b o hkb).2)).trans h
       by_cases hi:κ'.imm b o
       ·exact turn (hR4.ext0.cell b o v (hR2.ext0.imm b o (.inl hi)) (turn (hR2.ext0.cell b o v (.inl hi) hv)))
       ·have hn:¬ fI κ' s'.σ b:=fun h=>hi (hnot b o hkb h)
        have hb:=hlt' b o hkb
        have k2:κ2.w.cell? ⟨b,o,none⟩=some v:=(World.cell?_of_block (a:=⟨b,o,none⟩) (hR2.left.block b hb hn)).trans hv
        have hb3:b<W3.heap.size:=Nat.lt_of_lt_of_le hb (by omega)
        exact turn ((World.cell?_of_block (a:=⟨b,o,none⟩) (hR4.left.block b hb3 fun h=>hn (n2 b hb h))).trans (turn k2))
      ·have hw6:=hR6.w_eq
       rw[<- hw6]
       exact (hR6.rel.glob.2 g hg).2.2
theorem sP {muts rl:List Nat}:∀ (co:Code) (c:Ctx) (κ0:Kap) (m0:Nat) (ro:Option Nat) (nf:Nat) (ac:ACode) (ex:List (Nat×List Nat)) (out li:List Nat) (Q:AExit->St->Prop) (s:St) (a:Act) (w:World) (κ:Kap),
  (ro=none\/a8 co=false)->(∀ r,m0<=r->κ0.nm r=none)->κ0.w.heap.size<=c.w0.heap.size ->
  bd P muts N rl co ex out=some (ac,li)->Rel c κ0 N s a w κ->vc P c.G m0 ac Q s->co.wpIn (FR ro) nf P (lift c κ0 N Q) a w:=by
 intro co
 induction co with
 | skip=>
   intro c κ0 m0 ro nf ac ex out li Q s a w κ hro h0 hk hc hR hv
   simp only[bd,Option.some.injEq,Prod.mk.injEq] at hc
   obtain⟨rfl,_⟩:=hc
   exact wpIn_skip ⟨s,κ,hR,hv⟩
 | exit id=>
   intro c κ0 m0 ro nf ac ex out li Q s a w κ hro h0 hk hc hR hv
   simp only[bd,Option.some.injEq,Prod.mk.injEq] at hc
   obtain⟨rfl,_⟩:=hc
   exact wpIn_exit ⟨s,κ,hR,hv⟩
 | ret=>
   intro c κ0 m0 ro nf ac ex out li Q s a w κ hro h0 hk hc hR hv
   simp only[bd,Option.some.injEq,Prod.mk.injEq] at hc
   obtain⟨rfl,_⟩:=hc
   exact wpIn_ret ⟨s,κ,hR,hv⟩
 | region id ops d=>
   intro c κ0 m0 ro nf ac ex out li Q s a w κ hro h0 hk hc hR hv
   simp only[bd] at hc
   split at hc
   ·rename_i l hl
    cases d with
    | false=>
      simp only[Option.some.injEq,Prod.mk.injEq] at hc
      obtain⟨rfl,_⟩:=hc
      exact wpIn_region_list (d6 (F:=rB Q (oi out)) (fun s a w κ hR hF=>⟨_,κ,hR.clip _,hF⟩) ops.toList l s a w κ hl hR hv)
    | true=>
      simp only at hc
      split at hc
      ·rename_i hok
       simp only[Option.some.injEq,Prod.mk.injEq] at hc
       obtain⟨rfl,_⟩:=hc
       exact mp (F:=rB Q (oi out)) hl hok.1 hok.2.1 hok.2.2 hR hv (fun s a w κ hR hF=>⟨_,κ,hR.clip _,hF⟩)
      ·cases hc
   ·cases hc
 | seq x y ihx ihy=>
   intro c κ0 m0 ro nf ac ex out li Q s a w κ hro h0 hk hc hR hv
   simp only[bd] at hc
   split at hc
   ·rename_i b' lb hb
    split at hc
    ·rename_i a' la ha
     simp only[Option.some.injEq,Prod.mk.injEq] at hc
     obtain⟨rfl,_⟩:=hc
     refine wpIn_seq (Go.wpIn_mono (ihx c κ0 m0 ro nf _ _ _ _ _ s a w κ (hro.imp _root_.id fun h=>by simp only[a8,Bool.or_eq_false_iff] at h;exact h.1) h0 hk ha hR hv) ?_)
     intro e a w hq
     cases e with
     | normal=>
       obtain⟨s,κ,hR,hF⟩:=hq
       exact ihy c κ0 m0 ro nf _ _ _ _ _ s a w κ (hro.imp _root_.id fun h=>by simp only[a8,Bool.or_eq_false_iff] at h;exact h.2) h0 hk hb hR hF
     | exit id=>exact hq
     | ret=>exact hq
     | goto l=>exact hq.elim
     | panic ch=>exact hq.elim
     | outgrown=>exact hq.elim
    ·cases hc
   ·cases hc
 | cond x y z ihy ihz=>
   intro c κ0 m0 ro nf ac ex out li Q s a w κ hro h0 hk hc hR hv
   simp only[bd] at hc
   split at hc
   ·rename_i ax a' la b' lb hx hy hz
    simp only[Option.some.injEq,Prod.mk.injEq] at hc
    obtain⟨rfl,_⟩:=hc
    have hw:=hR.w_eq
    have hrel:=aC (κ:=κ) (E:=s.E) (a:=a) hx (fun i _=>hR.env i)
    simp only[vc,oM] at hv
    split at hv
    ·rename_i he
     rw[he] at hrel
     exact wpIn_cond_true (cN hrel) (ihy c κ0 m0 ro nf _ _ _ _ _ s a w κ (hro.imp _root_.id fun h=>by simp only[a8,Bool.or_eq_false_iff] at h;exact h.1) h0 hk hy hR hv)
    ·rename_i he
     rw[he] at hrel
     exact wpIn_cond_false (cN hrel) (ihz c κ0 m0 ro nf _ _ _ _ _ s a w κ (hro.imp _root_.id fun h=>by simp only[a8,Bool.or_eq_false_iff] at h;exact h.2) h0 hk hz hR hv)
    ·exact hv.elim
   ·cases hc
 | block id b ih=>
   intro c κ0 m0 ro nf ac ex out li Q s a w κ hro h0 hk hc hR hv
   simp only[bd] at hc
   split at hc
   ·rename_i b' lb hb
    simp only[Option.some.injEq,Prod.mk.injEq] at hc
    obtain⟨rfl,_⟩:=hc
    refine wpIn_block (Go.wpIn_mono (ih c κ0 m0 ro nf _ _ _ _ _ s a w κ (hro.imp _root_.id fun h=>by simpa only[a8] using h) h0 hk hb hR hv) ?_)
    intro e a w hq
    cases e with
    | normal=>exact hq
    | ret=>exact hq
    | goto l=>exact hq.elim
    | panic ch=>exact hq.elim
    | outgrown=>exact hq.elim
    | exit id'=>
      obtain⟨s,κ,hR,hF⟩:=hq
      simp only[fO] at hF
      simp only[Exit.inBlock]
      split
      ·rename_i hid
       rw[if_pos hid] at hF
       exact⟨s,κ,hR,hF⟩
      ·rename_i hid
       rw[if_neg hid] at hF
       exact⟨s,κ,hR,hF⟩
   ·cases hc
 | loop b ih=>
   intro c κ0 m0 ro nf ac ex out li Q s a w κ hro h0 hk hc hR hv
   simp only[bd] at hc
   split at hc
   ·rename_i x1 l1 hb1
    split at hc
    ·rename_i x2 l2 hb2
     split at hc
     ·rename_i b' l3 hb
      simp only[Option.some.injEq,Prod.mk.injEq] at hc
      obtain⟨rfl,_⟩:=hc
      obtain⟨I,⟨n0,s0,hs0,hI0⟩,hround⟩:=hv
      let J:Nat->Act->World->Prop:=fun n a w=>∃ s κ,Rel c κ0 N s a w κ/\I n s
      have hJ0:∃ n,J n a w:=by
       obtain⟨κ',hR'⟩:=hs0 c κ0 κ N a w h0 hR
       exact⟨n0,_,κ',hR',hI0⟩
      refine jE J hJ0 fun n a w hJn=>?_
      obtain⟨s,κ,hR,hIs⟩:=hJn
      refine Go.wpIn_mono (ih c κ0 m0 ro nf _ _ _ _ _ s a w κ (hro.imp _root_.id fun h=>by simpa only[a8] using h) h0 hk hb hR (hround _ s hIs)) ?_
      intro e a' w' hq
      cases e with
      | normal=>
        obtain⟨s',κ',hR',n',s'',hn',hs',hI'⟩:=hq
        obtain⟨κ'',hR''⟩:=hs' c κ0 κ' N a' w' h0 hR'
        exact⟨n',hn',_,κ'',hR'',hI'⟩
      | exit id=>
        obtain⟨s',κ',hR',s'',hs',hq'⟩:=hq
        obtain⟨κ'',hR''⟩:=hs' c κ0 κ' N a' w' h0 hR'
        exact⟨s'',κ'',hR'',hq'⟩
      | ret=>exact hq
      | goto l=>exact hq.elim
      | panic ch=>exact hq.elim
      | outgrown=>exact hq.elim
     ·cases hc
    ·cases hc
   ·cases hc
 | rangeFunc g ps x y ihx ihy=>
   intro c κ0 m0 ro nf ac ex out li Q s a w κ hro h0 hk hc hR hv
   rcases hro with rfl | h
   rotate_left
   ·simp[a8] at h
   simp only[bd] at hc
   split at hc
   ·rename_i ax b' lb hxy hx hb hps
    simp only[Bool.or_eq_false_iff] at hxy
    split at hc
    ·rename_i a' la ha
     simp only[Option.some.injEq,Prod.mk.injEq] at hc
     obtain⟨rfl,_⟩:=hc
     simp only[vc] at hv
     exact qR (muts:=muts) (fun c1 κ1 m1 l n Q s a w κ hG g0 gk hR hv=>ihx c1 κ1 m1 (some l) n _ _ _ _ Q s a w κ (.inr hxy.1) g0 gk ha hR (by rw[hG];exact hv))
      (fun c1 κ1 m1 l n Q s a w κ hG g0 gk hR hv=>ihy c1 κ1 m1 (some l) n _ _ _ _ Q s a w κ (.inr hxy.2) g0 gk hb hR (by rw[hG];exact hv)) hx hps h0 hk hR hv
    ·cases hc
   ·simp only[Option.some.injEq,Prod.mk.injEq] at hc;obtain⟨rfl,rfl⟩:=hc;exact (pW hv).elim
 | scope b ih=>intro c κ0 m0 ro nf ac ex out li Q s a w κ hro h0 hk hc hR hv;simp only[bd,Option.some.injEq,Prod.mk.injEq] at hc;obtain⟨rfl,rfl⟩:=hc;exact (pW hv).elim
 | label l=>intro c κ0 m0 ro nf ac ex out li Q s a w κ hro h0 hk hc hR hv;simp only[bd,Option.some.injEq,Prod.mk.injEq] at hc;obtain⟨rfl,rfl⟩:=hc;exact (pW hv).elim
 | goto l=>intro c κ0 m0 ro nf ac ex out li Q s a w κ hro h0 hk hc hR hv;simp only[bd,Option.some.injEq,Prod.mk.injEq] at hc;obtain⟨rfl,rfl⟩:=hc;exact (pW hv).elim
 | refuse y=>intro c κ0 m0 ro nf ac ex out li Q s a w κ hro h0 hk hc hR hv;simp only[bd,Option.some.injEq,Prod.mk.injEq] at hc;obtain⟨rfl,rfl⟩:=hc;exact (pW hv).elim
end
mutual
inductive Nz:PV->PV->Prop
 | refl (p:PV):Nz p p
 | nils:Nz .nils (.list [])
 | agg (cs ds:List PV):NzL cs ds->Nz (.agg cs) (.agg ds)
 | tup (cs ds:List PV):NzL cs ds->Nz (.tup cs) (.tup ds)
 | list (cs ds:List PV):NzL cs ds->Nz (.list cs) (.list ds)
inductive NzL:List PV->List PV->Prop
 | nil:NzL [] []
 | cons (x y:PV) (r q:List PV):Nz x y->NzL r q->NzL (x::r) (y::q)
end
theorem NzL.refl:∀ l:List PV,NzL l l
 | []=>.nil
 | x::r=>.cons x x r r (.refl x) (NzL.refl r)
theorem NzL.length:∀ {l k:List PV},NzL l k->l.length=k.length
 | [],_,h=>by cases h;rfl
 | x::r,_,h=>by cases h with | cons _ y _ q _ h2=>simp[NzL.length h2]
theorem NzL.get:∀ {l k:List PV},NzL l k->∀ (i:Nat) (y:PV),k[i]? = some y->∃ x,l[i]? = some x/\Nz x y
 | [],_,h,i,y,hy=>by cases h;simp at hy
 | x::r,_,h,i,y,hy=>by
   cases h with
   | cons _ y' _ q h1 h2=>
     cases i with
     | zero=>simp at hy;subst hy;exact⟨x,rfl,h1⟩
     | succ i=>exact NzL.get h2 i y (by simpa using hy)
theorem Nz.cells {p q:PV}(h:Nz p q):NzL p.cells q.cells:=by
 cases h with
 | refl=>exact NzL.refl _
 | nils=>exact .cons _ _ _ _ .nils .nil
 | agg cs ds h=>exact h
 | tup cs ds h=>exact .cons _ _ _ _ (.tup _ _ h) .nil
 | list cs ds h=>exact .cons _ _ _ _ (.list _ _ h) .nil
theorem PRel.nz {w:World}{imm:Nat->Nat->Prop}{p:PV}{v:Value}(h:PRel w imm p v):∀ {q:PV},Nz p q->PRel w imm q v:=by
 induction h with
 | undef=>intro q hq;cases hq;exact .undef
 | bool b=>intro q hq;cases hq;exact .bool b
 | int k n=>intro q hq;cases hq;exact .int k n
 | str s hs=>intro q hq;cases hq;exact .str s hs
 | agg cs vs hl hc ih=>
   intro q hq
   cases hq with
   | refl=>exact .agg cs vs hl hc
   | agg _ ds hd=>
     refine .agg ds vs (by rw[hl,hd.length]) fun i y hy=>?_
     obtain⟨x,hx,hxy⟩:=hd.get i y hy
     exact ih i x hx hxy
 | tup cs vs hl hc ih=>
   intro q hq
   cases hq with
   | refl=>exact .tup cs vs hl hc
   | tup _ ds hd=>
     refine .tup ds vs (by rw[hl,hd.length]) fun i y hy=>?_
     obtain⟨x,hx,hxy⟩:=hd.get i y hy
     exact ih i x hx hxy
 | nils=>
   intro q hq
   cases hq with
   | refl=>exact .nils
   | nils=>exact .lnil none 0 (by simp)
 | lnil A c h=>
   intro q hq
   cases hq with
   | refl=>exact .lnil A c h
   | list _ ds hd=>cases hd;exact .lnil A c h
 | list l b off c sz g h1 h2 h3 h4 h5 ih=>
   intro q hq
   cases hq with
   | refl=>exact .list l b off c sz g h1 h2 h3 h4 h5
   | list _ ds hd=>
     have hlen:=hd.length
     have key:=PRel.list (w:=w) (imm:=imm) ds b off c sz g (by omega) h2 (fun i y hy=>by
       obtain⟨x,hx,hxy⟩:=hd.get i y hy
       rw[<- h3 i x hx,hxy.cells.length]) (fun i y j z hy hz=>by
       obtain⟨x,hx,hxy⟩:=hd.get i y hy
       obtain⟨u,hu,huz⟩:=hxy.cells.get j z hz
       exact h4 i x j u hx hu) (fun i y j z hy hz=>by
       obtain⟨x,hx,hxy⟩:=hd.get i y hy
       obtain⟨u,hu,huz⟩:=hxy.cells.get j z hz
       exact ih i x j u hx hu huz)
     rw[<- hlen] at key
     exact key
 | nilp=>intro q hq;cases hq;exact .nilp
 | nilf=>intro q hq;cases hq;exact .nilf
 | clo f fs cs vs us h1 h2 h3 h4 _ _=>intro q hq;cases hq;exact .clo f fs cs vs us h1 h2 h3 h4
 | eptr l b off c sz g i o h1 h2 h3 h4 h5 h6 _=>intro q hq;cases hq;exact .eptr l b off c sz g i o h1 h2 h3 h4 h5 h6
 | gptr g o=>intro q hq;cases hq;exact .gptr g o
 | nili=>intro q hq;cases hq;exact .nili
 | iface T p u h _=>intro q hq;cases hq;exact .iface T p u h
theorem ry (p:PV):Nz p p=True:=eq_true (.refl p)
theorem Lo:Nz .nils (.list [])=True:=eq_true .nils
theorem OP (cs ds:List PV):Nz (.agg cs) (.agg ds)=NzL cs ds:=propext ⟨fun h=>by cases h with | refl=>exact NzL.refl _ | agg _ _ h=>exact h,.agg _ _⟩
theorem OM (cs ds:List PV):Nz (.tup cs) (.tup ds)=NzL cs ds:=propext ⟨fun h=>by cases h with | refl=>exact NzL.refl _ | tup _ _ h=>exact h,.tup _ _⟩
theorem Lp (a b:Bool):Nz (.bool a) (.bool b)=(a=b):=propext ⟨fun h=>by cases h;rfl,fun h=>h▸.refl _⟩
theorem OO (k k':IntKind)(a b:Int):Nz (.int k a) (.int k' b)=(k=k'/\a=b):=propext ⟨fun h=>by cases h;exact⟨rfl,rfl⟩,fun ⟨h,g⟩=>h▸g▸.refl _⟩
theorem ON (a b:List UInt8):Nz (.str a) (.str b)=(a=b):=propext ⟨fun h=>by cases h;rfl,fun h=>h▸.refl _⟩
theorem Lq:NzL [] []=True:=eq_true .nil
theorem GI (x y:PV)(r q:List PV):NzL (x::r) (y::q)=(Nz x y/\NzL r q):=propext ⟨fun h=>by cases h with | cons _ _ _ _ h1 h2=>exact⟨h1,h2⟩,fun ⟨h1,h2⟩=>.cons _ _ _ _ h1 h2⟩
theorem NzL.map {α:Type}{f g:α->PV}(h:∀ x,Nz (f x) (g x)):∀ l:List α,NzL (l.map f) (l.map g)
 | []=>.nil
 | x::r=>.cons _ _ _ _ (h x) (NzL.map h r)
theorem NzL.append:∀ {a b c d:List PV},NzL a b->NzL c d->NzL (a++c) (b++d)
 | [],_,_,_,h,k=>by cases h;exact k
 | x::r,_,_,_,h,k=>by cases h with | cons _ _ _ _ h1 h2=>exact .cons _ _ _ _ h1 (NzL.append h2 k)
end Go.Ab

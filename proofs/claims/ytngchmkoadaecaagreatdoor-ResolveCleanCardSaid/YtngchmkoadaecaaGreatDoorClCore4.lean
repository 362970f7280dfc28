/- A program logic over the model: part 4 (a proof is built on it; nothing of the statement is said here). -/
import Derived.RangeFuncSeq
import Derived.RangeFuncLeaves
import Derived.Test.YtngchmkoadaecaaGreatDoorClCore3
set_option linter.unusedVariables false
set_option linter.unusedSimpArgs false
open Bool renaming and_eq_true->UK
open Option renaming map_some->UM,getD_some->Vb,map_eq_some_iff->Ut
open List renaming mem_map->UO,mem_of_getElem?->Us,all_eq_true->UD,mem_append->UY,getElem?_map->UE,getD_eq_getElem?_getD->Uv,getElem?_eq_some_iff->Ur,range->U1,eq_nil_of_length_eq_zero->UG,getElem?_eq_getElem->Uq,getElem?_take->UL,map_cons->UQ,mem_cons->UP,getElem?_cons_zero->UW
open Array renaming getD_eq_getD_getElem?->Uw,replicate->Vr,getElem?_eq_some_iff->UF,getElem?_setIfInBounds->VC
open Nat renaming lt_or_ge->U6,zero_add->UN,le_refl->UI,zero_le->Vn,le_trans->UX,lt_of_lt_of_le->UZ
open Option.some renaming injEq->Uu
open Prod.mk renaming injEq->Uz
namespace Go.Ab
open Go Go.RowKit
section
variable {P:Program}{c:Ctx}{κ0:Kap}{N:Nat}{ro:Option Nat}{nf:Nat}
theorem DC {md:Region.Mode}{e:Edge}(h:Region.binds .any e=true):Region.binds md e=true:=by
 unfold Region.binds at h ⊢
 split at h
 ·exact absurd h (by decide)
 ·exact absurd h (by decide)
 ·rfl
theorem js {md:Region.Mode}{ops:Array Oper}{listed:Array Bool}{i:Nat}(h:i∈Region.ready md ops listed):∃ o,ops[i]? = some o/\i<ops.size/\listed.getD i true=false/\∀ j∈aQ o,listed.getD j false=true:=by
 unfold Region.ready at h
 simp only[List.mem_filter,List.mem_range,UK,Bool.not_eq_true'] at h
 obtain⟨h1,h2,h3⟩:=h
 refine⟨ops[i],by simp[h1],h1,h2,fun j hj=>?_⟩
 have ho:ops[i]? = some ops[i]:=by simp[h1]
 rw[ho] at h3
 simp only[UM,Vb,Array.all_eq_true_iff_forall_mem,Bool.or_eq_true,Bool.not_eq_true'] at h3
 simp only[aQ,UO,List.mem_filter] at hj
 obtain⟨e,⟨he,hb⟩,rfl⟩:=hj
 rcases h3 e (by simpa using he) with h | h
 ·rw[DC hb] at h;cases h
 ·exact h
theorem nA {md:Region.Mode}{ops:Array Oper}{listed:Array Bool}(hsz:listed.size=ops.size)(hr:Region.ready md ops listed=[])(rank:Nat->Nat)
  (hlt:∀ (i:Nat) (o:Oper),ops[i]? = some o->∀ e∈o.after,Region.binds md e=true->e.on<ops.size/\rank e.on<rank i) :
  ∀ i,i<ops.size->listed.getD i false=true:=by
 have main:∀ n i,rank i=n->i<ops.size->listed.getD i false=true:=by
  intro n
  induction n using Nat.strongRecOn with
  | _ n ih=>
    intro i hin hi
    cases hL:listed.getD i false with
    | true=>rfl
    | false=>
      exfalso
      have hm:i∈Region.ready md ops listed:=by
       unfold Region.ready
       simp only[List.mem_filter,List.mem_range,UK,Bool.not_eq_true']
       have ho:ops[i]? = some ops[i]:=by simp[hi]
       refine⟨hi,?_,?_⟩
       ·have hi':i<listed.size:=by omega
        simp[Uw,hi'] at hL ⊢
        exact hL
       ·rw[ho]
        simp only[UM,Vb,Array.all_eq_true_iff_forall_mem,Bool.or_eq_true,Bool.not_eq_true']
        intro e he
        cases hb:Region.binds md e with
        | false=>exact .inl rfl
        | true=>
          right
          obtain⟨h1,h2⟩:=hlt i _ ho e he hb
          exact ih (rank e.on) (by omega) e.on rfl h1
      rw[hr] at hm;cases hm
 exact fun i hi=>main _ i rfl hi
theorem jt {md:Region.Mode}{ops:Array Oper}(h:sn md ops=true):∃ rank:Nat->Nat,∀ (i:Nat) (o:Oper),ops[i]? = some o->∀ e∈o.after,Region.binds md e=true->e.on<ops.size/\rank e.on<rank i:=by
 unfold sn at h
 simp only at h
 refine⟨fun i=>Q4 i (JA ((kH md ops).zipIdx.map fun p=>(p.2,p.1)).length ((kH md ops).zipIdx.map fun p=>(p.2,p.1)) []),fun i o ho e he hb=>?_⟩
 have hm:(i,(o.after.toList.filter (Region.binds md)).map (·.on))∈(kH md ops).zipIdx.map fun p=>(p.2,p.1):=by
  refine UO.2 ⟨((o.after.toList.filter (Region.binds md)).map (·.on),i),Us (i:=i) ?_,rfl⟩
  simp[List.getElem?_zipIdx,kH,ho]
 have h1:=(UD.1 h) _ hm
 have h2:=(UD.1 h1) e.on (UO.2 ⟨e,List.mem_filter.2 ⟨by simpa using he,hb⟩,rfl⟩)
 simp only[UK,decide_eq_true_eq] at h2
 refine⟨?_,h2.2⟩
 have:=h2.1
 simpa[kH] using this
theorem i8 {ops:Array Oper}{id:Nat}{a:Act}{w:World}{Q:Exit->Act->World->Prop}
  (h:∀ md,md = .any\/Region.departs ops=true->wpAnyIn (FR ro) nf P md ops Q ops.size (Vr ops.size false) a { w with drawn:=w.drawn+1 }):(Code.region id ops true).wpIn (FR ro) nf P Q a w:=
 wpIn_region_draw fun t=>by
  unfold Region.schedule
  split
  ·exact wpAnyIn_sound ops.size t _ a _ (h .any (.inl rfl))
  ·rename_i hd
   have hdep:Region.departs ops=true:=by
    cases hx:Region.departs ops with
    | true=>rfl
    | false=>simp[hx] at hd
   exact wpAnyIn_sound ops.size (t / 2) _ a _ (h _ (.inr hdep))
theorem lY {k r:Nat}{ks rs:List Nat}(h:r∈ks):r+1∈(eG k ks rs).1:=by
 simp only[eG,UY,UO]
 exact .inr ⟨r,h,rfl⟩
theorem zE {k r:Nat}{ks rs:List Nat}(h:r∈rs):r+1∈(eG k ks rs).2:=by
 simp only[eG,UY,UO]
 exact .inr ⟨r,h,rfl⟩
theorem A5 {A:List (List Nat)}{i j:Nat}(hne:j≠i)(h:D3 A i j=true):D3 A j i=true:=by
 unfold D3 at h ⊢
 by_cases h1:i<j
 ·rw[if_pos h1] at h
  rw[if_neg (by omega)];exact h
 ·rw[if_neg h1] at h
  rw[if_pos (by omega)];exact h
theorem mV.kds {P:Program}{G:Nat->List PV}{E:Nat->AV}{σ:aq}{wt:Option Bool}{op:AOp}{e:Ent}(h:mV P G E σ wt op e)(h0:e.kd≠0):e.kd=1\/e.kd=2:=by
 rcases h with ⟨_,_,_,_,h1,h2⟩ | ⟨_,h⟩
 ·exact absurd h2 h0
 ·cases op with
  | t o=>exact absurd h.2.2.2.2 h0
  | m o=>
    have h2:=h.2.2.2.2
    unfold aY at h2
    split at h2
    ·exact .inl h2
    ·exact absurd h2 h0
  | call f xs=>
    obtain⟨p,_,⟨ps,r,_,_,_,_,_,h1,h2⟩ | ⟨sto,_,_,h1,h2,h3,_⟩⟩:=h
    ·exact absurd h2 h0
    ·exact .inr h3
  | fz g x=>exact h.elim
theorem ue {muts:List Nat}{ops:Array Oper}{aops:List AOper}{F:St->Prop}{Q:Exit->Act->World->Prop}{k:Nat}{md:Region.Mode}
  (hc:D7 P muts N ops ops.toList=some aops) (hlt:∀ (i:Nat) (o:Oper),ops[i]? = some o->∀ j∈aQ o,j<i)
  (htail:∀ i,k<=i->i<ops.size->∀ j,j<i->((aR (ops.toList.map aQ) []).getD i []).contains j=true)
  (hrank:∃ rank:Nat->Nat,∀ (i:Nat) (o:Oper),ops[i]? = some o->∀ e∈o.after,Region.binds md e=true->e.on<ops.size/\rank e.on<rank i)
  (hQ:∀ s a w κ,Rel c κ0 N s a w κ->F s->Q .normal a w):∀ (fuel m:Nat) (listed:Array Bool) (s:St) (a:Act) (w:World) (κ:Kap),listed.size=ops.size->k<=m->(∀ j,j<ops.size->listed.getD j false=decide (j<m)) ->
   ops.size - m<=fuel->Rel c κ0 N s a w κ->dv P c.G (aops.drop m) F s->wpAnyIn (FR ro) nf P md ops Q fuel listed a w:=by
 obtain⟨l1,l2⟩:=rK (P:=P) (N:=N) ops.toList aops hc
 have hn:aops.length=ops.size:=by rw[<- l1];simp
 have hget:∀ (listed:Array Bool) (i:Nat),listed.size=ops.size->i<ops.size->listed.getD i true=listed.getD i false:=by
  intro listed i h1 h2
  simp[Uw,show i<listed.size by omega]
 have done:∀ (m:Nat) (s:St) (a:Act) (w:World) (κ:Kap),ops.size<=m->Rel c κ0 N s a w κ->dv P c.G (aops.drop m) F s->Q .normal a w:=by
  intro m s a w κ hm hR hv
  rw[List.drop_eq_nil_of_le (by omega)] at hv
  exact hQ s a w κ hR hv
 intro fuel
 induction fuel with
 | zero=>
   intro m listed s a w κ hsz hkm hl hf hR hv
   refine⟨?_,done m s a w κ (by omega) hR hv⟩
   cases hrd:Region.ready md ops listed with
   | nil=>rfl
   | cons i r=>
     obtain⟨o,ho,hi,hli,_⟩:=js (i:=i) (by rw[hrd];simp)
     rw[hget listed i hsz hi,hl i hi] at hli
     simp at hli;omega
 | succ fuel ih=>
   intro m listed s a w κ hsz hkm hl hf hR hv
   refine⟨fun hr=>?_,fun i hi=>?_⟩
   ·obtain⟨rank,hrk⟩:=hrank
    have hall:=nA hsz hr rank hrk
    refine done m s a w κ ?_ hR hv
    rcases U6 m ops.size with h | h
    ·have:=hall m h
     rw[hl m h] at this
     simp at this
    ·exact h
   ·obtain⟨o,ho,hil,hli,hdeps⟩:=js hi
    rw[hget listed i hsz hil,hl i hil] at hli
    have hmi:m<=i:=by simpa using hli
    have him:i=m:=by
     rcases U6 m i with h | h
     ·exfalso
      obtain⟨c1,c2⟩:=fv (S:=fun i=>listed.getD i false) (ops.toList.map aQ) [] 0 rfl (fun i d hd hS j hj=>by
       simp only[UN] at hS
       simp only[UE,Ut] at hd
       obtain⟨o',ho',rfl⟩:=hd
       have ho'':ops[i]? = some o':=by simpa using ho'
       have h1:=hlt i o' ho'' j hj
       have h2:i<ops.size:=(UF.1 ho'').1
       rw[hl i h2] at hS
       rw[hl j (by omega)]
       simp at hS ⊢;omega) (by simp) (by simp)
      have hlenA:(aR (ops.toList.map aQ) []).length=ops.size:=by rw[fx];simp
      have hA:(aR (ops.toList.map aQ) [])[i]? = some ((aR (ops.toList.map aQ) []).getD i []):=by
       simp[Uv,show i<(aR (ops.toList.map aQ) []).length by omega]
      have:=c2 i (aQ o) (by simp[ho]) hdeps _ (by simpa using hA) m (by simpa using htail i (by omega) hil m h)
      rw[hl m (by omega)] at this
      simp at this
     ·omega
    subst him
    have hol:ops.toList[i]? = some o:=by simpa using ho
    obtain⟨ao,hao,hco⟩:=l2 i o hol
    have hdrop:aops.drop i=ao::aops.drop (i+1):=by
     have hlt':i<aops.length:=by omega
     rw[List.drop_eq_getElem_cons hlt']
     congr 1
     exact (Ur.1 hao).2
    rw[hdrop] at hv
    have next:∀ s a w κ,Rel c κ0 N s a w κ->dv P c.G (aops.drop (i+1)) F s->wpAnyIn (FR ro) nf P md ops Q fuel (listed.setIfInBounds i true) a w:=by
     intro s a w κ hR hv
     refine ih (i+1) (listed.setIfInBounds i true) s a w κ (by simp[hsz]) (by omega) (fun j hj=>?_) (by omega) hR hv
     simp only[Uw,VC]
     by_cases hji:i=j
     ·subst hji;simp[show i<listed.size by omega]
     ·rw[if_neg hji,<- Uw,hl j hj]
      have:decide (j<i)=decide (j<i+1):=by
       rw[decide_eq_decide];omega
      exact this
    unfold xy at hco
    split at hco
    ·rename_i g op hg hop
     split at hco
     ·rename_i hd
      cases hco
      simp only[dv,aK] at hv
      split at hv
      ·rename_i b hb
       have hwant:=eU (ops:=ops) (o:=o) hg hR.env hb
       unfold wpOpIn
       rw[ho]
       simp only
       rw[hwant]
       cases b with
       | true=>
         rw[if_pos rfl]
         exact lg hop hR hd hv next
       | false=>
         rw[if_neg (by simp)]
         refine⟨fun _ _=>trivial,?_⟩
         exact next _ _ w κ (hR.put (κ':=κ) (w':=w) hd (.pv _ _ .undef)) hv
      ·exact hv.elim
     ·cases hco
    ·cases hco
theorem lI {muts:List Nat}{ops:Array Oper}{aops:List AOper}{id:Nat}{F:St->Prop}{Q:Exit->Act->World->Prop}{s:St}{a:Act}{w:World}{κ:Kap}
  {k:Nat} (hc:D7 P muts N ops ops.toList=some aops) (hok:CV ops.toList aops k=true) (hk:k<=aops.length) (hm:qG ops=true) (hR:Rel c κ0 N s a w κ)
  (hv:vcD P c.G (aR (ops.toList.map aQ) []) (dv P c.G (aops.drop k) F) (aops.take k) [] s) (hQ:∀ s a w κ,Rel c κ0 N s a w κ->F s->Q .normal a w):(Code.region id ops true).wpIn (FR ro) nf P Q a w:=by
 obtain⟨T,s',hT,hnames,hF⟩:=kJ (aops.take k) [] s hv
 simp only[List.nil_append] at hnames
 obtain⟨t1,t2,t3,t4,t5,t6,t7⟩:=QB (aops.take k) s T s' hT
 obtain⟨l1,l2⟩:=rK (P:=P) (N:=N) ops.toList aops hc
 simp only[CV,UK] at hok
 obtain⟨⟨hslots,hback⟩,htl⟩:=hok
 have hTk:T.length=k:=by rw[<- t1];simp;omega
 have hlt:∀ (i:Nat) (o:Oper),ops[i]? = some o->∀ j∈aQ o,j<i:=by
  intro i o ho j hj
  have hd:((ops.toList.map aQ).zipIdx)[i]? = some (aQ o,i):=by simp[List.getElem?_zipIdx,ho]
  have:=(UD.1 hback) _ (Us hd)
  have:=(UD.1 this) j hj
  simpa using this
 have hn:ops.size=aops.length:=by rw[<- l1];simp
 have htail:∀ i,k<=i->i<ops.size->∀ j,j<i->((aR (ops.toList.map aQ) []).getD i []).contains j=true:=by
  intro i h1 h2 j hj
  have h3:=(UD.1 htl) i (by simpa using h2)
  simp only[Bool.or_eq_true,decide_eq_true_eq] at h3
  rcases h3 with h3 | h3
  ·omega
  ·exact (UD.1 h3) j (by simpa using hj)
 refine i8 fun md hmd=>?_
 have hrank:∃ rank:Nat->Nat,∀ (i:Nat) (o:Oper),ops[i]? = some o->∀ e∈o.after,Region.binds md e=true->e.on<ops.size/\rank e.on<rank i:=by
  have hany:∃ rank:Nat->Nat,∀ (i:Nat) (o:Oper),ops[i]? = some o->∀ e∈o.after,Region.binds .any e=true->e.on<ops.size/\rank e.on<rank i:=by
   refine⟨fun i=>i,fun i o ho e he hb=>?_⟩
   have h1:=hlt i o ho e.on (by
    simp only[aQ,UO,List.mem_filter]
    exact⟨e,⟨by simpa using he,hb⟩,rfl⟩)
   have h2:i<ops.size:=(UF.1 ho).1
   exact⟨by omega,h1⟩
  rcases hmd with rfl | hdep
  ·exact hany
  ·simp only[qG,hdep,Bool.not_true,Bool.false_or,UK] at hm
   cases md with
   | text=>exact jt hm.1
   | gc=>exact jt hm.2
   | any=>exact hany
 have key:∀ (fuel:Nat) (listed:Array Bool) (a:Act) (w:World) (κ:Kap),listed.size=ops.size ->
   (∀ i d,(ops.toList.map aQ)[i]? = some d->listed.getD i false=true->∀ j∈d,listed.getD j false=true) ->
   (((U1 k).filter fun i=>!listed.getD i false).length+(ops.size - k)<=fuel)->(∀ i,k<=i->listed.getD i false=false) ->
   Mid c κ0 N s T (fun i=>listed.getD i false) a w κ->wpAnyIn (FR ro) nf P md ops Q fuel listed a w:=by
  have fin:∀ (fuel:Nat) (listed:Array Bool) (a:Act) (w:World) (κ:Kap),listed.size=ops.size->ops.size - k<=fuel->(∀ i,i<k->listed.getD i false=true)->(∀ i,k<=i->listed.getD i false=false) ->
    Mid c κ0 N s T (fun i=>listed.getD i false) a w κ->wpAnyIn (FR ro) nf P md ops Q fuel listed a w:=by
   intro fuel listed a w κ hsz hf hall hno hM
   refine ue (F:=F) hc hlt htail hrank hQ fuel k listed s' a w κ hsz (UI _) (fun j hj=>?_) hf ⟨hM.w_eq,hM.ext0,?_,hM.left,fun x=>?_,hM.size,hM.defers,fun r hr=>?_⟩ hF
   ·by_cases h:j<k
    ·rw[hall j h];simp[h]
    ·rw[hno j (by omega)];simp[h]
   ·have e:s'.σ=bS (fun i=>listed.getD i false) (T.map (·.δ)) 0 s.σ:=by
     rw[t3,mU (fun i=>listed.getD i false)]
     intro i hi
     rw[UN]
     exact hall i (by simp at hi;omega)
    rw[e];exact hM.rel
   ·have e:s'.E=bS (fun i=>listed.getD i false) (T.map Ent.env) 0 s.E:=by
     rw[t2,mU (fun i=>listed.getD i false)]
     intro i hi
     rw[UN]
     exact hall i (by simp at hi;omega)
    rw[e];exact hM.env x
   ·cases hk:κ.nm r with
    | none=>rfl
    | some d=>
      obtain⟨j,e,h1,h2,h3⟩:=hM.fresh r (by omega) (by rw[hk];simp)
      obtain⟨_,_,_,sj,_,_,hst⟩:=t7 j e h2
      have htp:=hst.tops
      rcases h3 with ⟨h3,h4⟩ | ⟨h3,h4⟩
      ·have h5:=htp.2.1 (by omega)
       have h6:=htp.2.2 h3
       have:=(t5 j e h2 h5).2
       omega
      ·have h5:=htp.2.1 (by omega)
       have:=(t5 j e h2 h5).2
       omega
  intro fuel
  induction fuel with
  | zero=>
    intro listed a w κ hsz hcl hf hno hM
    refine fin 0 listed a w κ hsz (by omega) (fun i hi=>?_) hno hM
    have h0:((U1 k).filter fun i=>!listed.getD i false)=[]:=UG (by omega)
    cases hL:listed.getD i false with
    | true=>rfl
    | false=>
      have:i∈(U1 k).filter fun i=>!listed.getD i false:=List.mem_filter.2 ⟨List.mem_range.2 hi,by rw[hL];rfl⟩
      rw[h0] at this;cases this
  | succ fuel ih=>
    intro listed a w κ hsz hcl hf hno hM
    by_cases hallk:∀ i,i<k->listed.getD i false=true
    ·exact fin _ listed a w κ hsz (by omega) hallk hno hM
    obtain⟨u0,hu0,hu1⟩:∃ i,i<k/\listed.getD i false=false:=by
     refine Classical.byContradiction fun h=>hallk fun i hi=>?_
     cases hL:listed.getD i false with
     | true=>rfl
     | false=>exact absurd ⟨i,hi,hL⟩ h
    refine⟨fun hr=>?_,fun i hi=>?_⟩
    ·obtain⟨rank,hrk⟩:=hrank
     have:=nA hsz hr rank hrk u0 (by omega)
     rw[hu1] at this;cases this
    obtain⟨o,ho,hil,hl,hdeps⟩:=js hi
    have hi':i<listed.size:=by omega
    have hik:i<k:=by
     rcases U6 i k with h | h
     ·exact h
     ·exfalso
      obtain⟨c1,c2⟩:=fv (S:=fun i=>listed.getD i false) (ops.toList.map aQ) [] 0 rfl (fun i d hd hS=>hcl i d hd (by simpa using hS)) (by simp) (by simp)
      have hlenA:(aR (ops.toList.map aQ) []).length=ops.size:=by rw[fx];simp
      have hA:(aR (ops.toList.map aQ) [])[i]? = some ((aR (ops.toList.map aQ) []).getD i []):=by
       simp[Uv,show i<(aR (ops.toList.map aQ) []).length by omega]
      have:=c2 i (aQ o) (by simp[ho]) hdeps _ (by simpa using hA) u0 (by simpa using htail i h hil u0 (by omega))
      rw[hu1] at this;cases this
    have hSi:listed.getD i false=false:=by
     simp[Uw,hi'] at hl ⊢;exact hl
    have hol:ops.toList[i]? = some o:=by simpa using ho
    obtain⟨ao,hao,hco⟩:=l2 i o hol
    have hTi:T[i]? = some T[i]:=Uq (by omega)
    obtain⟨ao',hao',hdst,si,e1,e2,hstep⟩:=t7 i _ hTi
    rw[UL,if_pos hik,hao] at hao';cases hao'
    have hbefore:∀ j,D3 (aR (ops.toList.map aQ) []) j i=true->j≠i->(j<i/\listed.getD j false=true)\/(i<j/\listed.getD j false=false):=by
     intro j hord hne
     obtain⟨c1,c2⟩:=fv (S:=fun i=>listed.getD i false) (ops.toList.map aQ) [] 0 rfl (fun i d hd hS=>hcl i d hd (by simpa using hS)) (by simp) (by simp)
     have hlenA:(aR (ops.toList.map aQ) []).length=ops.size:=by rw[fx];simp
     unfold D3 at hord
     split at hord
     ·rename_i hji
      refine .inl ⟨hji,?_⟩
      have hA:(aR (ops.toList.map aQ) [])[i]? = some ((aR (ops.toList.map aQ) []).getD i []):=by
       simp[Uv,show i<(aR (ops.toList.map aQ) []).length by omega]
      exact c2 i (aQ o) (by simp[ho]) hdeps _ (by simpa using hA) j (by simpa using hord)
     ·rename_i hji
      have hij:i<j:=by omega
      refine .inr ⟨hij,?_⟩
      cases hL:listed.getD j false with
      | false=>rfl
      | true=>
        exfalso
        by_cases hjn:j<ops.size
        ·have hA:(aR (ops.toList.map aQ) [])[j]? = some ((aR (ops.toList.map aQ) []).getD j []):=by
          simp[Uv,show j<(aR (ops.toList.map aQ) []).length by omega]
         have:=c1 j _ hA hL i (by simpa using hord)
         rw[hSi] at this;cases this
        ·rw[Uw,Array.getElem?_eq_none (by omega)] at hL
         cases hL
    have hslotPair:∀ (j:Nat) (e:Ent),T[j]? = some e->∃ ao,aops[j]? = some ao/\e.dst=ao.dst/\(ji (aops.take k))[j]? = some (ao.dst.toList,ao.slots):=by
     intro j e hj
     obtain⟨ao,h1,h2,_⟩:=t7 j e hj
     have hjk:j<k:=by have:=(Ur.1 hj).1;omega
     refine⟨ao,by rw[UL,if_pos hjk] at h1;exact h1,h2,?_⟩
     simp only[ji,UE,h1,UM]
    have hE:∀ x∈ao.slots,bS (fun i=>listed.getD i false) (T.map Ent.env) 0 s.E x=si.E x:=by
     intro x hx
     rw[e1]
     refine pk hSi fun j v hne hj hkv=>?_
     simp only[UE,Ut] at hj
     obtain⟨e,he,rfl⟩:=hj
     obtain⟨aj,a1,a2,a3⟩:=hslotPair j e he
     obtain⟨ai,b1,b2,b3⟩:=hslotPair i _ hTi
     rw[hao] at b1;cases b1
     refine hbefore j (lf hslots a3 b3 hne (x:=x) ?_ (.inl hx)) hne
     have:=mD.1 hkv
     rw[a2] at this
     simp[this]
    have hσ:∀ r∈T[i].reads,bS (fun i=>listed.getD i false) (T.map (·.δ)) 0 s.σ r=si.σ r:=by
     intro r hr
     rw[e2]
     refine pk hSi fun j v hne hj hkv=>?_
     simp only[UE,Ut] at hj
     obtain⟨e,he,rfl⟩:=hj
     exact hbefore j (lf hnames (p:=eG e.kd (aU e.δ) e.reads) (q:=eG T[i].kd (aU T[i].δ) T[i].reads) (x:=r+1) (by simp[he]) (by simp[hTi]) hne (lY hkv) (.inl (zE hr))) hne
    have hgetset:∀ j,(listed.setIfInBounds i true).getD j false=if j=i then true else listed.getD j false:=by
     intro j
     simp only[Uw,VC]
     by_cases hj:i=j
     ·subst hj;simp[hi']
     ·rw[if_neg hj,if_neg (fun h=>hj h.symm)]
    have step:=Gv (P:=P) (ro:=ro) (nf:=nf) (s:=s) (si:=si) (T:=T) (S:=fun i=>listed.getD i false) (S':=fun j=>(listed.setIfInBounds i true).getD j false) (e:=T[i]) (i:=i) (K:=wpAnyIn (FR ro) nf P md ops Q fuel (listed.setIfInBounds i true)) (Q:=Q)
     hco hM hTi hSi (by simp only[hgetset];simp) (fun j hj=>by simp only[hgetset,if_neg hj]) hdst hstep hE hσ
     (fun j v r hne hj hkv hke hij=>by
      simp only[UE,Ut] at hj
      obtain⟨e,he,rfl⟩:=hj
      obtain⟨aj,a1,a2,a3⟩:=hslotPair j e he
      obtain⟨ai,b1,b2,b3⟩:=hslotPair i _ hTi
      have h1:=mD.1 hkv
      have h2:=mD.1 hke
      rw[a2] at h1;rw[b2] at h2
      rcases hbefore j (lf hslots a3 b3 hne (x:=r) (by simp[h1]) (.inr (by simp[h2]))) hne with ⟨h,_⟩ | ⟨_,h⟩
      ·omega
      ·exact h)
     (fun j v r hne hj hkv hke hij=>by
      simp only[UE,Ut] at hj
      obtain⟨e,he,rfl⟩:=hj
      rcases hbefore j (lf hnames (p:=eG e.kd (aU e.δ) e.reads) (q:=eG T[i].kd (aU T[i].δ) T[i].reads) (x:=r+1) (by simp[he]) (by simp[hTi]) hne (lY hkv) (.inr (lY hke))) hne with ⟨h,_⟩ | ⟨_,h⟩
      ·omega
      ·exact h)
     (fun hm=>(t5 i _ hTi hm).1)
     (fun hkd r hr hge j e' hSj he'=>by
      obtain⟨_,_,_,sj,_,_,hst'⟩:=t7 j e' he'
      have htp':=hst'.tops
      have htp:=hstep.tops
      have hmi:=htp.2.1 hkd
      have hjne:j≠i:=by
       rintro rfl
       rw[hSi] at hSj;cases hSj
      have before:j<i->e'.isM=true->e'.top<=T[i].new:=fun h hm'=>t6 j i e' _ h he' hTi hm' hmi
      have after:i<j->e'.isM=true->T[i].top<=e'.new:=fun h hm'=>t6 i j _ e' h hTi he' hmi hm'
      have ordered:(T[i].kd=2/\e'.kd≠0)\/e'.kd=2->j<i:=by
       intro h
       have hpair:(eG e'.kd (aU e'.δ) e'.reads,j)≠(eG e'.kd (aU e'.δ) e'.reads,i):=fun h=>hjne (Prod.mk.inj h).2
       have hTj:(T.map fun e=>eG e.kd (aU e.δ) e.reads)[j]? = some (eG e'.kd (aU e'.δ) e'.reads):=by simp[he']
       have hTi':(T.map fun e=>eG e.kd (aU e.δ) e.reads)[i]? = some (eG T[i].kd (aU T[i].δ) T[i].reads):=by simp[hTi]
       have k0:T[i].kd=1\/T[i].kd=2:=hstep.kds hkd
       have ho:D3 (aR (ops.toList.map aQ) []) j i=true\/D3 (aR (ops.toList.map aQ) []) i j=true:=by
        rcases h with ⟨h,h'⟩ | h
        ·have k1:e'.kd=1\/e'.kd=2:=hst'.kds h'
         refine .inr (lf hnames hTi' hTj (fun h=>hjne h.symm) (x:=0) (by simp[eG,h]) ?_)
         rcases k1 with k1 | k1
         ·exact .inl (by simp[eG,k1])
         ·exact .inr (by simp[eG,k1])
        ·refine .inl (lf hnames hTj hTi' hjne (x:=0) (by simp[eG,h]) ?_)
         rcases k0 with k0 | k0
         ·exact .inl (by simp[eG,k0])
         ·exact .inr (by simp[eG,k0])
       have ho':D3 (aR (ops.toList.map aQ) []) j i=true:=by
        rcases ho with ho | ho
        ·exact ho
        ·exact A5 hjne ho
       rcases hbefore j ho' hjne with ⟨h,_⟩ | ⟨_,h⟩
       ·exact h
       ·rw[hSj] at h;cases h
      rintro (⟨h1,h2⟩ | ⟨h1,h2⟩)
      ·have hm':=htp'.2.1 (by omega)
       have ht':=htp'.2.2 h1
       rcases Nat.lt_or_gt_of_ne hjne with h | h
       ·have:=before h hm';omega
       ·rcases hstep.kds hkd with k0 | k0
        ·have:=after h hm'
         have:=htp.2.2 k0
         have:=hr k0
         omega
        ·have:=ordered (.inl ⟨k0,by omega⟩);omega
      ·have hm':=htp'.2.1 (by omega)
       have:=ordered (.inr h1)
       have:=before this hm'
       omega)
     (fun a w κ hM'=>ih (listed.setIfInBounds i true) a w κ (by simp[hsz]) (fun k d hd hk j hj=>by
       rw[hgetset] at hk ⊢
       by_cases hki:k=i
       ·subst hki
        simp only[UE,hol,UM,Uu] at hd
        subst hd
        rw[hdeps j hj];simp
       ·rw[if_neg hki] at hk
        rw[hcl k d hd hk j hj];simp) (by
       have hsub:((U1 k).filter fun q=>!(listed.setIfInBounds i true).getD q false).length<((U1 k).filter fun q=>!listed.getD q false).length:=by
        have:((U1 k).filter fun q=>!(listed.setIfInBounds i true).getD q false)=((U1 k).filter fun q=>!listed.getD q false).filter fun q=>decide (q≠i):=by
         rw[List.filter_filter]
         apply List.filter_congr
         intro q _
         rw[hgetset]
         by_cases hk:q=i<;>simp[hk]
        rw[this]
        refine List.length_filter_lt_length_iff_exists.2 ⟨i,List.mem_filter.2 ⟨List.mem_range.2 hik,by rw[hSi];rfl⟩,by simp⟩
       omega) (fun q hq=>by rw[hgetset,if_neg (by omega)];exact hno q hq) hM')
    unfold wpOpIn
    rw[ho]
    simp only
    split
    ·rename_i hw
     rw[if_pos hw] at step
     exact step
    ·rename_i hw
     rw[if_neg hw] at step
     exact⟨fun _ _=>trivial,step⟩
 have hfalse:∀ j,(Vr ops.size false).getD j false=false:=by
  intro j
  simp only[Uw,Array.getElem?_replicate]
  split<;>rfl
 have hw:=hR.w_eq
 subst hw
 refine key ops.size (Vr ops.size false) a _ ⟨{ κ.w with drawn:=κ.w.drawn+1 },κ.nm,κ.imm⟩ (by simp) (fun i d _ h=>by rw[hfalse] at h;cases h) (by
  have:=List.length_filter_le (fun i=>!(Vr ops.size false).getD i false) (U1 k)
  simp only[List.length_range] at this
  omega) (fun i _=>hfalse i) ?_
 have hno:∀ {β:Type} (W:List (List (Nat×β))) (k:Nat) (g:Nat->β),bS (fun i=>(Vr ops.size false).getD i false) W k g=g:=by
  intro β W
  induction W with
  | nil=>intros;rfl
  | cons x y ih=>intro k g;rw[bS,hfalse];simpa using ih (k+1) g
 have he:Ext κ ⟨{ κ.w with drawn:=κ.w.drawn+1 },κ.nm,κ.imm⟩:=⟨fun _ _ h=>h,fun _ _ _ _ h=>h,fun _ _ h=>h,fun _ _ h _=>h⟩
 have hS:=hR.rel
 have hL:=hR.left
 refine⟨rfl,hR.ext0.trans he,?_,⟨hL.os,hL.tape,hL.output,hL.size,hL.block,hL.imm⟩,fun x=>?_,hR.size,hR.defers.ext he,fun r hr h=>absurd (hR.fresh r hr) h⟩
 ·rw[hno]
  refine⟨fun r=>(hS.blk r).keep he fun _ _ _ _ _=>⟨rfl,fun _ h=>h⟩,hS.apart,hS.mine,hS.immLt,T9 he hS.glob fun _ _ _=>rfl⟩
 ·rw[hno];exact (hR.env x).ext he
end
inductive ACode where
 | skip
 | ops (l:List AOper) (keep:List Nat)
 | draw (A:List (List Nat)) (l l2:List AOper) (keep:List Nat)
 | seq (a b:ACode)
 | cond (x:AX) (a b:ACode)
 | block (id:Nat) (b:ACode)
 | loop (keep:List Nat) (b:ACode)
 | range (f:AX) (ps:List Nat) (keep:List Nat) (a b:ACode)
 | exit (id:Nat)
 | ret
inductive AExit where
 | norm
 | exit (id:Nat)
 | ret
def clip0 (keep:List Nat)(s:St):St:=⟨keep.map fun i=>(i,s.E i),s.sto,s.next⟩
def sH (k:Nat):List Nat->Bool
 | []=>false
 | j::r=>if j=k then true else sH k r
def wY (k:Nat)(b:Blk)(r:List (Nat×Blk)):Bool->List (Nat×Blk)
 | true=>r
 | false=>(k,b)::r
def iF:List Nat->List (Nat×Blk)->List (Nat×Blk)
 | _,[]=>[]
 | seen,p::r=>wY p.1 p.2 (iF (p.1::seen) r) (sH p.1 seen)
theorem nW (k j:Nat)(r:List Nat):sH k (j::r)=if j=k then true else sH k r:=rfl
theorem jI:∀ (l:List (Nat×Blk)) (seen:List Nat) (r:Nat),sH r seen=false->lookB r (iF seen l)=lookB r l
 | [],seen,r,_=>rfl
 | p::q,seen,r,h=>by
   simp only[iF]
   by_cases hp:p.1=r
   ·rw[hp,h]
    simp only[wY,lookB,if_pos hp,if_true]
   ·have hr:sH r (p.1::seen)=false:=by rw[nW,if_neg hp];exact h
    have:=jI q (p.1::seen) r hr
    cases sH p.1 seen<;>simp only[wY,lookB,if_neg hp,this]
def clip (keep:List Nat)(s:St):St:=⟨keep.map fun i=>(i,s.E i),iF [] s.sto,s.next⟩
def bK (acc:List Nat):List Nat->List Nat
 | []=>acc
 | n::r=>bK (if acc.contains n then acc else acc++[n]) r
mutual
def AV.names:AV->List Nat
 | .ptr r _=>[r]
 | .row r _ _ _=>[r]
 | .olist r _ _=>[r]
 | .mp r=>[r]
 | .agg cs=>AV.namesL cs
 | .tup cs=>AV.namesL cs
 | .clo _ fs cs=>AV.namesL fs++AV.namesL cs
 | _=>[]
def AV.namesL:List AV->List Nat
 | []=>[]
 | x::r=>AV.names x++AV.namesL r
end
def Blk.names:Blk->List Nat
 | .cells _ _ l=>AV.namesL l
 | _=>[]
def fH (m0:Nat)(sto:List (Nat×Blk)):Nat->List Nat->List Nat
 | 0,acc=>acc
 | k+1,acc=>fH m0 sto k (bK acc ((acc.flatMap fun r=>(lookB r sto).names).filter fun r=>decide (m0<=r)))
def wK (m0:Nat)(sto:List (Nat×Blk)):List Nat:=(U1 m0).flatMap fun r=>(lookB r sto).names
def OJ (m0:Nat)(keep:List Nat)(s:St):List Nat:=
 fH m0 s.sto s.sto.length (bK [] (((keep.flatMap fun i=>(s.E i).names)++wK m0 s.sto).filter fun r=>decide (m0<=r)))
def GY (x:Nat):List Nat->Nat->Option Nat
 | [],_=>none
 | y::r,k=>if y=x then some k else GY x r (k+1)
def dF (m0:Nat)(os:List Nat)(r:Nat):Option Nat:=if r<m0 then some r else GY r os m0
mutual
def AV.ren (f:Nat->Option Nat):AV->AV
 | .ptr r o=>match f r with
   | some r'=>.ptr r' o
   | none=>.any
 | .row r a b c=>match f r with
   | some r'=>.row r' a b c
   | none=>.any
 | .olist r a l=>match f r with
   | some r'=>.olist r' a l
   | none=>.pv (.list l)
 | .mp r=>match f r with
   | some r'=>.mp r'
   | none=>.any
 | .agg cs=>.agg (AV.renL f cs)
 | .tup cs=>.tup (AV.renL f cs)
 | .clo g fs cs=>.clo g (AV.renL f fs) (AV.renL f cs)
 | .pv p=>.pv p
 | .any=>.any
def AV.renL (f:Nat->Option Nat):List AV->List AV
 | []=>[]
 | x::r=>AV.ren f x::AV.renL f r
end
def Blk.ren (f:Nat->Option Nat):Blk->Blk
 | .cells T b l=>.cells T b (AV.renL f l)
 | x=>x
def eH (m0:Nat)(f:Nat->Option Nat)(sto:List (Nat×Blk)):List Nat->Nat->List (Nat×Blk)
 | [],_=>[]
 | r::q,k=>(k,(lookB r sto).ren f)::eH m0 f sto q (k+1)
def norm (m0:Nat)(keep:List Nat)(s:St):St:=
 let os:=OJ m0 keep s
 let f:=dF m0 os
 ⟨keep.map fun i=>(i,(s.E i).ren f),eH m0 f s.sto (U1 m0++os) 0,m0+os.length⟩
def qC (Q:AExit->St->Prop)(keep:List Nat)(s:St):Prop:=Q .norm (clip keep s)
def Ic (F:St->Prop)(Q:AExit->St->Prop):AExit->St->Prop
 | .norm,s=>F s
 | .exit i,s=>Q (.exit i) s
 | .ret,s=>Q .ret s
def fj (id:Nat)(Q:AExit->St->Prop):AExit->St->Prop
 | .norm,s=>Q .norm s
 | .exit i,s=>if i=id then Q .norm s else Q (.exit i) s
 | .ret,s=>Q .ret s
def QT (m0:Nat)(I:Nat->St->Prop)(n:Nat)(Q:AExit->St->Prop):AExit->St->Prop
 | .norm,s=>∃ n' s',n'<n/\Wk m0 s s'/\I n' s'
 | .exit i,s=>∃ s',Wk m0 s s'/\Q (.exit i) s'
 | .ret,s=>Q .ret s
def LC (body:(AExit->St->Prop)->St->Prop)(m0:Nat)(keep:List Nat)(Q:AExit->St->Prop)(s:St):Prop:=
 ∃ I:Nat->St->Prop,(∃ n s',Wk m0 s s'/\I n s')/\∀ n s,I n s->body (QT m0 I n Q) s
def nO (v:AV)(F G:St->Prop)(s:St):Prop:=
 match v with
 | .pv (.bool true)=>F s
 | .pv (.bool false)=>G s
 | _=>False
def ifB (b:Bool)(F G:St->Prop)(s:St):Prop:=
 match b with
 | true=>F s
 | false=>G s
def Sv (P:Program)(G:Nat->List PV)(g:Nat)(lb:List PV)(xs:List (List PV)):Prop:=
 bY P g=true/\∀ (w:World) (imm:Nat->Nat->Prop) (lbv:Array Value) (l:Nat) (J:Nat->(Nat->Nat->Prop)->World->Prop) (Jx:World->Prop) (O:Nat->Nat->Prop),
  du G w imm->(∀ b o,imm b o->b<w.heap.size/\¬ O b o)->lbv.size=lb.length->(∀ (i:Nat) (x:PV),lb[i]? = some x->PRel w imm x (lbv.getD i Go.undef)) ->
  (∀ i O W W',J i O W->Below W.heap.size W W'->J i O W')->(∀ i O W b o,J i O W->O b o->b<W.heap.size) ->
  (∀ (m i:Nat) (x:List PV) (O:Nat->Nat->Prop) (W:World) (vals:Array Value) (imm' kp:Nat->Nat->Prop),J i O W->xs[i]? = some x->vals.size=x.length ->
   (∀ (j:Nat) (y:PV),x[j]? = some y->PRel W imm' y (vals.getD j Go.undef))->(∀ b o,imm' b o->imm b o\/w.heap.size<=b)->(∀ b o,imm' b o->kp b o)->(∀ b o,kp b o->b<W.heap.size/\¬ O b o) ->
   YieldAt Fence.wide m P l vals W fun e W'=>
    (e = .returned (.bool true)/\(∃ O',J (i+1) O' W'/\∀ b o,kp b o->¬ O' b o)/\W.heap.size<=W'.heap.size/\(∀ b o v,kp b o->W.cell? ⟨b,o,none⟩=some v->W'.cell? ⟨b,o,none⟩=some v) /\
     ∀ g,G g≠[]->∃ cs T fz,W'.heap[g]? = some (.cells cs T fz)/\cs.size=(G g).length) \/
    (e = .returned (.bool false)/\Jx W')) ->
  J 0 O w ->
  CallsIn Fence.wide 0 P g (#[.func (.yield l) #[] #[]]++lbv) w fun e w'=>(∃ v,e = .returned v)/\((∃ O',J xs.length O' w')\/Jx w')
def FP:List Nat->List PV->List (Nat×AV)->List (Nat×AV)
 | p::ps,x::xs,e=>FP ps xs ((p,.pv x)::e)
 | _,_,e=>e
def Tf (F:St->Prop):AExit->St->Prop
 | .norm,s=>F s
 | _,_=>False
def QD (m0:Nat)(I:Nat->St->Prop)(i:Nat)(Q:AExit->St->Prop)(e0:List (Nat×AV)):AExit->St->Prop
 | .norm,s=>∃ s',Wk m0 ⟨e0,s.sto,s.next⟩ s'/\I (i+1) s'
 | .exit id,s=>Q (.exit id) ⟨e0,s.sto,s.next⟩
 | .ret,s=>Q .ret ⟨e0,s.sto,s.next⟩
def MK (vb:Nat->(AExit->St->Prop)->St->Prop)(Q:AExit->St->Prop)(s:St):Prop:=vb s.next Q s
def Ow (P:Program)(G:Nat->List PV)(va vb:Nat->(AExit->St->Prop)->St->Prop)(m0:Nat)(ps:List Nat)(Q:AExit->St->Prop)(I:Nat->St->Prop)(p:Nat×List AV×List AV):Prop:=
 p.2.1=[]/\∃ lb xs,pvs p.2.2=some lb/\Sv P G p.1 lb xs /\
  (∀ i x s',xs[i]? = some x->I i s'->x.length=ps.length/\va s'.next (Tf (MK vb (QD m0 I i Q s'.env))) ⟨FP ps x s'.env,s'.sto,s'.next⟩)/\∀ s',I xs.length s'->Q .norm s'
def IB (P:Program)(G:Nat->List PV)(va vb:Nat->(AExit->St->Prop)->St->Prop)(m0:Nat)(f:AX)(ps:List Nat)(Q:AExit->St->Prop)(s:St):Prop:=
 ∃ (I:Nat->St->Prop) (s0:St),Wk m0 s s0/\I 0 s0/\aK (dn (f.ev s0.E)) (Ow P G va vb m0 ps Q I)
def vc (P:Program)(G:Nat->List PV):Nat->ACode->(AExit->St->Prop)->St->Prop
 | m0,.skip,Q,s=>Q .norm s
 | m0,.ops l keep,Q,s=>dv P G l (qC Q keep) s
 | m0,.draw A l l2 keep,Q,s=>vcD P G A (dv P G l2 (qC Q keep)) l [] s
 | m0,.seq a b,Q,s=>vc P G m0 a (Ic (vc P G m0 b Q) Q) s
 | m0,.cond x a b,Q,s=>nO (x.ev s.E) (vc P G m0 a Q) (vc P G m0 b Q) s
 | m0,.block id b,Q,s=>vc P G m0 b (fj id Q) s
 | m0,.loop keep b,Q,s=>LC (vc P G m0 b) m0 keep Q s
 | m0,.range f ps keep a b,Q,s=>IB P G (fun m=>vc P G m a) (fun m=>vc P G m b) m0 f ps Q s
 | m0,.exit id,Q,s=>Q (.exit id) s
 | m0,.ret,Q,s=>Q .ret s
def fM (a:List Nat):List Nat->List Nat
 | []=>a
 | x::r=>fM (if a.contains x then a else a++[x]) r
def BJ:List AOper->List Nat->List Nat
 | [],out=>out
 | o::r,out=>fM ((BJ r out).filter fun x=>!(o.dst == some x)) o.slots
def OV (i:Nat):List (Nat×List Nat)->List Nat
 | []=>[]
 | p::r=>if p.1=i then p.2 else OV i r
def Tl (x:Nat):List Nat->List Nat
 | []=>[x]
 | y::r=>if x<=y then x::y::r else y::Tl x r
def ni:List Nat->List Nat
 | []=>[]
 | x::r=>Tl x (ni r)
def CF:List (Nat×List Nat)->List Nat
 | []=>[]
 | p::r=>fM (CF r) p.2
def bu:Code->Bool
 | .rangeFunc _ _ _ _=>true
 | .seq a b=>bu a||bu b
 | .cond _ a b=>bu a||bu b
 | .block _ b=>bu b
 | .loop b=>bu b
 | _=>false
def OB (N:Nat):List Nat->Bool
 | []=>true
 | p::r=>decide (p<N)&&!r.contains p&&OB N r
def bw (P:Program)(muts:List Nat)(N:Nat)(ret:List Nat):Code->List (Nat×List Nat)->List Nat->Option (ACode×List Nat)
 | .skip,_,out=>some (.skip,out)
 | .region _ ops d,_,out=>match D7 P muts N ops ops.toList with
   | some l=>match d with
     | false=>some (.ops l (ni out),BJ l out)
     | true=>if CV ops.toList l (Cf (aR (ops.toList.map aQ) []) l.length)=true/\Cf (aR (ops.toList.map aQ) []) l.length<=l.length/\qG ops=true then
       some (.draw (aR (ops.toList.map aQ) []) (l.take (Cf (aR (ops.toList.map aQ) []) l.length)) (l.drop (Cf (aR (ops.toList.map aQ) []) l.length)) (ni out),BJ l out)
       else none
   | none=>none
 | .seq a b,ex,out=>match bw P muts N ret b ex out with
   | some (b',lb)=>match bw P muts N ret a ex lb with
     | some (a',la)=>some (.seq a' b',la)
     | none=>none
   | none=>none
 | .cond x a b,ex,out=>match cX x,bw P muts N ret a ex out,bw P muts N ret b ex out with
   | some ax,some (a',la),some (b',lb)=>some (.cond ax a' b',fM (fM la lb) ax.slots)
   | _,_,_=>none
 | .block id b,ex,out=>match bw P muts N ret b ((id,out)::ex) out with
   | some (b',lb)=>some (.block id b',lb)
   | none=>none
 | .loop b,ex,out=>match bw P muts N ret b ex [] with
   | some (_,l1)=>match bw P muts N ret b ex l1 with
     | some (_,l2)=>match bw P muts N ret b ex l2 with
       | some (b',l3)=>some (.loop (ni l2) b',l2)
       | none=>none
     | none=>none
   | none=>none
 | .exit id,ex,_=>some (.exit id,OV id ex)
 | .ret,_,_=>some (.ret,ret)
 | .rangeFunc g ps a b,ex,out=>match bu a||bu b,cX g,bw P muts N ret b ex [],OB N ps.toList with
   | false,some ax,some (b',lb),true=>match bw P muts N ret a ex lb with
     | some (a',la)=>some (.range ax ps.toList (ni (fM (fM (fM la out) (fM ret (CF ex))) ax.slots)) a' b',fM (fM (fM la out) (fM ret (CF ex))) ax.slots)
     | none=>none
   | _,_,_,_=>some (.ops [⟨none,iN,none⟩] [],[])
 | _,_,_=>some (.ops [⟨none,iN,none⟩] [],[])
theorem mm (keep:List Nat)(g:Nat->AV)(i:Nat):look i (keep.map fun k=>(k,g k))=if i∈keep then g i else .any:=by
 induction keep with
 | nil=>rfl
 | cons k r ih=>
   simp only[UQ,look,ih,UP]
   by_cases h:k=i
   ·simp[h]
   ·simp only[if_neg h,show (i=k)=False from eq_false (fun e=>h e.symm),false_or]
theorem dJ:∀ (l acc:List Nat),acc.Nodup->(bK acc l).Nodup
 | [],acc,h=>h
 | n::r,acc,h=>by
   rw[bK]
   refine dJ r _ ?_
   split
   ·exact h
   ·rename_i hn
    have hn':n∉acc:=by simpa using hn
    refine List.nodup_append.2 ⟨h,by simp,?_⟩
    intro a ha b hb
    simp at hb;subst hb
    rintro rfl
    exact hn' ha
theorem fg:∀ (l acc:List Nat) (x:Nat),x∈bK acc l->x∈acc\/x∈l
 | [],acc,x,h=>.inl h
 | n::r,acc,x,h=>by
   rw[bK] at h
   rcases fg r _ x h with h | h
   ·split at h
    ·exact .inl h
    ·rcases UY.1 h with h | h
     ·exact .inl h
     ·simp at h;subst h;exact .inr (by simp)
   ·exact .inr (by simp[h])
theorem nB (m0:Nat)(sto:List (Nat×Blk)):∀ (k:Nat) (acc:List Nat),acc.Nodup->(∀ x∈acc,m0<=x)->(fH m0 sto k acc).Nodup/\∀ x∈fH m0 sto k acc,m0<=x
 | 0,acc,h,g=>⟨h,g⟩
 | k+1,acc,h,g=>by
   rw[fH]
   refine nB m0 sto k _ (dJ _ _ h) fun x hx=>?_
   rcases fg _ _ _ hx with h | h
   ·exact g x h
   ·simpa using (List.mem_filter.1 h).2
theorem Lk (m0:Nat)(keep:List Nat)(s:St):(OJ m0 keep s).Nodup/\∀ x∈OJ m0 keep s,m0<=x:=by
 refine nB m0 s.sto _ _ (dJ _ _ (by simp)) fun x hx=>?_
 rcases fg _ _ _ hx with h | h
 ·simp at h
 ·simpa using (List.mem_filter.1 h).2
theorem sL {x i:Nat}:∀ (l:List Nat) (k:Nat),GY x l k=some i->k<=i/\l[i - k]? = some x
 | [],k,h=>by simp[GY] at h
 | y::r,k,h=>by
   rw[GY] at h
   split at h
   ·rename_i hy
    cases h
    exact⟨UI _,by simp[hy]⟩
   ·obtain⟨h1,h2⟩:=sL r (k+1) h
    refine⟨by omega,?_⟩
    rw[show i - k=(i - (k+1))+1 by omega]
    simpa using h2
mutual
theorem p6 {κ κ':Kap}(hw:κ'.w=κ.w)(hi:κ'.imm=κ.imm){f:Nat->Option Nat}(hf:∀ r r',f r=some r'->κ'.nm r'=κ.nm r):∀ (x:AV) (v:Value),ARel κ x v->ARel κ' (x.ren f) v
 | .pv p,v,h=>by
   cases h with
   | pv _ _ hp=>exact .pv _ _ (by rw[hw,hi];exact hp)
 | .any,v,h=>.any v
 | .ptr r o,v,h=>by
   cases h with
   | ptr _ _ b n hn=>
     simp only[AV.ren]
     split
     ·rename_i r' hr;exact .ptr _ _ b n (by rw[hf r r' hr];exact hn)
     ·exact .any _
 | .row r a b c,v,h=>by
   cases h with
   | row _ _ _ _ bb n cap hn h1 h2 h3 h4=>
     simp only[AV.ren]
     split
     ·rename_i r' hr;exact .row _ _ _ _ bb n cap (by rw[hf r r' hr];exact hn) h1 h2 h3 h4
     ·exact .any _
   | row0 _ _ hn=>
     simp only[AV.ren]
     split
     ·rename_i r' hr;exact .row0 _ _ (by rw[hf r r' hr];exact hn)
     ·exact .any _
 | .olist r a l,v,h=>by
   cases h with
   | olist _ _ _ _ hn hp hs=>
     simp only[AV.ren]
     split
     ·rename_i r' hr;exact .olist _ _ _ _ (by rw[hf r r' hr];exact hn) (by rw[hw,hi];exact hp) hs
     ·exact .pv _ _ (by rw[hw,hi];exact hp)
 | .mp r,v,h=>by
   cases h with
   | mp _ b hn=>
     simp only[AV.ren]
     split
     ·rename_i r' hr;exact .mp _ _ (by rw[hf r r' hr];exact hn)
     ·exact .any _
 | .agg cs,v,h=>by
   cases h with
   | agg _ vs hl hr=>
     simp only[AV.ren]
     obtain⟨h1,h2⟩:=ee hw hi hf cs vs hr
     exact .agg _ _ (by rw[h1];exact hl) h2
 | .tup cs,v,h=>by
   cases h with
   | tup _ vs hl hr=>
     simp only[AV.ren]
     obtain⟨h1,h2⟩:=ee hw hi hf cs vs hr
     exact .tup _ _ (by rw[h1];exact hl) h2
 | .clo g fs cs,v,h=>by
   cases h with
   | clo _ _ _ vs us hl hr hl' hr'=>
     simp only[AV.ren]
     obtain⟨h1,h2⟩:=ee hw hi hf fs vs hr
     obtain⟨h3,h4⟩:=ee hw hi hf cs us hr'
     exact .clo _ _ _ _ _ (by rw[h1];exact hl) h2 (by rw[h3];exact hl') h4
theorem ee {κ κ':Kap}(hw:κ'.w=κ.w)(hi:κ'.imm=κ.imm){f:Nat->Option Nat}(hf:∀ r r',f r=some r'->κ'.nm r'=κ.nm r):∀ (xs:List AV) (vs:Array Value),
  (∀ (i:Nat) (x:AV),xs[i]? = some x->ARel κ x (vs.getD i Go.undef))->(AV.renL f xs).length=xs.length/\∀ (i:Nat) (x:AV),(AV.renL f xs)[i]? = some x->ARel κ' x (vs.getD i Go.undef)
 | [],vs,h=>by simp[AV.renL]
 | x::r,vs,h=>by
   obtain⟨h1,h2⟩:=ee hw hi hf r (vs.extract 1 vs.size) (fun i y hy=>by
    have:=h (i+1) y (by simpa using hy)
    have e:(vs.extract 1 vs.size).getD i Go.undef=vs.getD (i+1) Go.undef:=by
     simp only[Uw,Array.getElem?_extract]
     by_cases hh:i<min vs.size vs.size - 1
     ·rw[if_pos hh];congr 2;omega
     ·rw[if_neg hh,Array.getElem?_eq_none (by omega)]
    rw[e];exact this)
   refine⟨by simp[AV.renL,h1],fun i y hy=>?_⟩
   cases i with
   | zero=>
     simp only[AV.renL,UW,Uu] at hy
     subst hy
     exact p6 hw hi hf x _ (h 0 x (by simp))
   | succ i=>
     simp only[AV.renL,List.getElem?_cons_succ] at hy
     have:=h2 i y hy
     have e:(vs.extract 1 vs.size).getD i Go.undef=vs.getD (i+1) Go.undef:=by
      simp only[Uw,Array.getElem?_extract]
      by_cases hh:i<min vs.size vs.size - 1
      ·rw[if_pos hh];congr 2;omega
      ·rw[if_neg hh,Array.getElem?_eq_none (by omega)]
     rw[e] at this;exact this
end
theorem jr {m0:Nat}{f:Nat->Option Nat}{sto:List (Nat×Blk)}{x:Nat}:∀ (l:List Nat) (k:Nat),lookB x (eH m0 f sto l k)=if k<=x then (match l[x - k]? with | some r=>(lookB r sto).ren f | none=>.none) else .none
 | [],k=>by simp[eH,lookB]
 | r::q,k=>by
   rw[eH,lookB]
   simp only
   by_cases h:k=x
   ·subst h;simp
   ·rw[if_neg h,jr q (k+1)]
    by_cases hk:k<=x
    ·rw[if_pos (by omega),if_pos hk,show x - k=(x - (k+1))+1 by omega]
     simp
    ·rw[if_neg (by omega),if_neg hk]
section
variable {P:Program}{c:Ctx}{κ0 κ:Kap}{N:Nat}{s:St}{a:Act}{w:World}
theorem Rel.clip (h:Rel c κ0 N s a w κ)(keep:List Nat):Rel c κ0 N (clip keep s) a w κ:=by
 have e:(Go.Ab.clip keep s).σ=s.σ:=by funext r;exact jI s.sto [] r rfl
 refine⟨h.w_eq,h.ext0,by rw[e];exact h.rel,h.left,fun i=>?_,h.size,h.defers,h.fresh⟩
 simp only[Go.Ab.clip,St.E]
 rw[mm keep (fun i=>look i s.env) i]
 split
 ·exact h.env i
 ·exact .any _
theorem Rel.clip0 (h:Rel c κ0 N s a w κ)(keep:List Nat):Rel c κ0 N (clip0 keep s) a w κ:=by
 refine⟨h.w_eq,h.ext0,h.rel,h.left,fun i=>?_,h.size,h.defers,h.fresh⟩
 simp only[Go.Ab.clip0,St.E]
 rw[mm keep (fun i=>look i s.env) i]
 split
 ·exact h.env i
 ·exact .any _
theorem Rel.norm (h:Rel c κ0 N s a w κ){m0:Nat}(h0:∀ r,m0<=r->κ0.nm r=none)(keep:List Nat):∃ κ',Rel c κ0 N (norm m0 keep s) a w κ':=by
 obtain⟨hnd,hge⟩:=Lk m0 keep s
 let os:=OJ m0 keep s
 let f:=dF m0 os
 let nm':Nat->Option Den:=fun n=>if n<m0 then κ.nm n else match os[n - m0]? with | some r=>κ.nm r | none=>none
 let κ':Kap:=⟨κ.w,nm',κ.imm⟩
 have hf:∀ r r',f r=some r'->κ'.nm r'=κ.nm r:=by
  intro r r' hr
  simp only[f,dF] at hr
  split at hr
  ·cases hr;rename_i hlt;simp[κ',nm',hlt]
  ·obtain⟨h1,h2⟩:=sL os m0 hr
   simp only[κ',nm']
   rw[if_neg (by omega),h2]
 have he0:Ext κ0 κ':=by
  refine⟨h.ext0.imm,h.ext0.cell,fun r d hr=>?_,h.ext0.obj⟩
  have hlt:r<m0:=by
   rcases U6 r m0 with h1 | h1
   ·exact h1
   ·rw[h0 r h1] at hr;cases hr
  simp only[κ',nm',if_pos hlt]
  exact h.ext0.nm r d hr
 have hS:=h.rel
 have hlook:∀ n,(Go.Ab.norm m0 keep s).σ n=if n<m0 then (lookB n s.sto).ren f else match os[n - m0]? with | some r=>(lookB r s.sto).ren f | none=>.none:=by
  intro n
  show lookB n (eH m0 f s.sto (U1 m0++os) 0)=_
  rw[jr,if_pos (Vn _),Nat.sub_zero]
  by_cases hn:n<m0
  ·rw[if_pos hn,List.getElem?_append_left (by simpa using hn),List.getElem?_range hn]
  ·rw[if_neg hn,List.getElem?_append_right (by simp;omega)]
   simp only[List.length_range]
 have hold:∀ n,(Go.Ab.norm m0 keep s).σ n≠.none->∃ r,(Go.Ab.norm m0 keep s).σ n=(lookB r s.sto).ren f/\κ'.nm n=κ.nm r/\(lookB r s.sto)≠.none/\((n<m0/\r=n)\/(m0<=n/\os[n - m0]? = some r)):=by
  intro n hn
  rw[hlook] at hn ⊢
  by_cases hlt:n<m0
  ·rw[if_pos hlt] at hn ⊢
   refine⟨n,rfl,by simp[κ',nm',hlt],fun e=>hn (by rw[e];rfl),.inl ⟨hlt,rfl⟩⟩
  ·rw[if_neg hlt] at hn ⊢
   cases hr:os[n - m0]? with
   | none=>rw[hr] at hn;exact absurd rfl hn
   | some r=>
     rw[hr] at hn
     simp only at hn ⊢
     refine⟨r,rfl,?_,fun e=>hn (by rw[e];rfl),.inr ⟨by omega,rfl⟩⟩
     simp only[κ',nm']
     rw[if_neg hlt,hr]
 have hinj:∀ n n' r,((n<m0/\r=n)\/(m0<=n/\os[n - m0]? = some r))->((n'<m0/\r=n')\/(m0<=n'/\os[n' - m0]? = some r))->n=n':=by
  intro n n' r h1 h2
  rcases h1 with ⟨a1,a2⟩ | ⟨a1,a2⟩<;>rcases h2 with ⟨b1,b2⟩ | ⟨b1,b2⟩
  ·omega
  ·have:=hge r (Us b2);omega
  ·have:=hge r (Us a2);omega
  ·have hlt:n - m0<os.length:=(Ur.1 a2).1
   have:=(List.getElem?_inj hlt hnd).1 (a2.trans b2.symm)
   omega
 refine⟨κ',h.w_eq,he0,⟨fun n=>?_,fun n n' d d' b h1 h2 hne hd hd' hb=>?_,fun n d b h1 hd hb=>?_,hS.immLt,hS.glob⟩,⟨h.left.os,h.left.tape,h.left.output,h.left.size,h.left.block,h.left.imm⟩,fun i=>?_,h.size,h.defers,fun r hr=>?_⟩
 ·by_cases hn:(Go.Ab.norm m0 keep s).σ n = .none
  ·rw[hn];trivial
  ·obtain⟨r,e1,e2,e3,_⟩:=hold n hn
   rw[e1]
   have hB:=hS.blk r
   have hB:eP κ r (lookB r s.sto):=hB
   cases hl:lookB r s.sto with
   | none=>exact absurd hl e3
   | cells T b l=>
     rw[hl] at hB
     rcases hB with ⟨k1,k2,k3⟩ | ⟨bb,n',cs,k1,k2,k3,k4,k5,k6,k7⟩
     ·exact .inl ⟨k1,by rw[k2];simp only[AV.renL],by rw[e2];exact k3⟩
     obtain⟨q1,q2⟩:=ee (κ:=κ) (κ':=κ') rfl rfl hf l cs k6
     exact .inr ⟨bb,n',cs,by rw[e2];exact k1,k2,k3,by rw[q1];exact k4,fun hb=>by rw[q1];exact k5 hb,q2,k7⟩
   | tok e sz=>
     rw[hl] at hB
     rcases hB with k1 | ⟨g,n',cap,cur,k1,k2⟩
     ·exact .inl (by rw[e2];exact k1)
     exact .inr ⟨g,n',cap,cur,by rw[e2];exact k1,k2⟩
   | mp l=>
     rw[hl] at hB
     obtain⟨b,es,ck,k1,k2⟩:=hB
     exact⟨b,es,ck,by rw[e2];exact k1,k2⟩
   | bts e l=>
     rw[hl] at hB
     obtain⟨b,n',cs,fz,k1,k2⟩:=hB
     exact⟨b,n',cs,fz,by rw[e2];exact k1,k2⟩
 ·obtain⟨r,e1,e2,e3,e4⟩:=hold n h1
  obtain⟨r',f1,f2,f3,f4⟩:=hold n' h2
  rw[e2] at hd;rw[f2] at hd'
  refine hS.apart r r' d d' b e3 f3 ?_ hd hd' hb
  rintro rfl
  exact hne (hinj n n' r e4 f4)
 ·obtain⟨r,e1,e2,e3,e4⟩:=hold n h1
  rw[e2] at hd
  exact hS.mine r d b e3 hd hb
 ·show ARel κ' (look i (keep.map fun i=>(i,(s.E i).ren f))) _
  rw[mm keep (fun i=>(s.E i).ren f) i]
  split
  ·exact p6 (κ:=κ) (κ':=κ') rfl rfl hf _ _ (h.env i)
  ·exact .any _
 ·have hr':m0+os.length<=r:=hr
  simp only[κ',nm']
  rw[if_neg (by omega),List.getElem?_eq_none (by omega)]
end
theorem Wk.norm (m0:Nat)(keep:List Nat)(s:St):Wk m0 s (norm m0 keep s):=fun c κ0 κ N a w h0 hr=>hr.norm h0 keep
section
variable {P:Program}{c:Ctx}{κ0 κ:Kap}{N:Nat}{s:St}{a:Act}{w:World}
def fE (κ:Kap)(σ:aq)(b:Nat):Prop:=∃ r d,σ r≠.none/\κ.nm r=some d/\d.block=some b
theorem fE.lt {σ:aq}{b:Nat}(hS:SRel c κ σ)(h:fE κ σ b):b<κ.w.heap.size:=by
 obtain⟨r,d,h1,h2,h3⟩:=h
 exact (hS.blk r).lt h1 h2 h3
def IY (κ:Kap)(σ:aq)(G:Nat->List PV):Ctx:=⟨κ.w,fE κ σ,G,true⟩
def Ctx.round (c:Ctx):Ctx:=⟨c.w0,c.lent,c.G,true⟩
theorem Rel.rebase (h:Rel c κ0 N s a w κ)(nmb:Nat->Option Den)(hn:∀ r d,nmb r=some d->κ.nm r=some d):Rel (IY κ s.σ c.G) ⟨κ.w,nmb,κ.imm⟩ N s a w κ:=by
 have hS:=h.rel
 refine⟨h.w_eq,⟨fun _ _ h=>h,fun _ _ _ _ h=>h,hn,fun _ _ h _=>h⟩,⟨hS.blk,hS.apart,fun r d b h1 h2 h3=>.inr ⟨r,d,h1,h2,h3⟩,hS.immLt,hS.glob.1,fun g hg=>?_⟩,
  ⟨rfl,rfl,rfl,UI _,fun _ _ _=>rfl,fun _ _ h=>.inl h⟩,h.env,h.size,.inl rfl,h.fresh⟩
 obtain⟨h1,h2,cs,T,fz,h3,h4⟩:=hS.glob.2 g hg
 refine⟨(UF.1 h3).1,?_,cs,T,fz,h3,h4⟩
 rintro⟨r,d,k1,k2,k3⟩
 exact en h1 h2 (hS.mine r d g k1 k2 k3)
theorem Rel.upward (h:Rel c κ0 N s a w κ){nmb:Nat->Option Den}{s1:St}{a1:Act}{w1:World}{κ1:Kap}(h1:Rel (IY κ s.σ c.G) ⟨κ.w,nmb,κ.imm⟩ N s1 a1 w1 κ1)(he:Ext κ0 ⟨κ.w,nmb,κ.imm⟩) :
  Ext κ0 κ1/\SRel c κ1 s1.σ/\Left c κ0.imm κ1:=by
 have hl0:=h.left
 have hL:=h1.left
 have hS:=h1.rel
 have hlm:∀ b,fE κ s.σ b->c.mine b:=fun b ⟨r,d,h1,h2,h3⟩=>h.rel.mine r d b h1 h2 h3
 have hmine:∀ b,(IY κ s.σ c.G).mine b->c.mine b:=by
  intro b hb
  rcases hb with hb | hb
  ·exact .inl (UX hl0.size hb)
  ·exact hlm b hb
 refine⟨he.trans h1.ext0,⟨hS.blk,hS.apart,fun r d b h1 h2 h3=>hmine b (hS.mine r d b h1 h2 h3),hS.immLt,hS.glob.1,fun g hg=>?_⟩,
  ⟨hL.os.trans hl0.os,hL.tape.trans hl0.tape,hL.output.trans hl0.output,UX hl0.size hL.size,fun b hlt hl=>?_,fun b o hi=>?_⟩⟩
 ·obtain⟨g1,g2,cs,T,fz,g3,g4⟩:=h.rel.glob.2 g hg
  exact⟨g1,g2,cs,T,fz,(hL.block g (UF.1 g3).1 fun hl=>en g1 g2 (hlm g hl)).trans g3,g4⟩
 ·refine (hL.block b (UZ hlt hl0.size) fun hn=>?_).trans (hl0.block b hlt hl)
  rcases hlm b hn with h4 | h4
  ·omega
  ·exact hl h4
 ·rcases hL.imm b o hi with h1 | h1
  ·exact hl0.imm b o h1
  ·exact .inr (hmine b h1)
theorem Rel.lift (h:Rel c κ0 N s a w κ){s1:St}{a1:Act}{w1:World}{κ1:Kap}(h1:Rel (IY κ s.σ c.G) κ N s1 a1 w1 κ1):Rel c κ0 N ⟨s.env,s1.sto,s1.next⟩ a w1 κ1:=by
 obtain⟨k1,k2,k3⟩:=h.upward (nmb:=κ.nm) h1 h.ext0
 exact⟨h1.w_eq,k1,k2,k3,fun i=>(h.env i).ext h1.ext0,h.size,h.defers.ext h1.ext0,h1.fresh⟩
theorem Rel.lift2 (h:Rel c κ0 N s a w κ){s1:St}{a1:Act}{w1:World}{κ1:Kap}(h1:Rel (IY κ s.σ c.G) κ N s1 a1 w1 κ1):Rel c.round κ0 N s1 a1 w1 κ1:=by
 obtain⟨k1,k2,k3⟩:=h.upward (nmb:=κ.nm) h1 h.ext0
 exact⟨h1.w_eq,k1,⟨k2.blk,k2.apart,k2.mine,k2.immLt,k2.glob⟩,⟨k3.os,k3.tape,k3.output,k3.size,k3.block,k3.imm⟩,h1.env,h1.size,.inl rfl,h1.fresh⟩
theorem Wk.sub {m0:Nat}{s':St}(hW:Wk m0 s s')(h0:∀ r,m0<=r->κ0.nm r=none)(h:Rel c κ0 N s a w κ) :
  ∃ κ',Rel c κ0 N s' a w κ'/\(∀ b o,κ.imm b o->κ'.imm b o)/\∀ b,fE κ' s'.σ b->fE κ s.σ b:=by
 let nmb:Nat->Option Den:=fun r=>if r<m0 then κ.nm r else none
 have hr:=h.rebase nmb (fun r d hd=>by
  simp only[nmb] at hd
  split at hd
  ·exact hd
  ·cases hd)
 obtain⟨κ',h'⟩:=hW _ ⟨κ.w,nmb,κ.imm⟩ κ N a w (fun r hr=>by simp only[nmb];rw[if_neg (by omega)]) hr
 have he0:Ext κ0 ⟨κ.w,nmb,κ.imm⟩:=by
  refine⟨h.ext0.imm,h.ext0.cell,fun r d hd=>?_,h.ext0.obj⟩
  have hlt:r<m0:=by
   rcases U6 r m0 with h1 | h1
   ·exact h1
   ·rw[h0 r h1] at hd;cases hd
  simp only[nmb]
  rw[if_pos hlt];exact h.ext0.nm r d hd
 obtain⟨k1,k2,k3⟩:=h.upward h' he0
 have hw:κ'.w=κ.w:=h'.w_eq.trans h.w_eq.symm
 have hm:dt c κ' a.defers:=by
  rcases h.defers with hm | ⟨Ds,m1,m2,m3⟩
  ·exact .inl hm
  ·exact .inr ⟨Ds,m1,m2,fun D hD=>⟨(m3 D hD).1,by rw[hw];exact (m3 D hD).2⟩⟩
 refine⟨κ',⟨h'.w_eq,k1,k2,k3,h'.env,h'.size,hm,h'.fresh⟩,fun b o hi=>h'.ext0.imm b o hi,fun b hn=>?_⟩
 have hlt:=hn.lt h'.rel
 obtain⟨r,d,q1,q2,q3⟩:=hn
 rcases h'.rel.mine r d b q1 q2 q3 with h4 | h4
 ·rw[hw] at hlt;exact absurd hlt (Nat.not_lt.2 h4)
 ·exact h4
theorem Rel.turn (h:Rel c κ0 N s a w κ)(hk:κ0.w.heap.size<=c.w0.heap.size){w':World}(h1:w'.os=w.os)(h2:w'.tape=w.tape)(h3:w'.output=w.output)(h4:w.heap.size<=w'.heap.size)
  (h5:∀ (b:Nat) (o:Obj),w.heap[b]? = some o->FX o=true->w'.heap[b]? = some o) (h6:∀ b,b<c.w0.heap.size->w'.heap[b]? = w.heap[b]?) {ds:List Deferred} (hm:dt c ⟨w',κ.nm,κ.imm⟩ ds) :
  Rel c κ0 N s ⟨a.tmps,ds⟩ w' ⟨w',κ.nm,κ.imm⟩:=by
 have hw:=h.w_eq
 subst hw
 have hc:∀ b o v,κ.w.cell? ⟨b,o,none⟩=some v->w'.cell? ⟨b,o,none⟩=some v:=fun b o v hv=>by
  obtain⟨q,hq,hqc⟩:=cells_of_cell hv
  exact (World.cell?_of_block (a:=⟨b,o,none⟩) ((h5 b q hq (by cases q<;>first | rfl | cases hqc)).trans hq.symm)).trans hv
 have hx:∀ x v,ARel κ x v->ARel ⟨w',κ.nm,κ.imm⟩ x v:=fun x v hx=>ARel.extC (κ:=κ) (κ':=⟨w',κ.nm,κ.imm⟩) (fun _ _ h=>h) (fun b o v _ hv=>hc b o v hv) (fun _ _ h=>h) hx
 have hS:=h.rel
 refine⟨rfl,⟨h.ext0.imm,fun b o v hi hv=>hc _ _ _ (h.ext0.cell b o v hi hv),h.ext0.nm,fun b o ho hb=>?_⟩,⟨fun r=>?_,hS.apart,hS.mine,fun b o hi=>UZ (hS.immLt b o hi) h4,fun g o p hp=>?_,fun g hg=>?_⟩,
  ⟨h1.trans h.left.os,h2.trans h.left.tape,h3.trans h.left.output,UX h.left.size h4,fun b hb hl=>(h6 b hb).trans (h.left.block b hb hl),h.left.imm⟩,fun i=>hx _ _ (h.env i),h.size,hm,h.fresh⟩
 ·exact (h6 b (UZ (UF.1 ho).1 hk)).trans (h.ext0.obj b o ho hb)
 ·refine (hS.blk r).keepC hx (fun _ _ hp=>PRel.mono (w:=κ.w) (w':=w') (imm:=κ.imm) (imm':=κ.imm) (fun _ _ h=>h) (fun b o v _ hv=>hc b o v hv) hp) (fun _ _ h=>h) fun hB d b hd hb=>⟨?_,fun o ho=>ho⟩
  have hlt:=(hS.blk r).lt hB hd hb
  obtain⟨o,ho⟩:∃ o,κ.w.heap[b]? = some o:=⟨_,Array.getElem?_eq_getElem hlt⟩
  exact (h5 b o ho ((hS.blk r).isCells hB hd hb ho)).trans ho.symm
 ·obtain⟨q1,v,q2,q3,q4⟩:=hS.glob.1 g o p hp
  exact⟨q1,v,hc _ _ _ q2,q3,PRel.mono (w:=κ.w) (w':=w') (imm:=κ.imm) (imm':=κ.imm) (fun _ _ h=>h) (fun b o v _ hv=>hc b o v hv) q4⟩
 ·obtain⟨q1,q2,cs,T,fz,q3,q4⟩:=hS.glob.2 g hg
  exact⟨q1,q2,cs,T,fz,h5 g _ q3 rfl,q4⟩
theorem dt.keep {ds:List Deferred}(h:dt c κ ds){w':World}(hk:∀ (D:Nat),κ.w.heap[D]? = some (.deferred (some []))->w'.heap[D]? = some (.deferred (some []))):dt c ⟨w',κ.nm,κ.imm⟩ ds:=by
 rcases h with h | ⟨Ds,m1,m2,m3⟩
 ·exact .inl h
 ·exact .inr ⟨Ds,m1,m2,fun D hD=>⟨(m3 D hD).1,hk D (m3 D hD).2⟩⟩
theorem Rel.below (h:Rel c κ0 N s a w κ)(hk:κ0.w.heap.size<=c.w0.heap.size){w':World}(hb:Below w.heap.size w w'):Rel c κ0 N s a w' ⟨w',κ.nm,κ.imm⟩:=by
 have hw:=h.w_eq
 have hsz:=h.left.size
 rw[hw] at hsz
 exact h.turn hk (ds:=a.defers) hb.os hb.tape hb.output hb.size (fun b o ho _=>(hb.block b (UF.1 ho).1).trans ho) (fun b hlt=>hb.block b (by omega))
  (h.defers.keep fun D hD=>by rw[hw] at hD;exact (hb.block D (UF.1 hD).1).trans hD)
theorem Rel.putObj (h:Rel c κ0 N s a w κ)(hk:κ0.w.heap.size<=c.w0.heap.size){l:Nat}{o:Obj}(o':Obj)(hl:w.heap[l]? = some o)(ho:FX o=false)(hc:c.w0.heap.size<=l){ds:List Deferred}
  (hm:dt c ⟨w.putObj l o',κ.nm,κ.imm⟩ ds):Rel c κ0 N s ⟨a.tmps,ds⟩ (w.putObj l o') ⟨w.putObj l o',κ.nm,κ.imm⟩:=
 h.turn (w':=w.putObj l o') hk rfl rfl rfl (by simp) (fun b q hq hqc=>by
  have:b≠l:=by rintro rfl;rw[hl] at hq;cases hq;rw[ho] at hqc;cases hqc
  exact (World.putObj_heap_other this).trans hq) (fun b hb=>World.putObj_heap_other (by omega)) hm
theorem Rel.more (h:Rel c κ0 N s a w κ){im:Nat->Nat->Prop}(h1:∀ b o,im b o->b<w.heap.size)(h2:∀ b o,im b o->fE κ s.σ b->κ.imm b o)(h3:∀ b o,im b o->κ0.imm b o\/c.mine b) :
  Rel c κ0 N s a w ⟨κ.w,κ.nm,fun b o=>κ.imm b o\/im b o⟩:=by
 have hw:=h.w_eq
 subst hw
 have hS:=h.rel
 have he:Ext κ ⟨κ.w,κ.nm,fun b o=>κ.imm b o\/im b o⟩:=⟨fun _ _ h=>.inl h,fun _ _ _ _ h=>h,fun _ _ h=>h,fun _ _ h _=>h⟩
 refine⟨rfl,h.ext0.trans he,⟨fun r=>?_,hS.apart,hS.mine,fun b o ho=>ho.elim (hS.immLt b o) (h1 b o),T9 he hS.glob fun _ _ _=>rfl⟩,⟨h.left.os,h.left.tape,h.left.output,h.left.size,h.left.block,fun b o ho=>ho.elim (h.left.imm b o) (h3 b o)⟩,
  fun i=>(h.env i).ext he,h.size,h.defers.ext he,h.fresh⟩
 by_cases hB:s.σ r = .none
 ·rw[hB];trivial
 ·exact (hS.blk r).keep he fun _ d b hd hb=>⟨rfl,fun o ho=>ho.elim _root_.id fun hi=>h2 b o hi ⟨r,d,hB,hd,hb⟩⟩
theorem ld:∀ (ps:List Nat) (vs:List Value) (x:List PV) (e:List (Nat×AV)) (t:Array Value),(∀ i,ARel κ (look i e) (t.getD i Go.undef))->t.size=N->OB N ps=true->vs.length=ps.length->x.length=ps.length ->
  (∀ (j:Nat) (y:PV),x[j]? = some y->PRel κ.w κ.imm y (vs.getD j Go.undef)) ->
  (∀ i,ARel κ (look i (FP ps x e)) (((ps.zip vs).foldl (fun t (p,v)=>t.setIfInBounds p v) t).getD i Go.undef))/\((ps.zip vs).foldl (fun (t:Array Value) (p,v)=>t.setIfInBounds p v) t).size=N
 | [],vs,x,e,t,h1,h2,_,_,h5,_=>by
   have:x=[]:=by simpa using h5
   subst this
   exact⟨h1,h2⟩
 | p::ps,[],x,e,t,h1,h2,_,h4,_,_=>by simp at h4
 | p::ps,v::vs,[],e,t,h1,h2,_,_,h5,_=>by simp at h5
 | p::ps,v::vs,x::xs,e,t,h1,h2,h3,h4,h5,h6=>by
   simp only[OB,UK,decide_eq_true_eq] at h3
   simp only[FP,List.zip_cons_cons,List.foldl_cons]
   refine ld ps vs xs ((p,.pv x)::e) (t.setIfInBounds p v) (fun i=>?_) (by simpa using h2) h3.2 (by simpa using h4) (by simpa using h5) (fun j y hy=>by simpa using h6 (j+1) y (by simpa using hy))
   simp only[look]
   by_cases hi:p=i
   ·subst hi
    rw[if_pos rfl]
    have:(t.setIfInBounds p v).getD p Go.undef=v:=by simp[Uw,h2,h3.1.1]
    rw[this];exact .pv _ _ (by simpa using h6 0 x rfl)
   ·rw[if_neg hi]
    have:(t.setIfInBounds p v).getD i Go.undef=t.getD i Go.undef:=by
     simp only[Uw,VC]
     rw[if_neg hi]
    rw[this];exact h1 i
end
def lift (c:Ctx)(κ0:Kap)(N:Nat)(Q:AExit->St->Prop):Exit->Act->World->Prop
 | .normal,a,w=>∃ s κ,Rel c κ0 N s a w κ/\Q .norm s
 | .exit id,a,w=>∃ s κ,Rel c κ0 N s a w κ/\Q (.exit id) s
 | .ret,a,w=>∃ s κ,Rel c κ0 N s a w κ/\Q .ret s
 | _,_,_=>False
theorem ja {F:Fence}{nf:Nat}{P:Program}{co:Code}{Q:Exit->Act->World->Prop}{a:Act}{w:World}(J:Nat->Act->World->Prop)(h:∃ n,J n a w)
  (round:∀ n a w,J n a w->co.wpIn F nf P (Exit.then (fun a' w'=>∃ n',n'<n/\J n' a' w') Q) a w):(Code.loop co).wpIn F nf P Q a w:=by
 classical
 have least:∀ a w,(∃ n,J n a w)->∃ n,J n a w/\∀ k,J k a w->n<=k:=by
  rintro a w ⟨n,hn⟩
  induction n using Nat.strongRecOn with
  | _ n ih=>
    by_cases h:∃ k,k<n/\J k a w
    ·obtain⟨k,h1,h2⟩:=h
     exact ih k h1 h2
    ·exact⟨n,hn,fun k hk=>Nat.le_of_not_lt fun hlt=>h ⟨k,hlt,hk⟩⟩
 let μ:Act->World->Nat:=fun a w=>if h:∃ n,J n a w then Classical.choose (least a w h) else 0
 have hμ:∀ a w n,J n a w->μ a w<=n/\J (μ a w) a w:=by
  intro a w n hn
  have hx:∃ n,J n a w:=⟨n,hn⟩
  simp only[μ,dif_pos hx]
  have:=Classical.choose_spec (least a w hx)
  exact⟨this.2 n hn,this.1⟩
 refine wpIn_loop (fun a w=>∃ n,J n a w) μ h fun a w ⟨n,hn⟩=>?_
 refine wpIn_mono (round _ a w (hμ a w n hn).2) ?_
 intro e a' w' hq
 cases e with
 | normal=>
   obtain⟨n',h1,h2⟩:=hq
   exact⟨⟨n',h2⟩,Nat.lt_of_le_of_lt (hμ a' w' n' h2).1 h1⟩
 | _=>exact hq
section
variable {P:Program}{c:Ctx}{κ0:Kap}{N:Nat}
theorem pd {G:Nat->List PV}{m0:Nat}{Q:AExit->St->Prop}{s:St}(h:vc P G m0 (.ops [⟨none,iN,none⟩] []) Q s):False:=by
 simp[vc,dv,bZ,IW,ku,iN,AX.ev,dn,aK] at h
theorem qa {muts:List Nat}{assign body:Code}{g:Operand}{ps:Array Tmp}{f:AX}{Q:AExit->St->Prop}{m0 nf:Nat}{va vb:Nat->(AExit->St->Prop)->St->Prop}{s:St}{a:Act}{w:World}{κ:Kap}
  (hA:∀ (c1:Ctx) (κ1:Kap) (m1 l n:Nat) (Q:AExit->St->Prop) (s:St) (a:Act) (w:World) (κ:Kap),c1.G=c.G->(∀ r,m1<=r->κ1.nm r=none)->κ1.w.heap.size<=c1.w0.heap.size->Rel c1 κ1 N s a w κ->va m1 Q s->assign.wpIn (FR (some l)) n P (lift c1 κ1 N Q) a w)
  (hB:∀ (c1:Ctx) (κ1:Kap) (m1 l n:Nat) (Q:AExit->St->Prop) (s:St) (a:Act) (w:World) (κ:Kap),c1.G=c.G->(∀ r,m1<=r->κ1.nm r=none)->κ1.w.heap.size<=c1.w0.heap.size->Rel c1 κ1 N s a w κ->vb m1 Q s->body.wpIn (FR (some l)) n P (lift c1 κ1 N Q) a w)
  (hg:cX g=some f) (hps:OB N ps.toList=true) (h0:∀ r,m0<=r->κ0.nm r=none) (hk:κ0.w.heap.size<=c.w0.heap.size) (hR:Rel c κ0 N s a w κ) (hv:IB P c.G va vb m0 f ps.toList Q s) :
  (Code.rangeFunc g ps assign body).wpIn (FR none) nf P (lift c κ0 N Q) a w:=by
 obtain⟨I,s0,hW,hI0,hv⟩:=hv
 obtain⟨κ,hR⟩:=hW c κ0 κ N a w h0 hR
 have hw:=hR.w_eq
 subst hw
 simp only[aK] at hv
 split at hv
 rotate_left
 ·exact hv.elim
 rename_i p hp
 obtain⟨hfs,lb,xs,hlb,⟨hcal,hseq⟩,hrnd,hdone⟩:=hv
 obtain⟨vs,us,hfun,hvs,hus,_,hu1⟩:=C5 (az (κ:=κ) (E:=s0.E) (a:=a) hg (fun i _=>hR.env i)) hp
 have hvs0:vs = #[]:=by rw[hfs] at hvs;exact Array.eq_empty_of_size_eq_zero hvs
 subst hvs0
 have hc0:c.w0.heap.size<=κ.w.heap.size:=hR.left.size
 refine wpIn_rangeFunc fun fn _=>?_
 let D:=κ.w.heap.size
 let L:LoopState->Option Code->Obj:=fun st pe=>.loop { state:=st,pending:=pe,fn:=fn,tmps:=a.tmps,params:=ps,assign:=assign,body:=body,defers:=D }
 let W1:=(κ.w.alloc (.deferred (some []))).alloc (L .ready none)
 have g1:W1.heap[D+1]? = some (L .ready none):=by
  have:=World.alloc_heap_new (κ.w.alloc (.deferred (some []))) (L .ready none)
  rwa [World.size_alloc] at this
 have g2:W1.heap[D]? = some (.deferred (some [])):=(Below.heap_alloc _ _ _ (by simp[D])).trans (World.alloc_heap_new κ.w _)
 have gb:Below κ.w.heap.size κ.w W1:=((Below.refl _ κ.w).alloc (UI _) _).alloc (by simp) _
 have hR1:=hR.below hk gb
 have he1:Ext κ ⟨W1,κ.nm,κ.imm⟩:=⟨fun _ _ h=>h,fun b o v hi hc=>(World.cell?_of_block (a:=⟨b,o,none⟩) (gb.block b (World.block_lt_of_cell? κ.w _ hc))).trans hc,fun _ _ h=>h,fun b o ho _=>(gb.block b (UF.1 ho).1).trans ho⟩
 have hlt:∀ {W:World} {o:Obj} {k:Nat},W.heap[k]? = some o->k<W.heap.size:=fun h=>(UF.1 h).1
 have hDs:∀ {Ds:List Nat},a.defers=Ds.map IH->(c.rnd=true\/D∉Ds):=by
  intro Ds hd
  rcases hR.defers with h | ⟨Es,m1,m2,m3⟩
  ·exact .inl h
  ·refine .inr fun hm=>?_
   have:IH D∈Es.map IH:=by rw[<- m1,hd];exact UO.2 ⟨D,hm,rfl⟩
   obtain⟨E,hE,hEe⟩:=UO.1 this
   have hED:E=D:=by simpa[IH] using hEe
   have:=hlt (m3 E hE).2
   omega
 have markD:∀ {W:World} {κ':Kap} {o':Obj},dt c κ' a.defers->κ'.w=W->W.heap[D]? = some (.deferred (some []))->W.heap[D+1]?≠none->(∀ k:Nat,k≠D+1->(W.putObj (D+1) o').heap[k]? = W.heap[k]?)->(∀ q,W.heap[D+1]?≠some (.deferred q))->dt c ⟨W.putObj (D+1) o',κ'.nm,κ'.imm⟩ (IH D::a.defers):=by
  intro W κ' o' hm hw hD _ hput hnd
  have hkeep:∀ (E:Nat),W.heap[E]? = some (.deferred (some []))->(W.putObj (D+1) o').heap[E]? = some (.deferred (some [])):=fun E hE=>by
   rw[hput E (by rintro rfl;exact hnd _ hE)];exact hE
  rcases hm with h | ⟨Es,m1,m2,m3⟩
  ·exact .inl h
  ·rcases hDs m1 with h | h
   ·exact .inl h
   ·refine .inr ⟨D::Es,by rw[m1];rfl,List.nodup_cons.2 ⟨h,m2⟩,fun E hE=>?_⟩
    rcases UP.1 hE with rfl | hE
    ·exact⟨hc0,hkeep _ hD⟩
    ·exact⟨(m3 E hE).1,hkeep _ (by rw[<- hw];exact (m3 E hE).2)⟩
 let J:Nat->(Nat->Nat->Prop)->World->Prop:=fun i O W=>∃ s' κ',I i s'/\Rel c κ0 N s' a W κ'/\(∀ b o,O b o↔((fE κ' s'.σ b/\¬ κ'.imm b o)\/b=D\/b=D+1))/\W.heap[D+1]? = some (L .ready none)/\W.heap[D]? = some (.deferred (some []))
 let Jx:World->Prop:=fun W=>∃ cd s' κ',((cd = .ret/\Q .ret s')\/∃ id,cd = .exit id/\Q (.exit id) s')/\Rel c κ0 N s' a W κ'/\W.heap[D+1]? = some (L .done (some cd))/\W.heap[D]? = some (.deferred (some []))
 refine⟨D+1,[IH D],W1,{ target:=.fn (.func p.1) us,args:=#[.func (.yield (D+1)) #[] #[]] },W1,p.1,#[.func (.yield (D+1)) #[] #[]]++us,W1,run_enterLoop_outer _ _ _ _ _,?_,fun _ _=>trivial,?_,fun h=>absurd h (tL none),?_⟩
 ·simp only[resolve,hfun];simp[go_sem]
 ·simp[invoke,go_sem,fb hcal]
 have hmain:=hseq W1 κ.imm us (D+1) J Jx (fun b o=>(fE κ s0.σ b/\¬ κ.imm b o)\/b=D\/b=D+1) hR1.rel.glob.ok (fun b o hi=>?_) (hus.trans (by simpa using (bT hlb).symm)) (fun i x hx=>?_) ?_ ?_ ?_ ⟨s0,_,hI0,hR1,fun _ _=>Iff.rfl,g1,g2⟩
 ·refine CallsIn.mono (show CallsIn (FR none) (nf - 1) P p.1 _ W1 _ from (callsIn_wide (n:=nf - 1)).2 ((callsIn_wide (n:=0)).1 hmain)) ?_
  rintro e W2 ⟨⟨v,rfl⟩,⟨O',s',κ',hI,hR',hO,hL,hD⟩ | ⟨cd,s',κ',hQ,hR',hL,hD⟩⟩
  ·have hRe:=hR'.putObj hk (L .exhausted none) hL rfl (by omega) (markD hR'.defers hR'.w_eq hD (by rw[hL];simp) (fun k hk=>World.putObj_heap_other hk) (fun q hq=>by rw[hL] at hq;cases hq))
   exact⟨none,_,run_endLoop hL (by simp),s',_,hRe,hdone s' hI⟩
  ·have hRe:=hR'.putObj hk (L .exhausted (some cd)) hL rfl (by omega) (markD hR'.defers hR'.w_eq hD (by rw[hL];simp) (fun k hk=>World.putObj_heap_other hk) (fun q hq=>by rw[hL] at hq;cases hq))
   refine⟨some cd,_,run_endLoop hL (by simp),?_⟩
   rcases hQ with ⟨rfl,hQ⟩ | ⟨id,rfl,hQ⟩
   ·exact wpIn_ret ⟨s',_,hRe,hQ⟩
   ·exact wpIn_exit ⟨s',_,hRe,hQ⟩
 ·have h1:=hR.rel.immLt b o hi
  refine⟨UZ h1 gb.size,?_⟩
  rintro (⟨_,h⟩ | h | h)
  ·exact h hi
  ·omega
  ·omega
 ·obtain⟨y,hy,hq⟩:=cB hlb i x hx
  exact bI hq ((hu1 i y hy).ext he1)
 ·rintro i O W W' ⟨s',κ',q1,q2,q3,q4,q5⟩ hb
  exact⟨s',_,q1,q2.below hk hb,q3,(hb.block _ (hlt q4)).trans q4,(hb.block _ (hlt q5)).trans q5⟩
 ·rintro i O W b o ⟨s',κ',q1,q2,q3,q4,q5⟩ ho
  rcases (q3 b o).1 ho with ⟨h,_⟩ | rfl | rfl
  ·have:=h.lt q2.rel
   rwa [q2.w_eq] at this
  ·exact hlt q5
  ·exact hlt q4
 ·rintro m i x O W vals imm' kp ⟨s',κ',hI,hR',hO,hL,hD⟩ hx hsz hpx him hkp hkO
  have hw':=hR'.w_eq
  subst hw'
  obtain⟨hlen,hva⟩:=hrnd i x s' hx hI
  have hnot:∀ b o,kp b o->fE κ' s'.σ b->κ'.imm b o:=fun b o h hn=>Classical.byContradiction fun hc=>(hkO b o h).2 ((hO b o).2 (.inl ⟨hn,hc⟩))
  have hneD:∀ b o,kp b o->b≠D/\b≠D+1:=fun b o h=>⟨fun e=>(hkO b o h).2 ((hO b o).2 (.inr (.inl e))),fun e=>(hkO b o h).2 ((hO b o).2 (.inr (.inr e)))⟩
  have hM:=hR'.more (im:=imm') (fun b o h=>(hkO b o (hkp b o h)).1) (fun b o h hn=>hnot b o (hkp b o h) hn) (fun b o h=>by
   rcases him b o h with h | h
   ·exact hR.left.imm b o h
   ·exact .inr (.inl (by have:=gb.size;omega)))
  obtain⟨e1,e2⟩:=ld (κ:=⟨κ'.w,κ'.nm,fun b o=>κ'.imm b o\/imm' b o⟩) (N:=N) ps.toList vals.toList x s'.env a.tmps hM.env hM.size hps (by simp[hsz,hlen]) hlen (fun j y hy=>by
   rw[<- aA]
   exact (hpx j y hy).mono (fun _ _ h=>.inr h) (fun _ _ _ _ h=>h))
  have hfold:(ps.zip vals).foldl (fun (t:Array Value) (p,v)=>t.setIfInBounds p v) a.tmps=(ps.toList.zip vals.toList).foldl (fun (t:Array Value) (p,v)=>t.setIfInBounds p v) a.tmps:=by
   rw[<- Array.foldl_toList,Array.toList_zip]
  rw[<- hfold] at e1 e2
  have hP:Rel c κ0 N ⟨FP ps.toList x s'.env,s'.sto,s'.next⟩ ⟨(ps.zip vals).foldl (fun (t:Array Value) (p,v)=>t.setIfInBounds p v) a.tmps,[]⟩ κ'.w ⟨κ'.w,κ'.nm,fun b o=>κ'.imm b o\/imm' b o⟩:=
   ⟨rfl,hM.ext0,hM.rel,hM.left,e1,e2,dt.nil _ _,hM.fresh⟩
  have hb1:=hP.rebase κ'.nm (fun _ _ h=>h)
  refine⟨fn,_,assign,body,run_yield hL (by simp[hsz,hlen]),roundIn_of_wpIn trivial (Go.wpIn_mono (hA (IY ⟨κ'.w,κ'.nm,fun b o=>κ'.imm b o\/imm' b o⟩ s'.σ c.G) ⟨κ'.w,κ'.nm,fun b o=>κ'.imm b o\/imm' b o⟩ s'.next (D+1) m _ _ _ _ _ rfl (fun r hr=>hR'.fresh r hr) (UI _) hb1 hva) ?_)⟩
  intro e a2 w2 hq
  cases e with
  | exit id=>obtain⟨_,_,_,hf⟩:=hq;exact hf.elim
  | ret=>obtain⟨_,_,_,hf⟩:=hq;exact hf.elim
  | goto t=>exact hq.elim
  | panic ch=>exact hq.elim
  | outgrown=>exact hq.elim
  | normal=>
    obtain⟨s2,κ2,hR2,hv2⟩:=hq
    have hw2:=hR2.w_eq
    subst hw2
    have hL2:κ2.w.heap[D+1]? = some (L .ready none):=hR2.ext0.obj _ _ hL rfl
    have hD2:κ2.w.heap[D]? = some (.deferred (some [])):=hR2.ext0.obj _ _ hD rfl
    refine⟨_,run_beginRound hL2 rfl,?_⟩
    let W3:=κ2.w.putObj (D+1) (L .busy none)
    have hmk:∀ {K:Kap} {o o':Obj} {ds:List Deferred},dt c K ds->K.w.heap[D+1]? = some o->(∀ q,o≠.deferred q)->dt c ⟨K.w.putObj (D+1) o',K.nm,K.imm⟩ ds:=by
     intro K o o' ds hm hl ho
     exact hm.keep fun E hE=>by
      have:E≠D+1:=by rintro rfl;rw[hl] at hE;cases hE;exact ho _ rfl
      exact (World.putObj_heap_other this).trans hE
    have o2:=hM.lift (s1:=s2) hR2
    have o3:=o2.putObj hk (L .busy none) hL2 rfl (by omega) (hmk o2.defers hL2 (fun q h=>by cases h))
    have i2:=hP.lift2 hR2
    have i3:=i2.putObj (c:=c.round) hk (L .busy none) hL2 rfl (show c.w0.heap.size<=D+1 by omega) (ds:=a2.defers) (.inl rfl)
    have hb3:=i3.rebase κ2.nm (fun _ _ h=>h)
    have hL3:W3.heap[D+1]? = some (L .busy none):=World.putObj_heap_same (hlt hL2)
    have hD3:W3.heap[D]? = some (.deferred (some [])):=(World.putObj_heap_other (by omega)).trans hD2
    refine Go.wpIn_mono (hB (IY ⟨W3,κ2.nm,κ2.imm⟩ s2.σ c.G) ⟨W3,κ2.nm,κ2.imm⟩ s2.next (D+1) m _ s2 _ W3 _ rfl (fun r hr=>hR2.fresh r hr) (UI _) hb3 hv2) ?_
    intro e a4 w4 hq
    have fin:∀ (s4:St) (κ4:Kap) (jump:Option Code),Rel (IY ⟨W3,κ2.nm,κ2.imm⟩ s2.σ c.G) ⟨W3,κ2.nm,κ2.imm⟩ N s4 a4 w4 κ4 ->
      let W5:=w4.putObj (D+1) (L (if jump.isNone then .ready else .done) jump)
      (Instr.endRound (D+1) jump).run P w4 = .ok (.bool jump.isNone) W5/\W5.heap[D+1]? = some (L (if jump.isNone then .ready else .done) jump)/\W5.heap[D]? = some (.deferred (some [])) /\
      Rel c κ0 N ⟨s'.env,s4.sto,s4.next⟩ a W5 ⟨W5,κ4.nm,κ4.imm⟩:=by
     intro s4 κ4 jump hR4
     have hw4:=hR4.w_eq
     subst hw4
     have hL4:κ4.w.heap[D+1]? = some (L .busy none):=hR4.ext0.obj _ _ hL3 rfl
     have hD4:κ4.w.heap[D]? = some (.deferred (some [])):=hR4.ext0.obj _ _ hD3 rfl
     have o4:=o3.lift (s1:=s4) hR4
     exact⟨run_endRound jump hL4,World.putObj_heap_same (hlt hL4),(World.putObj_heap_other (by omega)).trans hD4,o4.putObj hk _ hL4 rfl (by omega) (hmk o4.defers hL4 (fun q h=>by cases h))⟩
    cases e with
    | goto t=>exact hq.elim
    | panic ch=>exact hq.elim
    | outgrown=>exact hq.elim
    | ret=>
      obtain⟨s4,κ4,hR4,hq⟩:=hq
      obtain⟨f1,f2,f3,f4⟩:=fin s4 κ4 (some .ret) hR4
      exact⟨_,_,f1,.inr ⟨rfl,.ret,_,_,.inl ⟨rfl,hq⟩,f4,f2,f3⟩⟩
    | exit id=>
      obtain⟨s4,κ4,hR4,hq⟩:=hq
      obtain⟨f1,f2,f3,f4⟩:=fin s4 κ4 (some (.exit id)) hR4
      exact⟨_,_,f1,.inr ⟨rfl,.exit id,_,_,.inr ⟨id,rfl,hq⟩,f4,f2,f3⟩⟩
    | normal=>
      obtain⟨s4,κ4,hR4,s6,hW6,hI6⟩:=hq
      obtain⟨f1,f2,f3,f4⟩:=fin s4 κ4 none hR4
      obtain⟨κ6,hR6,him6,hnm6⟩:=hW6.sub h0 f4
      have hw4:=hR4.w_eq
      subst hw4
      have hlt':∀ b o,kp b o->b<κ'.w.heap.size:=fun b o h=>(hkO b o h).1
      have s12:κ'.w.heap.size<=κ2.w.heap.size:=hR2.left.size
      have s23:κ2.w.heap.size=W3.heap.size:=by simp[W3]
      have s34:W3.heap.size<=κ4.w.heap.size:=hR4.left.size
      have n2:∀ b,b<κ'.w.heap.size->fE κ2 s2.σ b->fE κ' s'.σ b:=by
       rintro b hb ⟨r,d,q1,q2,q3⟩
       rcases hR2.rel.mine r d b q1 q2 q3 with h | h
       ·exact absurd hb (Nat.not_lt.2 h)
       ·exact h
      have n4:∀ b,b<κ'.w.heap.size->fE κ4 s4.σ b->fE κ' s'.σ b:=by
       rintro b hb ⟨r,d,q1,q2,q3⟩
       rcases hR4.rel.mine r d b q1 q2 q3 with h | h
       ·exact absurd (UZ hb (UX s12 (Nat.le_of_eq s23))) (Nat.not_lt.2 h)
       ·exact n2 b hb h
      have i12:∀ b o,κ'.imm b o->κ4.imm b o:=fun b o h=>hR4.ext0.imm b o (hR2.ext0.imm b o (.inl h))
      refine⟨_,_,f1,.inl ⟨rfl,⟨fun b o=>(fE κ6 s6.σ b/\¬ κ6.imm b o)\/b=D\/b=D+1,⟨s6,κ6,hI6,hR6,fun _ _=>Iff.rfl,f2,f3⟩,fun b o hkb=>?_⟩,?_,fun b o v hkb hv=>?_,fun g hg=>?_⟩⟩
      ·rintro (⟨h1,h2⟩ | h | h)
       ·exact h2 (him6 b o (i12 b o (hnot b o hkb (n4 b (hlt' b o hkb) (hnm6 b h1)))))
       ·exact (hneD b o hkb).1 h
       ·exact (hneD b o hkb).2 h
      ·simp;omega
      ·have turn:∀ {X:World} {o':Obj},X.cell? ⟨b,o,none⟩=some v->(X.putObj (D+1) o').cell? ⟨b,o,none⟩=some v:=fun {X o'} h=>
        (World.cell?_of_block (a:=⟨b,o,none⟩) (World.putObj_heap_other (hneD b o hkb).2)).trans h
       by_cases hi:κ'.imm b o
       ·exact turn (hR4.ext0.cell b o v (hR2.ext0.imm b o (.inl hi)) (turn (hR2.ext0.cell b o v (.inl hi) hv)))
       ·have hn:¬ fE κ' s'.σ b:=fun h=>hi (hnot b o hkb h)
        have hb:=hlt' b o hkb
        have k2:κ2.w.cell? ⟨b,o,none⟩=some v:=(World.cell?_of_block (a:=⟨b,o,none⟩) (hR2.left.block b hb hn)).trans hv
        have hb3:b<W3.heap.size:=UZ hb (by omega)
        exact turn ((World.cell?_of_block (a:=⟨b,o,none⟩) (hR4.left.block b hb3 fun h=>hn (n2 b hb h))).trans (turn k2))
      ·have hw6:=hR6.w_eq
       rw[<- hw6]
       exact (hR6.rel.glob.2 g hg).2.2
theorem r6 {muts rl:List Nat}:∀ (co:Code) (c:Ctx) (κ0:Kap) (m0:Nat) (ro:Option Nat) (nf:Nat) (ac:ACode) (ex:List (Nat×List Nat)) (out li:List Nat) (Q:AExit->St->Prop) (s:St) (a:Act) (w:World) (κ:Kap),
  (ro=none\/bu co=false)->(∀ r,m0<=r->κ0.nm r=none)->κ0.w.heap.size<=c.w0.heap.size ->
  bw P muts N rl co ex out=some (ac,li)->Rel c κ0 N s a w κ->vc P c.G m0 ac Q s->co.wpIn (FR ro) nf P (lift c κ0 N Q) a w:=by
 intro co
 induction co with
 | skip=>
   intro c κ0 m0 ro nf ac ex out li Q s a w κ hro h0 hk hc hR hv
   simp only[bw,Uu,Uz] at hc
   obtain⟨rfl,_⟩:=hc
   exact wpIn_skip ⟨s,κ,hR,hv⟩
 | exit id=>
   intro c κ0 m0 ro nf ac ex out li Q s a w κ hro h0 hk hc hR hv
   simp only[bw,Uu,Uz] at hc
   obtain⟨rfl,_⟩:=hc
   exact wpIn_exit ⟨s,κ,hR,hv⟩
 | ret=>
   intro c κ0 m0 ro nf ac ex out li Q s a w κ hro h0 hk hc hR hv
   simp only[bw,Uu,Uz] at hc
   obtain⟨rfl,_⟩:=hc
   exact wpIn_ret ⟨s,κ,hR,hv⟩
 | region id ops d=>
   intro c κ0 m0 ro nf ac ex out li Q s a w κ hro h0 hk hc hR hv
   simp only[bw] at hc
   split at hc
   ·rename_i l hl
    cases d with
    | false=>
      simp only[Uu,Uz] at hc
      obtain⟨rfl,_⟩:=hc
      exact wpIn_region_list (d6 (F:=qC Q (ni out)) (fun s a w κ hR hF=>⟨_,κ,hR.clip _,hF⟩) ops.toList l s a w κ hl hR hv)
    | true=>
      simp only at hc
      split at hc
      ·rename_i hok
       simp only[Uu,Uz] at hc
       obtain⟨rfl,_⟩:=hc
       exact lI (F:=qC Q (ni out)) hl hok.1 hok.2.1 hok.2.2 hR hv (fun s a w κ hR hF=>⟨_,κ,hR.clip _,hF⟩)
      ·cases hc
   ·cases hc
 | seq x y ihx ihy=>
   intro c κ0 m0 ro nf ac ex out li Q s a w κ hro h0 hk hc hR hv
   simp only[bw] at hc
   split at hc
   ·rename_i b' lb hb
    split at hc
    ·rename_i a' la ha
     simp only[Uu,Uz] at hc
     obtain⟨rfl,_⟩:=hc
     refine wpIn_seq (Go.wpIn_mono (ihx c κ0 m0 ro nf _ _ _ _ _ s a w κ (hro.imp _root_.id fun h=>by simp only[bu,Bool.or_eq_false_iff] at h;exact h.1) h0 hk ha hR hv) ?_)
     intro e a w hq
     cases e with
     | normal=>
       obtain⟨s,κ,hR,hF⟩:=hq
       exact ihy c κ0 m0 ro nf _ _ _ _ _ s a w κ (hro.imp _root_.id fun h=>by simp only[bu,Bool.or_eq_false_iff] at h;exact h.2) h0 hk hb hR hF
     | exit id=>exact hq
     | ret=>exact hq
     | goto l=>exact hq.elim
     | panic ch=>exact hq.elim
     | outgrown=>exact hq.elim
    ·cases hc
   ·cases hc
 | cond x y z ihy ihz=>
   intro c κ0 m0 ro nf ac ex out li Q s a w κ hro h0 hk hc hR hv
   simp only[bw] at hc
   split at hc
   ·rename_i ax a' la b' lb hx hy hz
    simp only[Uu,Uz] at hc
    obtain⟨rfl,_⟩:=hc
    have hw:=hR.w_eq
    have hrel:=az (κ:=κ) (E:=s.E) (a:=a) hx (fun i _=>hR.env i)
    simp only[vc,nO] at hv
    split at hv
    ·rename_i he
     rw[he] at hrel
     exact wpIn_cond_true (cY hrel) (ihy c κ0 m0 ro nf _ _ _ _ _ s a w κ (hro.imp _root_.id fun h=>by simp only[bu,Bool.or_eq_false_iff] at h;exact h.1) h0 hk hy hR hv)
    ·rename_i he
     rw[he] at hrel
     exact wpIn_cond_false (cY hrel) (ihz c κ0 m0 ro nf _ _ _ _ _ s a w κ (hro.imp _root_.id fun h=>by simp only[bu,Bool.or_eq_false_iff] at h;exact h.2) h0 hk hz hR hv)
    ·exact hv.elim
   ·cases hc
 | block id b ih=>
   intro c κ0 m0 ro nf ac ex out li Q s a w κ hro h0 hk hc hR hv
   simp only[bw] at hc
   split at hc
   ·rename_i b' lb hb
    simp only[Uu,Uz] at hc
    obtain⟨rfl,_⟩:=hc
    refine wpIn_block (Go.wpIn_mono (ih c κ0 m0 ro nf _ _ _ _ _ s a w κ (hro.imp _root_.id fun h=>by simpa only[bu] using h) h0 hk hb hR hv) ?_)
    intro e a w hq
    cases e with
    | normal=>exact hq
    | ret=>exact hq
    | goto l=>exact hq.elim
    | panic ch=>exact hq.elim
    | outgrown=>exact hq.elim
    | exit id'=>
      obtain⟨s,κ,hR,hF⟩:=hq
      simp only[fj] at hF
      simp only[Exit.inBlock]
      split
      ·rename_i hid
       rw[if_pos hid] at hF
       exact⟨s,κ,hR,hF⟩
      ·rename_i hid
       rw[if_neg hid] at hF
       exact⟨s,κ,hR,hF⟩
   ·cases hc
 | loop b ih=>
   intro c κ0 m0 ro nf ac ex out li Q s a w κ hro h0 hk hc hR hv
   simp only[bw] at hc
   split at hc
   ·rename_i x1 l1 hb1
    split at hc
    ·rename_i x2 l2 hb2
     split at hc
     ·rename_i b' l3 hb
      simp only[Uu,Uz] at hc
      obtain⟨rfl,_⟩:=hc
      obtain⟨I,⟨n0,s0,hs0,hI0⟩,hround⟩:=hv
      let J:Nat->Act->World->Prop:=fun n a w=>∃ s κ,Rel c κ0 N s a w κ/\I n s
      have hJ0:∃ n,J n a w:=by
       obtain⟨κ',hR'⟩:=hs0 c κ0 κ N a w h0 hR
       exact⟨n0,_,κ',hR',hI0⟩
      refine ja J hJ0 fun n a w hJn=>?_
      obtain⟨s,κ,hR,hIs⟩:=hJn
      refine Go.wpIn_mono (ih c κ0 m0 ro nf _ _ _ _ _ s a w κ (hro.imp _root_.id fun h=>by simpa only[bu] using h) h0 hk hb hR (hround _ s hIs)) ?_
      intro e a' w' hq
      cases e with
      | normal=>
        obtain⟨s',κ',hR',n',s'',hn',hs',hI'⟩:=hq
        obtain⟨κ'',hR''⟩:=hs' c κ0 κ' N a' w' h0 hR'
        exact⟨n',hn',_,κ'',hR'',hI'⟩
      | exit id=>
        obtain⟨s',κ',hR',s'',hs',hq'⟩:=hq
        obtain⟨κ'',hR''⟩:=hs' c κ0 κ' N a' w' h0 hR'
        exact⟨s'',κ'',hR'',hq'⟩
      | ret=>exact hq
      | goto l=>exact hq.elim
      | panic ch=>exact hq.elim
      | outgrown=>exact hq.elim
     ·cases hc
    ·cases hc
   ·cases hc
 | rangeFunc g ps x y ihx ihy=>
   intro c κ0 m0 ro nf ac ex out li Q s a w κ hro h0 hk hc hR hv
   rcases hro with rfl | h
   rotate_left
   ·simp[bu] at h
   simp only[bw] at hc
   split at hc
   ·rename_i ax b' lb hxy hx hb hps
    simp only[Bool.or_eq_false_iff] at hxy
    split at hc
    ·rename_i a' la ha
     simp only[Uu,Uz] at hc
     obtain⟨rfl,_⟩:=hc
     simp only[vc] at hv
     exact qa (muts:=muts) (fun c1 κ1 m1 l n Q s a w κ hG g0 gk hR hv=>ihx c1 κ1 m1 (some l) n _ _ _ _ Q s a w κ (.inr hxy.1) g0 gk ha hR (by rw[hG];exact hv))
      (fun c1 κ1 m1 l n Q s a w κ hG g0 gk hR hv=>ihy c1 κ1 m1 (some l) n _ _ _ _ Q s a w κ (.inr hxy.2) g0 gk hb hR (by rw[hG];exact hv)) hx hps h0 hk hR hv
    ·cases hc
   ·simp only[Uu,Uz] at hc;obtain⟨rfl,rfl⟩:=hc;exact (pd hv).elim
 | scope b ih=>intro c κ0 m0 ro nf ac ex out li Q s a w κ hro h0 hk hc hR hv;simp only[bw,Uu,Uz] at hc;obtain⟨rfl,rfl⟩:=hc;exact (pd hv).elim
 | label l=>intro c κ0 m0 ro nf ac ex out li Q s a w κ hro h0 hk hc hR hv;simp only[bw,Uu,Uz] at hc;obtain⟨rfl,rfl⟩:=hc;exact (pd hv).elim
 | goto l=>intro c κ0 m0 ro nf ac ex out li Q s a w κ hro h0 hk hc hR hv;simp only[bw,Uu,Uz] at hc;obtain⟨rfl,rfl⟩:=hc;exact (pd hv).elim
 | refuse y=>intro c κ0 m0 ro nf ac ex out li Q s a w κ hro h0 hk hc hR hv;simp only[bw,Uu,Uz] at hc;obtain⟨rfl,rfl⟩:=hc;exact (pd hv).elim
end
mutual
inductive Nz:PV->PV->Prop
 | refl (p:PV):Nz p p
 | nils:Nz .nils (.list [])
 | agg (cs ds:List PV):NzL cs ds->Nz (.agg cs) (.agg ds)
 | tup (cs ds:List PV):NzL cs ds->Nz (.tup cs) (.tup ds)
 | list (cs ds:List PV):NzL cs ds->Nz (.list cs) (.list ds)
inductive NzL:List PV->List PV->Prop
 | nil:NzL [] []
 | cons (x y:PV) (r q:List PV):Nz x y->NzL r q->NzL (x::r) (y::q)
end
theorem NzL.refl:∀ l:List PV,NzL l l
 | []=>.nil
 | x::r=>.cons x x r r (.refl x) (NzL.refl r)
theorem NzL.length:∀ {l k:List PV},NzL l k->l.length=k.length
 | [],_,h=>by cases h;rfl
 | x::r,_,h=>by cases h with | cons _ y _ q _ h2=>simp[NzL.length h2]
theorem NzL.get:∀ {l k:List PV},NzL l k->∀ (i:Nat) (y:PV),k[i]? = some y->∃ x,l[i]? = some x/\Nz x y
 | [],_,h,i,y,hy=>by cases h;simp at hy
 | x::r,_,h,i,y,hy=>by
   cases h with
   | cons _ y' _ q h1 h2=>
     cases i with
     | zero=>simp at hy;subst hy;exact⟨x,rfl,h1⟩
     | succ i=>exact NzL.get h2 i y (by simpa using hy)
theorem Nz.cells {p q:PV}(h:Nz p q):NzL p.cells q.cells:=by
 cases h with
 | refl=>exact NzL.refl _
 | nils=>exact .cons _ _ _ _ .nils .nil
 | agg cs ds h=>exact h
 | tup cs ds h=>exact .cons _ _ _ _ (.tup _ _ h) .nil
 | list cs ds h=>exact .cons _ _ _ _ (.list _ _ h) .nil
theorem PRel.nz {w:World}{imm:Nat->Nat->Prop}{p:PV}{v:Value}(h:PRel w imm p v):∀ {q:PV},Nz p q->PRel w imm q v:=by
 induction h with
 | undef=>intro q hq;cases hq;exact .undef
 | bool b=>intro q hq;cases hq;exact .bool b
 | int k n=>intro q hq;cases hq;exact .int k n
 | str s hs=>intro q hq;cases hq;exact .str s hs
 | agg cs vs hl hc ih=>
   intro q hq
   cases hq with
   | refl=>exact .agg cs vs hl hc
   | agg _ ds hd=>
     refine .agg ds vs (by rw[hl,hd.length]) fun i y hy=>?_
     obtain⟨x,hx,hxy⟩:=hd.get i y hy
     exact ih i x hx hxy
 | tup cs vs hl hc ih=>
   intro q hq
   cases hq with
   | refl=>exact .tup cs vs hl hc
   | tup _ ds hd=>
     refine .tup ds vs (by rw[hl,hd.length]) fun i y hy=>?_
     obtain⟨x,hx,hxy⟩:=hd.get i y hy
     exact ih i x hx hxy
 | nils=>
   intro q hq
   cases hq with
   | refl=>exact .nils
   | nils=>exact .lnil none 0 (by simp)
 | lnil A c h=>
   intro q hq
   cases hq with
   | refl=>exact .lnil A c h
   | list _ ds hd=>cases hd;exact .lnil A c h
 | list l b off c sz g h1 h2 h3 h4 h5 ih=>
   intro q hq
   cases hq with
   | refl=>exact .list l b off c sz g h1 h2 h3 h4 h5
   | list _ ds hd=>
     have hlen:=hd.length
     have key:=PRel.list (w:=w) (imm:=imm) ds b off c sz g (by omega) h2 (fun i y hy=>by
       obtain⟨x,hx,hxy⟩:=hd.get i y hy
       rw[<- h3 i x hx,hxy.cells.length]) (fun i y j z hy hz=>by
       obtain⟨x,hx,hxy⟩:=hd.get i y hy
       obtain⟨u,hu,huz⟩:=hxy.cells.get j z hz
       exact h4 i x j u hx hu) (fun i y j z hy hz=>by
       obtain⟨x,hx,hxy⟩:=hd.get i y hy
       obtain⟨u,hu,huz⟩:=hxy.cells.get j z hz
       exact ih i x j u hx hu huz)
     rw[<- hlen] at key
     exact key
 | nilp=>intro q hq;cases hq;exact .nilp
 | nilf=>intro q hq;cases hq;exact .nilf
 | clo f fs cs vs us h1 h2 h3 h4 _ _=>intro q hq;cases hq;exact .clo f fs cs vs us h1 h2 h3 h4
 | eptr l b off c sz g i o h1 h2 h3 h4 h5 h6 _=>intro q hq;cases hq;exact .eptr l b off c sz g i o h1 h2 h3 h4 h5 h6
 | gptr g o=>intro q hq;cases hq;exact .gptr g o
 | nili=>intro q hq;cases hq;exact .nili
 | iface T p u h _=>intro q hq;cases hq;exact .iface T p u h
theorem qB (p:PV):Nz p p=True:=eq_true (.refl p)
theorem Lm:Nz .nils (.list [])=True:=eq_true .nils
theorem ON (cs ds:List PV):Nz (.agg cs) (.agg ds)=NzL cs ds:=propext ⟨fun h=>by cases h with | refl=>exact NzL.refl _ | agg _ _ h=>exact h,.agg _ _⟩
theorem OK (cs ds:List PV):Nz (.tup cs) (.tup ds)=NzL cs ds:=propext ⟨fun h=>by cases h with | refl=>exact NzL.refl _ | tup _ _ h=>exact h,.tup _ _⟩
theorem Ln (a b:Bool):Nz (.bool a) (.bool b)=(a=b):=propext ⟨fun h=>by cases h;rfl,fun h=>h▸.refl _⟩
theorem OM (k k':IntKind)(a b:Int):Nz (.int k a) (.int k' b)=(k=k'/\a=b):=propext ⟨fun h=>by cases h;exact⟨rfl,rfl⟩,fun ⟨h,g⟩=>h▸g▸.refl _⟩
theorem OL (a b:List UInt8):Nz (.str a) (.str b)=(a=b):=propext ⟨fun h=>by cases h;rfl,fun h=>h▸.refl _⟩
theorem Lo:NzL [] []=True:=eq_true .nil
theorem F6 (x y:PV)(r q:List PV):NzL (x::r) (y::q)=(Nz x y/\NzL r q):=propext ⟨fun h=>by cases h with | cons _ _ _ _ h1 h2=>exact⟨h1,h2⟩,fun ⟨h1,h2⟩=>.cons _ _ _ _ h1 h2⟩
theorem NzL.map {α:Type}{f g:α->PV}(h:∀ x,Nz (f x) (g x)):∀ l:List α,NzL (l.map f) (l.map g)
 | []=>.nil
 | x::r=>.cons _ _ _ _ (h x) (NzL.map h r)
theorem NzL.append:∀ {a b c d:List PV},NzL a b->NzL c d->NzL (a++c) (b++d)
 | [],_,_,_,h,k=>by cases h;exact k
 | x::r,_,_,_,h,k=>by cases h with | cons _ _ _ _ h1 h2=>exact .cons _ _ _ _ h1 (NzL.append h2 k)
def g9 (n e sz:Nat):AV:=if e<1000000 then .olist n sz [] else .row n sz 0 0
def cQ (e sz:Nat):Blk:=if e<1000000 then .tok e sz else .cells (e - 1000000) false []
def M0 (k:Nat)(e sz:Nat)(s:St):AV->St
 | .pv .nils=>⟨(k,g9 s.next e sz)::s.env,(s.next,cQ e sz)::s.sto,s.next+1⟩
 | _=>s
def Nj (r T:Nat)(f:Bool)(l:List AV)(o e sz:Nat)(s:St):Option AV->St
 | some (.pv .nils)=>⟨s.env,(r,.cells T f (l.set o (g9 s.next e sz)))::(s.next,cQ e sz)::s.sto,s.next+1⟩
 | _=>s
def accB (r o e sz:Nat)(s:St):Blk->St
 | .cells T f l=>Nj r T f l o e sz s l[o]?
 | _=>s
def QA (o e sz:Nat)(s:St):AV->St
 | .ptr r b=>accB r (b+o) e sz s (lookB r s.sto)
 | _=>s
def Su (p:Nat×Nat×Nat×Nat)(s:St):St:=
 match p.2.1 with
 | 0=>M0 p.1 p.2.2.1 p.2.2.2 s (look p.1 s.env)
 | j+1=>QA j p.2.2.1 p.2.2.2 s (look p.1 s.env)
def H6:List (Nat×Nat×Nat×Nat)->St->St
 | [],s=>s
 | p::r,s=>H6 r (Su p s)
section
variable {P:Program}{c:Ctx}{κ0 κ:Kap}{N:Nat}{s:St}{a:Act}{w:World}
theorem H7 {σ0:aq}(hS:SRel c κ σ0){new:Nat}(hn:κ.nm new=none)(e sz:Nat) :
  Done c κ ⟨κ.w,fun r=>if r=new then some (.own (.slice none 0 0)) else κ.nm r,κ.imm⟩ new /\
  SRel c ⟨κ.w,fun r=>if r=new then some (.own (.slice none 0 0)) else κ.nm r,κ.imm⟩ (aq.set σ0 new (cQ e sz)) /\
  ARel ⟨κ.w,fun r=>if r=new then some (.own (.slice none 0 0)) else κ.nm r,κ.imm⟩ (g9 new e sz) (.slice none 0 0):=by
 unfold g9 cQ
 split
 ·exact DQ hS hn e sz
 ·exact mT hS hn (e - 1000000) sz
theorem Il (e sz:Nat)(env:List (Nat×AV))(sto:List (Nat×Blk))
  (henv:∀ (κ κ':Kap),Ext κ κ'->ARel κ' (g9 s.next e sz) (.slice none 0 0)->∀ (a:Act),(∀ i,ARel κ (s.E i) (a.tmps.getD i Go.undef))->∀ i,ARel κ' (look i env) (a.tmps.getD i Go.undef))
  (hsto:∀ (c:Ctx) (κ':Kap),(∀ r T f l,s.σ r = .cells T f l->r≠s.next)->ARel κ' (g9 s.next e sz) (.slice none 0 0)->SRel c κ' (aq.set s.σ s.next (cQ e sz))->(∀ r,s.next<r->κ'.nm r=none)->SRel c κ' (fun r=>lookB r sto)):Wx s ⟨env,sto,s.next+1⟩:=by
 intro c κ0 κ N a w h
 obtain⟨h1,h2,h3⟩:=H7 h.rel (h.fresh s.next (UI _)) e sz
 have hfr:∀ r,s.next<r->(if r=s.next then some (Den.own (Value.slice none 0 0)) else κ.nm r)=none:=by
  intro r hr
  rw[if_neg (by omega)]
  exact h.fresh r (by omega)
 exact⟨_,h1.ext,h.w_eq,h.ext0.trans h1.ext,hsto c _ (fun r T f l hr hn=>by
  have hB:=h.rel.blk r
  rw[hr] at hB
  rcases hB with ⟨_,_,h1⟩ | ⟨b,n,cs,h1,_⟩<;>(rw[hn,h.fresh s.next (UI _)] at h1;cases h1)) h3 h2 hfr,h1.left _ h.left,henv κ _ h1.ext h3 a h.env,h.size,h.defers.ext h1.ext,fun r hr=>hfr r hr⟩
theorem sB {v:Value}(h:ARel κ (.pv .nils) v):v = .slice none 0 0:=by cases aG h;rfl
theorem Jj (k e sz:Nat)(s:St):Wx s (M0 k e sz s (look k s.env)):=by
 unfold M0
 split
 ·rename_i hk
  refine Il e sz _ _ (fun κ κ' he ho a henv i=>?_) (fun c κ' _ ho hS _=>?_)
  ·simp only[look]
   split
   ·rename_i hi
    subst hi
    have:=henv k
    rw[show s.E k=look k s.env from rfl,hk] at this
    rw[sB this]
    exact ho
   ·exact (henv i).ext he
  ·have:(fun r=>lookB r ((s.next,cQ e sz)::s.sto))=aq.set s.σ s.next (cQ e sz):=by
    funext r
    simp only[lookB,aq.set,St.σ]
    by_cases h:s.next=r
    ·simp[h]
    ·rw[if_neg h,if_neg (fun e=>h e.symm)]
   rw[this];exact hS
 ·exact Wx.refl s
theorem Dg {κ:Kap}{r T:Nat}{f:Bool}{l:List AV}{o:Nat}{y:AV}(h:eP κ r (.cells T f l))(hy:∀ v x,l[o]? = some x->ARel κ x v->ARel κ y v):eP κ r (.cells T f (l.set o y)):=by
 rcases h with ⟨h1,h2,h3⟩ | ⟨b,n,cs,h1,h2,h3,h4,h7,h5,h6⟩
 ·exact .inl ⟨h1,by rw[h2];rfl,h3⟩
 refine .inr ⟨b,n,cs,h1,h2,h3,by simpa using h4,by simpa using h7,fun j x hx=>?_,h6⟩
 rw[List.getElem?_set] at hx
 split at hx
 ·rename_i hj
  subst hj
  split at hx
  ·rename_i hlt
   cases hx
   exact hy _ _ (Uq hlt) (h5 o _ (Uq hlt))
  ·cases hx
 ·exact h5 j x hx
theorem yv (r o e sz:Nat)(s:St):Wx s (accB r o e sz s (lookB r s.sto)):=by
 unfold accB
 split
 ·rename_i T f l hl
  unfold Nj
  split
  ·rename_i ho
   refine Il e sz _ _ (fun κ κ' he ho a henv i=>(henv i).ext he) (fun c κ' hcl hol hS hfr=>?_)
   have hr:=hcl r T f l hl
   have hB:=hS.blk r
   have hσr:aq.set s.σ s.next (cQ e sz) r = .cells T f l:=by simp only[aq.set,hr,if_false];exact hl
   rw[hσr] at hB
   have hnew:(fun q=>lookB q ((r,Blk.cells T f (l.set o (g9 s.next e sz)))::(s.next,cQ e sz)::s.sto))=aq.set (aq.set s.σ s.next (cQ e sz)) r (.cells T f (l.set o (g9 s.next e sz))):=by
    funext q
    simp only[lookB,aq.set,St.σ]
    by_cases h:r=q
    ·rw[if_pos h,if_pos h.symm]
    ·have h1:¬ q=r:=fun e=>h e.symm
     rw[if_neg h,if_neg h1]
     by_cases h':s.next=q
     ·have h2:q=s.next:=h'.symm
      rw[if_pos h',if_pos h2]
     ·have h2:¬ q=s.next:=fun e=>h' e.symm
      rw[if_neg h',if_neg h2]
   rw[hnew]
   have hz:∀ q,(aq.set (aq.set s.σ s.next (cQ e sz)) r (.cells T f (l.set o (g9 s.next e sz)))) q≠.none->(aq.set s.σ s.next (cQ e sz)) q≠.none:=by
    intro q hq
    by_cases h:q=r
    ·subst h;rw[hσr];simp
    ·simpa[aq.set,h] using hq
   refine⟨fun q=>?_,fun q q' d d' b' h1 h2=>hS.apart q q' d d' b' (hz q h1) (hz q' h2),fun q d b' h1=>hS.mine q d b' (hz q h1),hS.immLt,hS.glob⟩
   by_cases h:q=r
   ·subst h
    simp only[aq.set,if_true]
    refine Dg hB fun v x hx hv=>?_
    rw[ho] at hx;cases hx
    rw[sB hv];exact hol
   ·have:=hS.blk q
    simp only[aq.set,h,if_false] at this ⊢
    exact this
  ·exact Wx.refl s
 ·exact Wx.refl s
theorem Ji (k o e sz:Nat)(s:St):Wx s (QA o e sz s (look k s.env)):=by
 unfold QA
 split
 ·exact yv _ _ _ _ s
 ·exact Wx.refl s
theorem Jk (p:Nat×Nat×Nat×Nat)(s:St):Wx s (Su p s):=by
 unfold Su
 split
 ·exact Jj _ _ _ s
 ·exact Ji _ _ _ _ s
theorem yu:∀ (l:List (Nat×Nat×Nat×Nat)) (s:St),Wx s (H6 l s)
 | [],s=>Wx.refl s
 | p::r,s=>(Jk p s).trans (yu r _)
inductive AVz:AV->AV->Prop
 | refl (x:AV):AVz x x
 | any (x:AV):AVz x .any
 | pv (p q:PV):Nz p q->AVz (.pv p) (.pv q)
 | olist (r sz:Nat) (l k:List PV):NzL l k->AVz (.olist r sz l) (.olist r sz k)
 | list (r sz:Nat) (l k:List PV):NzL l k->AVz (.olist r sz l) (.pv (.list k))
inductive AVzL:List AV->List AV->Prop
 | nil:AVzL [] []
 | cons (x y:AV) (r q:List AV):AVz x y->AVzL r q->AVzL (x::r) (y::q)
theorem AVz.rel {κ:Kap}{x y:AV}{v:Value}(h:AVz x y)(hr:ARel κ x v):ARel κ y v:=by
 cases h with
 | refl=>exact hr
 | any=>exact .any v
 | pv p q hq=>exact .pv _ _ ((aG hr).nz hq)
 | olist r sz l k hq=>
   cases hr with
   | olist _ _ _ _ hn hp hs=>
     refine .olist _ _ _ _ hn (hp.nz (.list _ _ hq)) fun y hy=>?_
     obtain⟨i,hi⟩:=List.getElem?_of_mem hy
     obtain⟨x,hx,hxy⟩:=hq.get i y hi
     rw[<- hs x (Us hx),hxy.cells.length]
 | list r sz l k hq=>
   cases hr with
   | olist _ _ _ _ hn hp hs=>exact .pv _ _ (hp.nz (.list _ _ hq))
theorem AVzL.length:∀ {l k:List AV},AVzL l k->l.length=k.length
 | [],_,h=>by cases h;rfl
 | x::r,_,h=>by cases h with | cons _ y _ q _ h2=>simp[AVzL.length h2]
theorem AVzL.get:∀ {l k:List AV},AVzL l k->∀ (i:Nat) (y:AV),k[i]? = some y->∃ x,l[i]? = some x/\AVz x y
 | [],_,h,i,y,hy=>by cases h;simp at hy
 | x::r,_,h,i,y,hy=>by
   cases h with
   | cons _ y' _ q h1 h2=>
     cases i with
     | zero=>simp at hy;subst hy;exact⟨x,rfl,h1⟩
     | succ i=>exact AVzL.get h2 i y (by simpa using hy)
inductive AVzP:List AV->List AV->Prop
 | nil (l:List AV):AVzP l []
 | cons (x y:AV) (r q:List AV):AVz x y->AVzP r q->AVzP (x::r) (y::q)
theorem AVzP.length:∀ {l k:List AV},AVzP l k->k.length<=l.length
 | _,[],_=>Vn _
 | _,y::q,h=>by cases h with | cons x _ r _ _ h2=>simp;exact AVzP.length h2
theorem AVzP.get:∀ {l k:List AV},AVzP l k->∀ (i:Nat) (y:AV),k[i]? = some y->∃ x,l[i]? = some x/\AVz x y
 | _,[],h,i,y,hy=>by simp at hy
 | _,y'::q,h,i,y,hy=>by
   cases h with
   | cons x _ r _ h1 h2=>
     cases i with
     | zero=>simp at hy;subst hy;exact⟨x,rfl,h1⟩
     | succ i=>exact AVzP.get h2 i y (by simpa using hy)
theorem TM:∀ {l k:List AV},AVzL l k->AVzP l k
 | [],_,h=>by cases h;exact .nil _
 | x::r,_,h=>by cases h with | cons _ y _ q h1 h2=>exact .cons _ _ _ _ h1 (TM h2)
theorem TL:∀ (a b:List AV),AVzP (a++b) a
 | [],b=>.nil _
 | x::r,b=>.cons _ _ _ _ (.refl x) (TL r b)
inductive EnvZ:List (Nat×AV)->List (Nat×AV)->Prop
 | nil:EnvZ [] []
 | cons (k:Nat) (x y:AV) (r q:List (Nat×AV)):AVz x y->EnvZ r q->EnvZ ((k,x)::r) ((k,y)::q)
inductive BlkZ:Blk->Blk->Prop
 | refl (b:Blk):BlkZ b b
 | none (b:Blk):BlkZ b .none
 | cells (T:Nat) (f:Bool) (l k:List AV):AVzL l k->BlkZ (.cells T f l) (.cells T f k)
 | pre (T:Nat) (f:Bool) (l k:List AV):AVzP l k->BlkZ (.cells T f l) (.cells T false k)
inductive StoZ:List (Nat×Blk)->List (Nat×Blk)->Prop
 | nil:StoZ [] []
 | cons (k:Nat) (x y:Blk) (r q:List (Nat×Blk)):BlkZ x y->StoZ r q->StoZ ((k,x)::r) ((k,y)::q)
theorem EnvZ.look:∀ {e e':List (Nat×AV)},EnvZ e e'->∀ i,AVz (look i e) (look i e')
 | [],_,h,i=>by cases h;exact .refl _
 | (k,x)::r,_,h,i=>by
   cases h with
   | cons _ _ y _ q h1 h2=>
     simp only[Go.Ab.look]
     split
     ·exact h1
     ·exact EnvZ.look h2 i
theorem StoZ.look:∀ {e e':List (Nat×Blk)},StoZ e e'->∀ i,BlkZ (lookB i e) (lookB i e')
 | [],_,h,i=>by cases h;exact .refl _
 | (k,x)::r,_,h,i=>by
   cases h with
   | cons _ _ y _ q h1 h2=>
     simp only[Go.Ab.lookB]
     split
     ·exact h1
     ·exact StoZ.look h2 i
theorem BlkZ.rel {κ:Kap}{r:Nat}{b b':Blk}(h:BlkZ b b')(hb:eP κ r b):eP κ r b'/\(b'≠.none->b≠.none):=by
 cases h with
 | refl=>exact⟨hb,id⟩
 | none=>exact⟨trivial,fun h=>absurd rfl h⟩
 | cells T f l k hk=>
   have hlen:=hk.length
   rcases hb with ⟨h1,h2,h3⟩ | ⟨b,n,cs,h1,h2,h3,h4,h7,h5,h6⟩
   ·exact⟨.inl ⟨h1,UG (by rw[<- hlen,h2];rfl),h3⟩,fun _=>by simp⟩
   refine⟨.inr ⟨b,n,cs,h1,h2,h3,by omega,fun h=>by rw[<- hlen];exact h7 h,fun o y hy=>?_,h6⟩,fun _=>by simp⟩
   obtain⟨x,hx,hxy⟩:=hk.get o y hy
   exact hxy.rel (h5 o x hx)
 | pre T f l k hk=>
   have hlen:=hk.length
   rcases hb with ⟨h1,h2,h3⟩ | ⟨b,n,cs,h1,h2,h3,h4,h7,h5,h6⟩
   ·exact⟨.inl ⟨rfl,UG (by rw[h2] at hlen;simpa using hlen),h3⟩,fun _=>by simp⟩
   refine⟨.inr ⟨b,n,cs,h1,h2,h3,by omega,fun h=>(by cases h),fun o y hy=>?_,h6⟩,fun _=>by simp⟩
   obtain⟨x,hx,hxy⟩:=hk.get o y hy
   exact hxy.rel (h5 o x hx)
def StZ (s s':St):Prop:=EnvZ s.env s'.env/\StoZ s.sto s'.sto/\s.next=s'.next
theorem EnvZ.refl:∀ e:List (Nat×AV),EnvZ e e
 | []=>.nil
 | (k,x)::r=>.cons k x x r r (.refl x) (EnvZ.refl r)
theorem StoZ.refl:∀ e:List (Nat×Blk),StoZ e e
 | []=>.nil
 | (k,x)::r=>.cons k x x r r (.refl x) (StoZ.refl r)
theorem AVzL.refl:∀ e:List AV,AVzL e e
 | []=>.nil
 | x::r=>.cons x x r r (.refl x) (AVzL.refl r)
theorem StZ.wx {s t:St}(h:StZ s t):Wx s t:=by
 intro c κ0 κ N a w hR
 obtain⟨h1,h2,h3⟩:=h
 have hz:∀ r,t.σ r≠.none->s.σ r≠.none:=fun r hr=>((h2.look r).rel (hR.rel.blk r)).2 hr
 refine⟨κ,Ext.refl κ,hR.w_eq,hR.ext0,⟨fun r=>((h2.look r).rel (hR.rel.blk r)).1,fun r r' d d' b k1 k2=>hR.rel.apart r r' d d' b (hz r k1) (hz r' k2),fun r d b k1=>hR.rel.mine r d b (hz r k1),hR.rel.immLt,hR.rel.glob⟩,
  hR.left,fun i=>(h1.look i).rel (hR.env i),hR.size,hR.defers,fun r hr=>hR.fresh r (by omega)⟩
def cC (A:List (Nat×Nat×Nat×Nat))(m0:Nat)(keep:List Nat)(s:St):St:=norm m0 keep (H6 A s)
theorem Eg (A:List (Nat×Nat×Nat×Nat))(m0:Nat)(keep:List Nat)(s:St):Wk m0 s (cC A m0 keep s):=
 (Wk.of (yu A s) m0).trans (Wk.norm m0 keep _)
theorem Wk.head {A:List (Nat×Nat×Nat×Nat)}{m0:Nat}{keep:List Nat}{s t:St}(h:StZ (cC A m0 keep s) t):Wk m0 s t:=
 (Eg A m0 keep s).trans (Wk.of h.wx m0)
theorem HP (x:AV):AVz x x=True:=eq_true (.refl x)
theorem Qi (p q:PV):AVz (.pv p) (.pv q)=Nz p q:=propext ⟨fun h=>by cases h with | refl=>exact .refl _ | pv _ _ h=>exact h,.pv _ _⟩
theorem HQ (r sz:Nat)(l k:List PV):AVz (.olist r sz l) (.pv (.list k))=NzL l k:=propext ⟨fun h=>by cases h with | list _ _ _ _ h=>exact h,.list _ _ _ _⟩
theorem HU:AVzL [] []=True:=eq_true .nil
theorem DG (x y:AV)(r q:List AV):AVzL (x::r) (y::q)=(AVz x y/\AVzL r q):=propext ⟨fun h=>by cases h with | cons _ _ _ _ h1 h2=>exact⟨h1,h2⟩,fun ⟨h1,h2⟩=>.cons _ _ _ _ h1 h2⟩
theorem HA:EnvZ [] []=True:=eq_true .nil
theorem CM (k:Nat)(x y:AV)(r q:List (Nat×AV)):EnvZ ((k,x)::r) ((k,y)::q)=(AVz x y/\EnvZ r q):=propext ⟨fun h=>by cases h with | cons _ _ _ _ _ h1 h2=>exact⟨h1,h2⟩,fun ⟨h1,h2⟩=>.cons _ _ _ _ _ h1 h2⟩
theorem DB (b:Blk):BlkZ b b=True:=eq_true (.refl b)
theorem Qd (T:Nat)(l k:List AV):BlkZ (.cells T true l) (.cells T true k)=AVzL l k:=propext ⟨fun h=>by cases h with | refl=>exact AVzL.refl _ | cells _ _ _ _ h=>exact h,.cells _ _ _ _⟩
theorem Qf (T:Nat)(f:Bool)(l k:List AV):BlkZ (.cells T f l) (.cells T false k)=AVzP l k:=propext ⟨fun h=>by
 cases h with
 | refl=>exact TM (AVzL.refl _)
 | cells _ _ _ _ h=>exact TM h
 | pre _ _ _ _ h=>exact h,.pre _ _ _ _⟩
theorem Qe (b:Blk):BlkZ b .none=True:=eq_true (.none b)
theorem HS (l:List AV):AVzP l []=True:=eq_true (.nil l)
theorem DE (x y:AV)(r q:List AV):AVzP (x::r) (y::q)=(AVz x y/\AVzP r q):=propext ⟨fun h=>by cases h with | cons _ _ _ _ h1 h2=>exact⟨h1,h2⟩,fun ⟨h1,h2⟩=>.cons _ _ _ _ h1 h2⟩
theorem DD (l:List AV):AVzP l l=True:=eq_true (TM (AVzL.refl l))
theorem HT (a b:List AV):AVzP (a++b) a=True:=eq_true (TL a b)
theorem DF (l:List AV):AVzL l l=True:=eq_true (AVzL.refl l)
theorem EL:StoZ [] []=True:=eq_true .nil
theorem za (k:Nat)(x y:Blk)(r q:List (Nat×Blk)):StoZ ((k,x)::r) ((k,y)::q)=(BlkZ x y/\StoZ r q):=propext ⟨fun h=>by cases h with | cons _ _ _ _ _ h1 h2=>exact⟨h1,h2⟩,fun ⟨h1,h2⟩=>.cons _ _ _ _ _ h1 h2⟩
theorem NA (e e':List (Nat×AV))(σ σ':List (Nat×Blk))(n n':Nat):StZ ⟨e,σ,n⟩ ⟨e',σ',n'⟩=(EnvZ e e'/\StoZ σ σ'/\n=n'):=_root_.id rfl
end
inductive ARes where
 | tmp (t:Nat)
 | cell (t:Nat) (g:Bool) (sz:Nat)
structure AFn where
 N:Nat
 res:List ARes
 body:ACode
def Oq (G:Nat->List PV)(s:St):ARes->Option AV
 | .tmp t=>some (s.E t)
 | .cell t g sz=>ef G g sz s.σ (s.E t)
def eX (G:Nat->List PV)(s:St):List ARes->Option (List AV)
 | []=>some []
 | r::q=>match Oq G s r,eX G s q with
   | some a,some b=>some (a::b)
   | _,_=>none
def xO (l:List AV):AV:=
 match l with
 | [v]=>v
 | l=>nT l
def Iz (R:AV->List (Nat×Blk)->Nat->Prop)(s:St)(l:List AV):Prop:=R (xO l) s.sto s.next
def FnK (G:Nat->List PV)(res:List ARes)(R:AV->List (Nat×Blk)->Nat->Prop):AExit->St->Prop
 | .norm,s=>aK (eX G s res) (Iz R s)
 | .ret,s=>aK (eX G s res) (Iz R s)
 | .exit _,_=>False
def Sj (P:Program):ResultVar->Option ARes
 | .tmp t=>some (.tmp t)
 | .cell a t=>match iP P t,eR P t with
   | some g,some n=>some (.cell a g n)
   | _,_=>none
def Dr (P:Program):List ResultVar->Option (List ARes)
 | []=>some []
 | r::q=>match Sj P r,Dr P q with
   | some a,some b=>some (a::b)
   | _,_=>none
def gV:List ARes->List Nat
 | []=>[]
 | .tmp t::r=>fM (gV r) [t]
 | .cell t _ _::r=>fM (gV r) [t]
def cFn (P:Program)(muts:List Nat)(f:Nat):Option AFn:=
 match P.funcs[f]? with
 | some fn=>match fn.body with
   | some c=>match Dr P fn.results.toList with
     | some rs=>if bY P f=true then match bw P muts fn.ntmps (gV rs) c [] (gV rs) with
       | some (b,_)=>some ⟨fn.ntmps,rs,b⟩
       | none=>none
       else none
     | none=>none
   | none=>none
 | none=>none
def dk (args:List AV):List (Nat×AV):=args.zipIdx.map fun p=>(p.2,p.1)
section
variable {P:Program}{G:Nat->List PV}
theorem jG:∀ (args:List AV) (k i:Nat),look i ((args.zipIdx k).map fun p=>(p.2,p.1))=if k<=i then (args[i - k]?).getD .any else .any
 | [],k,i=>by simp[look]
 | x::r,k,i=>by
   rw[List.zipIdx_cons,UQ,look]
   simp only
   by_cases h:k=i
   ·subst h;simp
   ·rw[if_neg h,jG r (k+1) i]
    by_cases hk:k<=i
    ·rw[if_pos (by omega),if_pos hk,show i - k=(i - (k+1))+1 by omega];simp
    ·rw[if_neg (by omega),if_neg hk]
def sk (tmps:Array Value):ResultVar->Sem Value
 | .tmp t=>pure (tmps.getD t Go.undef)
 | .cell x t=>do loadVar t (<- asAddr (tmps.getD x Go.undef))
theorem kZ (fn:Func)(tmps:Array Value):results fn tmps=(do let vs <- fn.results.mapM (sk tmps);pure (if h:vs.size=1 then vs[0] else .tuple vs)):=by
 unfold results
 congr 1
theorem jq {c:Ctx}{κ0 κ:Kap}{N:Nat}{s:St}{a:Act}{w:World}(hR:Rel c κ0 N s a w κ):∀ (rv:List ResultVar) (rs:List ARes) (vs:List AV),Dr P rv=some rs->eX c.G s rs=some vs ->
  ∃ us:List Value,(rv.mapM (sk a.tmps)).run P w = .ok us w/\us.length=vs.length/\∀ (i:Nat) (x:AV),vs[i]? = some x->ARel κ x (us.getD i Go.undef)
 | [],rs,vs,h1,h2=>by
   simp[Dr] at h1;subst h1
   simp[eX] at h2;subst h2
   exact⟨[],by simp,rfl,by simp⟩
 | r::q,rs,vs,h1,h2=>by
   simp only[Dr] at h1
   split at h1
   ·rename_i ra rb hra hrb
    cases h1
    simp only[eX] at h2
    split at h2
    ·rename_i va vb hva hvb
     cases h2
     obtain⟨us,k1,k2,k3⟩:=jq hR q rb vb hrb hvb
     have hw:=hR.w_eq
     subst hw
     have hone:∃ u,(sk a.tmps r).run P κ.w = .ok u κ.w/\ARel κ va u:=by
      cases r with
      | tmp t=>
        simp only[Sj,Uu] at hra
        subst hra
        simp only[Oq,Uu] at hva
        subst hva
        exact⟨_,rfl,hR.env t⟩
      | cell x t=>
        simp only[Sj] at hra
        split at hra
        ·rename_i g n hg hn
         cases hra
         simp only[Oq] at hva
         have hx:=hR.env x
         obtain⟨z,h3,h4⟩:=zx (P:=P) hR.rel hg hn hx hva
         refine⟨z,?_,h4⟩
         obtain⟨y,hy⟩:∃ y,a.tmps.getD x Go.undef=y:=⟨_,rfl⟩
         rw[hy] at hx h3
         simp only[Instr.loadAt,Sem.run_bind] at h3
         have hp:∃ ad,y = .pointer (some ad):=by
          unfold ef at hva
          split at hva
          ·rename_i he
           rw[he] at hx;cases hx;exact⟨_,rfl⟩
          ·rename_i he
           rw[he] at hx;cases aG hx;exact⟨_,rfl⟩
          ·rename_i he
           rw[he] at hx;cases aG hx;exact⟨_,rfl⟩
          ·cases hva
         obtain⟨ad,rfl⟩:=hp
         simp only[sk]
         rw[hy]
         simpa[asAddr,Instr.sureAddr] using h3
        ·cases hra
     obtain⟨u,h5,h6⟩:=hone
     refine⟨u::us,?_,by simp[k2],fun i x hx=>?_⟩
     ·rw[List.mapM_cons,Sem.run_bind,h5]
      simp only[Result.andThen_ok,Sem.run_bind,k1,Sem.run_pure]
     ·cases i with
      | zero=>simp only[UW,Uu] at hx;subst hx;simpa using h6
      | succ i=>simpa using k3 i x (by simpa using hx)
    ·cases h2
   ·cases h1
theorem gw {P:Program}{c:Ctx}{κ0 κ:Kap}{N:Nat}{s:St}{a:Act}{w:World}{fn:Func}{R:Ending->World->Prop}(hk:κ0.w.heap.size<=c.w0.heap.size)(hc:c.rnd=false)(hR:Rel c κ0 N s a w κ)
  (h:∀ w' κ',Rel c κ0 N s ⟨a.tmps,[]⟩ w' κ'->∃ v,(results fn a.tmps).run P w' = .ok v w'/\R (.returned v) w'):LeavesInM Fence.wide 0 P fn a.tmps R a.defers .returning w:=by
 have key:∀ (Ds:List Nat) (w:World) (κ:Kap),Ds.Nodup->(∀ D∈Ds,c.w0.heap.size<=D/\w.heap[D]? = some (.deferred (some [])))->Rel c κ0 N s ⟨a.tmps,[]⟩ w κ->LeavesInM Fence.wide 0 P fn a.tmps R (Ds.map IH) .returning w:=by
  intro Ds
  induction Ds with
  | nil=>intro w κ _ _ hR;exact h w κ hR
  | cons D Ds ih=>
    intro w κ hn hD hR
    obtain⟨h1,h2⟩:=hD D (by simp)
    obtain⟨n1,n2⟩:=List.nodup_cons.1 hn
    refine⟨by simp,.inl ⟨D,_,rfl,run_takeDeferred h2,ih _ _ n2 (fun E hE=>?_) (hR.putObj hk (.deferred none) h2 rfl h1 (dt.nil _ _))⟩⟩
    obtain⟨q1,q2⟩:=hD E (by simp[hE])
    exact⟨q1,(World.putObj_heap_other (by rintro rfl;exact n1 hE)).trans q2⟩
 rcases hR.defers with hm | ⟨Ds,m1,m2,m3⟩
 ·rw[hc] at hm;cases hm
 ·have hw:=hR.w_eq
  rw[m1]
  exact key Ds w κ m2 (fun D hD=>by rw[<- hw];exact m3 D hD) ⟨hR.w_eq,hR.ext0,hR.rel,hR.left,hR.env,hR.size,dt.nil _ _,hR.fresh⟩
theorem bW.of_code {muts:List Nat}{f:Nat}{fn:AFn}{args:List AV}{sto:List (Nat×Blk)}{next:Nat}{R:AV->List (Nat×Blk)->Nat->Prop}(hc:cFn P muts f=some fn)(hn:args.length<=fn.N)
  (hv:∀ (c:Ctx) (κ:Kap) (N:Nat) (a:Act) (w:World) (co:Code) (rl li:List Nat),c.G=G->κ.w.heap.size<=c.w0.heap.size->(∀ r,next<=r->κ.nm r=none)->bw P muts N rl co [] rl=some (fn.body,li)->Rel c κ N ⟨dk args,sto,next⟩ a w κ ->
   co.wpIn (FR none) 0 P (lift c κ N (FnK G fn.res R)) a w):bW P G f args sto next R:=by
 unfold cFn at hc
 split at hc
 ·rename_i fnc hfn
  split at hc
  ·rename_i co hco
   split at hc
   ·rename_i rs hrs
    split at hc
    ·rename_i hok
     split at hc
     ·rename_i b li hb
      cases hc
      refine⟨hok,fun κ vals hS hf hsz hargs=>?_⟩
      refine callsIn_wide.1 (callsIn_of_wp_marks (n:=0) hfn hco trivial ?_ rfl)
      let c:=cu κ (fun r=>lookB r sto) G
      have hsize:(vals++Vr (fnc.ntmps - vals.size) Go.undef).size=fnc.ntmps:=by
       simp only at hn
       simp only[Array.size_append,Array.size_replicate];omega
      have hR:Rel c κ fnc.ntmps ⟨dk args,sto,next⟩ ⟨vals++Vr (fnc.ntmps - vals.size) Go.undef,[]⟩ κ.w κ:=by
       refine⟨rfl,Ext.refl κ,hS,⟨rfl,rfl,rfl,UI _,fun _ _ _=>rfl,fun _ _ h=>.inl h⟩,fun i=>?_,hsize,dt.nil _ _,hf⟩
       show ARel κ (look i ((args.zipIdx 0).map fun p=>(p.2,p.1))) _
       rw[jG,if_pos (Vn _),Nat.sub_zero]
       cases hx:args[i]? with
       | none=>exact .any _
       | some x=>
         have hi:i<vals.size:=by rw[hsz];exact (Ur.1 hx).1
         have:=hargs i x hx
         have e:(vals++Vr (fnc.ntmps - vals.size) Go.undef).getD i Go.undef=vals.getD i Go.undef:=by
          simp only[Uw]
          rw[Array.getElem?_append_left hi]
         rw[e];exact this
      refine Go.wpIn_mono (hv c κ fnc.ntmps _ κ.w co (gV rs) li rfl (UI _) hf hb hR) ?_
      have fin:∀ (s:St) (κ':Kap) (a:Act) (w:World),Rel c κ fnc.ntmps s a w κ'->aK (eX G s rs) (Iz R s)->∃ v,(results fnc a.tmps).run P w = .ok v w /\
        ∃ u v' κ'' sto' next',Ending.returned v = .returned u/\κ''.w=w/\Ext κ κ''/\Left c κ.imm κ''/\ARel κ'' v' u/\SRel c κ'' (fun r=>lookB r sto')/\(∀ r,next'<=r->κ''.nm r=none)/\R v' sto' next':=by
       intro s κ' a w hR hF
       simp only[aK] at hF
       split at hF
       ·rename_i vs hvs
        obtain⟨us,h1,h2,h3⟩:=jq (P:=P) hR fnc.results.toList rs vs hrs hvs
        have hrun:(results fnc a.tmps).run P w = .ok (if h:us.toArray.size=1 then us.toArray[0] else .tuple us.toArray) w:=by
         rw[kZ,Sem.run_bind,Array.mapM_eq_mapM_toList]
         simp only[Sem.run_bind,Sem.run_map]
         rw[h1]
         simp
        refine⟨_,hrun,_,xO vs,κ',s.sto,s.next,rfl,hR.w_eq,hR.ext0,hR.left,?_,hR.rel,hR.fresh,hF⟩
        by_cases hl:vs.length=1
        ·obtain⟨v,rfl⟩:=List.length_eq_one_iff.1 hl
         obtain⟨u,rfl⟩:=List.length_eq_one_iff.1 (h2.trans hl)
         have:=h3 0 v rfl
         exact this
        ·have hul:¬ us.toArray.size=1:=by simpa[h2] using hl
         rw[dif_neg hul]
         have hrv:xO vs=nT vs:=by
          unfold xO
          split
          ·simp at hl
          ·rfl
         rw[hrv]
         exact nS (.tup _ _ (by simpa using h2) (fun i x hx=>by rw[aA];simpa using h3 i x hx))
       ·exact hF.elim
      intro e a w hq
      cases e with
      | normal=>
        obtain⟨s,κ',hR,hF⟩:=hq
        exact gw (UI _) rfl hR fun w' κ'' hR'=>fin s κ'' ⟨a.tmps,[]⟩ w' hR' hF
      | ret=>
        obtain⟨s,κ',hR,hF⟩:=hq
        exact gw (UI _) rfl hR fun w' κ'' hR'=>fin s κ'' ⟨a.tmps,[]⟩ w' hR' hF
      | exit id=>
        obtain⟨s,κ',hR,hF⟩:=hq
        exact hF.elim
      | goto l=>exact hq.elim
      | panic ch=>exact hq.elim
      | outgrown=>exact hq.elim
     ·cases hc
    ·cases hc
   ·cases hc
  ·cases hc
 ·cases hc
theorem bW.intro {muts:List Nat}{f:Nat}{fn:AFn}{args:List AV}{sto:List (Nat×Blk)}{next:Nat}{R:AV->List (Nat×Blk)->Nat->Prop}(hc:cFn P muts f=some fn)(hn:args.length<=fn.N)
  (hv:vc P G next fn.body (FnK G fn.res R) ⟨dk args,sto,next⟩):bW P G f args sto next R:=
 bW.of_code hc hn fun c κ N a w co rl li hG hk hf hb hR=>r6 (P:=P) (N:=N) co c κ next none 0 fn.body [] rl li (FnK G fn.res R) _ a w κ (.inl rfl) hf hk hb hR (by rw[hG];exact hv)
def isR (r:PV)(σ:List (Nat×Blk))(v:AV):Prop:=∃ q,rr (fun r=>lookB r σ) v=some q/\Nz q.1 r
theorem ap.of_tcalls {f:Nat}{args:List PV}{r:PV}(h:bW P G f (args.map .pv) [] 0 fun v σ _=>isR r σ v):ap P G f args r:=by
 obtain⟨hcal,h⟩:=h
 refine⟨hcal,fun w imm vals hG hlt hsz hargs=>?_⟩
 have hl:(fun r=>lookB r ([]:List (Nat×Blk)))=fun _=>Blk.none:=by funext r;rfl
 refine (h ⟨w,fun _=>none,imm⟩ vals ?_ (fun _ _=>rfl) (by simpa using hsz) (fun i x hx=>?_)).mono ?_
 ·refine⟨fun r=>trivial,fun r r' d d' b h1=>absurd rfl h1,fun r d b h1=>absurd rfl h1,hlt,hG.1,fun g hg=>?_⟩
  obtain⟨cs,T,fz,h1,h2⟩:=hG.2 g hg
  refine⟨(UF.1 h1).1,?_,cs,T,fz,h1,h2⟩
  rintro⟨r,d,h1,_⟩
  exact h1 rfl
 ·simp only[UE,Ut] at hx
  obtain⟨q,hq,rfl⟩:=hx
  exact .pv _ _ (hargs i q hq)
 ·rintro e w' ⟨u,v,κ',sto',next',rfl,rfl,he,hL,hv,hS,hf,q,hq,hqr⟩
  have hlent:∀ b,¬ (cu ⟨w,fun _=>none,imm⟩ (fun r=>lookB r ([]:List (Nat×Blk))) G).lent b:=by
   rintro b ⟨r,d,h1,_⟩
   exact h1 rfl
  obtain⟨h1,h2⟩:=sQ hS hv hq
  obtain⟨h3,h4⟩:=sP hS q.2 h1 next'
  have hL':=h3.left _ hL
  refine⟨u,(Hl κ' (fun r=>lookB r sto') q.2).imm,rfl,⟨hL.os,hL.tape,hL.output,hL.size,fun k hk=>hL.block k hk (hlent k)⟩,fun b o hi=>h3.ext.imm _ _ (he.imm _ _ hi),fun b o hi=>?_,h4.immLt,h2.nz hqr⟩
  rcases hL'.imm b o hi with h1 | h1 | h1
  ·exact .inl h1
  ·exact .inr h1
  ·exact absurd h1 (hlent b)
def OA (r:PV)(v:AV)(σ:List (Nat×Blk))(_:Nat):Prop:=isR r σ v
theorem O5 {r:PV}{σ:List (Nat×Blk)}{v:AV}(h:v.toPV=some r):isR r σ v:=by
 cases v with
 | pv p=>simp only[AV.toPV,Uu] at h;subst h;exact⟨(p,[]),rfl,.refl p⟩
 | olist a b l=>simp only[AV.toPV,Uu] at h;subst h;exact⟨(.list l,[]),rfl,.refl _⟩
 | _=>simp[AV.toPV] at h
theorem ap.intro {muts:List Nat}{f:Nat}{fn:AFn}{args:List PV}{r:PV}(hc:cFn P muts f=some fn)(hn:args.length<=fn.N)
  (hv:vc P G 0 fn.body (FnK G fn.res (OA r)) ⟨dk (args.map .pv),[],0⟩):ap P G f args r:=
 ap.of_tcalls (bW.intro hc (by simpa using hn) hv)
theorem ap.nz {f:Nat}{qs ps:List PV}{r:PV}(h:ap P G f ps r)(hz:NzL qs ps):ap P G f qs r:=by
 obtain⟨h1,h2⟩:=h
 refine⟨h1,fun w imm vals hG hlt hsz hargs=>h2 w imm vals hG hlt (by rw[hsz,hz.length]) fun i x hx=>?_⟩
 obtain⟨y,hy,hyx⟩:=hz.get i x hx
 exact (hargs i y hy).nz hyx
theorem ab.pure {f:Nat}{args:List AV}{ps:List PV}{r:PV}{s:St}{K:AV->St->Prop}(h:ap P G f ps r)(he:pvs args=some ps)(hk:K (.pv r) s):ab P G f args s K:=
 ⟨s,args,WkC.refl s args,.inl ⟨ps,r,he,h,hk⟩⟩
theorem ab.pureN {f:Nat}{args:List AV}{qs ps:List PV}{r:PV}{s:St}{K:AV->St->Prop}(h:ap P G f ps r)(he:pvs args=some qs)(hz:NzL qs ps)(hk:K (.pv r) s):ab P G f args s K:=
 ab.pure (h.nz hz) he hk
theorem ab.lent {f:Nat}{args:List AV}{s:St}{K:AV->St->Prop}{Q:AV->List (Nat×Blk)->Nat->Prop}(h:bW P G f args s.sto s.next Q)(hk:∀ v sto' next',Q v sto' next'->K v ⟨s.env,sto',next'⟩):ab P G f args s K:=
 ⟨s,args,WkC.refl s args,.inr ⟨Q,h,hk⟩⟩
theorem LC.intro {body:(AExit->St->Prop)->St->Prop}{m0:Nat}{keep:List Nat}{Q:AExit->St->Prop}{s:St}(I:Nat->St->Prop)(n:Nat)(h0:I n (norm m0 keep s))(h:∀ n s,I n s->body (QT m0 I n Q) s):LC body m0 keep Q s:=
 ⟨I,⟨n,_,Wk.norm m0 keep s,h0⟩,h⟩
end
section
variable {P:Program}{G:Nat->List PV}
theorem bB {α:Type}{x:Option α}{k k':α->Prop}(h:∀ a,k a->k' a)(hx:aK x k):aK x k':=by
 cases x with
 | none=>exact hx
 | some a=>exact h a hx
theorem ab.mono {f:Nat}{args:List AV}{s:St}{K K':AV->St->Prop}(h:∀ v s,K v s->K' v s)(hA:ab P G f args s K):ab P G f args s K':=by
 obtain⟨s',args',hw,⟨ps,r,h1,h2,h3⟩ | ⟨Q,h1,h2⟩⟩:=hA
 ·exact⟨s',args',hw,.inl ⟨ps,r,h1,h2,h _ _ h3⟩⟩
 ·exact⟨s',args',hw,.inr ⟨Q,h1,fun v sto n hq=>h _ _ (h2 v sto n hq)⟩⟩
theorem CW {F F':St->Prop}(h:∀ s,F s->F' s){s:St}{d:Option Nat}{o:AOp}(hx:ku P G F s d o):ku P G F' s d o:=by
 cases o with
 | t o=>
   simp only[ku,g8] at hx ⊢
   split
   ·rename_i v hv
    rw[hv] at hx;exact h _ hx
   ·rename_i hv
    rw[hv] at hx
    exact⟨hx.1,fun b=>h _ (hx.2 b)⟩
 | m o=>exact bB (fun v hv=>h _ hv) hx
 | fz g x=>exact bB (fun v hv=>h _ hv) hx
 | call f xs=>exact bB (fun p hp=>ab.mono (fun v s hv=>h _ hv) hp) hx
theorem CZ {F F':St->Prop}(h:∀ s,F s->F' s){s:St}{d:Option Nat}{o:AOp}{b:Bool}(hx:IW P G F s d o b):IW P G F' s d o b:=by
 cases b with
 | true=>exact CW h hx
 | false=>exact h _ hx
theorem gN {F F':St->Prop}(h:∀ s,F s->F' s):∀ (l:List AOper) (s:St),dv P G l F s->dv P G l F' s
 | [],s,hx=>h s hx
 | o::r,s,hx=>bB (fun b hb=>CZ (fun s hs=>gN h r s hs) hb) hx
theorem rJ {F F':List (List Nat×List Nat)->St->Prop}(h:∀ T s,F T s->F' T s){T:List (List Nat×List Nat)}{s:St}{d:Option Nat}{args:List AV}{p:Nat×List AV×List AV}(hx:gK P G F T s d args p):gK P G F' T s d args p:=by
 unfold gK PZ at hx ⊢
 rcases hx with ⟨ps,r,h1,h2,h3⟩ | ⟨v,δ,top,h1,h2,h3⟩
 ·exact .inl ⟨ps,r,h1,h2,h _ _ h3⟩
 ·exact .inr ⟨v,δ,top,h1,h2,h _ _ h3⟩
theorem wR {F F':List (List Nat×List Nat)->St->Prop}(h:∀ T s,F T s->F' T s){T:List (List Nat×List Nat)}{s:St}{d:Option Nat}{o:AOp}(hx:gG P G F T s d o):gG P G F' T s d o:=by
 cases o with
 | t o=>exact bB (fun v hv=>h _ _ hv) hx
 | m o=>exact bB (fun v hv=>h _ _ hv) hx
 | fz g x=>exact hx
 | call f xs=>exact bB (fun p hp=>rJ h hp) hx
theorem lS {A:List (List Nat)}{F F':St->Prop}(h:∀ s,F s->F' s):∀ (l:List AOper) (T:List (List Nat×List Nat)) (s:St),vcD P G A F l T s->vcD P G A F' l T s
 | [],T,s,hx=>⟨hx.1,h s hx.2⟩
 | o::r,T,s,hx=>by
   refine bB (fun b hb=>?_) hx
   cases b with
   | true=>exact wR (fun T s hs=>lS h r T s hs) hb
   | false=>exact lS h r _ _ hb
theorem cK:∀ {m0:Nat} (c:ACode) {Q Q':AExit->St->Prop} (h:∀ e s,Q e s->Q' e s) (s:St),vc P G m0 c Q s->vc P G m0 c Q' s
 | m0,.skip,Q,Q',h,s,hx=>h _ _ hx
 | m0,.ops l keep,Q,Q',h,s,hx=>gN (fun s hs=>h _ _ hs) l s hx
 | m0,.draw A l l2 keep,Q,Q',h,s,hx=>lS (fun s hs=>gN (fun s hs=>h _ _ hs) l2 s hs) l [] s hx
 | m0,.seq a b,Q,Q',h,s,hx=>cK a (fun e s hs=>by
   cases e with
   | norm=>exact cK b h s hs
   | exit i=>exact h _ _ hs
   | ret=>exact h _ _ hs) s hx
 | m0,.cond x a b,Q,Q',h,s,hx=>by
   simp only[vc] at hx ⊢
   unfold nO at hx ⊢
   split at hx
   ·exact cK a h s hx
   ·exact cK b h s hx
   ·exact hx
 | m0,.block id b,Q,Q',h,s,hx=>cK b (fun e s hs=>by
   cases e with
   | norm=>exact h _ _ hs
   | exit i=>
     simp only[fj] at hs ⊢
     split at hs
     ·rename_i hi;rw[if_pos hi];exact h _ _ hs
     ·rename_i hi;rw[if_neg hi];exact h _ _ hs
   | ret=>exact h _ _ hs) s hx
 | m0,.loop keep b,Q,Q',h,s,hx=>by
   obtain⟨I,h0,h1⟩:=hx
   refine⟨I,h0,fun n s hs=>cK b (fun e s hs=>?_) s (h1 n s hs)⟩
   cases e with
   | norm=>exact hs
   | exit i=>
     obtain⟨s',hw,hq⟩:=hs
     exact⟨s',hw,h _ _ hq⟩
   | ret=>exact h _ _ hs
 | m0,.range f ps keep a b,Q,Q',h,s,hx=>by
   obtain⟨I,s0,h1,h2,h3⟩:=hx
   refine⟨I,s0,h1,h2,bB (fun p hp=>?_) h3⟩
   obtain⟨q1,lb,xs,q2,q3,q4,q5⟩:=hp
   refine⟨q1,lb,xs,q2,q3,fun i x s' hx hI=>?_,fun s' hI=>h _ _ (q5 s' hI)⟩
   obtain⟨r1,r2⟩:=q4 i x s' hx hI
   refine⟨r1,cK a (fun e s hs=>?_) _ r2⟩
   cases e with
   | norm=>
     refine cK b (fun e s hs=>?_) s hs
     cases e with
     | norm=>exact hs
     | exit i=>exact h _ _ hs
     | ret=>exact h _ _ hs
   | exit i=>exact hs.elim
   | ret=>exact hs.elim
 | m0,.exit id,Q,Q',h,s,hx=>h _ _ hx
 | m0,.ret,Q,Q',h,s,hx=>h _ _ hx
end

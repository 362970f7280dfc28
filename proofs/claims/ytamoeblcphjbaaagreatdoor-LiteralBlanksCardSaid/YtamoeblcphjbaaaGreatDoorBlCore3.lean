/- A program logic over the model: part 3 (a proof is built on it; nothing of the statement is said here). -/
import Derived.TacticsIn
import Derived.OrdersIn
import Derived.Orders
import Derived.RangeFuncSeq
import Derived.RangeFuncLeaves
import Derived.Test.YtamoeblcphjbaaaGreatDoorBlCore2
set_option linter.unusedVariables false
set_option linter.unusedSimpArgs false
open List renaming map_cons->UE,getElem?_cons_zero->UV,all_eq_true->UP,mem_of_getElem?->Uw,getElem?_take->UT,getD_eq_getElem?_getD->Uv,mem_append->UY,range->UZ,getElem?_map->UB,mem_cons->UX,getElem?_append_left->UO,getElem?_append_right->UR,getElem?_eq_some_iff->Up,mem_map->U9
open Nat renaming le_refl->UA,zero_add->UI,lt_of_lt_of_le->UG,le_trans->U6,lt_or_ge->Vn
open Option.some renaming injEq->Ur
open Option renaming map_eq_some_iff->Uq,getD_some->Vg,map_some->UD
open Prod.mk renaming injEq->Uy
open Array renaming getD_eq_getD_getElem?->Uu,getElem?_eq_some_iff->Uz,getElem?_setIfInBounds->Vt,getElem?_eq_getElem->Va,replicate->Vh
open Bool renaming and_eq_true->UF
namespace Go.Ab
open Go Go.RowKit
def jB (sz:Nat):Nat->List PV->List PV
 | 0,_=>[]
 | n+1,l=>(if sz=1 then l.headD .undef else .agg (l.take sz))::jB sz n (l.drop sz)
def PH (sz len r:Nat):Blk->Option (PV×List Nat)
 | .cells _ _ l=>if 0<sz/\len*sz<=l.length/\(l.take (len*sz)).all AV.one=true then (pvs (l.take (len*sz))).map fun ps=>(.list (jB sz len ps),[r]) else none
 | _=>none
def Mp (σ:aD):AV->Option (PV×List Nat)
 | .pv p=>some (p,[])
 | .olist _ _ l=>some (.list l,[])
 | .row r sz 0 len=>PH sz len r (σ r)
 | _=>none
def Q7:Option (PV×List Nat)->Option (List PV×List Nat)->Option (List PV×List Nat)
 | some p,some q=>some (p.1::q.1,p.2++q.2)
 | _,_=>none
def Hy (σ:aD):List AV->Option (List PV×List Nat)
 | []=>some ([],[])
 | x::r=>Q7 (Mp σ x) (Hy σ r)
def Hw (σ:aD):AV->Option (PV×List Nat)
 | .agg cs=>(Hy σ cs).map fun p=>(.agg p.1,p.2)
 | x=>Mp σ x
def Mm (p:PV×List Nat):AV×List (Nat×Blk):=(.pv p.1,p.2.map fun r=>(r,.none))
def My (G:Nat->List PV)(σ:aD):Option (Bool×Nat)->AV->Option (AV×List (Nat×Blk))
 | none,v=>(Hw σ v).map Mm
 | some (g,sz),v=>match fu G g sz σ v with
   | some v=>(Hw σ v).map Mm
   | none=>none
section
variable {P:Program}{c:Ctx}{κ:Kap}{σ:aD}
theorem nZ:∀ (rs:List Nat) (σ:aD) (r:Nat),aD.upd σ (rs.map fun r=>(r,Blk.none)) r=if r∈rs then .none else σ r
 | [],σ,r=>by simp[aD.upd]
 | x::q,σ,r=>by
   rw[UE,aD.upd,nZ q]
   by_cases h:r∈q
   ·simp[h]
   ·by_cases hx:r=x
    ·subst hx;simp[aD.set]
    ·simp[h,hx,aD.set]
def Hz (κ:Kap)(σ:aD)(rs:List Nat):Kap:=
 ⟨κ.w,κ.nm,fun b o=>κ.imm b o\/∃ r∈rs,∃ n,κ.nm r=some (.blk b n)/\∃ T f l,σ r = .cells T f l/\o<l.length⟩
theorem vI (hS:SRel c κ σ)(rs:List Nat)(hrs:∀ r∈rs,σ r≠.none)(new:Nat):Done c κ (Hz κ σ rs) new/\SRel c (Hz κ σ rs) (σ.upd (rs.map fun r=>(r,.none))):=by
 have he:Ext κ (Hz κ σ rs):=⟨fun _ _ h=>.inl h,fun _ _ _ _ h=>h,fun _ _ h=>h,fun _ _ h _=>h⟩
 refine⟨⟨he,fun imm0 hL=>⟨hL.os,hL.tape,hL.output,hL.size,hL.block,fun b o hi=>?_⟩,UA _,fun _ _ h=>h⟩,?_⟩
 ·rcases hi with hi | ⟨r,hr,n,hn,_⟩
  ·exact hL.imm b o hi
  ·exact .inr (hS.mine r _ b (hrs r hr) hn rfl)
 ·have hz:∀ r,(σ.upd (rs.map fun r=>(r,Blk.none))) r≠.none->r∉rs/\σ r≠.none:=by
   intro r h
   rw[nZ] at h
   by_cases hm:r∈rs
   ·simp[hm] at h
   ·simp[hm] at h;exact⟨hm,h⟩
  refine⟨fun r=>?_,fun r r' d d' b h1 h2=>hS.apart r r' d d' b (hz r h1).2 (hz r' h2).2,fun r d b h1=>hS.mine r d b (hz r h1).2,fun b o hi=>?_,Uc he hS.glob fun _ _ _=>rfl⟩
  ·rw[nZ]
   by_cases hm:r∈rs
   ·simp[hm,ff]
   ·simp only[hm,if_false]
    refine (hS.blk r).keep he fun hnz d b hd hb=>⟨rfl,fun o ho=>?_⟩
    rcases ho with ho | ⟨r',hr',n,hn,_⟩
    ·exact ho
    ·exact absurd rfl (hS.apart r r' d _ b hnz (hrs r' hr') (fun e=>hm (e▸hr')) hd hn hb)
  ·rcases hi with hi | ⟨r,hr,n,hn,_⟩
   ·exact hS.immLt b o hi
   ·exact (hS.blk r).lt (hrs r hr) hn rfl
theorem B1 {x:AV}{p:PV}(h:x.toPV=some p)(h1:x.one=true):p.cells=[p]:=by
 cases x with
 | pv q=>
   simp only[AV.toPV,Ur] at h
   subst h
   cases q<;>first | rfl | simp[AV.one,PV.one] at h1
 | olist a b l=>
   simp only[AV.toPV,Ur] at h
   subst h;rfl
 | _=>simp[AV.toPV] at h
theorem mq (sz:Nat):∀ (n:Nat) (l:List PV),(jB sz n l).length=n
 | 0,l=>rfl
 | n+1,l=>by simp[jB,mq sz n]
theorem mr {sz:Nat}(hsz:0<sz):∀ (n:Nat) (l:List PV) (i:Nat) (x:PV),n*sz<=l.length->(∀ p∈l,p.cells=[p])->(jB sz n l)[i]? = some x->i<n/\x.cells=(l.drop (i*sz)).take sz
 | 0,l,i,x,_,_,h=>by simp[jB] at h
 | n+1,l,i,x,hl,h1,h=>by
   rw[Nat.succ_mul] at hl
   cases i with
   | zero=>
     simp only[jB,UV,Ur] at h
     refine⟨by omega,?_⟩
     subst h
     by_cases hs:sz=1
     ·subst hs
      cases l with
      | nil=>simp at hl
      | cons y q=>
        simp only[if_true,List.headD_cons,Nat.zero_mul,List.drop_zero,List.take_succ_cons,List.take_zero]
        exact h1 y (by simp)
     ·rw[if_neg hs];simp[PV.cells]
   | succ i=>
     simp only[jB,List.getElem?_cons_succ] at h
     obtain⟨h2,h3⟩:=mr hsz n (l.drop sz) i x (by simp;omega) (fun p hp=>h1 p (List.mem_of_mem_drop hp)) h
     refine⟨by omega,?_⟩
     rw[h3,List.drop_drop,Nat.succ_mul,Nat.add_comm]
theorem vL (hS:SRel c κ σ){x:AV}{u:Value}{p:PV}{rs:List Nat}(hx:ARel κ x u)(h:Mp σ x=some (p,rs)) :
  (∀ r∈rs,σ r≠.none)/\∀ rs',(∀ r∈rs,r∈rs')->PRel κ.w (Hz κ σ rs').imm p u:=by
 unfold Mp at h
 split at h
 ·cases h
  exact⟨by simp,fun rs' _=>(aS hx).mono (fun _ _ h=>.inl h) (fun _ _ _ _ h=>h)⟩
 ·cases h
  refine⟨by simp,fun rs' _=>?_⟩
  cases hx with
  | olist _ _ _ _ hn hp _=>exact hp.mono (fun _ _ h=>.inl h) (fun _ _ _ _ h=>h)
 ·rename_i r sz len
  unfold PH at h
  split at h
  ·rename_i T f l hσ
   split at h
   ·rename_i hh
    obtain⟨hsz,hle,hone⟩:=hh
    simp only[Uq,Uy] at h
    obtain⟨ps,hps,rfl,rfl⟩:=h
    refine⟨by simp[hσ],fun rs' hrs=>?_⟩
    cases hx with
    | row0=>exact .lnil _ _ (Nat.zero_le _)
    | row _ _ _ _ b n cap hnm k1 k0 k2 k3=>
      obtain⟨cs,hg,hcs,hln,_,himm,hrel,hcell⟩:=cR hS hσ hnm
      have hpl:ps.length=len*sz:=by rw[ci hps];simp;omega
      have hget:∀ (i:Nat) (q:PV),ps[i]? = some q->∃ y,l[i]? = some y/\y.toPV=some q/\y.one=true:=by
       intro i q hq
       obtain⟨y,hy,hyq⟩:=c8 hps i q hq
       have h1:=(UP.1 hone) y (Uw hy)
       rw[UT] at hy
       split at hy
       ·exact⟨y,hy,hyq,h1⟩
       ·cases hy
      have hpone:∀ q∈ps,q.cells=[q]:=by
       intro q hq
       obtain⟨i,hi⟩:=List.getElem?_of_mem hq
       obtain⟨y,_,h2,h3⟩:=hget i q hi
       exact B1 h2 h3
      have hc:∀ (i:Nat) (y:PV),(jB sz len ps)[i]? = some y->y.cells.length=sz:=by
       intro i y hy
       obtain⟨hi,hyc⟩:=mr hsz len ps i y (by omega) hpone hy
       have:(i+1)*sz<=len*sz:=Nat.mul_le_mul_right _ hi
       rw[Nat.succ_mul] at this
       rw[hyc];simp;omega
      have hcc:∀ (i:Nat) (y:PV) (j:Nat) (z:PV),(jB sz len ps)[i]? = some y->y.cells[j]? = some z->ps[i*sz+j]? = some z/\i*sz+j<len*sz:=by
       intro i y j z hy hz
       obtain⟨hi,hyc⟩:=mr hsz len ps i y (by omega) hpone hy
       rw[hyc,UT] at hz
       split at hz
       ·rename_i hj
        rw[List.getElem?_drop] at hz
        exact⟨hz,vz hi hj⟩
       ·cases hz
      have key:=PRel.list (w:=κ.w) (imm:=(Hz κ σ rs').imm) (jB sz len ps) b 0 cap sz (fun i j=>cs.getD (i*sz+j) Go.undef) (by rw[mq];exact k2) k3 hc (fun i y j z hy hz=>by
        obtain⟨h1,h2⟩:=hcc i y j z hy hz
        obtain⟨q,h3,h4,h5⟩:=hget _ z h1
        rw[UI]
        refine⟨.inr ⟨r,hrs r (by simp),n,hnm,T,f,l,hσ,by omega⟩,?_,(hrel _ q h3).oneCell h5⟩
        have hlt:i*sz+j<cs.size:=by omega
        rw[cell_of_row κ.w b _ cs T (0,0) hg]
        simp[Uu,hlt]) (fun i y j z hy hz=>by
        obtain⟨h1,h2⟩:=hcc i y j z hy hz
        obtain⟨q,h3,h4,h5⟩:=hget _ z h1
        exact (bZ h4 (hrel _ q h3)).mono (fun _ _ h=>.inl h) (fun _ _ _ _ h=>h))
      rw[mq] at key
      exact key
   ·cases h
  ·cases h
 ·cases h
theorem vK (hS:SRel c κ σ):∀ (xs:List AV) (vs:List Value) (ps:List PV) (rs:List Nat),(∀ (i:Nat) (x:AV),xs[i]? = some x->ARel κ x (vs.getD i Go.undef))->Hy σ xs=some (ps,rs) ->
  ps.length=xs.length/\(∀ r∈rs,σ r≠.none)/\∀ rs',(∀ r∈rs,r∈rs')->∀ (i:Nat) (p:PV),ps[i]? = some p->PRel κ.w (Hz κ σ rs').imm p (vs.getD i Go.undef)
 | [],vs,ps,rs,hx,h=>by
   simp only[Hy,Ur,Uy] at h
   obtain⟨rfl,rfl⟩:=h
   exact⟨rfl,by simp,fun _ _ i p hp=>by simp at hp⟩
 | x::q,vs,ps,rs,hx,h=>by
   simp only[Hy] at h
   unfold Q7 at h
   split at h
   ·rename_i p1 q1 h1 h2
    cases h
    obtain⟨a1,a2⟩:=vL hS (hx 0 x (by simp)) h1
    obtain⟨b0,b1,b2⟩:=vK hS q (vs.drop 1) q1.1 q1.2 (fun i y hy=>by
     have:=hx (i+1) y (by simpa using hy)
     simpa[Uv,Nat.add_comm] using this) h2
    refine⟨by simp[b0],fun r hr=>(UY.1 hr).elim (a1 r) (b1 r),fun rs' hrs i p hp=>?_⟩
    cases i with
    | zero=>
      simp only[UV,Ur] at hp
      subst hp
      exact a2 rs' fun r hr=>hrs r (UY.2 (.inl hr))
    | succ i=>
      have:=b2 rs' (fun r hr=>hrs r (UY.2 (.inr hr))) i p (by simpa using hp)
      simpa[Uv,Nat.add_comm] using this
   ·cases h
theorem vJ (hS:SRel c κ σ){x:AV}{u:Value}{p:PV}{rs:List Nat}(hx:ARel κ x u)(h:Hw σ x=some (p,rs)) :
  (∀ r∈rs,σ r≠.none)/\PRel κ.w (Hz κ σ rs).imm p u:=by
 unfold Hw at h
 split at h
 ·rename_i cs
  simp only[Uq,Uy] at h
  obtain⟨q,hq,rfl,rfl⟩:=h
  cases hx with
  | agg _ vs hl hc=>
    obtain⟨h0,h1,h2⟩:=vK hS cs vs.toList q.1 q.2 (fun i x hx=>by rw[<- aF];exact hc i x hx) hq
    refine⟨h1,.agg _ _ (by rw[hl,h0]) fun i p hp=>?_⟩
    rw[aF]
    exact h2 q.2 (fun _ h=>h) i p hp
 ·obtain⟨h1,h2⟩:=vL hS hx h
  exact⟨h1,h2 rs fun _ h=>h⟩
theorem Ox (hS:SRel c κ σ){x v:AV}{u:Value}{δ:List (Nat×Blk)}(new:Nat)(hx:ARel κ x u)(h:(Hw σ x).map Mm=some (v,δ)) :
  ∃ κ',κ'.w=κ.w/\ARel κ' v u/\Done c κ κ' new/\SRel c κ' (σ.upd δ):=by
 simp only[Uq] at h
 obtain⟨q,hq,h⟩:=h
 unfold Mm at h
 simp only[Uy] at h
 obtain⟨rfl,rfl⟩:=h
 obtain⟨h1,h2⟩:=vJ hS hx hq
 obtain⟨h3,h4⟩:=vI hS q.2 h1 new
 exact⟨Hz κ σ q.2,rfl,.pv _ _ h2,h3,h4⟩
def TD (P:Program)(g:Option (Bool×Nat))(ax:AX)(op:Op):Prop:=
 match g with
 | none=>∃ x,op = .move x/\cX x=some ax
 | some (g,n)=>∃ t x,op = .load t x/\g9 P t=some n/\j5 P t=some g/\cX x=some ax
theorem Dx {E:Nat->AV}{a:Act}{o:Oper}{g:Option (Bool×Nat)}{ax:AX}{v:AV}{new:Nat}{δ:List (Nat×Blk)}(hc:TD P g ax o.op)(hS:SRel c κ σ)
  (hE:∀ i,i∈ax.slots->ARel κ (E i) (a.tmps.getD i Go.undef)) (hr:My c.G σ g (ax.ev E)=some (v,δ)) :
  ∃ u κ',(execOp a.eval o).run P κ.w = .ok (.value u) κ'.w/\ARel κ' v u/\Done c κ κ' new/\SRel c κ' (σ.upd δ):=by
 obtain⟨dst,op,type,pos,after,guard⟩:=o
 cases g with
 | none=>
   obtain⟨x,rfl,hx⟩:=hc
   obtain⟨κ',h1,h2,h3,h4⟩:=Ox hS new (aE (κ:=κ) (E:=E) (a:=a) hx hE) hr
   exact⟨_,κ',by simp[execOp,h1],h2,h3,h4⟩
 | some p=>
   obtain⟨g,n⟩:=p
   obtain⟨t,x,rfl,hn,hg,hx⟩:=hc
   simp only[My] at hr
   split at hr
   ·rename_i v' hv'
    obtain⟨u,h1,h2⟩:=AZ (P:=P) hS hg hn (aE (κ:=κ) (E:=E) (a:=a) hx hE) hv'
    obtain⟨κ',k1,k2,k3,k4⟩:=Ox hS new h2 hr
    exact⟨u,κ',by simp[execOp,h1,k1],k2,k3,k4⟩
   ·cases hr
end
inductive AOp where
 | t (o:TOp)
 | m (o:MOp)
 | call (f:AX) (args:List AX)
 | fz (g:Option (Bool×Nat)) (x:AX)
structure AOper where
 dst:Option Nat
 op:AOp
 guard:Option (Nat×Bool)
structure St where
 env:List (Nat×AV)
 sto:List (Nat×Blk)
 next:Nat
def look (i:Nat):List (Nat×AV)->AV
 | []=>.any
 | p::r=>if p.1=i then p.2 else look i r
def lookB (i:Nat):List (Nat×Blk)->Blk
 | []=>.none
 | p::r=>if p.1=i then p.2 else lookB i r
def St.E (s:St)(i:Nat):AV:=look i s.env
def St.σ (s:St)(r:Nat):Blk:=lookB r s.sto
def St.put (s:St)(d:Option Nat)(v:AV):St:=
 match d with
 | some d=>⟨(d,v)::s.env,s.sto,s.next⟩
 | none=>s
def mE (l:List (Nat×Blk)):List (Nat×Blk)->List (Nat×Blk)
 | []=>l
 | p::r=>mE (p::l) r
def St.mem (s:St)(δ:List (Nat×Blk)):St:=⟨s.env,mE s.sto δ,s.next+1⟩
theorem iF:∀ (δ l:List (Nat×Blk)) (r:Nat),lookB r (mE l δ)=aD.upd (fun r=>lookB r l) δ r
 | [],l,r=>rfl
 | p::q,l,r=>by
   rw[mE,aD.upd,iF q (p::l) r]
   congr 1
   funext x
   simp only[lookB,aD.set]
   by_cases h:p.1=x
   ·simp[h]
   ·rw[if_neg h,if_neg (fun e=>h e.symm)]
def Jg (D:Nat):Deferred:={ target:=.collected D,args:=#[] }
def dY (c:Ctx)(κ:Kap)(ds:List Deferred):Prop:=c.rnd=true\/∃ Ds:List Nat,ds=Ds.map Jg/\Ds.Nodup/\∀ D∈Ds,c.w0.heap.size<=D/\κ.w.heap[D]? = some (.deferred (some []))
theorem dY.ext {c:Ctx}{κ κ':Kap}{ds:List Deferred}(h:dY c κ ds)(he:Ext κ κ'):dY c κ' ds:=by
 rcases h with h | ⟨Ds,h1,h2,h3⟩
 ·exact .inl h
 ·exact .inr ⟨Ds,h1,h2,fun D hD=>⟨(h3 D hD).1,he.obj D _ (h3 D hD).2 rfl⟩⟩
theorem dY.nil (c:Ctx)(κ:Kap):dY c κ []:=.inr ⟨[],rfl,List.nodup_nil,fun D hD=>by simp at hD⟩
structure Rel (c:Ctx)(κ0:Kap)(N:Nat)(s:St)(a:Act)(w:World)(κ:Kap):Prop where
 w_eq:κ.w=w
 ext0:Ext κ0 κ
 rel:SRel c κ s.σ
 left:Left c κ0.imm κ
 env:∀ i,ARel κ (s.E i) (a.tmps.getD i Go.undef)
 size:a.tmps.size=N
 defers:dY c κ a.defers
 fresh:∀ r,s.next<=r->κ.nm r=none
def Wx (s s':St):Prop:=∀ (c:Ctx) (κ0 κ:Kap) (N:Nat) (a:Act) (w:World),Rel c κ0 N s a w κ->∃ κ',Ext κ κ'/\Rel c κ0 N s' a w κ'
def Wk (m0:Nat)(s s':St):Prop:=∀ (c:Ctx) (κ0 κ:Kap) (N:Nat) (a:Act) (w:World),(∀ r,m0<=r->κ0.nm r=none)->Rel c κ0 N s a w κ->∃ κ',Rel c κ0 N s' a w κ'
def WkC (s:St)(args:List AV)(s':St)(args':List AV):Prop:=args'.length=args.length/\s'.env=s.env/\∀ (c:Ctx) (κ0 κ:Kap) (N:Nat) (a:Act) (w:World) (vals:Array Value),Rel c κ0 N s a w κ ->
 (∀ (i:Nat) (x:AV),args[i]? = some x->ARel κ x (vals.getD i Go.undef))->∃ κ',Rel c κ0 N s' a w κ'/\∀ (i:Nat) (x:AV),args'[i]? = some x->ARel κ' x (vals.getD i Go.undef)
theorem Wx.refl (s:St):Wx s s:=fun c κ0 κ N a w h=>⟨κ,Ext.refl κ,h⟩
theorem Wx.trans {s t u:St}(h:Wx s t)(k:Wx t u):Wx s u:=fun c κ0 κ N a w hr=>by
 obtain⟨κ1,e1,h1⟩:=h c κ0 κ N a w hr
 obtain⟨κ2,e2,h2⟩:=k c κ0 κ1 N a w h1
 exact⟨κ2,e1.trans e2,h2⟩
theorem Wk.of {s t:St}(h:Wx s t)(m0:Nat):Wk m0 s t:=fun c κ0 κ N a w _ hr=>by
 obtain⟨κ1,_,h1⟩:=h c κ0 κ N a w hr
 exact⟨κ1,h1⟩
theorem Wk.trans {m0:Nat}{s t u:St}(h:Wk m0 s t)(k:Wk m0 t u):Wk m0 s u:=fun c κ0 κ N a w h0 hr=>by
 obtain⟨κ1,h1⟩:=h c κ0 κ N a w h0 hr
 exact k c κ0 κ1 N a w h0 h1
theorem WkC.refl (s:St)(args:List AV):WkC s args s args:=⟨rfl,rfl,fun c κ0 κ N a w vals h g=>⟨κ,h,g⟩⟩
def ca (P:Program)(f:Nat):Bool:=
 match P.funcs[f]? with
 | some fn=>fn.body.isSome&&!(fn.name == "runtime.NumGoroutine")
 | none=>false
def cZ (G:Nat->List PV)(w:World)(imm:Nat->Nat->Prop):Prop:=
 (∀ g o p,(G g)[o]? = some p->imm g o/\∃ v,w.cell? ⟨g,o,none⟩=some v/\v.oneCell'=true/\PRel w imm p v) /\
 ∀ g,G g≠[]->∃ cs T fz,w.heap[g]? = some (.cells cs T fz)/\cs.size=(G g).length
theorem j6.ok {c:Ctx}{κ:Kap}(h:j6 c κ):cZ c.G κ.w κ.imm:=⟨h.1,fun g hg=>(h.2 g hg).2.2⟩
def au (P:Program)(G:Nat->List PV)(f:Nat)(args:List PV)(r:PV):Prop:=
 ca P f=true/\∀ (w:World) (imm:Nat->Nat->Prop) (vals:Array Value),cZ G w imm->(∀ b o,imm b o->b<w.heap.size)->vals.size=args.length ->
  (∀ (i:Nat) (x:PV),args[i]? = some x->PRel w imm x (vals.getD i Go.undef)) ->
  Calls P f vals w fun e w'=>∃ u imm',e = .returned u/\Below w.heap.size w w'/\(∀ b o,imm b o->imm' b o)/\(∀ b o,imm' b o->imm b o\/w.heap.size<=b)/\(∀ b o,imm' b o->b<w'.heap.size)/\PRel w' imm' r u
def cD (κ:Kap)(σ:aD)(G:Nat->List PV):Ctx:=⟨κ.w,fun b=>∃ r d,σ r≠.none/\κ.nm r=some d/\d.block=some b,G,false⟩
theorem j6.lend {c:Ctx}{κ:Kap}{σ:aD}(h:j6 c κ)(hm:∀ b,(cD κ σ c.G).lent b->c.mine b):j6 (cD κ σ c.G) κ:=
 ⟨h.1,fun g hg=>by
  obtain⟨h1,h2,cs,T,fz,h3,h4⟩:=h.2 g hg
  exact⟨(Uz.1 h3).1,fun hl=>e6 h1 h2 (hm g hl),cs,T,fz,h3,h4⟩⟩
theorem j6.back {c:Ctx}{κ κ':Kap}{σ:aD}(h:j6 c κ)(hm:∀ b,(cD κ σ c.G).lent b->c.mine b)(h':j6 (cD κ σ c.G) κ')
  (hb:∀ b,b<κ.w.heap.size->¬ (cD κ σ c.G).lent b->κ'.w.heap[b]? = κ.w.heap[b]?):j6 c κ':=
 ⟨h'.1,fun g hg=>by
  obtain⟨h1,h2,cs,T,fz,h3,h4⟩:=h.2 g hg
  exact⟨h1,h2,cs,T,fz,(hb g (Uz.1 h3).1 fun hl=>e6 h1 h2 (hm g hl)).trans h3,h4⟩⟩
def cS (P:Program)(G:Nat->List PV)(f:Nat)(args:List AV)(sto:List (Nat×Blk))(next:Nat)(Q:AV->List (Nat×Blk)->Nat->Prop):Prop:=
 ca P f=true/\∀ (κ:Kap) (vals:Array Value),SRel (cD κ (fun r=>lookB r sto) G) κ (fun r=>lookB r sto)->(∀ r,next<=r->κ.nm r=none)->vals.size=args.length ->
  (∀ (i:Nat) (x:AV),args[i]? = some x->ARel κ x (vals.getD i Go.undef)) ->
  Calls P f vals κ.w fun e w'=>∃ u v κ' sto' next',e = .returned u/\κ'.w=w'/\Ext κ κ'/\Left (cD κ (fun r=>lookB r sto) G) κ.imm κ'/\ARel κ' v u /\
   SRel (cD κ (fun r=>lookB r sto) G) κ' (fun r=>lookB r sto')/\(∀ r,next'<=r->κ'.nm r=none)/\Q v sto' next'
def ae (P:Program)(G:Nat->List PV)(f:Nat)(args:List AV)(s:St)(K:AV->St->Prop):Prop:=
 ∃ s' args',WkC s args s' args'/\((∃ ps r,pvs args'=some ps/\au P G f ps r/\K (.pv r) s') \/
 (∃ Q,cS P G f args' s'.sto s'.next Q/\∀ v sto' next',Q v sto' next'->K v ⟨s.env,sto',next'⟩))
def dU:AV->Option (Nat×List AV×List AV)
 | .pv (.clo f fs cs)=>some (f,fs.map .pv,cs.map .pv)
 | .clo f fs cs=>some (f,fs,cs)
 | _=>none
def aV {α:Type}(x:Option α)(k:α->Prop):Prop:=
 match x with
 | some a=>k a
 | none=>False
def cw (s:St):Option (Nat×Bool)->Option Bool
 | none=>some true
 | some (i,b)=>match s.E i with
   | .pv (.bool x)=>some (x == b)
   | .pv .undef=>some false
   | _=>none
def Ls (F:St->Prop)(s:St)(d:Option Nat)(v:AV):Prop:=F (s.put d v)
def nextM (F:St->Prop)(s:St)(d:Option Nat)(p:AV×List (Nat×Blk)):Prop:=F ((s.mem p.2).put d p.1)
def Lw (F:St->Prop)(d:Option Nat)(v:AV)(s:St):Prop:=F (s.put d v)
def Eg (P:Program)(G:Nat->List PV)(args:List AV)(s:St)(K:AV->St->Prop)(p:Nat×List AV×List AV):Prop:=ae P G p.1 (p.2.1++args++p.2.2) s K
def Pg (E:Nat->AV):TOp->Bool
 | .beq 2 _ x (.c .nils)=>match x.ev E with
   | .pv (.list [])=>true
   | _=>false
 | _=>false
def jn (x:Option AV)(k:AV->Prop)(nb:Bool):Prop:=
 match x with
 | some v=>k v
 | none=>nb=true/\∀ b:Bool,k (.pv (.bool b))
def mH (P:Program)(G:Nat->List PV)(F:St->Prop)(s:St)(d:Option Nat):AOp->Prop
 | .t o=>jn (o.run s.E) (Ls F s d) (Pg s.E o)
 | .m o=>aV (o.run G s.next s.E s.σ) (nextM F s d)
 | .call f xs=>aV (dU (f.ev s.E)) (Eg P G (xs.map (·.ev s.E)) s (Lw F d))
 | .fz g x=>aV (My G s.σ g (x.ev s.E)) (nextM F s d)
def MH (P:Program)(G:Nat->List PV)(F:St->Prop)(s:St)(d:Option Nat)(o:AOp)(b:Bool):Prop:=
 match b with
 | true=>mH P G F s d o
 | false=>F (s.put d (.pv .undef))
def dZ (P:Program)(G:Nat->List PV):List AOper->(St->Prop)->St->Prop
 | [],F,s=>F s
 | o::r,F,s=>aV (cw s o.guard) (MH P G (dZ P G r F) s o.dst o.op)
def Ej (ops:Array Oper):Option (Nat×Bool)->Option (Option (Nat×Bool))
 | none=>some none
 | some (j,b)=>match (ops[j]?).bind (·.dst) with
   | some d=>some (some (d,b))
   | none=>none
def cF (P:Program):Op->Option AOp
 | .move x=>(cX x).map (.fz none)
 | .load t x=>match g9 P t,j5 P t,cX x with
   | some n,some g,some ax=>some (.fz (some (g,n)) ax)
   | _,_,_=>none
 | _=>none
def j4:AOp:=.call (.c .undef) []
def T1:Op->Bool
 | .slice _ _ _ _ _=>true
 | .binOp .eql _ _ _ _ | .binOp .neq _ _ _ _=>true
 | _=>false
def cT1 (P:Program)(mu:Bool)(op:Op):Option TOp:=
 match mu&&T1 op with
 | true=>none
 | false=>cT P op
theorem wk {P:Program}{mu:Bool}{op:Op}{t:TOp}(h:cT1 P mu op=some t):cT P op=some t:=by
 unfold cT1 at h
 split at h
 ·cases h
 ·exact h
def Pi (d:Option TypeDesc):Option Method->Option Nat
 | some m=>match m.path.toList,m.func,d with
   | [],some (f,true),some (.pointer _)=>some f
   | [],some (_,false),some (.pointer _)=>none
   | [],some (f,false),some _=>some f
   | _,_,_=>none
 | none=>none
def RX (P:Program)(m:String)(T:Nat):Option Nat:=
 match P.info? T with
 | some i=>Pi (P.underlying T) (i.methods.find? (·.name == m))
 | none=>none
def xQ (P:Program)(m:String):List Nat->List (Nat×Nat)
 | []=>[]
 | T::r=>match RX P m T with
   | some f=>(T,f)::xQ P m r
   | none=>xQ P m r
def RW (P:Program)(m:String):List (Nat×Nat):=xQ P m (UZ P.types.size)
theorem jp {P:Program}{m:String}{T f:Nat}:∀ {l:List Nat},qC T (xQ P m l)=some f->RX P m T=some f
 | [],h=>by simp[xQ,qC] at h
 | t::r,h=>by
   simp only[xQ] at h
   split at h
   ·rename_i g hg
    simp only[qC] at h
    split at h
    ·rename_i he
     cases h
     rw[<- he];exact hg
    ·exact jp h
   ·exact jp h
theorem xR {P:Program}{m:String}{T f:Nat}(h:qC T (RW P m)=some f)(k:Nat)(v:Value)(w:World):(method (k+1) T v m).run P w = .ok (f,v) w:=by
 have h:=jp h
 unfold RX at h
 split at h
 ·rename_i i hi
  generalize hd:P.underlying T=d at h
  generalize hm:i.methods.find? (·.name == m)=o at h
  unfold Pi at h
  split at h
  ·rename_i row
   split at h
   ·rename_i f' te hp hf
    cases h
    simp[method,typeInfo,hi,hm,hp,hf,follow,receiverAt,run_underlying hd,Place.get]
   ·cases h
   ·rename_i f' td hnp hp hf
    cases h
    cases td with
    | pointer e=>exact absurd rfl (hnp e)
    | _=>simp[method,typeInfo,hi,hm,hp,hf,follow,receiverAt,run_underlying hd,Place.get]
   ·cases h
  ·cases h
 ·cases h
def Ek (P:Program):Op->AOp
 | .call { callee:=.value f,args,argTypes:=_ }=>match cX f,cXs args.toList with
   | some af,some xs=>.call af xs
   | _,_=>j4
 | .call { callee:=.invoke (.tmp r) m,args,argTypes:=_ }=>match cXs args.toList with
   | some xs=>.call (.m r (RW P m)) xs
   | none=>j4
 | _=>j4
def JK (P:Program)(o:Op)(af:AX)(xs:List AX):Prop:=
 (∃ f args ts,o = .call { callee:=.value f,args:=args,argTypes:=ts }/\cX f=some af/\cXs args.toList=some xs) \/
 ∃ r m args ts,o = .call { callee:=.invoke (.tmp r) m,args:=args,argTypes:=ts }/\af = .m r (RW P m)/\cXs args.toList=some xs
theorem rp (P:Program)(o:Op):Ek P o=j4\/∃ af xs,Ek P o = .call af xs/\JK P o af xs:=by
 unfold Ek
 split
 ·split
  ·exact .inr ⟨_,_,rfl,.inl ⟨_,_,_,rfl,‹_›,‹_›⟩⟩
  ·exact .inl rfl
 ·split
  ·exact .inr ⟨_,_,rfl,.inr ⟨_,_,_,_,rfl,rfl,‹_›⟩⟩
  ·exact .inl rfl
 ·exact .inl rfl
def cA0 (P:Program)(mu:Bool)(op:Op):Option AOp:=
 match cT1 P mu op with
 | some t=>some (.t t)
 | none=>match cM P mu op with
   | some m=>some (.m m)
   | none=>some (Ek P op)
def cA (P:Program)(mu:Bool×Bool)(op:Op):Option AOp:=
 match mu.2 with
 | true=>match cF P op with
   | some a=>some a
   | none=>(cBf P op).map .m
 | false=>cA0 P mu.1 op
theorem SK {P:Program}{o:Op}{op:AOp}(h:cF P o=some op):∃ g x,op = .fz g x/\TD P g x o:=by
 unfold cF at h
 split at h
 ·simp only[Uq] at h
  obtain⟨ax,hx,rfl⟩:=h
  exact⟨none,ax,rfl,_,rfl,hx⟩
 ·split at h
  ·rename_i n g ax h1 h2 h3
   cases h
   exact⟨some (g,n),ax,rfl,_,_,rfl,h1,h2,h3⟩
  ·cases h
 ·cases h
theorem JE {P:Program}{mu:Bool×Bool}{o:Op}{op:AOp}(h:cA P mu o=some op) :
  (∃ g x,op = .fz g x/\TD P g x o)\/(∃ t,op = .t t/\cT1 P mu.1 o=some t)\/(∃ m,op = .m m/\cMm P mu o=some m)\/op=Ek P o:=by
 obtain⟨mu,fz⟩:=mu
 cases fz with
 | true=>
   simp only[cA] at h
   split at h
   ·rename_i a ha
    cases h
    exact .inl (SK ha)
   ·simp only[Uq] at h
    obtain⟨m,hm,rfl⟩:=h
    exact .inr (.inr (.inl ⟨m,rfl,hm⟩))
 | false=>
   simp only[cA] at h
   unfold cA0 at h
   split at h
   ·rename_i t ht
    cases h
    exact .inr (.inl ⟨t,rfl,ht⟩)
   ·split at h
    ·rename_i m hm
     cases h
     exact .inr (.inr (.inl ⟨m,rfl,hm⟩))
    ·cases h
     exact .inr (.inr (.inr rfl))
def TL (muts:List Nat):Option Nat->Bool×Bool
 | some d=>(muts.contains d,muts.contains (d+1000000))
 | none=>(false,false)
def yx (d:Option Nat)(N:Nat):Bool:=
 match d with
 | some d=>decide (d<N)
 | none=>true
def yZ (P:Program)(muts:List Nat)(N:Nat)(ops:Array Oper)(o:Oper):Option AOper:=
 match Ej ops o.guard,cA P (TL muts o.dst) o.op with
 | some g,some op=>if yx o.dst N=true then some ⟨o.dst,op,g⟩ else none
 | _,_=>none
def EU (P:Program)(muts:List Nat)(N:Nat)(ops:Array Oper):List Oper->Option (List AOper)
 | []=>some []
 | o::r=>match yZ P muts N ops o,EU P muts N ops r with
   | some a,some b=>some (a::b)
   | _,_=>none
theorem K9 {κ:Kap}{s:St}{a:Act}{d:Option Nat}{v:AV}{u:Value}{N:Nat}(h:∀ i,ARel κ (s.E i) (a.tmps.getD i Go.undef))(hN:a.tmps.size=N)
  (hd:yx d N=true) (hv:ARel κ v u):(∀ i,ARel κ ((s.put d v).E i) ((a.put d u).tmps.getD i Go.undef))/\(a.put d u).tmps.size=N/\(a.put d u).defers=a.defers:=by
 cases d with
 | none=>exact⟨h,hN,rfl⟩
 | some d=>
   simp only[yx,decide_eq_true_eq] at hd
   refine⟨fun i=>?_,by simp[Act.put,hN],rfl⟩
   simp only[St.put,St.E,look,Act.put]
   by_cases hi:d=i
   ·subst hi
    rw[if_pos rfl]
    have:(a.tmps.setIfInBounds d u).getD d Go.undef=u:=by simp[Uu,hN,hd]
    rw[this];exact hv
   ·rw[if_neg hi]
    have:(a.tmps.setIfInBounds d u).getD i Go.undef=a.tmps.getD i Go.undef:=by
     simp only[Uu,Vt]
     rw[if_neg hi]
    rw[this];exact h i
theorem Rel.put {c:Ctx}{κ0 κ κ':Kap}{N:Nat}{s:St}{a:Act}{w w':World}(h:Rel c κ0 N s a w κ){d:Option Nat}{v:AV}{u:Value}(hd:yx d N=true)(hv:ARel κ v u) :
  Rel c κ0 N (s.put d v) (a.put d u) w κ:=by
 obtain⟨h1,h2,h3⟩:=K9 h.env h.size hd hv
 have e1:(s.put d v).σ=s.σ:=by cases d<;>rfl
 have e2:(s.put d v).next=s.next:=by cases d<;>rfl
 exact⟨h.w_eq,h.ext0,by rw[e1];exact h.rel,h.left,h1,h2,by rw[h3];exact h.defers,by rw[e2];exact h.fresh⟩
theorem Rel.size_le {c:Ctx}{κ0 κ:Kap}{N:Nat}{s:St}{a:Act}{w:World}(h:Rel c κ0 N s a w κ):c.w0.heap.size<=κ.w.heap.size:=h.left.size
theorem Rel.step {c:Ctx}{κ0 κ κ':Kap}{N:Nat}{s:St}{a:Act}{w:World}{δ:List (Nat×Blk)}(h:Rel c κ0 N s a w κ)(hd:Done c κ κ' s.next)(hS:SRel c κ' (aD.upd s.σ δ)):Rel c κ0 N (s.mem δ) a κ'.w κ':=by
 refine⟨rfl,h.ext0.trans hd.ext,?_,hd.left _ h.left,fun i=>(h.env i).ext hd.ext,h.size,h.defers.ext hd.ext,fun r hr=>?_⟩
 ·have:(s.mem δ).σ=aD.upd s.σ δ:=by funext r;exact iF δ s.sto r
  rw[this];exact hS
 ·have hr':s.next+1<=r:=hr
  exact hd.fresh r (by omega) (h.fresh r (by omega))
section
variable {P:Program}{c:Ctx}{κ0 κ:Kap}{N:Nat}{s:St}{a:Act}{w:World}{ro:Option Nat}{nf:Nat}
def FR (ro:Option Nat):Fence:={ Fence.wide with round:=ro }
theorem wu (ro:Option Nat):¬ (FR ro).depth.isSome=true:=by simp[FR,Fence.wide]
theorem MT {f:Nat}{args:Array Value}{R:Ending->World->Prop}(h:Calls P f args w R):CallsIn (FR ro) nf P f args w R:=by
 have:=(callsIn_wide (n:=nf)).2 h
 cases ro with
 | none=>exact this
 | some l=>exact this
theorem kZ {o:Oper}{ρ:Operand->Value}{x:Next}{w':World}(h:(execOp ρ o).run P w = .ok x w')(hx:∀ d,x≠.defer d):(o.semAt ro ρ).run P w = .ok x w':=by
 cases ro with
 | none=>rw[Oper.semAt_none];exact h
 | some l=>
   rw[Oper.semAt_some l ρ o]
   ·exact h
   ·intro c hc
    simp only[execOp,hc,Sem.run_bind] at h
    cases hr:(resolve ρ c o.type).run P w with
    | ok d w1=>rw[hr] at h;simp at h;exact hx _ h.1.symm
    | halt y w1=>rw[hr] at h;simp[Result.andThen] at h
theorem eG {o:Oper}{u:Value}{w':World}{K:Act->World->Prop}{Q:Exit->Act->World->Prop}(h:(execOp a.eval o).run P w = .ok (.value u) w')(hk:K (a.put o.dst u) w'):o.wpIn (FR ro) nf P a w K Q:=by
 refine⟨fun _ _=>trivial,?_⟩
 rw[show (FR ro).round=ro from rfl,kZ h (by simp)];exact hk
theorem uT {o:Oper}{w':World}{K:Act->World->Prop}{Q:Exit->Act->World->Prop}(h:(execOp a.eval o).run P w = .ok .skip w')(hk:K (a.put o.dst Go.undef) w'):o.wpIn (FR ro) nf P a w K Q:=by
 refine⟨fun _ _=>trivial,?_⟩
 rw[show (FR ro).round=ro from rfl,kZ h (by simp)];exact hk
theorem lu {o:Oper}{f:Nat}{args:Array Value}{w':World}{K:Act->World->Prop}{Q:Exit->Act->World->Prop}(h:(execOp a.eval o).run P w = .ok (.enter f args) w')
  (hk:Calls P f args w' fun
   | .returned v,w''=>K (a.put o.dst v) w''
   | .panicked chain,w''=>Q (.panic chain) a w''
   | .outgrown,_=>LetsOut Q):o.wpIn (FR ro) nf P a w K Q:=by
 refine⟨fun _ _=>trivial,?_⟩
 rw[show (FR ro).round=ro from rfl,kZ h (by simp)]
 exact⟨fun h=>absurd h (wu ro),MT hk⟩
theorem Rel.pureCall (h:Rel c κ0 N s a w κ){w':World}{imm':Nat->Nat->Prop}(hb:Below w.heap.size w w')(h1:∀ b o,κ.imm b o->imm' b o)(h2:∀ b o,imm' b o->κ.imm b o\/w.heap.size<=b)(h3:∀ b o,imm' b o->b<w'.heap.size) :
  Rel c κ0 N s a w' ⟨w',κ.nm,imm'⟩:=by
 have hw:=h.w_eq
 subst hw
 have he:Ext κ ⟨w',κ.nm,imm'⟩:=by
  refine⟨h1,fun b o v hi hc=>?_,fun _ _ h=>h,fun b o ho _=>(hb.block b (Uz.1 ho).1).trans ho⟩
  have hl:=World.block_lt_of_cell? κ.w _ hc
  exact (World.cell?_of_block (a:=⟨b,o,none⟩) (hb.block b hl)).trans hc
 have hS:=h.rel
 have hL:=h.left
 refine⟨rfl,h.ext0.trans he,⟨fun r=>?_,hS.apart,hS.mine,h3,Uc he hS.glob fun g h1 _=>hb.block g (UG h1 hL.size)⟩,⟨hb.os.trans hL.os,hb.tape.trans hL.tape,hb.output.trans hL.output,U6 hL.size hb.size,fun b hlt hl=>?_,fun b o hi=>?_⟩,fun i=>(h.env i).ext he,h.size,h.defers.ext he,h.fresh⟩
 ·refine (hS.blk r).keep he fun hz d b hd hbk=>?_
  have hl:=(hS.blk r).lt hz hd hbk
  exact⟨hb.block b hl,fun o ho=>(h2 b o ho).elim id (fun h=>by omega)⟩
 ·exact (hb.block b (UG hlt hL.size)).trans (hL.block b hlt hl)
 ·rcases h2 b o hi with h | h
  ·exact hL.imm b o h
  ·exact .inr (.inl (U6 hL.size h))
theorem Rel.lentCall (h:Rel c κ0 N s a w κ){κ':Kap}{sto':List (Nat×Blk)}{next':Nat}(he:Ext κ κ')(hL:Left (cD κ s.σ c.G) κ.imm κ')(hS:SRel (cD κ s.σ c.G) κ' (fun r=>lookB r sto'))(hf:∀ r,next'<=r->κ'.nm r=none) :
  Rel c κ0 N ⟨s.env,sto',next'⟩ a κ'.w κ':=by
 have hl0:=h.left
 have hlm:∀ b,(cD κ s.σ c.G).lent b->c.mine b:=fun b ⟨r,d,h1,h2,h3⟩=>h.rel.mine r d b h1 h2 h3
 have hmine:∀ b,(cD κ s.σ c.G).mine b->c.mine b:=by
  intro b hb
  rcases hb with hb | ⟨r,d,h1,h2,h3⟩
  ·exact .inl (U6 hl0.size hb)
  ·exact h.rel.mine r d b h1 h2 h3
 refine⟨rfl,h.ext0.trans he,⟨hS.blk,hS.apart,fun r d b h1 h2 h3=>hmine b (hS.mine r d b h1 h2 h3),hS.immLt,h.rel.glob.back hlm hS.glob hL.block⟩,⟨hL.os.trans hl0.os,hL.tape.trans hl0.tape,hL.output.trans hl0.output,U6 hl0.size hL.size,fun b hlt hl=>?_,fun b o hi=>?_⟩,fun i=>(h.env i).ext he,h.size,h.defers.ext he,hf⟩
 ·refine (hL.block b (UG hlt hl0.size) ?_).trans (hl0.block b hlt hl)
  rintro⟨r,d,h1,h2,h3⟩
  rcases h.rel.mine r d b h1 h2 h3 with h4 | h4
  ·omega
  ·exact hl h4
 ·rcases hL.imm b o hi with h1 | h1
  ·exact hl0.imm b o h1
  ·exact .inr (hmine b h1)
theorem tN {f:Nat}{args:List AV}{vals:Array Value}{K:AV->St->Prop}(h:Rel c κ0 N s a w κ)(hA:ae P c.G f args s K)(hsz:vals.size=args.length)(hargs:∀ (i:Nat) (x:AV),args[i]? = some x->ARel κ x (vals.getD i Go.undef)) :
  ca P f=true/\Calls P f vals w fun e w'=>∃ u v s' κ',e = .returned u/\Rel c κ0 N s' a w' κ'/\ARel κ' v u/\K v s':=by
 obtain⟨s1,args1,⟨hlen1,henv1,hW⟩,hA⟩:=hA
 obtain⟨κ,h,hargs⟩:=hW c κ0 κ N a w vals h hargs
 rw[<- hlen1] at hsz
 rw[<- henv1] at hA
 clear hW hlen1 henv1
 have hw:=h.w_eq
 rcases hA with ⟨ps,r,hps,⟨hcal,hP⟩,hK⟩ | ⟨Q,⟨hcal,hT⟩,hK⟩
 ·refine⟨hcal,?_⟩
  subst hw
  refine (hP κ.w κ.imm vals h.rel.glob.ok h.rel.immLt (hsz.trans (ci hps).symm) fun i x hx=>?_).mono ?_
  ·obtain⟨y,hy,hp⟩:=c8 hps i x hx
   exact bZ hp (hargs i y hy)
  ·rintro e w' ⟨u,imm',rfl,hb,h1,h2,h3,h4⟩
   exact⟨u,.pv r,s1,_,rfl,h.pureCall hb h1 h2 h3,.pv _ _ h4,hK⟩
 ·refine⟨hcal,?_⟩
  subst hw
  refine (hT κ vals ?_ h.fresh hsz hargs).mono ?_
  ·have hS:=h.rel
   exact⟨hS.blk,hS.apart,fun r d b h1 h2 h3=>.inr ⟨r,d,h1,h2,h3⟩,hS.immLt,hS.glob.lend fun b ⟨r,d,h1,h2,h3⟩=>hS.mine r d b h1 h2 h3⟩
  ·rintro e w' ⟨u,v,κ',sto',next',rfl,rfl,he,hL,hv,hS,hf,hQ⟩
   exact⟨u,v,_,κ',rfl,h.lentCall he hL hS hf,hv,hK v sto' next' hQ⟩
theorem fF {ops:Array Oper}{o:Oper}{g:Option (Nat×Bool)}{b:Bool}(hg:Ej ops o.guard=some g)(henv:∀ i,ARel κ (s.E i) (a.tmps.getD i Go.undef))(hw:cw s g=some b):Region.wanted o (yielded ops a.tmps)=b:=by
 unfold Ej at hg
 unfold Region.wanted
 split at hg
 ·rename_i hgu
  cases hg
  simp[cw] at hw
  simp[hgu,hw]
 ·rename_i j want hgu
  split at hg
  ·rename_i d hd
   cases hg
   rw[hgu]
   simp only
   have hy:yielded ops a.tmps j=match (a.tmps[d]?) with | some (.bool b)=>some b | _=>none:=by
    simp only[yielded,hd,Option.bind_some]
    cases a.tmps[d]? with
    | none=>rfl
    | some v=>cases v<;>rfl
   rw[hy]
   have he:=henv d
   simp only[cw] at hw
   split at hw
   ·rename_i x hx
    cases hw
    rw[hx] at he
    have:=dE he
    have hlt:d<a.tmps.size:=by
     rcases Vn d a.tmps.size with h | h
     ·exact h
     ·rw[Uu,Array.getElem?_eq_none h] at this
      cases this
    rw[Uu,Va hlt] at this
    simp only[Vg] at this
    rw[Va hlt,this]
    cases x<;>cases want<;>rfl
   ·rename_i hx
    cases hw
    rw[hx] at he
    have hu:a.tmps.getD d Go.undef = .tuple #[]:=by
     generalize a.tmps.getD d Go.undef=u at he
     cases aS he;rfl
    rcases Vn d a.tmps.size with hlt | hge
    ·rw[Uu,Va hlt] at hu
     simp only[Vg] at hu
     rw[Va hlt,hu]
     rfl
    ·rw[Array.getElem?_eq_none hge];rfl
   ·cases hw
  ·cases hg
theorem f0 {f:Nat}{vals:Array Value}(h:ca P f=true):(callFunc f vals).run P w = .ok (.enter f vals) w:=by
 unfold ca at h
 split at h
 ·rename_i fn hfn
  simp only[UF,Bool.not_eq_true',beq_eq_false_iff_ne] at h
  obtain⟨b,hb⟩:=Option.isSome_iff_exists.1 h.1
  simp[callFunc,hfn,h.2,hb]
 ·cases h
theorem DZ {x:AV}{u:Value}{p:Nat×List AV×List AV}(hx:ARel κ x u)(h:dU x=some p):∃ vs us:Array Value,u = .func (.func p.1) vs us/\vs.size=p.2.1.length/\us.size=p.2.2.length /\
  (∀ (i:Nat) (x:AV),p.2.1[i]? = some x->ARel κ x (vs.getD i Go.undef))/\∀ (i:Nat) (x:AV),p.2.2[i]? = some x->ARel κ x (us.getD i Go.undef):=by
 unfold dU at h
 split at h
 ·cases h
  cases aS hx with
  | clo _ _ _ vs us h1 h2 h3 h4=>
    refine⟨vs,us,rfl,by simpa using h1,by simpa using h3,fun i x hx=>?_,fun i x hx=>?_⟩
    ·simp only[UB,Uq] at hx
     obtain⟨q,hq,rfl⟩:=hx
     exact .pv _ _ (h2 i q hq)
    ·simp only[UB,Uq] at hx
     obtain⟨q,hq,rfl⟩:=hx
     exact .pv _ _ (h4 i q hq)
 ·cases h
  cases hx with
  | clo _ _ _ vs us h1 h2 h3 h4=>exact⟨vs,us,rfl,h1,h3,h2,h4⟩
 ·cases h
theorem dc {l k:List AV}{xs zs:Array Value}(hl:xs.size=l.length)(h:∀ (i:Nat) (x:AV),l[i]? = some x->ARel κ x (xs.getD i Go.undef))(g:∀ (i:Nat) (x:AV),k[i]? = some x->ARel κ x (zs.getD i Go.undef)) :
  ∀ (i:Nat) (x:AV),(l++k)[i]? = some x->ARel κ x ((xs++zs).getD i Go.undef):=by
 have:=jg (κ:=κ) (l:=l) (k:=k) (xs:=xs.toList) (zs:=zs.toList) (by simpa using hl.symm) (by simpa[aF] using h) (by simpa[aF] using g)
 intro i x hx
 rw[aF];simpa using this i x hx
theorem GX {tb:List (Nat×Nat)}{x:AV}{p:Nat×List AV×List AV}(h:dU (Q6 tb x)=some p):∃ T q f,x = .pv (.iface T q)/\qC T tb=some f/\p=(f,[.pv q],[]):=by
 unfold Q6 at h
 split at h
 ·rename_i T q
  cases hl:qC T tb with
  | none=>rw[hl] at h;simp[LM,dU] at h
  | some f=>
    rw[hl] at h
    simp only[LM,dU,Ur] at h
    exact⟨T,q,f,rfl,hl,h.symm⟩
 ·simp[dU] at h
theorem wh {E:Nat->AV}{o:Oper}{af:AX}{xs:List AX}{p:Nat×List AV×List AV}(hc:JK P o.op af xs)(hE:∀ i,ARel κ (E i) (a.tmps.getD i Go.undef))(hp:dU (af.ev E)=some p) :
  ∃ (vs us:Array Value) (args:Array Operand),vs.size=p.2.1.length/\us.size=p.2.2.length/\(∀ (i:Nat) (x:AV),p.2.1[i]? = some x->ARel κ x (vs.getD i Go.undef))/\(∀ (i:Nat) (x:AV),p.2.2[i]? = some x->ARel κ x (us.getD i Go.undef)) /\
    cXs args.toList=some xs/\(ca P p.1=true->∀ w,(execOp a.eval o).run P w = .ok (.enter p.1 (vs++args.map a.eval++us)) w):=by
 rcases hc with ⟨f,args,ts,hop,hf,hxs⟩ | ⟨r,m,args,ts,hop,rfl,hxs⟩
 ·obtain⟨vs,us,hfu,hvs,hus,hv1,hu1⟩:=DZ (aE (κ:=κ) (E:=E) (a:=a) hf (fun i _=>hE i)) hp
  refine⟨vs,us,args,hvs,hus,hv1,hu1,hxs,fun hcal w=>?_⟩
  simp[execOp,hop,resolve,hfu,Deferred.ofValue,invoke,f0 hcal]
 ·simp only[AX.ev] at hp
  obtain⟨T,q,f,hx,hl,rfl⟩:=GX hp
  have hr:=hE r
  rw[hx] at hr
  generalize hu:a.tmps.getD r Go.undef=u at hr
  cases aS hr with
  | iface _ _ v hv=>
  refine⟨#[v],#[],args,rfl,rfl,fun i x hx=>?_,fun i x hx=>by simp at hx,hxs,fun hcal w=>?_⟩
  ·cases i with
   | zero=>simp at hx;subst hx;simpa using ARel.pv _ _ hv
   | succ i=>simp at hx
  ·have h0:(#[a.eval (.tmp r)]++args.map a.eval)[0]? = some (.iface T v):=by
    rw[Array.getElem?_append_left (by simp)]
    simp[Act.eval,hu]
   have hfu:P.types.size+Made.depth=(P.types.size+99)+1:=rfl
   simp[execOp,hop,resolve,invoke,h0,callMethod,hfu,xR hl,f0 hcal]
   rw[show args.size=(args.map a.eval).size by simp,Array.extract_size]
theorem MC {w:World}(d:Nat){t e:TypeId}(hu:P.underlying t=some (.slice e))(A:Option Addr)(n c:Nat):(Op.equalIn (d+1) t (.slice A n c) (.slice none 0 0)).run P w = .ok A.isNone w:=by
 cases A<;>simp[Op.equalIn,run_underlying hu]
theorem Qi {op:Op}{kd:Nat}{ng:Bool}{ax ay:AX}(h:cT P op=some (.beq kd ng ax ay)):∃ bo t x y z,op = .binOp bo t x y z/\dw P t=some kd/\((bo = .eql/\ng=false)\/(bo = .neq/\ng=true))/\cX x=some ax/\cX y=some ay:=by
 cases op with
 | binOp bo t x y z=>
   simp only[cT] at h
   split at h
   ·obtain⟨ax',ay',hx,hy,he⟩:=dV h
    cases he
    exact⟨_,_,_,_,_,rfl,‹_›,.inl ⟨rfl,rfl⟩,hx,hy⟩
   ·obtain⟨ax',ay',hx,hy,he⟩:=dV h
    cases he
    exact⟨_,_,_,_,_,rfl,‹_›,.inr ⟨rfl,rfl⟩,hx,hy⟩
   ·exfalso
    revert h
    (repeat' split)<;>(intro h;obtain⟨_,_,_,_,he⟩:=dV h;cases he)
 | _=>
   exfalso
   unfold cT at h
   revert h
   (repeat' split)<;>(intro h;first
    | (cases h;done)
    | (obtain⟨_,_,he⟩:=dW h;cases he;done)
    | (obtain⟨_,_,_,_,he⟩:=dV h;cases he;done)
    | (obtain⟨_,_,_,_,_,_,he⟩:=El h;cases he;done)
    | (cases ‹_=Op.binOp _ _ _ _ _›;done)
    | (simp at h;done))
theorem MU {x:Operand}(h:cX x=some (.c .nils))(a:Act):a.eval x = .slice none 0 0:=by
 cases x with
 | tmp t=>simp[cX] at h
 | const v=>
   simp only[cX,Uq] at h
   obtain⟨p,hp,he⟩:=h
   cases he
   have:=jV (w:=default) (imm:=fun _ _=>False) hp
   cases this;rfl
 | global g=>simp[cX] at h
 | func f=>simp[cX] at h
theorem GH {E:Nat->AV}{o:Oper}{op:TOp}(hc:cT P o.op=some op)(hE:∀ i,i∈op.slots->ARel κ (E i) (a.tmps.getD i Go.undef))(hn:Pg E op=true) :
  ∃ b,(execOp a.eval o).run P κ.w = .ok (.value (.bool b)) κ.w:=by
 unfold Pg at hn
 split at hn
 ·rename_i ng x
  split at hn
  ·rename_i hev
   obtain⟨dst,op,type,pos,after,guard⟩:=o
   obtain⟨bo,t,X,Y,z,rfl,hk,hbo,hX,hY⟩:=Qi hc
   have hx:=aE (κ:=κ) (E:=E) (a:=a) hX (fun i hi=>hE i (by simp[TOp.slots,hi]))
   rw[hev] at hx
   have hy:=MU hY a
   obtain⟨e,hu⟩:∃ e,P.underlying t=some (.slice e):=by
    unfold dw at hk
    split at hk<;>first | exact⟨_,‹_›⟩ | cases hk
   obtain⟨A,n,c,hs⟩:∃ A n c,a.eval X = .slice A n c:=by
    generalize a.eval X=u at hx
    cases aS hx<;>exact⟨_,_,_,rfl⟩
   have he:Op.equal t (.slice A n c) (.slice none 0 0)=Op.equalIn (9999+1) t (.slice A n c) (.slice none 0 0):=rfl
   have hmain:=MC (P:=P) (w:=κ.w) 9999 hu A n c
   rcases hbo with ⟨rfl,_⟩ | ⟨rfl,_⟩
   ·refine⟨A.isNone,?_⟩
    simp[execOp,hs,hy,eqGuard_at_slice,binOp,he,hmain]
   ·refine⟨!A.isNone,?_⟩
    simp[execOp,hs,hy,eqGuard_at_slice,binOp,he,hmain]
  ·cases hn
 ·cases hn
theorem nq {mu:Bool×Bool}{o:Oper}{op:AOp}{F:St->Prop}{K:Act->World->Prop}{Q:Exit->Act->World->Prop}(hc:cA P mu o.op=some op)(h:Rel c κ0 N s a w κ)
  (hd:yx o.dst N=true) (hr:mH P c.G F s o.dst op) (hK:∀ s a w κ,Rel c κ0 N s a w κ->F s->K a w):o.wpIn (FR ro) nf P a w K Q:=by
 have hw:=h.w_eq
 subst hw
 rcases JE hc with ⟨g,x,rfl,hz⟩ | ⟨t,rfl,ht⟩ | ⟨m,rfl,hm⟩ | rfl
 ·simp only[mH,aV] at hr
  split at hr
  ·rename_i p hp
   obtain⟨u,κ',h1,h2,h3,h4⟩:=Dx (P:=P) (κ:=κ) (E:=s.E) (a:=a) (new:=s.next) hz h.rel (fun i _=>h.env i) hp
   refine eG h1 ?_
   exact hK _ _ _ κ' ((h.step h3 h4).put (κ':=κ') (w':=κ'.w) hd h2) hr
  ·exact hr.elim
 ·replace ht:=wk ht
  simp only[mH,jn] at hr
  split at hr
  ·rename_i v hv
   obtain⟨u,h1,h2⟩:=pw (P:=P) (κ:=κ) (E:=s.E) (a:=a) ht (fun i _=>h.env i) hv
   refine eG h1 ?_
   exact hK _ _ _ κ (h.put (κ':=κ) (w':=κ.w) hd h2) hr
  ·obtain⟨hnb,hall⟩:=hr
   obtain⟨b,h1⟩:=GH (P:=P) (κ:=κ) (E:=s.E) (a:=a) ht (fun i _=>h.env i) hnb
   refine eG h1 ?_
   exact hK _ _ _ κ (h.put (κ':=κ) (w':=κ.w) hd (.pv _ _ (.bool b))) (hall b)
 ·simp only[mH,aV] at hr
  split at hr
  ·rename_i p hp
   obtain⟨x,u,κ',h1,h2,h3,h4,h5,_⟩:=nt (P:=P) hm h.rel h.size_le (fun _=>h.fresh s.next (UA _)) (fun i _=>h.env i) hp
   have hR:=(h.step h4 h5).put (κ':=κ') (w':=κ'.w) hd h3
   rcases h2 with rfl | ⟨rfl,rfl⟩
   ·exact eG h1 (hK _ _ _ κ' hR hr)
   ·exact uT h1 (hK _ _ _ κ' hR hr)
  ·exact hr.elim
 ·
   rcases rp P o.op with hb | ⟨af,xs,hce,hco⟩
   ·rw[hb] at hr;simp[j4,mH,AX.ev,dU,aV] at hr
   ·rw[hce] at hr
    ·simp only[mH,aV] at hr
     split at hr
     ·rename_i p hp
      obtain⟨vs,us,args,hvs,hus,hv1,hu1,hxs,hrun0⟩:=wh (P:=P) (κ:=κ) (E:=s.E) (a:=a) hco h.env hp
      obtain⟨hxl,hxr⟩:=gY (κ:=κ) (E:=s.E) (a:=a) hxs (fun i _=>h.env i)
      have hmid:∀ (i:Nat) (x:AV),(xs.map (·.ev s.E))[i]? = some x->ARel κ x ((args.map a.eval).getD i Go.undef):=by
       intro i x hx
       rw[aF];simpa using hxr i x hx
      have hall:=dc (κ:=κ) (by simp[hvs];exact hxl) (dc (κ:=κ) hvs hv1 hmid) hu1
      simp only[Eg] at hr
      obtain⟨hcal,hC⟩:=tN (vals:=vs++args.map a.eval++us) h hr (by simp[hvs,hus];simpa using hxl) hall
      have hrun:=hrun0 hcal κ.w
      refine lu hrun (hC.mono ?_)
      rintro e w' ⟨u,v,s',κ',rfl,hR,hv,hk⟩
      exact hK _ _ _ κ' (hR.put (κ':=κ') (w':=w') hd hv) hk
     ·exact hr.elim
theorem eS {muts:List Nat}{ops:Array Oper}{Q:Exit->Act->World->Prop}{F:St->Prop}(hQ:∀ s a w κ,Rel c κ0 N s a w κ->F s->Q .normal a w):∀ (l:List Oper) (aops:List AOper) (s:St) (a:Act) (w:World) (κ:Kap),
  EU P muts N ops l=some aops->Rel c κ0 N s a w κ->dZ P c.G aops F s->wpListIn (FR ro) nf P ops Q l a w
 | [],aops,s,a,w,κ,hc,h,hv=>by
   simp[EU] at hc;subst hc
   exact hQ s a w κ h hv
 | o::r,aops,s,a,w,κ,hc,h,hv=>by
   simp only[EU] at hc
   split at hc
   ·rename_i ao ar ho hr
    cases hc
    unfold yZ at ho
    split at ho
    ·rename_i g op hg hop
     split at ho
     ·rename_i hd
      cases ho
      simp only[dZ,aV] at hv
      split at hv
      ·rename_i b hb
       have hwant:=fF (ops:=ops) (o:=o) hg h.env hb
       refine wpListIn_step fun K hK=>?_
       rw[hwant]
       cases b with
       | true=>
         rw[if_pos rfl]
         exact nq hop h hd hv fun s a w κ hR hF=>hK _ _ (eS hQ r ar s a w κ hr hR hF)
       | false=>
         rw[if_neg (by simp)]
         refine⟨fun _ _=>trivial,?_⟩
         exact hK _ _ (eS hQ r ar _ _ w κ hr (h.put (κ':=κ) (w':=w) hd (.pv _ _ .undef)) hv)
      ·exact hv.elim
     ·cases ho
    ·cases ho
   ·cases hc
end
section
variable {β:Type}
def mR (g:Nat->β):List (Nat×β)->Nat->β
 | []=>g
 | p::r=>mR (fun x=>if x=p.1 then p.2 else g x) r
def bg (u:List (Nat×β)):List Nat:=u.map (·.1)
theorem iZ {r:Nat}:∀ (u:List (Nat×β)) (g:Nat->β),r∉bg u->mR g u r=g r
 | [],g,_=>rfl
 | p::q,g,h=>by
   simp only[bg,UE,UX,not_or] at h
   rw[mR,iZ q _ h.2,if_neg h.1]
theorem o9 {r:Nat}:∀ (u:List (Nat×β)) (g g':Nat->β),(r∈bg u\/g r=g' r)->mR g u r=mR g' u r
 | [],g,g',h=>by
   rcases h with h | h
   ·simp[bg] at h
   ·exact h
 | p::q,g,g',h=>by
   rw[mR,mR]
   refine o9 q _ _ ?_
   by_cases hp:r=p.1
   ·right;simp[hp]
   ·rcases h with h | h
    ·simp only[bg,UE,UX] at h
     exact .inl (h.resolve_left hp)
    ·right;simp[hp,h]
def cg (S:Nat->Bool):List (List (Nat×β))->Nat->(Nat->β)->Nat->β
 | [],_,g=>g
 | u::r,k,g=>cg S r (k+1) (if S k=true then mR g u else g)
theorem gw {S S':Nat->Bool}{r:Nat}:∀ (W:List (List (Nat×β))) (k:Nat) (g g':Nat->β),(∀ i u,W[i]? = some u->r∈bg u->S (k+i)=S' (k+i))->g r=g' r->cg S W k g r=cg S' W k g' r
 | [],k,g,g',_,h=>h
 | u::q,k,g,g',hs,h=>by
   rw[cg,cg]
   refine gw q (k+1) _ _ (fun i v hv hr=>?_) ?_
   ·have:=hs (i+1) v (by simpa using hv) hr
    rw[show k+1+i=k+(i+1) by omega];exact this
   ·by_cases hr:r∈bg u
    ·have:=hs 0 u (by simp) hr
     simp only[Nat.add_zero] at this
     rw[this]
     split
     ·exact o9 u _ _ (.inl hr)
     ·exact h
    ·split<;>split<;>simp[iZ u _ hr,h]
theorem rE {S:Nat->Bool}{r:Nat}:∀ (W:List (List (Nat×β))) (k i:Nat) (u:List (Nat×β)) (g g':Nat->β),W[i]? = some u->S (k+i)=true->r∈bg u->(∀ j v,i<j->W[j]? = some v->r∈bg v->S (k+j)=false) ->
  cg S W k g r=mR g' u r
 | [],k,i,u,g,g',h,_,_,_=>by simp at h
 | v::q,k,i,u,g,g',h,hS,hr,hl=>by
   rw[cg]
   cases i with
   | zero=>
     simp only[UV,Ur] at h
     subst h
     simp only[Nat.add_zero] at hS
     rw[if_pos hS]
     have hz:cg S q (k+1) (mR g v) r=cg (fun _=>false) q (k+1) (mR g v) r:=
      gw q (k+1) _ _ (fun j w hw hrw=>by
       have:=hl (j+1) w (by omega) (by simpa using hw) hrw
       rw[show k+1+j=k+(j+1) by omega];exact this) rfl
     have hno:∀ (W:List (List (Nat×β))) (k:Nat) (g:Nat->β),cg (fun _=>false) W k g=g:=by
      intro W
      induction W with
      | nil=>intros;rfl
      | cons a b ih=>intro k g;rw[cg];simpa using ih (k+1) g
     rw[hz,hno]
     exact o9 v _ _ (.inl hr)
   | succ i=>
     exact rE q (k+1) i u _ g' (by simpa using h) (by rw[show k+1+i=k+(i+1) by omega];exact hS) hr (fun j w hj hw hrw=>by
      have:=hl (j+1) w (by omega) (by simpa using hw) hrw
      rw[show k+1+j=k+(j+1) by omega];exact this)
theorem rC {S S':Nat->Bool}{W:List (List (Nat×β))}{i:Nat}{u:List (Nat×β)}{g:Nat->β}(hi:W[i]? = some u)(h1:S' i=true)(h2:∀ j,j≠i->S' j=S j)
  (ho:∀ j v r,j≠i->W[j]? = some v->r∈bg v->r∈bg u->i<j->S j=false):cg S' W 0 g=mR (cg S W 0 g) u:=by
 funext r
 by_cases hr:r∈bg u
 ·refine rE W 0 i u g _ hi (by simpa using h1) hr (fun j v hj hv hrv=>?_)
  rw[UI,h2 j (by omega)]
  exact ho j v r (by omega) hv hrv hr hj
 ·rw[iZ u _ hr]
  refine gw W 0 g g (fun j v hv hrv=>?_) rfl
  rw[UI]
  refine h2 j ?_
  rintro rfl
  rw[hi] at hv;cases hv
  exact hr hrv
theorem rD {S:Nat->Bool}{W:List (List (Nat×β))}{i r:Nat}{g:Nat->β}(hi:S i=false)(ho:∀ j v,j≠i->W[j]? = some v->r∈bg v->(j<i/\S j=true)\/(i<j/\S j=false)) :
  cg S W 0 g r=cg (fun j=>decide (j<i)) W 0 g r:=by
 refine gw W 0 g g (fun j v hv hrv=>?_) rfl
 rw[UI]
 by_cases hj:j=i
 ·subst hj;simp[hi]
 ·rcases ho j v hj hv hrv with ⟨h1,h2⟩ | ⟨h1,h2⟩
  ·simp[h1,h2]
  ·rw[h2];simp;omega
theorem pf (S:Nat->Bool):∀ (W:List (List (Nat×β))) (k:Nat) (g:Nat->β),(∀ i,i<W.length->S (k+i)=true)->cg S W k g=cg (fun _=>true) W k g
 | [],k,g,_=>rfl
 | v::q,k,g,h=>by
   have h0:=h 0 (by simp)
   rw[Nat.add_zero] at h0
   rw[cg,cg,if_pos h0,if_pos rfl]
   exact pf S q (k+1) _ (fun i hi=>by rw[show k+1+i=k+(i+1) by omega];exact h (i+1) (by simp;omega))
end
theorem aA {E E':Nat->AV}{x:AX}(h:∀ i∈x.slots,E i=E' i):x.ev E=x.ev E':=by
 cases x with
 | t i=>exact h i (by simp[AX.slots])
 | c p=>rfl
 | m i tb=>simp only[AX.ev];rw[h i (by simp[AX.slots])]
theorem iP {E E':Nat->AV}{xs:List AX}(h:∀ i∈xs.flatMap AX.slots,E i=E' i):xs.map (·.ev E)=xs.map (·.ev E'):=
 List.map_congr_left fun x hx=>aA fun i hi=>h i (List.mem_flatMap.2 ⟨x,hx,hi⟩)
theorem eK {E E':Nat->AV}{x:Option AX}(h:∀ i∈jL x,E i=E' i):x.map (·.ev E)=x.map (·.ev E'):=by
 cases x with
 | none=>rfl
 | some x=>simp only[UD];rw[aA (x:=x) (fun i hi=>h i (by simpa[jL] using hi))]
theorem TOp.run_congr {E E':Nat->AV}{o:TOp}(h:∀ i∈o.slots,E i=E' i):o.run E=o.run E':=by
 cases o<;>simp only[TOp.run,TOp.slots,UY] at h ⊢
 case mv x=>rw[aA h]
 case pick c a b=>rw[aA (x:=c) (fun i hi=>h i (.inl (.inl hi))),aA (x:=a) (fun i hi=>h i (.inl (.inr hi))),aA (x:=b) (fun i hi=>h i (.inr hi))]
 case build zs ps=>
  have:(ps.map fun p=>(p.1,p.2.1,p.2.2.ev E))=ps.map fun p=>(p.1,p.2.1,p.2.2.ev E'):=
   List.map_congr_left fun p hp=>by rw[aA (x:=p.2.2) (fun i hi=>h i (List.mem_flatMap.2 ⟨p,hp,hi⟩))]
  rw[this]
 case faddr off x=>rw[aA h]
 case field g sz off x=>rw[aA h]
 case len st x=>rw[aA h]
 case neg x=>rw[aA h]
 case not x=>rw[aA h]
 case compl x=>rw[aA h]
 case conv k x=>rw[aA h]
 case convS x=>rw[aA h]
 case convIS x=>rw[aA h]
 case ext x i=>rw[aA h]
 case nilck x=>rw[aA h]
 case sliceL sz x l hh=>rw[aA (x:=x) (fun i hi=>h i (.inl (.inl hi))),eK (x:=l) (fun i hi=>h i (.inl (.inr hi))),eK (x:=hh) (fun i hi=>h i (.inr hi))]
 case sliceS x l hh=>rw[aA (x:=x) (fun i hi=>h i (.inl (.inl hi))),eK (x:=l) (fun i hi=>h i (.inl (.inr hi))),eK (x:=hh) (fun i hi=>h i (.inr hi))]
 case clo f fs cs=>rw[iP (xs:=fs) (fun i hi=>h i (.inl hi)),iP (xs:=cs) (fun i hi=>h i (.inr hi))]
 all_goals
  rename_i x y
  rw[aA (x:=x) (fun i hi=>h i (.inl hi)),aA (x:=y) (fun i hi=>h i (.inr hi))]
def AV.name:AV->List Nat
 | .ptr r _=>[r]
 | .row r _ _ _=>[r]
 | .olist r _ _=>[r]
 | .mp r=>[r]
 | _=>[]
def XOp.reads (E:Nat->AV):XOp->List Nat
 | .ucast _ _ _ x | .apps _ _ x _ | .ustr _ x _ | .same x=>(x.ev E).name
 | .noesc _ | .peq _ _ _ | .sdata _ | .ofStr _ | .inil _ _ _ | .idxb _ _ | .mkmap | .bslf _ _ _=>[]
 | .mlook _ _ _ x _ | .mset _ x _ _=>(x.ev E).name
def MOp.reads (E:Nat->AV):MOp->List Nat
 | .load _ _ x | .sliceA _ _ x _ _ | .clear _ _ x | .toStr x=>(x.ev E).name
 | .store _ x _=>(x.ev E).name
 | .append _ _ _ _ x y=>(x.ev E).name++(y.ev E).name
 | .xop o=>o.reads E
 | _=>[]
theorem iT {σ σ':aD}{sz:Nat}{y:AV}(h:∀ r∈y.name,σ r=σ' r):bW σ sz y=bW σ' sz y:=by
 cases y with
 | row r s off len=>simp only[bW,h r (by simp[AV.name])]
 | pv p=>cases p<;>rfl
 | _=>rfl
theorem XOp.reads_congr {E E':Nat->AV}{o:XOp}(h:∀ i∈o.slots,E i=E' i):o.reads E=o.reads E':=by
 cases o<;>simp only[XOp.slots,XOp.reads,UY] at h ⊢
 case ucast u n b x=>rw[aA h]
 case same x=>rw[aA h]
 case apps e b x y=>rw[aA (x:=x) (fun i hi=>h i (.inl hi))]
 case ustr e x y=>rw[aA (x:=x) (fun i hi=>h i (.inl hi))]
 case mlook kd co z x k=>rw[aA (x:=x) (fun i hi=>h i (.inl hi))]
 case mset kd x k v=>rw[aA (x:=x) (fun i hi=>h i (.inl hi))]
theorem XOp.run_congr {new:Nat}{E E':Nat->AV}{σ σ':aD}{o:XOp}(h:∀ i∈o.slots,E i=E' i)(hr:∀ r∈o.reads E,σ r=σ' r):o.run new E σ=o.run new E' σ':=by
 cases o<;>simp only[XOp.run,XOp.slots,XOp.reads,UY] at h hr ⊢
 case mlook kd co z x k=>
  rw[<- aA (x:=x) (fun i hi=>h i (.inl hi)),<- aA (x:=k) (fun i hi=>h i (.inr hi))]
  congr 1
  cases hx:x.ev E with
  | mp r=>
    cases hk:k.ev E with
    | pv p=>simp only[oq];rw[hr r (by simp[hx,AV.name])]
    | _=>rfl
  | _=>rfl
 case mset kd x k v=>
  rw[<- aA (x:=x) (fun i hi=>h i (.inl hi)),<- aA (x:=k) (fun i hi=>h i (.inr (.inl hi))),<- aA (x:=v) (fun i hi=>h i (.inr (.inr hi)))]
  congr 1
  cases hx:x.ev E with
  | mp r=>
    cases hk:k.ev E with
    | pv p=>simp only[oo];rw[hr r (by simp[hx,AV.name])]
    | _=>rfl
  | _=>rfl
 case bslf sz len xs=>
  have e:xs.map (·.ev E)=xs.map (·.ev E'):=List.map_congr_left fun x hx=>aA fun i hi=>h i (by simp only[List.mem_flatMap];exact⟨x,hx,hi⟩)
  rw[e]
 case noesc x=>rw[aA h]
 case same x=>
  rw[<- aA (x:=x) h]
  cases hx:x.ev E with
  | olist r s l=>
    cases l with
    | nil=>rfl
    | cons y l=>simp only[sk];rw[hr r (by simp[hx,AV.name])]
  | _=>rfl
 case peq ng x y=>rw[<- aA (x:=x) (fun i hi=>h i (.inl hi)),<- aA (x:=y) (fun i hi=>h i (.inr hi))]
 case sdata x=>rw[aA h]
 case ofStr x=>rw[aA h]
 case inil ng x y=>rw[<- aA (x:=x) (fun i hi=>h i (.inl hi)),<- aA (x:=y) (fun i hi=>h i (.inr hi))]
 case idxb x y=>rw[<- aA (x:=x) (fun i hi=>h i (.inl hi)),<- aA (x:=y) (fun i hi=>h i (.inr hi))]
 case ucast u n b x=>
  rw[<- aA (x:=x) h]
  congr 1
  cases hx:x.ev E with
  | ptr r o=>simp only[fQ];rw[hr r (by simp[hx,AV.name])]
  | _=>rfl
 case apps e b x y=>
  rw[<- aA (x:=x) (fun i hi=>h i (.inl hi)),<- aA (x:=y) (fun i hi=>h i (.inr hi))]
  have key:∀ ys,JG e 1 b new σ (x.ev E) ys=JG e 1 b new σ' (x.ev E) ys:=by
   intro ys
   cases hx:x.ev E with
   | row r s off len=>simp only[JG];rw[hr r (by simp[hx,AV.name])]
   | pv p=>cases p<;>rfl
   | _=>rfl
  cases y.ev E with
  | pv q=>cases q<;>first | rfl | exact key _
  | _=>rfl
 case ustr e x y=>
  rw[<- aA (x:=x) (fun i hi=>h i (.inl hi)),<- aA (x:=y) (fun i hi=>h i (.inr hi))]
  cases hx:x.ev E with
  | ptr r o=>
    cases y.ev E with
    | pv p=>
      cases p with
      | int k n=>cases k<;>simp only[pO];rw[hr r (by simp[hx,AV.name])]
      | _=>rfl
    | _=>rfl
  | pv p=>
    cases y.ev E with
    | pv q=>
      cases p with
      | nilp=>
        cases q with
        | int k n=>cases k<;>rfl
        | _=>rfl
      | _=>rfl
    | _=>cases p<;>rfl
  | _=>rfl
theorem MOp.run_congr {G:Nat->List PV}{new:Nat}{E E':Nat->AV}{σ σ':aD}{o:MOp}(h:∀ i∈o.slots,E i=E' i)(hr:∀ r∈o.reads E,σ r=σ' r):o.run G new E σ=o.run G new E' σ':=by
 cases o<;>simp only[MOp.run,MOp.slots,MOp.reads,UY] at h hr ⊢
 case box T x=>rw[aA h]
 case xop o=>exact XOp.run_congr h hr
 case cbox T x=>rw[aA h]
 case load g sz x=>
  rw[<- aA (x:=x) h]
  congr 1
  cases hx:x.ev E with
  | ptr r o=>simp only[fu];rw[hr r (by simp[hx,AV.name])]
  | pv p=>cases p<;>rfl
  | _=>rfl
 case store sz x v=>
  rw[<- aA (x:=x) (fun i hi=>h i (.inl hi)),<- aA (x:=v) (fun i hi=>h i (.inr hi))]
  congr 1
  cases hx:x.ev E with
  | ptr r o=>simp only[ix];rw[hr r (by simp[hx,AV.name])]
  | _=>rfl
 case toStr x=>
  rw[<- aA (x:=x) h]
  unfold iw
  rw[iT (fun r hrr=>hr r hrr)]
 case bslice mu e sz len xs=>rw[iP h]
 case append mu e sz by_ x y=>
  rw[<- aA (x:=x) (fun i hi=>h i (.inl hi)),<- aA (x:=y) (fun i hi=>h i (.inr hi))]
  unfold ef
  rw[iT (fun r hrr=>hr r (.inr hrr))]
  cases bW σ' sz (y.ev E) with
  | none=>rfl
  | some ys=>
    simp only
    cases hx:x.ev E with
    | olist r s l=>cases mu<;>simp only[hr r (.inl (by simp[hx,AV.name]))]
    | row r s off len=>cases mu<;>simp only[hr r (.inl (by simp[hx,AV.name]))]
    | pv p=>cases p<;>cases mu<;>rfl
    | _=>cases mu<;>rfl
 case mk mu e sz by_ zs x y=>rw[<- aA (x:=x) (fun i hi=>h i (.inl hi)),<- aA (x:=y) (fun i hi=>h i (.inr hi))]
 case clear sz zs x=>
  rw[<- aA (x:=x) h]
  congr 1
  cases hx:x.ev E with
  | row r s off len=>simp only[pU];rw[hr r (by simp[hx,AV.name])]
  | _=>rfl
 case sliceA n sz x l hh=>
  rw[<- aA (x:=x) (fun i hi=>h i (.inl (.inl hi))),eK (x:=l) (fun i hi=>h i (.inl (.inr hi))),eK (x:=hh) (fun i hi=>h i (.inr hi))]
  cases hx:x.ev E with
  | ptr r o=>simp only;rw[hr r (by simp[hx,AV.name])]
  | _=>rfl
def AOp.slots:AOp->List Nat
 | .t o=>o.slots
 | .m o=>o.slots
 | .call f xs=>f.slots++xs.flatMap AX.slots
 | .fz _ x=>x.slots
def AOper.slots (o:AOper):List Nat:=
 (match o.guard with
  | some (i,_)=>[i]
  | none=>[])++o.op.slots
def ba (o:Oper):List Nat:=(o.after.toList.filter (Region.binds .any)).map (·.on)
def TN (x:Nat)(d:List Nat):List Nat:=match d.contains x with
 | true=>d
 | false=>x::d
def Jv:List Nat->List Nat
 | []=>[]
 | x::r=>TN x (Jv r)
theorem kh {x:Nat}:∀ {l:List Nat},x∈Jv l↔x∈l
 | []=>by simp[Jv]
 | y::r=>by
   simp only[Jv,TN]
   split
   ·rename_i h
    rw[kh,UX]
    refine⟨.inr,fun h'=>h'.elim (fun e=>?_) id⟩
    subst e
    exact kh.1 (by simpa using h)
   ·rw[UX,UX,kh]
def be:List (List Nat)->List (List Nat)->List (List Nat)
 | [],acc=>acc
 | d::r,acc=>be r (acc++[Jv (d++d.flatMap fun j=>acc.getD j [])])
def ER (A:List (List Nat))(i j:Nat):Bool:=
 if i<j then (A.getD j []).contains i else (A.getD i []).contains j
def Pk (a b:List Nat):Bool:=a.any fun x=>b.contains x
def okB (A:List (List Nat))(l:List (List Nat×List Nat)):Bool:=
 (l.zipIdx).all fun p=>(l.zipIdx).all fun q=>p.2 == q.2||!(Pk p.1.1 (q.1.2++q.1.1))||ER A p.2 q.2
def kX (ops:List AOper):List (List Nat×List Nat):=ops.map fun o=>(o.dst.toList,o.slots)
def DK (ops:List Oper)(aops:List AOper)(k:Nat):Bool:=
 let ds:=ops.map ba
 okB (be ds []) (kX (aops.take k))&&((ds.zipIdx).all fun p=>p.1.all fun j=>decide (j<p.2)) &&
  (UZ ops.length).all fun i=>decide (i<k)||(UZ i).all fun j=>((be ds []).getD i []).contains j
def Da (A:List (List Nat)):Nat->Nat
 | 0=>0
 | n+1=>if (UZ n).all (fun j=>(A.getD n []).contains j)=true then Da A n else n+1
def mU (md:Region.Mode)(ops:Array Oper):List (List Nat):=ops.toList.map fun o=>(o.after.toList.filter (Region.binds md)).map (·.on)
def Q2 (x:Nat):List Nat->Nat
 | []=>0
 | y::r=>if y=x then 0 else Q2 x r+1
def Gl:List (Nat×List Nat)->List Nat->List (Nat×List Nat)×List Nat
 | [],d=>([],d)
 | p::r,d=>if p.2.all (fun j=>d.contains j)=true then Gl r (d++[p.1]) else ((p::(Gl r d).1),(Gl r d).2)
def J3:Nat->List (Nat×List Nat)->List Nat->List Nat
 | 0,_,d=>d
 | n+1,ps,d=>match Gl ps d with
   | ([],d')=>d'
   | (q,d')=>J3 n q d'
def uC (md:Region.Mode)(ops:Array Oper):Bool:=
 let ps:=(mU md ops).zipIdx.map fun p=>(p.2,p.1)
 let L:=J3 ps.length ps []
 ps.all fun p=>p.2.all fun j=>decide (j<ps.length)&&decide (Q2 j L<Q2 p.1 L)
def sP (ops:Array Oper):Bool:=!(Region.departs ops)||(uC .text ops&&uC .gc ops)
def Qh (P:Program)(G:Nat->List PV)(args:List AV)(K:PV->Prop)(p:Nat×List AV×List AV):Prop:=
 ∃ ps r,pvs (p.2.1++args++p.2.2)=some ps/\au P G p.1 ps r/\K r
def fN (mk:Nat)(ks rs:List Nat):List Nat×List Nat:=((if mk=2 then [0] else [])++ks.map (· + 1),(if mk=1 then [0] else [])++rs.map (· + 1))
def dN (o:MOp):Nat:=if o.makes=true then 1 else 0
def jU (P:Program)(G:Nat->List PV)(F:List (List Nat×List Nat)->St->Prop)(T:List (List Nat×List Nat))(s:St)(d:Option Nat)(args:List AV)(p:Nat×List AV×List AV):Prop:=
 Qh P G args (fun r=>F (T++[([],[])]) (s.put d (.pv r))) p \/
 ∃ v δ top,cS P G p.1 (p.2.1++args++p.2.2) s.sto s.next (fun v' sto' n'=>v'=v/\sto'=mE s.sto δ/\n'=top)/\s.next<=top/\F (T++[fN 2 (bg δ) (s.sto.map (·.1))]) ((⟨s.env,mE s.sto δ,top⟩:St).put d v)
def Fy (F:List (List Nat×List Nat)->St->Prop)(T:List (List Nat×List Nat))(s:St)(d:Option Nat)(v:AV):Prop:=F (T++[([],[])]) (s.put d v)
def AN (F:List (List Nat×List Nat)->St->Prop)(T:List (List Nat×List Nat))(s:St)(d:Option Nat)(mk:Nat)(rd:List Nat)(p:AV×List (Nat×Blk)):Prop:=F (T++[fN mk (bg p.2) rd]) ((s.mem p.2).put d p.1)
def iU (P:Program)(G:Nat->List PV)(F:List (List Nat×List Nat)->St->Prop)(T:List (List Nat×List Nat))(s:St)(d:Option Nat):AOp->Prop
 | .t o=>aV (o.run s.E) (Fy F T s d)
 | .m o=>aV (o.run G s.next s.E s.σ) (AN F T s d (dN o) (o.reads s.E))
 | .call f xs=>aV (dU (f.ev s.E)) (jU P G F T s d (xs.map (·.ev s.E)))
 | .fz _ _=>False
def tw (P:Program)(G:Nat->List PV)(F:List (List Nat×List Nat)->St->Prop)(T:List (List Nat×List Nat))(s:St)(d:Option Nat)(o:AOp)(b:Bool):Prop:=
 match b with
 | true=>iU P G F T s d o
 | false=>F (T++[([],[])]) (s.put d (.pv .undef))
def vcD (P:Program)(G:Nat->List PV)(A:List (List Nat))(F:St->Prop):List AOper->List (List Nat×List Nat)->St->Prop
 | [],T,s=>okB A T=true/\F s
 | o::r,T,s=>aV (cw s o.guard) (tw P G (vcD P G A F r) T s o.dst o.op)
structure Ent where
 dst:Option Nat
 v:AV
 δ:List (Nat×Blk)
 reads:List Nat
 isM:Bool
 new:Nat
 top:Nat
 kd:Nat
def Ent.env (e:Ent):List (Nat×AV):=
 match e.dst with
 | some d=>[(d,e.v)]
 | none=>[]
def pg (P:Program)(G:Nat->List PV)(E:Nat->AV)(σ:aD)(wt:Option Bool)(op:AOp)(e:Ent):Prop:=
 (wt=some false/\e.v = .pv .undef/\e.δ=[]/\e.reads=[]/\e.isM=false/\e.kd=0) \/
 (wt=some true/\match op with
  | .t o=>o.run E=some e.v/\e.δ=[]/\e.reads=[]/\e.isM=false/\e.kd=0
  | .m o=>o.run G e.new E σ=some (e.v,e.δ)/\e.reads=o.reads E/\e.isM=true/\e.top=e.new+1/\e.kd=dN o
  | .call f xs=>∃ p,dU (f.ev E)=some p /\
    ((∃ ps r,pvs (p.2.1++xs.map (·.ev E)++p.2.2)=some ps/\au P G p.1 ps r/\e.v = .pv r/\e.δ=[]/\e.reads=[]/\e.isM=false/\e.kd=0) \/
     (∃ sto,(fun r=>lookB r sto)=σ/\cS P G p.1 (p.2.1++xs.map (·.ev E)++p.2.2) sto e.new (fun v' sto' n'=>v'=e.v/\(fun r=>lookB r sto')=σ.upd e.δ/\n'=e.top)/\e.new<=e.top/\e.isM=true/\e.kd=2/\∀ r,σ r≠.none->r∈e.reads))
  | .fz _ _=>False)
def iC (s:St)(e:Ent):St:=if e.isM=true then (⟨s.env,mE s.sto e.δ,e.top⟩:St).put e.dst e.v else s.put e.dst e.v
def Tr (P:Program)(G:Nat->List PV):List AOper->St->List Ent->St->Prop
 | [],s,[],s'=>s'=s
 | o::r,s,e::T,s'=>e.dst=o.dst/\e.new=s.next/\pg P G s.E s.σ (cw s o.guard) o.op e/\Tr P G r (iC s e) T s'
 | _,_,_,_=>False
theorem qE {r:Nat}:∀ {l:List (Nat×Blk)},lookB r l≠.none->r∈l.map (·.1)
 | [],h=>by simp[lookB] at h
 | p::q,h=>by
   simp only[lookB] at h
   by_cases hp:p.1=r
   ·simp[hp]
   ·rw[if_neg hp] at h
    have:=qE h
    simp only[UE,UX];exact .inr this
theorem mV {P:Program}{G:Nat->List PV}{A:List (List Nat)}{F:St->Prop}:∀ (ops:List AOper) (T0:List (List Nat×List Nat)) (s:St),vcD P G A F ops T0 s ->
  ∃ T s',Tr P G ops s T s'/\okB A (T0++T.map fun e=>fN e.kd (bg e.δ) e.reads)=true/\F s'
 | [],T0,s,h=>⟨[],s,rfl,by simpa using h.1,h.2⟩
 | o::r,T0,s,h=>by
   simp only[vcD,aV] at h
   split at h
   ·rename_i b hb
    cases b with
    | false=>
      simp only[tw] at h
      obtain⟨T,s',h1,h2,h3⟩:=mV r _ _ h
      exact⟨⟨o.dst,.pv .undef,[],[],false,s.next,s.next,0⟩::T,s',⟨rfl,rfl,.inl ⟨hb,rfl,rfl,rfl,rfl,rfl⟩,h1⟩,by simpa[bg,fN] using h2,h3⟩
    | true=>
      simp only[tw] at h
      cases hop:o.op with
      | t op=>
        rw[hop] at h
        simp only[iU,aV] at h
        split at h
        ·rename_i v hv
         obtain⟨T,s',h1,h2,h3⟩:=mV r _ _ h
         exact⟨⟨o.dst,v,[],[],false,s.next,s.next,0⟩::T,s',⟨rfl,rfl,.inr ⟨hb,by rw[hop];exact⟨hv,rfl,rfl,rfl,rfl⟩⟩,h1⟩,by simpa[bg,fN] using h2,h3⟩
        ·exact h.elim
      | m op=>
        rw[hop] at h
        simp only[iU,aV] at h
        split at h
        ·rename_i p hp
         obtain⟨T,s',h1,h2,h3⟩:=mV r _ _ h
         exact⟨⟨o.dst,p.1,p.2,op.reads s.E,true,s.next,s.next+1,dN op⟩::T,s',⟨rfl,rfl,.inr ⟨hb,by rw[hop];exact⟨hp,rfl,rfl,rfl,rfl⟩⟩,h1⟩,by simpa using h2,h3⟩
        ·exact h.elim
      | call f xs=>
        rw[hop] at h
        simp only[iU,aV] at h
        split at h
        ·rename_i p hp
         rcases h with ⟨ps,q,hps,hP,hk⟩ | ⟨v,δ,top,hT,htop,hk⟩
         ·obtain⟨T,s',h1,h2,h3⟩:=mV r _ _ hk
          exact⟨⟨o.dst,.pv q,[],[],false,s.next,s.next,0⟩::T,s',⟨rfl,rfl,.inr ⟨hb,by rw[hop];exact⟨p,hp,.inl ⟨ps,q,hps,hP,rfl,rfl,rfl,rfl,rfl⟩⟩⟩,h1⟩,by simpa[bg,fN] using h2,h3⟩
         ·obtain⟨T,s',h1,h2,h3⟩:=mV r _ _ hk
          refine⟨⟨o.dst,v,δ,s.sto.map (·.1),true,s.next,top,2⟩::T,s',⟨rfl,rfl,.inr ⟨hb,by
           rw[hop]
           refine⟨p,hp,.inr ⟨s.sto,rfl,?_,htop,rfl,rfl,fun r hr=>qE hr⟩⟩
           obtain⟨t1,t2⟩:=hT
           refine⟨t1,fun κ vals a1 a2 a3 a4=>(t2 κ vals a1 a2 a3 a4).mono ?_⟩
           rintro e w' ⟨u,v',κ',sto',next',b1,b2,b3,b4,b5,b6,b7,rfl,rfl,rfl⟩
           exact⟨u,_,κ',_,_,b1,b2,b3,b4,b5,b6,b7,rfl,by funext r;exact iF δ s.sto r,rfl⟩⟩,h1⟩,by simpa using h2,h3⟩
        ·exact h.elim
      | fz g x=>
        rw[hop] at h
        exact h.elim
   ·exact h.elim
theorem OU (s:St)(d:Option Nat)(v:AV):(s.put d v).E=mR s.E (match d with | some d=>[(d,v)] | none=>[]):=by
 cases d with
 | none=>rfl
 | some d=>
   funext i
   simp only[St.put,St.E,look,mR]
   by_cases h:i=d
   ·simp[h]
   ·rw[if_neg (fun e=>h e.symm),if_neg h]
theorem eT (σ:aD)(δ:List (Nat×Blk)):aD.upd σ δ=mR σ δ:=by
 induction δ generalizing σ with
 | nil=>rfl
 | cons p q ih=>rw[aD.upd,mR,ih];rfl
theorem uX (s:St)(e:Ent):(iC s e).E=mR s.E e.env:=by
 unfold iC Ent.env
 split
 ·rw[OU];rfl
 ·rw[OU]
theorem Cj (s:St)(δ:List (Nat×Blk))(n:Nat):(⟨s.env,mE s.sto δ,n⟩:St).σ=aD.upd s.σ δ:=by
 funext r;exact iF δ s.sto r
theorem uW (s:St)(e:Ent)(h:e.isM=false->e.δ=[]):(iC s e).σ=mR s.σ e.δ:=by
 have hp:∀ (s:St) (d:Option Nat) (v:AV),(s.put d v).σ=s.σ:=by intro s d v;cases d<;>rfl
 unfold iC
 split
 ·rw[hp]
  rw[Cj,eT]
 ·rename_i hm
  rw[hp,h (by simpa using hm)];rfl
theorem pg.noM {P:Program}{G:Nat->List PV}{E:Nat->AV}{σ:aD}{wt:Option Bool}{op:AOp}{e:Ent}(h:pg P G E σ wt op e):e.isM=false->e.δ=[]:=by
 intro hm
 rcases h with ⟨_,_,h,_⟩ | ⟨_,h⟩
 ·exact h
 ·cases op with
  | t o=>exact h.2.1
  | m o=>rw[h.2.2.1] at hm;cases hm
  | call f xs=>
    obtain⟨p,_,⟨ps,r,_,_,_,h,_⟩ | ⟨sto,_,_,_,h,_⟩⟩:=h
    ·exact h
    ·rw[hm] at h;cases h
  | fz g x=>exact h.elim
theorem pg.tops {P:Program}{G:Nat->List PV}{E:Nat->AV}{σ:aD}{wt:Option Bool}{op:AOp}{e:Ent}(h:pg P G E σ wt op e):(e.isM=true->e.new<=e.top)/\(e.kd≠0->e.isM=true)/\(e.kd=1->e.top=e.new+1):=by
 rcases h with ⟨_,_,_,_,h1,h2⟩ | ⟨_,h⟩
 ·exact⟨fun h=>(by rw[h1] at h;cases h),fun h=>absurd h2 h,fun h=>(by rw[h2] at h;cases h)⟩
 ·cases op with
  | t o=>
    obtain⟨_,_,_,h1,h2⟩:=h
    exact⟨fun h=>(by rw[h1] at h;cases h),fun h=>absurd h2 h,fun h=>(by rw[h2] at h;cases h)⟩
  | m o=>
    obtain⟨_,_,h1,h2,_⟩:=h
    exact⟨fun _=>by omega,fun _=>h1,fun _=>h2⟩
  | call f xs=>
    obtain⟨p,_,⟨ps,r,_,_,_,_,_,h1,h2⟩ | ⟨sto,_,_,h0,h1,h2,_⟩⟩:=h
    ·exact⟨fun h=>(by rw[h1] at h;cases h),fun h=>absurd h2 h,fun h=>(by rw[h2] at h;cases h)⟩
    ·exact⟨fun _=>h0,fun _=>h1,fun h=>(by rw[h2] at h;cases h)⟩
  | fz g x=>exact h.elim
theorem QE {P:Program}{G:Nat->List PV}:∀ (ops:List AOper) (s:St) (T:List Ent) (s':St),Tr P G ops s T s' ->
  ops.length=T.length/\s'.E=cg (fun _=>true) (T.map Ent.env) 0 s.E/\s'.σ=cg (fun _=>true) (T.map (·.δ)) 0 s.σ/\s.next<=s'.next /\
  (∀ (i:Nat) (e:Ent),T[i]? = some e->e.isM=true->s.next<=e.new/\e.top<=s'.next) /\
  (∀ (i j:Nat) (e e':Ent),i<j->T[i]? = some e->T[j]? = some e'->e.isM=true->e'.isM=true->e.top<=e'.new) /\
  ∀ (i:Nat) (e:Ent),T[i]? = some e->∃ o,ops[i]? = some o/\e.dst=o.dst/\∃ si:St,si.E=cg (fun j=>decide (j<i)) (T.map Ent.env) 0 s.E/\si.σ=cg (fun j=>decide (j<i)) (T.map (·.δ)) 0 s.σ /\
    pg P G si.E si.σ (cw si o.guard) o.op e
 | [],s,[],s',h=>by
   have h:s'=s:=h
   subst h
   exact⟨rfl,rfl,rfl,UA _,by simp,by simp,by simp⟩
 | o::r,s,e::T,s',h=>by
   obtain⟨hd,hn,hst,hr⟩:=h
   obtain⟨h1,h2,h3,h4,h5,h6,h7⟩:=QE r (iC s e) T s' hr
   have hnx:(iC s e).next=if e.isM=true then e.top else s.next:=by
    have hp:∀ (s:St) (d:Option Nat) (v:AV),(s.put d v).next=s.next:=by intro s d v;cases d<;>rfl
    unfold iC
    split
    ·rw[hp]
    ·rw[hp]
   have htp:=hst.tops.1
   have hle:s.next<=(iC s e).next:=by
    rw[hnx]
    split
    ·have:=htp ‹_›;omega
    ·exact UA _
   have shift:∀ {β:Type} (S:Nat->Bool) (W:List (List (Nat×β))) (k:Nat) (g:Nat->β),cg (fun j=>S (j+1)) W k g=cg S W (k+1) g:=by
    intro β S W
    induction W with
    | nil=>intros;rfl
    | cons a b ih=>intro k g;simp only[cg];exact ih (k+1) _
   refine⟨by simp[h1],?_,?_,by omega,?_,?_,?_⟩
   ·rw[h2,uX]
    simp only[UE,cg,if_true]
    rw[<- shift]
   ·rw[h3,uW s e hst.noM]
    simp only[UE,cg,if_true]
    rw[<- shift]
   ·intro i e' hi hm
    cases i with
    | zero=>
      simp only[UV,Ur] at hi
      subst hi
      rw[if_pos hm] at hnx
      omega
    | succ i=>
      have:=h5 i e' (by simpa using hi) hm
      omega
   ·intro i j e1 e2 hij hi hj hm1 hm2
    cases j with
    | zero=>omega
    | succ j=>
      cases i with
      | zero=>
        simp only[UV,Ur] at hi
        subst hi
        have:=(h5 j e2 (by simpa using hj) hm2).1
        rw[if_pos hm1] at hnx
        omega
      | succ i=>exact h6 i j e1 e2 (by omega) (by simpa using hi) (by simpa using hj) hm1 hm2
   ·intro i e' hi
    cases i with
    | zero=>
      simp only[UV,Ur] at hi
      subst hi
      have hno:∀ {β:Type} (W:List (List (Nat×β))) (k:Nat) (g:Nat->β),cg (fun j=>decide (j<0)) W k g=g:=by
       intro β W
       induction W with
       | nil=>intros;rfl
       | cons a b ih=>intro k g;rw[cg];simpa using ih (k+1) g
      exact⟨o,rfl,hd,s,(hno _ _ _).symm,(hno _ _ _).symm,hst⟩
    | succ i=>
      obtain⟨o',ho',hd',si,k1,k2,k3⟩:=h7 i e' (by simpa using hi)
      refine⟨o',by simpa using ho',hd',si,?_,?_,k3⟩
      ·rw[k1,uX]
       simp only[UE,cg,Nat.zero_lt_succ,decide_true,if_true]
       rw[<- shift]
       simp
      ·rw[k2,uW s e hst.noM]
       simp only[UE,cg,Nat.zero_lt_succ,decide_true,if_true]
       rw[<- shift]
       simp
 | [],s,e::T,s',h=>h.elim
 | o::r,s,[],s',h=>h.elim
theorem np {A:List (List Nat)}{L:List (List Nat×List Nat)}(h:okB A L=true){i j x:Nat}{p q:List Nat×List Nat}(hj:L[j]? = some p)(hi:L[i]? = some q)(hne:j≠i)(hx:x∈p.1)(hy:x∈q.2\/x∈q.1):ER A j i=true:=by
 have h1:=(UP.1 h) (p,j) (Uw (i:=j) (by simp[List.getElem?_zipIdx,hj]))
 have h2:=(UP.1 h1) (q,i) (Uw (i:=i) (by simp[List.getElem?_zipIdx,hi]))
 simp only[Bool.or_eq_true,beq_iff_eq,Bool.not_eq_true'] at h2
 rcases h2 with (h2 | h2) | h2
 ·exact absurd h2 hne
 ·exfalso
  have:Pk p.1 (q.2++q.1)=true:=by
   refine List.any_eq_true.2 ⟨x,hx,?_⟩
   simp only[List.contains_eq_mem,decide_eq_true_eq,UY]
   exact hy
  rw[this] at h2;cases h2
 ·exact h2
theorem gu {S:Nat->Bool}:∀ (ds acc:List (List Nat)) (k:Nat),acc.length=k->(∀ i d,ds[i]? = some d->S (k+i)=true->∀ j∈d,S j=true) ->
  (∀ i a,acc[i]? = some a->S i=true->∀ j∈a,S j=true)->(∀ i a,acc[i]? = some a->i<k) ->
  (∀ i a,(be ds acc)[i]? = some a->S i=true->∀ j∈a,S j=true) /\
  ∀ i d,ds[i]? = some d->(∀ j∈d,S j=true)->∀ a,(be ds acc)[k+i]? = some a->∀ j∈a,S j=true
 | [],acc,k,hk,_,h2,_=>⟨h2,by simp⟩
 | d::r,acc,k,hk,h1,h2,h3=>by
   have hrow:(∀ j∈d,S j=true)->∀ j∈Jv (d++d.flatMap fun j=>acc.getD j []),S j=true:=by
    intro hd j hj
    rw[kh] at hj
    rcases UY.1 hj with hj | hj
    ·exact hd j hj
    ·obtain⟨m,hm,hj⟩:=List.mem_flatMap.1 hj
     cases ha:acc[m]? with
     | none=>rw[Uv,ha] at hj;simp at hj
     | some a=>rw[Uv,ha] at hj;exact h2 m a ha (hd m hm) j hj
   have hacc:∀ i a,(acc++[Jv (d++d.flatMap fun j=>acc.getD j [])])[i]? = some a->S i=true->∀ j∈a,S j=true:=by
    intro i a ha hS
    by_cases hi:i<k
    ·rw[UO (by omega)] at ha
     exact h2 i a ha hS
    ·rw[UR (by omega)] at ha
     have hik:i=k:=by
      have:=(Up.1 ha).1
      simp at this;omega
     subst hik
     rw[hk] at ha
     simp only[Nat.sub_self,UV,Ur] at ha
     subst ha
     exact hrow (h1 0 d rfl (by simpa using hS))
   obtain⟨k1,k2⟩:=gu r (acc++[Jv (d++d.flatMap fun j=>acc.getD j [])]) (k+1) (by simp[hk]) (fun i e he hS=>h1 (i+1) e (by simpa using he) (by rw[show k+(i+1)=k+1+i by omega];exact hS)) hacc
    (fun i a ha=>by have:=(Up.1 ha).1;simp at this;omega)
   refine⟨k1,fun i e he hd a ha=>?_⟩
   have keep:∀ (ds acc:List (List Nat)) (i:Nat),i<acc.length->(be ds acc)[i]? = acc[i]?:=by
    intro ds
    induction ds with
    | nil=>intros;rfl
    | cons d r ih=>
      intro acc i hi
      rw[be,ih _ i (by simp;omega),UO hi]
   cases i with
   | zero=>
     simp only[UV,Ur] at he
     subst he
     rw[be,Nat.add_zero,keep _ _ _ (by simp;omega),UR (by omega),hk] at ha
     simp only[Nat.sub_self,UV,Ur] at ha
     subst ha
     exact hrow hd
   | succ i=>
     rw[be,show k+(i+1)=k+1+i by omega] at ha
     exact k2 i e (by simpa using he) hd a ha
theorem gv:∀ (ds acc:List (List Nat)),(be ds acc).length=acc.length+ds.length
 | [],acc=>by simp[be]
 | d::r,acc=>by rw[be,gv];simp;omega
section
variable {P:Program}{c:Ctx}{κ0:Kap}{N:Nat}{ro:Option Nat}{nf:Nat}
theorem tF {muts:List Nat}{ops:Array Oper}:∀ (l:List Oper) (aops:List AOper),EU P muts N ops l=some aops->l.length=aops.length/\∀ (i:Nat) (o:Oper),l[i]? = some o->∃ ao,aops[i]? = some ao/\yZ P muts N ops o=some ao
 | [],aops,h=>by simp[EU] at h;subst h;simp
 | o::r,aops,h=>by
   simp only[EU] at h
   split at h
   ·rename_i a b ha hb
    cases h
    obtain⟨h1,h2⟩:=tF r b hb
    refine⟨by simp[h1],fun i o' hi=>?_⟩
    cases i with
    | zero=>simp only[UV,Ur] at hi;subst hi;exact⟨a,rfl,ha⟩
    | succ i=>exact h2 i o' (by simpa using hi)
   ·cases h
structure Mid (c:Ctx)(κ0:Kap)(N:Nat)(s:St)(T:List Ent)(S:Nat->Bool)(a:Act)(w:World)(κ:Kap):Prop where
 w_eq:κ.w=w
 ext0:Ext κ0 κ
 rel:SRel c κ (cg S (T.map (·.δ)) 0 s.σ)
 left:Left c κ0.imm κ
 env:∀ x,ARel κ (cg S (T.map Ent.env) 0 s.E x) (a.tmps.getD x Go.undef)
 size:a.tmps.size=N
 defers:dY c κ a.defers
 fresh:∀ r,s.next<=r->κ.nm r≠none->∃ j e,S j=true/\T[j]? = some e/\((e.kd=1/\e.new=r)\/(e.kd=2/\r<e.top))
theorem oV {e:Ent}{x:Nat}:x∈bg e.env↔e.dst=some x:=by
 unfold Ent.env bg
 cases e.dst with
 | none=>simp
 | some d=>simp[eq_comm]
theorem GS {muts:List Nat}{ops:Array Oper}{o:Oper}{ao:AOper}{s si:St}{T:List Ent}{S S':Nat->Bool}{a:Act}{w:World}{κ:Kap}{e:Ent}{i:Nat}{K:Act->World->Prop}{Q:Exit->Act->World->Prop}
  (hc:yZ P muts N ops o=some ao) (hM:Mid c κ0 N s T S a w κ) (hi:T[i]? = some e) (hSi:S i=false) (hS':S' i=true) (hSS:∀ j,j≠i->S' j=S j) (hdst:e.dst=ao.dst)
  (hstep:pg P c.G si.E si.σ (cw si ao.guard) ao.op e)
  (hE:∀ x∈ao.slots,cg S (T.map Ent.env) 0 s.E x=si.E x) (hσ:∀ r∈e.reads,cg S (T.map (·.δ)) 0 s.σ r=si.σ r)
  (hoE:∀ j v r,j≠i->(T.map Ent.env)[j]? = some v->r∈bg v->r∈bg e.env->i<j->S j=false) (hoσ:∀ j v r,j≠i->(T.map (·.δ))[j]? = some v->r∈bg v->r∈bg e.δ->i<j->S j=false)
  (hnew:e.isM=true->s.next<=e.new) (hnone:e.kd≠0->∀ r,(e.kd=1->r=e.new)->e.new<=r->∀ j e',S j=true->T[j]? = some e'->¬ ((e'.kd=1/\e'.new=r)\/(e'.kd=2/\r<e'.top)))
  (hK:∀ a w κ,Mid c κ0 N s T S' a w κ->K a w) :
  if Region.wanted o (yielded ops a.tmps)=true then o.wpIn (FR ro) nf P a w K Q else K (a.put o.dst Go.undef) w:=by
 have hw:=hM.w_eq
 subst hw
 unfold yZ at hc
 split at hc
 ·rename_i g op hg hop
  split at hc
  ·rename_i hd
   cases hc
   simp only at hstep hdst
   let sS:St:=⟨[],[],0⟩
   have hEenv:cg S' (T.map Ent.env) 0 s.E=mR (cg S (T.map Ent.env) 0 s.E) e.env:=rC (by simp[hi]) hS' hSS hoE
   have hσenv:cg S' (T.map (·.δ)) 0 s.σ=mR (cg S (T.map (·.δ)) 0 s.σ) e.δ:=rC (by simp[hi]) hS' hSS hoσ
   have put':∀ (κ':Kap) (u:Value),(∀ x,ARel κ' (cg S (T.map Ent.env) 0 s.E x) (a.tmps.getD x Go.undef))->ARel κ' e.v u ->
     (∀ x,ARel κ' (cg S' (T.map Ent.env) 0 s.E x) ((a.put o.dst u).tmps.getD x Go.undef))/\(a.put o.dst u).tmps.size=N/\(a.put o.dst u).defers=a.defers:=by
    intro κ' u h1 h2
    rw[hEenv]
    cases hod:o.dst with
    | none=>
      have:e.env=[]:=by unfold Ent.env;rw[hdst,hod]
      rw[this]
      exact⟨h1,hM.size,rfl⟩
    | some d=>
      have hev:e.env=[(d,e.v)]:=by unfold Ent.env;rw[hdst,hod]
      rw[hev]
      rw[hod] at hd
      simp only[yx,decide_eq_true_eq] at hd
      refine⟨fun x=>?_,by simp[Act.put,hM.size],rfl⟩
      simp only[mR,Act.put]
      by_cases hx:x=d
      ·subst hx
       rw[if_pos rfl]
       have:(a.tmps.setIfInBounds x u).getD x Go.undef=u:=by simp[Uu,hM.size,hd]
       rw[this];exact h2
      ·rw[if_neg hx]
       have:(a.tmps.setIfInBounds d u).getD x Go.undef=a.tmps.getD x Go.undef:=by
        simp only[Uu,Vt]
        rw[if_neg (fun h=>hx h.symm)]
       rw[this];exact h1 x
   have hguard:∀ b,cw si g=some b->Region.wanted o (yielded ops a.tmps)=b:=by
    intro b hb
    have hcg:cw ⟨(match g with | some (i,_)=>[(i,si.E i)] | none=>[]),[],0⟩ g=some b:=by
     cases g with
     | none=>exact hb
     | some p=>
       obtain⟨x,y⟩:=p
       simp only[cw,St.E,look,if_true] at hb ⊢
       exact hb
    refine fF (κ:=κ) (a:=a) hg (fun x=>?_) hcg
    cases g with
    | none=>exact .any _
    | some p=>
      obtain⟨y,z⟩:=p
      simp only[St.E,look]
      by_cases hx:y=x
      ·subst hx
       rw[if_pos rfl]
       have:=hM.env y
       rw[hE y (by simp[AOper.slots])] at this
       exact this
      ·rw[if_neg hx];exact .any _
   have fresh0:∀ r,s.next<=r->κ.nm r≠none->∃ j e,S' j=true/\T[j]? = some e/\((e.kd=1/\e.new=r)\/(e.kd=2/\r<e.top)):=by
    intro r hr hn
    obtain⟨j,e',h1,h2,h3⟩:=hM.fresh r hr hn
    have hj:j≠i:=by rintro rfl;rw[hSi] at h1;cases h1
    exact⟨j,e',by rw[hSS j hj];exact h1,h2,h3⟩
   have slotsE:∀ x∈op.slots,cg S (T.map Ent.env) 0 s.E x=si.E x:=fun x hx=>hE x (by simp[AOper.slots,hx])
   rcases hstep with ⟨hb,hv,hδ,hrd,hm,_⟩ | ⟨hb,hst⟩
   ·rw[hguard _ hb,if_neg (by simp)]
    obtain⟨p1,p2,p3⟩:=put' κ Go.undef hM.env (by rw[hv];exact .pv _ _ .undef)
    exact hK _ _ κ ⟨rfl,hM.ext0,by rw[hσenv,hδ];exact hM.rel,hM.left,p1,p2,by rw[p3];exact hM.defers,fresh0⟩
   ·rw[hguard _ hb,if_pos rfl]
    generalize hmu:TL muts o.dst=mu at hop
    rcases JE hop with ⟨g,x,rfl,hz⟩ | ⟨t,rfl,ht⟩ | ⟨m,rfl,hmm⟩ | rfl
    ·exact hst.elim
    ·replace ht:=wk ht
     obtain⟨hrun,hδ,hrd,hm,_⟩:=hst
     rw[<- TOp.run_congr (E:=cg S (T.map Ent.env) 0 s.E) (E':=si.E) (fun x hx=>slotsE x hx)] at hrun
     obtain⟨u,h1,h2⟩:=pw (P:=P) (κ:=κ) (E:=cg S (T.map Ent.env) 0 s.E) (a:=a) ht (fun x _=>hM.env x) hrun
     obtain⟨p1,p2,p3⟩:=put' κ u hM.env h2
     refine eG h1 ?_
     exact hK _ _ κ ⟨rfl,hM.ext0,by rw[hσenv,hδ];exact hM.rel,hM.left,p1,p2,by rw[p3];exact hM.defers,fresh0⟩
    ·
      obtain⟨hrun,hrd,hm,htop,hkd⟩:=hst
      have hreads:m.reads (cg S (T.map Ent.env) 0 s.E)=m.reads si.E:=by
       have hh:∀ x∈m.slots,cg S (T.map Ent.env) 0 s.E x=si.E x:=fun x hx=>slotsE x hx
       cases m<;>simp only[MOp.reads,MOp.slots,UY] at hh ⊢
       case load g sz x=>rw[aA hh]
       case clear sz zs x=>rw[aA hh]
       case toStr x=>rw[aA hh]
       case xop o=>exact XOp.reads_congr hh
       case store sz x v=>rw[aA (x:=x) (fun i hi=>hh i (.inl hi))]
       case append mu e sz b x y=>rw[aA (x:=x) (fun i hi=>hh i (.inl hi)),aA (x:=y) (fun i hi=>hh i (.inr hi))]
       case sliceA n sz x l h=>rw[aA (x:=x) (fun i hi=>hh i (.inl (.inl hi)))]
      rw[<- MOp.run_congr (E:=cg S (T.map Ent.env) 0 s.E) (E':=si.E) (σ:=cg S (T.map (·.δ)) 0 s.σ) (σ':=si.σ) (fun x hx=>slotsE x hx) (fun r hr=>hσ r (by rw[hrd,<- hreads];exact hr))] at hrun
      have hn:m.makes=true->κ.nm e.new=none:=by
       intro hmk
       have hk1:e.kd=1:=by rw[hkd,dN,if_pos hmk]
       cases hk:κ.nm e.new with
       | none=>rfl
       | some d=>
         obtain⟨j,e',h1,h2,h3⟩:=hM.fresh e.new (hnew hm) (by rw[hk];simp)
         exact absurd h3 (hnone (by omega) e.new (fun _=>rfl) (UA _) j e' h1 h2)
      obtain⟨x,u,κ',h1,h2,h3,h4,h5,h6⟩:=nt (P:=P) hmm hM.rel hM.left.size hn (fun x _=>hM.env x) hrun
      obtain⟨p1,p2,p3⟩:=put' κ' u (fun x=>(hM.env x).ext h4.ext) h3
      have hMid:Mid c κ0 N s T S' (a.put o.dst u) κ'.w κ':=by
       refine⟨rfl,hM.ext0.trans h4.ext,?_,h4.left _ hM.left,p1,p2,by rw[p3];exact hM.defers.ext h4.ext,fun r hr hnn=>?_⟩
       ·rw[hσenv,<- eT];exact h5
       ·cases hmk:m.makes with
        | false=>rw[h6 hmk] at hnn;exact fresh0 r hr hnn
        | true=>
          by_cases hre:r=e.new
          ·exact⟨i,e,hS',hi,.inl ⟨by rw[hkd,dN,if_pos hmk],hre.symm⟩⟩
          ·refine fresh0 r hr fun hz=>hnn (h4.fresh r hre hz)
      rcases h2 with rfl | ⟨rfl,rfl⟩
      ·exact eG h1 (hK _ _ κ' hMid)
      ·exact uT h1 (hK _ _ κ' hMid)
    ·
      rcases rp P o.op with hb | ⟨af,xs,hce,hco⟩
      ·rw[hb] at hst;obtain⟨p,hcl,_⟩:=hst;simp[j4,AX.ev,dU] at hcl
      ·rw[hce] at hst slotsE
       ·obtain⟨p,hcl,hst⟩:=hst
        have hevf:af.ev (cg S (T.map Ent.env) 0 s.E)=af.ev si.E:=aA fun x hx=>slotsE x (by simp[AOp.slots,hx])
        have hevx:xs.map (·.ev (cg S (T.map Ent.env) 0 s.E))=xs.map (·.ev si.E):=iP fun x hx=>slotsE x (by simp only[AOp.slots,UY];exact .inr hx)
        rw[<- hevf] at hcl
        obtain⟨vs,us,args,hvs,hus,hv1,hu1,hxs,hrun0⟩:=wh (P:=P) (κ:=κ) (E:=cg S (T.map Ent.env) 0 s.E) (a:=a) hco (fun x=>hM.env x) hcl
        obtain⟨hxl,hxr⟩:=gY (κ:=κ) (E:=cg S (T.map Ent.env) 0 s.E) (a:=a) hxs (fun x _=>hM.env x)
        have hmid:∀ (i:Nat) (x:AV),(xs.map (·.ev (cg S (T.map Ent.env) 0 s.E)))[i]? = some x->ARel κ x ((args.map a.eval).getD i Go.undef):=by
         intro i x hx
         rw[aF];simpa using hxr i x hx
        have hall:=dc (κ:=κ) (by simp[hvs];exact hxl) (dc (κ:=κ) hvs hv1 hmid) hu1
        rcases hst with ⟨ps,r,hps,⟨hcal,hP⟩,hv,hδ,hrd,hm,_⟩ | ⟨sto,hsto,⟨hcal,hT⟩,htop,hm,hkd,hlive⟩
        rotate_left
        ·-- a call that is lent memory
         rw[<- hevx] at hT
         have hrun:=hrun0 hcal κ.w
         refine lu hrun ?_
         have hR:=hM.rel
         have hL:=hM.left
         have hreads:∀ r,si.σ r≠.none->cg S (T.map (·.δ)) 0 s.σ r=si.σ r:=fun r hr=>hσ r (hlive r hr)
         have hzz:∀ r,si.σ r≠.none->cg S (T.map (·.δ)) 0 s.σ r≠.none:=fun r hr=>by rw[hreads r hr];exact hr
         have hS0:SRel (cD κ si.σ c.G) κ si.σ:=by
          refine⟨fun r=>?_,fun r r' d d' b h1 h2=>hR.apart r r' d d' b (hzz r h1) (hzz r' h2),fun r d b h1 h2 h3=>.inr ⟨r,d,h1,h2,h3⟩,hR.immLt,hR.glob.lend fun b ⟨r,d,h1,h2,h3⟩=>hR.mine r d b (hzz r h1) h2 h3⟩
          by_cases hr:si.σ r = .none
          ·rw[hr];trivial
          ·rw[<- hreads r hr];exact hR.blk r
         have hfr:∀ r,e.new<=r->κ.nm r=none:=by
          intro r hr
          cases hk:κ.nm r with
          | none=>rfl
          | some d=>
            obtain⟨j,e',h1,h2,h3⟩:=hM.fresh r (U6 (hnew hm) hr) (by rw[hk];simp)
            exact absurd h3 (hnone (by omega) r (fun h=>by omega) hr j e' h1 h2)
         refine (hT κ _ (by rw[hsto];exact hS0) hfr (by simp[hvs,hus];simpa using hxl) hall).mono ?_
         rintro e1 w' ⟨u,v',κ',sto',next',rfl,rfl,he,hL1,hv1,hS1,hf1,rfl,hsto',rfl⟩
         rw[hsto] at hL1 hS1
         rw[hsto'] at hS1
         obtain⟨p1,p2,p3⟩:=put' κ' u (fun x=>(hM.env x).ext he) hv1
         have hlent:∀ b,(cD κ si.σ c.G).lent b->c.mine b:=by
          rintro b ⟨r,d,h1,h2,h3⟩
          exact hR.mine r d b (hzz r h1) h2 h3
         have hmine:∀ b,(cD κ si.σ c.G).mine b->c.mine b:=by
          intro b hb
          rcases hb with hb | hb
          ·exact .inl (U6 hL.size hb)
          ·exact hlent b hb
         have hupd:∀ r,r∈bg e.δ\/si.σ r≠.none->aD.upd (cg S (T.map (·.δ)) 0 s.σ) e.δ r=aD.upd si.σ e.δ r:=by
          intro r hr
          rw[eT,eT]
          exact o9 e.δ _ _ (hr.imp id (hreads r))
         have hout:∀ r,¬ (r∈bg e.δ\/si.σ r≠.none)->aD.upd (cg S (T.map (·.δ)) 0 s.σ) e.δ r=cg S (T.map (·.δ)) 0 s.σ r/\aD.upd si.σ e.δ r = .none:=by
          intro r hr
          have hk:r∉bg e.δ:=fun h=>hr (.inl h)
          have hz:si.σ r = .none:=Classical.byContradiction fun h=>hr (.inr h)
          rw[eT,eT,iZ _ _ hk,iZ _ _ hk]
          exact⟨rfl,hz⟩
         have hfar:∀ r d b,cg S (T.map (·.δ)) 0 s.σ r≠.none->¬ (r∈bg e.δ\/si.σ r≠.none)->κ.nm r=some d->d.block=some b->b<κ.w.heap.size/\¬ (cD κ si.σ c.G).lent b:=by
          intro r d b h1 h2 h3 h4
          refine⟨(hR.blk r).lt h1 h3 h4,?_⟩
          rintro⟨r',d',k1,k2,k3⟩
          have hne:r≠r':=by rintro rfl;exact h2 (.inr k1)
          exact hR.apart r r' d d' b h1 (hzz r' k1) hne h3 k2 h4 k3
         have hnm:∀ r d',cg S (T.map (·.δ)) 0 s.σ r≠.none->κ'.nm r=some d'->∃ d,κ.nm r=some d/\d=d':=by
          intro r d' h1 h2
          have hb:=hR.blk r
          generalize cg S (T.map (·.δ)) 0 s.σ r=B at hb h1
          cases B with
          | none=>exact absurd rfl h1
          | cells A f l=>
            rcases hb with ⟨_,_,q1⟩ | ⟨b,n,cs,q1,_⟩
            ·have:=he.nm r _ q1
             rw[this] at h2;cases h2
             exact⟨_,q1,rfl⟩
            have:=he.nm r _ q1
            rw[this] at h2;cases h2
            exact⟨_,q1,rfl⟩
          | tok A z=>
            rcases hb with q1 | ⟨b,n,cap,cs,q1,_⟩
            ·have:=he.nm r _ q1
             rw[this] at h2;cases h2
             exact⟨_,q1,rfl⟩
            have:=he.nm r _ q1
            rw[this] at h2;cases h2
            exact⟨_,q1,rfl⟩
          | mp l=>
            obtain⟨b,es,ck,q1,_⟩:=hb
            have:=he.nm r _ q1
            rw[this] at h2;cases h2
            exact⟨_,q1,rfl⟩
          | bts e l=>
            obtain⟨b,n,cs,fz,q1,_⟩:=hb
            have:=he.nm r _ q1
            rw[this] at h2;cases h2
            exact⟨_,q1,rfl⟩
         refine hK _ _ κ' ⟨rfl,hM.ext0.trans he,?_,⟨hL1.os.trans hL.os,hL1.tape.trans hL.tape,hL1.output.trans hL.output,U6 hL.size hL1.size,fun b hlt hl=>?_,fun b o hi=>?_⟩,p1,p2,by rw[p3];exact hM.defers.ext he,fun r hr hnn=>?_⟩
         ·rw[hσenv,<- eT]
          refine⟨fun r=>?_,fun r r' d d' b h1 h2 hne h3 h4 h5=>?_,fun r d b h1 h2 h3=>?_,hS1.immLt,hR.glob.back hlent hS1.glob hL1.block⟩
          ·by_cases hr:r∈bg e.δ\/si.σ r≠.none
           ·rw[hupd r hr];exact hS1.blk r
           ·rw[(hout r hr).1]
            refine (hR.blk r).keep he fun hz d b hd hbk=>?_
            obtain⟨q1,q2⟩:=hfar r d b hz hr hd hbk
            exact⟨hL1.block b q1 q2,fun o ho=>(hL1.imm b o ho).elim id fun h=>h.elim (fun h=>absurd q1 (Nat.not_lt.2 h)) (fun h=>absurd h q2)⟩
          ·by_cases hr:r∈bg e.δ\/si.σ r≠.none
           ·rw[hupd r hr] at h1
            by_cases hr':r'∈bg e.δ\/si.σ r'≠.none
            ·rw[hupd r' hr'] at h2
             exact hS1.apart r r' d d' b h1 h2 hne h3 h4 h5
            ·rw[(hout r' hr').1] at h2
             intro h6
             obtain⟨d2,q1,rfl⟩:=hnm r' d' h2 h4
             obtain⟨q3,q4⟩:=hfar r' _ b h2 hr' q1 h6
             rcases hS1.mine r d b h1 h3 h5 with h | h
             ·exact absurd q3 (Nat.not_lt.2 h)
             ·exact q4 h
           ·rw[(hout r hr).1] at h1
            obtain⟨d1,q1,rfl⟩:=hnm r d h1 h3
            obtain⟨q3,q4⟩:=hfar r _ b h1 hr q1 h5
            intro h6
            by_cases hr':r'∈bg e.δ\/si.σ r'≠.none
            ·rw[hupd r' hr'] at h2
             rcases hS1.mine r' d' b h2 h4 h6 with h | h
             ·exact absurd q3 (Nat.not_lt.2 h)
             ·exact q4 h
            ·rw[(hout r' hr').1] at h2
             obtain⟨d2,q1',rfl⟩:=hnm r' d' h2 h4
             exact hR.apart r r' _ _ b h1 h2 hne q1 q1' h5 h6
          ·by_cases hr:r∈bg e.δ\/si.σ r≠.none
           ·rw[hupd r hr] at h1
            exact hmine b (hS1.mine r d b h1 h2 h3)
           ·rw[(hout r hr).1] at h1
            obtain⟨d1,q1,rfl⟩:=hnm r d h1 h2
            exact hR.mine r _ b h1 q1 h3
         ·refine (hL1.block b (UG hlt hL.size) fun h=>?_).trans (hL.block b hlt hl)
          rcases hlent b h with h | h
          ·exact absurd hlt (Nat.not_lt.2 h)
          ·exact hl h
         ·rcases hL1.imm b o hi with h | h
          ·exact hL.imm b o h
          ·exact .inr (hmine b h)
         ·by_cases hk:κ.nm r=none
          ·refine⟨i,e,hS',hi,.inr ⟨hkd,?_⟩⟩
           rcases Vn r e.top with h | h
           ·exact h
           ·exact absurd (hf1 r h) hnn
          ·exact fresh0 r hr hk
        rw[<- hevx] at hps
        have hrun:=hrun0 hcal κ.w
        refine lu hrun ?_
        refine (hP κ.w κ.imm _ hM.rel.glob.ok hM.rel.immLt (by rw[ci hps];simp[hvs,hus];simpa using hxl) fun k x hx=>?_).mono ?_
        ·obtain⟨y,hy,hp⟩:=c8 hps k x hx
         exact bZ hp (hall k y hy)
        ·rintro e' w' ⟨u,imm',rfl,hbl,h1,h2,h3,h4⟩
         have hst:Rel c κ0 N ⟨[],[],s.next⟩ a κ.w κ->True:=fun _=>trivial
         have he:Ext κ ⟨w',κ.nm,imm'⟩:=by
          refine⟨h1,fun b o v hi hc=>?_,fun _ _ h=>h,fun b o ho _=>(hbl.block b (Uz.1 ho).1).trans ho⟩
          have hl:=World.block_lt_of_cell? κ.w _ hc
          exact (World.cell?_of_block (a:=⟨b,o,none⟩) (hbl.block b hl)).trans hc
         have hL:=hM.left
         have hR:=hM.rel
         obtain⟨p1,p2,p3⟩:=put' ⟨w',κ.nm,imm'⟩ u (fun x=>(hM.env x).ext he) (by rw[hv];exact .pv _ _ h4)
         refine hK _ _ ⟨w',κ.nm,imm'⟩ ⟨rfl,hM.ext0.trans he,?_,⟨hbl.os.trans hL.os,hbl.tape.trans hL.tape,hbl.output.trans hL.output,U6 hL.size hbl.size,fun b hlt hl=>?_,fun b o hi=>?_⟩,p1,p2,by rw[p3];exact hM.defers.ext he,fresh0⟩
         ·rw[hσenv,hδ]
          refine⟨fun r=>?_,hR.apart,hR.mine,h3,Uc he hR.glob fun g h1 _=>hbl.block g (UG h1 hL.size)⟩
          refine (hR.blk r).keep he fun hz d b hd hbk=>?_
          have hl:=(hR.blk r).lt hz hd hbk
          exact⟨hbl.block b hl,fun o ho=>(h2 b o ho).elim id (fun h=>by omega)⟩
         ·exact (hbl.block b (UG hlt hL.size)).trans (hL.block b hlt hl)
         ·rcases h2 b o hi with h | h
          ·exact hL.imm b o h
          ·exact .inr (.inl (U6 hL.size h))
  ·cases hc
 ·cases hc
end
section
variable {P:Program}{c:Ctx}{κ0:Kap}{N:Nat}{ro:Option Nat}{nf:Nat}
theorem Eu {md:Region.Mode}{e:Edge}(h:Region.binds .any e=true):Region.binds md e=true:=by
 unfold Region.binds at h ⊢
 split at h
 ·exact absurd h (by decide)
 ·exact absurd h (by decide)
 ·rfl
theorem lf {md:Region.Mode}{ops:Array Oper}{listed:Array Bool}{i:Nat}(h:i∈Region.ready md ops listed):∃ o,ops[i]? = some o/\i<ops.size/\listed.getD i true=false/\∀ j∈ba o,listed.getD j false=true:=by
 unfold Region.ready at h
 simp only[List.mem_filter,List.mem_range,UF,Bool.not_eq_true'] at h
 obtain⟨h1,h2,h3⟩:=h
 refine⟨ops[i],by simp[h1],h1,h2,fun j hj=>?_⟩
 have ho:ops[i]? = some ops[i]:=by simp[h1]
 rw[ho] at h3
 simp only[UD,Vg,Array.all_eq_true_iff_forall_mem,Bool.or_eq_true,Bool.not_eq_true'] at h3
 simp only[ba,U9,List.mem_filter] at hj
 obtain⟨e,⟨he,hb⟩,rfl⟩:=hj
 rcases h3 e (by simpa using he) with h | h
 ·rw[Eu hb] at h;cases h
 ·exact h
theorem pL {md:Region.Mode}{ops:Array Oper}{listed:Array Bool}(hsz:listed.size=ops.size)(hr:Region.ready md ops listed=[])(rank:Nat->Nat)
  (hlt:∀ (i:Nat) (o:Oper),ops[i]? = some o->∀ e∈o.after,Region.binds md e=true->e.on<ops.size/\rank e.on<rank i) :
  ∀ i,i<ops.size->listed.getD i false=true:=by
 have main:∀ n i,rank i=n->i<ops.size->listed.getD i false=true:=by
  intro n
  induction n using Nat.strongRecOn with
  | _ n ih=>
    intro i hin hi
    cases hL:listed.getD i false with
    | true=>rfl
    | false=>
      exfalso
      have hm:i∈Region.ready md ops listed:=by
       unfold Region.ready
       simp only[List.mem_filter,List.mem_range,UF,Bool.not_eq_true']
       have ho:ops[i]? = some ops[i]:=by simp[hi]
       refine⟨hi,?_,?_⟩
       ·have hi':i<listed.size:=by omega
        simp[Uu,hi'] at hL ⊢
        exact hL
       ·rw[ho]
        simp only[UD,Vg,Array.all_eq_true_iff_forall_mem,Bool.or_eq_true,Bool.not_eq_true']
        intro e he
        cases hb:Region.binds md e with
        | false=>exact .inl rfl
        | true=>
          right
          obtain⟨h1,h2⟩:=hlt i _ ho e he hb
          exact ih (rank e.on) (by omega) e.on rfl h1
      rw[hr] at hm;cases hm
 exact fun i hi=>main _ i rfl hi
theorem lg {md:Region.Mode}{ops:Array Oper}(h:uC md ops=true):∃ rank:Nat->Nat,∀ (i:Nat) (o:Oper),ops[i]? = some o->∀ e∈o.after,Region.binds md e=true->e.on<ops.size/\rank e.on<rank i:=by
 unfold uC at h
 simp only at h
 refine⟨fun i=>Q2 i (J3 ((mU md ops).zipIdx.map fun p=>(p.2,p.1)).length ((mU md ops).zipIdx.map fun p=>(p.2,p.1)) []),fun i o ho e he hb=>?_⟩
 have hm:(i,(o.after.toList.filter (Region.binds md)).map (·.on))∈(mU md ops).zipIdx.map fun p=>(p.2,p.1):=by
  refine U9.2 ⟨((o.after.toList.filter (Region.binds md)).map (·.on),i),Uw (i:=i) ?_,rfl⟩
  simp[List.getElem?_zipIdx,mU,ho]
 have h1:=(UP.1 h) _ hm
 have h2:=(UP.1 h1) e.on (U9.2 ⟨e,List.mem_filter.2 ⟨by simpa using he,hb⟩,rfl⟩)
 simp only[UF,decide_eq_true_eq] at h2
 refine⟨?_,h2.2⟩
 have:=h2.1
 simpa[mU] using this
theorem kE {ops:Array Oper}{id:Nat}{a:Act}{w:World}{Q:Exit->Act->World->Prop}
  (h:∀ md,md = .any\/Region.departs ops=true->wpAnyIn (FR ro) nf P md ops Q ops.size (Vh ops.size false) a { w with drawn:=w.drawn+1 }):(Code.region id ops true).wpIn (FR ro) nf P Q a w:=
 wpIn_region_draw fun t=>by
  unfold Region.schedule
  split
  ·exact wpAnyIn_sound ops.size t _ a _ (h .any (.inl rfl))
  ·rename_i hd
   have hdep:Region.departs ops=true:=by
    cases hx:Region.departs ops with
    | true=>rfl
    | false=>simp[hx] at hd
   exact wpAnyIn_sound ops.size (t / 2) _ a _ (h _ (.inr hdep))
theorem oj {k r:Nat}{ks rs:List Nat}(h:r∈ks):r+1∈(fN k ks rs).1:=by
 simp only[fN,UY,U9]
 exact .inr ⟨r,h,rfl⟩
theorem A3 {k r:Nat}{ks rs:List Nat}(h:r∈rs):r+1∈(fN k ks rs).2:=by
 simp only[fN,UY,U9]
 exact .inr ⟨r,h,rfl⟩
theorem BX {A:List (List Nat)}{i j:Nat}(hne:j≠i)(h:ER A i j=true):ER A j i=true:=by
 unfold ER at h ⊢
 by_cases h1:i<j
 ·rw[if_pos h1] at h
  rw[if_neg (by omega)];exact h
 ·rw[if_neg h1] at h
  rw[if_pos (by omega)];exact h
theorem pg.kds {P:Program}{G:Nat->List PV}{E:Nat->AV}{σ:aD}{wt:Option Bool}{op:AOp}{e:Ent}(h:pg P G E σ wt op e)(h0:e.kd≠0):e.kd=1\/e.kd=2:=by
 rcases h with ⟨_,_,_,_,h1,h2⟩ | ⟨_,h⟩
 ·exact absurd h2 h0
 ·cases op with
  | t o=>exact absurd h.2.2.2.2 h0
  | m o=>
    have h2:=h.2.2.2.2
    unfold dN at h2
    split at h2
    ·exact .inl h2
    ·exact absurd h2 h0
  | call f xs=>
    obtain⟨p,_,⟨ps,r,_,_,_,_,_,h1,h2⟩ | ⟨sto,_,_,h1,h2,h3,_⟩⟩:=h
    ·exact absurd h2 h0
    ·exact .inr h3
  | fz g x=>exact h.elim
theorem wI {muts:List Nat}{ops:Array Oper}{aops:List AOper}{F:St->Prop}{Q:Exit->Act->World->Prop}{k:Nat}{md:Region.Mode}
  (hc:EU P muts N ops ops.toList=some aops) (hlt:∀ (i:Nat) (o:Oper),ops[i]? = some o->∀ j∈ba o,j<i)
  (htail:∀ i,k<=i->i<ops.size->∀ j,j<i->((be (ops.toList.map ba) []).getD i []).contains j=true)
  (hrank:∃ rank:Nat->Nat,∀ (i:Nat) (o:Oper),ops[i]? = some o->∀ e∈o.after,Region.binds md e=true->e.on<ops.size/\rank e.on<rank i)
  (hQ:∀ s a w κ,Rel c κ0 N s a w κ->F s->Q .normal a w):∀ (fuel m:Nat) (listed:Array Bool) (s:St) (a:Act) (w:World) (κ:Kap),listed.size=ops.size->k<=m->(∀ j,j<ops.size->listed.getD j false=decide (j<m)) ->
   ops.size - m<=fuel->Rel c κ0 N s a w κ->dZ P c.G (aops.drop m) F s->wpAnyIn (FR ro) nf P md ops Q fuel listed a w:=by
 obtain⟨l1,l2⟩:=tF (P:=P) (N:=N) ops.toList aops hc
 have hn:aops.length=ops.size:=by rw[<- l1];simp
 have hget:∀ (listed:Array Bool) (i:Nat),listed.size=ops.size->i<ops.size->listed.getD i true=listed.getD i false:=by
  intro listed i h1 h2
  simp[Uu,show i<listed.size by omega]
 have done:∀ (m:Nat) (s:St) (a:Act) (w:World) (κ:Kap),ops.size<=m->Rel c κ0 N s a w κ->dZ P c.G (aops.drop m) F s->Q .normal a w:=by
  intro m s a w κ hm hR hv
  rw[List.drop_eq_nil_of_le (by omega)] at hv
  exact hQ s a w κ hR hv
 intro fuel
 induction fuel with
 | zero=>
   intro m listed s a w κ hsz hkm hl hf hR hv
   refine⟨?_,done m s a w κ (by omega) hR hv⟩
   cases hrd:Region.ready md ops listed with
   | nil=>rfl
   | cons i r=>
     obtain⟨o,ho,hi,hli,_⟩:=lf (i:=i) (by rw[hrd];simp)
     rw[hget listed i hsz hi,hl i hi] at hli
     simp at hli;omega
 | succ fuel ih=>
   intro m listed s a w κ hsz hkm hl hf hR hv
   refine⟨fun hr=>?_,fun i hi=>?_⟩
   ·obtain⟨rank,hrk⟩:=hrank
    have hall:=pL hsz hr rank hrk
    refine done m s a w κ ?_ hR hv
    rcases Vn m ops.size with h | h
    ·have:=hall m h
     rw[hl m h] at this
     simp at this
    ·exact h
   ·obtain⟨o,ho,hil,hli,hdeps⟩:=lf hi
    rw[hget listed i hsz hil,hl i hil] at hli
    have hmi:m<=i:=by simpa using hli
    have him:i=m:=by
     rcases Vn m i with h | h
     ·exfalso
      obtain⟨c1,c2⟩:=gu (S:=fun i=>listed.getD i false) (ops.toList.map ba) [] 0 rfl (fun i d hd hS j hj=>by
       simp only[UI] at hS
       simp only[UB,Uq] at hd
       obtain⟨o',ho',rfl⟩:=hd
       have ho'':ops[i]? = some o':=by simpa using ho'
       have h1:=hlt i o' ho'' j hj
       have h2:i<ops.size:=(Uz.1 ho'').1
       rw[hl i h2] at hS
       rw[hl j (by omega)]
       simp at hS ⊢;omega) (by simp) (by simp)
      have hlenA:(be (ops.toList.map ba) []).length=ops.size:=by rw[gv];simp
      have hA:(be (ops.toList.map ba) [])[i]? = some ((be (ops.toList.map ba) []).getD i []):=by
       simp[Uv,show i<(be (ops.toList.map ba) []).length by omega]
      have:=c2 i (ba o) (by simp[ho]) hdeps _ (by simpa using hA) m (by simpa using htail i (by omega) hil m h)
      rw[hl m (by omega)] at this
      simp at this
     ·omega
    subst him
    have hol:ops.toList[i]? = some o:=by simpa using ho
    obtain⟨ao,hao,hco⟩:=l2 i o hol
    have hdrop:aops.drop i=ao::aops.drop (i+1):=by
     have hlt':i<aops.length:=by omega
     rw[List.drop_eq_getElem_cons hlt']
     congr 1
     exact (Up.1 hao).2
    rw[hdrop] at hv
    have next:∀ s a w κ,Rel c κ0 N s a w κ->dZ P c.G (aops.drop (i+1)) F s->wpAnyIn (FR ro) nf P md ops Q fuel (listed.setIfInBounds i true) a w:=by
     intro s a w κ hR hv
     refine ih (i+1) (listed.setIfInBounds i true) s a w κ (by simp[hsz]) (by omega) (fun j hj=>?_) (by omega) hR hv
     simp only[Uu,Vt]
     by_cases hji:i=j
     ·subst hji;simp[show i<listed.size by omega]
     ·rw[if_neg hji,<- Uu,hl j hj]
      have:decide (j<i)=decide (j<i+1):=by
       rw[decide_eq_decide];omega
      exact this
    unfold yZ at hco
    split at hco
    ·rename_i g op hg hop
     split at hco
     ·rename_i hd
      cases hco
      simp only[dZ,aV] at hv
      split at hv
      ·rename_i b hb
       have hwant:=fF (ops:=ops) (o:=o) hg hR.env hb
       unfold wpOpIn
       rw[ho]
       simp only
       rw[hwant]
       cases b with
       | true=>
         rw[if_pos rfl]
         exact nq hop hR hd hv next
       | false=>
         rw[if_neg (by simp)]
         refine⟨fun _ _=>trivial,?_⟩
         exact next _ _ w κ (hR.put (κ':=κ) (w':=w) hd (.pv _ _ .undef)) hv
      ·exact hv.elim
     ·cases hco
    ·cases hco
theorem nK {muts:List Nat}{ops:Array Oper}{aops:List AOper}{id:Nat}{F:St->Prop}{Q:Exit->Act->World->Prop}{s:St}{a:Act}{w:World}{κ:Kap}
  {k:Nat} (hc:EU P muts N ops ops.toList=some aops) (hok:DK ops.toList aops k=true) (hk:k<=aops.length) (hm:sP ops=true) (hR:Rel c κ0 N s a w κ)
  (hv:vcD P c.G (be (ops.toList.map ba) []) (dZ P c.G (aops.drop k) F) (aops.take k) [] s) (hQ:∀ s a w κ,Rel c κ0 N s a w κ->F s->Q .normal a w):(Code.region id ops true).wpIn (FR ro) nf P Q a w:=by
 obtain⟨T,s',hT,hnames,hF⟩:=mV (aops.take k) [] s hv
 simp only[List.nil_append] at hnames
 obtain⟨t1,t2,t3,t4,t5,t6,t7⟩:=QE (aops.take k) s T s' hT
 obtain⟨l1,l2⟩:=tF (P:=P) (N:=N) ops.toList aops hc
 simp only[DK,UF] at hok
 obtain⟨⟨hslots,hback⟩,htl⟩:=hok
 have hTk:T.length=k:=by rw[<- t1];simp;omega
 have hlt:∀ (i:Nat) (o:Oper),ops[i]? = some o->∀ j∈ba o,j<i:=by
  intro i o ho j hj
  have hd:((ops.toList.map ba).zipIdx)[i]? = some (ba o,i):=by simp[List.getElem?_zipIdx,ho]
  have:=(UP.1 hback) _ (Uw hd)
  have:=(UP.1 this) j hj
  simpa using this
 have hn:ops.size=aops.length:=by rw[<- l1];simp
 have htail:∀ i,k<=i->i<ops.size->∀ j,j<i->((be (ops.toList.map ba) []).getD i []).contains j=true:=by
  intro i h1 h2 j hj
  have h3:=(UP.1 htl) i (by simpa using h2)
  simp only[Bool.or_eq_true,decide_eq_true_eq] at h3
  rcases h3 with h3 | h3
  ·omega
  ·exact (UP.1 h3) j (by simpa using hj)
 refine kE fun md hmd=>?_
 have hrank:∃ rank:Nat->Nat,∀ (i:Nat) (o:Oper),ops[i]? = some o->∀ e∈o.after,Region.binds md e=true->e.on<ops.size/\rank e.on<rank i:=by
  have hany:∃ rank:Nat->Nat,∀ (i:Nat) (o:Oper),ops[i]? = some o->∀ e∈o.after,Region.binds .any e=true->e.on<ops.size/\rank e.on<rank i:=by
   refine⟨fun i=>i,fun i o ho e he hb=>?_⟩
   have h1:=hlt i o ho e.on (by
    simp only[ba,U9,List.mem_filter]
    exact⟨e,⟨by simpa using he,hb⟩,rfl⟩)
   have h2:i<ops.size:=(Uz.1 ho).1
   exact⟨by omega,h1⟩
  rcases hmd with rfl | hdep
  ·exact hany
  ·simp only[sP,hdep,Bool.not_true,Bool.false_or,UF] at hm
   cases md with
   | text=>exact lg hm.1
   | gc=>exact lg hm.2
   | any=>exact hany
 have key:∀ (fuel:Nat) (listed:Array Bool) (a:Act) (w:World) (κ:Kap),listed.size=ops.size ->
   (∀ i d,(ops.toList.map ba)[i]? = some d->listed.getD i false=true->∀ j∈d,listed.getD j false=true) ->
   (((UZ k).filter fun i=>!listed.getD i false).length+(ops.size - k)<=fuel)->(∀ i,k<=i->listed.getD i false=false) ->
   Mid c κ0 N s T (fun i=>listed.getD i false) a w κ->wpAnyIn (FR ro) nf P md ops Q fuel listed a w:=by
  have fin:∀ (fuel:Nat) (listed:Array Bool) (a:Act) (w:World) (κ:Kap),listed.size=ops.size->ops.size - k<=fuel->(∀ i,i<k->listed.getD i false=true)->(∀ i,k<=i->listed.getD i false=false) ->
    Mid c κ0 N s T (fun i=>listed.getD i false) a w κ->wpAnyIn (FR ro) nf P md ops Q fuel listed a w:=by
   intro fuel listed a w κ hsz hf hall hno hM
   refine wI (F:=F) hc hlt htail hrank hQ fuel k listed s' a w κ hsz (UA _) (fun j hj=>?_) hf ⟨hM.w_eq,hM.ext0,?_,hM.left,fun x=>?_,hM.size,hM.defers,fun r hr=>?_⟩ hF
   ·by_cases h:j<k
    ·rw[hall j h];simp[h]
    ·rw[hno j (by omega)];simp[h]
   ·have e:s'.σ=cg (fun i=>listed.getD i false) (T.map (·.δ)) 0 s.σ:=by
     rw[t3,pf (fun i=>listed.getD i false)]
     intro i hi
     rw[UI]
     exact hall i (by simp at hi;omega)
    rw[e];exact hM.rel
   ·have e:s'.E=cg (fun i=>listed.getD i false) (T.map Ent.env) 0 s.E:=by
     rw[t2,pf (fun i=>listed.getD i false)]
     intro i hi
     rw[UI]
     exact hall i (by simp at hi;omega)
    rw[e];exact hM.env x
   ·cases hk:κ.nm r with
    | none=>rfl
    | some d=>
      obtain⟨j,e,h1,h2,h3⟩:=hM.fresh r (by omega) (by rw[hk];simp)
      obtain⟨_,_,_,sj,_,_,hst⟩:=t7 j e h2
      have htp:=hst.tops
      rcases h3 with ⟨h3,h4⟩ | ⟨h3,h4⟩
      ·have h5:=htp.2.1 (by omega)
       have h6:=htp.2.2 h3
       have:=(t5 j e h2 h5).2
       omega
      ·have h5:=htp.2.1 (by omega)
       have:=(t5 j e h2 h5).2
       omega
  intro fuel
  induction fuel with
  | zero=>
    intro listed a w κ hsz hcl hf hno hM
    refine fin 0 listed a w κ hsz (by omega) (fun i hi=>?_) hno hM
    have h0:((UZ k).filter fun i=>!listed.getD i false)=[]:=List.eq_nil_of_length_eq_zero (by omega)
    cases hL:listed.getD i false with
    | true=>rfl
    | false=>
      have:i∈(UZ k).filter fun i=>!listed.getD i false:=List.mem_filter.2 ⟨List.mem_range.2 hi,by rw[hL];rfl⟩
      rw[h0] at this;cases this
  | succ fuel ih=>
    intro listed a w κ hsz hcl hf hno hM
    by_cases hallk:∀ i,i<k->listed.getD i false=true
    ·exact fin _ listed a w κ hsz (by omega) hallk hno hM
    obtain⟨u0,hu0,hu1⟩:∃ i,i<k/\listed.getD i false=false:=by
     refine Classical.byContradiction fun h=>hallk fun i hi=>?_
     cases hL:listed.getD i false with
     | true=>rfl
     | false=>exact absurd ⟨i,hi,hL⟩ h
    refine⟨fun hr=>?_,fun i hi=>?_⟩
    ·obtain⟨rank,hrk⟩:=hrank
     have:=pL hsz hr rank hrk u0 (by omega)
     rw[hu1] at this;cases this
    obtain⟨o,ho,hil,hl,hdeps⟩:=lf hi
    have hi':i<listed.size:=by omega
    have hik:i<k:=by
     rcases Vn i k with h | h
     ·exact h
     ·exfalso
      obtain⟨c1,c2⟩:=gu (S:=fun i=>listed.getD i false) (ops.toList.map ba) [] 0 rfl (fun i d hd hS=>hcl i d hd (by simpa using hS)) (by simp) (by simp)
      have hlenA:(be (ops.toList.map ba) []).length=ops.size:=by rw[gv];simp
      have hA:(be (ops.toList.map ba) [])[i]? = some ((be (ops.toList.map ba) []).getD i []):=by
       simp[Uv,show i<(be (ops.toList.map ba) []).length by omega]
      have:=c2 i (ba o) (by simp[ho]) hdeps _ (by simpa using hA) u0 (by simpa using htail i h hil u0 (by omega))
      rw[hu1] at this;cases this
    have hSi:listed.getD i false=false:=by
     simp[Uu,hi'] at hl ⊢;exact hl
    have hol:ops.toList[i]? = some o:=by simpa using ho
    obtain⟨ao,hao,hco⟩:=l2 i o hol
    have hTi:T[i]? = some T[i]:=List.getElem?_eq_getElem (by omega)
    obtain⟨ao',hao',hdst,si,e1,e2,hstep⟩:=t7 i _ hTi
    rw[UT,if_pos hik,hao] at hao';cases hao'
    have hbefore:∀ j,ER (be (ops.toList.map ba) []) j i=true->j≠i->(j<i/\listed.getD j false=true)\/(i<j/\listed.getD j false=false):=by
     intro j hord hne
     obtain⟨c1,c2⟩:=gu (S:=fun i=>listed.getD i false) (ops.toList.map ba) [] 0 rfl (fun i d hd hS=>hcl i d hd (by simpa using hS)) (by simp) (by simp)
     have hlenA:(be (ops.toList.map ba) []).length=ops.size:=by rw[gv];simp
     unfold ER at hord
     split at hord
     ·rename_i hji
      refine .inl ⟨hji,?_⟩
      have hA:(be (ops.toList.map ba) [])[i]? = some ((be (ops.toList.map ba) []).getD i []):=by
       simp[Uv,show i<(be (ops.toList.map ba) []).length by omega]
      exact c2 i (ba o) (by simp[ho]) hdeps _ (by simpa using hA) j (by simpa using hord)
     ·rename_i hji
      have hij:i<j:=by omega
      refine .inr ⟨hij,?_⟩
      cases hL:listed.getD j false with
      | false=>rfl
      | true=>
        exfalso
        by_cases hjn:j<ops.size
        ·have hA:(be (ops.toList.map ba) [])[j]? = some ((be (ops.toList.map ba) []).getD j []):=by
          simp[Uv,show j<(be (ops.toList.map ba) []).length by omega]
         have:=c1 j _ hA hL i (by simpa using hord)
         rw[hSi] at this;cases this
        ·rw[Uu,Array.getElem?_eq_none (by omega)] at hL
         cases hL
    have hslotPair:∀ (j:Nat) (e:Ent),T[j]? = some e->∃ ao,aops[j]? = some ao/\e.dst=ao.dst/\(kX (aops.take k))[j]? = some (ao.dst.toList,ao.slots):=by
     intro j e hj
     obtain⟨ao,h1,h2,_⟩:=t7 j e hj
     have hjk:j<k:=by have:=(Up.1 hj).1;omega
     refine⟨ao,by rw[UT,if_pos hjk] at h1;exact h1,h2,?_⟩
     simp only[kX,UB,h1,UD]
    have hE:∀ x∈ao.slots,cg (fun i=>listed.getD i false) (T.map Ent.env) 0 s.E x=si.E x:=by
     intro x hx
     rw[e1]
     refine rD hSi fun j v hne hj hkv=>?_
     simp only[UB,Uq] at hj
     obtain⟨e,he,rfl⟩:=hj
     obtain⟨aj,a1,a2,a3⟩:=hslotPair j e he
     obtain⟨ai,b1,b2,b3⟩:=hslotPair i _ hTi
     rw[hao] at b1;cases b1
     refine hbefore j (np hslots a3 b3 hne (x:=x) ?_ (.inl hx)) hne
     have:=oV.1 hkv
     rw[a2] at this
     simp[this]
    have hσ:∀ r∈T[i].reads,cg (fun i=>listed.getD i false) (T.map (·.δ)) 0 s.σ r=si.σ r:=by
     intro r hr
     rw[e2]
     refine rD hSi fun j v hne hj hkv=>?_
     simp only[UB,Uq] at hj
     obtain⟨e,he,rfl⟩:=hj
     exact hbefore j (np hnames (p:=fN e.kd (bg e.δ) e.reads) (q:=fN T[i].kd (bg T[i].δ) T[i].reads) (x:=r+1) (by simp[he]) (by simp[hTi]) hne (oj hkv) (.inl (A3 hr))) hne
    have hgetset:∀ j,(listed.setIfInBounds i true).getD j false=if j=i then true else listed.getD j false:=by
     intro j
     simp only[Uu,Vt]
     by_cases hj:i=j
     ·subst hj;simp[hi']
     ·rw[if_neg hj,if_neg (fun h=>hj h.symm)]
    have step:=GS (P:=P) (ro:=ro) (nf:=nf) (s:=s) (si:=si) (T:=T) (S:=fun i=>listed.getD i false) (S':=fun j=>(listed.setIfInBounds i true).getD j false) (e:=T[i]) (i:=i) (K:=wpAnyIn (FR ro) nf P md ops Q fuel (listed.setIfInBounds i true)) (Q:=Q)
     hco hM hTi hSi (by simp only[hgetset];simp) (fun j hj=>by simp only[hgetset,if_neg hj]) hdst hstep hE hσ
     (fun j v r hne hj hkv hke hij=>by
      simp only[UB,Uq] at hj
      obtain⟨e,he,rfl⟩:=hj
      obtain⟨aj,a1,a2,a3⟩:=hslotPair j e he
      obtain⟨ai,b1,b2,b3⟩:=hslotPair i _ hTi
      have h1:=oV.1 hkv
      have h2:=oV.1 hke
      rw[a2] at h1;rw[b2] at h2
      rcases hbefore j (np hslots a3 b3 hne (x:=r) (by simp[h1]) (.inr (by simp[h2]))) hne with ⟨h,_⟩ | ⟨_,h⟩
      ·omega
      ·exact h)
     (fun j v r hne hj hkv hke hij=>by
      simp only[UB,Uq] at hj
      obtain⟨e,he,rfl⟩:=hj
      rcases hbefore j (np hnames (p:=fN e.kd (bg e.δ) e.reads) (q:=fN T[i].kd (bg T[i].δ) T[i].reads) (x:=r+1) (by simp[he]) (by simp[hTi]) hne (oj hkv) (.inr (oj hke))) hne with ⟨h,_⟩ | ⟨_,h⟩
      ·omega
      ·exact h)
     (fun hm=>(t5 i _ hTi hm).1)
     (fun hkd r hr hge j e' hSj he'=>by
      obtain⟨_,_,_,sj,_,_,hst'⟩:=t7 j e' he'
      have htp':=hst'.tops
      have htp:=hstep.tops
      have hmi:=htp.2.1 hkd
      have hjne:j≠i:=by
       rintro rfl
       rw[hSi] at hSj;cases hSj
      have before:j<i->e'.isM=true->e'.top<=T[i].new:=fun h hm'=>t6 j i e' _ h he' hTi hm' hmi
      have after:i<j->e'.isM=true->T[i].top<=e'.new:=fun h hm'=>t6 i j _ e' h hTi he' hmi hm'
      have ordered:(T[i].kd=2/\e'.kd≠0)\/e'.kd=2->j<i:=by
       intro h
       have hpair:(fN e'.kd (bg e'.δ) e'.reads,j)≠(fN e'.kd (bg e'.δ) e'.reads,i):=fun h=>hjne (Prod.mk.inj h).2
       have hTj:(T.map fun e=>fN e.kd (bg e.δ) e.reads)[j]? = some (fN e'.kd (bg e'.δ) e'.reads):=by simp[he']
       have hTi':(T.map fun e=>fN e.kd (bg e.δ) e.reads)[i]? = some (fN T[i].kd (bg T[i].δ) T[i].reads):=by simp[hTi]
       have k0:T[i].kd=1\/T[i].kd=2:=hstep.kds hkd
       have ho:ER (be (ops.toList.map ba) []) j i=true\/ER (be (ops.toList.map ba) []) i j=true:=by
        rcases h with ⟨h,h'⟩ | h
        ·have k1:e'.kd=1\/e'.kd=2:=hst'.kds h'
         refine .inr (np hnames hTi' hTj (fun h=>hjne h.symm) (x:=0) (by simp[fN,h]) ?_)
         rcases k1 with k1 | k1
         ·exact .inl (by simp[fN,k1])
         ·exact .inr (by simp[fN,k1])
        ·refine .inl (np hnames hTj hTi' hjne (x:=0) (by simp[fN,h]) ?_)
         rcases k0 with k0 | k0
         ·exact .inl (by simp[fN,k0])
         ·exact .inr (by simp[fN,k0])
       have ho':ER (be (ops.toList.map ba) []) j i=true:=by
        rcases ho with ho | ho
        ·exact ho
        ·exact BX hjne ho
       rcases hbefore j ho' hjne with ⟨h,_⟩ | ⟨_,h⟩
       ·exact h
       ·rw[hSj] at h;cases h
      rintro (⟨h1,h2⟩ | ⟨h1,h2⟩)
      ·have hm':=htp'.2.1 (by omega)
       have ht':=htp'.2.2 h1
       rcases Nat.lt_or_gt_of_ne hjne with h | h
       ·have:=before h hm';omega
       ·rcases hstep.kds hkd with k0 | k0
        ·have:=after h hm'
         have:=htp.2.2 k0
         have:=hr k0
         omega
        ·have:=ordered (.inl ⟨k0,by omega⟩);omega
      ·have hm':=htp'.2.1 (by omega)
       have:=ordered (.inr h1)
       have:=before this hm'
       omega)
     (fun a w κ hM'=>ih (listed.setIfInBounds i true) a w κ (by simp[hsz]) (fun k d hd hk j hj=>by
       rw[hgetset] at hk ⊢
       by_cases hki:k=i
       ·subst hki
        simp only[UB,hol,UD,Ur] at hd
        subst hd
        rw[hdeps j hj];simp
       ·rw[if_neg hki] at hk
        rw[hcl k d hd hk j hj];simp) (by
       have hsub:((UZ k).filter fun q=>!(listed.setIfInBounds i true).getD q false).length<((UZ k).filter fun q=>!listed.getD q false).length:=by
        have:((UZ k).filter fun q=>!(listed.setIfInBounds i true).getD q false)=((UZ k).filter fun q=>!listed.getD q false).filter fun q=>decide (q≠i):=by
         rw[List.filter_filter]
         apply List.filter_congr
         intro q _
         rw[hgetset]
         by_cases hk:q=i<;>simp[hk]
        rw[this]
        refine List.length_filter_lt_length_iff_exists.2 ⟨i,List.mem_filter.2 ⟨List.mem_range.2 hik,by rw[hSi];rfl⟩,by simp⟩
       omega) (fun q hq=>by rw[hgetset,if_neg (by omega)];exact hno q hq) hM')
    unfold wpOpIn
    rw[ho]
    simp only
    split
    ·rename_i hw
     rw[if_pos hw] at step
     exact step
    ·rename_i hw
     rw[if_neg hw] at step
     exact⟨fun _ _=>trivial,step⟩
 have hfalse:∀ j,(Vh ops.size false).getD j false=false:=by
  intro j
  simp only[Uu,Array.getElem?_replicate]
  split<;>rfl
 have hw:=hR.w_eq
 subst hw
 refine key ops.size (Vh ops.size false) a _ ⟨{ κ.w with drawn:=κ.w.drawn+1 },κ.nm,κ.imm⟩ (by simp) (fun i d _ h=>by rw[hfalse] at h;cases h) (by
  have:=List.length_filter_le (fun i=>!(Vh ops.size false).getD i false) (UZ k)
  simp only[List.length_range] at this
  omega) (fun i _=>hfalse i) ?_
 have hno:∀ {β:Type} (W:List (List (Nat×β))) (k:Nat) (g:Nat->β),cg (fun i=>(Vh ops.size false).getD i false) W k g=g:=by
  intro β W
  induction W with
  | nil=>intros;rfl
  | cons x y ih=>intro k g;rw[cg,hfalse];simpa using ih (k+1) g
 have he:Ext κ ⟨{ κ.w with drawn:=κ.w.drawn+1 },κ.nm,κ.imm⟩:=⟨fun _ _ h=>h,fun _ _ _ _ h=>h,fun _ _ h=>h,fun _ _ h _=>h⟩
 have hS:=hR.rel
 have hL:=hR.left
 refine⟨rfl,hR.ext0.trans he,?_,⟨hL.os,hL.tape,hL.output,hL.size,hL.block,hL.imm⟩,fun x=>?_,hR.size,hR.defers.ext he,fun r hr h=>absurd (hR.fresh r hr) h⟩
 ·rw[hno]
  refine⟨fun r=>(hS.blk r).keep he fun _ _ _ _ _=>⟨rfl,fun _ h=>h⟩,hS.apart,hS.mine,hS.immLt,Uc he hS.glob fun _ _ _=>rfl⟩
 ·rw[hno];exact (hR.env x).ext he
end
inductive ACode where
 | skip
 | ops (l:List AOper) (keep:List Nat)
 | draw (A:List (List Nat)) (l l2:List AOper) (keep:List Nat)
 | seq (a b:ACode)
 | cond (x:AX) (a b:ACode)
 | block (id:Nat) (b:ACode)
 | loop (keep:List Nat) (b:ACode)
 | range (f:AX) (ps:List Nat) (keep:List Nat) (a b:ACode)
 | exit (id:Nat)
 | ret
inductive AExit where
 | norm
 | exit (id:Nat)
 | ret
def clip0 (keep:List Nat)(s:St):St:=⟨keep.map fun i=>(i,s.E i),s.sto,s.next⟩
def uZ (k:Nat):List Nat->Bool
 | []=>false
 | j::r=>if j=k then true else uZ k r
def yH (k:Nat)(b:Blk)(r:List (Nat×Blk)):Bool->List (Nat×Blk)
 | true=>r
 | false=>(k,b)::r
def jT:List Nat->List (Nat×Blk)->List (Nat×Blk)
 | _,[]=>[]
 | seen,p::r=>yH p.1 p.2 (jT (p.1::seen) r) (uZ p.1 seen)
theorem qw (k j:Nat)(r:List Nat):uZ k (j::r)=if j=k then true else uZ k r:=rfl
theorem lK:∀ (l:List (Nat×Blk)) (seen:List Nat) (r:Nat),uZ r seen=false->lookB r (jT seen l)=lookB r l
 | [],seen,r,_=>rfl
 | p::q,seen,r,h=>by
   simp only[jT]
   by_cases hp:p.1=r
   ·rw[hp,h]
    simp only[yH,lookB,if_pos hp,if_true]
   ·have hr:uZ r (p.1::seen)=false:=by rw[qw,if_neg hp];exact h
    have:=lK q (p.1::seen) r hr
    cases uZ p.1 seen<;>simp only[yH,lookB,if_neg hp,this]
def clip (keep:List Nat)(s:St):St:=⟨keep.map fun i=>(i,s.E i),jT [] s.sto,s.next⟩
def bT (acc:List Nat):List Nat->List Nat
 | []=>acc
 | n::r=>bT (if acc.contains n then acc else acc++[n]) r
mutual
def AV.names:AV->List Nat
 | .ptr r _=>[r]
 | .row r _ _ _=>[r]
 | .olist r _ _=>[r]
 | .mp r=>[r]
 | .agg cs=>AV.namesL cs
 | .tup cs=>AV.namesL cs
 | .clo _ fs cs=>AV.namesL fs++AV.namesL cs
 | _=>[]
def AV.namesL:List AV->List Nat
 | []=>[]
 | x::r=>AV.names x++AV.namesL r
end
def Blk.names:Blk->List Nat
 | .cells _ _ l=>AV.namesL l
 | _=>[]
def gA (m0:Nat)(sto:List (Nat×Blk)):Nat->List Nat->List Nat
 | 0,acc=>acc
 | k+1,acc=>gA m0 sto k (bT acc ((acc.flatMap fun r=>(lookB r sto).names).filter fun r=>decide (m0<=r)))
def yu (m0:Nat)(sto:List (Nat×Blk)):List Nat:=(UZ m0).flatMap fun r=>(lookB r sto).names
def O5 (m0:Nat)(keep:List Nat)(s:St):List Nat:=
 gA m0 s.sto s.sto.length (bT [] (((keep.flatMap fun i=>(s.E i).names)++yu m0 s.sto).filter fun r=>decide (m0<=r)))
def Jm (x:Nat):List Nat->Nat->Option Nat
 | [],_=>none
 | y::r,k=>if y=x then some k else Jm x r (k+1)
def eo (m0:Nat)(os:List Nat)(r:Nat):Option Nat:=if r<m0 then some r else Jm r os m0
mutual
def AV.ren (f:Nat->Option Nat):AV->AV
 | .ptr r o=>match f r with
   | some r'=>.ptr r' o
   | none=>.any
 | .row r a b c=>match f r with
   | some r'=>.row r' a b c
   | none=>.any
 | .olist r a l=>match f r with
   | some r'=>.olist r' a l
   | none=>.pv (.list l)
 | .mp r=>match f r with
   | some r'=>.mp r'
   | none=>.any
 | .agg cs=>.agg (AV.renL f cs)
 | .tup cs=>.tup (AV.renL f cs)
 | .clo g fs cs=>.clo g (AV.renL f fs) (AV.renL f cs)
 | .pv p=>.pv p
 | .any=>.any
def AV.renL (f:Nat->Option Nat):List AV->List AV
 | []=>[]
 | x::r=>AV.ren f x::AV.renL f r
end
def Blk.ren (f:Nat->Option Nat):Blk->Blk
 | .cells T b l=>.cells T b (AV.renL f l)
 | x=>x
def fl (m0:Nat)(f:Nat->Option Nat)(sto:List (Nat×Blk)):List Nat->Nat->List (Nat×Blk)
 | [],_=>[]
 | r::q,k=>(k,(lookB r sto).ren f)::fl m0 f sto q (k+1)
def norm (m0:Nat)(keep:List Nat)(s:St):St:=
 let os:=O5 m0 keep s
 let f:=eo m0 os
 ⟨keep.map fun i=>(i,(s.E i).ren f),fl m0 f s.sto (UZ m0++os) 0,m0+os.length⟩
def sK (Q:AExit->St->Prop)(keep:List Nat)(s:St):Prop:=Q .norm (clip keep s)
def zF (F:St->Prop)(Q:AExit->St->Prop):AExit->St->Prop
 | .norm,s=>F s
 | .exit i,s=>Q (.exit i) s
 | .ret,s=>Q .ret s
def gF (id:Nat)(Q:AExit->St->Prop):AExit->St->Prop
 | .norm,s=>Q .norm s
 | .exit i,s=>if i=id then Q .norm s else Q (.exit i) s
 | .ret,s=>Q .ret s
def TB (m0:Nat)(I:Nat->St->Prop)(n:Nat)(Q:AExit->St->Prop):AExit->St->Prop
 | .norm,s=>∃ n' s',n'<n/\Wk m0 s s'/\I n' s'
 | .exit i,s=>∃ s',Wk m0 s s'/\Q (.exit i) s'
 | .ret,s=>Q .ret s
def RZ (body:(AExit->St->Prop)->St->Prop)(m0:Nat)(keep:List Nat)(Q:AExit->St->Prop)(s:St):Prop:=
 ∃ I:Nat->St->Prop,(∃ n s',Wk m0 s s'/\I n s')/\∀ n s,I n s->body (TB m0 I n Q) s
def p5 (v:AV)(F G:St->Prop)(s:St):Prop:=
 match v with
 | .pv (.bool true)=>F s
 | .pv (.bool false)=>G s
 | _=>False
def ifB (b:Bool)(F G:St->Prop)(s:St):Prop:=
 match b with
 | true=>F s
 | false=>G s
def SP (P:Program)(G:Nat->List PV)(g:Nat)(lb:List PV)(xs:List (List PV)):Prop:=
 ca P g=true/\∀ (w:World) (imm:Nat->Nat->Prop) (lbv:Array Value) (l:Nat) (J:Nat->(Nat->Nat->Prop)->World->Prop) (Jx:World->Prop) (O:Nat->Nat->Prop),
  cZ G w imm->(∀ b o,imm b o->b<w.heap.size/\¬ O b o)->lbv.size=lb.length->(∀ (i:Nat) (x:PV),lb[i]? = some x->PRel w imm x (lbv.getD i Go.undef)) ->
  (∀ i O W W',J i O W->Below W.heap.size W W'->J i O W')->(∀ i O W b o,J i O W->O b o->b<W.heap.size) ->
  (∀ (m i:Nat) (x:List PV) (O:Nat->Nat->Prop) (W:World) (vals:Array Value) (imm' kp:Nat->Nat->Prop),J i O W->xs[i]? = some x->vals.size=x.length ->
   (∀ (j:Nat) (y:PV),x[j]? = some y->PRel W imm' y (vals.getD j Go.undef))->(∀ b o,imm' b o->imm b o\/w.heap.size<=b)->(∀ b o,imm' b o->kp b o)->(∀ b o,kp b o->b<W.heap.size/\¬ O b o) ->
   YieldAt Fence.wide m P l vals W fun e W'=>
    (e = .returned (.bool true)/\(∃ O',J (i+1) O' W'/\∀ b o,kp b o->¬ O' b o)/\W.heap.size<=W'.heap.size/\(∀ b o v,kp b o->W.cell? ⟨b,o,none⟩=some v->W'.cell? ⟨b,o,none⟩=some v) /\
     ∀ g,G g≠[]->∃ cs T fz,W'.heap[g]? = some (.cells cs T fz)/\cs.size=(G g).length) \/
    (e = .returned (.bool false)/\Jx W')) ->
  J 0 O w ->
  CallsIn Fence.wide 0 P g (#[.func (.yield l) #[] #[]]++lbv) w fun e w'=>(∃ v,e = .returned v)/\((∃ O',J xs.length O' w')\/Jx w')
def Gi:List Nat->List PV->List (Nat×AV)->List (Nat×AV)
 | p::ps,x::xs,e=>Gi ps xs ((p,.pv x)::e)
 | _,_,e=>e
def TF (F:St->Prop):AExit->St->Prop
 | .norm,s=>F s
 | _,_=>False
def QH (m0:Nat)(I:Nat->St->Prop)(i:Nat)(Q:AExit->St->Prop)(e0:List (Nat×AV)):AExit->St->Prop
 | .norm,s=>∃ s',Wk m0 ⟨e0,s.sto,s.next⟩ s'/\I (i+1) s'
 | .exit id,s=>Q (.exit id) ⟨e0,s.sto,s.next⟩
 | .ret,s=>Q .ret ⟨e0,s.sto,s.next⟩
def MW (vb:Nat->(AExit->St->Prop)->St->Prop)(Q:AExit->St->Prop)(s:St):Prop:=vb s.next Q s
def OT (P:Program)(G:Nat->List PV)(va vb:Nat->(AExit->St->Prop)->St->Prop)(m0:Nat)(ps:List Nat)(Q:AExit->St->Prop)(I:Nat->St->Prop)(p:Nat×List AV×List AV):Prop:=
 p.2.1=[]/\∃ lb xs,pvs p.2.2=some lb/\SP P G p.1 lb xs /\
  (∀ i x s',xs[i]? = some x->I i s'->x.length=ps.length/\va s'.next (TF (MW vb (QH m0 I i Q s'.env))) ⟨Gi ps x s'.env,s'.sto,s'.next⟩)/\∀ s',I xs.length s'->Q .norm s'
def I3 (P:Program)(G:Nat->List PV)(va vb:Nat->(AExit->St->Prop)->St->Prop)(m0:Nat)(f:AX)(ps:List Nat)(Q:AExit->St->Prop)(s:St):Prop:=
 ∃ (I:Nat->St->Prop) (s0:St),Wk m0 s s0/\I 0 s0/\aV (dU (f.ev s0.E)) (OT P G va vb m0 ps Q I)
def vc (P:Program)(G:Nat->List PV):Nat->ACode->(AExit->St->Prop)->St->Prop
 | m0,.skip,Q,s=>Q .norm s
 | m0,.ops l keep,Q,s=>dZ P G l (sK Q keep) s
 | m0,.draw A l l2 keep,Q,s=>vcD P G A (dZ P G l2 (sK Q keep)) l [] s
 | m0,.seq a b,Q,s=>vc P G m0 a (zF (vc P G m0 b Q) Q) s
 | m0,.cond x a b,Q,s=>p5 (x.ev s.E) (vc P G m0 a Q) (vc P G m0 b Q) s
 | m0,.block id b,Q,s=>vc P G m0 b (gF id Q) s
 | m0,.loop keep b,Q,s=>RZ (vc P G m0 b) m0 keep Q s
 | m0,.range f ps keep a b,Q,s=>I3 P G (fun m=>vc P G m a) (fun m=>vc P G m b) m0 f ps Q s
 | m0,.exit id,Q,s=>Q (.exit id) s
 | m0,.ret,Q,s=>Q .ret s
def gI (a:List Nat):List Nat->List Nat
 | []=>a
 | x::r=>gI (if a.contains x then a else a++[x]) r
def CB:List AOper->List Nat->List Nat
 | [],out=>out
 | o::r,out=>gI ((CB r out).filter fun x=>!(o.dst == some x)) o.slots
def Pn (i:Nat):List (Nat×List Nat)->List Nat
 | []=>[]
 | p::r=>if p.1=i then p.2 else Pn i r
def TM (x:Nat):List Nat->List Nat
 | []=>[x]
 | y::r=>if x<=y then x::y::r else y::TM x r
def pA:List Nat->List Nat
 | []=>[]
 | x::r=>TM x (pA r)
def Dy:List (Nat×List Nat)->List Nat
 | []=>[]
 | p::r=>gI (Dy r) p.2
def bH:Code->Bool
 | .rangeFunc _ _ _ _=>true
 | .seq a b=>bH a||bH b
 | .cond _ a b=>bH a||bH b
 | .block _ b=>bH b
 | .loop b=>bH b
 | _=>false
def OW (N:Nat):List Nat->Bool
 | []=>true
 | p::r=>decide (p<N)&&!r.contains p&&OW N r
def bK (P:Program)(muts:List Nat)(N:Nat)(ret:List Nat):Code->List (Nat×List Nat)->List Nat->Option (ACode×List Nat)
 | .skip,_,out=>some (.skip,out)
 | .region _ ops d,_,out=>match EU P muts N ops ops.toList with
   | some l=>match d with
     | false=>some (.ops l (pA out),CB l out)
     | true=>if DK ops.toList l (Da (be (ops.toList.map ba) []) l.length)=true/\Da (be (ops.toList.map ba) []) l.length<=l.length/\sP ops=true then
       some (.draw (be (ops.toList.map ba) []) (l.take (Da (be (ops.toList.map ba) []) l.length)) (l.drop (Da (be (ops.toList.map ba) []) l.length)) (pA out),CB l out)
       else none
   | none=>none
 | .seq a b,ex,out=>match bK P muts N ret b ex out with
   | some (b',lb)=>match bK P muts N ret a ex lb with
     | some (a',la)=>some (.seq a' b',la)
     | none=>none
   | none=>none
 | .cond x a b,ex,out=>match cX x,bK P muts N ret a ex out,bK P muts N ret b ex out with
   | some ax,some (a',la),some (b',lb)=>some (.cond ax a' b',gI (gI la lb) ax.slots)
   | _,_,_=>none
 | .block id b,ex,out=>match bK P muts N ret b ((id,out)::ex) out with
   | some (b',lb)=>some (.block id b',lb)
   | none=>none
 | .loop b,ex,out=>match bK P muts N ret b ex [] with
   | some (_,l1)=>match bK P muts N ret b ex l1 with
     | some (_,l2)=>match bK P muts N ret b ex l2 with
       | some (b',l3)=>some (.loop (pA l2) b',l2)
       | none=>none
     | none=>none
   | none=>none
 | .exit id,ex,_=>some (.exit id,Pn id ex)
 | .ret,_,_=>some (.ret,ret)
 | .rangeFunc g ps a b,ex,out=>match bH a||bH b,cX g,bK P muts N ret b ex [],OW N ps.toList with
   | false,some ax,some (b',lb),true=>match bK P muts N ret a ex lb with
     | some (a',la)=>some (.range ax ps.toList (pA (gI (gI (gI la out) (gI ret (Dy ex))) ax.slots)) a' b',gI (gI (gI la out) (gI ret (Dy ex))) ax.slots)
     | none=>none
   | _,_,_,_=>some (.ops [⟨none,j4,none⟩] [],[])
 | _,_,_=>some (.ops [⟨none,j4,none⟩] [],[])

/- A program logic over the model: part 6 (a proof is built on it; nothing of the statement is said here). -/
import Derived.Lib.Join
import Derived.Lib.ItoaNum
import Derived.Lib.LaidTab
import Derived.Lib.AppendIntMem
import Derived.Lib.Strings
import Derived.Lib.Bytealg
import Derived.Lib.ValidLaws
import Derived.ChangeShapes
import Derived.ProofKit
import Derived.OpenShut
import Derived.ShutString
import Derived.ChangeOld
import Derived.Carry
import Derived.WideShapes
import Derived.Deep.DeepHandedRow
import Derived.Lib.LaidU8T
import Derived.Test.YtngchmkoadaecaaGreatDoorClCore5
set_option linter.unusedVariables false
set_option linter.unusedSimpArgs false
open Nat renaming le_refl->UI,le_trans->UX,lt_succ_self->Ve,zero_add->UN
open Option.some renaming injEq->Uu
open Prod.mk renaming injEq->Uz
open Option renaming bind_eq_some_iff->VG,map_eq_some_iff->Ut
open List renaming length_map->U0,getElem?_eq_getElem->Uq,getElem?_map->UE,all_eq_true->UD,flatMap_cons->Vx,getElem?_eq_some_iff->Ur,map_cons->UQ,mem_cons->UP,getElem?_cons_zero->UW,all_append->U5,getD_eq_getElem?_getD->Uv,range->U1,all_cons->U9,mem_of_getElem?->Us,eq_nil_of_length_eq_zero->UG,take->Vw,mem_cons_self->Vt,mem_append->UY,append_nil->UU
open Bool renaming and_eq_true->UK
namespace Go.Ab
open Go Go.RowKit
abbrev dY:=Nat->List AV->List (Nat×Blk)->Nat->Option (AV×List (Nat×Blk)×Nat)
def xR (call:dY)(G:Nat->List PV)(s:St)(d:Option Nat):AOp->Option St
 | .t o=>match o.run s.E with
   | some v=>some (s.put d v)
   | none=>none
 | .m o=>match o.run G s.next s.E s.σ with
   | some p=>some ((s.mem p.2).put d p.1)
   | none=>none
 | .call f xs=>match dn (f.ev s.E) with
   | some p=>match call p.1 (p.2.1++xs.map (·.ev s.E)++p.2.2) s.sto s.next with
     | some r=>some ((⟨s.env,r.2.1,r.2.2⟩:St).put d r.1)
     | none=>none
   | none=>none
 | .fz g x=>match IS G s.σ g (x.ev s.E) with
   | some p=>some ((s.mem p.2).put d p.1)
   | none=>none
def jW (call:dY)(G:Nat->List PV):List AOper->St->Option St
 | [],s=>some s
 | o::r,s=>match bZ s o.guard with
   | some true=>match xR call G s o.dst o.op with
     | some s'=>jW call G r s'
     | none=>none
   | some false=>jW call G r (s.put o.dst (.pv .undef))
   | none=>none
def AS (call:dY)(f:Nat)(ps:List PV):Option PV:=
 match call f (ps.map .pv) [] 0 with
 | some r=>r.1.toPV
 | none=>none
def rz (call:dY)(s:St)(d:Option Nat)(f:Nat)(args:List AV):Option (St×List Nat×List Nat):=
 match pvs args with
 | some ps=>match AS call f ps with
   | some r=>some (s.put d (.pv r),[],[])
   | none=>none
 | none=>match call f args s.sto s.next with
   | some r=>some ((⟨s.env,r.2.1,r.2.2⟩:St).put d r.1,eG 2 (aU (r.2.1.take (r.2.1.length - s.sto.length)).reverse) (s.sto.map (·.1)))
   | none=>none
def kz (call:dY)(G:Nat->List PV)(s:St)(d:Option Nat):AOp->Option (St×List Nat×List Nat)
 | .t o=>match o.run s.E with
   | some v=>some (s.put d v,[],[])
   | none=>none
 | .m o=>match o.run G s.next s.E s.σ with
   | some p=>some ((s.mem p.2).put d p.1,eG (aY o) (aU p.2) (o.reads s.E))
   | none=>none
 | .call f xs=>match dn (f.ev s.E) with
   | some p=>rz call s d p.1 (p.2.1++xs.map (·.ev s.E)++p.2.2)
   | none=>none
 | .fz _ _=>none
def exD (call:dY)(G:Nat->List PV)(A:List (List Nat)):List AOper->List (List Nat×List Nat)->St->Option St
 | [],T,s=>match okB A T with
   | true=>some s
   | false=>none
 | o::r,T,s=>match bZ s o.guard with
   | some true=>match kz call G s o.dst o.op with
     | some q=>exD call G A r (T++[q.2]) q.1
     | none=>none
   | some false=>exD call G A r (T++[([],[])]) (s.put o.dst (.pv .undef))
   | none=>none
def exC (call:dY)(G:Nat->List PV):Nat->ACode->St->Option (AExit×St)
 | 0,_,_=>none
 | _+1,.skip,s=>some (.norm,s)
 | _+1,.ops l keep,s=>match jW call G l s with
   | some s'=>some (.norm,clip0 keep s')
   | none=>none
 | _+1,.draw A l l2 keep,s=>match exD call G A l [] s with
   | some s1=>match jW call G l2 s1 with
     | some s'=>some (.norm,clip0 keep s')
     | none=>none
   | none=>none
 | n+1,.seq a b,s=>match exC call G n a s with
   | some (.norm,s')=>exC call G n b s'
   | some (.exit i,s')=>some (.exit i,s')
   | some (.ret,s')=>some (.ret,s')
   | none=>none
 | n+1,.cond x a b,s=>match x.ev s.E with
   | .pv (.bool true)=>exC call G n a s
   | .pv (.bool false)=>exC call G n b s
   | _=>none
 | n+1,.block id b,s=>match exC call G n b s with
   | some (.norm,s')=>some (.norm,s')
   | some (.exit i,s')=>if i=id then some (.norm,s') else some (.exit i,s')
   | some (.ret,s')=>some (.ret,s')
   | none=>none
 | n+1,.loop keep b,s=>match exC call G n b s with
   | some (.norm,s')=>exC call G n (.loop keep b) s'
   | some (.exit i,s')=>some (.exit i,s')
   | some (.ret,s')=>some (.ret,s')
   | none=>none
 | _+1,.range _ _ _ _ _,_=>none
 | _+1,.exit id,s=>some (.exit id,s)
 | _+1,.ret,s=>some (.ret,s)
structure TabRow where
 f:Nat
 muts:List Nat
 fn:AFn
def GC (f:Nat):List TabRow->Option AFn
 | []=>none
 | r::q=>if r.f=f then some r.fn else GC f q
def vz (G:Nat->List PV)(fn:AFn)(s:St):Option (AV×List (Nat×Blk)×Nat):=
 match eX G s fn.res with
 | some l=>some (xO l,s.sto,s.next)
 | none=>none
def exF (tab:List TabRow)(O:Nat->List PV->Option PV)(G:Nat->List PV)(m:Nat):Nat->dY
 | 0,_,_,_,_=>none
 | n+1,f,args,sto,next=>match (pvs args).bind (O f) with
   | some r=>some (.pv r,sto,next)
   | none=>match GC f tab with
     | some fn=>if args.length<=fn.N then match exC (exF tab O G m n) G m fn.body ⟨dk args,sto,next⟩ with
       | some (.norm,s)=>vz G fn s
       | some (.ret,s)=>vz G fn s
       | _=>none
       else none
     | none=>none
section
variable {P:Program}{G:Nat->List PV}
def bE (sto:List (Nat×Blk))(next:Nat)(sto':List (Nat×Blk))(next':Nat):Prop:=(∃ pre,sto'=pre++sto)/\next<=next'
theorem bE.refl (sto:List (Nat×Blk))(next:Nat):bE sto next sto next:=⟨⟨[],rfl⟩,UI _⟩
theorem bE.trans {a b c:List (Nat×Blk)}{i j k:Nat}(h:bE a i b j)(g:bE b j c k):bE a i c k:=by
 obtain⟨⟨p,rfl⟩,h2⟩:=h
 obtain⟨⟨q,rfl⟩,g2⟩:=g
 exact⟨⟨q++p,by simp⟩,UX h2 g2⟩
theorem gO:∀ (δ l:List (Nat×Blk)),je l δ=δ.reverse++l
 | [],l=>rfl
 | p::r,l=>by rw[je,gO r];simp
theorem bE.put {s:St}{sto':List (Nat×Blk)}{n:Nat}{e:List (Nat×AV)}(h:bE s.sto s.next sto' n)(d:Option Nat)(v:AV):bE s.sto s.next ((⟨e,sto',n⟩:St).put d v).sto ((⟨e,sto',n⟩:St).put d v).next:=by
 cases d<;>exact h
theorem bE.mem (s:St)(δ:List (Nat×Blk))(d:Option Nat)(v:AV):bE s.sto s.next ((s.mem δ).put d v).sto ((s.mem δ).put d v).next:=by
 have:bE s.sto s.next (je s.sto δ) (s.next+1):=⟨⟨δ.reverse,gO δ s.sto⟩,Nat.le_succ _⟩
 cases d<;>exact this
theorem bE.put0 (s:St)(d:Option Nat)(v:AV):bE s.sto s.next (s.put d v).sto (s.put d v).next:=by
 cases d<;>exact bE.refl _ _
def fi (P:Program)(G:Nat->List PV)(call:dY):Prop:=
 ∀ f args sto next v sto' next',call f args sto next=some (v,sto',next')->bE sto next sto' next'/\(
   (∃ ps r,pvs args=some ps/\ap P G f ps r/\v = .pv r/\sto'=sto/\next'=next)\/bW P G f args sto next (fun v' s' n'=>v'=v/\s'=sto'/\n'=next'))
theorem bW.mono {f:Nat}{args:List AV}{sto:List (Nat×Blk)}{next:Nat}{Q Q':AV->List (Nat×Blk)->Nat->Prop}(h:bW P G f args sto next Q)(hq:∀ v s n,Q v s n->Q' v s n):bW P G f args sto next Q':=by
 obtain⟨h1,h2⟩:=h
 refine⟨h1,fun κ vals a1 a2 a3 a4=>(h2 κ vals a1 a2 a3 a4).mono ?_⟩
 rintro e w' ⟨u,v,κ',sto',next',b1,b2,b3,b4,b5,b6,b7,b8⟩
 exact⟨u,v,κ',sto',next',b1,b2,b3,b4,b5,b6,b7,hq _ _ _ b8⟩
theorem sw {call:dY}(hc:fi P G call){f:Nat}{ps:List PV}{r:PV}(h:AS call f ps=some r):ap P G f ps r:=by
 unfold AS at h
 split at h
 ·rename_i q hq
  obtain⟨v,sto',next'⟩:=q
  rcases (hc f _ _ _ v sto' next' hq).2 with ⟨ps',r',h1,h2,rfl,_,_⟩ | ht
  ·rw[eZ] at h1
   cases h1
   simp only[AV.toPV,Uu] at h
   subst h;exact h2
  ·exact ap.of_tcalls (ht.mono (by rintro v' _ _ ⟨rfl,_,_⟩;exact O5 h))
 ·cases h
theorem Me {call:dY}(hc:fi P G call){s s':St}{d:Option Nat}{o:AOp}{F:St->Prop}(h:xR call G s d o=some s')(hF:F s'):ku P G F s d o:=by
 cases o with
 | t o=>
   simp only[xR] at h
   split at h
   ·rename_i v hv
    cases h
    simp only[ku,hv,g8];exact hF
   ·cases h
 | m o=>
   simp only[xR] at h
   split at h
   ·rename_i v hv
    cases h
    simp only[ku,hv,aK];exact hF
   ·cases h
 | fz g x=>
   simp only[xR] at h
   split at h
   ·rename_i v hv
    cases h
    simp only[ku,hv,aK];exact hF
   ·cases h
 | call f xs=>
   simp only[xR] at h
   split at h
   ·rename_i p hp
    split at h
    ·rename_i r hr
     cases h
     obtain⟨v,sto',next'⟩:=r
     simp only[ku,hp,aK,Dp]
     rcases (hc _ _ _ _ v sto' next' hr).2 with ⟨ps,r,h1,h2,rfl,rfl,rfl⟩ | ht
     ·exact ab.pure h2 h1 hF
     ·exact ab.lent ht (by rintro v' s' n' ⟨rfl,rfl,rfl⟩;exact hF)
    ·cases h
   ·cases h
theorem i7 {call:dY}(hc:fi P G call){F:St->Prop}:∀ (l:List AOper) (s s':St),jW call G l s=some s'->F s'->dv P G l F s
 | [],s,s',h,hF=>by simp only[jW,Uu] at h;subst h;exact hF
 | o::r,s,s',h,hF=>by
   simp only[jW] at h
   simp only[dv]
   split at h
   ·rename_i hw
    rw[hw]
    split at h
    ·rename_i s1 h1
     exact Me hc h1 (i7 hc r s1 s' h hF)
    ·cases h
   ·rename_i hw
    rw[hw]
    exact i7 hc r _ s' h hF
   ·cases h
theorem lG {call:dY}(hc:fi P G call){A:List (List Nat)}{F:St->Prop}:∀ (l:List AOper) (T:List (List Nat×List Nat)) (s s':St),exD call G A l T s=some s'->F s'->vcD P G A F l T s
 | [],T,s,s',h,hF=>by
   simp only[exD] at h
   split at h
   ·rename_i ho
    cases h
    exact⟨ho,hF⟩
   ·cases h
 | o::r,T,s,s',h,hF=>by
   simp only[exD] at h
   simp only[vcD]
   split at h
   ·rename_i hw
    rw[hw]
    simp only[aK,oM]
    split at h
    ·rename_i q h1
     obtain⟨d,op,g⟩:=o
     simp only at h1 ⊢
     cases op with
     | t o=>
       simp only[kz] at h1
       split at h1
       ·rename_i v hv
        cases h1
        simp only[gG,hv,aK,zb]
        exact lG hc r _ _ s' h hF
       ·cases h1
     | m o=>
       simp only[kz] at h1
       split at h1
       ·rename_i v hv
        cases h1
        simp only[gG,hv,aK,zc]
        exact lG hc r _ _ s' h hF
       ·cases h1
     | fz g x=>simp[kz] at h1
     | call f xs=>
       simp only[kz] at h1
       split at h1
       ·rename_i p hp
        simp only[gG,hp,aK]
        unfold rz at h1
        split at h1
        ·rename_i ps hps
         split at h1
         ·rename_i v hv
          cases h1
          exact .inl ⟨ps,v,hps,sw hc hv,lG hc r _ _ s' h hF⟩
         ·cases h1
        ·rename_i hps
         split at h1
         ·rename_i v hv
          cases h1
          obtain⟨v,sto',next'⟩:=v
          obtain⟨⟨⟨pre,hpre⟩,hle⟩,⟨ps',r',k1,_⟩ | ht⟩:=hc _ _ _ _ v sto' next' hv
          ·rw[hps] at k1;cases k1
          ·have e1:je s.sto (sto'.take (sto'.length - s.sto.length)).reverse=sto':=by
            rw[gO,List.reverse_reverse,hpre]
            simp
           refine .inr ⟨v,(sto'.take (sto'.length - s.sto.length)).reverse,next',?_,hle,?_⟩
           ·rw[e1];exact ht
           ·rw[e1];exact lG hc r _ _ s' h hF
         ·cases h1
       ·cases h1
    ·cases h
   ·rename_i hw
    rw[hw]
    exact lG hc r _ _ s' h hF
   ·cases h
theorem wG {call:dY}(hc:fi P G call){s s':St}{d:Option Nat}{o:AOp}(h:xR call G s d o=some s'):bE s.sto s.next s'.sto s'.next:=by
 cases o with
 | t o=>
   simp only[xR] at h
   split at h
   ·cases h;exact bE.put0 _ _ _
   ·cases h
 | m o=>
   simp only[xR] at h
   split at h
   ·cases h;exact bE.mem _ _ _ _
   ·cases h
 | fz g x=>
   simp only[xR] at h
   split at h
   ·cases h;exact bE.mem _ _ _ _
   ·cases h
 | call f xs=>
   simp only[xR] at h
   split at h
   ·split at h
    ·rename_i r hr
     cases h
     obtain⟨v,sto',next'⟩:=r
     exact bE.put (hc _ _ _ _ v sto' next' hr).1 _ _
    ·cases h
   ·cases h
theorem eu {call:dY}(hc:fi P G call):∀ (l:List AOper) (s s':St),jW call G l s=some s'->bE s.sto s.next s'.sto s'.next
 | [],s,s',h=>by simp only[jW,Uu] at h;subst h;exact bE.refl _ _
 | o::r,s,s',h=>by
   simp only[jW] at h
   split at h
   ·split at h
    ·rename_i s1 h1
     exact (wG hc h1).trans (eu hc r s1 s' h)
    ·cases h
   ·exact (bE.put0 s _ _).trans (eu hc r _ s' h)
   ·cases h
theorem ry {call:dY}(hc:fi P G call){s:St}{d:Option Nat}{o:AOp}{q:St×List Nat×List Nat}(h:kz call G s d o=some q):bE s.sto s.next q.1.sto q.1.next:=by
 cases o with
 | t o=>
   simp only[kz] at h
   split at h
   ·cases h;exact bE.put0 _ _ _
   ·cases h
 | m o=>
   simp only[kz] at h
   split at h
   ·cases h;exact bE.mem _ _ _ _
   ·cases h
 | fz g x=>simp[kz] at h
 | call f xs=>
   simp only[kz] at h
   split at h
   ·unfold rz at h
    split at h
    ·split at h
     ·cases h;exact bE.put0 _ _ _
     ·cases h
    ·split at h
     ·rename_i r hr
      cases h
      obtain⟨v,sto',next'⟩:=r
      exact bE.put (hc _ _ _ _ v sto' next' hr).1 _ _
     ·cases h
   ·cases h
theorem jX {call:dY}(hc:fi P G call){A:List (List Nat)}:∀ (l:List AOper) (T:List (List Nat×List Nat)) (s s':St),exD call G A l T s=some s'->bE s.sto s.next s'.sto s'.next
 | [],T,s,s',h=>by
   simp only[exD] at h
   split at h
   ·cases h;exact bE.refl _ _
   ·cases h
 | o::r,T,s,s',h=>by
   simp only[exD] at h
   split at h
   ·split at h
    ·rename_i q h1
     exact (ry hc h1).trans (jX hc r _ _ s' h)
    ·cases h
   ·exact (bE.put0 s _ _).trans (jX hc r _ _ s' h)
   ·cases h
theorem oE {call:dY}(hc:fi P G call):∀ (n:Nat) (ac:ACode) (s:St) (e:AExit) (s':St),exC call G n ac s=some (e,s')->bE s.sto s.next s'.sto s'.next
 | 0,_,_,_,_,h=>by simp[exC] at h
 | n+1,ac,s,e,s',h=>by
   have ih:=oE hc n
   cases ac with
   | skip=>simp only[exC,Uu,Uz] at h;obtain⟨_,rfl⟩:=h;exact bE.refl _ _
   | exit i=>simp only[exC,Uu,Uz] at h;obtain⟨_,rfl⟩:=h;exact bE.refl _ _
   | ret=>simp only[exC,Uu,Uz] at h;obtain⟨_,rfl⟩:=h;exact bE.refl _ _
   | ops l k=>
     simp only[exC] at h
     split at h
     ·rename_i s1 h1;cases h;exact eu hc l s s1 h1
     ·cases h
   | draw A l l2 k=>
     simp only[exC] at h
     split at h
     ·rename_i s1 h1
      split at h
      ·rename_i s2 h2;cases h;exact (jX hc l [] s s1 h1).trans (eu hc l2 s1 s2 h2)
      ·cases h
     ·cases h
   | seq a b=>
     simp only[exC] at h
     split at h
     ·rename_i s1 h1;exact (ih _ _ _ _ h1).trans (ih _ _ _ _ h)
     ·rename_i i s1 h1;cases h;exact ih _ _ _ _ h1
     ·rename_i s1 h1;cases h;exact ih _ _ _ _ h1
     ·cases h
   | cond x a b=>
     simp only[exC] at h
     split at h
     ·exact ih _ _ _ _ h
     ·exact ih _ _ _ _ h
     ·cases h
   | block id b=>
     simp only[exC] at h
     split at h
     ·rename_i s1 h1;cases h;exact ih _ _ _ _ h1
     ·rename_i i s1 h1
      split at h
      ·cases h;exact ih _ _ _ _ h1
      ·cases h;exact ih _ _ _ _ h1
     ·rename_i s1 h1;cases h;exact ih _ _ _ _ h1
     ·cases h
   | loop k b=>
     simp only[exC] at h
     split at h
     ·rename_i s1 h1;exact (ih _ _ _ _ h1).trans (ih _ _ _ _ h)
     ·rename_i i s1 h1;cases h;exact ih _ _ _ _ h1
     ·rename_i s1 h1;cases h;exact ih _ _ _ _ h1
     ·cases h
   | range f ps k a b=>simp only[exC] at h;cases h
def Ph (e:AExit)(s':St):AExit->St->Prop:=fun e1 s1=>e1=e/\s1=s'
theorem pf {call:dY}{G:Nat->List PV}{n:Nat}{s:St}{r:AExit×St}(h:exC call G (n+1) (.ops [⟨none,iN,none⟩] []) s=some r):False:=by
 simp[exC,jW,bZ,xR,iN,AX.ev,dn] at h
theorem Pi {call:dY}(hc:fi P G call){c:Ctx}{κ0:Kap}{N:Nat}{muts rl:List Nat}(hG:c.G=G):∀ (n:Nat) (co:Code) (ac:ACode) (ex:List (Nat×List Nat)) (out li:List Nat) (s:St) (a:Act) (w:World) (κ:Kap) (e:AExit) (s':St),
  bw P muts N rl co ex out=some (ac,li)->exC call G n ac s=some (e,s')->Rel c κ0 N s a w κ->co.wpIn (FR none) 0 P (lift c κ0 N (Ph e s')) a w:=by
 intro n
 induction n using Nat.strongRecOn with
 | _ n ih=>
 intro co ac ex out li s a w κ e s' hcc he hR
 cases n with
 | zero=>simp[exC] at he
 | succ n=>
 cases co with
 | skip=>
   simp only[bw,Uu,Uz] at hcc
   obtain⟨rfl,_⟩:=hcc
   simp only[exC,Uu,Uz] at he
   obtain⟨rfl,rfl⟩:=he
   exact wpIn_skip ⟨_,κ,hR,rfl,rfl⟩
 | exit id=>
   simp only[bw,Uu,Uz] at hcc
   obtain⟨rfl,_⟩:=hcc
   simp only[exC,Uu,Uz] at he
   obtain⟨rfl,rfl⟩:=he
   exact wpIn_exit ⟨_,κ,hR,rfl,rfl⟩
 | ret=>
   simp only[bw,Uu,Uz] at hcc
   obtain⟨rfl,_⟩:=hcc
   simp only[exC,Uu,Uz] at he
   obtain⟨rfl,rfl⟩:=he
   exact wpIn_ret ⟨_,κ,hR,rfl,rfl⟩
 | region id ops d=>
   simp only[bw] at hcc
   split at hcc
   ·rename_i l hl
    cases d with
    | false=>
      simp only[Uu,Uz] at hcc
      obtain⟨rfl,_⟩:=hcc
      simp only[exC] at he
      split at he
      ·rename_i s1 h1
       cases he
       exact wpIn_region_list (d6 (F:=fun s=>s=s1) (fun s a w κ hR hF=>by subst hF;exact⟨_,κ,hR.clip0 _,rfl,rfl⟩) ops.toList l s a w κ hl hR (by rw[hG];exact i7 hc l s s1 h1 rfl))
      ·cases he
    | true=>
      simp only at hcc
      split at hcc
      ·rename_i hok
       simp only[Uu,Uz] at hcc
       obtain⟨rfl,_⟩:=hcc
       simp only[exC] at he
       split at he
       ·rename_i s1 h1
        split at he
        ·rename_i s2 h2
         cases he
         exact lI (F:=fun s=>s=s2) hl hok.1 hok.2.1 hok.2.2 hR (by rw[hG];exact lG hc _ _ s s1 h1 (i7 hc _ s1 s2 h2 rfl)) (fun s a w κ hR hF=>by subst hF;exact⟨_,κ,hR.clip0 _,rfl,rfl⟩)
        ·cases he
       ·cases he
      ·cases hcc
   ·cases hcc
 | seq x y=>
   simp only[bw] at hcc
   split at hcc
   ·rename_i b' lb hb
    split at hcc
    ·rename_i a' la ha
     simp only[Uu,Uz] at hcc
     obtain⟨rfl,_⟩:=hcc
     simp only[exC] at he
     split at he
     ·rename_i s1 h1
      refine wpIn_seq (Go.wpIn_mono (ih n (Ve n) x a' _ _ _ s a w κ _ _ ha h1 hR) ?_)
      intro e1 a w hq
      cases e1 with
      | normal=>
        obtain⟨s2,κ,hR,_,rfl⟩:=hq
        exact ih n (Ve n) y b' _ _ _ s2 a w κ _ _ hb he hR
      | exit id=>obtain⟨_,_,_,h,_⟩:=hq;cases h
      | ret=>obtain⟨_,_,_,h,_⟩:=hq;cases h
      | goto l=>exact hq.elim
      | panic ch=>exact hq.elim
      | outgrown=>exact hq.elim
     ·rename_i i s1 h1
      cases he
      refine wpIn_seq (Go.wpIn_mono (ih n (Ve n) x a' _ _ _ s a w κ _ _ ha h1 hR) ?_)
      intro e1 a w hq
      cases e1 with
      | normal=>obtain⟨_,_,_,h,_⟩:=hq;cases h
      | exit id=>exact hq
      | ret=>exact hq
      | goto l=>exact hq.elim
      | panic ch=>exact hq.elim
      | outgrown=>exact hq.elim
     ·rename_i s1 h1
      cases he
      refine wpIn_seq (Go.wpIn_mono (ih n (Ve n) x a' _ _ _ s a w κ _ _ ha h1 hR) ?_)
      intro e1 a w hq
      cases e1 with
      | normal=>obtain⟨_,_,_,h,_⟩:=hq;cases h
      | exit id=>exact hq
      | ret=>exact hq
      | goto l=>exact hq.elim
      | panic ch=>exact hq.elim
      | outgrown=>exact hq.elim
     ·cases he
    ·cases hcc
   ·cases hcc
 | cond x y z=>
   simp only[bw] at hcc
   split at hcc
   ·rename_i ax a' la b' lb hx hy hz
    simp only[Uu,Uz] at hcc
    obtain⟨rfl,_⟩:=hcc
    have hrel:=az (κ:=κ) (E:=s.E) (a:=a) hx (fun i _=>hR.env i)
    simp only[exC] at he
    split at he
    ·rename_i hv
     rw[hv] at hrel
     exact wpIn_cond_true (cY hrel) (ih n (Ve n) y a' _ _ _ s a w κ _ _ hy he hR)
    ·rename_i hv
     rw[hv] at hrel
     exact wpIn_cond_false (cY hrel) (ih n (Ve n) z b' _ _ _ s a w κ _ _ hz he hR)
    ·cases he
   ·cases hcc
 | block id b=>
   simp only[bw] at hcc
   split at hcc
   ·rename_i b' lb hb
    simp only[Uu,Uz] at hcc
    obtain⟨rfl,_⟩:=hcc
    simp only[exC] at he
    have main:∀ e1 s1,exC call G n b' s=some (e1,s1)->((e1 = .norm/\e = .norm/\s'=s1)\/(∃ i,e1 = .exit i/\s'=s1/\e=if i=id then .norm else .exit i)\/(e1 = .ret/\e = .ret/\s'=s1))->(Code.block id b).wpIn (FR none) 0 P (lift c κ0 N (Ph e s')) a w:=by
     intro e1 s1 h1 hcase
     refine wpIn_block (Go.wpIn_mono (ih n (Ve n) b b' _ _ _ s a w κ _ _ hb h1 hR) ?_)
     intro e2 a w hq
     cases e2 with
     | normal=>
       obtain⟨s2,κ,hR,rfl,rfl⟩:=hq
       rcases hcase with ⟨_,rfl,rfl⟩ | ⟨i,h,_⟩ | ⟨h,_⟩
       ·exact⟨_,κ,hR,rfl,rfl⟩
       ·cases h
       ·cases h
     | ret=>
       obtain⟨s2,κ,hR,rfl,rfl⟩:=hq
       rcases hcase with ⟨h,_⟩ | ⟨i,h,_⟩ | ⟨_,rfl,rfl⟩
       ·cases h
       ·cases h
       ·exact⟨_,κ,hR,rfl,rfl⟩
     | exit i=>
       obtain⟨s2,κ,hR,rfl,rfl⟩:=hq
       rcases hcase with ⟨h,_⟩ | ⟨i',h,rfl,rfl⟩ | ⟨h,_⟩
       ·cases h
       ·cases h
        simp only[Exit.inBlock]
        split
        ·rename_i hid
         exact⟨_,κ,hR,by simp[hid],rfl⟩
        ·rename_i hid
         exact⟨_,κ,hR,by simp[hid],rfl⟩
       ·cases h
     | goto l=>exact hq.elim
     | panic ch=>exact hq.elim
     | outgrown=>exact hq.elim
    split at he
    ·rename_i s1 h1
     cases he
     exact main _ _ h1 (.inl ⟨rfl,rfl,rfl⟩)
    ·rename_i i s1 h1
     split at he
     ·rename_i hid
      cases he
      exact main _ _ h1 (.inr (.inl ⟨i,rfl,rfl,by simp[hid]⟩))
     ·rename_i hid
      cases he
      exact main _ _ h1 (.inr (.inl ⟨i,rfl,rfl,by simp[hid]⟩))
    ·rename_i s1 h1
     cases he
     exact main _ _ h1 (.inr (.inr ⟨rfl,rfl,rfl⟩))
    ·cases he
   ·cases hcc
 | loop b=>
   simp only[bw] at hcc
   split at hcc
   ·rename_i x1 l1 hb1
    split at hcc
    ·rename_i x2 l2 hb2
     split at hcc
     ·rename_i b' l3 hb
      simp only[Uu,Uz] at hcc
      obtain⟨rfl,_⟩:=hcc
      refine ja (fun m a w=>∃ s κ,m<=n+1/\Rel c κ0 N s a w κ/\exC call G m (.loop (ni l2) b') s=some (e,s')) ⟨n+1,s,κ,UI _,hR,he⟩ fun m a w hJ=>?_
      obtain⟨s,κ,hm,hR,he⟩:=hJ
      cases m with
      | zero=>simp[exC] at he
      | succ m=>
        simp only[exC] at he
        split at he
        ·rename_i s1 h1
         refine Go.wpIn_mono (ih m (by omega) b b' _ _ _ s a w κ _ _ hb h1 hR) ?_
         intro e1 a w hq
         cases e1 with
         | normal=>
           obtain⟨s2,κ,hR,_,rfl⟩:=hq
           exact⟨m,Ve m,_,κ,by omega,hR,he⟩
         | exit id=>obtain⟨_,_,_,h,_⟩:=hq;cases h
         | ret=>obtain⟨_,_,_,h,_⟩:=hq;cases h
         | goto l=>exact hq.elim
         | panic ch=>exact hq.elim
         | outgrown=>exact hq.elim
        ·rename_i i s1 h1
         cases he
         refine Go.wpIn_mono (ih m (by omega) b b' _ _ _ s a w κ _ _ hb h1 hR) ?_
         intro e1 a w hq
         cases e1 with
         | normal=>obtain⟨_,_,_,h,_⟩:=hq;cases h
         | exit id=>exact hq
         | ret=>exact hq
         | goto l=>exact hq.elim
         | panic ch=>exact hq.elim
         | outgrown=>exact hq.elim
        ·rename_i s1 h1
         cases he
         refine Go.wpIn_mono (ih m (by omega) b b' _ _ _ s a w κ _ _ hb h1 hR) ?_
         intro e1 a w hq
         cases e1 with
         | normal=>obtain⟨_,_,_,h,_⟩:=hq;cases h
         | exit id=>exact hq
         | ret=>exact hq
         | goto l=>exact hq.elim
         | panic ch=>exact hq.elim
         | outgrown=>exact hq.elim
        ·cases he
     ·cases hcc
    ·cases hcc
   ·cases hcc
 | rangeFunc f ps x y=>
   simp only[bw] at hcc
   split at hcc
   ·split at hcc
    ·simp only[Uu,Uz] at hcc
     obtain⟨rfl,_⟩:=hcc
     simp only[exC] at he
     cases he
    ·cases hcc
   ·simp only[Uu,Uz] at hcc;obtain⟨rfl,rfl⟩:=hcc;exact (pf he).elim
 | scope b=>simp only[bw,Uu,Uz] at hcc;obtain⟨rfl,rfl⟩:=hcc;exact (pf he).elim
 | label l=>simp only[bw,Uu,Uz] at hcc;obtain⟨rfl,rfl⟩:=hcc;exact (pf he).elim
 | goto l=>simp only[bw,Uu,Uz] at hcc;obtain⟨rfl,rfl⟩:=hcc;exact (pf he).elim
 | refuse y=>simp only[bw,Uu,Uz] at hcc;obtain⟨rfl,rfl⟩:=hcc;exact (pf he).elim
theorem GB {tab:List TabRow}(ht:∀ r∈tab,cFn P r.muts r.f=some r.fn){f:Nat}{fn:AFn}(h:GC f tab=some fn):∃ muts,cFn P muts f=some fn:=by
 induction tab with
 | nil=>cases h
 | cons r q ih=>
   simp only[GC] at h
   split at h
   ·rename_i hf
    cases h
    exact⟨r.muts,hf▸ht r (by simp)⟩
   ·exact ih (fun r hr=>ht r (by simp[hr])) h
theorem CG {tab:List TabRow}{O:Nat->List PV->Option PV}{m:Nat}(ht:∀ r∈tab,cFn P r.muts r.f=some r.fn)(hO:∀ f ps r,O f ps=some r->ap P G f ps r):∀ n,fi P G (exF tab O G m n)
 | 0=>by intro f args sto next v sto' next' h;simp[exF] at h
 | n+1=>by
   intro f args sto next v sto' next' h
   simp only[exF] at h
   split at h
   ·rename_i r hr
    cases h
    simp only[VG] at hr
    obtain⟨ps,h1,h2⟩:=hr
    refine⟨bE.refl _ _,?_⟩
    exact .inl ⟨ps,r,h1,hO f ps r h2,rfl,rfl,rfl⟩
   ·split at h
    ·rename_i fn hfn
     obtain⟨muts,hcf⟩:=GB ht hfn
     split at h
     ·rename_i hl
      have grow:∀ (e:AExit) (s:St),exC (exF tab O G m n) G m fn.body ⟨dk args,sto,next⟩=some (e,s)->vz G fn s=some (v,sto',next')->bE sto next sto' next':=by
       intro e s h1 h2
       have:=oE (CG ht hO n) m fn.body _ e s h1
       unfold vz at h2
       split at h2
       ·cases h2;exact this
       ·cases h2
      have fin:∀ (e:AExit) (s:St),(e = .norm\/e = .ret)->exC (exF tab O G m n) G m fn.body ⟨dk args,sto,next⟩=some (e,s)->vz G fn s=some (v,sto',next')->bW P G f args sto next (fun v' s' n'=>v'=v/\s'=sto'/\n'=next'):=by
       intro e s he h1 h2
       refine bW.of_code hcf hl fun c κ N a w co rl li hG hk hf hb hR=>?_
       refine Go.wpIn_mono (Pi (CG ht hO n) hG m co fn.body _ _ _ _ a w κ e s hb h1 hR) ?_
       have hout:∀ s1,s1=s->aK (eX G s1 fn.res) (Iz (fun v' s' n'=>v'=v/\s'=sto'/\n'=next') s1):=by
        rintro s1 rfl
        unfold vz at h2
        split at h2
        ·rename_i l hl2
         cases h2
         rw[hl2]
         exact⟨rfl,rfl,rfl⟩
        ·cases h2
       intro e1 a w hq
       cases e1 with
       | normal=>
         obtain⟨s1,κ1,hR1,he1,hs1⟩:=hq
         exact⟨s1,κ1,hR1,hout s1 hs1⟩
       | ret=>
         obtain⟨s1,κ1,hR1,he1,hs1⟩:=hq
         exact⟨s1,κ1,hR1,hout s1 hs1⟩
       | exit id=>
         obtain⟨s1,κ1,hR1,he1,hs1⟩:=hq
         rcases he with rfl | rfl<;>cases he1
       | goto l=>exact hq.elim
       | panic ch=>exact hq.elim
       | outgrown=>exact hq.elim
      split at h
      ·rename_i s1 h1;exact⟨grow _ _ h1 h,.inr (fin _ _ (.inl rfl) h1 h)⟩
      ·rename_i s1 h1;exact⟨grow _ _ h1 h,.inr (fin _ _ (.inr rfl) h1 h)⟩
      ·cases h
     ·cases h
    ·cases h
theorem ap.of_ex {tab:List TabRow}{O:Nat->List PV->Option PV}{m n:Nat}{f:Nat}{ps:List PV}{r:PV}(ht:∀ r∈tab,cFn P r.muts r.f=some r.fn)(hO:∀ f ps r,O f ps=some r->ap P G f ps r)
  (h:AS (exF tab O G m n) f ps=some r):ap P G f ps r:=
 sw (CG ht hO n) h
end
open Go.Sort
theorem eh {P:Program}{G:Nat->List PV}{f:Nat}{args:List PV}{r:PV}(hc:bY P f=true)
  (h:∀ (w:World) (imm:Nat->Nat->Prop) (vals:Array Value),du G w imm->vals.size=args.length->(∀ (i:Nat) (x:PV),args[i]? = some x->PRel w imm x (vals.getD i Go.undef)) ->
   Calls P f vals w fun e w'=>∃ u,e = .returned u/\Below w.heap.size w w'/\PRel w' imm r u):ap P G f args r:=by
 refine⟨hc,fun w imm vals hG hlt hsz hargs=>(h w imm vals hG hsz hargs).mono ?_⟩
 rintro e w' ⟨u,rfl,hb,hr⟩
 exact⟨u,imm,rfl,hb,fun _ _ h=>h,fun _ _ h=>.inl h,fun b o h=>Nat.lt_of_lt_of_le (hlt b o h) hb.size,hr⟩
theorem d8 {w:World}{imm:Nat->Nat->Prop}{l:List UInt8}(h:l.length<=maxLen):PRel w imm (.str l) (.string ⟨l.toArray⟩):=by
 have:=PRel.str (w:=w) (imm:=imm) ⟨l.toArray⟩ (by show l.toArray.size<=maxLen;simpa using h)
 simpa using this
theorem yY {w:World}{imm:Nat->Nat->Prop}{l:List UInt8}{v:Value}(h:PRel w imm (.str l) v):v = .string ⟨l.toArray⟩/\l.length<=maxLen:=by
 cases h with
 | str s hs=>exact⟨by simp,hs⟩
theorem Iq {vals:Array Value}(h:vals.size=1):vals = #[vals.getD 0 Go.undef]:=by
 apply Array.ext
 ·simp[h]
 ·intro i h1 h2
  have:i=0:=by omega
  subst this
  simp[Array.getD_eq_getD_getElem?,h]
theorem Nv {vals:Array Value}(h:vals.size=2):vals = #[vals.getD 0 Go.undef,vals.getD 1 Go.undef]:=by
 apply Array.ext
 ·simp[h]
 ·intro i h1 h2
  have:i=0\/i=1:=by omega
  rcases this with rfl | rfl<;>simp[Array.getD_eq_getD_getElem?,h]
def iC:Nat->Nat->List UInt8
 | 0,_=>[]
 | n+1,k=>if k<10 then [UInt8.ofNat (48+k)] else iC n (k / 10)++[UInt8.ofNat (48+k % 10)]
def dQ (n:Int):List UInt8:=if n<0 then 45::iC 20 n.natAbs else iC 20 n.toNat
theorem jZ:∀ (f k:Nat),k<10 ^ f->0<f->iC f k=Lib.decDigits k
 | 0,k,_,h=>absurd h (by simp)
 | f+1,k,hk,_=>by
   rw[iC,Lib.decDigits]
   by_cases h:k<10
   ·simp[h]
   ·rw[if_neg h,dif_neg h]
    have h10:k / 10<10 ^ f:=by
     rw[Nat.pow_succ] at hk
     exact Nat.div_lt_of_lt_mul (by rw[Nat.mul_comm];exact hk)
    rw[jZ f (k / 10) h10 (by
     rcases Nat.eq_zero_or_pos f with h0 | h0
     ·subst h0
      simp at hk
      omega
     ·exact h0)]
theorem ii:∀ (f k:Nat),(iC f k).length<=f
 | 0,k=>by simp[iC]
 | f+1,k=>by
   rw[iC]
   split
   ·simp
   ·have:=ii f (k / 10)
    simp;omega
theorem iZ {n:Int}(h0:-9223372036854775808<=n)(h1:n<=9223372036854775807):dQ n=Lib.itoa n:=by
 have e:(10:Nat) ^ 20=100000000000000000000:=by decide
 unfold dQ Lib.itoa
 split
 ·rw[jZ 20 n.natAbs (by rw[e];omega) (by decide)]
 ·rw[jZ 20 n.toNat (by rw[e];omega) (by decide)]
theorem dP (n:Int):(dQ n).length<=21:=by
 unfold dQ
 split
 ·have:=ii 20 n.natAbs
  simp;omega
 ·have:=ii 20 n.toNat
  omega
theorem EB {P:Program}{G:Nat->List PV}{w:World}{imm:Nat->Nat->Prop}{name:String}{k:IntKind}{zs:List Int}{g:Nat}(hn:P.globalNamed name=some g)(hG:G g=zs.map (PV.int k))(hz:zs≠[])(h:du G w imm) :
  Lib.TabIs P w name k zs:=by
 obtain⟨cs,T,fz,h1,h2⟩:=h.2 g (by rw[hG];simpa using hz)
 have hcs:cs=(zs.map fun z=>Value.int k z).toArray:=by
  rw[hG] at h2
  simp only[U0] at h2
  apply Array.ext
  ·simp[h2]
  ·intro i hi hi'
   have hiz:i<zs.length:=by omega
   obtain⟨_,v,h3,_,h4⟩:=h.1 g i (.int k zs[i]) (by rw[hG];simp[hiz])
   have hv:v = .int k zs[i]:=by cases h4;rfl
   have hc:=cell_of_row w g i cs T fz h1
   rw[h3,hv] at hc
   have:=(Array.getElem?_eq_some_iff.1 hc.symm).2
   simp[this]
 unfold Lib.TabIs World.var?
 rw[hn]
 simp only[Option.bind_some,h1]
 rw[hcs]
theorem B1 {P:Program}{G:Nat->List PV}{f g:Nat}{name:String}(hc:bY P f=true)(hn:P.globalNamed name=some g)(hG:G g=Lib.pow10Tab.map (PV.int .u64))
  (h:∀ (n:Int) (h0:-9223372036854775808<=n) (h1:n<=9223372036854775807) (w:World) (htab:Lib.TabIs P w name .u64 Lib.pow10Tab),
   Calls P f #[.int .i64 n] w fun e w'=>e = .returned (.string ⟨(Lib.itoa n).toArray⟩)/\∃ k os,w'=Sort.grow (w.drewN k) os)
  (n:Int) (h0:-9223372036854775808<=n) (h1:n<=9223372036854775807):ap P G f [.int .i64 n] (.str (dQ n)):=by
 refine eh hc fun w imm vals hGl hsz hargs=>?_
 have hv:=Iq hsz
 have h2:=hargs 0 (.int .i64 n) rfl
 have h3:vals.getD 0 Go.undef = .int .i64 n:=by
  generalize vals.getD 0 Go.undef=x at h2
  cases h2;rfl
 rw[hv,h3]
 refine (h n h0 h1 w (EB hn hG (by
  intro e
  have:=congrArg List.length e
  rw[Lib.pow10Tab_length] at this
  simp at this) hGl)).mono ?_
 rintro e w' ⟨rfl,k,os,rfl⟩
 refine⟨_,rfl,Lib.below_grow _ w (UI _) k os,?_⟩
 rw[iZ h0 h1,<- iZ h0 h1]
 refine d8 ?_
 have:=dP n
 unfold maxLen;omega
def dj (sep:List UInt8):List (List UInt8)->List UInt8
 | []=>[]
 | [x]=>x
 | x::y::r=>x++sep++dj sep (y::r)
theorem mo (sep:List UInt8):∀ (l:List (List UInt8)),dj sep l=Lib.join l sep
 | []=>rfl
 | [x]=>(Lib.join_one x sep).symm
 | x::y::r=>by
   rw[dj,mo sep (y::r),Lib.join_cons,Lib.join_cons]
   simp[Lib.joinTail]
theorem BY {P:Program}{G:Nat->List PV}{f:Nat}(hc:bY P f=true)
  (h0:∀ (a:Option Addr) (c:Nat) (sep:ByteArray) (w:World),Calls P f #[.slice a 0 c,.string sep] w fun e w'=>e = .returned (.string ⟨#[]⟩)/\w'=w)
  (h:∀ (bk o c:Nat) (xs:List ByteArray) (sep:ByteArray) (w:World) (hcells:∀ (j:Nat) x,xs[j]? = some x->w.cell? ⟨bk,o+j,none⟩=some (.string x)) (hbk:bk<w.heap.size) (hN:xs.length<=140737488355328) (hcap:xs.length<=c) (hlen:(Lib.join (xs.map (·.data.toList)) sep.data.toList).length<=140737488355328),
   Calls P f #[.slice (some ⟨bk,o,none⟩) xs.length c,.string sep] w fun e w'=>e = .returned (.string ⟨(Lib.join (xs.map (·.data.toList)) sep.data.toList).toArray⟩)/\Below w.heap.size w w')
  (l:List (List UInt8)) (sep:List UInt8) (hN:l.length<=140737488355328) (hlen:(dj sep l).length<=140737488355328):ap P G f [.list (l.map .str),.str sep] (.str (dj sep l)):=by
 refine eh hc fun w imm vals hGl hsz hargs=>?_
 have hv:=Nv hsz
 have hl:=hargs 0 (.list (l.map .str)) rfl
 obtain⟨hs,hsl⟩:=yY (hargs 1 (.str sep) rfl)
 rw[hv,hs]
 generalize vals.getD 0 Go.undef=u at hl
 generalize hL:l.map PV.str=L at hl
 cases hl with
 | lnil A c hcm=>
   have:l=[]:=by cases l with
    | nil=>rfl
    | cons x r=>simp at hL
   subst this
   refine (h0 A c _ w).mono ?_
   rintro e w' ⟨rfl,rfl⟩
   exact⟨_,rfl,Below.refl _ _,d8 (by simp[dj])⟩
 | list _ b off c sz g k1 k2 k3 k4 k5=>
   have hlen':L.length=l.length:=by rw[<- hL];simp
   by_cases hne:l=[]
   ·subst hne
    simp at hL
    subst hL
    refine (h0 _ c _ w).mono ?_
    rintro e w' ⟨rfl,rfl⟩
    exact⟨_,rfl,Below.refl _ _,d8 (by simp[dj])⟩
   ·have hget:∀ (i:Nat) (s:List UInt8),l[i]? = some s->L[i]? = some (.str s):=by
     intro i s hi
     rw[<- hL];simp[hi]
    have hpos:0<l.length:=List.length_pos_iff.2 hne
    have hsz1:sz=1:=(k3 0 _ (hget 0 _ (Uq hpos))).symm
    subst hsz1
    have hcell:∀ (i:Nat) (s:List UInt8),l[i]? = some s->w.cell? ⟨b,off+i,none⟩=some (.string ⟨s.toArray⟩):=by
     intro i s hi
     obtain⟨_,q2,_⟩:=k4 i (.str s) 0 (.str s) (hget i s hi) rfl
     have q3:=k5 i (.str s) 0 (.str s) (hget i s hi) rfl
     rw[(yY q3).1] at q2
     simpa using q2
    have hbk:b<w.heap.size:=World.block_lt_of_cell? w _ (hcell 0 _ (Uq hpos))
    have hmap:(l.map fun s=>(⟨s.toArray⟩:ByteArray)).map (·.data.toList)=l:=by
     rw[List.map_map]
     have:((fun (x:ByteArray)=>x.data.toList)∘fun (s:List UInt8)=>(⟨s.toArray⟩:ByteArray))=id:=by funext s;simp
     rw[this,List.map_id]
    have:=h b off c (l.map fun s=>⟨s.toArray⟩) ⟨sep.toArray⟩ w (fun j x hx=>by
     simp only[UE,Ut] at hx
     obtain⟨s,hs,rfl⟩:=hx
     exact hcell j s hs) hbk (by simpa using hN) (by simp;omega) (by
     rw[hmap]
     rw[mo] at hlen
     simpa using hlen)
    rw[hmap] at this
    simp only[U0] at this
    rw[hlen']
    refine this.mono ?_
    rintro e w' ⟨rfl,hb⟩
    refine⟨_,rfl,hb,?_⟩
    have e:Lib.join l (⟨sep.toArray⟩:ByteArray).data.toList=dj sep l:=by rw[mo]
    rw[e]
    exact d8 (by unfold maxLen;omega)
section
variable {P:Program}{G:Nat->List PV}
theorem oV {F:List (List Nat×List Nat)->St->Prop}{T:List (List Nat×List Nat)}{e:List (Nat×AV)}{σ:List (Nat×Blk)}{next d:Nat}{a b args:List AV}
  {k f:Nat} {args0:List AV} {bs:List Blk} {v:AV} {bs':List Blk} (h:bA P G k f args0 bs v bs') (rs:List Nat)
  (hok:lp k rs bs bs' next=true) (hargs:AVzL (a++args++b) (AV.renL (gSo next rs) args0)) (hbs:fh σ (gSo next rs) rs bs)
  (hk:F (T++[eG 2 (aU (mb (gSo next (rs.take k)) bs' 0 (gIn next (rs.take k))++eo (rs.drop k)).reverse) (σ.map (·.1))])
   ⟨(d,v.ren (gSo next (rs.take k)))::e,mb (gSo next (rs.take k)) bs' 0 (gIn next (rs.take k))++(eo (rs.drop k)++σ),next+(bs'.length - k)⟩):gK P G F T ⟨e,σ,next⟩ (some d) args (f,a,b):=by
 simp only[lp,UK,decide_eq_true_eq,UD] at hok
 obtain⟨⟨⟨⟨h1,h2⟩,h3⟩,h4⟩,h5⟩:=hok
 have hf:=h.frame hargs hbs h5 h4 h1 h2 (fun b hb e=>by
  have:=h3 b hb
  subst e;cases this)
 have e:je σ (mb (gSo next (rs.take k)) bs' 0 (gIn next (rs.take k))++eo (rs.drop k)).reverse=mb (gSo next (rs.take k)) bs' 0 (gIn next (rs.take k))++(eo (rs.drop k)++σ):=by
  rw[gO,List.reverse_reverse,List.append_assoc]
 refine ke (δ:=(mb (gSo next (rs.take k)) bs' 0 (gIn next (rs.take k))++eo (rs.drop k)).reverse) (top:=next+(bs'.length - k)) (hf.mono fun v' s n hq=>⟨hq.1,?_,hq.2.2⟩) (by omega) ?_
 ·rw[e];exact hq.2.1
 ·rw[e];exact hk
end
def wC:List AV->List AV
 | []=>[]
 | x::r=>x.cells++wC r
theorem Cy:wC []=[]:=_root_.id rfl
theorem wB (x:AV)(r:List AV):wC (x::r)=x.cells++wC r:=_root_.id rfl
theorem sY:∀ l:List AV,l.flatMap AV.cells=wC l
 | []=>rfl
 | x::r=>by rw[Vx,sY r];rfl
section
variable {P:Program}{G:Nat->List PV}
theorem PE {b:Bool}(h:b=true):Chk b:=h
theorem Sp {e sz len new:Nat}{vs:List AV}(h:Chk (decide (vs.length=len)&&decide (len<=9223372036854775807)&&vs.all (fun v=>v.known&&v.cells.length == sz&&v.cells.all AV.one))):de true e sz len new vs=some (.row new sz 0 len,[(new,.cells e true (wC vs))]):=by
 have h':=h
 simp only[Chk,UK,decide_eq_true_eq] at h'
 obtain⟨⟨h1,h2⟩,h3⟩:=h'
 simp only[de]
 rw[if_pos ⟨h1,h2⟩,if_pos h3,sY]
theorem sr:∀ l:List PV,pvs (l.map .pv)=some l
 | []=>rfl
 | x::r=>by simp[pvs,AV.toPV,sr r]
end
attribute [push_cast] Sp Cy wB
section
variable {α β:Type}
theorem CU {l:List α}{m:Nat}{x:α}(h:l[m]? = some x):l.drop m=x::l.drop (m+1):=by
 obtain⟨h1,h2⟩:=Ur.1 h
 rw[List.drop_eq_getElem_cons h1,h2]
theorem HC {l:List α}{m:Nat}(h:¬ m<l.length):l.drop m=[]:=List.drop_eq_nil_of_le (by omega)
def ib (p:α->Bool):List α->Nat->Int
 | [],_=>-1
 | x::r,m=>if p x=true then (m:Int) else ib p r (m+1)
theorem jP {l:List α}{m:Nat}{x:α}{p:α->Bool}(h:l[m]? = some x)(hp:p x=true):ib p (l.drop m) m=m:=by
 rw[CU h,ib,if_pos hp]
theorem gA {l:List α}{m:Nat}{x:α}{p:α->Bool}(h:l[m]? = some x)(hp:p x=false):ib p (l.drop m) m=ib p (l.drop (m+1)) (m+1):=by
 rw[CU h,ib,if_neg (by rw[hp];simp)]
theorem jQ {l:List α}{m:Nat}{p:α->Bool}(h:¬ m<l.length):ib p (l.drop m) m = -1:=by rw[HC h];rfl
theorem er {p:α->Bool}:∀ (l:List α) (m:Nat),(l.find? p=none/\ib p l m = -1)\/∃ (k:Nat) (x:α),l[k]? = some x/\l.find? p=some x/\ib p l m=((m+k:Nat):Int)
 | [],m=>.inl ⟨rfl,rfl⟩
 | x::r,m=>by
   cases hx:p x with
   | true=>exact .inr ⟨0,x,rfl,by rw[List.find?_cons,hx],by rw[ib,if_pos hx];rfl⟩
   | false=>
     rw[List.find?_cons,hx,ib,if_neg (by rw[hx];simp)]
     rcases er r (m+1) with ⟨h1,h2⟩ | ⟨k,y,h1,h2,h3⟩
     ·exact .inl ⟨h1,h2⟩
     ·exact .inr ⟨k+1,y,by simpa using h1,h2,by rw[h3];congr 1;omega⟩
theorem i6 {p:α->Bool}(l:List α):(l.find? p).isSome=l.any p:=by
 induction l with
 | nil=>rfl
 | cons x r ih=>rw[List.find?_cons,List.any_cons];cases p x<;>simp[ih]
def OI:Option (List UInt8)->Option AV
 | some l=>some (.pv (.str l))
 | none=>none
def IZ (n:Int):Option (List UInt8)->Option (List UInt8)
 | some l=>some (UInt8.ofNat n.toNat::l)
 | none=>none
theorem A8 (l:List UInt8):OI (some l)=some (.pv (.str l)):=_root_.id rfl
theorem j4 (n:Int)(l:List UInt8):IZ n (some l)=some (UInt8.ofNat n.toNat::l):=_root_.id rfl
theorem Jz:u8s []=some []:=_root_.id rfl
theorem r8 (n:Int)(r:List PV):u8s (.int .u8 n::r)=IZ n (u8s r):=by
 simp only[u8s];cases u8s r<;>rfl
theorem m8:∀ l:List UInt8,u8s (l.map fun b=>PV.int .u8 (b.toNat:Int))=some l
 | []=>rfl
 | b::r=>by rw[UQ,r8,m8 r,j4];simp
theorem Et (σ:aq)(r:Nat)(l:List PV):eI σ (.olist r 1 l)=OI (u8s l):=by
 simp only[eI,be,if_true];cases u8s l<;>rfl
theorem ua (σ:aq):eI σ (.pv .nils)=some (.pv (.str [])):=_root_.id rfl
theorem Er (σ:aq)(l:List PV):eI σ (.pv (.list l))=OI (u8s l):=by
 simp only[eI,be]
 cases h:u8s l with
 | none=>by_cases hh:(l.all (fun y=>y.cells.length == 1))=true<;>simp[hh,h,OI]
 | some s=>
   obtain⟨ns,rfl,rfl⟩:=lU h
   rw[if_pos (by simp[PV.cells])]
   simp[h,OI]
end
theorem vS (G:Nat->List PV)(e:List (Nat×AV))(σ:List (Nat×Blk))(new:Nat)(x:AX):kx G e σ new (.toStr x)=da [] (eI (fun r=>lookB r σ) (evE e x)):=by
 simp only[kx];cases eI (fun r=>lookB r σ) (evE e x)<;>rfl
theorem Nx {a b:Int}(h:0<=a):a.tdiv b=a / b:=Int.tdiv_eq_ediv_of_nonneg h
theorem Nw {a b:Int}(h:0<=a):a.tmod b=a % b:=Int.tmod_eq_emod_of_nonneg h
def HN:Option UInt8->Option AV
 | some b=>some (.pv (.int .u8 (b.toNat:Int)))
 | none=>none
theorem bl (b:UInt8):HN (some b)=some (.pv (.int .u8 (b.toNat:Int))):=_root_.id rfl
theorem gW (l:List UInt8)(k:IntKind)(i:Nat):gm (.pv (.str l)) (.pv (.int k (i:Int)))=HN l[i]?:=by
 simp only[gm,Int.toNat_natCast]
 rw[if_pos (by omega)]
 cases l[i]? <;> rfl
theorem qf (l:List UInt8)(k:IntKind):gm (.pv (.str l)) (.pv (.int k 0))=HN l[0]?:=gW l k 0
theorem qg (l:List UInt8)(k:IntKind)(i:Nat):gm (.pv (.str l)) (.pv (.int k ((i:Int)+1)))=HN l[i+1]?:=gW l k (i+1)
attribute [push_cast] bl gW qf qg vS Nx Nw A8 j4 Jz r8 m8 Et ua Er
section
variable {P:Program}{G:Nat->List PV}
end
def To (sz s off:Nat):Blk->Option AV
 | .cells _ f l=>if f=true/\s=sz/\0<sz/\off=0 then some (.pv (.int .i64 ((l.length / sz:Nat):Int))) else none
 | _=>none
theorem Fw (sz:Nat)(σ:aq)(r s off len:Nat):Fx sz σ (.row r s off len)=To sz s off (σ r):=by
 simp only[Fx,To];cases σ r<;>rfl
def Oo (sz r s off:Nat)(h:Int):Blk->Option AV
 | .cells _ f l=>if f=true/\s=sz/\0<sz/\off=0/\0<=h/\h.toNat*sz<=l.length then some (.row r sz 0 h.toNat) else none
 | _=>none
theorem Ad (sz:Nat)(σ:aq)(r s off len:Nat)(k:IntKind)(h:Int):l7 sz σ (.row r s off len) (.pv (.int k h))=Oo sz r s off h (σ r):=by
 simp only[l7,Oo];cases σ r<;>rfl
def Th (sz s off len:Nat):Blk->Option (Nat×List AV)
 | .cells _ _ l=>if s=sz/\off+len*sz<=l.length then some (len,(l.drop off).take (len*sz)) else none
 | _=>none
theorem ER (sz:Nat)(σ:aq)(r s off len:Nat):xN sz σ (.row r s off len)=Th sz s off len (σ r):=by
 cases hh:σ r<;>simp[xN,Th,hh]
theorem JP (sz r:Nat)(σ:aq)(l:List PV):xN sz σ (.olist r sz l)=some (l.length,cn l):=by
 simp[xN,be]
def Px (sz r s off len:Nat):Blk->Option (Nat×List AV)->Option (AV×List (Nat×Blk))
 | .cells T f l,o=>if s=sz then o.bind (Mo sz r off len T f l) else none
 | _,_=>none
theorem Ar (sz:Nat)(σ:aq)(r s off len:Nat)(y:AV):nI sz σ (.row r s off len) y=Px sz r s off len (σ r) (xN sz σ y):=by
 simp only[nI,Px];cases σ r<;>rfl
def I6 (r q:Nat)(k:List PV):Blk->Blk->Option AV
 | .tok _ _,.cells _ f l=>if r≠q/\f=true/\0<l.length/\0<k.length then some (.pv (.bool false)) else none
 | _,_=>none
theorem vd (σ:aq)(r s q sz off len:Nat)(k:List PV):gr σ (.olist r s k) (.row q sz off len)=I6 r q k (σ r) (σ q):=by
 simp only[gr,I6];cases σ r<;>cases σ q<;>rfl
def Qj (e sz by_:Nat)(zs:List PV)(new s off len:Nat)(k:Int):Blk->Option (AV×List (Nat×Blk))
 | .cells _ f l=>if f=true/\s=sz/\0<sz/\off=0/\0<k/\l.length<(len+k.toNat)*sz/\zs.length=sz/\zs.all PV.one=true/\kY len k.toNat by_=true then
    some (.row new sz 0 (len+k.toNat),[(new,.cells e false (l.take (len*sz)++(List.replicate k.toNat zs).flatten.map .pv))]) else none
 | _=>none
theorem AH (e sz by_:Nat)(zs:List PV)(new:Nat)(σ:aq)(r s off len:Nat)(kd:IntKind)(k:Int):nK e sz by_ zs new σ (.row r s off len) (.pv (.int kd k))=Qj e sz by_ zs new s off len k (σ r):=by
 simp only[nK,Qj];cases σ r<;>rfl
theorem HV {e sz by_ new:Nat}{σ:aq}{y:PV}{r:List PV}(h1:r.length+1<=9223372036854775807)(h2:(r.length+1)*by_<=140737488355328):fe true e sz by_ new σ (.pv .nils) (some (y::r))=some (.row new sz 0 (r.length+1),[(new,.cells e false (cn (y::r)))]):=by
 simp only[fe];rw[if_pos (fS (by omega) (by simpa using h2))]
section
variable (e:List (Nat×AV))(σ:List (Nat×Blk))(new:Nat)
theorem OT (G:Nat->List PV)(o:XOp):kx G e σ new (.xop o)=eQ e σ new o:=_root_.id rfl
theorem Ea (sz:Nat)(x:AX):eQ e σ new (.cap sz x)=da [] (Fx sz (fun r=>lookB r σ) (evE e x)):=by
 simp only[eQ,da];cases Fx sz (fun r=>lookB r σ) (evE e x)<;>rfl
theorem yc (sz:Nat)(x h:AX):eQ e σ new (.resl sz x h)=da [] (l7 sz (fun r=>lookB r σ) (evE e x) (evE e h)):=by
 simp only[eQ,da];cases l7 sz (fun r=>lookB r σ) (evE e x) (evE e h)<;>rfl
theorem yj (sz:Nat)(x y:AX):eQ e σ new (.copy sz x y)=nI sz (fun r=>lookB r σ) (evE e x) (evE e y):=_root_.id rfl
theorem tU (x y:AX):eQ e σ new (.apart x y)=da [] (gr (fun r=>lookB r σ) (evE e x) (evE e y)):=by
 simp only[eQ,da];cases gr (fun r=>lookB r σ) (evE e x) (evE e y)<;>rfl
theorem yo (t sz by_:Nat)(zs:List PV)(x k:AX):eQ e σ new (.appz t sz by_ zs x k)=nK t sz by_ zs new (fun r=>lookB r σ) (evE e x) (evE e k):=_root_.id rfl
theorem Gy (o:XOp):dz e (.xop o)=cp e o:=_root_.id rfl
theorem pG (sz:Nat)(x y:AX):cp e (.copy sz x y)=(evE e x).name++(evE e y).name:=_root_.id rfl
theorem qW (sz:Nat)(x y:AX):aY (.xop (.copy sz x y))=0:=_root_.id rfl
end
attribute [push_cast] HV Fw Ad JP ER Ar vd AH OT Ea yc yj tU yo Gy pG qW
section
variable {e:List (Nat×AV)}{σ:List (Nat×Blk)}{new:Nat}
theorem eB (l:List UInt8):(aX l).length=l.length:=by simp[aX]
theorem wA (l:List UInt8):cn (aX l)=(aX l).map .pv:=by
 unfold cn
 congr 1
 induction l with
 | nil=>rfl
 | cons b r ih=>simp only[aX,UQ,Vx,PV.cells] at ih ⊢;rw[ih];rfl
theorem HR (x:AV):AVz x .any=True:=eq_true (.any x)
theorem tP (x:AX):eQ e σ new (.noesc x)=some (evE e x,[]):=_root_.id rfl
theorem tM (u n:Nat)(b:Bool)(x:AX):eQ e σ new (.ucast u n b x)=da [] (eY u n b (fun r=>lookB r σ) (evE e x)):=by
 simp only[eQ,da];cases eY u n b (fun r=>lookB r σ) (evE e x)<;>rfl
def r7 (u n:Nat)(back:Bool)(r o:Nat):Blk->Option AV
 | .cells T f l=>match back with
   | false=>if o<l.length then some (.ptr r o) else none
   | true=>if T=u/\o=0/\f=true/\l.length=n then some (.ptr r o) else none
 | _=>none
theorem uK (u n:Nat)(b:Bool)(τ:aq)(r o:Nat):eY u n b τ (.ptr r o)=r7 u n b r o (τ r):=by
 simp only[eY,r7];cases τ r<;>rfl
theorem Eo {u n r o T:Nat}{f:Bool}{l:List AV}(h:Chk (decide (o<l.length))):r7 u n false r o (.cells T f l)=some (.ptr r o):=if_pos (of_decide_eq_true h)
theorem En {u n r:Nat}{l:List AV}(h:Chk (decide (l.length=n))):r7 u n true r 0 (.cells u true l)=some (.ptr r 0):=if_pos ⟨rfl,rfl,rfl,of_decide_eq_true h⟩
theorem D9 (ng:Bool)(x y:AX):eQ e σ new (.peq ng x y)=da [] (K2 ng (evE e x) (evE e y)):=by
 simp only[eQ,da];cases K2 ng (evE e x) (evE e y)<;>rfl
theorem Fj (ng:Bool)(r o:Nat):K2 ng (.ptr r o) (.ptr r o)=some (.pv (.bool (!ng))):=if_pos ⟨rfl,rfl⟩
theorem yh (ng:Bool)(x y:AX):eQ e σ new (.fnil ng x y)=da [] (nF ng (evE e x) (evE e y)):=by
 simp only[eQ,da];cases nF ng (evE e x) (evE e y)<;>rfl
theorem Ao (ng:Bool)(f:Nat)(a b:List PV):nF ng (.pv (.clo f a b)) (.pv .nilf)=some (.pv (.bool ng)):=_root_.id rfl
theorem An (ng:Bool):nF ng (.pv .nilf) (.pv .nilf)=some (.pv (.bool (!ng))):=_root_.id rfl
theorem yg (x y:AX):eQ e σ new (.idxb x y)=da [] (qh (evE e x) (evE e y)):=by
 simp only[eQ,da];cases qh (evE e x) (evE e y)<;>rfl
theorem Am (s:List UInt8)(c:Int):qh (.pv (.str s)) (.pv (.int .u8 c))=some (.pv (.int .i64 (Ng c.toNat.toUInt8 s 0))):=_root_.id rfl
theorem yp (t by_:Nat)(x y:AX):eQ e σ new (.apps t by_ x y)=kw t by_ new (fun r=>lookB r σ) (evE e x) (evE e y):=_root_.id rfl
theorem uZ (t by_:Nat)(τ:aq):kw t by_ new τ (.pv .nils) (.pv (.str []))=some (.pv .nils,[]):=_root_.id rfl
theorem uY {t:Nat}{τ:aq}{c:UInt8}{k:List UInt8}(h:k.length+1<=140737488355328):kw t 1 new τ (.pv .nils) (.pv (.str (c::k)))=some (.row new 1 0 (k.length+1),[(new,.cells t false ((aX (c::k)).map .pv))]):=by
 have h1:aX (c::k) = .int .u8 (c.toNat:Int)::aX k:=_root_.id rfl
 have h2:=fS (n:=0) (m:=(aX k).length+1) (by_:=1) (by rw[eB];omega) (by rw[eB];omega)
 simp only[kw,I5,h1]
 rw[if_pos h2,<- h1,wA,eB]
def Qk (t by_ new q s off len:Nat)(k:List UInt8):Blk->Option (AV×List (Nat×Blk))
 | .cells e' _ l=>if e'=t/\s=1/\off=0/\len*1<=l.length/\kY len (aX k).length by_=true then some (.row new 1 0 (len+(aX k).length),[(q,.none),(new,.cells t false (l.take (len*1)++cn (aX k)))]) else none
 | _=>none
theorem AI (t by_:Nat)(τ:aq)(q s off len:Nat)(k:List UInt8):kw t by_ new τ (.row q s off len) (.pv (.str k))=Qk t by_ new q s off len k (τ q):=by
 simp only[kw,I5,Qk]
 cases τ q<;>rfl
theorem Cx (k:IntKind)(n:Int):cn [PV.int k n]=[.pv (.int k n)]:=_root_.id rfl
theorem tN (x:AX):eQ e σ new (.sdata x)=da [] (gl (evE e x)):=by
 simp only[eQ,da];cases gl (evE e x)<;>rfl
theorem uN:gl (.pv .nils)=some (.pv .nilp):=_root_.id rfl
theorem uM (r s off n:Nat):gl (.row r s off (n+1))=some (.ptr r off):=by rw[gl];exact if_pos (Nat.succ_pos n)
theorem xY (t:Nat)(x k:AX):eQ e σ new (.ustr t x k)=nC t (fun r=>lookB r σ) (evE e x) (evE e k):=_root_.id rfl
theorem Ac (t:Nat)(τ:aq):nC t τ (.pv .nilp) (.pv (.int .i64 0))=some (.pv (.str []),[]):=_root_.id rfl
theorem Aa (t:Nat)(τ:aq)(r o:Nat)(k:Int):nC t τ (.ptr r o) (.pv (.int .i64 k))=Jt t r o k (τ r):=_root_.id rfl
theorem vL (t:Nat)(l:List UInt8):(Blk.bts t l).names=[]:=_root_.id rfl
theorem Fh (f:Nat->Option Nat)(t:Nat)(l:List UInt8):(Blk.bts t l).ren f = .bts t l:=_root_.id rfl
theorem pI (t b:Nat)(x y:AX):cp e (.apps t b x y)=(evE e x).name:=_root_.id rfl
theorem pA (t:Nat)(x y:AX):cp e (.ustr t x y)=(evE e x).name:=_root_.id rfl
theorem mY (u n:Nat)(b:Bool)(x:AX):cp e (.ucast u n b x)=(evE e x).name:=_root_.id rfl
theorem m4 (x:AX):cp e (.noesc x)=[]:=_root_.id rfl
theorem tV (g:Bool)(x y:AX):cp e (.peq g x y)=[]:=_root_.id rfl
theorem mZ (x:AX):cp e (.sdata x)=[]:=_root_.id rfl
theorem pF (g:Bool)(x y:AX):cp e (.fnil g x y)=[]:=_root_.id rfl
theorem pE (x y:AX):cp e (.idxb x y)=[]:=_root_.id rfl
theorem qZ (t b:Nat)(x y:AX):aY (.xop (.apps t b x y))=1:=_root_.id rfl
theorem qP (t:Nat)(x y:AX):aY (.xop (.ustr t x y))=0:=_root_.id rfl
theorem n5 (x:AX):aY (.xop (.sdata x))=0:=_root_.id rfl
theorem nX (u n:Nat)(b:Bool)(x:AX):aY (.xop (.ucast u n b x))=0:=_root_.id rfl
theorem n6 (x:AX):aY (.xop (.noesc x))=0:=_root_.id rfl
theorem vQ (g:Bool)(x y:AX):aY (.xop (.peq g x y))=0:=_root_.id rfl
theorem qV (g:Bool)(x y:AX):aY (.xop (.fnil g x y))=0:=_root_.id rfl
theorem qU (x y:AX):aY (.xop (.idxb x y))=0:=_root_.id rfl
end
section
variable {P:Program}{G:Nat->List PV}
def DV {ι κ:Type}(S:ι->St)(Inv:ι->Prop)(μ:ι->Nat)(x:ι)(m0:Nat)(keep:List Nat)(id:Nat)(keepX:List Nat)(SX:κ->St)(fin:κ->Prop)(Q:AExit->St->Prop):AExit->St->Prop
 | .norm,s'=>∃ x',Hd [] m0 keep s' (S x')/\Inv x'/\μ x'<μ x
 | .exit i,s'=>if i=id then ∃ y,Hd [] m0 keepX s' (SX y)/\fin y else Q (.exit i) s'
 | .ret,s'=>Q .ret s'
theorem rW {ι κ:Type}(S:ι->St)(Inv:ι->Prop)(μ:ι->Nat)(x:ι)(m0:Nat)(keep:List Nat)(id:Nat)(keepX:List Nat)(SX:κ->St)(fin:κ->Prop)(Q:AExit->St->Prop)(s:St):DV S Inv μ x m0 keep id keepX SX fin Q .norm s = ∃ x',Hd [] m0 keep s (S x')/\Inv x'/\μ x'<μ x:=_root_.id rfl
theorem rX {ι κ:Type}(S:ι->St)(Inv:ι->Prop)(μ:ι->Nat)(x:ι)(m0:Nat)(keep:List Nat)(id:Nat)(keepX:List Nat)(SX:κ->St)(fin:κ->Prop)(Q:AExit->St->Prop)(i:Nat)(s:St):DV S Inv μ x m0 keep id keepX SX fin Q (.exit i) s=if i=id then (∃ y,Hd [] m0 keepX s (SX y)/\fin y) else Q (.exit i) s:=_root_.id rfl
theorem xJ {ι κ:Type}(S:ι->St)(Inv:ι->Prop)(μ:ι->Nat)(x:ι)(m0:Nat)(keep:List Nat)(id:Nat)(keepX:List Nat)(SX:κ->St)(fin:κ->Prop)(Q:AExit->St->Prop)(s:St):DV S Inv μ x m0 keep id keepX SX fin Q .ret s=Q .ret s:=_root_.id rfl
end
attribute [push_cast] rW rX xJ HR Cx tP tM uK Eo En D9 Fj yh Ao An yg Am
 vL Fh
 yp uZ uY AI tN uN uM xY Ac Aa pI pA mY m4 tV mZ
 pF pE qZ qP n5 nX n6 vQ qV qU
def aP (P:Program)(t:TypeId):Bool:=
 match P.underlying t with
 | some (.struct _) | some (.array _ _)=>true
 | _=>false
def bt (g:Bool)(cs:List PV):PV:=
 match g with
 | true=>.agg cs
 | false=>cs.headD .undef
def bH (P:Program)(f:Field)(cs:List PV):PV:=bt (aP P f.type) ((cs.drop f.offset).take (P.cellsOf f.type))
inductive HasT (P:Program):TypeId->PV->Prop
 | bool (t:TypeId) (b:Bool):P.underlying t=some .bool->HasT P t (.bool b)
 | int (t:TypeId) (k:IntKind) (n:Int):P.underlying t=some (.int k)->(Lit.int k n).wf=true->HasT P t (.int k n)
 | str (t:TypeId) (s:List UInt8):P.underlying t=some .string->s.length<=140737488351232->HasT P t (.str s)
 | list (t e:TypeId) (l:List PV):P.underlying t=some (.slice e)->l.length<=maxLen->l.length*P.bytesOf e<=140737488351232->(∀ (i:Nat) (x:PV),l[i]? = some x->HasT P e x)->HasT P t (.list l)
 | arr (t e:TypeId) (n:Nat) (cs:List PV):P.underlying t=some (.array n e)->cs.length=P.cellsOf t->(∀ i,i<n->HasT P e (bt (aP P e) ((cs.drop (i*P.cellsOf e)).take (P.cellsOf e))))->HasT P t (.agg cs)
 | agg (t:TypeId) (fs:Array Field) (cs:List PV):P.underlying t=some (.struct fs)->cs.length=P.cellsOf t->(∀ (i:Nat) (f:Field),fs.toList[i]? = some f->HasT P f.type (bH P f cs))->HasT P t (.agg cs)
def xV (w:World)(imm:Nat->Nat->Prop)(p:PV)(cs:List Value):Prop:=
 p.cells.length=cs.length/\∀ (i:Nat) (x:PV),p.cells[i]? = some x->PRel w imm x (cs.getD i Go.undef)/\(cs.getD i Go.undef).oneCell'=true
def xP (P:Program):List Field->Nat->Option Nat
 | [],o=>some o
 | f::r,o=>if f.offset=o then xP P r (o+P.cellsOf f.type) else none
def IG (P:Program)(ts:List TypeId)(t:TypeId):Bool:=
 match P.underlying t with
 | some .bool | some (.int _) | some .string=>true
 | some (.slice e)=>ts.contains e&&decide (0<P.cellsOf e)
 | some (.struct fs)=>(match xP P fs.toList 0 with
   | some n=>decide (n=P.cellsOf t)
   | none=>false)&&fs.toList.all fun f=>ts.contains f.type
 | some (.array n e)=>ts.contains e&&decide (n*P.cellsOf e=P.cellsOf t)
 | _=>false
def Q6 (P:Program)(ts:List TypeId):Bool:=ts.all fun t=>IG P ts t
theorem HasT.cell {P:Program}{t:TypeId}{p:PV}(h:HasT P t p):bt (aP P t) p.cells=p:=by
 cases h with
 | bool _ h=>simp[aP,‹P.underlying t=_›,bt,PV.cells]
 | int _ _ h _=>simp[aP,‹P.underlying t=_›,bt,PV.cells]
 | str _ h _=>simp[aP,‹P.underlying t=_›,bt,PV.cells]
 | list _ _ h _ _ _=>simp[aP,‹P.underlying t=_›,bt,PV.cells]
 | arr _ _ _ h _ _=>simp[aP,‹P.underlying t=_›,bt,PV.cells]
 | agg _ _ h _ _=>simp[aP,‹P.underlying t=_›,bt,PV.cells]
theorem BM {P:Program}:∀ (fs:List Field) (o n:Nat),xP P fs o=some n->o<=n/\∀ f∈fs,o<=f.offset
 | [],o,n,h=>by simp only[xP,Uu] at h;subst h;simp
 | f::r,o,n,h=>by
   simp only[xP] at h
   split at h
   ·rename_i ho
    obtain⟨h1,h2⟩:=BM r _ n h
    refine⟨by omega,fun g hg=>?_⟩
    rcases UP.1 hg with rfl | hg
    ·omega
    ·have:=h2 g hg;omega
   ·cases h
section
variable {H:Type}{enc:TypeId×Value->H}{P:Program}{w:World}{spare:Nat->Bool}{held:Bool}{ts:List TypeId}{imm:Nat->Nat->Prop}
theorem gi {p:PV}{v:Value}(hc:p.cells=[p])(h:PRel w imm p v)(h1:v.oneCell'=true):xV w imm p [v]:=by
 refine⟨by rw[hc];rfl,fun i x hx=>?_⟩
 rw[hc] at hx
 cases i with
 | zero=>simp only[UW,Uu] at hx;subst hx;exact⟨h,h1⟩
 | succ i=>simp at hx
theorem ic {F:Field->Option (DataW H×List MemPlace)}{cs:List Value}{n:Nat}(hcs:cs.length=n)
  (hF:∀ f x,F f=some x->(x.1.weights P f.type).all (·<=reachBytes)=true->f.type∈ts->∃ p,HasT P f.type p/\xV w imm p ((cs.drop f.offset).take (P.cellsOf f.type))):∀ (fs:List Field) (o:Nat) (xs:List (DataW H×List MemPlace)),xP P fs o=some n->(∀ f∈fs,f.type∈ts)->fs.mapM F=some xs->(DataW.weightsEach P (fs.map (·.type)) (xs.map (·.1))).all (·<=reachBytes)=true ->
  ∃ ps:List PV,ps.length=n - o/\(∀ (i:Nat) (x:PV),ps[i]? = some x->PRel w imm x (cs.getD (o+i) Go.undef)/\(cs.getD (o+i) Go.undef).oneCell'=true) /\
    ∀ f∈fs,HasT P f.type (bt (aP P f.type) ((ps.drop (f.offset - o)).take (P.cellsOf f.type)))
 | [],o,xs,hl,_,_,_=>by
   simp only[xP,Uu] at hl
   subst hl
   exact⟨[],by simp,by simp,by simp⟩
 | f::r,o,xs,hl,ht,hm,hz=>by
   simp only[xP] at hl
   split at hl
   ·rename_i ho
    simp only[List.mapM_cons,Option.bind_eq_bind,VG,Option.pure_def,Uu] at hm
    obtain⟨x,hx,xs',hxs,rfl⟩:=hm
    simp only[UQ,DataW.weightsEach,U5,UK] at hz
    obtain⟨p,hp,hr1,hr2⟩:=hF f x hx hz.1 (ht f (by simp))
    obtain⟨q1,q2⟩:=BM r _ n hl
    obtain⟨ps,h1,h2,h3⟩:=ic hcs hF r _ xs' hl (fun g hg=>ht g (by simp[hg])) hxs hz.2
    have hpl:p.cells.length=P.cellsOf f.type:=by rw[hr1];simp;omega
    refine⟨p.cells++ps,by simp only[List.length_append];omega,fun i x hx=>?_,fun g hg=>?_⟩
    ·by_cases hi:i<p.cells.length
     ·rw[List.getElem?_append_left hi] at hx
      have:=hr2 i x hx
      have e:((cs.drop f.offset).take (P.cellsOf f.type)).getD i Go.undef=cs.getD (o+i) Go.undef:=by
       simp only[Uv,List.getElem?_take,List.getElem?_drop]
       rw[if_pos (by omega),ho]
      rw[e] at this;exact this
     ·rw[List.getElem?_append_right (by omega)] at hx
      have:=h2 _ x hx
      have e:o+P.cellsOf f.type+(i - p.cells.length)=o+i:=by omega
      rw[e] at this;exact this
    ·rcases UP.1 hg with rfl | hg'
     ·have e:((p.cells++ps).drop (g.offset - o)).take (P.cellsOf g.type)=p.cells:=by
       rw[ho,Nat.sub_self,List.drop_zero,<- hpl,List.take_left]
      rw[e,hp.cell];exact hp
     ·have:=q2 g hg'
      have e:(p.cells++ps).drop (g.offset - o)=ps.drop (g.offset - (o+P.cellsOf f.type)):=by
       rw[List.drop_append,List.drop_eq_nil_of_le (by omega),List.nil_append]
       congr 1;omega
      rw[e];exact h3 g hg'
   ·cases hl
theorem fq {t:TypeId}{p:PV}{v:Value}(hp:HasT P t p)(h:xV w imm p v.cells.toList)(ha:aP P t=true->∃ cs,v = .agg cs)(ha':aP P t=false->v.cells = #[v]):PRel w imm p v:=by
 have hc:=hp.cell
 cases hg:aP P t with
 | false=>
   rw[hg] at hc
   rw[ha' hg] at h
   obtain⟨h1,h2⟩:=h
   have:p.cells=[p]:=by
    have hl:p.cells.length=1:=by rw[h1];simp
    obtain⟨q,hq⟩:=List.length_eq_one_iff.1 hl
    rw[hq] at hc ⊢
    simp only[bt,List.headD_cons] at hc
    rw[hc]
   have:=(h2 0 p (by rw[this];rfl)).1
   simpa using this
 | true=>
   rw[hg] at hc
   obtain⟨cs,rfl⟩:=ha hg
   obtain⟨h1,h2⟩:=h
   simp only[bt] at hc
   rw[<- hc]
   refine .agg _ _ (by simpa[Value.cells] using h1.symm) fun i x hx=>?_
   rw[aA]
   exact (h2 i x hx).1
theorem iY {α β:Type}{f:α->Option β}:∀ {l:List α} {r:List β},l.mapM f=some r->r.length=l.length
 | [],r,h=>by simp at h;subst h;rfl
 | x::l,r,h=>by
   simp only[List.mapM_cons,Option.bind_eq_bind,VG,Option.pure_def,Uu] at h
   obtain⟨b,hb,r',hr',rfl⟩:=h
   simp[iY hr']
theorem HK {w:World}{a:Addr}{n:Nat}{v:Value}(h:w.cell? (a.add n)=some v):w.cell? ⟨a.block,a.off+n,none⟩=some v:=by
 obtain⟨b,off,spot⟩:=a
 unfold Addr.add at h
 by_cases hn:n=0
 ·subst hn
  rw[if_pos rfl] at h
  have:=World.cell?_spot h
  simp only at this
  subst this
  exact h
 ·rw[if_neg hn] at h;exact h
theorem DM (a:Addr)(n:Nat):(a.add n).block=a.block:=by unfold Addr.add;split<;>rfl
theorem MU (a:Addr)(n:Nat):(a.add n).off=a.off+n:=by unfold Addr.add;split<;>simp_all
theorem tz {w:World}{a:Addr}{n:Nat}{cs:List Value}(h:w.cells? 0 a n=some cs):cs.length=n/\∀ (j:Nat) (v:Value),cs[j]? = some v->w.cell? (a.add j)=some v:=by
 unfold World.cells? at h
 rw[if_pos (Nat.zero_le _)] at h
 have hl:=iY h
 simp only[List.length_range] at hl
 refine⟨hl,fun j v hv=>?_⟩
 have hj:j<n:=by rw[<- hl];exact (Ur.1 hv).1
 obtain⟨b,hb,hf⟩:=Lib.mapM_at h j j (by simp[hj])
 rw[hv] at hb;cases hb
 exact hf
theorem jb {e:TypeId}:∀ {l:List (DataW H)},(DataW.weightsAll P e l).all (·<=reachBytes)=true->∀ d∈l,(d.weights P e).all (·<=reachBytes)=true
 | [],_,d,hd=>by cases hd
 | x::r,h,d,hd=>by
   simp only[DataW.weightsAll,U5,UK] at h
   rcases UP.1 hd with rfl | hd
   ·exact h.1
   ·exact jb h.2 d hd
theorem zg {t e:TypeId}{a:Addr}{len cap:Nat}{R:List Value->Option (DataW H×List MemPlace)}{d:DataW H}{ps:List MemPlace}(hu:P.underlying t=some (.slice e))(hpos:0<P.cellsOf e)
  (hz:(d.weights P t).all (·<=reachBytes)=true) (ih:∀ cs d ps,R cs=some (d,ps)->(d.weights P e).all (·<=reachBytes)=true->∃ p,HasT P e p/\xV w imm p cs) (himm:∀ b o,b<w.heap.size->imm b o)
  (h:(if 0<=a.block/\len<=cap/\cap<=maxLen then
   (List.mapM (fun i=>(w.cells? 0 (a.add (i*P.cellsOf e)) (P.cellsOf e)).bind R) (U1 len)).bind fun elems=>
    Option.map (fun rest=>(DataW.slice (List.map (fun x=>x.fst) elems) (List.map (fun x=>x.fst) rest),MemPlace.row a ((elems.length+rest.length)*P.cellsOf e)++List.flatMap (fun x=>x.snd) (elems++rest)))
     (if spare a.block=true then List.mapM (fun j=>(w.cells? 0 (a.add ((len+j)*P.cellsOf e)) (P.cellsOf e)).bind R) (U1 (cap - len)) else some [])
   else none)=some (d,ps)):∃ p,HasT P t p/\xV w imm p [.slice (some a) len cap]:=by
 split at h
 ·rename_i hh
  obtain⟨_,hlc,hcm⟩:=hh
  simp only[VG] at h
  obtain⟨elems,he,hrest⟩:=h
  simp only[Ut,Uz] at hrest
  obtain⟨rest,_,rfl,_⟩:=hrest
  simp only[DataW.weights,hu,U9,U5,UK,decide_eq_true_eq,U0] at hz
  obtain⟨hz1,hz2,_⟩:=hz
  have hel:elems.length=len:=by rw[iY he];simp
  have hzl:len*P.bytesOf e<=140737488351232:=by
   have h1:elems.length*P.bytesOf e<=(elems.length+rest.length)*P.bytesOf e:=Nat.mul_le_mul_right _ (by omega)
   have h2:(elems.length+rest.length)*P.bytesOf e<=140737488351232:=hz1
   exact UX (by rw[<- hel];exact h1) h2
  have hat:∀ i,i<len->∃ cs,w.cells? 0 (a.add (i*P.cellsOf e)) (P.cellsOf e)=some cs/\∃ p,HasT P e p/\xV w imm p cs:=by
   intro i hi
   obtain⟨b,hb,hf⟩:=Lib.mapM_at he i i (by simp[hi])
   simp only[VG] at hf
   obtain⟨cs,h1,h2⟩:=hf
   obtain⟨p,h3,h4⟩:=ih cs b.1 b.2 h2 (jb hz2 b.1 (List.mem_map.2 ⟨b,Us hb,rfl⟩))
   exact⟨cs,h1,p,h3,h4⟩
  have hex:∃ l:List PV,l.length=len/\∀ (i:Nat) (x:PV),l[i]? = some x->HasT P e x/\∃ cs,w.cells? 0 (a.add (i*P.cellsOf e)) (P.cellsOf e)=some cs/\xV w imm x cs:=by
   refine⟨(U1 len).map fun i=>if h:i<len then (hat i h).choose_spec.2.choose else .undef,by simp,fun i x hx=>?_⟩
   simp only[UE,Ut] at hx
   obtain⟨j,hj,rfl⟩:=hx
   obtain⟨hlt,hji⟩:=Ur.1 hj
   simp at hlt hji
   subst hji
   rw[dif_pos hlt]
   exact⟨(hat i hlt).choose_spec.2.choose_spec.1,_,(hat i hlt).choose_spec.1,(hat i hlt).choose_spec.2.choose_spec.2⟩
  obtain⟨l,hl,hle⟩:=hex
  refine⟨.list l,.list _ _ _ hu (by omega) (by rw[hl];exact hzl) (fun i x hx=>(hle i x hx).1),gi rfl ?_ rfl⟩
  by_cases h0:len=0
  ·have:l=[]:=UG (by omega)
   subst this
   rw[h0]
   exact .lnil _ _ hcm
  ·have hcell:∀ (i:Nat) (x:PV) (j:Nat) (y:PV),l[i]? = some x->x.cells[j]? = some y->∃ v,w.cell? ((a.add (i*P.cellsOf e)).add j)=some v/\w.cell? ⟨a.block,a.off+i*P.cellsOf e+j,none⟩=some v/\PRel w imm y v/\v.oneCell'=true:=by
    intro i x j y hx hy
    obtain⟨_,cs,h1,h2,h3⟩:=hle i x hx
    obtain⟨k1,k2⟩:=tz h1
    have hj:j<cs.length:=by rw[<- h2];exact (Ur.1 hy).1
    have h4:=h3 j y hy
    have h5:=k2 j _ (Uq hj)
    refine⟨cs[j],h5,?_,?_⟩
    ·have:=HK h5
     rw[DM,MU] at this;exact this
    ·simpa[Uv,hj] using h4
   have hlen:∀ (i:Nat) (x:PV),l[i]? = some x->x.cells.length=P.cellsOf e:=by
    intro i x hx
    obtain⟨_,cs,h1,h2,_⟩:=hle i x hx
    rw[h2,(tz h1).1]
   obtain⟨b,off,spot⟩:=a
   have hspot:spot=none:=by
    have hx:=Uq (show 0<l.length by omega)
    have hy:=Uq (show 0<(l[0]'(by omega)).cells.length by rw[hlen 0 _ hx];exact hpos)
    obtain⟨v,hv,_⟩:=hcell 0 _ 0 _ hx hy
    have:=World.cell?_spot hv
    simpa[Addr.add] using this
   subst hspot
   have:=PRel.list (w:=w) (imm:=imm) l b off cap (P.cellsOf e) (fun i j=>(w.cell? ⟨b,off+i*P.cellsOf e+j,none⟩).getD Go.undef) (by omega) hcm hlen (fun i x j y hx hy=>by
     obtain⟨v,_,hv,_,h1⟩:=hcell i x j y hx hy
     have hv':w.cell? ⟨b,off+i*P.cellsOf e+j,none⟩=some v:=hv
     have hb:=World.block_lt_of_cell? w _ hv'
     exact⟨himm _ _ hb,by rw[hv'];rfl,by rw[hv'];exact h1⟩) (fun i x j y hx hy=>by
     obtain⟨v,_,hv,h1,_⟩:=hcell i x j y hx hy
     have hv':w.cell? ⟨b,off+i*P.cellsOf e+j,none⟩=some v:=hv
     rw[hv'];exact h1)
   rw[hl] at this
   exact this
 ·cases h
theorem ur {t:TypeId}{fs:Array Field}{cs:List Value}{R:TypeId->List Value->Option (DataW H×List MemPlace)}{d:DataW H}{ps:List MemPlace}(hu:P.underlying t=some (.struct fs))
  (hstep:((match xP P fs.toList 0 with
   | some n=>decide (n=P.cellsOf t)
   | none=>false)&&fs.toList.all fun f=>ts.contains f.type)=true)
  (hz:(d.weights P t).all (·<=reachBytes)=true) (ih:∀ t cs d ps,t∈ts->R t cs=some (d,ps)->(d.weights P t).all (·<=reachBytes)=true->∃ p,HasT P t p/\xV w imm p cs)
  (h:(if cs.length=P.cellsOf t then Option.map (fun xs=>(DataW.agg (List.map (fun x=>x.fst) xs),List.flatMap (fun x=>x.snd) xs)) (List.mapM (fun f=>R f.type (Vw (P.cellsOf f.type) (List.drop f.offset cs))) fs.toList) else none)=some (d,ps)) :
  ∃ p,HasT P t p/\xV w imm p cs:=by
 split at h
 ·rename_i hcs
  simp only[Ut,Uz] at h
  obtain⟨xs,hxs,rfl,_⟩:=h
  simp only[DataW.weights,hu] at hz
  simp only[UK] at hstep
  obtain⟨h1,h2⟩:=hstep
  split at h1
  ·rename_i n hn
   simp only[decide_eq_true_eq] at h1
   subst h1
   obtain⟨qs,k1,k2,k3⟩:=ic (w:=w) (imm:=imm) (P:=P) (ts:=ts) (H:=H) hcs (F:=fun f=>R f.type (Vw (P.cellsOf f.type) (List.drop f.offset cs))) (fun f x hx hz hf=>ih f.type _ x.1 x.2 hf hx hz) fs.toList 0 xs hn (fun f hf=>by simpa using (UD.1 h2) f hf) hxs hz
   refine⟨.agg qs,.agg _ fs _ hu (by omega) (fun i f hf=>?_),by simp only[PV.cells];omega,fun i x hx=>?_⟩
   ·have:=k3 f (Us hf)
    rwa [Nat.sub_zero] at this
   ·have:=k2 i x hx
    rwa [UN] at this
  ·cases h1
 ·cases h
def xC (P:Program)(e:TypeId):Nat->Nat->List Field
 | 0,_=>[]
 | n+1,k=>{ (default:Field) with type:=e,offset:=k*P.cellsOf e }::xC P e n (k+1)
theorem tI (P:Program)(e:TypeId):∀ n k,xP P (xC P e n k) (k*P.cellsOf e)=some ((k+n)*P.cellsOf e)
 | 0,k=>by simp[xC,xP]
 | n+1,k=>by
   rw[xC,xP,if_pos rfl]
   have:=tI P e n (k+1)
   simp only
   rw[show k*P.cellsOf e+P.cellsOf e=(k+1)*P.cellsOf e by rw[Nat.succ_mul],this]
   congr 2;omega
theorem tH {P:Program}{e:TypeId}:∀ {n k:Nat} {f:Field},f∈xC P e n k->f.type=e
 | 0,_,_,h=>by cases h
 | n+1,k,f,h=>by
   rcases UP.1 h with rfl | h
   ·rfl
   ·exact tH h
theorem DI {P:Program}{e:TypeId}:∀ {n k i:Nat},i<n->∃ f,f∈xC P e n k/\f.type=e/\f.offset=(k+i)*P.cellsOf e
 | 0,_,_,h=>by omega
 | n+1,k,0,_=>⟨_,Vt,rfl,by simp⟩
 | n+1,k,i+1,h=>by
   obtain⟨f,h1,h2,h3⟩:=DI (P:=P) (e:=e) (n:=n) (k:=k+1) (i:=i) (by omega)
   exact⟨f,List.mem_cons_of_mem _ h1,h2,by rw[h3];congr 1;omega⟩
theorem pg {α:Type}{P:Program}{e:TypeId}{R:TypeId->List Value->Option α}{cs:List Value}:∀ (n k:Nat),(List.range' k n).mapM (fun i=>R e ((cs.drop (i*P.cellsOf e)).take (P.cellsOf e)))=(xC P e n k).mapM (fun f=>R f.type ((cs.drop f.offset).take (P.cellsOf f.type)))
 | 0,k=>by simp[xC]
 | n+1,k=>by
   rw[List.range'_succ,xC,List.mapM_cons,List.mapM_cons,pg n (k+1)]
theorem iG {P:Program}{e:TypeId}:∀ (n k:Nat) (l:List (DataW H)),l.length=n->DataW.weightsEach P ((xC P e n k).map (·.type)) l=DataW.weightsAll P e l
 | 0,k,l,h=>by
   obtain rfl:=UG h
   simp[xC,DataW.weightsEach,DataW.weightsAll]
 | n+1,k,l,h=>by
   cases l with
   | nil=>simp at h
   | cons d r=>
     simp only[xC,UQ,DataW.weightsEach,DataW.weightsAll]
     rw[iG n (k+1) r (by simpa using h)]
theorem MM {t e:TypeId}{n:Nat}{cs:List Value}{R:TypeId->List Value->Option (DataW H×List MemPlace)}{d:DataW H}{ps:List MemPlace}(hu:P.underlying t=some (.array n e))
  (hstep:ts.contains e=true/\n*P.cellsOf e=P.cellsOf t)
  (hz:(d.weights P t).all (·<=reachBytes)=true) (ih:∀ t cs d ps,t∈ts->R t cs=some (d,ps)->(d.weights P t).all (·<=reachBytes)=true->∃ p,HasT P t p/\xV w imm p cs)
  (h:(if cs.length=P.cellsOf t then Option.map (fun xs=>(DataW.agg (List.map (fun x=>x.fst) xs),List.flatMap (fun x=>x.snd) xs)) (List.mapM (fun i=>R e (Vw (P.cellsOf e) (List.drop (i*P.cellsOf e) cs))) (U1 n)) else none)=some (d,ps)) :
  ∃ p,HasT P t p/\xV w imm p cs:=by
 split at h
 ·rename_i hcs
  simp only[Ut,Uz] at h
  obtain⟨xs,hxs,rfl,_⟩:=h
  have hxl:xs.length=n:=by rw[iY hxs];simp
  rw[List.range_eq_range',pg n 0] at hxs
  simp only[DataW.weights,hu] at hz
  rw[<- iG (P:=P) n 0 _ (by simpa using hxl)] at hz
  have hlay:=tI P e n 0
  rw[Nat.zero_mul,UN,hstep.2] at hlay
  obtain⟨qs,k1,k2,k3⟩:=ic (w:=w) (imm:=imm) (P:=P) (ts:=ts) (H:=H) hcs (F:=fun f=>R f.type (Vw (P.cellsOf f.type) (List.drop f.offset cs))) (fun f x hx hz hf=>ih f.type _ x.1 x.2 hf hx hz) (xC P e n 0) 0 xs hlay
   (fun f hf=>by rw[tH hf];simpa using hstep.1) hxs hz
  refine⟨.agg qs,.arr _ e n _ hu (by omega) (fun i hi=>?_),by simp only[PV.cells];omega,fun i x hx=>?_⟩
  ·obtain⟨f,hf,h1,h2⟩:=DI (P:=P) (e:=e) (k:=0) hi
   have:=k3 f hf
   rwa [h1,h2,Nat.sub_zero,UN] at this
  ·have:=k2 i x hx
   rwa [UN] at this
 ·cases h
theorem iR (hts:Q6 P ts=true)(himm:∀ b o,b<w.heap.size->imm b o):∀ (fuel:Nat) (t:TypeId) (cs:List Value) (d:DataW H) (ps:List MemPlace),t∈ts->DataW.trod enc P w 0 spare held fuel t cs=some (d,ps)->(d.weights P t).all (·<=reachBytes)=true->∃ p,HasT P t p/\xV w imm p cs
 | 0,t,cs,d,ps,_,h,_=>by simp[DataW.trod] at h
 | fuel+1,t,cs,d,ps,ht,h,hz=>by
   have hstep:=(UD.1 hts) t ht
   unfold IG at hstep
   rw[DataW.trod.eq_def] at h
   simp only at h
   cases hu:P.underlying t with
   | none=>rw[hu] at hstep;simp at hstep
   | some u=>
     rw[hu] at hstep h
     cases u with
     | bool=>
       split at h
       all_goals first
        | (rename_i b h1;exact⟨.bool b,.bool _ _ hu,gi rfl (.bool _) rfl⟩)
        | (exfalso;simp_all;done)
        | skip
     | int k=>
       split at h
       all_goals first
        | (rename_i k' k2 n heq
           simp only[Uu,TypeDesc.int.injEq] at heq
           subst heq
           split at h
           ·rename_i hh
            obtain⟨rfl,hw⟩:=hh
            exact⟨.int _ n,.int _ _ _ hu hw,gi rfl (.int _ _) rfl⟩
           ·cases h)
        | (exfalso;simp_all;done)
        | skip
     | string=>
       split at h
       all_goals first
        | (rename_i s _
           split at h
           ·rename_i hh
            cases h
            simp only[DataW.weights,U9,List.all_nil,Bool.and_true,decide_eq_true_eq] at hz
            exact⟨.str s.data.toList,.str _ _ hu hz,gi rfl (.str _ hh) rfl⟩
           ·cases h)
        | (exfalso;simp_all;done)
        | skip
     | slice e=>
       split at h
       all_goals first
        | (exact⟨.list [],.list _ _ _ hu (by simp) (by simp) (by simp),gi rfl (.lnil none 0 (by simp)) rfl⟩)
        | (rename_i e' a len cap heq
           simp only[Uu,TypeDesc.slice.injEq] at heq
           subst heq
           simp only[UK,decide_eq_true_eq] at hstep
           exact zg hu hstep.2 hz (fun cs d ps h hz=>iR hts himm fuel _ cs d ps (by simpa using hstep.1) h hz) himm h)
        | (exfalso;simp_all;done)
        | skip
     | struct fs=>
       split at h
       all_goals first
        | (rename_i fs' heq
           simp only[Uu,TypeDesc.struct.injEq] at heq
           subst heq
           exact ur hu hstep hz (fun t cs d ps ht h hz=>iR hts himm fuel t cs d ps ht h hz) h)
        | (exfalso;simp_all;done)
        | skip
     | array n e=>
       simp only[UK,decide_eq_true_eq] at hstep
       split at h
       all_goals first
        | (rename_i n' e' heq
           simp only[Uu,TypeDesc.array.injEq] at heq
           obtain⟨rfl,rfl⟩:=heq
           exact MM hu hstep hz (fun t cs d ps ht h hz=>iR hts himm fuel t cs d ps ht h hz) h)
        | (exfalso;simp_all;done)
        | skip
     | _=>simp at hstep
end
open Go.ChangeShapes Go.WideShapes
section
variable {H:Type}{enc:TypeId×Value->H}{P:Program}{W:World}{ts:List TypeId}{base:Nat}
def oq (W:World):Nat->Nat->Prop:=fun b _=>b<W.heap.size
theorem MN (hts:Q6 P ts=true){t:TypeId}(ht:t∈ts){v:Value}{d:DataW H}{p:List MemPlace}(hok:Value.okWide P W .any base t v)(h:DataW.Trod enc P W 0 (fun _=>true) true t v d p)(hz:(d.weights P t).all (·<=reachBytes)=true) :
  ∃ x,HasT P t x/\PRel W (oq W) x v:=by
 obtain⟨fuel,hf⟩:=h
 obtain⟨x,h1,h2⟩:=iR (w:=W) (imm:=oq W) hts (fun b o h=>h) fuel t _ d p ht hf hz
 refine⟨x,h1,?_⟩
 cases h1 with
 | bool _ b hu=>obtain⟨b',rfl⟩:=okWide_bool hu hok;exact fq (.bool _ _ hu) h2 (by simp[aP,hu]) (fun _=>rfl)
 | int _ k n hu hw=>obtain⟨b',rfl⟩:=okWide_int hu hok;exact fq (.int _ _ _ hu hw) h2 (by simp[aP,hu]) (fun _=>rfl)
 | str _ s hu hs=>obtain⟨b',rfl⟩:=okWide_string hu hok;exact fq (.str _ _ hu hs) h2 (by simp[aP,hu]) (fun _=>rfl)
 | list _ e l hu hl hl2 hle=>obtain⟨a,len,cap,rfl⟩:=okWide_slice hu hok;exact fq (.list _ _ _ hu hl hl2 hle) h2 (by simp[aP,hu]) (fun _=>rfl)
 | arr _ e n cs hu hl hle=>
   have hok':=hok
   simp only[Value.okWide,hu] at hok'
   obtain⟨cs',rfl,_⟩:=hok'
   exact fq (.arr _ _ _ _ hu hl hle) h2 (fun _=>⟨_,rfl⟩) (by simp[aP,hu])
 | agg _ fs cs hu hl hle=>obtain⟨cs',rfl,_⟩:=okWide_struct hu hok;exact fq (.agg _ _ _ hu hl hle) h2 (fun _=>⟨_,rfl⟩) (by simp[aP,hu])
theorem tJ (hts:Q6 P ts=true):∀ (tys:List TypeId) (vs:List Value) (ds:List (DataW H)) (p:List MemPlace),(∀ t∈tys,t∈ts)->(∀ (j:Nat) (t:TypeId) (v:Value),tys[j]? = some t->vs[j]? = some v->Value.okWide P W .any base t v) ->
  DataW.TrodAll enc P W 0 (fun _=>true) true tys vs ds p->(DataW.weightsEach P tys ds).all (·<=reachBytes)=true->vs.length=tys.length/\ds.length=tys.length/\∃ xs:List PV,xs.length=tys.length/\(∀ (i:Nat) (x:PV),xs[i]? = some x->PRel W (oq W) x (vs.getD i Go.undef))/\(∀ (i:Nat) (t:TypeId) (x:PV),tys[i]? = some t->xs[i]? = some x->HasT P t x)
 | [],vs,ds,p,_,_,h,_=>by
   cases vs<;>cases ds<;>simp[DataW.TrodAll] at h
   exact⟨rfl,rfl,[],rfl,by simp,by simp⟩
 | t::tys,vs,ds,p,ht,hok,h,hz=>by
   obtain⟨v,vs',d,ds',p',q',rfl,rfl,rfl,h1,h2⟩:=trodAll_cons h
   simp only[DataW.weightsEach,U5,UK] at hz
   obtain⟨x,k1,k2⟩:=MN (base:=base) hts (ht t (by simp)) (hok 0 t v rfl rfl) h1 hz.1
   obtain⟨l1,l2,xs,l3,l4,l5⟩:=tJ hts tys vs' ds' q' (fun t h=>ht t (by simp[h])) (fun j t v h1 h2=>hok (j+1) t v (by simpa using h1) (by simpa using h2)) h2 hz.2
   refine⟨by simp[l1],by simp[l2],x::xs,by simp[l3],fun i y hy=>?_,fun i t' y ht' hy=>?_⟩
   ·cases i with
    | zero=>simp only[UW,Uu] at hy;subst hy;simpa using k2
    | succ i=>simpa using l4 i y (by simpa using hy)
   ·cases i with
    | zero=>
      simp only[UW,Uu] at hy ht'
      subst hy;subst ht';exact k1
    | succ i=>exact l5 i t' y (by simpa using ht') (by simpa using hy)
theorem kK:∀ (tys:List TypeId) (vs:List Value) (ds:List (DataW H)) (p:List MemPlace),DataW.TrodAll enc P W 0 (fun _=>true) true tys vs ds p->∀ x∈p,x.block<W.heap.size
 | [],vs,ds,p,h=>by
   cases vs<;>cases ds<;>simp[DataW.TrodAll] at h
   subst h;simp
 | t::tys,vs,ds,p,h=>by
   obtain⟨v,vs',d,ds',p',q',rfl,rfl,rfl,⟨m,hm⟩,h2⟩:=trodAll_cons h
   intro x hx
   rcases UY.1 hx with hx | hx
   ·exact DataW.trod_lt m _ _ _ hm x hx
   ·exact kK tys vs' ds' q' h2 x hx
theorem ph (hlaid:laidOutB P=true){W':World}(hb:Below W.heap.size W W'):∀ (tys:List TypeId) (vs:List Value) (ds:List (DataW H)) (p:List MemPlace),(∀ t∈tys,P.readableRec t=true/\t<P.types.size) ->
  DataW.TrodAll enc P W 0 (fun _=>true) true tys vs ds p->DataW.TrodAll enc P W' 0 (fun b=>decide (b<W.heap.size)) true tys vs ds p
 | [],vs,ds,p,_,h=>by
   cases vs<;>cases ds<;>simp[DataW.TrodAll] at h
   subst h
   exact trodAll_mk0
 | t::tys,vs,ds,p,ht,h=>by
   have hlt:=kK _ _ _ _ h
   obtain⟨v,vs',d,ds',p',q',rfl,rfl,rfl,h1,h2⟩:=trodAll_cons h
   exact trodAll_cons_mk (Below.trod hlaid (ht t (by simp)).1 (ht t (by simp)).2 h1 hb (fun x hx=>hlt x (UY.2 (.inl hx)))) (ph hlaid hb tys vs' ds' q' (fun t h=>ht t (by simp[h])) h2)
theorem eD:∀ (ts us:List TypeId) (ds gs:List (DataW H)),(DataW.weightsEach P (ts++us) (ds++gs)).all (·<=reachBytes)=true->(DataW.weightsEach P ts ds).all (·<=reachBytes)=true
 | [],_,_,_,_=>by simp[DataW.weightsEach]
 | _::_,_,[],_,_=>by simp[DataW.weightsEach]
 | t::ts,us,d::ds,gs,h=>by
   simp only[List.cons_append,DataW.weightsEach,U5,UK] at h ⊢
   exact⟨h.1,eD ts us ds gs h.2⟩
theorem GH {f:FuncId}{fn:Func}{s:ChangeSpec}{args:Array Value}{ds gs:List (DataW H)}{before:List MemPlace}{G:Nat->List PV}{tb:TypeId}
  (hs:s.vars=[]) (hlaid:laidOutB P=true) (hread:∀ t∈fn.params.toList,P.readableRec t=true/\t<P.types.size) (hts:Q6 P ts=true) (htys:∀ t∈fn.params.toList,t∈ts)
  (hres:fn.resultTypes = #[tb]) (htb:P.underlying tb=some .bool)
  (hfn:∀ ds:List (DataW H),ds.length=fn.params.toList.length->s.fn H ds = { results:=[.lit (.bool true)],args:=ds })
  (hval:∀ (j:Nat) (t:TypeId) (v:Value),fn.params[j]? = some t->args[j]? = some v->Value.okWide P W .any base t v) (hW:DataW.Whole enc P fn.params.toList s.vars false W args.toList ds gs before)
  (hsz:(DataW.weightsEach P (fn.params.toList++s.plain.varTypes P) (ds++gs)).all (·<=reachBytes)=true)
  (hG:du G W (oq W))
  (hlaw:∀ ps:List PV,ps.length=fn.params.toList.length->(∀ (i:Nat) (t:TypeId) (x:PV),fn.params.toList[i]? = some t->ps[i]? = some x->HasT P t x)->ap P G f ps (.bool true)) :
  Calls P f args W fun e W'=>∃ v,e = .returned v/\s.post enc P fn false true false false W args v W':=by
 have hW':=hW
 obtain⟨p,q,hA,hV,rfl,hfz,hnd⟩:=hW
 rw[hs] at hV
 obtain⟨rfl,rfl⟩:=trodVars_none hV
 obtain⟨l1,l2,xs,l3,l4,l5⟩:=tJ (base:=base) hts fn.params.toList args.toList ds p htys (fun j t v h1 h2=>hval j t v (by simpa using h1) (by simpa using h2)) hA (eD _ _ _ _ hsz)
 obtain⟨_,hP⟩:=hlaw xs l3 l5
 refine (hP W (oq W) args hG (fun b o h=>h) (by rw[l3,<- l1];simp) (fun i x hx=>by rw[aA];exact l4 i x hx)).mono ?_
 rintro e W' ⟨u,imm',rfl,hb,_,_,_,hu⟩
 cases hu
 refine⟨_,rfl,ds,[],_,[],p,[],hW',?_,?_,?_,hb.frame _,fun h=>by cases h⟩
 ·rw[hres,UU,hfn ds l2]
  exact trodAll_mk1 (shut_bool htb _)
 ·rw[UU,hfn ds l2]
  exact ph hlaid hb _ _ _ _ hread hA
 ·rw[hs,UU,hfn ds l2]
  rfl
end
section
variable {e:List (Nat×AV)}{σ:List (Nat×Blk)}{new:Nat}
theorem tT:eQ e σ new .mkmap=some (.mp new,[(new,.mp [])]):=_root_.id rfl
theorem tQ (kd:Option IntKind)(co:Bool)(z:PV)(x k:AX):eQ e σ new (.mlook kd co z x k)=da [] (ma kd co z (fun r=>lookB r σ) (evE e x) (evE e k)):=by
 simp only[eQ,da];cases ma kd co z (fun r=>lookB r σ) (evE e x) (evE e k)<;>rfl
theorem yd (kd:Option IntKind)(x k v:AX):eQ e σ new (.mset kd x k v)=tX (.pv .undef) (l8 kd (fun r=>lookB r σ) (evE e x) (evE e k) (evE e v)):=by
 simp only[eQ,tX];cases l8 kd (fun r=>lookB r σ) (evE e x) (evE e k) (evE e v)<;>rfl
def cg (kd:Option IntKind)(co:Bool)(z k:PV):Blk->Option AV
 | .mp l=>if wq kd k=true then match fC k l 0 with
   | some (some (_,v))=>some (.pv (if co=true then .tup [v,.bool true] else v))
   | some none=>some (.pv (if co=true then .tup [z,.bool false] else z))
   | none=>none
   else none
 | _=>none
def eW (kd:Option IntKind)(r:Nat)(k p:PV):Blk->Option (List (Nat×Blk))
 | .mp l=>if wq kd k=true then match fC k l 0 with
   | some (some (i,_))=>some [(r,.mp (l.set i (k,p)))]
   | some none=>some [(r,.mp (l++[(k,p)]))]
   | none=>none
   else none
 | _=>none
theorem Fs (kd:Option IntKind)(co:Bool)(z:PV)(τ:aq)(r:Nat)(k:PV):ma kd co z τ (.mp r) (.pv k)=cg kd co z k (τ r):=by
 simp only[ma];cases τ r<;>rfl
theorem Fo (kd:Option IntKind)(τ:aq)(r:Nat)(k p:PV):l8 kd τ (.mp r) (.pv k) (.pv p)=eW kd r k p (τ r):=by
 simp only[l8];cases τ r<;>rfl
def mpS (l:List (List UInt8)):List (PV×PV):=l.map fun s=>(.str s,.bool true)
def ff (l:List (List UInt8))(s:List UInt8):List (List UInt8):=if s∈l then l else l++[s]
theorem jF (s:List UInt8):∀ (l:List (List UInt8)) (i:Nat),(s∈l->∃ j,fC (.str s) (mpS l) i=some (some (i+j,.bool true))/\l[j]? = some s)/\(s∉l->fC (.str s) (mpS l) i=some none)
 | [],i=>⟨(fun h=>by cases h),fun _=>rfl⟩
 | a::r,i=>by
   have ih:=jF s r (i+1)
   by_cases ha:s=a
   ·subst ha
    refine⟨fun _=>⟨0,?_,rfl⟩,fun h=>absurd Vt h⟩
    simp[mpS,fC,keq]
   ·have hb:(s == a)=false:=by simpa using ha
    have e:fC (.str s) (mpS (a::r)) i=fC (.str s) (mpS r) (i+1):=by
     show (match keq (.str s) (.str a) with
      | some true=>some (some (i,PV.bool true))
      | some false=>fC (.str s) (mpS r) (i+1)
      | none=>none)=_
     simp only[keq,hb]
    rw[e]
    refine⟨fun h=>?_,fun h=>ih.2 fun h'=>h (List.mem_cons_of_mem _ h')⟩
    rcases UP.1 h with h | h
    ·exact absurd h ha
    ·obtain⟨j,h1,h2⟩:=ih.1 h
     exact⟨j+1,by rw[h1,show i+1+j=i+(j+1) by omega],by simpa using h2⟩
theorem wd (l:List (List UInt8))(s:List UInt8):cg none false (.bool false) (.str s) (.mp (mpS l))=some (.pv (.bool (decide (s∈l)))):=by
 simp only[cg,wq,if_true]
 by_cases h:s∈l
 ·obtain⟨j,h1,_⟩:=(jF s l 0).1 h
  rw[h1,decide_eq_true h];rfl
 ·rw[(jF s l 0).2 h,decide_eq_false h];rfl
theorem zr (r:Nat)(l:List (List UInt8))(s:List UInt8):eW none r (.str s) (.bool true) (.mp (mpS l))=some [(r,.mp (mpS (ff l s)))]:=by
 simp only[eW,wq,if_true]
 unfold ff
 by_cases h:s∈l
 ·obtain⟨j,h1,h2⟩:=(jF s l 0).1 h
  rw[h1,if_pos h]
  simp only[UN]
  have:(mpS l).set j (.str s,.bool true)=mpS l:=by
   apply List.ext_getElem?
   intro i
   rw[List.getElem?_set]
   by_cases hij:j=i
   ·subst hij
    have hl:j<(mpS l).length:=by simp[mpS];exact (Ur.1 h2).1
    simp[mpS,(Ur.1 h2).1]
    exact (Ur.1 h2).2.symm
   ·rw[if_neg hij]
  rw[this]
 ·rw[(jF s l 0).2 h,if_neg h]
  simp[mpS]
theorem ym (sz len:Nat)(xs:List AX):eQ e σ new (.bslf sz len xs)=qm sz len (evL e xs):=_root_.id rfl
theorem xZ (x:AX):eQ e σ new (.same x)=qc (fun r=>lookB r σ) (evE e x):=_root_.id rfl
theorem ye (x:AX):eQ e σ new (.mlen x)=da [] (l9 (fun r=>lookB r σ) (evE e x)):=by
 simp only[eQ,da];cases l9 (fun r=>lookB r σ) (evE e x)<;>rfl
def LN:Blk->Option AV
 | .mp l=>some (.pv (.int .i64 l.length))
 | _=>none
theorem Fp (τ:aq)(r:Nat):l9 τ (.mp r)=LN (τ r):=by
 simp only[l9];cases τ r<;>rfl
theorem BL (l:List (List UInt8)):LN (.mp (mpS l))=some (.pv (.int .i64 l.length)):=by simp[LN,mpS]
theorem pD (x:AX):cp e (.mlen x)=(evE e x).name:=_root_.id rfl
theorem qS (x:AX):aY (.xop (.mlen x))=0:=_root_.id rfl
theorem pB (x:AX):cp e (.same x)=(evE e x).name:=_root_.id rfl
theorem qQ (x:AX):aY (.xop (.same x))=0:=_root_.id rfl
theorem Fi (τ:aq)(q s:Nat)(y:PV)(l:List PV):qc τ (.olist q s (y::l))=EW q (y::l) (τ q):=_root_.id rfl
theorem zu (q:Nat)(l:List PV)(t s:Nat):EW q l (.tok t s)=some (.pv (.list l),[(q,.none)]):=_root_.id rfl
theorem pH (sz len:Nat)(xs:List AX):cp e (.bslf sz len xs)=[]:=_root_.id rfl
theorem qY (sz len:Nat)(xs:List AX):aY (.xop (.bslf sz len xs))=0:=_root_.id rfl
theorem m6:cp e .mkmap=[]:=_root_.id rfl
theorem m5 (kd:Option IntKind)(co:Bool)(z:PV)(x k:AX):cp e (.mlook kd co z x k)=(evE e x).name:=_root_.id rfl
theorem pC (kd:Option IntKind)(x k v:AX):cp e (.mset kd x k v)=(evE e x).name:=_root_.id rfl
theorem n8:aY (.xop .mkmap)=1:=_root_.id rfl
theorem n7 (kd:Option IntKind)(co:Bool)(z:PV)(x k:AX):aY (.xop (.mlook kd co z x k))=0:=_root_.id rfl
theorem qR (kd:Option IntKind)(x k v:AX):aY (.xop (.mset kd x k v))=0:=_root_.id rfl
theorem Lw (r:Nat):(AV.mp r).name=[r]:=_root_.id rfl
theorem Gn (r:Nat):(AV.mp r).names=[r]:=_root_.id rfl
def RH:Option Nat->AV
 | some q=>.mp q
 | none=>.any
theorem Ov (f:Nat->Option Nat)(r:Nat):(AV.mp r).ren f=RH (f r):=by simp only[AV.ren,RH]<;>(cases f r<;>rfl)
theorem zW (q:Nat):RH (some q) = .mp q:=_root_.id rfl
theorem Bq (l:List (PV×PV)):(Blk.mp l).names=[]:=_root_.id rfl
theorem KX (f:Nat->Option Nat)(l:List (PV×PV)):(Blk.mp l).ren f = .mp l:=_root_.id rfl
end
attribute [push_cast] ye pD qS Fp BL xZ pB qQ Fi zu ym pH qY tT tQ yd Fs Fo wd zr m6 m5 pC n8 n7 qR Lw Gn Ov zW Bq KX
open Go.Proofs Go.Lib
section
variable {P:Program}{W:World}
theorem Ep {H:Type}{enc:TypeId×Value->H}{w:World}{base:Nat}{sp:Nat->Bool}{held:Bool}{fuel n:Nat}{t e:TypeId}{cs:List Value}{x:DataW H×List MemPlace}(ht:P.underlying t=some (.array n e))
  (h:DataW.trod enc P w base sp held fuel t cs=some x):cs.length=P.cellsOf t:=by
 cases fuel with
 | zero=>simp[DataW.trod] at h
 | succ fuel=>
   simp only[DataW.trod,ht] at h
   split at h
   ·assumption
   ·cases h
structure TabAt (w:World)(g:Nat)(ps:List PV):Prop where
 obj:∃ cs T fz,w.heap[g]? = some (.cells cs T fz)/\cs.size=ps.length
 cell:∀ (o:Nat) (p:PV),ps[o]? = some p->∃ k z,p = .int k z/\w.cell? ⟨g,o,none⟩=some (.int k z)
theorem Cm {G:Nat->List PV}(h:∀ g,G g≠[]->TabAt W g (G g)):du G W (oq W):=by
 refine⟨fun g o p hp=>?_,fun g hg=>(h g hg).obj⟩
 have hne:G g≠[]:=by intro e;rw[e] at hp;simp at hp
 obtain⟨k,z,rfl,hc⟩:=(h g hne).cell o p hp
 exact⟨World.block_lt_of_cell? W _ hc,_,hc,rfl,.int _ _⟩
theorem lW {n:String}{g:Nat}{t e:TypeId}{m:Nat}{d:DataW Unit}{ps:List PV}(hv:VarReads P W n d)(hg:P.globalNamed n=some g)(hty:(P.globals[g]?).map (·.type)=some t)(ht:P.underlying t=some (.array m e))(hl:P.cellsOf t=ps.length)
  (h:∀ (o:Nat) (p:PV),ps[o]? = some p->∃ k z,p = .int k z/\W.cell? ⟨g,o,none⟩=some (.int k z)):TabAt W g ps:=by
 refine⟨?_,h⟩
 obtain⟨g',t',cs,fuel,p,hg',hty',hvar,hd⟩:=hv
 obtain rfl:=Option.some.inj (hg.symm.trans hg')
 obtain rfl:=Option.some.inj (hty.symm.trans hty')
 have hlen:=Ep ht hd
 unfold World.var? at hvar
 rw[hg] at hvar
 simp only[Option.bind_some] at hvar
 split at hvar
 ·rename_i cs' T fz hh
  cases hvar
  exact⟨cs,T,fz,hh,by rw[<- hl,<- hlen];simp⟩
 ·cases hvar
theorem uf {n:String}{g:Nat}{t e:TypeId}{m:Nat}{k:IntKind}{zs:List Int}(hv:VarReads P W n (Lib.tabData k zs))(hg:P.globalNamed n=some g)(hty:(P.globals[g]?).map (·.type)=some t)(ht:P.underlying t=some (.array m e))
  (he:P.underlying e=some (.int k)) (hce:P.cellsOf e=1) (hct:P.cellsOf t=m) (hm:m=zs.length):TabAt W g (zs.map (PV.int k)):=by
 have hv':=hv
 refine lW hv hg hty ht (by rw[hct,hm];simp) fun o p hp=>?_
 simp only[UE,Ut] at hp
 obtain⟨z,hz,rfl⟩:=hp
 refine⟨k,z,rfl,?_⟩
 obtain⟨g',t',cs,fuel,q,hg',hty',hvar,hd⟩:=hv'
 obtain rfl:=Option.some.inj (hg.symm.trans hg')
 obtain rfl:=Option.some.inj (hty.symm.trans hty')
 have hcs:=Lib.cells_of_tab ht he hce hct hd
 rw[World.var?_cell hg hvar o,<- Array.getElem?_toList,hcs]
 simp[hz]
end

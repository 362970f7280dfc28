/- A program logic over the model: part 5 (a proof is built on it; nothing of the statement is said here). -/
import Derived.Lib.Join
import Derived.Lib.ItoaNum
import Derived.Lib.LaidTab
import Derived.Lib.AppendIntMem
import Derived.Lib.Strings
import Derived.Lib.Bytealg
import Derived.Lib.ValidLaws
import Derived.Test.YtbojpfpliibfbaaGreatDoorEnCore4
set_option linter.unusedVariables false
set_option linter.unusedSimpArgs false
namespace Go.Ab
open Go Go.RowKit
abbrev eq:=Nat->List AV->List (Nat×Blk)->Nat->Option (AV×List (Nat×Blk)×Nat)
def wj (call:eq)(G:Nat->List PV)(s:St)(d:Option Nat):AOp->Option St
 | .t o=>match o.run s.E with
   | some v=>some (s.put d v)
   | none=>none
 | .m o=>match o.run G s.next s.E s.σ with
   | some p=>some ((s.mem p.2).put d p.1)
   | none=>none
 | .call f xs=>match dB (f.ev s.E) with
   | some p=>match call p.1 (p.2.1++xs.map (·.ev s.E)++p.2.2) s.sto s.next with
     | some r=>some ((⟨s.env,r.2.1,r.2.2⟩:St).put d r.1)
     | none=>none
   | none=>none
 | .fz g x=>match Jb G s.σ g (x.ev s.E) with
   | some p=>some ((s.mem p.2).put d p.1)
   | none=>none
def kz (call:eq)(G:Nat->List PV):List AOper->St->Option St
 | [],s=>some s
 | o::r,s=>match cg s o.guard with
   | some true=>match wj call G s o.dst o.op with
     | some s'=>kz call G r s'
     | none=>none
   | some false=>kz call G r (s.put o.dst (.pv .undef))
   | none=>none
def yF (call:eq)(f:Nat)(ps:List PV):Option PV:=
 match call f (ps.map .pv) [] 0 with
 | some r=>r.1.toPV
 | none=>none
def qG (call:eq)(s:St)(d:Option Nat)(f:Nat)(args:List AV):Option (St×List Nat×List Nat):=
 match pvs args with
 | some ps=>match yF call f ps with
   | some r=>some (s.put d (.pv r),[],[])
   | none=>none
 | none=>match call f args s.sto s.next with
   | some r=>some ((⟨s.env,r.2.1,r.2.2⟩:St).put d r.1,fX 2 (be (r.2.1.take (r.2.1.length - s.sto.length)).reverse) (s.sto.map (·.1)))
   | none=>none
def k9 (call:eq)(G:Nat->List PV)(s:St)(d:Option Nat):AOp->Option (St×List Nat×List Nat)
 | .t o=>match o.run s.E with
   | some v=>some (s.put d v,[],[])
   | none=>none
 | .m o=>match o.run G s.next s.E s.σ with
   | some p=>some ((s.mem p.2).put d p.1,fX (dO o) (be p.2) (o.reads s.E))
   | none=>none
 | .call f xs=>match dB (f.ev s.E) with
   | some p=>qG call s d p.1 (p.2.1++xs.map (·.ev s.E)++p.2.2)
   | none=>none
 | .fz _ _=>none
def exD (call:eq)(G:Nat->List PV)(A:List (List Nat)):List AOper->List (List Nat×List Nat)->St->Option St
 | [],T,s=>match okB A T with
   | true=>some s
   | false=>none
 | o::r,T,s=>match cg s o.guard with
   | some true=>match k9 call G s o.dst o.op with
     | some q=>exD call G A r (T++[q.2]) q.1
     | none=>none
   | some false=>exD call G A r (T++[([],[])]) (s.put o.dst (.pv .undef))
   | none=>none
def exC (call:eq)(G:Nat->List PV):Nat->ACode->St->Option (AExit×St)
 | 0,_,_=>none
 | _+1,.skip,s=>some (.norm,s)
 | _+1,.ops l keep,s=>match kz call G l s with
   | some s'=>some (.norm,clip0 keep s')
   | none=>none
 | _+1,.draw A l l2 keep,s=>match exD call G A l [] s with
   | some s1=>match kz call G l2 s1 with
     | some s'=>some (.norm,clip0 keep s')
     | none=>none
   | none=>none
 | n+1,.seq a b,s=>match exC call G n a s with
   | some (.norm,s')=>exC call G n b s'
   | some (.exit i,s')=>some (.exit i,s')
   | some (.ret,s')=>some (.ret,s')
   | none=>none
 | n+1,.cond x a b,s=>match x.ev s.E with
   | .pv (.bool true)=>exC call G n a s
   | .pv (.bool false)=>exC call G n b s
   | _=>none
 | n+1,.block id b,s=>match exC call G n b s with
   | some (.norm,s')=>some (.norm,s')
   | some (.exit i,s')=>if i=id then some (.norm,s') else some (.exit i,s')
   | some (.ret,s')=>some (.ret,s')
   | none=>none
 | n+1,.loop keep b,s=>match exC call G n b s with
   | some (.norm,s')=>exC call G n (.loop keep b) s'
   | some (.exit i,s')=>some (.exit i,s')
   | some (.ret,s')=>some (.ret,s')
   | none=>none
 | _+1,.range _ _ _ _ _,_=>none
 | _+1,.exit id,s=>some (.exit id,s)
 | _+1,.ret,s=>some (.ret,s)
structure TabRow where
 f:Nat
 muts:List Nat
 fn:AFn
def Ex (f:Nat):List TabRow->Option AFn
 | []=>none
 | r::q=>if r.f=f then some r.fn else Ex f q
def ug (G:Nat->List PV)(fn:AFn)(s:St):Option (AV×List (Nat×Blk)×Nat):=
 match fh G s fn.res with
 | some l=>some (wg l,s.sto,s.next)
 | none=>none
def exF (tab:List TabRow)(O:Nat->List PV->Option PV)(G:Nat->List PV)(m:Nat):Nat->eq
 | 0,_,_,_,_=>none
 | n+1,f,args,sto,next=>match (pvs args).bind (O f) with
   | some r=>some (.pv r,sto,next)
   | none=>match Ex f tab with
     | some fn=>if args.length<=fn.N then match exC (exF tab O G m n) G m fn.body ⟨dx args,sto,next⟩ with
       | some (.norm,s)=>ug G fn s
       | some (.ret,s)=>ug G fn s
       | _=>none
       else none
     | none=>none
section
variable {P:Program}{G:Nat->List PV}
def bA (sto:List (Nat×Blk))(next:Nat)(sto':List (Nat×Blk))(next':Nat):Prop:=(∃ pre,sto'=pre++sto)/\next<=next'
theorem bA.refl (sto:List (Nat×Blk))(next:Nat):bA sto next sto next:=⟨⟨[],rfl⟩,Nat.le_refl _⟩
theorem bA.trans {a b c:List (Nat×Blk)}{i j k:Nat}(h:bA a i b j)(g:bA b j c k):bA a i c k:=by
 obtain⟨⟨p,rfl⟩,h2⟩:=h
 obtain⟨⟨q,rfl⟩,g2⟩:=g
 exact⟨⟨q++p,by simp⟩,Nat.le_trans h2 g2⟩
theorem pb:∀ (δ l:List (Nat×Blk)),mg l δ=δ.reverse++l
 | [],l=>rfl
 | p::r,l=>by rw[mg,pb r];simp
theorem bA.put {s:St}{sto':List (Nat×Blk)}{n:Nat}{e:List (Nat×AV)}(h:bA s.sto s.next sto' n)(d:Option Nat)(v:AV):bA s.sto s.next ((⟨e,sto',n⟩:St).put d v).sto ((⟨e,sto',n⟩:St).put d v).next:=by
 cases d<;>exact h
theorem bA.mem (s:St)(δ:List (Nat×Blk))(d:Option Nat)(v:AV):bA s.sto s.next ((s.mem δ).put d v).sto ((s.mem δ).put d v).next:=by
 have:bA s.sto s.next (mg s.sto δ) (s.next+1):=⟨⟨δ.reverse,pb δ s.sto⟩,Nat.le_succ _⟩
 cases d<;>exact this
theorem bA.put0 (s:St)(d:Option Nat)(v:AV):bA s.sto s.next (s.put d v).sto (s.put d v).next:=by
 cases d<;>exact bA.refl _ _
def fA (P:Program)(G:Nat->List PV)(call:eq):Prop:=
 ∀ f args sto next v sto' next',call f args sto next=some (v,sto',next')->bA sto next sto' next'/\(
   (∃ ps r,pvs args=some ps/\am P G f ps r/\v = .pv r/\sto'=sto/\next'=next)\/cE P G f args sto next (fun v' s' n'=>v'=v/\s'=sto'/\n'=next'))
theorem cE.mono {f:Nat}{args:List AV}{sto:List (Nat×Blk)}{next:Nat}{Q Q':AV->List (Nat×Blk)->Nat->Prop}(h:cE P G f args sto next Q)(hq:∀ v s n,Q v s n->Q' v s n):cE P G f args sto next Q':=by
 obtain⟨h1,h2⟩:=h
 refine⟨h1,fun κ vals a1 a2 a3 a4=>(h2 κ vals a1 a2 a3 a4).mono ?_⟩
 rintro e w' ⟨u,v,κ',sto',next',b1,b2,b3,b4,b5,b6,b7,b8⟩
 exact⟨u,v,κ',sto',next',b1,b2,b3,b4,b5,b6,b7,hq _ _ _ b8⟩
theorem rH {call:eq}(hc:fA P G call){f:Nat}{ps:List PV}{r:PV}(h:yF call f ps=some r):am P G f ps r:=by
 unfold yF at h
 split at h
 ·rename_i q hq
  obtain⟨v,sto',next'⟩:=q
  rcases (hc f _ _ _ v sto' next' hq).2 with ⟨ps',r',h1,h2,rfl,_,_⟩ | ht
  ·rw[pvs_map] at h1
   cases h1
   simp only[AV.toPV,Option.some.injEq] at h
   subst h;exact h2
  ·exact am.of_tcalls (ht.mono (by rintro v' _ _ ⟨rfl,_,_⟩;exact LK h))
 ·cases h
theorem Jc {call:eq}(hc:fA P G call){s s':St}{d:Option Nat}{o:AOp}{F:St->Prop}(h:wj call G s d o=some s')(hF:F s'):kU P G F s d o:=by
 cases o with
 | t o=>
   simp only[wj] at h
   split at h
   ·rename_i v hv
    cases h
    simp only[kU,hv,iv];exact hF
   ·cases h
 | m o=>
   simp only[wj] at h
   split at h
   ·rename_i v hv
    cases h
    simp only[kU,hv,aO];exact hF
   ·cases h
 | fz g x=>
   simp only[wj] at h
   split at h
   ·rename_i v hv
    cases h
    simp only[kU,hv,aO];exact hF
   ·cases h
 | call f xs=>
   simp only[wj] at h
   split at h
   ·rename_i p hp
    split at h
    ·rename_i r hr
     cases h
     obtain⟨v,sto',next'⟩:=r
     simp only[kU,hp,aO,Bw]
     rcases (hc _ _ _ _ v sto' next' hr).2 with ⟨ps,r,h1,h2,rfl,rfl,rfl⟩ | ht
     ·exact ab.pure h2 h1 hF
     ·exact ab.lent ht (by rintro v' s' n' ⟨rfl,rfl,rfl⟩;exact hF)
    ·cases h
   ·cases h
theorem jw {call:eq}(hc:fA P G call){F:St->Prop}:∀ (l:List AOper) (s s':St),kz call G l s=some s'->F s'->dH P G l F s
 | [],s,s',h,hF=>by simp only[kz,Option.some.injEq] at h;subst h;exact hF
 | o::r,s,s',h,hF=>by
   simp only[kz] at h
   simp only[dH]
   split at h
   ·rename_i hw
    rw[hw]
    split at h
    ·rename_i s1 h1
     exact Jc hc h1 (jw hc r s1 s' h hF)
    ·cases h
   ·rename_i hw
    rw[hw]
    exact jw hc r _ s' h hF
   ·cases h
theorem lT {call:eq}(hc:fA P G call){A:List (List Nat)}{F:St->Prop}:∀ (l:List AOper) (T:List (List Nat×List Nat)) (s s':St),exD call G A l T s=some s'->F s'->vcD P G A F l T s
 | [],T,s,s',h,hF=>by
   simp only[exD] at h
   split at h
   ·rename_i ho
    cases h
    exact⟨ho,hF⟩
   ·cases h
 | o::r,T,s,s',h,hF=>by
   simp only[exD] at h
   simp only[vcD]
   split at h
   ·rename_i hw
    rw[hw]
    simp only[aO,qJ]
    split at h
    ·rename_i q h1
     obtain⟨d,op,g⟩:=o
     simp only at h1 ⊢
     cases op with
     | t o=>
       simp only[k9] at h1
       split at h1
       ·rename_i v hv
        cases h1
        simp only[gU,hv,aO,CG]
        exact lT hc r _ _ s' h hF
       ·cases h1
     | m o=>
       simp only[k9] at h1
       split at h1
       ·rename_i v hv
        cases h1
        simp only[gU,hv,aO,stepM]
        exact lT hc r _ _ s' h hF
       ·cases h1
     | fz g x=>simp[k9] at h1
     | call f xs=>
       simp only[k9] at h1
       split at h1
       ·rename_i p hp
        simp only[gU,hp,aO]
        unfold qG at h1
        split at h1
        ·rename_i ps hps
         split at h1
         ·rename_i v hv
          cases h1
          exact .inl ⟨ps,v,hps,rH hc hv,lT hc r _ _ s' h hF⟩
         ·cases h1
        ·rename_i hps
         split at h1
         ·rename_i v hv
          cases h1
          obtain⟨v,sto',next'⟩:=v
          obtain⟨⟨⟨pre,hpre⟩,hle⟩,⟨ps',r',k1,_⟩ | ht⟩:=hc _ _ _ _ v sto' next' hv
          ·rw[hps] at k1;cases k1
          ·have e1:mg s.sto (sto'.take (sto'.length - s.sto.length)).reverse=sto':=by
            rw[pb,List.reverse_reverse,hpre]
            simp
           refine .inr ⟨v,(sto'.take (sto'.length - s.sto.length)).reverse,next',?_,hle,?_⟩
           ·rw[e1];exact ht
           ·rw[e1];exact lT hc r _ _ s' h hF
         ·cases h1
       ·cases h1
    ·cases h
   ·rename_i hw
    rw[hw]
    exact lT hc r _ _ s' h hF
   ·cases h
theorem vd {call:eq}(hc:fA P G call){s s':St}{d:Option Nat}{o:AOp}(h:wj call G s d o=some s'):bA s.sto s.next s'.sto s'.next:=by
 cases o with
 | t o=>
   simp only[wj] at h
   split at h
   ·cases h;exact bA.put0 _ _ _
   ·cases h
 | m o=>
   simp only[wj] at h
   split at h
   ·cases h;exact bA.mem _ _ _ _
   ·cases h
 | fz g x=>
   simp only[wj] at h
   split at h
   ·cases h;exact bA.mem _ _ _ _
   ·cases h
 | call f xs=>
   simp only[wj] at h
   split at h
   ·split at h
    ·rename_i r hr
     cases h
     obtain⟨v,sto',next'⟩:=r
     exact bA.put (hc _ _ _ _ v sto' next' hr).1 _ _
    ·cases h
   ·cases h
theorem eK {call:eq}(hc:fA P G call):∀ (l:List AOper) (s s':St),kz call G l s=some s'->bA s.sto s.next s'.sto s'.next
 | [],s,s',h=>by simp only[kz,Option.some.injEq] at h;subst h;exact bA.refl _ _
 | o::r,s,s',h=>by
   simp only[kz] at h
   split at h
   ·split at h
    ·rename_i s1 h1
     exact (vd hc h1).trans (eK hc r s1 s' h)
    ·cases h
   ·exact (bA.put0 s _ _).trans (eK hc r _ s' h)
   ·cases h
theorem qF {call:eq}(hc:fA P G call){s:St}{d:Option Nat}{o:AOp}{q:St×List Nat×List Nat}(h:k9 call G s d o=some q):bA s.sto s.next q.1.sto q.1.next:=by
 cases o with
 | t o=>
   simp only[k9] at h
   split at h
   ·cases h;exact bA.put0 _ _ _
   ·cases h
 | m o=>
   simp only[k9] at h
   split at h
   ·cases h;exact bA.mem _ _ _ _
   ·cases h
 | fz g x=>simp[k9] at h
 | call f xs=>
   simp only[k9] at h
   split at h
   ·unfold qG at h
    split at h
    ·split at h
     ·cases h;exact bA.put0 _ _ _
     ·cases h
    ·split at h
     ·rename_i r hr
      cases h
      obtain⟨v,sto',next'⟩:=r
      exact bA.put (hc _ _ _ _ v sto' next' hr).1 _ _
     ·cases h
   ·cases h
theorem kA {call:eq}(hc:fA P G call){A:List (List Nat)}:∀ (l:List AOper) (T:List (List Nat×List Nat)) (s s':St),exD call G A l T s=some s'->bA s.sto s.next s'.sto s'.next
 | [],T,s,s',h=>by
   simp only[exD] at h
   split at h
   ·cases h;exact bA.refl _ _
   ·cases h
 | o::r,T,s,s',h=>by
   simp only[exD] at h
   split at h
   ·split at h
    ·rename_i q h1
     exact (qF hc h1).trans (kA hc r _ _ s' h)
    ·cases h
   ·exact (bA.put0 s _ _).trans (kA hc r _ _ s' h)
   ·cases h
theorem oA {call:eq}(hc:fA P G call):∀ (n:Nat) (ac:ACode) (s:St) (e:AExit) (s':St),exC call G n ac s=some (e,s')->bA s.sto s.next s'.sto s'.next
 | 0,_,_,_,_,h=>by simp[exC] at h
 | n+1,ac,s,e,s',h=>by
   have ih:=oA hc n
   cases ac with
   | skip=>simp only[exC,Option.some.injEq,Prod.mk.injEq] at h;obtain⟨_,rfl⟩:=h;exact bA.refl _ _
   | exit i=>simp only[exC,Option.some.injEq,Prod.mk.injEq] at h;obtain⟨_,rfl⟩:=h;exact bA.refl _ _
   | ret=>simp only[exC,Option.some.injEq,Prod.mk.injEq] at h;obtain⟨_,rfl⟩:=h;exact bA.refl _ _
   | ops l k=>
     simp only[exC] at h
     split at h
     ·rename_i s1 h1;cases h;exact eK hc l s s1 h1
     ·cases h
   | draw A l l2 k=>
     simp only[exC] at h
     split at h
     ·rename_i s1 h1
      split at h
      ·rename_i s2 h2;cases h;exact (kA hc l [] s s1 h1).trans (eK hc l2 s1 s2 h2)
      ·cases h
     ·cases h
   | seq a b=>
     simp only[exC] at h
     split at h
     ·rename_i s1 h1;exact (ih _ _ _ _ h1).trans (ih _ _ _ _ h)
     ·rename_i i s1 h1;cases h;exact ih _ _ _ _ h1
     ·rename_i s1 h1;cases h;exact ih _ _ _ _ h1
     ·cases h
   | cond x a b=>
     simp only[exC] at h
     split at h
     ·exact ih _ _ _ _ h
     ·exact ih _ _ _ _ h
     ·cases h
   | block id b=>
     simp only[exC] at h
     split at h
     ·rename_i s1 h1;cases h;exact ih _ _ _ _ h1
     ·rename_i i s1 h1
      split at h
      ·cases h;exact ih _ _ _ _ h1
      ·cases h;exact ih _ _ _ _ h1
     ·rename_i s1 h1;cases h;exact ih _ _ _ _ h1
     ·cases h
   | loop k b=>
     simp only[exC] at h
     split at h
     ·rename_i s1 h1;exact (ih _ _ _ _ h1).trans (ih _ _ _ _ h)
     ·rename_i i s1 h1;cases h;exact ih _ _ _ _ h1
     ·rename_i s1 h1;cases h;exact ih _ _ _ _ h1
     ·cases h
   | range f ps k a b=>simp only[exC] at h;cases h
def LY (e:AExit)(s':St):AExit->St->Prop:=fun e1 s1=>e1=e/\s1=s'
theorem oL {call:eq}{G:Nat->List PV}{n:Nat}{s:St}{r:AExit×St}(h:exC call G (n+1) (.ops [⟨none,je,none⟩] []) s=some r):False:=by
 simp[exC,kz,cg,wj,je,AX.ev,dB] at h
theorem L2 {call:eq}(hc:fA P G call){c:Ctx}{κ0:Kap}{N:Nat}{muts rl:List Nat}(hG:c.G=G):∀ (n:Nat) (co:Code) (ac:ACode) (ex:List (Nat×List Nat)) (out li:List Nat) (s:St) (a:Act) (w:World) (κ:Kap) (e:AExit) (s':St),
  bq P muts N rl co ex out=some (ac,li)->exC call G n ac s=some (e,s')->Rel c κ0 N s a w κ->co.wpIn (FR none) 0 P (lift c κ0 N (LY e s')) a w:=by
 intro n
 induction n using Nat.strongRecOn with
 | _ n ih=>
 intro co ac ex out li s a w κ e s' hcc he hR
 cases n with
 | zero=>simp[exC] at he
 | succ n=>
 cases co with
 | skip=>
   simp only[bq,Option.some.injEq,Prod.mk.injEq] at hcc
   obtain⟨rfl,_⟩:=hcc
   simp only[exC,Option.some.injEq,Prod.mk.injEq] at he
   obtain⟨rfl,rfl⟩:=he
   exact wpIn_skip ⟨_,κ,hR,rfl,rfl⟩
 | exit id=>
   simp only[bq,Option.some.injEq,Prod.mk.injEq] at hcc
   obtain⟨rfl,_⟩:=hcc
   simp only[exC,Option.some.injEq,Prod.mk.injEq] at he
   obtain⟨rfl,rfl⟩:=he
   exact wpIn_exit ⟨_,κ,hR,rfl,rfl⟩
 | ret=>
   simp only[bq,Option.some.injEq,Prod.mk.injEq] at hcc
   obtain⟨rfl,_⟩:=hcc
   simp only[exC,Option.some.injEq,Prod.mk.injEq] at he
   obtain⟨rfl,rfl⟩:=he
   exact wpIn_ret ⟨_,κ,hR,rfl,rfl⟩
 | region id ops d=>
   simp only[bq] at hcc
   split at hcc
   ·rename_i l hl
    cases d with
    | false=>
      simp only[Option.some.injEq,Prod.mk.injEq] at hcc
      obtain⟨rfl,_⟩:=hcc
      simp only[exC] at he
      split at he
      ·rename_i s1 h1
       cases he
       exact wpIn_region_list (ew (F:=fun s=>s=s1) (fun s a w κ hR hF=>by subst hF;exact⟨_,κ,hR.clip0 _,rfl,rfl⟩) ops.toList l s a w κ hl hR (by rw[hG];exact jw hc l s s1 h1 rfl))
      ·cases he
    | true=>
      simp only at hcc
      split at hcc
      ·rename_i hok
       simp only[Option.some.injEq,Prod.mk.injEq] at hcc
       obtain⟨rfl,_⟩:=hcc
       simp only[exC] at he
       split at he
       ·rename_i s1 h1
        split at he
        ·rename_i s2 h2
         cases he
         exact lU (F:=fun s=>s=s2) hl hok.1 hok.2.1 hok.2.2 hR (by rw[hG];exact lT hc _ _ s s1 h1 (jw hc _ s1 s2 h2 rfl)) (fun s a w κ hR hF=>by subst hF;exact⟨_,κ,hR.clip0 _,rfl,rfl⟩)
        ·cases he
       ·cases he
      ·cases hcc
   ·cases hcc
 | seq x y=>
   simp only[bq] at hcc
   split at hcc
   ·rename_i b' lb hb
    split at hcc
    ·rename_i a' la ha
     simp only[Option.some.injEq,Prod.mk.injEq] at hcc
     obtain⟨rfl,_⟩:=hcc
     simp only[exC] at he
     split at he
     ·rename_i s1 h1
      refine wpIn_seq (Go.wpIn_mono (ih n (Nat.lt_succ_self n) x a' _ _ _ s a w κ _ _ ha h1 hR) ?_)
      intro e1 a w hq
      cases e1 with
      | normal=>
        obtain⟨s2,κ,hR,_,rfl⟩:=hq
        exact ih n (Nat.lt_succ_self n) y b' _ _ _ s2 a w κ _ _ hb he hR
      | exit id=>obtain⟨_,_,_,h,_⟩:=hq;cases h
      | ret=>obtain⟨_,_,_,h,_⟩:=hq;cases h
      | goto l=>exact hq.elim
      | panic ch=>exact hq.elim
      | outgrown=>exact hq.elim
     ·rename_i i s1 h1
      cases he
      refine wpIn_seq (Go.wpIn_mono (ih n (Nat.lt_succ_self n) x a' _ _ _ s a w κ _ _ ha h1 hR) ?_)
      intro e1 a w hq
      cases e1 with
      | normal=>obtain⟨_,_,_,h,_⟩:=hq;cases h
      | exit id=>exact hq
      | ret=>exact hq
      | goto l=>exact hq.elim
      | panic ch=>exact hq.elim
      | outgrown=>exact hq.elim
     ·rename_i s1 h1
      cases he
      refine wpIn_seq (Go.wpIn_mono (ih n (Nat.lt_succ_self n) x a' _ _ _ s a w κ _ _ ha h1 hR) ?_)
      intro e1 a w hq
      cases e1 with
      | normal=>obtain⟨_,_,_,h,_⟩:=hq;cases h
      | exit id=>exact hq
      | ret=>exact hq
      | goto l=>exact hq.elim
      | panic ch=>exact hq.elim
      | outgrown=>exact hq.elim
     ·cases he
    ·cases hcc
   ·cases hcc
 | cond x y z=>
   simp only[bq] at hcc
   split at hcc
   ·rename_i ax a' la b' lb hx hy hz
    simp only[Option.some.injEq,Prod.mk.injEq] at hcc
    obtain⟨rfl,_⟩:=hcc
    have hrel:=aF (κ:=κ) (E:=s.E) (a:=a) hx (fun i _=>hR.env i)
    simp only[exC] at he
    split at he
    ·rename_i hv
     rw[hv] at hrel
     exact wpIn_cond_true (dm hrel) (ih n (Nat.lt_succ_self n) y a' _ _ _ s a w κ _ _ hy he hR)
    ·rename_i hv
     rw[hv] at hrel
     exact wpIn_cond_false (dm hrel) (ih n (Nat.lt_succ_self n) z b' _ _ _ s a w κ _ _ hz he hR)
    ·cases he
   ·cases hcc
 | block id b=>
   simp only[bq] at hcc
   split at hcc
   ·rename_i b' lb hb
    simp only[Option.some.injEq,Prod.mk.injEq] at hcc
    obtain⟨rfl,_⟩:=hcc
    simp only[exC] at he
    have main:∀ e1 s1,exC call G n b' s=some (e1,s1)->((e1 = .norm/\e = .norm/\s'=s1)\/(∃ i,e1 = .exit i/\s'=s1/\e=if i=id then .norm else .exit i)\/(e1 = .ret/\e = .ret/\s'=s1))->(Code.block id b).wpIn (FR none) 0 P (lift c κ0 N (LY e s')) a w:=by
     intro e1 s1 h1 hcase
     refine wpIn_block (Go.wpIn_mono (ih n (Nat.lt_succ_self n) b b' _ _ _ s a w κ _ _ hb h1 hR) ?_)
     intro e2 a w hq
     cases e2 with
     | normal=>
       obtain⟨s2,κ,hR,rfl,rfl⟩:=hq
       rcases hcase with ⟨_,rfl,rfl⟩ | ⟨i,h,_⟩ | ⟨h,_⟩
       ·exact⟨_,κ,hR,rfl,rfl⟩
       ·cases h
       ·cases h
     | ret=>
       obtain⟨s2,κ,hR,rfl,rfl⟩:=hq
       rcases hcase with ⟨h,_⟩ | ⟨i,h,_⟩ | ⟨_,rfl,rfl⟩
       ·cases h
       ·cases h
       ·exact⟨_,κ,hR,rfl,rfl⟩
     | exit i=>
       obtain⟨s2,κ,hR,rfl,rfl⟩:=hq
       rcases hcase with ⟨h,_⟩ | ⟨i',h,rfl,rfl⟩ | ⟨h,_⟩
       ·cases h
       ·cases h
        simp only[Exit.inBlock]
        split
        ·rename_i hid
         exact⟨_,κ,hR,by simp[hid],rfl⟩
        ·rename_i hid
         exact⟨_,κ,hR,by simp[hid],rfl⟩
       ·cases h
     | goto l=>exact hq.elim
     | panic ch=>exact hq.elim
     | outgrown=>exact hq.elim
    split at he
    ·rename_i s1 h1
     cases he
     exact main _ _ h1 (.inl ⟨rfl,rfl,rfl⟩)
    ·rename_i i s1 h1
     split at he
     ·rename_i hid
      cases he
      exact main _ _ h1 (.inr (.inl ⟨i,rfl,rfl,by simp[hid]⟩))
     ·rename_i hid
      cases he
      exact main _ _ h1 (.inr (.inl ⟨i,rfl,rfl,by simp[hid]⟩))
    ·rename_i s1 h1
     cases he
     exact main _ _ h1 (.inr (.inr ⟨rfl,rfl,rfl⟩))
    ·cases he
   ·cases hcc
 | loop b=>
   simp only[bq] at hcc
   split at hcc
   ·rename_i x1 l1 hb1
    split at hcc
    ·rename_i x2 l2 hb2
     split at hcc
     ·rename_i b' l3 hb
      simp only[Option.some.injEq,Prod.mk.injEq] at hcc
      obtain⟨rfl,_⟩:=hcc
      refine jC (fun m a w=>∃ s κ,m<=n+1/\Rel c κ0 N s a w κ/\exC call G m (.loop (nE l2) b') s=some (e,s')) ⟨n+1,s,κ,Nat.le_refl _,hR,he⟩ fun m a w hJ=>?_
      obtain⟨s,κ,hm,hR,he⟩:=hJ
      cases m with
      | zero=>simp[exC] at he
      | succ m=>
        simp only[exC] at he
        split at he
        ·rename_i s1 h1
         refine Go.wpIn_mono (ih m (by omega) b b' _ _ _ s a w κ _ _ hb h1 hR) ?_
         intro e1 a w hq
         cases e1 with
         | normal=>
           obtain⟨s2,κ,hR,_,rfl⟩:=hq
           exact⟨m,Nat.lt_succ_self m,_,κ,by omega,hR,he⟩
         | exit id=>obtain⟨_,_,_,h,_⟩:=hq;cases h
         | ret=>obtain⟨_,_,_,h,_⟩:=hq;cases h
         | goto l=>exact hq.elim
         | panic ch=>exact hq.elim
         | outgrown=>exact hq.elim
        ·rename_i i s1 h1
         cases he
         refine Go.wpIn_mono (ih m (by omega) b b' _ _ _ s a w κ _ _ hb h1 hR) ?_
         intro e1 a w hq
         cases e1 with
         | normal=>obtain⟨_,_,_,h,_⟩:=hq;cases h
         | exit id=>exact hq
         | ret=>exact hq
         | goto l=>exact hq.elim
         | panic ch=>exact hq.elim
         | outgrown=>exact hq.elim
        ·rename_i s1 h1
         cases he
         refine Go.wpIn_mono (ih m (by omega) b b' _ _ _ s a w κ _ _ hb h1 hR) ?_
         intro e1 a w hq
         cases e1 with
         | normal=>obtain⟨_,_,_,h,_⟩:=hq;cases h
         | exit id=>exact hq
         | ret=>exact hq
         | goto l=>exact hq.elim
         | panic ch=>exact hq.elim
         | outgrown=>exact hq.elim
        ·cases he
     ·cases hcc
    ·cases hcc
   ·cases hcc
 | rangeFunc f ps x y=>
   simp only[bq] at hcc
   split at hcc
   ·split at hcc
    ·simp only[Option.some.injEq,Prod.mk.injEq] at hcc
     obtain⟨rfl,_⟩:=hcc
     simp only[exC] at he
     cases he
    ·cases hcc
   ·simp only[Option.some.injEq,Prod.mk.injEq] at hcc;obtain⟨rfl,rfl⟩:=hcc;exact (oL he).elim
 | scope b=>simp only[bq,Option.some.injEq,Prod.mk.injEq] at hcc;obtain⟨rfl,rfl⟩:=hcc;exact (oL he).elim
 | label l=>simp only[bq,Option.some.injEq,Prod.mk.injEq] at hcc;obtain⟨rfl,rfl⟩:=hcc;exact (oL he).elim
 | goto l=>simp only[bq,Option.some.injEq,Prod.mk.injEq] at hcc;obtain⟨rfl,rfl⟩:=hcc;exact (oL he).elim
 | refuse y=>simp only[bq,Option.some.injEq,Prod.mk.injEq] at hcc;obtain⟨rfl,rfl⟩:=hcc;exact (oL he).elim
theorem Ew {tab:List TabRow}(ht:∀ r∈tab,cFn P r.muts r.f=some r.fn){f:Nat}{fn:AFn}(h:Ex f tab=some fn):∃ muts,cFn P muts f=some fn:=by
 induction tab with
 | nil=>cases h
 | cons r q ih=>
   simp only[Ex] at h
   split at h
   ·rename_i hf
    cases h
    exact⟨r.muts,hf▸ht r (by simp)⟩
   ·exact ih (fun r hr=>ht r (by simp[hr])) h
theorem AO {tab:List TabRow}{O:Nat->List PV->Option PV}{m:Nat}(ht:∀ r∈tab,cFn P r.muts r.f=some r.fn)(hO:∀ f ps r,O f ps=some r->am P G f ps r):∀ n,fA P G (exF tab O G m n)
 | 0=>by intro f args sto next v sto' next' h;simp[exF] at h
 | n+1=>by
   intro f args sto next v sto' next' h
   simp only[exF] at h
   split at h
   ·rename_i r hr
    cases h
    simp only[Option.bind_eq_some_iff] at hr
    obtain⟨ps,h1,h2⟩:=hr
    refine⟨bA.refl _ _,?_⟩
    exact .inl ⟨ps,r,h1,hO f ps r h2,rfl,rfl,rfl⟩
   ·split at h
    ·rename_i fn hfn
     obtain⟨muts,hcf⟩:=Ew ht hfn
     split at h
     ·rename_i hl
      have grow:∀ (e:AExit) (s:St),exC (exF tab O G m n) G m fn.body ⟨dx args,sto,next⟩=some (e,s)->ug G fn s=some (v,sto',next')->bA sto next sto' next':=by
       intro e s h1 h2
       have:=oA (AO ht hO n) m fn.body _ e s h1
       unfold ug at h2
       split at h2
       ·cases h2;exact this
       ·cases h2
      have fin:∀ (e:AExit) (s:St),(e = .norm\/e = .ret)->exC (exF tab O G m n) G m fn.body ⟨dx args,sto,next⟩=some (e,s)->ug G fn s=some (v,sto',next')->cE P G f args sto next (fun v' s' n'=>v'=v/\s'=sto'/\n'=next'):=by
       intro e s he h1 h2
       refine cE.of_code hcf hl fun c κ N a w co rl li hG hk hf hb hR=>?_
       refine Go.wpIn_mono (L2 (AO ht hO n) hG m co fn.body _ _ _ _ a w κ e s hb h1 hR) ?_
       have hout:∀ s1,s1=s->aO (fh G s1 fn.res) (Gg (fun v' s' n'=>v'=v/\s'=sto'/\n'=next') s1):=by
        rintro s1 rfl
        unfold ug at h2
        split at h2
        ·rename_i l hl2
         cases h2
         rw[hl2]
         exact⟨rfl,rfl,rfl⟩
        ·cases h2
       intro e1 a w hq
       cases e1 with
       | normal=>
         obtain⟨s1,κ1,hR1,he1,hs1⟩:=hq
         exact⟨s1,κ1,hR1,hout s1 hs1⟩
       | ret=>
         obtain⟨s1,κ1,hR1,he1,hs1⟩:=hq
         exact⟨s1,κ1,hR1,hout s1 hs1⟩
       | exit id=>
         obtain⟨s1,κ1,hR1,he1,hs1⟩:=hq
         rcases he with rfl | rfl<;>cases he1
       | goto l=>exact hq.elim
       | panic ch=>exact hq.elim
       | outgrown=>exact hq.elim
      split at h
      ·rename_i s1 h1;exact⟨grow _ _ h1 h,.inr (fin _ _ (.inl rfl) h1 h)⟩
      ·rename_i s1 h1;exact⟨grow _ _ h1 h,.inr (fin _ _ (.inr rfl) h1 h)⟩
      ·cases h
     ·cases h
    ·cases h
theorem am.of_ex {tab:List TabRow}{O:Nat->List PV->Option PV}{m n:Nat}{f:Nat}{ps:List PV}{r:PV}(ht:∀ r∈tab,cFn P r.muts r.f=some r.fn)(hO:∀ f ps r,O f ps=some r->am P G f ps r)
  (h:yF (exF tab O G m n) f ps=some r):am P G f ps r:=
 rH (AO ht hO n) h
end
def Kap.cut (κ:Kap)(k:Nat):Kap:=⟨κ.w,fun r=>if r<k then κ.nm r else none,κ.imm⟩
theorem Kap.cut_ext (κ:Kap)(k:Nat):Ext (κ.cut k) κ:=by
 refine⟨fun _ _ h=>h,fun _ _ _ _ h=>h,fun r d h=>?_,fun _ _ h _=>h⟩
 simp only[Kap.cut] at h
 split at h
 ·exact h
 ·cases h
theorem Kap.cut_none (κ:Kap)(k r:Nat)(h:k<=r):(κ.cut k).nm r=none:=by simp only[Kap.cut];rw[if_neg (by omega)]
def oU (P:Program)(G:Nat->List PV)(k:Nat)(f:Nat)(args:List AV)(sto:List (Nat×Blk))(next:Nat)(Q:AV->List (Nat×Blk)->Nat->Prop):Prop:=
 cf P f=true/\∀ (κ:Kap) (vals:Array Value),SRel (cB κ (fun r=>lookB r sto) G) κ (fun r=>lookB r sto)->(∀ r,next<=r->κ.nm r=none)->vals.size=args.length ->
  (∀ (i:Nat) (x:AV),args[i]? = some x->ARel κ x (vals.getD i Go.undef)) ->
  Calls P f vals κ.w fun e w'=>∃ u v κ' sto' next',e = .returned u/\κ'.w=w'/\Ext (κ.cut k) κ'/\Left (cB κ (fun r=>lookB r sto) G) κ.imm κ'/\ARel κ' v u /\
   SRel (cB κ (fun r=>lookB r sto) G) κ' (fun r=>lookB r sto')/\(∀ r,next'<=r->κ'.nm r=none)/\Q v sto' next'
section
variable {P:Program}{G:Nat->List PV}
theorem oU.of_code {muts:List Nat}{k f:Nat}{fn:AFn}{args:List AV}{sto:List (Nat×Blk)}{next:Nat}{R:AV->List (Nat×Blk)->Nat->Prop}(hc:cFn P muts f=some fn)(hn:args.length<=fn.N)
  (hv:vc P G k fn.body (FnK G fn.res R) ⟨dx args,sto,next⟩):oU P G k f args sto next R:=by
 unfold cFn at hc
 split at hc
 ·rename_i fnc hfn
  split at hc
  ·rename_i co hco
   split at hc
   ·rename_i rs hrs
    split at hc
    ·rename_i hok
     split at hc
     ·rename_i b li hb
      cases hc
      refine⟨hok,fun κ vals hS hf hsz hargs=>?_⟩
      refine callsIn_wide.1 (callsIn_of_wp_marks (n:=0) hfn hco trivial ?_ rfl)
      let c:=cB κ (fun r=>lookB r sto) G
      have hsize:(vals++Array.replicate (fnc.ntmps - vals.size) Go.undef).size=fnc.ntmps:=by
       simp only at hn
       simp only[Array.size_append,Array.size_replicate];omega
      have hR:Rel c (κ.cut k) fnc.ntmps ⟨dx args,sto,next⟩ ⟨vals++Array.replicate (fnc.ntmps - vals.size) Go.undef,[]⟩ κ.w κ:=by
       refine⟨rfl,κ.cut_ext k,hS,⟨rfl,rfl,rfl,Nat.le_refl _,fun _ _ _=>rfl,fun _ _ h=>.inl h⟩,fun i=>?_,hsize,dF.nil _ _,hf⟩
       show ARel κ (look i ((args.zipIdx 0).map fun p=>(p.2,p.1))) _
       rw[kb,if_pos (Nat.zero_le _),Nat.sub_zero]
       cases hx:args[i]? with
       | none=>exact .any _
       | some x=>
         have hi:i<vals.size:=by rw[hsz];exact (List.getElem?_eq_some_iff.1 hx).1
         have:=hargs i x hx
         have e:(vals++Array.replicate (fnc.ntmps - vals.size) Go.undef).getD i Go.undef=vals.getD i Go.undef:=by
          simp only[Array.getD_eq_getD_getElem?]
          rw[Array.getElem?_append_left hi]
         rw[e];exact this
      refine Go.wpIn_mono (re (P:=P) (N:=fnc.ntmps) co c (κ.cut k) k none 0 b [] (io rs) li (FnK G rs R) _ _ κ.w κ (.inl rfl) (fun r hr=>κ.cut_none k r hr) (Nat.le_refl _) hb hR hv) ?_
      have fin:∀ (s:St) (κ':Kap) (a:Act) (w:World),Rel c (κ.cut k) fnc.ntmps s a w κ'->aO (fh G s rs) (Gg R s)->∃ v,(results fnc a.tmps).run P w = .ok v w /\
        ∃ u v' κ'' sto' next',Ending.returned v = .returned u/\κ''.w=w/\Ext (κ.cut k) κ''/\Left c κ.imm κ''/\ARel κ'' v' u/\SRel c κ'' (fun r=>lookB r sto')/\(∀ r,next'<=r->κ''.nm r=none)/\R v' sto' next':=by
       intro s κ' a w hR hF
       simp only[aO] at hF
       split at hF
       ·rename_i vs hvs
        obtain⟨us,h1,h2,h3⟩:=jQ (P:=P) hR fnc.results.toList rs vs hrs hvs
        have hrun:(results fnc a.tmps).run P w = .ok (if h:us.toArray.size=1 then us.toArray[0] else .tuple us.toArray) w:=by
         rw[lq,Sem.run_bind,Array.mapM_eq_mapM_toList]
         simp only[Sem.run_bind,Sem.run_map]
         rw[h1]
         simp
        refine⟨_,hrun,_,wg vs,κ',s.sto,s.next,rfl,hR.w_eq,hR.ext0,hR.left,?_,hR.rel,hR.fresh,hF⟩
        by_cases hl:vs.length=1
        ·obtain⟨v,rfl⟩:=List.length_eq_one_iff.1 hl
         obtain⟨u,rfl⟩:=List.length_eq_one_iff.1 (h2.trans hl)
         have:=h3 0 v rfl
         exact this
        ·have hul:¬ us.toArray.size=1:=by simpa[h2] using hl
         rw[dif_neg hul]
         have hrv:wg vs=oa vs:=by
          unfold wg
          split
          ·simp at hl
          ·rfl
         rw[hrv]
         exact n9 (.tup _ _ (by simpa using h2) (fun i x hx=>by rw[aH];simpa using h3 i x hx))
       ·exact hF.elim
      intro e a w hq
      cases e with
      | normal=>
        obtain⟨s,κ',hR,hF⟩:=hq
        exact gO (Nat.le_refl _) rfl hR fun w' κ'' hR'=>fin s κ'' ⟨a.tmps,[]⟩ w' hR' hF
      | ret=>
        obtain⟨s,κ',hR,hF⟩:=hq
        exact gO (Nat.le_refl _) rfl hR fun w' κ'' hR'=>fin s κ'' ⟨a.tmps,[]⟩ w' hR' hF
      | exit id=>
        obtain⟨s,κ',hR,hF⟩:=hq
        exact hF.elim
      | goto l=>exact hq.elim
      | panic ch=>exact hq.elim
      | outgrown=>exact hq.elim
     ·cases hc
    ·cases hc
   ·cases hc
  ·cases hc
 ·cases hc
def db:List Blk->Nat->List (Nat×Blk)
 | [],_=>[]
 | b::r,k=>(k,b)::db r (k+1)
theorem lE:∀ (bs:List Blk) (k i:Nat),lookB i (db bs k)=if k<=i then bs.getD (i - k) .none else .none
 | [],k,i=>by simp[db,lookB]
 | b::r,k,i=>by
   simp only[db,lookB]
   by_cases h:k=i
   ·subst h;simp
   ·rw[if_neg h,lE r (k+1) i]
    by_cases hk:k<=i
    ·rw[if_pos (by omega),if_pos hk,show i - k=(i - (k+1))+1 by omega];simp
    ·rw[if_neg (by omega),if_neg hk]
theorem gd (bs:List Blk):(fun r=>lookB r (db bs 0))=fun r=>bs.getD r .none:=by
 funext r;rw[lE];simp
def bn (P:Program)(G:Nat->List PV)(k f:Nat)(args:List AV)(bs:List Blk)(v:AV)(bs':List Blk):Prop:=
 oU P G k f args (db bs 0) bs.length fun v' sto' next'=>v'=v/\sto'=db bs' 0/\next'=bs'.length
def IP (k:Nat)(v:AV)(bs':List Blk)(v':AV)(sto':List (Nat×Blk))(next':Nat):Prop:=
 Wk k ⟨[(0,v')],sto',next'⟩ ⟨[(0,v)],db bs' 0,bs'.length⟩
theorem bn.of_lcalls {k f:Nat}{args:List AV}{bs:List Blk}{v:AV}{bs':List Blk}(h:oU P G k f args (db bs 0) bs.length (IP k v bs')):bn P G k f args bs v bs':=by
 obtain⟨hcal,h⟩:=h
 refine⟨hcal,fun κ vals hS hf hsz hargs=>(h κ vals hS hf hsz hargs).mono ?_⟩
 rintro e w' ⟨u,v',κ',sto',next',rfl,rfl,he,hL,hv,hS',hf',hw⟩
 obtain⟨κ'',hR⟩:=hw _ (κ.cut k) κ' 1 ⟨#[u],[]⟩ κ'.w (fun r hr=>κ.cut_none k r hr) ⟨rfl,he,hS',hL,fun i=>by
  show ARel κ' (look i [(0,v')]) _
  by_cases hi:0=i
  ·subst hi;simpa[look] using hv
  ·simp only[look,if_neg hi];exact .any _,rfl,dF.nil _ _,hf'⟩
 refine⟨u,v,κ'',_,_,rfl,hR.w_eq,hR.ext0,hR.left,?_,hR.rel,hR.fresh,rfl,rfl,rfl⟩
 have:=hR.env 0
 simpa[St.E,look] using this
theorem bn.intro {muts:List Nat}{k f:Nat}{fn:AFn}{args:List AV}{bs:List Blk}{v:AV}{bs':List Blk}(hc:cFn P muts f=some fn)(hn:args.length<=fn.N)
  (hv:vc P G k fn.body (FnK G fn.res (IP k v bs')) ⟨dx args,db bs 0,bs.length⟩):bn P G k f args bs v bs':=
 bn.of_lcalls (oU.of_code hc hn hv)
def gIn (next:Nat):List Nat->Nat->Nat
 | [],i=>next+i
 | r::_,0=>r
 | _::q,i+1=>gIn next q i
def gSo (next:Nat)(rs:List Nat)(r:Nat):Option Nat:=some (gIn next rs r)
theorem kn (next:Nat):∀ (rs:List Nat) (i:Nat) (r:Nat),rs[i]? = some r->gIn next rs i=r
 | [],i,r,h=>by simp at h
 | x::q,0,r,h=>by simpa[gIn] using h
 | x::q,i+1,r,h=>by simpa[gIn] using kn next q i r (by simpa using h)
theorem lI (next:Nat):∀ (rs:List Nat) (i:Nat),rs.length<=i->gIn next rs i=next+(i - rs.length)
 | [],i,h=>by simp[gIn]
 | x::q,0,h=>by simp at h
 | x::q,i+1,h=>by
   simp only[List.length_cons] at h
   rw[gIn,lI next q i (by omega)]
   simp
mutual
theorem unren {κ κ':Kap}(hw:κ'.w=κ.w)(hi:κ'.imm=κ.imm){g:Nat->Nat}(hf:∀ r,κ'.nm r=κ.nm (g r)):∀ (x:AV) (v:Value),ARel κ (x.ren fun r=>some (g r)) v->ARel κ' x v
 | .pv p,v,h=>by
   simp only[AV.ren] at h
   cases h with
   | pv _ _ hp=>exact .pv _ _ (by rw[hw,hi];exact hp)
 | .any,v,h=>.any v
 | .ptr r o,v,h=>by
   simp only[AV.ren] at h
   cases h with
   | ptr _ _ b n hn=>exact .ptr _ _ b n (by rw[hf r];exact hn)
 | .row r a b c,v,h=>by
   simp only[AV.ren] at h
   cases h with
   | row _ _ _ _ bb n cap hn h1 h2 h3 h4=>exact .row _ _ _ _ bb n cap (by rw[hf r];exact hn) h1 h2 h3 h4
   | row0 _ _ hn=>exact .row0 _ _ (by rw[hf r];exact hn)
 | .olist r a l,v,h=>by
   simp only[AV.ren] at h
   cases h with
   | olist _ _ _ _ hn hp hs=>exact .olist _ _ _ _ (by rw[hf r];exact hn) (by rw[hw,hi];exact hp) hs
 | .mp r,v,h=>by
   simp only[AV.ren] at h
   cases h with
   | mp _ b hn=>exact .mp _ _ (by rw[hf r];exact hn)
 | .agg cs,v,h=>by
   simp only[AV.ren] at h
   cases h with
   | agg _ vs hl hr=>
     obtain⟨h1,h2⟩:=jG hw hi hf cs vs hr
     exact .agg _ _ (by rw[<- h1];exact hl) h2
 | .tup cs,v,h=>by
   simp only[AV.ren] at h
   cases h with
   | tup _ vs hl hr=>
     obtain⟨h1,h2⟩:=jG hw hi hf cs vs hr
     exact .tup _ _ (by rw[<- h1];exact hl) h2
 | .clo g fs cs,v,h=>by
   simp only[AV.ren] at h
   cases h with
   | clo _ _ _ vs us hl hr hl' hr'=>
     obtain⟨h1,h2⟩:=jG hw hi hf fs vs hr
     obtain⟨h3,h4⟩:=jG hw hi hf cs us hr'
     exact .clo _ _ _ _ _ (by rw[<- h1];exact hl) h2 (by rw[<- h3];exact hl') h4
theorem jG {κ κ':Kap}(hw:κ'.w=κ.w)(hi:κ'.imm=κ.imm){g:Nat->Nat}(hf:∀ r,κ'.nm r=κ.nm (g r)):∀ (xs:List AV) (vs:Array Value),
  (∀ (i:Nat) (x:AV),(AV.renL (fun r=>some (g r)) xs)[i]? = some x->ARel κ x (vs.getD i Go.undef))->(AV.renL (fun r=>some (g r)) xs).length=xs.length/\∀ (i:Nat) (x:AV),xs[i]? = some x->ARel κ' x (vs.getD i Go.undef)
 | [],vs,h=>by simp[AV.renL]
 | x::r,vs,h=>by
   have e:∀ i,(vs.extract 1 vs.size).getD i Go.undef=vs.getD (i+1) Go.undef:=by
    intro i
    simp only[Array.getD_eq_getD_getElem?,Array.getElem?_extract]
    by_cases hh:i<min vs.size vs.size - 1
    ·rw[if_pos hh];congr 2;omega
    ·rw[if_neg hh,Array.getElem?_eq_none (by omega)]
   obtain⟨h1,h2⟩:=jG hw hi hf r (vs.extract 1 vs.size) (fun i y hy=>by
    have:=h (i+1) y (by simpa[AV.renL] using hy)
    rw[e];exact this)
   refine⟨by simp[AV.renL,h1],fun i y hy=>?_⟩
   cases i with
   | zero=>
     simp only[List.getElem?_cons_zero,Option.some.injEq] at hy
     subst hy
     exact unren hw hi hf x _ (h 0 _ (by simp[AV.renL]))
   | succ i=>
     simp only[List.getElem?_cons_succ] at hy
     have:=h2 i y hy
     rw[e] at this;exact this
end
theorem fb.unren {κ κ':Kap}(hw:κ'.w=κ.w)(hi:κ'.imm=κ.imm){g:Nat->Nat}(hf:∀ r,κ'.nm r=κ.nm (g r)){r:Nat}{B:Blk}(h:fb κ (g r) (B.ren fun r=>some (g r))):fb κ' r B:=by
 cases B with
 | none=>trivial
 | cells T f l=>
   simp only[Blk.ren] at h
   rcases h with ⟨h1,h2,h3⟩ | ⟨b,n,cs,h1,h2,h3,h4,h5,h6,h7⟩
   ·refine .inl ⟨h1,?_,by rw[hf];exact h3⟩
    cases l with
    | nil=>rfl
    | cons x r=>simp[AV.renL] at h2
   ·obtain⟨q1,q2⟩:=jG hw hi hf l cs h6
    exact .inr ⟨b,n,cs,by rw[hf];exact h1,by rw[hw];exact h2,h3,by rw[<- q1];exact h4,fun hb=>by rw[<- q1];exact h5 hb,q2,by rw[hi];exact h7⟩
 | tok e sz=>
   simp only[Blk.ren] at h
   rcases h with h | ⟨g',n,cap,cur,h1,h2,h3⟩
   ·exact .inl (by rw[hf];exact h)
   ·exact .inr ⟨g',n,cap,cur,by rw[hf];exact h1,by rw[hw];exact h2,by rw[hi];exact h3⟩
 | mp l=>
   obtain⟨b,es,ck,h1,h2⟩:=h
   exact⟨b,es,ck,by rw[hf];exact h1,by rw[hw,hi];exact h2⟩
 | bts e l=>
   obtain⟨b,n,cs,fz,h1,h2⟩:=h
   exact⟨b,n,cs,fz,by rw[hf];exact h1,by rw[hw,hi];exact h2⟩
theorem fb.ren {κ κ':Kap}(hw:κ'.w=κ.w)(hi:κ'.imm=κ.imm){g:Nat->Nat}(hf:∀ r,κ'.nm (g r)=κ.nm r){r:Nat}{B:Blk}(h:fb κ r B):fb κ' (g r) (B.ren fun r=>some (g r)):=by
 have hf':∀ r r',(fun r=>some (g r)) r=some r'->κ'.nm r'=κ.nm r:=fun r r' h=>by cases h;exact hf r
 cases B with
 | none=>trivial
 | cells T f l=>
   simp only[Blk.ren]
   rcases h with ⟨h1,h2,h3⟩ | ⟨b,n,cs,h1,h2,h3,h4,h5,h6,h7⟩
   ·exact .inl ⟨h1,by rw[h2];simp only[AV.renL],by rw[hf];exact h3⟩
   ·obtain⟨q1,q2⟩:=eA hw hi hf' l cs h6
    exact .inr ⟨b,n,cs,by rw[hf];exact h1,by rw[hw];exact h2,h3,by rw[q1];exact h4,fun hb=>by rw[q1];exact h5 hb,q2,by rw[hi];exact h7⟩
 | tok e sz=>
   simp only[Blk.ren]
   rcases h with h | ⟨g',n,cap,cur,h1,h2,h3⟩
   ·exact .inl (by rw[hf];exact h)
   ·exact .inr ⟨g',n,cap,cur,by rw[hf];exact h1,by rw[hw];exact h2,by rw[hi];exact h3⟩
 | mp l=>
   obtain⟨b,es,ck,h1,h2⟩:=h
   exact⟨b,es,ck,by rw[hf];exact h1,by rw[hw,hi];exact h2⟩
 | bts e l=>
   obtain⟨b,n,cs,fz,h1,h2⟩:=h
   exact⟨b,n,cs,fz,by rw[hf];exact h1,by rw[hw,hi];exact h2⟩
def uh (f:Nat->Option Nat):List Blk->Nat->(Nat->Nat)->List (Nat×Blk)
 | [],_,_=>[]
 | b::r,i,g=>(g i,b.ren f)::uh f r (i+1) g
def ix:List Nat->List (Nat×Blk)
 | []=>[]
 | r::q=>(r,.none)::ix q
def ia (sto:List (Nat×Blk))(f:Nat->Option Nat):List Nat->List Blk->Prop
 | [],[]=>True
 | r::rs,b::bs=>BlkZ (lookB r sto) (b.ren f)/\ia sto f rs bs
 | _,_=>False
theorem ia.get {sto:List (Nat×Blk)}{f:Nat->Option Nat}:∀ {rs:List Nat} {bs:List Blk},ia sto f rs bs->rs.length=bs.length/\∀ (i r:Nat) (b:Blk),rs[i]? = some r->bs[i]? = some b->BlkZ (lookB r sto) (b.ren f)
 | [],[],h=>⟨rfl,by simp⟩
 | r::rs,b::bs,h=>by
   obtain⟨h1,h2⟩:=h
   obtain⟨h3,h4⟩:=ia.get h2
   refine⟨by simp[h3],fun i q d hq hd=>?_⟩
   cases i with
   | zero=>simp at hq hd;subst hq;subst hd;exact h1
   | succ i=>exact h4 i q d (by simpa using hq) (by simpa using hd)
 | [],_::_,h=>h.elim
 | _::_,[],h=>h.elim
end
section
variable {P:Program}{G:Nat->List PV}
theorem fb.named {κ:Kap}{r:Nat}{B:Blk}(h:fb κ r B)(hB:B≠.none):∃ d,κ.nm r=some d:=by
 cases B with
 | none=>exact absurd rfl hB
 | cells T f l=>
   rcases h with ⟨_,_,h⟩ | ⟨b,n,cs,h,_⟩
   ·exact⟨_,h⟩
   ·exact⟨_,h⟩
 | tok e sz=>
   rcases h with h | ⟨g,n,cap,cur,h,_⟩
   ·exact⟨_,h⟩
   ·exact⟨_,h⟩
 | mp l=>
   obtain⟨b,es,ck,h,_⟩:=h
   exact⟨_,h⟩
 | bts e l=>
   obtain⟨b,n,cs,fz,h,_⟩:=h
   exact⟨_,h⟩
theorem Blk.ren_ne {f:Nat->Option Nat}{b:Blk}:b.ren f≠.none↔b≠.none:=by
 cases b<;>simp[Blk.ren]
theorem IX {next:Nat}{rs:List Nat}(hnd:rs.Nodup)(hlt:∀ r∈rs,r<next){i j:Nat}(h:gIn next rs i=gIn next rs j):i=j:=by
 by_cases hi:i<rs.length
 ·have ei:=kn next rs i _ (List.getElem?_eq_getElem hi)
  have hi':=hlt _ (List.getElem_mem hi)
  by_cases hj:j<rs.length
  ·have ej:=kn next rs j _ (List.getElem?_eq_getElem hj)
   rw[ei,ej] at h
   exact (List.getElem_inj hnd).1 h
  ·have ej:=lI next rs j (by omega)
   omega
 ·have ei:=lI next rs i (by omega)
  by_cases hj:j<rs.length
  ·have ej:=kn next rs j _ (List.getElem?_eq_getElem hj)
   have hj':=hlt _ (List.getElem_mem hj)
   omega
  ·have ej:=lI next rs j (by omega)
   omega
theorem oj {f:Nat->Option Nat}{g:Nat->Nat}(hg:∀ i j,g i=g j->i=j)(rest:List (Nat×Blk))(r:Nat):∀ (bs:List Blk) (k:Nat),
  (∀ i b,bs[i]? = some b->g (k+i)=r->lookB r (uh f bs k g++rest)=b.ren f)/\((∀ i,i<bs.length->g (k+i)≠r)->lookB r (uh f bs k g++rest)=lookB r rest)
 | [],k=>⟨by simp,fun _=>rfl⟩
 | b::q,k=>by
   obtain⟨h1,h2⟩:=oj hg rest r q (k+1)
   refine⟨fun i b' hi hr=>?_,fun h=>?_⟩
   ·simp only[uh,List.cons_append,lookB]
    cases i with
    | zero=>
      simp only[List.getElem?_cons_zero,Option.some.injEq] at hi
      subst hi
      rw[if_pos (by simpa using hr)]
    | succ i=>
      rw[if_neg (fun e=>by have:=hg _ _ (e.trans hr.symm);omega)]
      exact h1 i b' (by simpa using hi) (by rw[<- hr];congr 1;omega)
   ·simp only[uh,List.cons_append,lookB]
    rw[if_neg (by have:=h 0 (by simp);simpa using this)]
    exact h2 fun i hi=>by
     have:=h (i+1) (by simp;omega)
     rwa [show k+(i+1)=k+1+i by omega] at this
theorem lD (rest:List (Nat×Blk))(r:Nat):∀ (l:List Nat),lookB r (ix l++rest)=if r∈l then .none else lookB r rest
 | []=>by simp[ix]
 | x::q=>by
   simp only[ix,List.cons_append,lookB,lD rest r q,List.mem_cons]
   by_cases h:x=r
   ·subst h;simp
   ·rw[if_neg h]
    by_cases hq:r∈q
    ·simp[hq]
    ·have:¬ (r=x\/r∈q):=by rintro (e | e);exact h e.symm;exact hq e
     rw[if_neg hq,if_neg this]
theorem bn.frame {k f:Nat}{args0:List AV}{bs:List Blk}{v:AV}{bs':List Blk}(h:bn P G k f args0 bs v bs'){rs:List Nat}{args:List AV}{sto:List (Nat×Blk)}{next:Nat}
  (hargs:AVzL args (AV.renL (gSo next rs) args0)) (hbs:ia sto (gSo next rs) rs bs) (hnd:rs.Nodup) (hlt:∀ r∈rs,r<next) (hk:k<=bs.length) (hk':k<=bs'.length) (hne:∀ b∈bs.take k,b≠.none) :
  cE P G f args sto next fun v' sto' next'=>v'=v.ren (gSo next (rs.take k))/\sto'=uh (gSo next (rs.take k)) bs' 0 (gIn next (rs.take k))++(ix (rs.drop k)++sto)/\next'=next+(bs'.length - k):=by
 obtain⟨hcal,h⟩:=h
 refine⟨hcal,fun κ vals hS hf hsz hvals=>?_⟩
 obtain⟨hrl,hat⟩:=hbs.get
 let κ1:Kap:=⟨κ.w,fun i=>κ.nm (gIn next rs i),κ.imm⟩
 have hσ1:(fun r=>lookB r (db bs 0))=fun r=>bs.getD r .none:=gd bs
 have hlook:∀ i b,bs[i]? = some b->∃ r,rs[i]? = some r/\gIn next rs i=r/\fb κ r (b.ren (gSo next rs))/\(b≠.none->lookB r sto≠.none):=by
  intro i b hb
  have hi:i<rs.length:=by rw[hrl];exact (List.getElem?_eq_some_iff.1 hb).1
  have hr:=List.getElem?_eq_getElem hi
  obtain⟨q1,q2⟩:=(hat i _ b hr hb).rel (hS.blk rs[i])
  exact⟨rs[i],hr,kn next rs i _ hr,q1,fun hb'=>q2 (Blk.ren_ne.2 hb')⟩
 have hlive:∀ i,bs.getD i .none≠.none->∃ b,bs[i]? = some b/\b≠.none:=by
  intro i hi
  rw[List.getD_eq_getElem?_getD] at hi
  cases hb:bs[i]? with
  | none=>rw[hb] at hi;exact absurd rfl hi
  | some b=>rw[hb] at hi;exact⟨b,rfl,hi⟩
 have hB1:∀ i b,bs[i]? = some b->fb κ1 i b:=by
  intro i b hb
  obtain⟨r,hr,hgr,hB,_⟩:=hlook i b hb
  exact fb.unren (κ:=κ) (κ':=κ1) rfl rfl (g:=gIn next rs) (fun _=>rfl) (by rw[hgr];exact hB)
 have hl1:∀ b,(cB κ1 (fun r=>lookB r (db bs 0)) G).lent b->(cB κ (fun r=>lookB r sto) G).lent b:=by
  rintro b ⟨i,d,h1,h2,h3⟩
  simp only[congrFun hσ1 i] at h1
  obtain⟨b',hb,hbn⟩:=hlive i h1
  obtain⟨r,hr,hgr,_,hn⟩:=hlook i b' hb
  exact⟨r,d,hn hbn,by rw[<- hgr];exact h2,h3⟩
 have hm1:∀ b,(cB κ1 (fun r=>lookB r (db bs 0)) G).mine b->(cB κ (fun r=>lookB r sto) G).mine b:=fun b hb=>hb.elim .inl (fun h=>.inr (hl1 b h))
 have hS1:SRel (cB κ1 (fun r=>lookB r (db bs 0)) G) κ1 (fun r=>lookB r (db bs 0)):=by
  refine⟨fun i=>?_,fun i j d d' b h1 h2 hij hd hd' hb=>?_,fun i d b h1 hd hb=>.inr ⟨i,d,h1,hd,hb⟩,hS.immLt,?_⟩
  ·rw[congrFun hσ1 i]
   show fb κ1 i (bs.getD i .none)
   rw[List.getD_eq_getElem?_getD]
   cases hb:bs[i]? with
   | none=>trivial
   | some b=>exact hB1 i b hb
  ·simp only[congrFun hσ1 i] at h1
   simp only[congrFun hσ1 j] at h2
   obtain⟨b1,hb1,hn1⟩:=hlive i h1
   obtain⟨b2,hb2,hn2⟩:=hlive j h2
   obtain⟨r,hr,hgr,_,hn⟩:=hlook i b1 hb1
   obtain⟨r',hr',hgr',_,hn'⟩:=hlook j b2 hb2
   refine hS.apart r r' d d' b (hn hn1) (hn' hn2) (fun e=>hij ?_) (by rw[<- hgr];exact hd) (by rw[<- hgr'];exact hd') hb
   obtain⟨hi,ei⟩:=List.getElem?_eq_some_iff.1 hr
   obtain⟨hj,ej⟩:=List.getElem?_eq_some_iff.1 hr'
   exact (List.getElem_inj hnd).1 (ei.trans (e.trans ej.symm))
  ·refine⟨fun g o p hp=>?_,fun g hg=>?_⟩
   ·exact hS.glob.1 g o p hp
   ·obtain⟨h1,h2,h3⟩:=hS.glob.2 g hg
    exact⟨h1,fun hl=>h2 (hl1 g hl),h3⟩
 have hf1:∀ r,bs.length<=r->κ1.nm r=none:=fun r hr=>by
  show κ.nm (gIn next rs r)=none
  rw[lI next rs r (by omega)]
  exact hf _ (by omega)
 have hlen0:args0.length=args.length:=by
  rw[hargs.length]
  have:∀ (f:Nat->Option Nat) (l:List AV),(AV.renL f l).length=l.length:=by
   intro f l
   induction l with
   | nil=>simp[AV.renL]
   | cons x r ih=>simp[AV.renL,ih]
  rw[this]
 have hv1:∀ (i:Nat) (x:AV),args0[i]? = some x->ARel κ1 x (vals.getD i Go.undef):=
  (jG (κ:=κ) (κ':=κ1) rfl rfl (g:=gIn next rs) (fun _=>rfl) args0 vals (fun i x hx=>by
   obtain⟨y,hy,hyx⟩:=hargs.get i x hx
   exact hyx.rel (hvals i y hy))).2
 refine (h κ1 vals hS1 hf1 (by omega) hv1).mono ?_
 rintro e w' ⟨u,v',κ1',sto',next',rfl,rfl,he,hL,hv,hS',hf',rfl,rfl,rfl⟩
 obtain⟨g,hgdef⟩:∃ g,g=gIn next (rs.take k):=⟨_,rfl⟩
 have htl:(rs.take k).length=k:=by rw[List.length_take];omega
 have hg1:∀ i,i<k->∃ r,rs[i]? = some r/\g i=r/\r<next:=by
  intro i hi
  have hi':i<rs.length:=by omega
  have hr:=List.getElem?_eq_getElem hi'
  refine⟨rs[i],hr,?_,hlt _ (List.getElem_mem hi')⟩
  rw[hgdef]
  exact kn next _ i _ (by rw[List.getElem?_take,if_pos hi];exact hr)
 have hg2:∀ i,k<=i->g i=next+(i - k):=fun i hi=>by rw[hgdef,lI next _ i (by omega),htl]
 have hginj:∀ i j,g i=g j->i=j:=fun i j hij=>by
  rw[hgdef] at hij
  exact IX (hnd.sublist (List.take_sublist _ _)) (fun r hr=>hlt r (List.mem_of_mem_take hr)) hij
 have hso:gSo next (rs.take k)=fun r=>some (g r):=by rw[hgdef];rfl
 rw[hso,<- hgdef]
 let κ':Kap:=⟨κ1'.w,fun r=>if r<next then κ.nm r else κ1'.nm (k+(r - next)),κ1'.imm⟩
 have hnmk:∀ i,i<k->κ1'.nm i=κ1.nm i:=by
  intro i hi
  have hib:i<bs.length:=by omega
  have hb:=List.getElem?_eq_getElem hib
  obtain⟨d,hd⟩:=(hB1 i _ hb).named (hne _ (List.mem_take_iff_getElem.2 ⟨i,by omega,rfl⟩))
  rw[hd]
  exact he.nm i d (by simp only[Kap.cut];rw[if_pos hi];exact hd)
 have hnm':∀ i,κ'.nm (g i)=κ1'.nm i:=by
  intro i
  by_cases hi:i<k
  ·obtain⟨r,hr,hgr,hrn⟩:=hg1 i hi
   show (if g i<next then κ.nm (g i) else κ1'.nm (k+(g i - next)))=_
   rw[hgr,if_pos hrn,hnmk i hi]
   show κ.nm r=κ.nm (gIn next rs i)
   rw[kn next rs i r hr]
  ·show (if g i<next then κ.nm (g i) else κ1'.nm (k+(g i - next)))=_
   rw[hg2 i (by omega),if_neg (by omega)]
   congr 1;omega
 have hext:Ext κ κ':=⟨fun b o hi=>he.imm b o hi,fun b o v hi hc=>he.cell b o v hi hc,fun r d hd=>by
  have hr:r<next:=by
   rcases Nat.lt_or_ge r next with h | h
   ·exact h
   ·rw[hf r h] at hd;cases hd
  show (if r<next then κ.nm r else _)=_
  rw[if_pos hr];exact hd,fun b o ho hc=>he.obj b o ho hc⟩
 have hout:∀ r d b,lookB r sto≠.none->r∉rs->κ.nm r=some d->d.block=some b->b<κ.w.heap.size/\¬ (cB κ1 (fun r=>lookB r (db bs 0)) G).lent b:=by
  intro r d b h1 h2 h3 h4
  refine⟨(hS.blk r).lt h1 h3 h4,?_⟩
  rintro⟨i,d',q1,q2,q3⟩
  simp only[congrFun hσ1 i] at q1
  obtain⟨b',hb,hbn⟩:=hlive i q1
  obtain⟨r',hr',hgr,_,hn⟩:=hlook i b' hb
  refine hS.apart r r' d d' b h1 (hn hbn) (fun e=>h2 (e▸List.mem_of_getElem? hr')) h3 (by rw[<- hgr];exact q2) h4 q3
 have hmem:∀ r,r∈rs->(∃ i,i<bs'.length/\g i=r)\/r∈rs.drop k:=by
  intro r hr
  obtain⟨i,hi⟩:=List.getElem?_of_mem hr
  by_cases hik:i<k
  ·obtain⟨r',hr',hgr,_⟩:=hg1 i hik
   rw[hi] at hr';cases hr'
   exact .inl ⟨i,by omega,hgr⟩
  ·refine .inr (List.mem_of_getElem? (i:=i - k) ?_)
   rw[List.getElem?_drop,show k+(i - k)=i by omega];exact hi
 have hσ':∀ r,(∃ i b,bs'[i]? = some b/\g i=r/\lookB r (uh (fun r=>some (g r)) bs' 0 g++(ix (rs.drop k)++sto))=b.ren (fun r=>some (g r))) \/
   lookB r (uh (fun r=>some (g r)) bs' 0 g++(ix (rs.drop k)++sto)) = .none\/(r∉rs/\(∀ i,i<bs'.length->g i≠r)/\lookB r (uh (fun r=>some (g r)) bs' 0 g++(ix (rs.drop k)++sto))=lookB r sto):=by
  intro r
  obtain⟨q1,q2⟩:=oj (f:=fun r=>some (g r)) hginj (ix (rs.drop k)++sto) r bs' 0
  by_cases hi:∃ i,i<bs'.length/\g i=r
  ·obtain⟨i,hi,hgi⟩:=hi
   exact .inl ⟨i,bs'[i],List.getElem?_eq_getElem hi,hgi,q1 i _ (List.getElem?_eq_getElem hi) (by rw[Nat.zero_add];exact hgi)⟩
  ·have hni:∀ i,i<bs'.length->g i≠r:=fun i h1 h2=>hi ⟨i,h1,h2⟩
   have e:=q2 (fun i h1=>by rw[Nat.zero_add];exact hni i h1)
   rw[lD] at e
   by_cases hr:r∈rs.drop k
   ·rw[if_pos hr] at e;exact .inr (.inl e)
   ·rw[if_neg hr] at e
    exact .inr (.inr ⟨fun h=>(hmem r h).elim hi hr,hni,e⟩)
 have hlive':∀ i b,bs'[i]? = some b->b.ren (fun r=>some (g r))≠.none->lookB i (db bs' 0)≠.none:=by
  intro i b hb hbn
  have e2:lookB i (db bs' 0)=bs'.getD i .none:=congrFun (gd bs') i
  rw[e2,List.getD_eq_getElem?_getD,hb]
  exact Blk.ren_ne.1 hbn
 refine⟨u,_,κ',_,_,rfl,rfl,hext,⟨hL.os,hL.tape,hL.output,hL.size,fun b hb hl=>hL.block b hb fun h=>hl (hl1 b h),fun b o hi=>(hL.imm b o hi).imp id (hm1 b)⟩,
  pH (κ:=κ1') (κ':=κ') rfl rfl (fun r r' hr=>by cases hr;exact hnm' r) v' u hv,?_,fun r hr=>?_,rfl,rfl,rfl⟩
 ·refine⟨fun r=>?_,fun r r' d d' b h1 h2 hrr hd hd' hb=>?_,fun r d b h1 hd hb=>?_,hS'.immLt,?_⟩
  ·show fb κ' r (lookB r _)
   rcases hσ' r with ⟨i,b,hb,hgi,e⟩ | e | ⟨hr,hni,e⟩
   ·rw[e,<- hgi]
    refine fb.ren (κ:=κ1') (κ':=κ') rfl rfl hnm' ?_
    have:=hS'.blk i
    have e2:lookB i (db bs' 0)=bs'.getD i .none:=congrFun (gd bs') i
    simp only[e2,List.getD_eq_getElem?_getD,hb] at this
    exact this
   ·rw[e];trivial
   ·rw[e]
    refine (hS.blk r).keep hext fun hbn d b hd hb=>?_
    obtain⟨q1,q2⟩:=hout r d b hbn hr hd hb
    refine⟨hL.block b q1 q2,fun o ho=>?_⟩
    rcases hL.imm b o ho with h | h | h
    ·exact h
    ·exact absurd q1 (Nat.not_lt.2 h)
    ·exact absurd h q2
  ·have cal:∀ r i b0 d,bs'[i]? = some b0->g i=r->b0.ren (fun r=>some (g r))≠.none->κ'.nm r=some d->lookB i (db bs' 0)≠.none/\κ1'.nm i=some d:=by
    intro r i b0 d hb0 hgi hbn hd
    exact⟨hlive' i b0 hb0 hbn,by rw[<- hnm' i,hgi];exact hd⟩
   have own:∀ r d,r∉rs->lookB r sto≠.none->κ'.nm r=some d->κ.nm r=some d:=by
    intro r d hr hbn hd
    obtain⟨d',hd'⟩:=(hS.blk r).named hbn
    have:=hext.nm r d' hd'
    rw[this] at hd;cases hd;exact hd'
   have mix:∀ r i b0 d d' b,bs'[i]? = some b0->b0.ren (fun r=>some (g r))≠.none->κ1'.nm i=some d->d.block=some b->lookB i (db bs' 0)≠.none->r∉rs->lookB r sto≠.none->κ.nm r=some d'->d'.block≠some b:=by
    intro r i b0 d d' b hb0 hbn hd hdb hl hr hrl hd' hdb'
    obtain⟨q1,q2⟩:=hout r d' b hrl hr hd' hdb'
    rcases hS'.mine i d b hl hd hdb with h | h
    ·exact absurd q1 (Nat.not_lt.2 h)
    ·exact q2 h
   rcases hσ' r with ⟨i,b1,hb1,hgi,e⟩ | e | ⟨hr,hni,e⟩
   ·have h1':b1.ren (fun r=>some (g r))≠.none:=by
     intro h0;exact h1 (e.trans h0)
    obtain⟨p1,p2⟩:=cal r i b1 d hb1 hgi h1' hd
    rcases hσ' r' with ⟨j,b2,hb2,hgj,e'⟩ | e' | ⟨hr',hni',e'⟩
    ·have h2':b2.ren (fun r=>some (g r))≠.none:=by
      intro h0;exact h2 (e'.trans h0)
     obtain⟨p3,p4⟩:=cal r' j b2 d' hb2 hgj h2' hd'
     exact hS'.apart i j d d' b p1 p3 (fun hij=>hrr (by rw[<- hgi,<- hgj,hij])) p2 p4 hb
    ·exact absurd e' h2
    ·have h2':lookB r' sto≠.none:=by intro h0;exact h2 (e'.trans h0)
     exact mix r' i b1 d d' b hb1 h1' p2 hb p1 hr' h2' (own r' d' hr' h2' hd')
   ·exact absurd e h1
   ·have h1':lookB r sto≠.none:=by intro h0;exact h1 (e.trans h0)
    have hd0:=own r d hr h1' hd
    rcases hσ' r' with ⟨j,b2,hb2,hgj,e'⟩ | e' | ⟨hr',hni',e'⟩
    ·have h2':b2.ren (fun r=>some (g r))≠.none:=by
      intro h0;exact h2 (e'.trans h0)
     obtain⟨p3,p4⟩:=cal r' j b2 d' hb2 hgj h2' hd'
     intro hb'
     exact mix r j b2 d' d b hb2 h2' p4 hb' p3 hr h1' hd0 hb
    ·exact absurd e' h2
    ·have h2':lookB r' sto≠.none:=by intro h0;exact h2 (e'.trans h0)
     exact hS.apart r r' d d' b h1' h2' hrr hd0 (own r' d' hr' h2' hd') hb
  ·rcases hσ' r with ⟨i,b1,hb1,hgi,e⟩ | e | ⟨hr,hni,e⟩
   ·have h1':b1.ren (fun r=>some (g r))≠.none:=by
     intro h0;exact h1 (e.trans h0)
    refine hm1 b (hS'.mine i d b (hlive' i b1 hb1 h1') (by rw[<- hnm' i,hgi];exact hd) hb)
   ·exact absurd e h1
   ·have h1':lookB r sto≠.none:=by intro h0;exact h1 (e.trans h0)
    obtain⟨d',hd'⟩:=(hS.blk r).named h1'
    have:=hext.nm r d' hd'
    rw[this] at hd;cases hd
    exact .inr ⟨r,d,h1',hd',hb⟩
  ·refine⟨hS'.glob.1,fun g' hg'=>?_⟩
   obtain⟨h1,h2,cs,T,fz,h3,h4⟩:=hS.glob.2 g' hg'
   exact⟨h1,h2,cs,T,fz,(hL.block g' h1 fun h=>h2 (hl1 g' h)).trans h3,h4⟩
 ·show (if r<next then κ.nm r else κ1'.nm (k+(r - next)))=none
  rw[if_neg (by omega)]
  exact hf' _ (by omega)
def Gp (k:Nat)(rs:List Nat)(bs bs':List Blk)(next:Nat):Bool:=
 decide (k<=bs.length)&&decide (k<=bs'.length)&&(bs.take k).all (fun b=>match b with | .none=>false | _=>true)&&rs.all (fun r=>decide (r<next))&&decide rs.Nodup
theorem ab.lentK {k f:Nat}{args0:List AV}{bs:List Blk}{v:AV}{bs':List Blk}(h:bn P G k f args0 bs v bs')(rs:List Nat){args:List AV}{env:List (Nat×AV)}{sto:List (Nat×Blk)}{next:Nat}{K:AV->St->Prop}
  (hok:Gp k rs bs bs' next=true) (hargs:AVzL args (AV.renL (gSo next rs) args0)) (hbs:ia sto (gSo next rs) rs bs)
  (hK:K (v.ren (gSo next (rs.take k))) ⟨env,uh (gSo next (rs.take k)) bs' 0 (gIn next (rs.take k))++(ix (rs.drop k)++sto),next+(bs'.length - k)⟩):ab P G f args ⟨env,sto,next⟩ K:=by
 simp only[Gp,Bool.and_eq_true,decide_eq_true_eq,List.all_eq_true] at hok
 obtain⟨⟨⟨⟨h1,h2⟩,h3⟩,h4⟩,h5⟩:=hok
 refine ab.lent (h.frame hargs hbs h5 h4 h1 h2 (fun b hb e=>?_)) ?_
 ·have:=h3 b hb
  subst e;cases this
 ·rintro v' sto' next' ⟨rfl,rfl,rfl⟩
  exact hK
end
section
variable {P:Program}{G:Nat->List PV}
end
theorem C5 (k k':IntKind)(x y:Int):Ib (.pv (.int k x)) (.pv (.int k' y))=some (.pv (.int k (min x y))):=by
 simp only[Ib,Option.some.injEq,AV.pv.injEq,PV.int.injEq,true_and]
 split<;>omega
theorem C6 (k k':IntKind)(x y:Int):Ic (.pv (.int k x)) (.pv (.int k' y))=some (.pv (.int k (max x y))):=by
 simp only[Ic,Option.some.injEq,AV.pv.injEq,PV.int.injEq,true_and]
 split<;>omega
theorem map_take {α β:Type}(f:α->β)(l:List α)(n:Nat):(l.map f).take n=(l.take n).map f:=List.map_take.symm
theorem map_drop {α β:Type}(f:α->β)(l:List α)(n:Nat):(l.map f).drop n=(l.drop n).map f:=List.map_drop.symm
theorem zb {α β:Type}(f:α->β):(none:Option α).map f=none:=_root_.id rfl
def g7 (mu:Bool)(e sz by_ new:Nat)(σ:aE)(x:AV):Option (List PV)->Option (AV×List (Nat×Blk))
 | some ys=>match mu,x with
   | false,.pv .nils=>match ys with
     | []=>some (.pv .nils,[])
     | y::r=>if nj 0 (r.length+1) by_=true then some (.olist new sz (y::r),[(new,.tok e sz)]) else none
   | false,.olist q s l=>match σ q with
     | .tok e' sz'=>if e'=e/\sz'=sz/\s=sz/\nj l.length ys.length by_=true then some (.olist new sz (l++ys),[(q,.none),(new,.tok e sz)]) else none
     | _=>none
   | true,.pv .nils=>match ys with
     | []=>some (.pv .nils,[])
     | y::r=>if nj 0 (r.length+1) by_=true then some (.row new sz 0 (r.length+1),[(new,.cells e false (eT (y::r)))]) else none
   | true,.row q s off len=>match σ q with
     | .cells e' _ l=>if e'=e/\s=sz/\off=0/\len*sz<=l.length/\nj len ys.length by_=true then some (.row new sz 0 (len+ys.length),[(q,.none),(new,.cells e false (l.take (len*sz)++eT ys))]) else none
     | _=>none
   | _,_=>none
 | none=>none
def Fw (e sz by_ new q s:Nat)(l ys:List PV):Blk->Option (AV×List (Nat×Blk))
 | .tok e' sz'=>if e'=e/\sz'=sz/\s=sz/\nj l.length ys.length by_=true then some (.olist new sz (l++ys),[(q,.none),(new,.tok e sz)]) else none
 | _=>none
def BN (e sz by_ new q s off len:Nat)(ys:List PV):Blk->Option (AV×List (Nat×Blk))
 | .cells e' _ l=>if e'=e/\s=sz/\off=0/\len*sz<=l.length/\nj len ys.length by_=true then some (.row new sz 0 (len+ys.length),[(q,.none),(new,.cells e false (l.take (len*sz)++eT ys))]) else none
 | _=>none
theorem tW (mu:Bool)(e sz by_ new:Nat)(σ:aE)(x y:AV):dU mu e sz by_ new σ x y=g7 mu e sz by_ new σ x (bK σ sz y):=by
 unfold dU g7
 cases bK σ sz y<;>rfl
theorem MM (e sz by_ new:Nat)(σ:aE)(q s:Nat)(l ys:List PV):g7 false e sz by_ new σ (.olist q s l) (some ys)=Fw e sz by_ new q s l ys (σ q):=by
 simp only[g7,Fw]
theorem Fv {e sz by_ new q:Nat}{l ys:List PV}(h1:l.length+ys.length<=9223372036854775807)(h2:(l.length+ys.length)*by_<=140737488355328):Fw e sz by_ new q sz l ys (.tok e sz)=some (.olist new sz (l++ys),[(q,.none),(new,.tok e sz)]):=by
 simp[Fw,ik h1 h2]
theorem Ft (e sz by_ new:Nat)(σ:aE):g7 false e sz by_ new σ (.pv .nils) (some [])=some (.pv .nils,[]):=_root_.id rfl
theorem Fs {e sz by_ new:Nat}{σ:aE}{y:PV}{r:List PV}(h1:r.length+1<=9223372036854775807)(h2:(r.length+1)*by_<=140737488355328):g7 false e sz by_ new σ (.pv .nils) (some (y::r))=some (.olist new sz (y::r),[(new,.tok e sz)]):=by
 simp only[g7];rw[if_pos (ik (by omega) (by simpa using h2))]
theorem JG (e sz by_ new:Nat)(σ:aE)(q s off len:Nat)(ys:List PV):g7 true e sz by_ new σ (.row q s off len) (some ys)=BN e sz by_ new q s off len ys (σ q):=by
 simp only[g7,BN]
theorem sW {e sz by_ new q len:Nat}{f:Bool}{l:List AV}{ys:List PV}(h0:len*sz<=l.length)(h1:len+ys.length<=9223372036854775807)(h2:(len+ys.length)*by_<=140737488355328) :
  BN e sz by_ new q sz 0 len ys (.cells e f l)=some (.row new sz 0 (len+ys.length),[(q,.none),(new,.cells e false (l.take (len*sz)++eT ys))]):=by
 simp[BN,h0,ik h1 h2]
def sx (l:List PV):Bool->Option (List PV)
 | true=>some l
 | false=>none
theorem vo (σ:aE)(sz:Nat)(l:List PV):bK σ sz (.pv (.list l))=sx l (l.all fun y=>y.cells.length == sz):=by
 simp only[bK]
 cases l.all (fun y=>y.cells.length == sz)<;>rfl
theorem vp (l:List PV):sx l true=some l:=_root_.id rfl
theorem qH (σ:aE)(sz r:Nat)(l:List PV):bK σ sz (.olist r sz l)=some l:=by simp[bK]
def No (e sz new:Nat):Option (List PV)->Option (AV×List (Nat×Blk))
 | some ps=>if ps.all (fun p=>p.cells.length == sz&&p.cells.all PV.one)=true then some (.olist new sz ps,[(new,.tok e sz)]) else none
 | none=>none
theorem OX {e sz len new:Nat}{vs:List AV}(h:vs.length=len)(h2:len<=9223372036854775807):eB false e sz len new vs=No e sz new (pvs vs):=by
 simp only[eB,h,h2,true_and,if_true,No]
 cases pvs vs<;>rfl
def PZ (e sz new:Nat)(ps:List PV):Bool->Option (AV×List (Nat×Blk))
 | true=>some (.olist new sz ps,[(new,.tok e sz)])
 | false=>none
theorem MF (e sz new:Nat)(ps:List PV):PZ e sz new ps true=some (.olist new sz ps,[(new,.tok e sz)]):=_root_.id rfl
theorem BG (e sz new:Nat)(ps:List PV):No e sz new (some ps)=PZ e sz new ps (ps.all fun p=>p.cells.length == sz&&p.cells.all PV.one):=by
 simp only[No]
 cases ps.all (fun p=>p.cells.length == sz&&p.cells.all PV.one)<;>rfl
theorem rO (b:Bool):PV.one (.bool b)=true:=_root_.id rfl
theorem yV (k:IntKind)(n:Int):PV.one (.int k n)=true:=_root_.id rfl
theorem yU (s:List UInt8):PV.one (.str s)=true:=_root_.id rfl
theorem D3:PV.one .nils=true:=_root_.id rfl
theorem rM (l:List PV):PV.one (.list l)=true:=_root_.id rfl
theorem In (p:PV):AV.one (.pv p)=p.one:=_root_.id rfl
theorem D5 (r o:Nat):AV.one (.ptr r o)=true:=_root_.id rfl
theorem D4 (r s o n:Nat):AV.one (.row r s o n)=true:=_root_.id rfl
theorem ul (r s:Nat)(l:List PV):AV.one (.olist r s l)=true:=_root_.id rfl
theorem D6 (f:Nat)(a b:List AV):AV.one (.clo f a b)=true:=_root_.id rfl
def y8 (sz:Nat)(l:List PV)(h:Nat):Option Nat->Option AV
 | some a=>if KS sz l a=true then some (.pv (.list ((l.take h).drop a))) else none
 | none=>none
def yZ (sz:Nat)(l:List PV)(lo:Option AV):Option Nat->Option AV
 | some h=>y8 sz l h (bj 0 h lo)
 | none=>none
theorem nQ (sz:Nat)(l:List PV)(lo hi:Option AV):dT sz (.pv (.list l)) lo hi=yZ sz l lo (bj l.length l.length hi):=by
 show Kl sz l lo hi=_
 unfold Kl yZ y8
 cases bj l.length l.length hi with
 | none=>rfl
 | some h=>simp only;cases bj 0 h lo<;>rfl
theorem pV (sz:Nat)(l:List PV)(lo:Option AV)(h:Nat):yZ sz l lo (some h)=y8 sz l h (bj 0 h lo):=_root_.id rfl
theorem un (sz:Nat)(l:List PV)(h:Nat):y8 sz l h (some 0)=some (.pv (.list (l.take h))):=by
 simp[y8,KS]
theorem um (sz:Nat)(l:List PV)(i:Nat)(y:PV):fl sz l i (some y)=if y.cells.length=sz then some (.pv (.eptr l i 0)) else none:=_root_.id rfl
theorem Fy {α β:Type}(f:α->β)(p:β->Bool)(l:List α):(l.map f).all p=l.all fun x=>p (f x):=by
 rw[List.all_map];rfl
theorem MN {α:Type}(l:List α):(l.all fun _=>true)=true:=by simp
theorem MJ (n:Nat):(n == n)=true:=by simp
def LE (sz:Nat)(e:PV):Bool->Option AV
 | true=>some (.pv e)
 | false=>dV true sz 0 (e.cells.map .pv)
theorem IJ (sz:Nat)(e:PV):LE sz e true=some (.pv e):=_root_.id rfl
theorem Ey (sz:Nat)(e:PV):k8 true sz 0 e=LE sz e (e.isAgg&&decide (e.cells.length=sz)):=by
 simp only[k8,true_and]
 by_cases h:e.isAgg=true/\e.cells.length=sz
 ·rw[if_pos h,h.1,decide_eq_true h.2];rfl
 ·rw[if_neg h]
  have:(e.isAgg&&decide (e.cells.length=sz))=false:=by
   rw[Bool.eq_false_iff]
   intro hh
   simp only[Bool.and_eq_true,decide_eq_true_eq] at hh
   exact h hh
  rw[this];rfl
theorem z7 (cs:List PV):(PV.agg cs).isAgg=true:=_root_.id rfl
def fzO (σ:aE):Option AV->Option (AV×List (Nat×Blk))
 | some v=>(EZ σ v).map I0
 | none=>none
theorem LX (G:Nat->List PV)(σ:aE)(g:Bool)(sz:Nat)(v:AV):Jb G σ (some (g,sz)) v=fzO σ (eY G g sz σ v):=by
 simp only[Jb,fzO];cases eY G g sz σ v<;>rfl
theorem EX (σ:aE)(v:AV):fzO σ (some v)=(EZ σ v).map I0:=_root_.id rfl
theorem EY (σ:aE)(r s n:Nat):EZ σ (.row r s 0 n)=Nm s n r (σ r):=_root_.id rfl
theorem IZ (p:PV)(l:List Nat):I0 (p,l)=(.pv p,l.map fun r=>(r,.none)):=_root_.id rfl
theorem Ej (p:PV):(AV.pv p).names=[]:=_root_.id rfl
theorem zq (r o:Nat):(AV.ptr r o).names=[r]:=_root_.id rfl
theorem zm (r a b c:Nat):(AV.row r a b c).names=[r]:=_root_.id rfl
theorem Ek (r a:Nat)(l:List PV):(AV.olist r a l).names=[r]:=_root_.id rfl
theorem zr (f:Nat)(fs cs:List AV):(AV.clo f fs cs).names=AV.namesL fs++AV.namesL cs:=by simp only[AV.names]
theorem zu:AV.any.names=[]:=_root_.id rfl
theorem ut:AV.namesL []=[]:=_root_.id rfl
theorem j5 (x:AV)(r:List AV):AV.namesL (x::r)=x.names++AV.namesL r:=by simp only[AV.namesL]
theorem n7:∀ l:List PV,AV.namesL (l.map .pv)=[]
 | []=>rfl
 | x::r=>by rw[List.map_cons,j5,n7 r];rfl
theorem n8 (T:Nat)(f:Bool)(l:List AV):(Blk.cells T f l).names=AV.namesL l:=_root_.id rfl
theorem uu (e s:Nat):(Blk.tok e s).names=[]:=_root_.id rfl
theorem FD (acc:List Nat):bF acc []=acc:=_root_.id rfl
def JX (acc:List Nat)(n:Nat):Bool->List Nat
 | true=>acc
 | false=>acc++[n]
theorem iU (x:Nat):∀ l:List Nat,l.contains x=rW x l
 | []=>rfl
 | y::r=>by
   rw[List.contains_cons,iU x r,ob]
   by_cases h:y=x
   ·simp[h]
   ·have h':¬ x=y:=fun e=>h e.symm
    simp[h,h']
theorem BR (acc:List Nat)(n:Nat)(r:List Nat):bF acc (n::r)=bF (JX acc n (rW n acc)) r:=by
 simp only[bF,iU]
 cases rW n acc<;>rfl
theorem JV (acc:List Nat)(n:Nat):JX acc n true=acc:=_root_.id rfl
theorem JW (acc:List Nat)(n:Nat):JX acc n false=acc++[n]:=_root_.id rfl
def geN (m0:Nat):List Nat->List Nat
 | []=>[]
 | x::r=>if m0<=x then x::geN m0 r else geN m0 r
theorem IV (m0:Nat):geN m0 []=[]:=_root_.id rfl
theorem sd (m0 x:Nat)(r:List Nat):geN m0 (x::r)=if m0<=x then x::geN m0 r else geN m0 r:=_root_.id rfl
theorem An (m0:Nat):∀ l:List Nat,l.filter (fun r=>decide (m0<=r))=geN m0 l
 | []=>rfl
 | x::r=>by rw[List.filter_cons,An m0 r,sd];simp
def dQ (sto:List (Nat×Blk)):List Nat->List Nat
 | []=>[]
 | r::q=>(lookB r sto).names++dQ sto q
theorem oJ (sto:List (Nat×Blk)):dQ sto []=[]:=_root_.id rfl
theorem gZ (sto:List (Nat×Blk))(r:Nat)(q:List Nat):dQ sto (r::q)=(lookB r sto).names++dQ sto q:=_root_.id rfl
theorem gn (sto:List (Nat×Blk)):∀ l:List Nat,(l.flatMap fun r=>(lookB r sto).names)=dQ sto l
 | []=>rfl
 | r::q=>by rw[List.flatMap_cons,gn sto q,gZ]
theorem H6 (m0:Nat)(sto:List (Nat×Blk))(acc:List Nat):fY m0 sto 0 acc=acc:=_root_.id rfl
theorem H5 (m0:Nat)(sto:List (Nat×Blk))(k:Nat)(acc:List Nat):fY m0 sto (k+1) acc=fY m0 sto k (bF acc (geN m0 (dQ sto acc))):=by
 rw[<- An,<- gn];rfl
def eL (e:List (Nat×AV)):List Nat->List Nat
 | []=>[]
 | k::r=>(look k e).names++eL e r
theorem oC (e:List (Nat×AV)):eL e []=[]:=_root_.id rfl
theorem mU (e:List (Nat×AV))(k:Nat)(r:List Nat):eL e (k::r)=(look k e).names++eL e r:=_root_.id rfl
theorem kB (e:List (Nat×AV))(σ:List (Nat×Blk))(n:Nat):∀ l:List Nat,(l.flatMap fun i=>((⟨e,σ,n⟩:St).E i).names)=eL e l
 | []=>rfl
 | k::r=>by rw[List.flatMap_cons,kB e σ n r];rfl
def xJ:Nat->Nat->List Nat
 | 0,_=>[]
 | n+1,k=>k::xJ n (k+1)
theorem N1 (k:Nat):xJ 0 k=[]:=_root_.id rfl
theorem Ld (n k:Nat):xJ (n+1) k=k::xJ n (k+1):=_root_.id rfl
theorem xI:∀ n k:Nat,xJ n k=List.range' k n
 | 0,k=>rfl
 | n+1,k=>by rw[Ld,xI n,List.range'_succ]
theorem Gf (n:Nat):List.range n=xJ n 0:=by rw[xI,List.range_eq_range']
theorem Iq (m0:Nat)(keep:List Nat)(e:List (Nat×AV))(σ:List (Nat×Blk))(n:Nat):Ls m0 keep ⟨e,σ,n⟩=fY m0 σ σ.length (bF [] (geN m0 (eL e keep++dQ σ (xJ m0 0)))):=by
 rw[<- An,<- kB e σ n,<- gn,<- Gf];rfl
def n6 (f:Nat->Option Nat)(e:List (Nat×AV)):List Nat->List (Nat×AV)
 | []=>[]
 | k::r=>(k,(look k e).ren f)::n6 f e r
theorem zf (f:Nat->Option Nat)(e:List (Nat×AV)):n6 f e []=[]:=_root_.id rfl
theorem uo (f:Nat->Option Nat)(e:List (Nat×AV))(k:Nat)(r:List Nat):n6 f e (k::r)=(k,(look k e).ren f)::n6 f e r:=_root_.id rfl
def ze (m0:Nat)(keep:List Nat)(e:List (Nat×AV))(σ:List (Nat×Blk))(os:List Nat):St:=⟨n6 (dW m0 os) e keep,eP m0 (dW m0 os) σ (xJ m0 0++os) 0,m0+os.length⟩
theorem Iv (m0:Nat)(keep:List Nat)(e:List (Nat×AV))(σ:List (Nat×Blk))(n:Nat):norm m0 keep ⟨e,σ,n⟩=ze m0 keep e σ (fY m0 σ σ.length (bF [] (geN m0 (eL e keep++dQ σ (xJ m0 0))))):=by
 rw[<- Iq m0 keep e σ n]
 have hE:∀ (f:Nat->Option Nat) (l:List Nat),(l.map fun i=>(i,((⟨e,σ,n⟩:St).E i).ren f))=n6 f e l:=by
  intro f l
  induction l with
  | nil=>rfl
  | cons k r ih=>rw[List.map_cons,ih];rfl
 simp only[norm,ze,hE,Gf]
theorem Ix (m0:Nat)(keep:List Nat)(e:List (Nat×AV))(σ:List (Nat×Blk))(x:Nat)(r:List Nat):ze m0 keep e σ (x::r)=⟨n6 (dW m0 (x::r)) e keep,eP m0 (dW m0 (x::r)) σ (xJ m0 0++(x::r)) 0,m0+(x::r).length⟩:=_root_.id rfl
theorem Iw (m0:Nat)(keep:List Nat)(e:List (Nat×AV))(σ:List (Nat×Blk)):ze m0 keep e σ []=⟨n6 (dW m0 []) e keep,eP m0 (dW m0 []) σ (xJ m0 0) 0,m0⟩:=by
 simp only[ze,List.append_nil];rfl
theorem tG (m0:Nat)(f:Nat->Option Nat)(σ:List (Nat×Blk))(k:Nat):eP m0 f σ [] k=[]:=_root_.id rfl
theorem pI (m0:Nat)(f:Nat->Option Nat)(σ:List (Nat×Blk))(r:Nat)(q:List Nat)(k:Nat):eP m0 f σ (r::q) k=(k,(lookB r σ).ren f)::eP m0 f σ q (k+1):=_root_.id rfl
theorem ur (m0:Nat)(os:List Nat)(r:Nat):dW m0 os r=if r<m0 then some r else Gs r os m0:=_root_.id rfl
theorem Ad (x y:Nat)(r:List Nat)(k:Nat):Gs x (y::r) k=if y=x then some k else Gs x r (k+1):=_root_.id rfl
def N3 (o:Nat):Option Nat->AV
 | some q=>.ptr q o
 | none=>.any
def N2 (a b c:Nat):Option Nat->AV
 | some q=>.row q a b c
 | none=>.any
def N4 (a:Nat)(l:List PV):Option Nat->AV
 | some q=>.olist q a l
 | none=>.pv (.list l)
theorem Gh (f:Nat->Option Nat)(p:PV):(AV.pv p).ren f = .pv p:=by simp only[AV.ren]
theorem H2 (f:Nat->Option Nat):AV.any.ren f = .any:=by simp only[AV.ren]
theorem H0 (f:Nat->Option Nat)(r o:Nat):(AV.ptr r o).ren f=N3 o (f r):=by simp only[AV.ren,N3]<;>(cases f r<;>rfl)
theorem HZ (f:Nat->Option Nat)(r a b c:Nat):(AV.row r a b c).ren f=N2 a b c (f r):=by simp only[AV.ren,N2]<;>(cases f r<;>rfl)
theorem Lk (f:Nat->Option Nat)(r a:Nat)(l:List PV):(AV.olist r a l).ren f=N4 a l (f r):=by simp only[AV.ren,N4]<;>(cases f r<;>rfl)
theorem H1 (f:Nat->Option Nat)(g:Nat)(fs cs:List AV):(AV.clo g fs cs).ren f = .clo g (AV.renL f fs) (AV.renL f cs):=by simp only[AV.ren]
theorem xP (o q:Nat):N3 o (some q) = .ptr q o:=_root_.id rfl
theorem xO (a b c q:Nat):N2 a b c (some q) = .row q a b c:=_root_.id rfl
theorem xQ (a:Nat)(l:List PV)(q:Nat):N4 a l (some q) = .olist q a l:=_root_.id rfl
theorem CY (f:Nat->Option Nat):AV.renL f []=[]:=_root_.id rfl
theorem nL (f:Nat->Option Nat)(x:AV)(r:List AV):AV.renL f (x::r)=x.ren f::AV.renL f r:=by simp only[AV.renL]
theorem xR (f:Nat->Option Nat):∀ l:List PV,AV.renL f (l.map .pv)=l.map .pv
 | []=>rfl
 | x::r=>by rw[List.map_cons,nL,xR f r,Gh]
theorem tH (f:Nat->Option Nat)(T:Nat)(b:Bool)(l:List AV):(Blk.cells T b l).ren f = .cells T b (AV.renL f l):=_root_.id rfl
theorem CZ (f:Nat->Option Nat)(e s:Nat):(Blk.tok e s).ren f = .tok e s:=_root_.id rfl
theorem xS (f:Nat->Option Nat):Blk.none.ren f = .none:=_root_.id rfl
theorem Ea (A:List (Nat×Nat×Nat×Nat))(m0:Nat)(keep:List Nat)(s:St):cS A m0 keep s=norm m0 keep (FF A s):=_root_.id rfl
theorem FE (s:St):FF [] s=s:=_root_.id rfl
theorem BS (k e sz:Nat)(r:List (Nat×Nat×Nat×Nat))(env:List (Nat×AV))(σ:List (Nat×Blk))(n:Nat):FF ((k,0,e,sz)::r) ⟨env,σ,n⟩=FF r (Kn k e sz ⟨env,σ,n⟩ (look k env)):=_root_.id rfl
theorem BT (k j e sz:Nat)(r:List (Nat×Nat×Nat×Nat))(env:List (Nat×AV))(σ:List (Nat×Blk))(n:Nat):FF ((k,j+1,e,sz)::r) ⟨env,σ,n⟩=FF r (accP j e sz ⟨env,σ,n⟩ (look k env)):=_root_.id rfl
theorem BW (k e sz:Nat)(env:List (Nat×AV))(σ:List (Nat×Blk))(n:Nat):Kn k e sz ⟨env,σ,n⟩ (.pv .nils)=⟨(k,iy n e sz)::env,(n,df e sz)::σ,n+1⟩:=_root_.id rfl
theorem Iz {n e sz:Nat}(h:e<1000000):iy n e sz = .olist n sz []:=if_pos h
theorem Iy {n e sz:Nat}(h:1000000<=e):iy n e sz = .row n sz 0 0:=if_neg (Nat.not_lt.2 h)
theorem Ed {e sz:Nat}(h:e<1000000):df e sz = .tok e sz:=if_pos h
theorem Ec {e sz:Nat}(h:1000000<=e):df e sz = .cells (e - 1000000) false []:=if_neg (Nat.not_lt.2 h)
theorem J0 (k e sz r a:Nat)(l:List PV)(s:St):Kn k e sz s (.olist r a l)=s:=_root_.id rfl
theorem FH (o e sz r b:Nat)(env:List (Nat×AV))(σ:List (Nat×Blk))(n:Nat):accP o e sz ⟨env,σ,n⟩ (.ptr r b)=accB r (b+o) e sz ⟨env,σ,n⟩ (lookB r σ):=_root_.id rfl
theorem vW (r o e sz T:Nat)(f:Bool)(l:List AV)(s:St):accB r o e sz s (.cells T f l)=Km r T f l o e sz s l[o]?:=_root_.id rfl
theorem BV (r T:Nat)(f:Bool)(l:List AV)(o e sz:Nat)(env:List (Nat×AV))(σ:List (Nat×Blk))(n:Nat):Km r T f l o e sz ⟨env,σ,n⟩ (some (.pv .nils))=⟨env,(r,.cells T f (l.set o (iy n e sz)))::(n,df e sz)::σ,n+1⟩:=_root_.id rfl
theorem FI (r T:Nat)(f:Bool)(l:List AV)(o e sz:Nat)(s:St)(q a b c:Nat):Km r T f l o e sz s (some (.row q a b c))=s:=_root_.id rfl
theorem JZ (r T:Nat)(f:Bool)(l:List AV)(o e sz:Nat)(s:St)(q a:Nat)(k:List PV):Km r T f l o e sz s (some (.olist q a k))=s:=_root_.id rfl
theorem P4 {α:Type}(x y:α)(r:List α):(x::r).set 0 y=y::r:=_root_.id rfl
theorem P3 {α:Type}(x y:α)(r:List α)(n:Nat):(x::r).set (n+1) y=x::r.set n y:=_root_.id rfl
theorem NQ (e e':List (Nat×AV))(σ σ':List (Nat×Blk))(n n':Nat):(St.mk e σ n=St.mk e' σ' n')=(e=e'/\σ=σ'/\n=n'):=by rw[St.mk.injEq]
theorem Md {a b:Nat}(h:a<b):decide (a<b)=true:=decide_eq_true h
theorem Me {a b:Nat}(h:¬ a<b):decide (a<b)=false:=decide_eq_false h
theorem Mf {a b:Nat}(h:a<=b):decide (a<=b)=true:=decide_eq_true h
theorem Mg {a b:Nat}(h:¬ a<=b):decide (a<=b)=false:=decide_eq_false h
theorem aK {α:Type}{l:List α}{m:Nat}{x:α}(h:l[m]? = some x):l.take (m+1)=l.take m++[x]:=by
 obtain⟨h1,h2⟩:=List.getElem?_eq_some_iff.1 h
 rw[List.take_succ_eq_append_getElem h1,h2]
def LW (cells:List AV)(off sz:Nat)(r:List (Nat×Nat×AV))(xc:List AV):Bool->Option (List AV)
 | true=>gj (cells.take off++xc++cells.drop (off+sz)) r
 | false=>none
theorem I9 (cells:List AV)(off sz:Nat)(r:List (Nat×Nat×AV))(xc:List AV):LW cells off sz r xc true=gj (cells.take off++xc++cells.drop (off+sz)) r:=_root_.id rfl
theorem AJ (cells:List AV):gj cells []=some cells:=_root_.id rfl
theorem u7 (cells:List AV)(off sz:Nat)(x:AV)(r:List (Nat×Nat×AV)):gj cells ((off,sz,x)::r)=LW cells off sz r x.cells (x.known&&decide (x.cells.length=sz)&&decide (off+sz<=cells.length)):=by
 simp only[gj]
 by_cases h:x.known=true/\x.cells.length=sz/\off+sz<=cells.length
 ·rw[if_pos h,h.1,decide_eq_true h.2.1,decide_eq_true h.2.2];rfl
 ·rw[if_neg h]
  have:(x.known&&decide (x.cells.length=sz)&&decide (off+sz<=cells.length))=false:=by
   rw[Bool.eq_false_iff]
   intro hh
   simp only[Bool.and_eq_true,decide_eq_true_eq] at hh
   exact h ⟨hh.1.1,hh.1.2,hh.2⟩
  rw[this];rfl
theorem Dy (sz off:Nat)(cs:List AV):Ik sz off cs=if off+sz<=cs.length then some (i7 ((cs.drop off).take sz)) else none:=_root_.id rfl
section
variable {P:Program}{G:Nat->List PV}
def sZ {ι:Type}(A:List (Nat×Nat×Nat×Nat))(S:ι->St)(Inv:ι->Prop)(μ:ι->Nat)(x:ι)(m0:Nat)(keep:List Nat)(id:Nat)(keepX:List Nat)(fin:ι->Prop)(Q:AExit->St->Prop):AExit->St->Prop
 | .norm,s'=>∃ x',Hd A m0 keep s' (S x')/\Inv x'/\μ x'<μ x
 | .exit i,s'=>if i=id then ∃ x',fin x'/\norm m0 keepX s'=norm m0 keepX (S x') else Q (.exit i) s'
 | .ret,s'=>Q .ret s'
theorem qT {ι:Type}(A:List (Nat×Nat×Nat×Nat))(S:ι->St)(Inv:ι->Prop)(μ:ι->Nat)(x:ι)(m0:Nat)(keep:List Nat)(id:Nat)(keepX:List Nat)(fin:ι->Prop)(Q:AExit->St->Prop)(s:St):sZ A S Inv μ x m0 keep id keepX fin Q .norm s = ∃ x',Hd A m0 keep s (S x')/\Inv x'/\μ x'<μ x:=_root_.id rfl
theorem qU {ι:Type}(A:List (Nat×Nat×Nat×Nat))(S:ι->St)(Inv:ι->Prop)(μ:ι->Nat)(x:ι)(m0:Nat)(keep:List Nat)(id:Nat)(keepX:List Nat)(fin:ι->Prop)(Q:AExit->St->Prop)(i:Nat)(s:St):sZ A S Inv μ x m0 keep id keepX fin Q (.exit i) s=if i=id then (∃ x',fin x'/\norm m0 keepX s=norm m0 keepX (S x')) else Q (.exit i) s:=_root_.id rfl
theorem G3 {ι:Type}(A:List (Nat×Nat×Nat×Nat))(ch:ι->List (Nat×AV))(chB:ι->List (Nat×Blk))(Inv:ι->Prop)(μ:ι->Nat)(x0:ι)(keepX:List Nat)(fin:ι->Prop){m0 id:Nat}{keep:List Nat}{b:ACode}{F:St->Prop}{Q:AExit->St->Prop}{s:St}
  (h:∀ e0 σ0 n0,cS A m0 keep s=⟨e0,σ0,n0⟩->StZ ⟨e0,σ0,n0⟩ ⟨ef e0 (ch x0),eZ σ0 (chB x0),n0⟩/\Inv x0 /\
   (∀ x,Inv x->vc P G m0 b (sZ A (fun x=>⟨ef e0 (ch x),eZ σ0 (chB x),n0⟩) Inv μ x m0 keep id keepX fin Q) ⟨ef e0 (ch x),eZ σ0 (chB x),n0⟩) /\
   ∀ x,fin x->∀ s1,norm m0 keepX ⟨ef e0 (ch x),eZ σ0 (chB x),n0⟩=s1->F s1):vc P G m0 (.loop keep b) (er id (BZ F Q)) s:=by
 obtain⟨h1,h2,h3,h4⟩:=h (cS A m0 keep s).env (cS A m0 keep s).sto (cS A m0 keep s).next rfl
 refine⟨fun n s'=>∃ x,s'=⟨ef (cS A m0 keep s).env (ch x),eZ (cS A m0 keep s).sto (chB x),(cS A m0 keep s).next⟩/\Inv x/\μ x=n,⟨μ x0,_,Wk.head (A:=A) (keep:=keep) h1,x0,rfl,h2,rfl⟩,?_⟩
 rintro n s' ⟨x,rfl,hx,rfl⟩
 refine cG b (fun e s' hs=>?_) _ (h3 x hx)
 cases e with
 | norm=>
   obtain⟨x',k1,k2,k3⟩:=hs
   exact⟨_,_,k3,k1,x',rfl,k2,rfl⟩
 | exit i=>
   simp only[sZ] at hs
   split at hs
   ·rename_i hi
    obtain⟨x',k1,k2⟩:=hs
    refine⟨norm m0 keepX s',Wk.norm m0 keepX s',?_⟩
    simp only[er,if_pos hi,BZ]
    exact h4 x' k1 _ k2.symm
   ·rename_i hi
    refine⟨s',Wk.of (Wx.refl s') m0,?_⟩
    simp only[er,if_neg hi,BZ]
    exact hs
 | ret=>exact hs
end
theorem AU (k:Nat):db [] k=[]:=_root_.id rfl
theorem vh (b:Blk)(r:List Blk)(k:Nat):db (b::r) k=(k,b)::db r (k+1):=_root_.id rfl
theorem uJ (sto:List (Nat×Blk))(f:Nat->Option Nat):ia sto f [] []=True:=_root_.id rfl
theorem qv (sto:List (Nat×Blk))(f:Nat->Option Nat)(r:Nat)(rs:List Nat)(b:Blk)(bs:List Blk):ia sto f (r::rs) (b::bs)=(BlkZ (lookB r sto) (b.ren f)/\ia sto f rs bs):=_root_.id rfl
theorem D2 (f:Nat->Option Nat)(i:Nat)(g:Nat->Nat):uh f [] i g=[]:=_root_.id rfl
theorem yS (f:Nat->Option Nat)(b:Blk)(r:List Blk)(i:Nat)(g:Nat->Nat):uh f (b::r) i g=(g i,b.ren f)::uh f r (i+1) g:=_root_.id rfl
theorem zg:ix []=[]:=_root_.id rfl
theorem up (r:Nat)(q:List Nat):ix (r::q)=(r,.none)::ix q:=_root_.id rfl
theorem LP (next:Nat)(rs:List Nat)(r:Nat):gSo next rs r=some (gIn next rs r):=_root_.id rfl
theorem IW (next i:Nat):gIn next [] i=next+i:=_root_.id rfl
theorem Oo (next r:Nat)(q:List Nat):gIn next (r::q) 0=r:=_root_.id rfl
theorem On (next r i:Nat)(q:List Nat):gIn next (r::q) (i+1)=gIn next q i:=_root_.id rfl
theorem mw {sz r off n:Nat}{k:IntKind}{h:Int}(h0:0<=h)(h1:h<=n)(hs:0<sz):dT sz (.row r sz off n) none (some (.pv (.int k h)))=some (.row r sz off h.toNat):=by
 simp[dT,bj,h0,h1,hs]
theorem FC (n:Int):n+1 - 1=n:=by omega
theorem aL (A:List (Nat×Nat×Nat×Nat)){k:Nat}{v v':AV}{bs':List Blk}{sto':List (Nat×Blk)}{next':Nat}(h:StZ (cS A k [0] ⟨[(0,v')],sto',next'⟩) ⟨[(0,v)],db bs' 0,bs'.length⟩):IP k v bs' v' sto' next':=Wk.head h
section
variable {P:Program}{G:Nat->List PV}
theorem B3 (F:St->Prop)(s:St):PP F .norm s=F s:=_root_.id rfl
theorem Fo (b:ACode)(Q:AExit->St->Prop)(e:List (Nat×AV))(σ:List (Nat×Blk))(n:Nat):JC (fun m=>vc P G m b) Q ⟨e,σ,n⟩=vc P G n b Q ⟨e,σ,n⟩:=_root_.id rfl
theorem Dq (e:List (Nat×AV)):Dr [] [] e=e:=_root_.id rfl
theorem yy (p:Nat)(ps:List Nat)(x:PV)(xs:List PV)(e:List (Nat×AV)):Dr (p::ps) (x::xs) e=Dr ps xs ((p,.pv x)::e):=_root_.id rfl
def O3 {ι:Type}(A:List (Nat×Nat×Nat×Nat))(S:ι->St)(Inv:Nat->ι->Prop)(i m0:Nat)(keep:List Nat)(Q:AExit->St->Prop)(e0:List (Nat×AV)):AExit->St->Prop
 | .norm,s'=>∃ x',Hd A m0 keep ⟨e0,s'.sto,s'.next⟩ (S x')/\Inv (i+1) x'
 | .exit j,s'=>Q (.exit j) ⟨e0,s'.sto,s'.next⟩
 | .ret,s'=>Q .ret ⟨e0,s'.sto,s'.next⟩
theorem B0 {ι:Type}(A:List (Nat×Nat×Nat×Nat))(S:ι->St)(Inv:Nat->ι->Prop)(i m0:Nat)(keep:List Nat)(Q:AExit->St->Prop)(e0 e:List (Nat×AV))(σ:List (Nat×Blk))(n:Nat):O3 A S Inv i m0 keep Q e0 .norm ⟨e,σ,n⟩ = ∃ x',Hd A m0 keep ⟨e0,σ,n⟩ (S x')/\Inv (i+1) x':=_root_.id rfl
theorem FL {ι:Type}(A:List (Nat×Nat×Nat×Nat))(S:ι->St)(Inv:Nat->ι->Prop)(i m0:Nat)(keep:List Nat)(Q:AExit->St->Prop)(e0 e:List (Nat×AV))(σ:List (Nat×Blk))(n:Nat):O3 A S Inv i m0 keep Q e0 .ret ⟨e,σ,n⟩=Q .ret ⟨e0,σ,n⟩:=_root_.id rfl
theorem LN:∀ (lb:List PV),pvs (lb.map AV.pv)=some lb
 | []=>rfl
 | p::r=>by simp[pvs,AV.toPV,LN r]
theorem wH {ι:Type}(A:List (Nat×Nat×Nat×Nat))(ch:ι->List (Nat×AV))(chB:ι->List (Nat×Blk))(Inv:Nat->ι->Prop)(x0:ι){gf:Nat}{lb:List PV}{xs:List (List PV)}(hs:Nr P G gf lb xs)
  {m0:Nat} {f:AX} {ps keep:List Nat} {a b:ACode} {Q:AExit->St->Prop} {s:St}
  (h:∀ e0 σ0 n0,cS A m0 keep s=⟨e0,σ0,n0⟩->StZ ⟨e0,σ0,n0⟩ ⟨ef e0 (ch x0),eZ σ0 (chB x0),n0⟩/\Inv 0 x0/\dB (f.ev (fun i=>look i (ef e0 (ch x0))))=some (gf,[],lb.map AV.pv) /\
   (∀ i x y,xs[i]? = some y->Inv i x->y.length=ps.length/\vc P G n0 a (PP (JC (fun m=>vc P G m b) (O3 A (fun x=>⟨ef e0 (ch x),eZ σ0 (chB x),n0⟩) Inv i m0 keep Q (ef e0 (ch x))))) ⟨Dr ps y (ef e0 (ch x)),eZ σ0 (chB x),n0⟩) /\
   ∀ x,Inv xs.length x->Q .norm ⟨ef e0 (ch x),eZ σ0 (chB x),n0⟩):vc P G m0 (.range f ps keep a b) Q s:=by
 obtain⟨h1,h2,h3,h4,h5⟩:=h (cS A m0 keep s).env (cS A m0 keep s).sto (cS A m0 keep s).next rfl
 let S:ι->St:=fun x=>⟨ef (cS A m0 keep s).env (ch x),eZ (cS A m0 keep s).sto (chB x),(cS A m0 keep s).next⟩
 refine⟨fun i t=>∃ x,t=S x/\Inv i x,S x0,aM h1,⟨x0,rfl,h2⟩,?_⟩
 have e:dB (f.ev (S x0).E)=some (gf,[],lb.map AV.pv):=h3
 rw[e]
 refine⟨rfl,lb,xs,LN lb,hs,?_,?_⟩
 ·rintro i y t hy ⟨x,rfl,hx⟩
  obtain⟨k1,k2⟩:=h4 i x y hy hx
  refine⟨k1,cG a (fun e s hs=>?_) _ k2⟩
  cases e with
  | norm=>
    refine cG b (fun e s hs=>?_) s hs
    cases e with
    | norm=>
      obtain⟨x',q1,q2⟩:=hs
      exact⟨S x',q1,x',rfl,q2⟩
    | exit j=>exact hs
    | ret=>exact hs
  | exit j=>exact hs.elim
  | ret=>exact hs.elim
 ·rintro t ⟨x,rfl,hx⟩
  exact h5 x hx
end
attribute [push_cast] Cb G0 OA OB OC OD OE OF zF Ev uG zG Ou Ov E4 E5 Je E7 Jd E3 Hn xa tA tz tw pE tv pD Cv xb xe pC pB Cy Cz If Cu Ct xh Cx Cw tt H7 H8 tR pP yH Il nS tS pO nR tQ C7 yd yc C8 pQ pR Ba BH pK Dm Dc Dg De Dd Dl Df Dh Di Dj Dk yp yo yh yj ym Dn yq yr C4 x8 yg C3 Id za Qa P9 Ih yw yx mz Hh tm Cp Cq zx j8 qj ID p5 IE p6 p7 Bu vO vM vL oH vN ag vK Bs Bp vI vJ Bt qu uH yb tP IL IK th tg uE MG Er vP zD EB zR zO zN qw zP zB uD qo qp IF Ia tK nD CD ik Cj wX Fh Fi Io Ef Eh Eg Ei Fm wI tj wz wA wy o9 A2 vv nX nY Eb Do Ma Mb A1 CF CI CH Lb La qm oc oe mH mI G7 Ch wJ vw qI Jj qq oh og mL mK IC Em El uz zW uM Jk vu Bc vF Bd vH Jn Jo Ep Lz D9 BX BY FJ q0 q7 we G2 KL G5 Ji KJ G6 Cg G4 KK D7 Oi Oj CW xM FT J9 HY Lf Lg Le vD xL tF Dt LJ zZ Aa uQ uP qX qY vY yD tY yQ ue yE t8 yR uf mE Ir Lv Lt Is Lu It D8 C5 C6 map_take map_drop zb tW MM Fv Ft Fs JG sW vo vp qH OX MF BG rO yV yU D3 rM In D5 D4 ul D6 nQ pV un um Fy MN MJ IJ Ey z7 LX EX EY IZ Ej zq zm Ek zr zu ut j5 n7 n8 uu FD BR JV JW IV sd oJ gZ H6 H5 oC mU N1 Ld zf uo Iv Ix Iw tG pI ur Ad Gh H2 H0 HZ Lk H1 xP xO xQ CY nL xR tH CZ xS Ea FE BS BT BW Iz Iy Ed Ec J0 FH vW BV FI JZ P4 P3 NQ Md Me Mf Mg I9 AJ u7 Dy qT qU Fp E9 AS BI MI MH BK BL CC xr KT AU vh uJ qv D2 yS zg up LP IW Oo On mw FC Nat.zero_add Nat.add_zero List.length_cons List.length_nil List.nil_append List.cons_append List.append_nil List.append_assoc List.getElem?_map List.length_map List.map_nil List.map_cons List.take_succ_cons List.take_zero List.drop_succ_cons List.drop_zero List.take_nil List.drop_nil List.all_cons List.all_nil Bool.and_true Bool.true_and Bool.and_false Bool.false_and Bool.not_true Bool.not_false decide_true decide_false Bool.not_not Int.natCast_add Int.cast_ofNat_Int Int.toNat_natCast Option.some.injEq and_true true_and ge_iff_le Nat.le_refl Nat.zero_le Nat.not_lt_zero and_self
attribute [push_cast] B3 Fo Dq yy B0 FL
attribute [push_cast high] Int.cast_ofNat_Int
def uW:List AV->List AV
 | []=>[]
 | x::r=>x.cells++uW r
theorem Av:uW []=[]:=_root_.id rfl
theorem uV (x:AV)(r:List AV):uW (x::r)=x.cells++uW r:=_root_.id rfl
theorem sm:∀ l:List AV,l.flatMap AV.cells=uW l
 | []=>rfl
 | x::r=>by rw[List.flatMap_cons,sm r];rfl
section
variable {P:Program}{G:Nat->List PV}
theorem Mn {b:Bool}(h:b=true):Chk b:=h
theorem OW {e sz len new:Nat}{vs:List AV}(h:Chk (decide (vs.length=len)&&decide (len<=9223372036854775807)&&vs.all (fun v=>v.known&&v.cells.length == sz&&v.cells.all AV.one))):eB true e sz len new vs=some (.row new sz 0 len,[(new,.cells e true (uW vs))]):=by
 have h':=h
 simp only[Chk,Bool.and_eq_true,decide_eq_true_eq] at h'
 obtain⟨⟨h1,h2⟩,h3⟩:=h'
 simp only[eB]
 rw[if_pos ⟨h1,h2⟩,if_pos h3,sm]
theorem nU:∀ l:List PV,pvs (l.map .pv)=some l
 | []=>rfl
 | x::r=>by simp[pvs,AV.toPV,nU r]
end
attribute [push_cast] OW Av uV
section
variable {α β:Type}
def fS (p:Nat->Bool):Nat->Bool
 | 0=>true
 | n+1=>fS p n&&p n
theorem dR {p:Nat->Bool}:∀ {n:Nat},fS p n=true↔∀ k,k<n->p k=true
 | 0=>by simp[fS]
 | n+1=>by
   rw[fS,Bool.and_eq_true,dR]
   constructor
   ·rintro⟨h1,h2⟩ k hk
    rcases Nat.lt_succ_iff_lt_or_eq.1 hk with h | h
    ·exact h1 k h
    ·rw[h];exact h2
   ·exact fun h=>⟨fun k hk=>h k (by omega),h n (by omega)⟩
theorem bi {p:Nat->Bool}{k n:Nat}(h:p k=false)(hk:k<n):fS p n=false:=by
 cases ha:fS p n with
 | false=>rfl
 | true=>rw[dR.1 ha k hk] at h;cases h
theorem iI {l:List α}{m:Nat}{x:α}(h:l[m]? = some x):l.drop m=x::l.drop (m+1):=by
 obtain⟨h1,h2⟩:=List.getElem?_eq_some_iff.1 h
 rw[List.drop_eq_getElem_cons h1,h2]
theorem mV {l:List α}{m:Nat}(h:¬ m<l.length):l.drop m=[]:=List.drop_eq_nil_of_le (by omega)
theorem ji {l:List α}{m:Nat}(h:¬ m<l.length):l.take m=l:=List.take_of_length_le (by omega)
theorem sn {l:List α}{m:Nat}{x:α}{p:α->Bool}(h:l[m]? = some x)(hp:p x=true):(l.drop m).find? p=some x:=by
 rw[iI h,List.find?_cons,hp]
theorem oz {l:List α}{m:Nat}{x:α}{p:α->Bool}(h:l[m]? = some x)(hp:p x=false):(l.drop m).find? p=(l.drop (m+1)).find? p:=by
 rw[iI h,List.find?_cons,hp]
theorem sq {l:List α}{m:Nat}{p:α->Bool}(h:¬ m<l.length):(l.drop m).find? p=none:=by rw[mV h];rfl
theorem JH {l:List α}{m:Nat}{x:α}{p:α->Bool}(h:l[m]? = some x)(hp:p x=true):(l.drop m).any p=true:=by
 rw[iI h,List.any_cons,hp];rfl
theorem Fx {l:List α}{m:Nat}{x:α}{p:α->Bool}(h:l[m]? = some x)(hp:p x=false):(l.drop m).any p=(l.drop (m+1)).any p:=by
 rw[iI h,List.any_cons,hp];rfl
theorem JI {l:List α}{m:Nat}{p:α->Bool}(h:¬ m<l.length):(l.drop m).any p=false:=by rw[mV h];rfl
def d7 (p:α->Bool):List α->Nat->Int
 | [],_=>-1
 | x::r,m=>if p x=true then (m:Int) else d7 p r (m+1)
theorem dX {l:List α}{m:Nat}{x:α}{p:α->Bool}(h:l[m]? = some x)(hp:p x=true):d7 p (l.drop m) m=m:=by
 rw[iI h,d7,if_pos hp]
theorem cQ {l:List α}{m:Nat}{x:α}{p:α->Bool}(h:l[m]? = some x)(hp:p x=false):d7 p (l.drop m) m=d7 p (l.drop (m+1)) (m+1):=by
 rw[iI h,d7,if_neg (by rw[hp];simp)]
theorem dY {l:List α}{m:Nat}{p:α->Bool}(h:¬ m<l.length):d7 p (l.drop m) m = -1:=by rw[mV h];rfl
theorem bx {p:α->Bool}:∀ (l:List α) (m:Nat),(l.find? p=none/\d7 p l m = -1)\/∃ (k:Nat) (x:α),l[k]? = some x/\l.find? p=some x/\d7 p l m=((m+k:Nat):Int)
 | [],m=>.inl ⟨rfl,rfl⟩
 | x::r,m=>by
   cases hx:p x with
   | true=>exact .inr ⟨0,x,rfl,by rw[List.find?_cons,hx],by rw[d7,if_pos hx];rfl⟩
   | false=>
     rw[List.find?_cons,hx,d7,if_neg (by rw[hx];simp)]
     rcases bx r (m+1) with ⟨h1,h2⟩ | ⟨k,y,h1,h2,h3⟩
     ·exact .inl ⟨h1,h2⟩
     ·exact .inr ⟨k+1,y,by simpa using h1,h2,by rw[h3];congr 1;omega⟩
theorem eI {p:α->Bool}(l:List α):(l.find? p).isSome=l.any p:=by
 induction l with
 | nil=>rfl
 | cons x r ih=>rw[List.find?_cons,List.any_cons];cases p x<;>simp[ih]
def PR:Option (List UInt8)->Option AV
 | some l=>some (.pv (.str l))
 | none=>none
def GH (n:Int):Option (List UInt8)->Option (List UInt8)
 | some l=>some (UInt8.ofNat n.toNat::l)
 | none=>none
theorem yY (l:List UInt8):PR (some l)=some (.pv (.str l)):=_root_.id rfl
theorem kG (n:Int)(l:List UInt8):GH n (some l)=some (UInt8.ofNat n.toNat::l):=_root_.id rfl
theorem Hc:u8s []=some []:=_root_.id rfl
theorem rk (n:Int)(r:List PV):u8s (.int .u8 n::r)=GH n (u8s r):=by
 simp only[u8s];cases u8s r<;>rfl
theorem jH:∀ l:List UInt8,u8s (l.map fun b=>PV.int .u8 (b.toNat:Int))=some l
 | []=>rfl
 | b::r=>by rw[List.map_cons,rk,jH r,kG];simp
theorem Co (σ:aE)(r:Nat)(l:List PV):gC σ (.olist r 1 l)=PR (u8s l):=by
 simp only[gC,bK,if_true];cases u8s l<;>rfl
end
theorem uC (G:Nat->List PV)(e:List (Nat×AV))(σ:List (Nat×Blk))(new:Nat)(x:AX):mJ G e σ new (.toStr x)=mc [] (gC (fun r=>lookB r σ) (evE e x)):=by
 simp only[mJ];cases gC (fun r=>lookB r σ) (evE e x)<;>rfl
theorem de {a b:Int}(h:0<=a):a.tdiv b=a / b:=Int.tdiv_eq_ediv_of_nonneg h
theorem dr {a b:Int}(h:0<=a):a.tmod b=a % b:=Int.tmod_eq_emod_of_nonneg h
def Fn:Option UInt8->Option AV
 | some b=>some (.pv (.int .u8 (b.toNat:Int)))
 | none=>none
theorem bh (b:UInt8):Fn (some b)=some (.pv (.int .u8 (b.toNat:Int))):=_root_.id rfl
theorem iq (l:List UInt8)(k:IntKind)(i:Nat):gF (.pv (.str l)) (.pv (.int k (i:Int)))=Fn l[i]?:=by
 simp only[gF,Int.toNat_natCast]
 rw[if_pos (by omega)]
 cases l[i]? <;> rfl
theorem pM (l:List UInt8)(k:IntKind):gF (.pv (.str l)) (.pv (.int k 0))=Fn l[0]?:=iq l k 0
theorem pN (l:List UInt8)(k:IntKind)(i:Nat):gF (.pv (.str l)) (.pv (.int k ((i:Int)+1)))=Fn l[i+1]?:=iq l k (i+1)
attribute [push_cast] bh iq pM pN uC de dr yY kG Hc rk jH Co
open Go.Sort
theorem di {P:Program}{G:Nat->List PV}{f:Nat}{args:List PV}{r:PV}(hc:cf P f=true)
  (h:∀ (w:World) (imm:Nat->Nat->Prop) (vals:Array Value),dG G w imm->vals.size=args.length->(∀ (i:Nat) (x:PV),args[i]? = some x->PRel w imm x (vals.getD i Go.undef)) ->
   Calls P f vals w fun e w'=>∃ u,e = .returned u/\Below w.heap.size w w'/\PRel w' imm r u):am P G f args r:=by
 refine⟨hc,fun w imm vals hG hlt hsz hargs=>(h w imm vals hG hsz hargs).mono ?_⟩
 rintro e w' ⟨u,rfl,hb,hr⟩
 exact⟨u,imm,rfl,hb,fun _ _ h=>h,fun _ _ h=>.inl h,fun b o h=>Nat.lt_of_lt_of_le (hlt b o h) hb.size,hr⟩
theorem jK {w:World}{imm:Nat->Nat->Prop}{l:List UInt8}(h:l.length<=maxLen):PRel w imm (.str l) (.string ⟨l.toArray⟩):=by
 have:=PRel.str (w:=w) (imm:=imm) ⟨l.toArray⟩ (by show l.toArray.size<=maxLen;simpa using h)
 simpa using this
theorem mq {w:World}{imm:Nat->Nat->Prop}{l:List UInt8}{v:Value}(h:PRel w imm (.str l) v):v = .string ⟨l.toArray⟩/\l.length<=maxLen:=by
 cases h with
 | str s hs=>exact⟨by simp,hs⟩
theorem FX {vals:Array Value}(h:vals.size=1):vals = #[vals.getD 0 Go.undef]:=by
 apply Array.ext
 ·simp[h]
 ·intro i h1 h2
  have:i=0:=by omega
  subst this
  simp[Array.getD_eq_getD_getElem?,h]
theorem FW {vals:Array Value}(h:vals.size=2):vals = #[vals.getD 0 Go.undef,vals.getD 1 Go.undef]:=by
 apply Array.ext
 ·simp[h]
 ·intro i h1 h2
  have:i=0\/i=1:=by omega
  rcases this with rfl | rfl<;>simp[Array.getD_eq_getD_getElem?,h]
def br:Nat->Nat->List UInt8
 | 0,_=>[]
 | n+1,k=>if k<10 then [UInt8.ofNat (48+k)] else br n (k / 10)++[UInt8.ofNat (48+k % 10)]
def gh (n:Int):List UInt8:=if n<0 then 45::br 20 n.natAbs else br 20 n.toNat
theorem kD:∀ (f k:Nat),k<10 ^ f->0<f->br f k=Lib.decDigits k
 | 0,k,_,h=>absurd h (by simp)
 | f+1,k,hk,_=>by
   rw[br,Lib.decDigits]
   by_cases h:k<10
   ·simp[h]
   ·rw[if_neg h,dif_neg h]
    have h10:k / 10<10 ^ f:=by
     rw[Nat.pow_succ] at hk
     exact Nat.div_lt_of_lt_mul (by rw[Nat.mul_comm];exact hk)
    rw[kD f (k / 10) h10 (by
     rcases Nat.eq_zero_or_pos f with h0 | h0
     ·subst h0
      simp at hk
      omega
     ·exact h0)]
theorem iJ:∀ (f k:Nat),(br f k).length<=f
 | 0,k=>by simp[br]
 | f+1,k=>by
   rw[br]
   split
   ·simp
   ·have:=iJ f (k / 10)
    simp;omega
theorem r5 {n:Int}(h0:-9223372036854775808<=n)(h1:n<=9223372036854775807):gh n=Lib.itoa n:=by
 have e:(10:Nat) ^ 20=100000000000000000000:=by decide
 unfold gh Lib.itoa
 split
 ·rw[kD 20 n.natAbs (by rw[e];omega) (by decide)]
 ·rw[kD 20 n.toNat (by rw[e];omega) (by decide)]
theorem oo (n:Int):(gh n).length<=21:=by
 unfold gh
 split
 ·have:=iJ 20 n.natAbs
  simp;omega
 ·have:=iJ 20 n.toNat
  omega
theorem Cs {P:Program}{G:Nat->List PV}{w:World}{imm:Nat->Nat->Prop}{name:String}{k:IntKind}{zs:List Int}{g:Nat}(hn:P.globalNamed name=some g)(hG:G g=zs.map (PV.int k))(hz:zs≠[])(h:dG G w imm) :
  Lib.TabIs P w name k zs:=by
 obtain⟨cs,T,fz,h1,h2⟩:=h.2 g (by rw[hG];simpa using hz)
 have hcs:cs=(zs.map fun z=>Value.int k z).toArray:=by
  rw[hG] at h2
  simp only[List.length_map] at h2
  apply Array.ext
  ·simp[h2]
  ·intro i hi hi'
   have hiz:i<zs.length:=by omega
   obtain⟨_,v,h3,_,h4⟩:=h.1 g i (.int k zs[i]) (by rw[hG];simp[hiz])
   have hv:v = .int k zs[i]:=by cases h4;rfl
   have hc:=cell_of_row w g i cs T fz h1
   rw[h3,hv] at hc
   have:=(Array.getElem?_eq_some_iff.1 hc.symm).2
   simp[this]
 unfold Lib.TabIs World.var?
 rw[hn]
 simp only[Option.bind_some,h1]
 rw[hcs]
theorem zX {P:Program}{G:Nat->List PV}{f g:Nat}{name:String}(hc:cf P f=true)(hn:P.globalNamed name=some g)(hG:G g=Lib.pow10Tab.map (PV.int .u64))
  (h:∀ (n:Int) (h0:-9223372036854775808<=n) (h1:n<=9223372036854775807) (w:World) (htab:Lib.TabIs P w name .u64 Lib.pow10Tab),
   Calls P f #[.int .i64 n] w fun e w'=>e = .returned (.string ⟨(Lib.itoa n).toArray⟩)/\∃ k os,w'=Sort.grow (w.drewN k) os)
  (n:Int) (h0:-9223372036854775808<=n) (h1:n<=9223372036854775807):am P G f [.int .i64 n] (.str (gh n)):=by
 refine di hc fun w imm vals hGl hsz hargs=>?_
 have hv:=FX hsz
 have h2:=hargs 0 (.int .i64 n) rfl
 have h3:vals.getD 0 Go.undef = .int .i64 n:=by
  generalize vals.getD 0 Go.undef=x at h2
  cases h2;rfl
 rw[hv,h3]
 refine (h n h0 h1 w (Cs hn hG (by
  intro e
  have:=congrArg List.length e
  rw[Lib.pow10Tab_length] at this
  simp at this) hGl)).mono ?_
 rintro e w' ⟨rfl,k,os,rfl⟩
 refine⟨_,rfl,Lib.below_grow _ w (Nat.le_refl _) k os,?_⟩
 rw[r5 h0 h1,<- r5 h0 h1]
 refine jK ?_
 have:=oo n
 unfold maxLen;omega
theorem oF {P:Program}{G:Nat->List PV}{f:Nat}(hc:cf P f=true)
  (h:∀ (a b:ByteArray) (w:World),Calls P f #[.string a,.string b] w fun e w'=>e = .returned (.int .i64 (Lib.compareBytes a.data.toList b.data.toList))/\w'=w) (a b:List UInt8) :
  am P G f [.str a,.str b] (.int .i64 (Lib.compareBytes a b)):=by
 refine di hc fun w imm vals hGl hsz hargs=>?_
 have hv:=FW hsz
 obtain⟨ha,_⟩:=mq (hargs 0 (.str a) rfl)
 obtain⟨hb,_⟩:=mq (hargs 1 (.str b) rfl)
 rw[hv,ha,hb]
 refine (h _ _ w).mono ?_
 rintro e w' ⟨rfl,rfl⟩
 refine⟨_,rfl,Below.refl _ _,?_⟩
 simpa using PRel.int (w:=w') (imm:=imm) .i64 (Lib.compareBytes a b)
def o6 (p:Nat):List UInt8:=
 if p<128 then [UInt8.ofNat p]
 else if p<2048 then [UInt8.ofNat (192+p / 64),UInt8.ofNat (128+p % 64)]
 else if p<65536 then [UInt8.ofNat (224+p / 4096),UInt8.ofNat (128+p / 64 % 64),UInt8.ofNat (128+p % 64)]
 else [UInt8.ofNat (240+p / 262144),UInt8.ofNat (128+p / 4096 % 64),UInt8.ofNat (128+p / 64 % 64),UInt8.ofNat (128+p % 64)]
def i6 (p:Nat):Bool:=decide (p<=1114111)&&(decide (p<55296)||decide (57343<p))
def kE (l:List UInt8):Nat×Nat:=
 if l=[] then (0,0) else if Lib.decodeL l=(65533,1) then (0,0) else Lib.decodeL l
def byN (l:List UInt8)(i:Nat):Nat:=(l.getD i 0).toNat
theorem f5 {l:List UInt8}{i:Nat}{b:UInt8}(h:l[i]? = some b):byN l i=b.toNat:=by
 rw[byN,List.getD_eq_getElem?_getD,h];rfl
theorem f0 (l:List UInt8)(i:Nat):byN l i<256:=UInt8.toNat_lt _
theorem mh {n:Nat}{b:UInt8}(h:n<256):UInt8.ofNat n=b↔n=b.toNat:=by
 constructor
 ·rintro rfl;simp[UInt8.toNat_ofNat',Nat.mod_eq_of_lt h]
 ·rintro rfl;exact UInt8.ofNat_toNat
def Oq (p:Nat×Nat):Nat×Nat:=if p=(65533,1) then (0,0) else p
theorem gi:Oq (65533,1)=(0,0):=rfl
theorem I4 {p n:Nat}(h:n≠1):Oq (p,n)=(p,n):=if_neg (by simp[h])
theorem oE {l:List UInt8}(h:l≠[]):kE l=Oq (Lib.decodeN l.length (byN l 0) (byN l 1) (byN l 2) (byN l 3)):=by
 rw[kE,if_neg h,Lib.decodeL_N];rfl
theorem OJ {l:List UInt8}(h:l≠[])(h0:byN l 0<128):kE l=(byN l 0,1):=by
 rw[oE h,Lib.decodeN,if_pos h0]
 exact if_neg (by simp;omega)
theorem A8 {l:List UInt8}(h:l≠[])(h0:(128<=byN l 0/\byN l 0<192)\/248<=byN l 0):kE l=(0,0):=by
 have hlt:=f0 l 0
 rw[oE h,Lib.decodeN,if_neg (by omega),if_neg (by omega),if_neg (by omega),if_neg (by omega),gi]
theorem OI {l:List UInt8}(h:l≠[])(h0:192<=byN l 0/\byN l 0<224) :
  kE l=if 1<l.length/\(128<=byN l 1/\byN l 1<192)/\128<=64*(byN l 0 - 192)+(byN l 1 - 128) then (64*(byN l 0 - 192)+(byN l 1 - 128),2) else (0,0):=by
 have hlt:=f0 l 1
 rw[oE h]
 generalize byN l 0=b0 at *
 generalize byN l 1=b1 at *
 generalize byN l 2=b2 at *
 generalize byN l 3=b3 at *
 unfold Lib.decodeN
 rw[if_neg (by omega)]
 by_cases hc:1<l.length/\b1 / 64=2
 ·rw[if_pos ⟨by omega,hc⟩]
  by_cases hp:b0 % 32*64+b1 % 64>=128
  ·rw[if_pos hp,I4 (by omega),if_pos ⟨hc.1,by omega,by omega⟩]
   exact Prod.ext (by simp only;omega) rfl
  ·rw[if_neg hp,gi,if_neg (by omega)]
 ·rw[if_neg (by omega),if_neg (by omega),if_neg (by omega),gi,if_neg (by omega)]
theorem OH {l:List UInt8}(h:l≠[])(h0:224<=byN l 0/\byN l 0<240) :
  kE l=if 2<l.length/\(128<=byN l 1/\byN l 1<192)/\(128<=byN l 2/\byN l 2<192)/\(2048<=4096*(byN l 0 - 224)+64*(byN l 1 - 128)+(byN l 2 - 128)/\(4096*(byN l 0 - 224)+64*(byN l 1 - 128)+(byN l 2 - 128)<55296\/57343<4096*(byN l 0 - 224)+64*(byN l 1 - 128)+(byN l 2 - 128)))
   then (4096*(byN l 0 - 224)+64*(byN l 1 - 128)+(byN l 2 - 128),3) else (0,0):=by
 have hlt:=f0 l 1
 have hlt2:=f0 l 2
 rw[oE h]
 generalize byN l 0=b0 at *
 generalize byN l 1=b1 at *
 generalize byN l 2=b2 at *
 generalize byN l 3=b3 at *
 unfold Lib.decodeN
 rw[if_neg (by omega),if_neg (by omega)]
 by_cases hc:(1<l.length/\b1 / 64=2)/\(2<l.length/\b2 / 64=2)
 ·rw[if_pos ⟨by omega,hc⟩]
  have e:b0 % 16*4096+b1 % 64*64+b2 % 64=4096*(b0 - 224)+64*(b1 - 128)+(b2 - 128):=by omega
  rw[e]
  have hp0:4096*(b0 - 224)+64*(b1 - 128)+(b2 - 128)<=65535:=by omega
  generalize 4096*(b0 - 224)+64*(b1 - 128)+(b2 - 128)=p at *
  by_cases hp:p>=2048/\(p<55296\/(57344<=p/\p<=1114111))
  ·rw[if_pos hp,I4 (by omega),if_pos ⟨hc.2.1,by omega,by omega,by omega⟩]
  ·rw[if_neg hp,gi,if_neg]
   rintro⟨_,_,_,h4,h5⟩
   omega
 ·rw[if_neg (by omega),if_neg (by omega),gi,if_neg (by omega)]
theorem OG {l:List UInt8}(h:l≠[])(h0:240<=byN l 0/\byN l 0<248) :
  kE l=if 3<l.length/\(128<=byN l 1/\byN l 1<192)/\(128<=byN l 2/\byN l 2<192)/\(128<=byN l 3/\byN l 3<192) /\
    (65536<=262144*(byN l 0 - 240)+4096*(byN l 1 - 128)+64*(byN l 2 - 128)+(byN l 3 - 128)/\262144*(byN l 0 - 240)+4096*(byN l 1 - 128)+64*(byN l 2 - 128)+(byN l 3 - 128)<=1114111)
   then (262144*(byN l 0 - 240)+4096*(byN l 1 - 128)+64*(byN l 2 - 128)+(byN l 3 - 128),4) else (0,0):=by
 have hlt:=f0 l 1
 have hlt2:=f0 l 2
 have hlt3:=f0 l 3
 rw[oE h]
 generalize byN l 0=b0 at *
 generalize byN l 1=b1 at *
 generalize byN l 2=b2 at *
 generalize byN l 3=b3 at *
 unfold Lib.decodeN
 rw[if_neg (by omega),if_neg (by omega),if_neg (by omega)]
 by_cases hc:(1<l.length/\b1 / 64=2)/\(2<l.length/\b2 / 64=2)/\(3<l.length/\b3 / 64=2)
 ·rw[if_pos ⟨by omega,hc⟩]
  have e:b0 % 8*262144+b1 % 64*4096+b2 % 64*64+b3 % 64=262144*(b0 - 240)+4096*(b1 - 128)+64*(b2 - 128)+(b3 - 128):=by omega
  rw[e]
  generalize 262144*(b0 - 240)+4096*(b1 - 128)+64*(b2 - 128)+(b3 - 128)=p at *
  by_cases hp:p>=65536/\(p<55296\/(57344<=p/\p<=1114111))
  ·rw[if_pos hp,I4 (by omega),if_pos ⟨hc.2.2.1,by omega,by omega,by omega,by omega⟩]
  ·rw[if_neg hp,gi,if_neg]
   rintro⟨_,_,_,_,h4,h5⟩
   omega
 ·rw[if_neg (by omega),gi,if_neg (by omega)]
theorem F3 {l:List UInt8}{a b:UInt8}(h0:l[0]? = some a)(h1:l[1]? = some b):l.take 2=[a,b]:=by
 rw[aK h1,aK h0];rfl
theorem F0 {l:List UInt8}{a b c:UInt8}(h0:l[0]? = some a)(h1:l[1]? = some b)(h2:l[2]? = some c):l.take 3=[a,b,c]:=by
 rw[aK h2,F3 h0 h1];rfl
theorem KR {l:List UInt8}{a b c d:UInt8}(h0:l[0]? = some a)(h1:l[1]? = some b)(h2:l[2]? = some c)(h3:l[3]? = some d):l.take 4=[a,b,c,d]:=by
 rw[aK h3,F0 h0 h1 h2];rfl
theorem Oy {a b:UInt8}(h0:192<=a.toNat/\a.toNat<224)(h1:128<=b.toNat/\b.toNat<192):o6 (64*(a.toNat - 192)+(b.toNat - 128))=[a,b]↔128<=64*(a.toNat - 192)+(b.toNat - 128):=by
 unfold o6
 generalize hp:64*(a.toNat - 192)+(b.toNat - 128)=p
 by_cases h:p<128
 ·rw[if_pos h]
  constructor
  ·intro e;simp at e
  ·intro;omega
 ·rw[if_neg h,if_pos (by omega)]
  simp only[List.cons.injEq,and_true]
  rw[mh (by omega),mh (by omega)]
  omega
theorem Ox {a b c:UInt8}(h0:224<=a.toNat/\a.toNat<240)(h1:128<=b.toNat/\b.toNat<192)(h2:128<=c.toNat/\c.toNat<192) :
  o6 (4096*(a.toNat - 224)+64*(b.toNat - 128)+(c.toNat - 128))=[a,b,c]↔2048<=4096*(a.toNat - 224)+64*(b.toNat - 128)+(c.toNat - 128):=by
 unfold o6
 generalize hp:4096*(a.toNat - 224)+64*(b.toNat - 128)+(c.toNat - 128)=p
 by_cases h:p<128
 ·rw[if_pos h]
  constructor
  ·intro e;simp at e
  ·intro;omega
 ·rw[if_neg h]
  by_cases h':p<2048
  ·rw[if_pos h']
   constructor
   ·intro e;simp at e
   ·intro;omega
  ·rw[if_neg h',if_pos (by omega)]
   simp only[List.cons.injEq,and_true]
   rw[mh (by omega),mh (by omega),mh (by omega)]
   omega
theorem Ow {a b c d:UInt8}(h0:240<=a.toNat/\a.toNat<248)(h1:128<=b.toNat/\b.toNat<192)(h2:128<=c.toNat/\c.toNat<192)(h3:128<=d.toNat/\d.toNat<192)
  (hm:262144*(a.toNat - 240)+4096*(b.toNat - 128)+64*(c.toNat - 128)+(d.toNat - 128)<=1114111) :
  o6 (262144*(a.toNat - 240)+4096*(b.toNat - 128)+64*(c.toNat - 128)+(d.toNat - 128))=[a,b,c,d]↔65536<=262144*(a.toNat - 240)+4096*(b.toNat - 128)+64*(c.toNat - 128)+(d.toNat - 128):=by
 unfold o6
 generalize hp:262144*(a.toNat - 240)+4096*(b.toNat - 128)+64*(c.toNat - 128)+(d.toNat - 128)=p at *
 by_cases h:p<128
 ·rw[if_pos h]
  constructor
  ·intro e;simp at e
  ·intro;omega
 ·rw[if_neg h]
  by_cases h':p<2048
  ·rw[if_pos h']
   constructor
   ·intro e;simp at e
   ·intro;omega
  ·rw[if_neg h']
   by_cases h'':p<65536
   ·rw[if_pos h'']
    constructor
    ·intro e;simp at e
    ·intro;omega
   ·rw[if_neg h'']
    simp only[List.cons.injEq,and_true]
    rw[mh (by omega),mh (by omega),mh (by omega),mh (by omega)]
    omega
theorem tk {l:List UInt8}(h:l≠[]):Lib.validD l=if (kE l).2=0 then false else Lib.validD (l.drop (kE l).2):=by
 rw[Lib.validD_step l h,kE,if_neg h]
 have hw:=Lib.decodeL_width l
 by_cases hb:Lib.decodeL l=(65533,1)
 ·rw[if_pos hb,if_pos (by rw[hb];simp),if_pos rfl]
 ·rw[if_neg hb,if_neg (fun hh=>hb (Prod.ext hh.1 hh.2)),if_neg (by omega)]
theorem GC (l:List UInt8):(kE l).2<=l.length:=by
 unfold kE
 split
 ·simp
 ·split
  ·simp
  ·exact Lib.decodeL_le l ‹_›
section
variable {P:Program}{G:Nat->List PV}
end
section
variable (e:List (Nat×AV))(σ:List (Nat×Blk))(new:Nat)
theorem LC (G:Nat->List PV)(o:XOp):mJ G e σ new (.xop o)=oW e σ new o:=_root_.id rfl
theorem Et (o:XOp):gM e (.xop o)=q8 e o:=_root_.id rfl
end
attribute [push_cast] LC Et
end Go.Ab

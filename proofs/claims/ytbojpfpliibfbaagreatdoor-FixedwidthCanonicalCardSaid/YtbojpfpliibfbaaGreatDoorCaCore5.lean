/- A program logic over the model: part 5 (a proof is built on it; nothing of the statement is said here). -/
import Derived.Lib.Join
import Derived.Lib.ItoaNum
import Derived.Lib.LaidTab
import Derived.Lib.AppendIntMem
import Derived.Lib.Strings
import Derived.Lib.Bytealg
import Derived.Lib.ValidLaws
import Derived.Test.YtbojpfpliibfbaaGreatDoorCaCore4
set_option linter.unusedVariables false
set_option linter.unusedSimpArgs false
namespace Go.Ab
open Go Go.RowKit
abbrev ec:=Nat->List AV->List (Nat×Blk)->Nat->Option (AV×List (Nat×Blk)×Nat)
def xJ (call:ec)(G:Nat->List PV)(s:St)(d:Option Nat):AOp->Option St
 | .t o=>match o.run s.E with
   | some v=>some (s.put d v)
   | none=>none
 | .m o=>match o.run G s.next s.E s.σ with
   | some p=>some ((s.mem p.2).put d p.1)
   | none=>none
 | .call f xs=>match da (f.ev s.E) with
   | some p=>match call p.1 (p.2.1++xs.map (·.ev s.E)++p.2.2) s.sto s.next with
     | some r=>some ((⟨s.env,r.2.1,r.2.2⟩:St).put d r.1)
     | none=>none
   | none=>none
 | .fz g x=>match KQ G s.σ g (x.ev s.E) with
   | some p=>some ((s.mem p.2).put d p.1)
   | none=>none
def kM (call:ec)(G:Nat->List PV):List AOper->St->Option St
 | [],s=>some s
 | o::r,s=>match bO s o.guard with
   | some true=>match xJ call G s o.dst o.op with
     | some s'=>kM call G r s'
     | none=>none
   | some false=>kM call G r (s.put o.dst (.pv .undef))
   | none=>none
def Al (call:ec)(f:Nat)(ps:List PV):Option PV:=
 match call f (ps.map .pv) [] 0 with
 | some r=>r.1.toPV
 | none=>none
def rF (call:ec)(s:St)(d:Option Nat)(f:Nat)(args:List AV):Option (St×List Nat×List Nat):=
 match pvs args with
 | some ps=>match Al call f ps with
   | some r=>some (s.put d (.pv r),[],[])
   | none=>none
 | none=>match call f args s.sto s.next with
   | some r=>some ((⟨s.env,r.2.1,r.2.2⟩:St).put d r.1,fH 2 (aY (r.2.1.take (r.2.1.length - s.sto.length)).reverse) (s.sto.map (·.1)))
   | none=>none
def lx (call:ec)(G:Nat->List PV)(s:St)(d:Option Nat):AOp->Option (St×List Nat×List Nat)
 | .t o=>match o.run s.E with
   | some v=>some (s.put d v,[],[])
   | none=>none
 | .m o=>match o.run G s.next s.E s.σ with
   | some p=>some ((s.mem p.2).put d p.1,fH (dq o) (aY p.2) (o.reads s.E))
   | none=>none
 | .call f xs=>match da (f.ev s.E) with
   | some p=>rF call s d p.1 (p.2.1++xs.map (·.ev s.E)++p.2.2)
   | none=>none
 | .fz _ _=>none
def exD (call:ec)(G:Nat->List PV)(A:List (List Nat)):List AOper->List (List Nat×List Nat)->St->Option St
 | [],T,s=>match okB A T with
   | true=>some s
   | false=>none
 | o::r,T,s=>match bO s o.guard with
   | some true=>match lx call G s o.dst o.op with
     | some q=>exD call G A r (T++[q.2]) q.1
     | none=>none
   | some false=>exD call G A r (T++[([],[])]) (s.put o.dst (.pv .undef))
   | none=>none
def exC (call:ec)(G:Nat->List PV):Nat->ACode->St->Option (AExit×St)
 | 0,_,_=>none
 | _+1,.skip,s=>some (.norm,s)
 | _+1,.ops l keep,s=>match kM call G l s with
   | some s'=>some (.norm,clip0 keep s')
   | none=>none
 | _+1,.draw A l l2 keep,s=>match exD call G A l [] s with
   | some s1=>match kM call G l2 s1 with
     | some s'=>some (.norm,clip0 keep s')
     | none=>none
   | none=>none
 | n+1,.seq a b,s=>match exC call G n a s with
   | some (.norm,s')=>exC call G n b s'
   | some (.exit i,s')=>some (.exit i,s')
   | some (.ret,s')=>some (.ret,s')
   | none=>none
 | n+1,.cond x a b,s=>match x.ev s.E with
   | .pv (.bool true)=>exC call G n a s
   | .pv (.bool false)=>exC call G n b s
   | _=>none
 | n+1,.block id b,s=>match exC call G n b s with
   | some (.norm,s')=>some (.norm,s')
   | some (.exit i,s')=>if i=id then some (.norm,s') else some (.exit i,s')
   | some (.ret,s')=>some (.ret,s')
   | none=>none
 | n+1,.loop keep b,s=>match exC call G n b s with
   | some (.norm,s')=>exC call G n (.loop keep b) s'
   | some (.exit i,s')=>some (.exit i,s')
   | some (.ret,s')=>some (.ret,s')
   | none=>none
 | _+1,.range _ _ _ _ _,_=>none
 | _+1,.exit id,s=>some (.exit id,s)
 | _+1,.ret,s=>some (.ret,s)
structure TabRow where
 f:Nat
 muts:List Nat
 fn:AFn
def FN (f:Nat):List TabRow->Option AFn
 | []=>none
 | r::q=>if r.f=f then some r.fn else FN f q
def vE (G:Nat->List PV)(fn:AFn)(s:St):Option (AV×List (Nat×Blk)×Nat):=
 match e6 G s fn.res with
 | some l=>some (xG l,s.sto,s.next)
 | none=>none
def exF (tab:List TabRow)(O:Nat->List PV->Option PV)(G:Nat->List PV)(m:Nat):Nat->ec
 | 0,_,_,_,_=>none
 | n+1,f,args,sto,next=>match (pvs args).bind (O f) with
   | some r=>some (.pv r,sto,next)
   | none=>match FN f tab with
     | some fn=>if args.length<=fn.N then match exC (exF tab O G m n) G m fn.body ⟨cW args,sto,next⟩ with
       | some (.norm,s)=>vE G fn s
       | some (.ret,s)=>vE G fn s
       | _=>none
       else none
     | none=>none
section
variable {P:Program}{G:Nat->List PV}
def br (sto:List (Nat×Blk))(next:Nat)(sto':List (Nat×Blk))(next':Nat):Prop:=(∃ pre,sto'=pre++sto)/\next<=next'
theorem br.refl (sto:List (Nat×Blk))(next:Nat):br sto next sto next:=⟨⟨[],rfl⟩,Nat.le_refl _⟩
theorem br.trans {a b c:List (Nat×Blk)}{i j k:Nat}(h:br a i b j)(g:br b j c k):br a i c k:=by
 obtain⟨⟨p,rfl⟩,h2⟩:=h
 obtain⟨⟨q,rfl⟩,g2⟩:=g
 exact⟨⟨q++p,by simp⟩,Nat.le_trans h2 g2⟩
theorem pZ:∀ (δ l:List (Nat×Blk)),mK l δ=δ.reverse++l
 | [],l=>rfl
 | p::r,l=>by rw[mK,pZ r];simp
theorem br.put {s:St}{sto':List (Nat×Blk)}{n:Nat}{e:List (Nat×AV)}(h:br s.sto s.next sto' n)(d:Option Nat)(v:AV):br s.sto s.next ((⟨e,sto',n⟩:St).put d v).sto ((⟨e,sto',n⟩:St).put d v).next:=by
 cases d<;>exact h
theorem br.mem (s:St)(δ:List (Nat×Blk))(d:Option Nat)(v:AV):br s.sto s.next ((s.mem δ).put d v).sto ((s.mem δ).put d v).next:=by
 have:br s.sto s.next (mK s.sto δ) (s.next+1):=⟨⟨δ.reverse,pZ δ s.sto⟩,Nat.le_succ _⟩
 cases d<;>exact this
theorem br.put0 (s:St)(d:Option Nat)(v:AV):br s.sto s.next (s.put d v).sto (s.put d v).next:=by
 cases d<;>exact br.refl _ _
def fj (P:Program)(G:Nat->List PV)(call:ec):Prop:=
 ∀ f args sto next v sto' next',call f args sto next=some (v,sto',next')->br sto next sto' next'/\(
   (∃ ps r,pvs args=some ps/\ag P G f ps r/\v = .pv r/\sto'=sto/\next'=next)\/bW P G f args sto next (fun v' s' n'=>v'=v/\s'=sto'/\n'=next'))
theorem bW.mono {f:Nat}{args:List AV}{sto:List (Nat×Blk)}{next:Nat}{Q Q':AV->List (Nat×Blk)->Nat->Prop}(h:bW P G f args sto next Q)(hq:∀ v s n,Q v s n->Q' v s n):bW P G f args sto next Q':=by
 obtain⟨h1,h2⟩:=h
 refine⟨h1,fun κ vals a1 a2 a3 a4=>(h2 κ vals a1 a2 a3 a4).mono ?_⟩
 rintro e w' ⟨u,v,κ',sto',next',b1,b2,b3,b4,b5,b6,b7,b8⟩
 exact⟨u,v,κ',sto',next',b1,b2,b3,b4,b5,b6,b7,hq _ _ _ b8⟩
theorem sP {call:ec}(hc:fj P G call){f:Nat}{ps:List PV}{r:PV}(h:Al call f ps=some r):ag P G f ps r:=by
 unfold Al at h
 split at h
 ·rename_i q hq
  obtain⟨v,sto',next'⟩:=q
  rcases (hc f _ _ _ v sto' next' hq).2 with ⟨ps',r',h1,h2,rfl,_,_⟩ | ht
  ·rw[pvs_map] at h1
   cases h1
   simp only[AV.toPV,Option.some.injEq] at h
   subst h;exact h2
  ·exact ag.of_tcalls (ht.mono (by rintro v' _ _ ⟨rfl,_,_⟩;exact NB h))
 ·cases h
theorem KR {call:ec}(hc:fj P G call){s s':St}{d:Option Nat}{o:AOp}{F:St->Prop}(h:xJ call G s d o=some s')(hF:F s'):ll P G F s d o:=by
 cases o with
 | t o=>
   simp only[xJ] at h
   split at h
   ·rename_i v hv
    cases h
    simp only[ll,hv,ir];exact hF
   ·cases h
 | m o=>
   simp only[xJ] at h
   split at h
   ·rename_i v hv
    cases h
    simp only[ll,hv,aJ];exact hF
   ·cases h
 | fz g x=>
   simp only[xJ] at h
   split at h
   ·rename_i v hv
    cases h
    simp only[ll,hv,aJ];exact hF
   ·cases h
 | call f xs=>
   simp only[xJ] at h
   split at h
   ·rename_i p hp
    split at h
    ·rename_i r hr
     cases h
     obtain⟨v,sto',next'⟩:=r
     simp only[ll,hp,aJ,CX]
     rcases (hc _ _ _ _ v sto' next' hr).2 with ⟨ps,r,h1,h2,rfl,rfl,rfl⟩ | ht
     ·exact ab.pure h2 h1 hF
     ·exact ab.lent ht (by rintro v' s' n' ⟨rfl,rfl,rfl⟩;exact hF)
    ·cases h
   ·cases h
theorem jz {call:ec}(hc:fj P G call){F:St->Prop}:∀ (l:List AOper) (s s':St),kM call G l s=some s'->F s'->dg P G l F s
 | [],s,s',h,hF=>by simp only[kM,Option.some.injEq] at h;subst h;exact hF
 | o::r,s,s',h,hF=>by
   simp only[kM] at h
   simp only[dg]
   split at h
   ·rename_i hw
    rw[hw]
    split at h
    ·rename_i s1 h1
     exact KR hc h1 (jz hc r s1 s' h hF)
    ·cases h
   ·rename_i hw
    rw[hw]
    exact jz hc r _ s' h hF
   ·cases h
theorem mq {call:ec}(hc:fj P G call){A:List (List Nat)}{F:St->Prop}:∀ (l:List AOper) (T:List (List Nat×List Nat)) (s s':St),exD call G A l T s=some s'->F s'->vcD P G A F l T s
 | [],T,s,s',h,hF=>by
   simp only[exD] at h
   split at h
   ·rename_i ho
    cases h
    exact⟨ho,hF⟩
   ·cases h
 | o::r,T,s,s',h,hF=>by
   simp only[exD] at h
   simp only[vcD]
   split at h
   ·rename_i hw
    rw[hw]
    simp only[aJ,rI]
    split at h
    ·rename_i q h1
     obtain⟨d,op,g⟩:=o
     simp only at h1 ⊢
     cases op with
     | t o=>
       simp only[lx] at h1
       split at h1
       ·rename_i v hv
        cases h1
        simp only[gP,hv,aJ,Ek]
        exact mq hc r _ _ s' h hF
       ·cases h1
     | m o=>
       simp only[lx] at h1
       split at h1
       ·rename_i v hv
        cases h1
        simp only[gP,hv,aJ,stepM]
        exact mq hc r _ _ s' h hF
       ·cases h1
     | fz g x=>simp[lx] at h1
     | call f xs=>
       simp only[lx] at h1
       split at h1
       ·rename_i p hp
        simp only[gP,hp,aJ]
        unfold rF at h1
        split at h1
        ·rename_i ps hps
         split at h1
         ·rename_i v hv
          cases h1
          exact .inl ⟨ps,v,hps,sP hc hv,mq hc r _ _ s' h hF⟩
         ·cases h1
        ·rename_i hps
         split at h1
         ·rename_i v hv
          cases h1
          obtain⟨v,sto',next'⟩:=v
          obtain⟨⟨⟨pre,hpre⟩,hle⟩,⟨ps',r',k1,_⟩ | ht⟩:=hc _ _ _ _ v sto' next' hv
          ·rw[hps] at k1;cases k1
          ·have e1:mK s.sto (sto'.take (sto'.length - s.sto.length)).reverse=sto':=by
            rw[pZ,List.reverse_reverse,hpre]
            simp
           refine .inr ⟨v,(sto'.take (sto'.length - s.sto.length)).reverse,next',?_,hle,?_⟩
           ·rw[e1];exact ht
           ·rw[e1];exact mq hc r _ _ s' h hF
         ·cases h1
       ·cases h1
    ·cases h
   ·rename_i hw
    rw[hw]
    exact mq hc r _ _ s' h hF
   ·cases h
theorem wz {call:ec}(hc:fj P G call){s s':St}{d:Option Nat}{o:AOp}(h:xJ call G s d o=some s'):br s.sto s.next s'.sto s'.next:=by
 cases o with
 | t o=>
   simp only[xJ] at h
   split at h
   ·cases h;exact br.put0 _ _ _
   ·cases h
 | m o=>
   simp only[xJ] at h
   split at h
   ·cases h;exact br.mem _ _ _ _
   ·cases h
 | fz g x=>
   simp only[xJ] at h
   split at h
   ·cases h;exact br.mem _ _ _ _
   ·cases h
 | call f xs=>
   simp only[xJ] at h
   split at h
   ·split at h
    ·rename_i r hr
     cases h
     obtain⟨v,sto',next'⟩:=r
     exact br.put (hc _ _ _ _ v sto' next' hr).1 _ _
    ·cases h
   ·cases h
theorem eD {call:ec}(hc:fj P G call):∀ (l:List AOper) (s s':St),kM call G l s=some s'->br s.sto s.next s'.sto s'.next
 | [],s,s',h=>by simp only[kM,Option.some.injEq] at h;subst h;exact br.refl _ _
 | o::r,s,s',h=>by
   simp only[kM] at h
   split at h
   ·split at h
    ·rename_i s1 h1
     exact (wz hc h1).trans (eD hc r s1 s' h)
    ·cases h
   ·exact (br.put0 s _ _).trans (eD hc r _ s' h)
   ·cases h
theorem rE {call:ec}(hc:fj P G call){s:St}{d:Option Nat}{o:AOp}{q:St×List Nat×List Nat}(h:lx call G s d o=some q):br s.sto s.next q.1.sto q.1.next:=by
 cases o with
 | t o=>
   simp only[lx] at h
   split at h
   ·cases h;exact br.put0 _ _ _
   ·cases h
 | m o=>
   simp only[lx] at h
   split at h
   ·cases h;exact br.mem _ _ _ _
   ·cases h
 | fz g x=>simp[lx] at h
 | call f xs=>
   simp only[lx] at h
   split at h
   ·unfold rF at h
    split at h
    ·split at h
     ·cases h;exact br.put0 _ _ _
     ·cases h
    ·split at h
     ·rename_i r hr
      cases h
      obtain⟨v,sto',next'⟩:=r
      exact br.put (hc _ _ _ _ v sto' next' hr).1 _ _
     ·cases h
   ·cases h
theorem kN {call:ec}(hc:fj P G call){A:List (List Nat)}:∀ (l:List AOper) (T:List (List Nat×List Nat)) (s s':St),exD call G A l T s=some s'->br s.sto s.next s'.sto s'.next
 | [],T,s,s',h=>by
   simp only[exD] at h
   split at h
   ·cases h;exact br.refl _ _
   ·cases h
 | o::r,T,s,s',h=>by
   simp only[exD] at h
   split at h
   ·split at h
    ·rename_i q h1
     exact (rE hc h1).trans (kN hc r _ _ s' h)
    ·cases h
   ·exact (br.put0 s _ _).trans (kN hc r _ _ s' h)
   ·cases h
theorem pi {call:ec}(hc:fj P G call):∀ (n:Nat) (ac:ACode) (s:St) (e:AExit) (s':St),exC call G n ac s=some (e,s')->br s.sto s.next s'.sto s'.next
 | 0,_,_,_,_,h=>by simp[exC] at h
 | n+1,ac,s,e,s',h=>by
   have ih:=pi hc n
   cases ac with
   | skip=>simp only[exC,Option.some.injEq,Prod.mk.injEq] at h;obtain⟨_,rfl⟩:=h;exact br.refl _ _
   | exit i=>simp only[exC,Option.some.injEq,Prod.mk.injEq] at h;obtain⟨_,rfl⟩:=h;exact br.refl _ _
   | ret=>simp only[exC,Option.some.injEq,Prod.mk.injEq] at h;obtain⟨_,rfl⟩:=h;exact br.refl _ _
   | ops l k=>
     simp only[exC] at h
     split at h
     ·rename_i s1 h1;cases h;exact eD hc l s s1 h1
     ·cases h
   | draw A l l2 k=>
     simp only[exC] at h
     split at h
     ·rename_i s1 h1
      split at h
      ·rename_i s2 h2;cases h;exact (kN hc l [] s s1 h1).trans (eD hc l2 s1 s2 h2)
      ·cases h
     ·cases h
   | seq a b=>
     simp only[exC] at h
     split at h
     ·rename_i s1 h1;exact (ih _ _ _ _ h1).trans (ih _ _ _ _ h)
     ·rename_i i s1 h1;cases h;exact ih _ _ _ _ h1
     ·rename_i s1 h1;cases h;exact ih _ _ _ _ h1
     ·cases h
   | cond x a b=>
     simp only[exC] at h
     split at h
     ·exact ih _ _ _ _ h
     ·exact ih _ _ _ _ h
     ·cases h
   | block id b=>
     simp only[exC] at h
     split at h
     ·rename_i s1 h1;cases h;exact ih _ _ _ _ h1
     ·rename_i i s1 h1
      split at h
      ·cases h;exact ih _ _ _ _ h1
      ·cases h;exact ih _ _ _ _ h1
     ·rename_i s1 h1;cases h;exact ih _ _ _ _ h1
     ·cases h
   | loop k b=>
     simp only[exC] at h
     split at h
     ·rename_i s1 h1;exact (ih _ _ _ _ h1).trans (ih _ _ _ _ h)
     ·rename_i i s1 h1;cases h;exact ih _ _ _ _ h1
     ·rename_i s1 h1;cases h;exact ih _ _ _ _ h1
     ·cases h
   | range f ps k a b=>simp only[exC] at h;cases h
def NO (e:AExit)(s':St):AExit->St->Prop:=fun e1 s1=>e1=e/\s1=s'
theorem pE {call:ec}{G:Nat->List PV}{n:Nat}{s:St}{r:AExit×St}(h:exC call G (n+1) (.ops [⟨none,jl,none⟩] []) s=some r):False:=by
 simp[exC,kM,bO,xJ,jl,AX.ev,da] at h
theorem NR {call:ec}(hc:fj P G call){c:Ctx}{κ0:Kap}{N:Nat}{muts rl:List Nat}(hG:c.G=G):∀ (n:Nat) (co:Code) (ac:ACode) (ex:List (Nat×List Nat)) (out li:List Nat) (s:St) (a:Act) (w:World) (κ:Kap) (e:AExit) (s':St),
  bk P muts N rl co ex out=some (ac,li)->exC call G n ac s=some (e,s')->Rel c κ0 N s a w κ->co.wpIn (FR none) 0 P (lift c κ0 N (NO e s')) a w:=by
 intro n
 induction n using Nat.strongRecOn with
 | _ n ih=>
 intro co ac ex out li s a w κ e s' hcc he hR
 cases n with
 | zero=>simp[exC] at he
 | succ n=>
 cases co with
 | skip=>
   simp only[bk,Option.some.injEq,Prod.mk.injEq] at hcc
   obtain⟨rfl,_⟩:=hcc
   simp only[exC,Option.some.injEq,Prod.mk.injEq] at he
   obtain⟨rfl,rfl⟩:=he
   exact wpIn_skip ⟨_,κ,hR,rfl,rfl⟩
 | exit id=>
   simp only[bk,Option.some.injEq,Prod.mk.injEq] at hcc
   obtain⟨rfl,_⟩:=hcc
   simp only[exC,Option.some.injEq,Prod.mk.injEq] at he
   obtain⟨rfl,rfl⟩:=he
   exact wpIn_exit ⟨_,κ,hR,rfl,rfl⟩
 | ret=>
   simp only[bk,Option.some.injEq,Prod.mk.injEq] at hcc
   obtain⟨rfl,_⟩:=hcc
   simp only[exC,Option.some.injEq,Prod.mk.injEq] at he
   obtain⟨rfl,rfl⟩:=he
   exact wpIn_ret ⟨_,κ,hR,rfl,rfl⟩
 | region id ops d=>
   simp only[bk] at hcc
   split at hcc
   ·rename_i l hl
    cases d with
    | false=>
      simp only[Option.some.injEq,Prod.mk.injEq] at hcc
      obtain⟨rfl,_⟩:=hcc
      simp only[exC] at he
      split at he
      ·rename_i s1 h1
       cases he
       exact wpIn_region_list (eh (F:=fun s=>s=s1) (fun s a w κ hR hF=>by subst hF;exact⟨_,κ,hR.clip0 _,rfl,rfl⟩) ops.toList l s a w κ hl hR (by rw[hG];exact jz hc l s s1 h1 rfl))
      ·cases he
    | true=>
      simp only at hcc
      split at hcc
      ·rename_i hok
       simp only[Option.some.injEq,Prod.mk.injEq] at hcc
       obtain⟨rfl,_⟩:=hcc
       simp only[exC] at he
       split at he
       ·rename_i s1 h1
        split at he
        ·rename_i s2 h2
         cases he
         exact mr (F:=fun s=>s=s2) hl hok.1 hok.2.1 hok.2.2 hR (by rw[hG];exact mq hc _ _ s s1 h1 (jz hc _ s1 s2 h2 rfl)) (fun s a w κ hR hF=>by subst hF;exact⟨_,κ,hR.clip0 _,rfl,rfl⟩)
        ·cases he
       ·cases he
      ·cases hcc
   ·cases hcc
 | seq x y=>
   simp only[bk] at hcc
   split at hcc
   ·rename_i b' lb hb
    split at hcc
    ·rename_i a' la ha
     simp only[Option.some.injEq,Prod.mk.injEq] at hcc
     obtain⟨rfl,_⟩:=hcc
     simp only[exC] at he
     split at he
     ·rename_i s1 h1
      refine wpIn_seq (Go.wpIn_mono (ih n (Nat.lt_succ_self n) x a' _ _ _ s a w κ _ _ ha h1 hR) ?_)
      intro e1 a w hq
      cases e1 with
      | normal=>
        obtain⟨s2,κ,hR,_,rfl⟩:=hq
        exact ih n (Nat.lt_succ_self n) y b' _ _ _ s2 a w κ _ _ hb he hR
      | exit id=>obtain⟨_,_,_,h,_⟩:=hq;cases h
      | ret=>obtain⟨_,_,_,h,_⟩:=hq;cases h
      | goto l=>exact hq.elim
      | panic ch=>exact hq.elim
      | outgrown=>exact hq.elim
     ·rename_i i s1 h1
      cases he
      refine wpIn_seq (Go.wpIn_mono (ih n (Nat.lt_succ_self n) x a' _ _ _ s a w κ _ _ ha h1 hR) ?_)
      intro e1 a w hq
      cases e1 with
      | normal=>obtain⟨_,_,_,h,_⟩:=hq;cases h
      | exit id=>exact hq
      | ret=>exact hq
      | goto l=>exact hq.elim
      | panic ch=>exact hq.elim
      | outgrown=>exact hq.elim
     ·rename_i s1 h1
      cases he
      refine wpIn_seq (Go.wpIn_mono (ih n (Nat.lt_succ_self n) x a' _ _ _ s a w κ _ _ ha h1 hR) ?_)
      intro e1 a w hq
      cases e1 with
      | normal=>obtain⟨_,_,_,h,_⟩:=hq;cases h
      | exit id=>exact hq
      | ret=>exact hq
      | goto l=>exact hq.elim
      | panic ch=>exact hq.elim
      | outgrown=>exact hq.elim
     ·cases he
    ·cases hcc
   ·cases hcc
 | cond x y z=>
   simp only[bk] at hcc
   split at hcc
   ·rename_i ax a' la b' lb hx hy hz
    simp only[Option.some.injEq,Prod.mk.injEq] at hcc
    obtain⟨rfl,_⟩:=hcc
    have hrel:=aA (κ:=κ) (E:=s.E) (a:=a) hx (fun i _=>hR.env i)
    simp only[exC] at he
    split at he
    ·rename_i hv
     rw[hv] at hrel
     exact wpIn_cond_true (cL hrel) (ih n (Nat.lt_succ_self n) y a' _ _ _ s a w κ _ _ hy he hR)
    ·rename_i hv
     rw[hv] at hrel
     exact wpIn_cond_false (cL hrel) (ih n (Nat.lt_succ_self n) z b' _ _ _ s a w κ _ _ hz he hR)
    ·cases he
   ·cases hcc
 | block id b=>
   simp only[bk] at hcc
   split at hcc
   ·rename_i b' lb hb
    simp only[Option.some.injEq,Prod.mk.injEq] at hcc
    obtain⟨rfl,_⟩:=hcc
    simp only[exC] at he
    have main:∀ e1 s1,exC call G n b' s=some (e1,s1)->((e1 = .norm/\e = .norm/\s'=s1)\/(∃ i,e1 = .exit i/\s'=s1/\e=if i=id then .norm else .exit i)\/(e1 = .ret/\e = .ret/\s'=s1))->(Code.block id b).wpIn (FR none) 0 P (lift c κ0 N (NO e s')) a w:=by
     intro e1 s1 h1 hcase
     refine wpIn_block (Go.wpIn_mono (ih n (Nat.lt_succ_self n) b b' _ _ _ s a w κ _ _ hb h1 hR) ?_)
     intro e2 a w hq
     cases e2 with
     | normal=>
       obtain⟨s2,κ,hR,rfl,rfl⟩:=hq
       rcases hcase with ⟨_,rfl,rfl⟩ | ⟨i,h,_⟩ | ⟨h,_⟩
       ·exact⟨_,κ,hR,rfl,rfl⟩
       ·cases h
       ·cases h
     | ret=>
       obtain⟨s2,κ,hR,rfl,rfl⟩:=hq
       rcases hcase with ⟨h,_⟩ | ⟨i,h,_⟩ | ⟨_,rfl,rfl⟩
       ·cases h
       ·cases h
       ·exact⟨_,κ,hR,rfl,rfl⟩
     | exit i=>
       obtain⟨s2,κ,hR,rfl,rfl⟩:=hq
       rcases hcase with ⟨h,_⟩ | ⟨i',h,rfl,rfl⟩ | ⟨h,_⟩
       ·cases h
       ·cases h
        simp only[Exit.inBlock]
        split
        ·rename_i hid
         exact⟨_,κ,hR,by simp[hid],rfl⟩
        ·rename_i hid
         exact⟨_,κ,hR,by simp[hid],rfl⟩
       ·cases h
     | goto l=>exact hq.elim
     | panic ch=>exact hq.elim
     | outgrown=>exact hq.elim
    split at he
    ·rename_i s1 h1
     cases he
     exact main _ _ h1 (.inl ⟨rfl,rfl,rfl⟩)
    ·rename_i i s1 h1
     split at he
     ·rename_i hid
      cases he
      exact main _ _ h1 (.inr (.inl ⟨i,rfl,rfl,by simp[hid]⟩))
     ·rename_i hid
      cases he
      exact main _ _ h1 (.inr (.inl ⟨i,rfl,rfl,by simp[hid]⟩))
    ·rename_i s1 h1
     cases he
     exact main _ _ h1 (.inr (.inr ⟨rfl,rfl,rfl⟩))
    ·cases he
   ·cases hcc
 | loop b=>
   simp only[bk] at hcc
   split at hcc
   ·rename_i x1 l1 hb1
    split at hcc
    ·rename_i x2 l2 hb2
     split at hcc
     ·rename_i b' l3 hb
      simp only[Option.some.injEq,Prod.mk.injEq] at hcc
      obtain⟨rfl,_⟩:=hcc
      refine jH (fun m a w=>∃ s κ,m<=n+1/\Rel c κ0 N s a w κ/\exC call G m (.loop (od l2) b') s=some (e,s')) ⟨n+1,s,κ,Nat.le_refl _,hR,he⟩ fun m a w hJ=>?_
      obtain⟨s,κ,hm,hR,he⟩:=hJ
      cases m with
      | zero=>simp[exC] at he
      | succ m=>
        simp only[exC] at he
        split at he
        ·rename_i s1 h1
         refine Go.wpIn_mono (ih m (by omega) b b' _ _ _ s a w κ _ _ hb h1 hR) ?_
         intro e1 a w hq
         cases e1 with
         | normal=>
           obtain⟨s2,κ,hR,_,rfl⟩:=hq
           exact⟨m,Nat.lt_succ_self m,_,κ,by omega,hR,he⟩
         | exit id=>obtain⟨_,_,_,h,_⟩:=hq;cases h
         | ret=>obtain⟨_,_,_,h,_⟩:=hq;cases h
         | goto l=>exact hq.elim
         | panic ch=>exact hq.elim
         | outgrown=>exact hq.elim
        ·rename_i i s1 h1
         cases he
         refine Go.wpIn_mono (ih m (by omega) b b' _ _ _ s a w κ _ _ hb h1 hR) ?_
         intro e1 a w hq
         cases e1 with
         | normal=>obtain⟨_,_,_,h,_⟩:=hq;cases h
         | exit id=>exact hq
         | ret=>exact hq
         | goto l=>exact hq.elim
         | panic ch=>exact hq.elim
         | outgrown=>exact hq.elim
        ·rename_i s1 h1
         cases he
         refine Go.wpIn_mono (ih m (by omega) b b' _ _ _ s a w κ _ _ hb h1 hR) ?_
         intro e1 a w hq
         cases e1 with
         | normal=>obtain⟨_,_,_,h,_⟩:=hq;cases h
         | exit id=>exact hq
         | ret=>exact hq
         | goto l=>exact hq.elim
         | panic ch=>exact hq.elim
         | outgrown=>exact hq.elim
        ·cases he
     ·cases hcc
    ·cases hcc
   ·cases hcc
 | rangeFunc f ps x y=>
   simp only[bk] at hcc
   split at hcc
   ·split at hcc
    ·simp only[Option.some.injEq,Prod.mk.injEq] at hcc
     obtain⟨rfl,_⟩:=hcc
     simp only[exC] at he
     cases he
    ·cases hcc
   ·simp only[Option.some.injEq,Prod.mk.injEq] at hcc;obtain⟨rfl,rfl⟩:=hcc;exact (pE he).elim
 | scope b=>simp only[bk,Option.some.injEq,Prod.mk.injEq] at hcc;obtain⟨rfl,rfl⟩:=hcc;exact (pE he).elim
 | label l=>simp only[bk,Option.some.injEq,Prod.mk.injEq] at hcc;obtain⟨rfl,rfl⟩:=hcc;exact (pE he).elim
 | goto l=>simp only[bk,Option.some.injEq,Prod.mk.injEq] at hcc;obtain⟨rfl,rfl⟩:=hcc;exact (pE he).elim
 | refuse y=>simp only[bk,Option.some.injEq,Prod.mk.injEq] at hcc;obtain⟨rfl,rfl⟩:=hcc;exact (pE he).elim
theorem FM {tab:List TabRow}(ht:∀ r∈tab,cFn P r.muts r.f=some r.fn){f:Nat}{fn:AFn}(h:FN f tab=some fn):∃ muts,cFn P muts f=some fn:=by
 induction tab with
 | nil=>cases h
 | cons r q ih=>
   simp only[FN] at h
   split at h
   ·rename_i hf
    cases h
    exact⟨r.muts,hf▸ht r (by simp)⟩
   ·exact ih (fun r hr=>ht r (by simp[hr])) h
theorem B9 {tab:List TabRow}{O:Nat->List PV->Option PV}{m:Nat}(ht:∀ r∈tab,cFn P r.muts r.f=some r.fn)(hO:∀ f ps r,O f ps=some r->ag P G f ps r):∀ n,fj P G (exF tab O G m n)
 | 0=>by intro f args sto next v sto' next' h;simp[exF] at h
 | n+1=>by
   intro f args sto next v sto' next' h
   simp only[exF] at h
   split at h
   ·rename_i r hr
    cases h
    simp only[Option.bind_eq_some_iff] at hr
    obtain⟨ps,h1,h2⟩:=hr
    refine⟨br.refl _ _,?_⟩
    exact .inl ⟨ps,r,h1,hO f ps r h2,rfl,rfl,rfl⟩
   ·split at h
    ·rename_i fn hfn
     obtain⟨muts,hcf⟩:=FM ht hfn
     split at h
     ·rename_i hl
      have grow:∀ (e:AExit) (s:St),exC (exF tab O G m n) G m fn.body ⟨cW args,sto,next⟩=some (e,s)->vE G fn s=some (v,sto',next')->br sto next sto' next':=by
       intro e s h1 h2
       have:=pi (B9 ht hO n) m fn.body _ e s h1
       unfold vE at h2
       split at h2
       ·cases h2;exact this
       ·cases h2
      have fin:∀ (e:AExit) (s:St),(e = .norm\/e = .ret)->exC (exF tab O G m n) G m fn.body ⟨cW args,sto,next⟩=some (e,s)->vE G fn s=some (v,sto',next')->bW P G f args sto next (fun v' s' n'=>v'=v/\s'=sto'/\n'=next'):=by
       intro e s he h1 h2
       refine bW.of_code hcf hl fun c κ N a w co rl li hG hk hf hb hR=>?_
       refine Go.wpIn_mono (NR (B9 ht hO n) hG m co fn.body _ _ _ _ a w κ e s hb h1 hR) ?_
       have hout:∀ s1,s1=s->aJ (e6 G s1 fn.res) (HA (fun v' s' n'=>v'=v/\s'=sto'/\n'=next') s1):=by
        rintro s1 rfl
        unfold vE at h2
        split at h2
        ·rename_i l hl2
         cases h2
         rw[hl2]
         exact⟨rfl,rfl,rfl⟩
        ·cases h2
       intro e1 a w hq
       cases e1 with
       | normal=>
         obtain⟨s1,κ1,hR1,he1,hs1⟩:=hq
         exact⟨s1,κ1,hR1,hout s1 hs1⟩
       | ret=>
         obtain⟨s1,κ1,hR1,he1,hs1⟩:=hq
         exact⟨s1,κ1,hR1,hout s1 hs1⟩
       | exit id=>
         obtain⟨s1,κ1,hR1,he1,hs1⟩:=hq
         rcases he with rfl | rfl<;>cases he1
       | goto l=>exact hq.elim
       | panic ch=>exact hq.elim
       | outgrown=>exact hq.elim
      split at h
      ·rename_i s1 h1;exact⟨grow _ _ h1 h,.inr (fin _ _ (.inl rfl) h1 h)⟩
      ·rename_i s1 h1;exact⟨grow _ _ h1 h,.inr (fin _ _ (.inr rfl) h1 h)⟩
      ·cases h
     ·cases h
    ·cases h
theorem ag.of_ex {tab:List TabRow}{O:Nat->List PV->Option PV}{m n:Nat}{f:Nat}{ps:List PV}{r:PV}(ht:∀ r∈tab,cFn P r.muts r.f=some r.fn)(hO:∀ f ps r,O f ps=some r->ag P G f ps r)
  (h:Al (exF tab O G m n) f ps=some r):ag P G f ps r:=
 sP (B9 ht hO n) h
end
def Kap.cut (κ:Kap)(k:Nat):Kap:=⟨κ.w,fun r=>if r<k then κ.nm r else none,κ.imm⟩
theorem Kap.cut_ext (κ:Kap)(k:Nat):Ext (κ.cut k) κ:=by
 refine⟨fun _ _ h=>h,fun _ _ _ _ h=>h,fun r d h=>?_,fun _ _ h _=>h⟩
 simp only[Kap.cut] at h
 split at h
 ·exact h
 ·cases h
theorem Kap.cut_none (κ:Kap)(k r:Nat)(h:k<=r):(κ.cut k).nm r=none:=by simp only[Kap.cut];rw[if_neg (by omega)]
def pM (P:Program)(G:Nat->List PV)(k:Nat)(f:Nat)(args:List AV)(sto:List (Nat×Blk))(next:Nat)(Q:AV->List (Nat×Blk)->Nat->Prop):Prop:=
 bN P f=true/\∀ (κ:Kap) (vals:Array Value),SRel (bP κ (fun r=>lookB r sto) G) κ (fun r=>lookB r sto)->(∀ r,next<=r->κ.nm r=none)->vals.size=args.length ->
  (∀ (i:Nat) (x:AV),args[i]? = some x->ARel κ x (vals.getD i Go.undef)) ->
  Calls P f vals κ.w fun e w'=>∃ u v κ' sto' next',e = .returned u/\κ'.w=w'/\Ext (κ.cut k) κ'/\Left (bP κ (fun r=>lookB r sto) G) κ.imm κ'/\ARel κ' v u /\
   SRel (bP κ (fun r=>lookB r sto) G) κ' (fun r=>lookB r sto')/\(∀ r,next'<=r->κ'.nm r=none)/\Q v sto' next'
section
variable {P:Program}{G:Nat->List PV}
theorem pM.of_code {muts:List Nat}{k f:Nat}{fn:AFn}{args:List AV}{sto:List (Nat×Blk)}{next:Nat}{R:AV->List (Nat×Blk)->Nat->Prop}(hc:cFn P muts f=some fn)(hn:args.length<=fn.N)
  (hv:vc P G k fn.body (FnK G fn.res R) ⟨cW args,sto,next⟩):pM P G k f args sto next R:=by
 unfold cFn at hc
 split at hc
 ·rename_i fnc hfn
  split at hc
  ·rename_i co hco
   split at hc
   ·rename_i rs hrs
    split at hc
    ·rename_i hok
     split at hc
     ·rename_i b li hb
      cases hc
      refine⟨hok,fun κ vals hS hf hsz hargs=>?_⟩
      refine callsIn_wide.1 (callsIn_of_wp_marks (n:=0) hfn hco trivial ?_ rfl)
      let c:=bP κ (fun r=>lookB r sto) G
      have hsize:(vals++Array.replicate (fnc.ntmps - vals.size) Go.undef).size=fnc.ntmps:=by
       simp only at hn
       simp only[Array.size_append,Array.size_replicate];omega
      have hR:Rel c (κ.cut k) fnc.ntmps ⟨cW args,sto,next⟩ ⟨vals++Array.replicate (fnc.ntmps - vals.size) Go.undef,[]⟩ κ.w κ:=by
       refine⟨rfl,κ.cut_ext k,hS,⟨rfl,rfl,rfl,Nat.le_refl _,fun _ _ _=>rfl,fun _ _ h=>.inl h⟩,fun i=>?_,hsize,de.nil _ _,hf⟩
       show ARel κ (look i ((args.zipIdx 0).map fun p=>(p.2,p.1))) _
       rw[kr,if_pos (Nat.zero_le _),Nat.sub_zero]
       cases hx:args[i]? with
       | none=>exact .any _
       | some x=>
         have hi:i<vals.size:=by rw[hsz];exact (List.getElem?_eq_some_iff.1 hx).1
         have:=hargs i x hx
         have e:(vals++Array.replicate (fnc.ntmps - vals.size) Go.undef).getD i Go.undef=vals.getD i Go.undef:=by
          simp only[Array.getD_eq_getD_getElem?]
          rw[Array.getElem?_append_left hi]
         rw[e];exact this
      refine Go.wpIn_mono (r9 (P:=P) (N:=fnc.ntmps) co c (κ.cut k) k none 0 b [] (ig rs) li (FnK G rs R) _ _ κ.w κ (.inl rfl) (fun r hr=>κ.cut_none k r hr) (Nat.le_refl _) hb hR hv) ?_
      have fin:∀ (s:St) (κ':Kap) (a:Act) (w:World),Rel c (κ.cut k) fnc.ntmps s a w κ'->aJ (e6 G s rs) (HA R s)->∃ v,(results fnc a.tmps).run P w = .ok v w /\
        ∃ u v' κ'' sto' next',Ending.returned v = .returned u/\κ''.w=w/\Ext (κ.cut k) κ''/\Left c κ.imm κ''/\ARel κ'' v' u/\SRel c κ'' (fun r=>lookB r sto')/\(∀ r,next'<=r->κ''.nm r=none)/\R v' sto' next':=by
       intro s κ' a w hR hF
       simp only[aJ] at hF
       split at hF
       ·rename_i vs hvs
        obtain⟨us,h1,h2,h3⟩:=jV (P:=P) hR fnc.results.toList rs vs hrs hvs
        have hrun:(results fnc a.tmps).run P w = .ok (if h:us.toArray.size=1 then us.toArray[0] else .tuple us.toArray) w:=by
         rw[lP,Sem.run_bind,Array.mapM_eq_mapM_toList]
         simp only[Sem.run_bind,Sem.run_map]
         rw[h1]
         simp
        refine⟨_,hrun,_,xG vs,κ',s.sto,s.next,rfl,hR.w_eq,hR.ext0,hR.left,?_,hR.rel,hR.fresh,hF⟩
        by_cases hl:vs.length=1
        ·obtain⟨v,rfl⟩:=List.length_eq_one_iff.1 hl
         obtain⟨u,rfl⟩:=List.length_eq_one_iff.1 (h2.trans hl)
         have:=h3 0 v rfl
         exact this
        ·have hul:¬ us.toArray.size=1:=by simpa[h2] using hl
         rw[dif_neg hul]
         have hrv:xG vs=oQ vs:=by
          unfold xG
          split
          ·simp at hl
          ·rfl
         rw[hrv]
         exact oP (.tup _ _ (by simpa using h2) (fun i x hx=>by rw[aE];simpa using h3 i x hx))
       ·exact hF.elim
      intro e a w hq
      cases e with
      | normal=>
        obtain⟨s,κ',hR,hF⟩:=hq
        exact gH (Nat.le_refl _) rfl hR fun w' κ'' hR'=>fin s κ'' ⟨a.tmps,[]⟩ w' hR' hF
      | ret=>
        obtain⟨s,κ',hR,hF⟩:=hq
        exact gH (Nat.le_refl _) rfl hR fun w' κ'' hR'=>fin s κ'' ⟨a.tmps,[]⟩ w' hR' hF
      | exit id=>
        obtain⟨s,κ',hR,hF⟩:=hq
        exact hF.elim
      | goto l=>exact hq.elim
      | panic ch=>exact hq.elim
      | outgrown=>exact hq.elim
     ·cases hc
    ·cases hc
   ·cases hc
  ·cases hc
 ·cases hc
def bF:List Blk->Nat->List (Nat×Blk)
 | [],_=>[]
 | b::r,k=>(k,b)::bF r (k+1)
theorem l9:∀ (bs:List Blk) (k i:Nat),lookB i (bF bs k)=if k<=i then bs.getD (i - k) .none else .none
 | [],k,i=>by simp[bF,lookB]
 | b::r,k,i=>by
   simp only[bF,lookB]
   by_cases h:k=i
   ·subst h;simp
   ·rw[if_neg h,l9 r (k+1) i]
    by_cases hk:k<=i
    ·rw[if_pos (by omega),if_pos hk,show i - k=(i - (k+1))+1 by omega];simp
    ·rw[if_neg (by omega),if_neg hk]
theorem fW (bs:List Blk):(fun r=>lookB r (bF bs 0))=fun r=>bs.getD r .none:=by
 funext r;rw[l9];simp
def bf (P:Program)(G:Nat->List PV)(k f:Nat)(args:List AV)(bs:List Blk)(v:AV)(bs':List Blk):Prop:=
 pM P G k f args (bF bs 0) bs.length fun v' sto' next'=>v'=v/\sto'=bF bs' 0/\next'=bs'.length
def Kr (k:Nat)(v:AV)(bs':List Blk)(v':AV)(sto':List (Nat×Blk))(next':Nat):Prop:=
 Wk k ⟨[(0,v')],sto',next'⟩ ⟨[(0,v)],bF bs' 0,bs'.length⟩
theorem bf.of_lcalls {k f:Nat}{args:List AV}{bs:List Blk}{v:AV}{bs':List Blk}(h:pM P G k f args (bF bs 0) bs.length (Kr k v bs')):bf P G k f args bs v bs':=by
 obtain⟨hcal,h⟩:=h
 refine⟨hcal,fun κ vals hS hf hsz hargs=>(h κ vals hS hf hsz hargs).mono ?_⟩
 rintro e w' ⟨u,v',κ',sto',next',rfl,rfl,he,hL,hv,hS',hf',hw⟩
 obtain⟨κ'',hR⟩:=hw _ (κ.cut k) κ' 1 ⟨#[u],[]⟩ κ'.w (fun r hr=>κ.cut_none k r hr) ⟨rfl,he,hS',hL,fun i=>by
  show ARel κ' (look i [(0,v')]) _
  by_cases hi:0=i
  ·subst hi;simpa[look] using hv
  ·simp only[look,if_neg hi];exact .any _,rfl,de.nil _ _,hf'⟩
 refine⟨u,v,κ'',_,_,rfl,hR.w_eq,hR.ext0,hR.left,?_,hR.rel,hR.fresh,rfl,rfl,rfl⟩
 have:=hR.env 0
 simpa[St.E,look] using this
theorem bf.intro {muts:List Nat}{k f:Nat}{fn:AFn}{args:List AV}{bs:List Blk}{v:AV}{bs':List Blk}(hc:cFn P muts f=some fn)(hn:args.length<=fn.N)
  (hv:vc P G k fn.body (FnK G fn.res (Kr k v bs')) ⟨cW args,bF bs 0,bs.length⟩):bf P G k f args bs v bs':=
 bf.of_lcalls (pM.of_code hc hn hv)
def gIn (next:Nat):List Nat->Nat->Nat
 | [],i=>next+i
 | r::_,0=>r
 | _::q,i+1=>gIn next q i
def gSo (next:Nat)(rs:List Nat)(r:Nat):Option Nat:=some (gIn next rs r)
theorem kC (next:Nat):∀ (rs:List Nat) (i:Nat) (r:Nat),rs[i]? = some r->gIn next rs i=r
 | [],i,r,h=>by simp at h
 | x::q,0,r,h=>by simpa[gIn] using h
 | x::q,i+1,r,h=>by simpa[gIn] using kC next q i r (by simpa using h)
theorem mb (next:Nat):∀ (rs:List Nat) (i:Nat),rs.length<=i->gIn next rs i=next+(i - rs.length)
 | [],i,h=>by simp[gIn]
 | x::q,0,h=>by simp at h
 | x::q,i+1,h=>by
   simp only[List.length_cons] at h
   rw[gIn,mb next q i (by omega)]
   simp
mutual
theorem unren {κ κ':Kap}(hw:κ'.w=κ.w)(hi:κ'.imm=κ.imm){g:Nat->Nat}(hf:∀ r,κ'.nm r=κ.nm (g r)):∀ (x:AV) (v:Value),ARel κ (x.ren fun r=>some (g r)) v->ARel κ' x v
 | .pv p,v,h=>by
   simp only[AV.ren] at h
   cases h with
   | pv _ _ hp=>exact .pv _ _ (by rw[hw,hi];exact hp)
 | .any,v,h=>.any v
 | .ptr r o,v,h=>by
   simp only[AV.ren] at h
   cases h with
   | ptr _ _ b n hn=>exact .ptr _ _ b n (by rw[hf r];exact hn)
 | .row r a b c,v,h=>by
   simp only[AV.ren] at h
   cases h with
   | row _ _ _ _ bb n cap hn h1 h2 h3 h4=>exact .row _ _ _ _ bb n cap (by rw[hf r];exact hn) h1 h2 h3 h4
   | row0 _ _ hn=>exact .row0 _ _ (by rw[hf r];exact hn)
 | .olist r a l,v,h=>by
   simp only[AV.ren] at h
   cases h with
   | olist _ _ _ _ hn hp hs=>exact .olist _ _ _ _ (by rw[hf r];exact hn) (by rw[hw,hi];exact hp) hs
 | .mp r,v,h=>by
   simp only[AV.ren] at h
   cases h with
   | mp _ b hn=>exact .mp _ _ (by rw[hf r];exact hn)
 | .agg cs,v,h=>by
   simp only[AV.ren] at h
   cases h with
   | agg _ vs hl hr=>
     obtain⟨h1,h2⟩:=jL hw hi hf cs vs hr
     exact .agg _ _ (by rw[<- h1];exact hl) h2
 | .tup cs,v,h=>by
   simp only[AV.ren] at h
   cases h with
   | tup _ vs hl hr=>
     obtain⟨h1,h2⟩:=jL hw hi hf cs vs hr
     exact .tup _ _ (by rw[<- h1];exact hl) h2
 | .clo g fs cs,v,h=>by
   simp only[AV.ren] at h
   cases h with
   | clo _ _ _ vs us hl hr hl' hr'=>
     obtain⟨h1,h2⟩:=jL hw hi hf fs vs hr
     obtain⟨h3,h4⟩:=jL hw hi hf cs us hr'
     exact .clo _ _ _ _ _ (by rw[<- h1];exact hl) h2 (by rw[<- h3];exact hl') h4
theorem jL {κ κ':Kap}(hw:κ'.w=κ.w)(hi:κ'.imm=κ.imm){g:Nat->Nat}(hf:∀ r,κ'.nm r=κ.nm (g r)):∀ (xs:List AV) (vs:Array Value),
  (∀ (i:Nat) (x:AV),(AV.renL (fun r=>some (g r)) xs)[i]? = some x->ARel κ x (vs.getD i Go.undef))->(AV.renL (fun r=>some (g r)) xs).length=xs.length/\∀ (i:Nat) (x:AV),xs[i]? = some x->ARel κ' x (vs.getD i Go.undef)
 | [],vs,h=>by simp[AV.renL]
 | x::r,vs,h=>by
   have e:∀ i,(vs.extract 1 vs.size).getD i Go.undef=vs.getD (i+1) Go.undef:=by
    intro i
    simp only[Array.getD_eq_getD_getElem?,Array.getElem?_extract]
    by_cases hh:i<min vs.size vs.size - 1
    ·rw[if_pos hh];congr 2;omega
    ·rw[if_neg hh,Array.getElem?_eq_none (by omega)]
   obtain⟨h1,h2⟩:=jL hw hi hf r (vs.extract 1 vs.size) (fun i y hy=>by
    have:=h (i+1) y (by simpa[AV.renL] using hy)
    rw[e];exact this)
   refine⟨by simp[AV.renL,h1],fun i y hy=>?_⟩
   cases i with
   | zero=>
     simp only[List.getElem?_cons_zero,Option.some.injEq] at hy
     subst hy
     exact unren hw hi hf x _ (h 0 _ (by simp[AV.renL]))
   | succ i=>
     simp only[List.getElem?_cons_succ] at hy
     have:=h2 i y hy
     rw[e] at this;exact this
end
theorem eG.unren {κ κ':Kap}(hw:κ'.w=κ.w)(hi:κ'.imm=κ.imm){g:Nat->Nat}(hf:∀ r,κ'.nm r=κ.nm (g r)){r:Nat}{B:Blk}(h:eG κ (g r) (B.ren fun r=>some (g r))):eG κ' r B:=by
 cases B with
 | none=>trivial
 | cells T f l=>
   simp only[Blk.ren] at h
   rcases h with ⟨h1,h2,h3⟩ | ⟨b,n,cs,h1,h2,h3,h4,h5,h6,h7⟩
   ·refine .inl ⟨h1,?_,by rw[hf];exact h3⟩
    cases l with
    | nil=>rfl
    | cons x r=>simp[AV.renL] at h2
   ·obtain⟨q1,q2⟩:=jL hw hi hf l cs h6
    exact .inr ⟨b,n,cs,by rw[hf];exact h1,by rw[hw];exact h2,h3,by rw[<- q1];exact h4,fun hb=>by rw[<- q1];exact h5 hb,q2,by rw[hi];exact h7⟩
 | tok e sz=>
   simp only[Blk.ren] at h
   rcases h with h | ⟨g',n,cap,cur,h1,h2,h3⟩
   ·exact .inl (by rw[hf];exact h)
   ·exact .inr ⟨g',n,cap,cur,by rw[hf];exact h1,by rw[hw];exact h2,by rw[hi];exact h3⟩
 | mp l=>
   obtain⟨b,es,ck,h1,h2⟩:=h
   exact⟨b,es,ck,by rw[hf];exact h1,by rw[hw,hi];exact h2⟩
 | bts e l=>
   obtain⟨b,n,cs,fz,h1,h2⟩:=h
   exact⟨b,n,cs,fz,by rw[hf];exact h1,by rw[hw,hi];exact h2⟩
theorem eG.ren {κ κ':Kap}(hw:κ'.w=κ.w)(hi:κ'.imm=κ.imm){g:Nat->Nat}(hf:∀ r,κ'.nm (g r)=κ.nm r){r:Nat}{B:Blk}(h:eG κ r B):eG κ' (g r) (B.ren fun r=>some (g r)):=by
 have hf':∀ r r',(fun r=>some (g r)) r=some r'->κ'.nm r'=κ.nm r:=fun r r' h=>by cases h;exact hf r
 cases B with
 | none=>trivial
 | cells T f l=>
   simp only[Blk.ren]
   rcases h with ⟨h1,h2,h3⟩ | ⟨b,n,cs,h1,h2,h3,h4,h5,h6,h7⟩
   ·exact .inl ⟨h1,by rw[h2];simp only[AV.renL],by rw[hf];exact h3⟩
   ·obtain⟨q1,q2⟩:=ep hw hi hf' l cs h6
    exact .inr ⟨b,n,cs,by rw[hf];exact h1,by rw[hw];exact h2,h3,by rw[q1];exact h4,fun hb=>by rw[q1];exact h5 hb,q2,by rw[hi];exact h7⟩
 | tok e sz=>
   simp only[Blk.ren]
   rcases h with h | ⟨g',n,cap,cur,h1,h2,h3⟩
   ·exact .inl (by rw[hf];exact h)
   ·exact .inr ⟨g',n,cap,cur,by rw[hf];exact h1,by rw[hw];exact h2,by rw[hi];exact h3⟩
 | mp l=>
   obtain⟨b,es,ck,h1,h2⟩:=h
   exact⟨b,es,ck,by rw[hf];exact h1,by rw[hw,hi];exact h2⟩
 | bts e l=>
   obtain⟨b,n,cs,fz,h1,h2⟩:=h
   exact⟨b,n,cs,fz,by rw[hf];exact h1,by rw[hw,hi];exact h2⟩
def vG (f:Nat->Option Nat):List Blk->Nat->(Nat->Nat)->List (Nat×Blk)
 | [],_,_=>[]
 | b::r,i,g=>(g i,b.ren f)::vG f r (i+1) g
def iu:List Nat->List (Nat×Blk)
 | []=>[]
 | r::q=>(r,.none)::iu q
def gY (sto:List (Nat×Blk))(f:Nat->Option Nat):List Nat->List Blk->Prop
 | [],[]=>True
 | r::rs,b::bs=>BlkZ (lookB r sto) (b.ren f)/\gY sto f rs bs
 | _,_=>False
theorem gY.get {sto:List (Nat×Blk)}{f:Nat->Option Nat}:∀ {rs:List Nat} {bs:List Blk},gY sto f rs bs->rs.length=bs.length/\∀ (i r:Nat) (b:Blk),rs[i]? = some r->bs[i]? = some b->BlkZ (lookB r sto) (b.ren f)
 | [],[],h=>⟨rfl,by simp⟩
 | r::rs,b::bs,h=>by
   obtain⟨h1,h2⟩:=h
   obtain⟨h3,h4⟩:=gY.get h2
   refine⟨by simp[h3],fun i q d hq hd=>?_⟩
   cases i with
   | zero=>simp at hq hd;subst hq;subst hd;exact h1
   | succ i=>exact h4 i q d (by simpa using hq) (by simpa using hd)
 | [],_::_,h=>h.elim
 | _::_,[],h=>h.elim
end
section
variable {P:Program}{G:Nat->List PV}
theorem eG.named {κ:Kap}{r:Nat}{B:Blk}(h:eG κ r B)(hB:B≠.none):∃ d,κ.nm r=some d:=by
 cases B with
 | none=>exact absurd rfl hB
 | cells T f l=>
   rcases h with ⟨_,_,h⟩ | ⟨b,n,cs,h,_⟩
   ·exact⟨_,h⟩
   ·exact⟨_,h⟩
 | tok e sz=>
   rcases h with h | ⟨g,n,cap,cur,h,_⟩
   ·exact⟨_,h⟩
   ·exact⟨_,h⟩
 | mp l=>
   obtain⟨b,es,ck,h,_⟩:=h
   exact⟨_,h⟩
 | bts e l=>
   obtain⟨b,n,cs,fz,h,_⟩:=h
   exact⟨_,h⟩
theorem Blk.ren_ne {f:Nat->Option Nat}{b:Blk}:b.ren f≠.none↔b≠.none:=by
 cases b<;>simp[Blk.ren]
theorem KB {next:Nat}{rs:List Nat}(hnd:rs.Nodup)(hlt:∀ r∈rs,r<next){i j:Nat}(h:gIn next rs i=gIn next rs j):i=j:=by
 by_cases hi:i<rs.length
 ·have ei:=kC next rs i _ (List.getElem?_eq_getElem hi)
  have hi':=hlt _ (List.getElem_mem hi)
  by_cases hj:j<rs.length
  ·have ej:=kC next rs j _ (List.getElem?_eq_getElem hj)
   rw[ei,ej] at h
   exact (List.getElem_inj hnd).1 h
  ·have ej:=mb next rs j (by omega)
   omega
 ·have ei:=mb next rs i (by omega)
  by_cases hj:j<rs.length
  ·have ej:=kC next rs j _ (List.getElem?_eq_getElem hj)
   have hj':=hlt _ (List.getElem_mem hj)
   omega
  ·have ej:=mb next rs j (by omega)
   omega
theorem oY {f:Nat->Option Nat}{g:Nat->Nat}(hg:∀ i j,g i=g j->i=j)(rest:List (Nat×Blk))(r:Nat):∀ (bs:List Blk) (k:Nat),
  (∀ i b,bs[i]? = some b->g (k+i)=r->lookB r (vG f bs k g++rest)=b.ren f)/\((∀ i,i<bs.length->g (k+i)≠r)->lookB r (vG f bs k g++rest)=lookB r rest)
 | [],k=>⟨by simp,fun _=>rfl⟩
 | b::q,k=>by
   obtain⟨h1,h2⟩:=oY hg rest r q (k+1)
   refine⟨fun i b' hi hr=>?_,fun h=>?_⟩
   ·simp only[vG,List.cons_append,lookB]
    cases i with
    | zero=>
      simp only[List.getElem?_cons_zero,Option.some.injEq] at hi
      subst hi
      rw[if_pos (by simpa using hr)]
    | succ i=>
      rw[if_neg (fun e=>by have:=hg _ _ (e.trans hr.symm);omega)]
      exact h1 i b' (by simpa using hi) (by rw[<- hr];congr 1;omega)
   ·simp only[vG,List.cons_append,lookB]
    rw[if_neg (by have:=h 0 (by simp);simpa using this)]
    exact h2 fun i hi=>by
     have:=h (i+1) (by simp;omega)
     rwa [show k+(i+1)=k+1+i by omega] at this
theorem l8 (rest:List (Nat×Blk))(r:Nat):∀ (l:List Nat),lookB r (iu l++rest)=if r∈l then .none else lookB r rest
 | []=>by simp[iu]
 | x::q=>by
   simp only[iu,List.cons_append,lookB,l8 rest r q,List.mem_cons]
   by_cases h:x=r
   ·subst h;simp
   ·rw[if_neg h]
    by_cases hq:r∈q
    ·simp[hq]
    ·have:¬ (r=x\/r∈q):=by rintro (e | e);exact h e.symm;exact hq e
     rw[if_neg hq,if_neg this]
theorem bf.frame {k f:Nat}{args0:List AV}{bs:List Blk}{v:AV}{bs':List Blk}(h:bf P G k f args0 bs v bs'){rs:List Nat}{args:List AV}{sto:List (Nat×Blk)}{next:Nat}
  (hargs:AVzL args (AV.renL (gSo next rs) args0)) (hbs:gY sto (gSo next rs) rs bs) (hnd:rs.Nodup) (hlt:∀ r∈rs,r<next) (hk:k<=bs.length) (hk':k<=bs'.length) (hne:∀ b∈bs.take k,b≠.none) :
  bW P G f args sto next fun v' sto' next'=>v'=v.ren (gSo next (rs.take k))/\sto'=vG (gSo next (rs.take k)) bs' 0 (gIn next (rs.take k))++(iu (rs.drop k)++sto)/\next'=next+(bs'.length - k):=by
 obtain⟨hcal,h⟩:=h
 refine⟨hcal,fun κ vals hS hf hsz hvals=>?_⟩
 obtain⟨hrl,hat⟩:=hbs.get
 let κ1:Kap:=⟨κ.w,fun i=>κ.nm (gIn next rs i),κ.imm⟩
 have hσ1:(fun r=>lookB r (bF bs 0))=fun r=>bs.getD r .none:=fW bs
 have hlook:∀ i b,bs[i]? = some b->∃ r,rs[i]? = some r/\gIn next rs i=r/\eG κ r (b.ren (gSo next rs))/\(b≠.none->lookB r sto≠.none):=by
  intro i b hb
  have hi:i<rs.length:=by rw[hrl];exact (List.getElem?_eq_some_iff.1 hb).1
  have hr:=List.getElem?_eq_getElem hi
  obtain⟨q1,q2⟩:=(hat i _ b hr hb).rel (hS.blk rs[i])
  exact⟨rs[i],hr,kC next rs i _ hr,q1,fun hb'=>q2 (Blk.ren_ne.2 hb')⟩
 have hlive:∀ i,bs.getD i .none≠.none->∃ b,bs[i]? = some b/\b≠.none:=by
  intro i hi
  rw[List.getD_eq_getElem?_getD] at hi
  cases hb:bs[i]? with
  | none=>rw[hb] at hi;exact absurd rfl hi
  | some b=>rw[hb] at hi;exact⟨b,rfl,hi⟩
 have hB1:∀ i b,bs[i]? = some b->eG κ1 i b:=by
  intro i b hb
  obtain⟨r,hr,hgr,hB,_⟩:=hlook i b hb
  exact eG.unren (κ:=κ) (κ':=κ1) rfl rfl (g:=gIn next rs) (fun _=>rfl) (by rw[hgr];exact hB)
 have hl1:∀ b,(bP κ1 (fun r=>lookB r (bF bs 0)) G).lent b->(bP κ (fun r=>lookB r sto) G).lent b:=by
  rintro b ⟨i,d,h1,h2,h3⟩
  simp only[congrFun hσ1 i] at h1
  obtain⟨b',hb,hbn⟩:=hlive i h1
  obtain⟨r,hr,hgr,_,hn⟩:=hlook i b' hb
  exact⟨r,d,hn hbn,by rw[<- hgr];exact h2,h3⟩
 have hm1:∀ b,(bP κ1 (fun r=>lookB r (bF bs 0)) G).mine b->(bP κ (fun r=>lookB r sto) G).mine b:=fun b hb=>hb.elim .inl (fun h=>.inr (hl1 b h))
 have hS1:SRel (bP κ1 (fun r=>lookB r (bF bs 0)) G) κ1 (fun r=>lookB r (bF bs 0)):=by
  refine⟨fun i=>?_,fun i j d d' b h1 h2 hij hd hd' hb=>?_,fun i d b h1 hd hb=>.inr ⟨i,d,h1,hd,hb⟩,hS.immLt,?_⟩
  ·rw[congrFun hσ1 i]
   show eG κ1 i (bs.getD i .none)
   rw[List.getD_eq_getElem?_getD]
   cases hb:bs[i]? with
   | none=>trivial
   | some b=>exact hB1 i b hb
  ·simp only[congrFun hσ1 i] at h1
   simp only[congrFun hσ1 j] at h2
   obtain⟨b1,hb1,hn1⟩:=hlive i h1
   obtain⟨b2,hb2,hn2⟩:=hlive j h2
   obtain⟨r,hr,hgr,_,hn⟩:=hlook i b1 hb1
   obtain⟨r',hr',hgr',_,hn'⟩:=hlook j b2 hb2
   refine hS.apart r r' d d' b (hn hn1) (hn' hn2) (fun e=>hij ?_) (by rw[<- hgr];exact hd) (by rw[<- hgr'];exact hd') hb
   obtain⟨hi,ei⟩:=List.getElem?_eq_some_iff.1 hr
   obtain⟨hj,ej⟩:=List.getElem?_eq_some_iff.1 hr'
   exact (List.getElem_inj hnd).1 (ei.trans (e.trans ej.symm))
  ·refine⟨fun g o p hp=>?_,fun g hg=>?_⟩
   ·exact hS.glob.1 g o p hp
   ·obtain⟨h1,h2,h3⟩:=hS.glob.2 g hg
    exact⟨h1,fun hl=>h2 (hl1 g hl),h3⟩
 have hf1:∀ r,bs.length<=r->κ1.nm r=none:=fun r hr=>by
  show κ.nm (gIn next rs r)=none
  rw[mb next rs r (by omega)]
  exact hf _ (by omega)
 have hlen0:args0.length=args.length:=by
  rw[hargs.length]
  have:∀ (f:Nat->Option Nat) (l:List AV),(AV.renL f l).length=l.length:=by
   intro f l
   induction l with
   | nil=>simp[AV.renL]
   | cons x r ih=>simp[AV.renL,ih]
  rw[this]
 have hv1:∀ (i:Nat) (x:AV),args0[i]? = some x->ARel κ1 x (vals.getD i Go.undef):=
  (jL (κ:=κ) (κ':=κ1) rfl rfl (g:=gIn next rs) (fun _=>rfl) args0 vals (fun i x hx=>by
   obtain⟨y,hy,hyx⟩:=hargs.get i x hx
   exact hyx.rel (hvals i y hy))).2
 refine (h κ1 vals hS1 hf1 (by omega) hv1).mono ?_
 rintro e w' ⟨u,v',κ1',sto',next',rfl,rfl,he,hL,hv,hS',hf',rfl,rfl,rfl⟩
 obtain⟨g,hgdef⟩:∃ g,g=gIn next (rs.take k):=⟨_,rfl⟩
 have htl:(rs.take k).length=k:=by rw[List.length_take];omega
 have hg1:∀ i,i<k->∃ r,rs[i]? = some r/\g i=r/\r<next:=by
  intro i hi
  have hi':i<rs.length:=by omega
  have hr:=List.getElem?_eq_getElem hi'
  refine⟨rs[i],hr,?_,hlt _ (List.getElem_mem hi')⟩
  rw[hgdef]
  exact kC next _ i _ (by rw[List.getElem?_take,if_pos hi];exact hr)
 have hg2:∀ i,k<=i->g i=next+(i - k):=fun i hi=>by rw[hgdef,mb next _ i (by omega),htl]
 have hginj:∀ i j,g i=g j->i=j:=fun i j hij=>by
  rw[hgdef] at hij
  exact KB (hnd.sublist (List.take_sublist _ _)) (fun r hr=>hlt r (List.mem_of_mem_take hr)) hij
 have hso:gSo next (rs.take k)=fun r=>some (g r):=by rw[hgdef];rfl
 rw[hso,<- hgdef]
 let κ':Kap:=⟨κ1'.w,fun r=>if r<next then κ.nm r else κ1'.nm (k+(r - next)),κ1'.imm⟩
 have hnmk:∀ i,i<k->κ1'.nm i=κ1.nm i:=by
  intro i hi
  have hib:i<bs.length:=by omega
  have hb:=List.getElem?_eq_getElem hib
  obtain⟨d,hd⟩:=(hB1 i _ hb).named (hne _ (List.mem_take_iff_getElem.2 ⟨i,by omega,rfl⟩))
  rw[hd]
  exact he.nm i d (by simp only[Kap.cut];rw[if_pos hi];exact hd)
 have hnm':∀ i,κ'.nm (g i)=κ1'.nm i:=by
  intro i
  by_cases hi:i<k
  ·obtain⟨r,hr,hgr,hrn⟩:=hg1 i hi
   show (if g i<next then κ.nm (g i) else κ1'.nm (k+(g i - next)))=_
   rw[hgr,if_pos hrn,hnmk i hi]
   show κ.nm r=κ.nm (gIn next rs i)
   rw[kC next rs i r hr]
  ·show (if g i<next then κ.nm (g i) else κ1'.nm (k+(g i - next)))=_
   rw[hg2 i (by omega),if_neg (by omega)]
   congr 1;omega
 have hext:Ext κ κ':=⟨fun b o hi=>he.imm b o hi,fun b o v hi hc=>he.cell b o v hi hc,fun r d hd=>by
  have hr:r<next:=by
   rcases Nat.lt_or_ge r next with h | h
   ·exact h
   ·rw[hf r h] at hd;cases hd
  show (if r<next then κ.nm r else _)=_
  rw[if_pos hr];exact hd,fun b o ho hc=>he.obj b o ho hc⟩
 have hout:∀ r d b,lookB r sto≠.none->r∉rs->κ.nm r=some d->d.block=some b->b<κ.w.heap.size/\¬ (bP κ1 (fun r=>lookB r (bF bs 0)) G).lent b:=by
  intro r d b h1 h2 h3 h4
  refine⟨(hS.blk r).lt h1 h3 h4,?_⟩
  rintro⟨i,d',q1,q2,q3⟩
  simp only[congrFun hσ1 i] at q1
  obtain⟨b',hb,hbn⟩:=hlive i q1
  obtain⟨r',hr',hgr,_,hn⟩:=hlook i b' hb
  refine hS.apart r r' d d' b h1 (hn hbn) (fun e=>h2 (e▸List.mem_of_getElem? hr')) h3 (by rw[<- hgr];exact q2) h4 q3
 have hmem:∀ r,r∈rs->(∃ i,i<bs'.length/\g i=r)\/r∈rs.drop k:=by
  intro r hr
  obtain⟨i,hi⟩:=List.getElem?_of_mem hr
  by_cases hik:i<k
  ·obtain⟨r',hr',hgr,_⟩:=hg1 i hik
   rw[hi] at hr';cases hr'
   exact .inl ⟨i,by omega,hgr⟩
  ·refine .inr (List.mem_of_getElem? (i:=i - k) ?_)
   rw[List.getElem?_drop,show k+(i - k)=i by omega];exact hi
 have hσ':∀ r,(∃ i b,bs'[i]? = some b/\g i=r/\lookB r (vG (fun r=>some (g r)) bs' 0 g++(iu (rs.drop k)++sto))=b.ren (fun r=>some (g r))) \/
   lookB r (vG (fun r=>some (g r)) bs' 0 g++(iu (rs.drop k)++sto)) = .none\/(r∉rs/\(∀ i,i<bs'.length->g i≠r)/\lookB r (vG (fun r=>some (g r)) bs' 0 g++(iu (rs.drop k)++sto))=lookB r sto):=by
  intro r
  obtain⟨q1,q2⟩:=oY (f:=fun r=>some (g r)) hginj (iu (rs.drop k)++sto) r bs' 0
  by_cases hi:∃ i,i<bs'.length/\g i=r
  ·obtain⟨i,hi,hgi⟩:=hi
   exact .inl ⟨i,bs'[i],List.getElem?_eq_getElem hi,hgi,q1 i _ (List.getElem?_eq_getElem hi) (by rw[Nat.zero_add];exact hgi)⟩
  ·have hni:∀ i,i<bs'.length->g i≠r:=fun i h1 h2=>hi ⟨i,h1,h2⟩
   have e:=q2 (fun i h1=>by rw[Nat.zero_add];exact hni i h1)
   rw[l8] at e
   by_cases hr:r∈rs.drop k
   ·rw[if_pos hr] at e;exact .inr (.inl e)
   ·rw[if_neg hr] at e
    exact .inr (.inr ⟨fun h=>(hmem r h).elim hi hr,hni,e⟩)
 have hlive':∀ i b,bs'[i]? = some b->b.ren (fun r=>some (g r))≠.none->lookB i (bF bs' 0)≠.none:=by
  intro i b hb hbn
  have e2:lookB i (bF bs' 0)=bs'.getD i .none:=congrFun (fW bs') i
  rw[e2,List.getD_eq_getElem?_getD,hb]
  exact Blk.ren_ne.1 hbn
 refine⟨u,_,κ',_,_,rfl,rfl,hext,⟨hL.os,hL.tape,hL.output,hL.size,fun b hb hl=>hL.block b hb fun h=>hl (hl1 b h),fun b o hi=>(hL.imm b o hi).imp id (hm1 b)⟩,
  qq (κ:=κ1') (κ':=κ') rfl rfl (fun r r' hr=>by cases hr;exact hnm' r) v' u hv,?_,fun r hr=>?_,rfl,rfl,rfl⟩
 ·refine⟨fun r=>?_,fun r r' d d' b h1 h2 hrr hd hd' hb=>?_,fun r d b h1 hd hb=>?_,hS'.immLt,?_⟩
  ·show eG κ' r (lookB r _)
   rcases hσ' r with ⟨i,b,hb,hgi,e⟩ | e | ⟨hr,hni,e⟩
   ·rw[e,<- hgi]
    refine eG.ren (κ:=κ1') (κ':=κ') rfl rfl hnm' ?_
    have:=hS'.blk i
    have e2:lookB i (bF bs' 0)=bs'.getD i .none:=congrFun (fW bs') i
    simp only[e2,List.getD_eq_getElem?_getD,hb] at this
    exact this
   ·rw[e];trivial
   ·rw[e]
    refine (hS.blk r).keep hext fun hbn d b hd hb=>?_
    obtain⟨q1,q2⟩:=hout r d b hbn hr hd hb
    refine⟨hL.block b q1 q2,fun o ho=>?_⟩
    rcases hL.imm b o ho with h | h | h
    ·exact h
    ·exact absurd q1 (Nat.not_lt.2 h)
    ·exact absurd h q2
  ·have cal:∀ r i b0 d,bs'[i]? = some b0->g i=r->b0.ren (fun r=>some (g r))≠.none->κ'.nm r=some d->lookB i (bF bs' 0)≠.none/\κ1'.nm i=some d:=by
    intro r i b0 d hb0 hgi hbn hd
    exact⟨hlive' i b0 hb0 hbn,by rw[<- hnm' i,hgi];exact hd⟩
   have own:∀ r d,r∉rs->lookB r sto≠.none->κ'.nm r=some d->κ.nm r=some d:=by
    intro r d hr hbn hd
    obtain⟨d',hd'⟩:=(hS.blk r).named hbn
    have:=hext.nm r d' hd'
    rw[this] at hd;cases hd;exact hd'
   have mix:∀ r i b0 d d' b,bs'[i]? = some b0->b0.ren (fun r=>some (g r))≠.none->κ1'.nm i=some d->d.block=some b->lookB i (bF bs' 0)≠.none->r∉rs->lookB r sto≠.none->κ.nm r=some d'->d'.block≠some b:=by
    intro r i b0 d d' b hb0 hbn hd hdb hl hr hrl hd' hdb'
    obtain⟨q1,q2⟩:=hout r d' b hrl hr hd' hdb'
    rcases hS'.mine i d b hl hd hdb with h | h
    ·exact absurd q1 (Nat.not_lt.2 h)
    ·exact q2 h
   rcases hσ' r with ⟨i,b1,hb1,hgi,e⟩ | e | ⟨hr,hni,e⟩
   ·have h1':b1.ren (fun r=>some (g r))≠.none:=by
     intro h0;exact h1 (e.trans h0)
    obtain⟨p1,p2⟩:=cal r i b1 d hb1 hgi h1' hd
    rcases hσ' r' with ⟨j,b2,hb2,hgj,e'⟩ | e' | ⟨hr',hni',e'⟩
    ·have h2':b2.ren (fun r=>some (g r))≠.none:=by
      intro h0;exact h2 (e'.trans h0)
     obtain⟨p3,p4⟩:=cal r' j b2 d' hb2 hgj h2' hd'
     exact hS'.apart i j d d' b p1 p3 (fun hij=>hrr (by rw[<- hgi,<- hgj,hij])) p2 p4 hb
    ·exact absurd e' h2
    ·have h2':lookB r' sto≠.none:=by intro h0;exact h2 (e'.trans h0)
     exact mix r' i b1 d d' b hb1 h1' p2 hb p1 hr' h2' (own r' d' hr' h2' hd')
   ·exact absurd e h1
   ·have h1':lookB r sto≠.none:=by intro h0;exact h1 (e.trans h0)
    have hd0:=own r d hr h1' hd
    rcases hσ' r' with ⟨j,b2,hb2,hgj,e'⟩ | e' | ⟨hr',hni',e'⟩
    ·have h2':b2.ren (fun r=>some (g r))≠.none:=by
      intro h0;exact h2 (e'.trans h0)
     obtain⟨p3,p4⟩:=cal r' j b2 d' hb2 hgj h2' hd'
     intro hb'
     exact mix r j b2 d' d b hb2 h2' p4 hb' p3 hr h1' hd0 hb
    ·exact absurd e' h2
    ·have h2':lookB r' sto≠.none:=by intro h0;exact h2 (e'.trans h0)
     exact hS.apart r r' d d' b h1' h2' hrr hd0 (own r' d' hr' h2' hd') hb
  ·rcases hσ' r with ⟨i,b1,hb1,hgi,e⟩ | e | ⟨hr,hni,e⟩
   ·have h1':b1.ren (fun r=>some (g r))≠.none:=by
     intro h0;exact h1 (e.trans h0)
    refine hm1 b (hS'.mine i d b (hlive' i b1 hb1 h1') (by rw[<- hnm' i,hgi];exact hd) hb)
   ·exact absurd e h1
   ·have h1':lookB r sto≠.none:=by intro h0;exact h1 (e.trans h0)
    obtain⟨d',hd'⟩:=(hS.blk r).named h1'
    have:=hext.nm r d' hd'
    rw[this] at hd;cases hd
    exact .inr ⟨r,d,h1',hd',hb⟩
  ·refine⟨hS'.glob.1,fun g' hg'=>?_⟩
   obtain⟨h1,h2,cs,T,fz,h3,h4⟩:=hS.glob.2 g' hg'
   exact⟨h1,h2,cs,T,fz,(hL.block g' h1 fun h=>h2 (hl1 g' h)).trans h3,h4⟩
 ·show (if r<next then κ.nm r else κ1'.nm (k+(r - next)))=none
  rw[if_neg (by omega)]
  exact hf' _ (by omega)
def HQ (k:Nat)(rs:List Nat)(bs bs':List Blk)(next:Nat):Bool:=
 decide (k<=bs.length)&&decide (k<=bs'.length)&&(bs.take k).all (fun b=>match b with | .none=>false | _=>true)&&rs.all (fun r=>decide (r<next))&&decide rs.Nodup
theorem ab.lentK {k f:Nat}{args0:List AV}{bs:List Blk}{v:AV}{bs':List Blk}(h:bf P G k f args0 bs v bs')(rs:List Nat){args:List AV}{env:List (Nat×AV)}{sto:List (Nat×Blk)}{next:Nat}{K:AV->St->Prop}
  (hok:HQ k rs bs bs' next=true) (hargs:AVzL args (AV.renL (gSo next rs) args0)) (hbs:gY sto (gSo next rs) rs bs)
  (hK:K (v.ren (gSo next (rs.take k))) ⟨env,vG (gSo next (rs.take k)) bs' 0 (gIn next (rs.take k))++(iu (rs.drop k)++sto),next+(bs'.length - k)⟩):ab P G f args ⟨env,sto,next⟩ K:=by
 simp only[HQ,Bool.and_eq_true,decide_eq_true_eq,List.all_eq_true] at hok
 obtain⟨⟨⟨⟨h1,h2⟩,h3⟩,h4⟩,h5⟩:=hok
 refine ab.lent (h.frame hargs hbs h5 h4 h1 h2 (fun b hb e=>?_)) ?_
 ·have:=h3 b hb
  subst e;cases this
 ·rintro v' sto' next' ⟨rfl,rfl,rfl⟩
  exact hK
end
section
variable {P:Program}{G:Nat->List PV}
end
theorem EN (k k':IntKind)(x y:Int):JI (.pv (.int k x)) (.pv (.int k' y))=some (.pv (.int k (min x y))):=by
 simp only[JI,Option.some.injEq,AV.pv.injEq,PV.int.injEq,true_and]
 split<;>omega
theorem EO (k k':IntKind)(x y:Int):JJ (.pv (.int k x)) (.pv (.int k' y))=some (.pv (.int k (max x y))):=by
 simp only[JJ,Option.some.injEq,AV.pv.injEq,PV.int.injEq,true_and]
 split<;>omega
theorem map_take {α β:Type}(f:α->β)(l:List α)(n:Nat):(l.map f).take n=(l.take n).map f:=List.map_take.symm
theorem map_drop {α β:Type}(f:α->β)(l:List α)(n:Nat):(l.map f).drop n=(l.drop n).map f:=List.map_drop.symm
theorem AE {α β:Type}(f:α->β):(none:Option α).map f=none:=_root_.id rfl
def mE (mu:Bool)(e sz by_ new:Nat)(σ:aw)(x:AV):Option (List PV)->Option (AV×List (Nat×Blk))
 | some ys=>match mu,x with
   | false,.pv .nils=>match ys with
     | []=>some (.pv .nils,[])
     | y::r=>if nQ 0 (r.length+1) by_=true then some (.olist new sz (y::r),[(new,.tok e sz)]) else none
   | false,.olist q s l=>match σ q with
     | .tok e' sz'=>if e'=e/\sz'=sz/\s=sz/\nQ l.length ys.length by_=true then some (.olist new sz (l++ys),[(q,.none),(new,.tok e sz)]) else none
     | _=>none
   | true,.pv .nils=>match ys with
     | []=>some (.pv .nils,[])
     | y::r=>if nQ 0 (r.length+1) by_=true then some (.row new sz 0 (r.length+1),[(new,.cells e false (bp (y::r)))]) else none
   | true,.row q s off len=>match σ q with
     | .cells e' _ l=>if e'=e/\s=sz/\off=0/\len*sz<=l.length/\nQ len ys.length by_=true then some (.row new sz 0 (len+ys.length),[(q,.none),(new,.cells e false (l.take (len*sz)++bp ys))]) else none
     | _=>none
   | _,_=>none
 | none=>none
def GV (e sz by_ new q s:Nat)(l ys:List PV):Blk->Option (AV×List (Nat×Blk))
 | .tok e' sz'=>if e'=e/\sz'=sz/\s=sz/\nQ l.length ys.length by_=true then some (.olist new sz (l++ys),[(q,.none),(new,.tok e sz)]) else none
 | _=>none
def xx (e sz by_ new q s off len:Nat)(ys:List PV):Blk->Option (AV×List (Nat×Blk))
 | .cells e' _ l=>if e'=e/\s=sz/\off=0/\len*sz<=l.length/\nQ len ys.length by_=true then some (.row new sz 0 (len+ys.length),[(q,.none),(new,.cells e false (l.take (len*sz)++bp ys))]) else none
 | _=>none
theorem vp (mu:Bool)(e sz by_ new:Nat)(σ:aw)(x y:AV):dB mu e sz by_ new σ x y=mE mu e sz by_ new σ x (bx σ sz y):=by
 unfold dB mE
 cases bx σ sz y<;>rfl
theorem OO (e sz by_ new:Nat)(σ:aw)(q s:Nat)(l ys:List PV):mE false e sz by_ new σ (.olist q s l) (some ys)=GV e sz by_ new q s l ys (σ q):=by
 simp only[mE,GV]
theorem GU {e sz by_ new q:Nat}{l ys:List PV}(h1:l.length+ys.length<=9223372036854775807)(h2:(l.length+ys.length)*by_<=140737488355328):GV e sz by_ new q sz l ys (.tok e sz)=some (.olist new sz (l++ys),[(q,.none),(new,.tok e sz)]):=by
 simp[GV,jU h1 h2]
theorem Lt (e sz by_ new:Nat)(σ:aw)(q s off len:Nat)(ys:List PV):mE true e sz by_ new σ (.row q s off len) (some ys)=xx e sz by_ new q s off len ys (σ q):=by
 simp only[mE,xx]
theorem nG {e sz by_ new q len:Nat}{f:Bool}{l:List AV}{ys:List PV}(h0:len*sz<=l.length)(h1:len+ys.length<=9223372036854775807)(h2:(len+ys.length)*by_<=140737488355328) :
  xx e sz by_ new q sz 0 len ys (.cells e f l)=some (.row new sz 0 (len+ys.length),[(q,.none),(new,.cells e false (l.take (len*sz)++bp ys))]):=by
 simp[xx,h0,jU h1 h2]
def tM (l:List PV):Bool->Option (List PV)
 | true=>some l
 | false=>none
theorem wE (σ:aw)(sz:Nat)(l:List PV):bx σ sz (.pv (.list l))=tM l (l.all fun y=>y.cells.length == sz):=by
 simp only[bx]
 cases l.all (fun y=>y.cells.length == sz)<;>rfl
theorem wF (l:List PV):tM l true=some l:=_root_.id rfl
theorem rG (σ:aw)(sz r:Nat)(l:List PV):bx σ sz (.olist r sz l)=some l:=by simp[bx]
def Pv (e sz new:Nat):Option (List PV)->Option (AV×List (Nat×Blk))
 | some ps=>if ps.all (fun p=>p.cells.length == sz&&p.cells.all PV.one)=true then some (.olist new sz ps,[(new,.tok e sz)]) else none
 | none=>none
theorem QX {e sz len new:Nat}{vs:List AV}(h:vs.length=len)(h2:len<=9223372036854775807):fU false e sz len new vs=Pv e sz new (pvs vs):=by
 simp only[fU,h,h2,true_and,if_true,Pv]
 cases pvs vs<;>rfl
def R0 (e sz new:Nat)(ps:List PV):Bool->Option (AV×List (Nat×Blk))
 | true=>some (.olist new sz ps,[(new,.tok e sz)])
 | false=>none
theorem OG (e sz new:Nat)(ps:List PV):R0 e sz new ps true=some (.olist new sz ps,[(new,.tok e sz)]):=_root_.id rfl
theorem C7 (e sz new:Nat)(ps:List PV):Pv e sz new (some ps)=R0 e sz new ps (ps.all fun p=>p.cells.length == sz&&p.cells.all PV.one):=by
 simp only[Pv]
 cases ps.all (fun p=>p.cells.length == sz&&p.cells.all PV.one)<;>rfl
theorem sX (b:Bool):PV.one (.bool b)=true:=_root_.id rfl
theorem Ax (k:IntKind)(n:Int):PV.one (.int k n)=true:=_root_.id rfl
theorem Aw (s:List UInt8):PV.one (.str s)=true:=_root_.id rfl
theorem Fk:PV.one .nils=true:=_root_.id rfl
theorem sV (l:List PV):PV.one (.list l)=true:=_root_.id rfl
theorem JY (p:PV):AV.one (.pv p)=p.one:=_root_.id rfl
theorem Fm (r o:Nat):AV.one (.ptr r o)=true:=_root_.id rfl
theorem Fl (r s o n:Nat):AV.one (.row r s o n)=true:=_root_.id rfl
theorem vH (r s:Nat)(l:List PV):AV.one (.olist r s l)=true:=_root_.id rfl
theorem Fn (f:Nat)(a b:List AV):AV.one (.clo f a b)=true:=_root_.id rfl
def qT (sz:Nat)(l:List PV)(h:Nat):Option Nat->Option AV
 | some a=>if Hm sz l a=true then some (.pv (.list ((l.take h).drop a))) else none
 | none=>none
def AB (sz:Nat)(l:List PV)(lo:Option AV):Option Nat->Option AV
 | some h=>qT sz l h (bh 0 h lo)
 | none=>none
theorem ou (sz:Nat)(l:List PV)(lo hi:Option AV):e8 sz (.pv (.list l)) lo hi=AB sz l lo (bh l.length l.length hi):=by
 show LX sz l lo hi=_
 unfold LX AB qT
 cases bh l.length l.length hi with
 | none=>rfl
 | some h=>simp only;cases bh 0 h lo<;>rfl
theorem qS (sz:Nat)(l:List PV)(lo:Option AV)(h:Nat):AB sz l lo (some h)=qT sz l h (bh 0 h lo):=_root_.id rfl
theorem vJ (sz:Nat)(l:List PV)(h:Nat):qT sz l h (some 0)=some (.pv (.list (l.take h))):=by
 simp[qT,Hm]
theorem lX {sz:Nat}{l:List PV}{h a:Nat}(hs:Hm sz l a=true):qT sz l h (some a)=some (.pv (.list ((l.take h).drop a))):=if_pos hs
theorem vI (sz:Nat)(l:List PV)(i:Nat)(y:PV):eM sz l i (some y)=if y.cells.length=sz then some (.pv (.eptr l i 0)) else none:=_root_.id rfl
theorem GY {α β:Type}(f:α->β)(p:β->Bool)(l:List α):(l.map f).all p=l.all fun x=>p (f x):=by
 rw[List.all_map];rfl
theorem OP {α:Type}(l:List α):(l.all fun _=>true)=true:=by simp
theorem OJ (n:Nat):(n == n)=true:=by simp
def Nu (sz:Nat)(e:PV):Bool->Option AV
 | true=>some (.pv e)
 | false=>dS true sz 0 (e.cells.map .pv)
theorem Km (sz:Nat)(e:PV):Nu sz e true=some (.pv e):=_root_.id rfl
theorem FO (sz:Nat)(e:PV):lu true sz 0 e=Nu sz e (e.isAgg&&decide (e.cells.length=sz)):=by
 simp only[lu,true_and]
 by_cases h:e.isAgg=true/\e.cells.length=sz
 ·rw[if_pos h,h.1,decide_eq_true h.2];rfl
 ·rw[if_neg h]
  have:(e.isAgg&&decide (e.cells.length=sz))=false:=by
   rw[Bool.eq_false_iff]
   intro hh
   simp only[Bool.and_eq_true,decide_eq_true_eq] at hh
   exact h hh
  rw[this];rfl
theorem Bm (cs:List PV):(PV.agg cs).isAgg=true:=_root_.id rfl
theorem iX {α:Type}{sz:Nat}{f:α->PV}(hf:∀ x,(f x).cells.length=sz)(l:List α):(bp (l.map f)).length=l.length*sz:=by
 have:=gK (sz:=sz) ((l.map f).map PV.cells) (by
  intro y hy
  simp only[List.mem_map] at hy
  obtain⟨p,⟨s,_,rfl⟩,rfl⟩:=hy
  exact hf s)
 simp only[bp,List.length_map,List.flatMap_def] at this ⊢
 exact this
def fzO (σ:aw):Option AV->Option (AV×List (Nat×Blk))
 | some v=>(DB σ v).map KE
 | none=>none
theorem NM (G:Nat->List PV)(σ:aw)(g:Bool)(sz:Nat)(v:AV):KQ G σ (some (g,sz)) v=fzO σ (eQ G g sz σ v):=by
 simp only[KQ,fzO];cases eQ G g sz σ v<;>rfl
theorem Gg (σ:aw)(v:AV):fzO σ (some v)=(DB σ v).map KE:=_root_.id rfl
theorem Gi (σ:aw)(cs:List AV):DB σ (.agg cs)=(Gk σ cs).map fun p=>(.agg p.1,p.2):=_root_.id rfl
theorem Gh (σ:aw)(r s n:Nat):DB σ (.row r s 0 n)=KH s n r (σ r):=_root_.id rfl
theorem KF (σ:aw)(p:PV):KG σ (.pv p)=some (p,[]):=_root_.id rfl
theorem Gm (σ:aw)(r s n:Nat):KG σ (.row r s 0 n)=KH s n r (σ r):=_root_.id rfl
theorem Gj (σ:aw):Gk σ []=some ([],[]):=_root_.id rfl
theorem BG (σ:aw)(x:AV)(r:List AV):Gk σ (x::r)=Ps (KG σ x) (Gk σ r):=_root_.id rfl
theorem BH (p:PV)(a:List Nat)(q:List PV)(b:List Nat):Ps (some (p,a)) (some (q,b))=some (p::q,a++b):=_root_.id rfl
theorem KD (p:PV)(l:List Nat):KE (p,l)=(.pv p,l.map fun r=>(r,.none)):=_root_.id rfl
theorem tD {α:Type}{sz:Nat}{f:α->PV}(hf:∀ x,∃ cs,f x = .agg cs/\cs.length=sz/\∀ p∈cs,p.one=true)(hsz:2<=sz)(l:List α){n r T:Nat}{b:Bool}(hn:n=l.length) :
  KH sz n r (.cells T b (bp (l.map f)))=some (.list (l.map f),[r]):=by
 have hlen:=iX (sz:=sz) (f:=f) (fun x=>by obtain⟨cs,h1,h2,_⟩:=hf x;rw[h1];exact h2) l
 subst hn
 have hone:(bp (l.map f)).all AV.one=true:=by
  rw[List.all_eq_true]
  intro x hx
  simp only[bp,List.mem_map,List.mem_flatMap] at hx
  obtain⟨p,⟨q,⟨s,_,rfl⟩,hq⟩,rfl⟩:=hx
  obtain⟨cs,h1,h2,h3⟩:=hf s
  rw[h1] at hq
  exact h3 p hq
 have hpv:pvs (bp (l.map f))=some ((l.map f).flatMap PV.cells):=pvs_map _
 have hch:∀ l:List α,iI sz l.length ((l.map f).flatMap PV.cells)=l.map f:=by
  intro l
  induction l with
  | nil=>rfl
  | cons x r ih=>
    obtain⟨cs,h1,h2,_⟩:=hf x
    simp only[List.length_cons,iI,List.map_cons,List.flatMap_cons,h1,am]
    rw[if_neg (by omega),List.take_left' h2,List.drop_left' h2,ih]
 simp only[KH]
 rw[if_pos ⟨by omega,by omega,by rw[List.take_of_length_le (by omega)];exact hone⟩,List.take_of_length_le (by omega),hpv]
 simp[hch]
theorem FB (p:PV):(AV.pv p).names=[]:=_root_.id rfl
theorem AQ (r o:Nat):(AV.ptr r o).names=[r]:=_root_.id rfl
theorem AP (r a b c:Nat):(AV.row r a b c).names=[r]:=_root_.id rfl
theorem FC (r a:Nat)(l:List PV):(AV.olist r a l).names=[r]:=_root_.id rfl
theorem AS (f:Nat)(fs cs:List AV):(AV.clo f fs cs).names=AV.namesL fs++AV.namesL cs:=by simp only[AV.names]
theorem AU:AV.any.names=[]:=_root_.id rfl
theorem vQ:AV.namesL []=[]:=_root_.id rfl
theorem kj (x:AV)(r:List AV):AV.namesL (x::r)=x.names++AV.namesL r:=by simp only[AV.namesL]
theorem ki:∀ l:List PV,AV.namesL (l.map .pv)=[]
 | []=>rfl
 | x::r=>by rw[List.map_cons,kj,ki r];rfl
theorem qY (l:List PV):AV.namesL (bp l)=[]:=ki _
theorem oO (T:Nat)(f:Bool)(l:List AV):(Blk.cells T f l).names=AV.namesL l:=_root_.id rfl
theorem vR (e s:Nat):(Blk.tok e s).names=[]:=_root_.id rfl
theorem GZ (acc:List Nat):bv acc []=acc:=_root_.id rfl
def Lz (acc:List Nat)(n:Nat):Bool->List Nat
 | true=>acc
 | false=>acc++[n]
theorem i8 (x:Nat):∀ l:List Nat,l.contains x=tl x l
 | []=>rfl
 | y::r=>by
   rw[List.contains_cons,i8 x r,oR]
   by_cases h:y=x
   ·simp[h]
   ·have h':¬ x=y:=fun e=>h e.symm
    simp[h,h']
theorem Dk (acc:List Nat)(n:Nat)(r:List Nat):bv acc (n::r)=bv (Lz acc n (tl n acc)) r:=by
 simp only[bv,i8]
 cases tl n acc<;>rfl
theorem Lx (acc:List Nat)(n:Nat):Lz acc n true=acc:=_root_.id rfl
theorem Ly (acc:List Nat)(n:Nat):Lz acc n false=acc++[n]:=_root_.id rfl
def geN (m0:Nat):List Nat->List Nat
 | []=>[]
 | x::r=>if m0<=x then x::geN m0 r else geN m0 r
theorem Kz (m0:Nat):geN m0 []=[]:=_root_.id rfl
theorem tw (m0 x:Nat)(r:List Nat):geN m0 (x::r)=if m0<=x then x::geN m0 r else geN m0 r:=_root_.id rfl
theorem BF (m0:Nat):∀ l:List Nat,l.filter (fun r=>decide (m0<=r))=geN m0 l
 | []=>rfl
 | x::r=>by rw[List.filter_cons,BF m0 r,tw];simp
def dv (sto:List (Nat×Blk)):List Nat->List Nat
 | []=>[]
 | r::q=>(lookB r sto).names++dv sto q
theorem pC (sto:List (Nat×Blk)):dv sto []=[]:=_root_.id rfl
theorem gU (sto:List (Nat×Blk))(r:Nat)(q:List Nat):dv sto (r::q)=(lookB r sto).names++dv sto q:=_root_.id rfl
theorem f9 (sto:List (Nat×Blk)):∀ l:List Nat,(l.flatMap fun r=>(lookB r sto).names)=dv sto l
 | []=>rfl
 | r::q=>by rw[List.flatMap_cons,f9 sto q,gU]
theorem JA (m0:Nat)(sto:List (Nat×Blk))(acc:List Nat):fI m0 sto 0 acc=acc:=_root_.id rfl
theorem Jz (m0:Nat)(sto:List (Nat×Blk))(k:Nat)(acc:List Nat):fI m0 sto (k+1) acc=fI m0 sto k (bv acc (geN m0 (dv sto acc))):=by
 rw[<- BF,<- f9];rfl
def eE (e:List (Nat×AV)):List Nat->List Nat
 | []=>[]
 | k::r=>(look k e).names++eE e r
theorem pk (e:List (Nat×AV)):eE e []=[]:=_root_.id rfl
theorem nA (e:List (Nat×AV))(k:Nat)(r:List Nat):eE e (k::r)=(look k e).names++eE e r:=_root_.id rfl
theorem kR (e:List (Nat×AV))(σ:List (Nat×Blk))(n:Nat):∀ l:List Nat,(l.flatMap fun i=>((⟨e,σ,n⟩:St).E i).names)=eE e l
 | []=>rfl
 | k::r=>by rw[List.flatMap_cons,kR e σ n r];rfl
def ze:Nat->Nat->List Nat
 | 0,_=>[]
 | n+1,k=>k::ze n (k+1)
theorem P9 (k:Nat):ze 0 k=[]:=_root_.id rfl
theorem M0 (n k:Nat):ze (n+1) k=k::ze n (k+1):=_root_.id rfl
theorem zd:∀ n k:Nat,ze n k=List.range' k n
 | 0,k=>rfl
 | n+1,k=>by rw[M0,zd n,List.range'_succ]
theorem Hz (n:Nat):List.range n=ze n 0:=by rw[zd,List.range_eq_range']
theorem J1 (m0:Nat)(keep:List Nat)(e:List (Nat×AV))(σ:List (Nat×Blk))(n:Nat):Nh m0 keep ⟨e,σ,n⟩=fI m0 σ σ.length (bv [] (geN m0 (eE e keep++dv σ (ze m0 0)))):=by
 rw[<- BF,<- kR e σ n,<- f9,<- Hz];rfl
def oM (f:Nat->Option Nat)(e:List (Nat×AV)):List Nat->List (Nat×AV)
 | []=>[]
 | k::r=>(k,(look k e).ren f)::oM f e r
theorem AJ (f:Nat->Option Nat)(e:List (Nat×AV)):oM f e []=[]:=_root_.id rfl
theorem vL (f:Nat->Option Nat)(e:List (Nat×AV))(k:Nat)(r:List Nat):oM f e (k::r)=(k,(look k e).ren f)::oM f e r:=_root_.id rfl
def AI (m0:Nat)(keep:List Nat)(e:List (Nat×AV))(σ:List (Nat×Blk))(os:List Nat):St:=⟨oM (dC m0 os) e keep,eL m0 (dC m0 os) σ (ze m0 0++os) 0,m0+os.length⟩
theorem J6 (m0:Nat)(keep:List Nat)(e:List (Nat×AV))(σ:List (Nat×Blk))(n:Nat):norm m0 keep ⟨e,σ,n⟩=AI m0 keep e σ (fI m0 σ σ.length (bv [] (geN m0 (eE e keep++dv σ (ze m0 0))))):=by
 rw[<- J1 m0 keep e σ n]
 have hE:∀ (f:Nat->Option Nat) (l:List Nat),(l.map fun i=>(i,((⟨e,σ,n⟩:St).E i).ren f))=oM f e l:=by
  intro f l
  induction l with
  | nil=>rfl
  | cons k r ih=>rw[List.map_cons,ih];rfl
 simp only[norm,AI,hE,Hz]
theorem J8 (m0:Nat)(keep:List Nat)(e:List (Nat×AV))(σ:List (Nat×Blk))(x:Nat)(r:List Nat):AI m0 keep e σ (x::r)=⟨oM (dC m0 (x::r)) e keep,eL m0 (dC m0 (x::r)) σ (ze m0 0++(x::r)) 0,m0+(x::r).length⟩:=_root_.id rfl
theorem J7 (m0:Nat)(keep:List Nat)(e:List (Nat×AV))(σ:List (Nat×Blk)):AI m0 keep e σ []=⟨oM (dC m0 []) e keep,eL m0 (dC m0 []) σ (ze m0 0) 0,m0⟩:=by
 simp only[AI,List.append_nil];rfl
theorem uS (m0:Nat)(f:Nat->Option Nat)(σ:List (Nat×Blk))(k:Nat):eL m0 f σ [] k=[]:=_root_.id rfl
theorem qr (m0:Nat)(f:Nat->Option Nat)(σ:List (Nat×Blk))(r:Nat)(q:List Nat)(k:Nat):eL m0 f σ (r::q) k=(k,(lookB r σ).ren f)::eL m0 f σ q (k+1):=_root_.id rfl
theorem vP (m0:Nat)(os:List Nat)(r:Nat):dC m0 os r=if r<m0 then some r else HT r os m0:=_root_.id rfl
theorem Bt (x y:Nat)(r:List Nat)(k:Nat):HT x (y::r) k=if y=x then some k else HT x r (k+1):=_root_.id rfl
def Qb (o:Nat):Option Nat->AV
 | some q=>.ptr q o
 | none=>.any
def Qa (a b c:Nat):Option Nat->AV
 | some q=>.row q a b c
 | none=>.any
def Qc (a:Nat)(l:List PV):Option Nat->AV
 | some q=>.olist q a l
 | none=>.pv (.list l)
theorem HB (f:Nat->Option Nat)(p:PV):(AV.pv p).ren f = .pv p:=by simp only[AV.ren]
theorem Jv (f:Nat->Option Nat):AV.any.ren f = .any:=by simp only[AV.ren]
theorem Jt (f:Nat->Option Nat)(r o:Nat):(AV.ptr r o).ren f=Qb o (f r):=by simp only[AV.ren,Qb]<;>(cases f r<;>rfl)
theorem Js (f:Nat->Option Nat)(r a b c:Nat):(AV.row r a b c).ren f=Qa a b c (f r):=by simp only[AV.ren,Qa]<;>(cases f r<;>rfl)
theorem M7 (f:Nat->Option Nat)(r a:Nat)(l:List PV):(AV.olist r a l).ren f=Qc a l (f r):=by simp only[AV.ren,Qc]<;>(cases f r<;>rfl)
theorem Ju (f:Nat->Option Nat)(g:Nat)(fs cs:List AV):(AV.clo g fs cs).ren f = .clo g (AV.renL f fs) (AV.renL f cs):=by simp only[AV.ren]
theorem zm (o q:Nat):Qb o (some q) = .ptr q o:=_root_.id rfl
theorem zj (a b c q:Nat):Qa a b c (some q) = .row q a b c:=_root_.id rfl
theorem zq (a:Nat)(l:List PV)(q:Nat):Qc a l (some q) = .olist q a l:=_root_.id rfl
theorem EB (f:Nat->Option Nat):AV.renL f []=[]:=_root_.id rfl
theorem ol (f:Nat->Option Nat)(x:AV)(r:List AV):AV.renL f (x::r)=x.ren f::AV.renL f r:=by simp only[AV.renL]
theorem qt (f:Nat->Option Nat):∀ l:List PV,AV.renL f (l.map .pv)=l.map .pv
 | []=>rfl
 | x::r=>by rw[List.map_cons,ol,qt f r,HB]
theorem zr (f:Nat->Option Nat)(l:List PV):AV.renL f (bp l)=bp l:=qt f _
theorem uT (f:Nat->Option Nat)(T:Nat)(b:Bool)(l:List AV):(Blk.cells T b l).ren f = .cells T b (AV.renL f l):=_root_.id rfl
theorem EC (f:Nat->Option Nat)(e s:Nat):(Blk.tok e s).ren f = .tok e s:=_root_.id rfl
theorem zu (f:Nat->Option Nat):Blk.none.ren f = .none:=_root_.id rfl
theorem Fs (A:List (Nat×Nat×Nat×Nat))(m0:Nat)(keep:List Nat)(s:St):ey A m0 keep s=norm m0 keep (G1 A s):=_root_.id rfl
theorem G0 (s:St):G1 [] s=s:=_root_.id rfl
theorem Dm (k e sz:Nat)(r:List (Nat×Nat×Nat×Nat))(env:List (Nat×AV))(σ:List (Nat×Blk))(n:Nat):G1 ((k,0,e,sz)::r) ⟨env,σ,n⟩=G1 r (L5 k e sz ⟨env,σ,n⟩ (look k env)):=_root_.id rfl
theorem Dn (k j e sz:Nat)(r:List (Nat×Nat×Nat×Nat))(env:List (Nat×AV))(σ:List (Nat×Blk))(n:Nat):G1 ((k,j+1,e,sz)::r) ⟨env,σ,n⟩=G1 r (accP j e sz ⟨env,σ,n⟩ (look k env)):=_root_.id rfl
theorem Dr (k e sz:Nat)(env:List (Nat×AV))(σ:List (Nat×Blk))(n:Nat):L5 k e sz ⟨env,σ,n⟩ (.pv .nils)=⟨(k,iv n e sz)::env,(n,cy e sz)::σ,n+1⟩:=_root_.id rfl
theorem Ka {n e sz:Nat}(h:e<1000000):iv n e sz = .olist n sz []:=if_pos h
theorem J9 {n e sz:Nat}(h:1000000<=e):iv n e sz = .row n sz 0 0:=if_neg (Nat.not_lt.2 h)
theorem Fv {e sz:Nat}(h:e<1000000):cy e sz = .tok e sz:=if_pos h
theorem Fu {e sz:Nat}(h:1000000<=e):cy e sz = .cells (e - 1000000) false []:=if_neg (Nat.not_lt.2 h)
theorem LB (k e sz r a:Nat)(l:List PV)(s:St):L5 k e sz s (.olist r a l)=s:=_root_.id rfl
theorem G3 (o e sz r b:Nat)(env:List (Nat×AV))(σ:List (Nat×Blk))(n:Nat):accP o e sz ⟨env,σ,n⟩ (.ptr r b)=accB r (b+o) e sz ⟨env,σ,n⟩ (lookB r σ):=_root_.id rfl
theorem xB (r o e sz T:Nat)(f:Bool)(l:List AV)(s:St):accB r o e sz s (.cells T f l)=L4 r T f l o e sz s l[o]?:=_root_.id rfl
theorem Dq (r T:Nat)(f:Bool)(l:List AV)(o e sz:Nat)(env:List (Nat×AV))(σ:List (Nat×Blk))(n:Nat):L4 r T f l o e sz ⟨env,σ,n⟩ (some (.pv .nils))=⟨env,(r,.cells T f (l.set o (iv n e sz)))::(n,cy e sz)::σ,n+1⟩:=_root_.id rfl
theorem G4 (r T:Nat)(f:Bool)(l:List AV)(o e sz:Nat)(s:St)(q a b c:Nat):L4 r T f l o e sz s (some (.row q a b c))=s:=_root_.id rfl
theorem LA (r T:Nat)(f:Bool)(l:List AV)(o e sz:Nat)(s:St)(q a:Nat)(k:List PV):L4 r T f l o e sz s (some (.olist q a k))=s:=_root_.id rfl
theorem R7 {α:Type}(x y:α)(r:List α):(x::r).set 0 y=y::r:=_root_.id rfl
theorem R6 {α:Type}(x y:α)(r:List α)(n:Nat):(x::r).set (n+1) y=x::r.set n y:=_root_.id rfl
theorem PW (e e':List (Nat×AV))(σ σ':List (Nat×Blk))(n n':Nat):(St.mk e σ n=St.mk e' σ' n')=(e=e'/\σ=σ'/\n=n'):=by rw[St.mk.injEq]
theorem N6 {a b:Nat}(h:a<b):decide (a<b)=true:=decide_eq_true h
theorem N7 {a b:Nat}(h:¬ a<b):decide (a<b)=false:=decide_eq_false h
theorem N8 {a b:Nat}(h:a<=b):decide (a<=b)=true:=decide_eq_true h
theorem aM {α:Type}{l:List α}{m:Nat}{x:α}(h:l[m]? = some x):l.take (m+1)=l.take m++[x]:=by
 obtain⟨h1,h2⟩:=List.getElem?_eq_some_iff.1 h
 rw[List.take_succ_eq_append_getElem h1,h2]
def NK (cells:List AV)(off sz:Nat)(r:List (Nat×Nat×AV))(xc:List AV):Bool->Option (List AV)
 | true=>fZ (cells.take off++xc++cells.drop (off+sz)) r
 | false=>none
theorem KP (cells:List AV)(off sz:Nat)(r:List (Nat×Nat×AV))(xc:List AV):NK cells off sz r xc true=fZ (cells.take off++xc++cells.drop (off+sz)) r:=_root_.id rfl
theorem B2 (cells:List AV):fZ cells []=some cells:=_root_.id rfl
theorem ww (cells:List AV)(off sz:Nat)(x:AV)(r:List (Nat×Nat×AV)):fZ cells ((off,sz,x)::r)=NK cells off sz r x.cells (x.known&&decide (x.cells.length=sz)&&decide (off+sz<=cells.length)):=by
 simp only[fZ]
 by_cases h:x.known=true/\x.cells.length=sz/\off+sz<=cells.length
 ·rw[if_pos h,h.1,decide_eq_true h.2.1,decide_eq_true h.2.2];rfl
 ·rw[if_neg h]
  have:(x.known&&decide (x.cells.length=sz)&&decide (off+sz<=cells.length))=false:=by
   rw[Bool.eq_false_iff]
   intro hh
   simp only[Bool.and_eq_true,decide_eq_true_eq] at hh
   exact h ⟨hh.1.1,hh.1.2,hh.2⟩
  rw[this];rfl
theorem Fe (sz off:Nat)(cs:List AV):Nd sz off cs=if off+sz<=cs.length then some (jg ((cs.drop off).take sz)) else none:=_root_.id rfl
section
variable {P:Program}{G:Nat->List PV}
end
theorem Ce (k:Nat):bF [] k=[]:=_root_.id rfl
theorem wC (b:Blk)(r:List Blk)(k:Nat):bF (b::r) k=(k,b)::bF r (k+1):=_root_.id rfl
theorem wb (sto:List (Nat×Blk))(f:Nat->Option Nat):gY sto f [] []=True:=_root_.id rfl
theorem rt (sto:List (Nat×Blk))(f:Nat->Option Nat)(r:Nat)(rs:List Nat)(b:Blk)(bs:List Blk):gY sto f (r::rs) (b::bs)=(BlkZ (lookB r sto) (b.ren f)/\gY sto f rs bs):=_root_.id rfl
theorem Fj (f:Nat->Option Nat)(i:Nat)(g:Nat->Nat):vG f [] i g=[]:=_root_.id rfl
theorem Au (f:Nat->Option Nat)(b:Blk)(r:List Blk)(i:Nat)(g:Nat->Nat):vG f (b::r) i g=(g i,b.ren f)::vG f r (i+1) g:=_root_.id rfl
theorem AK:iu []=[]:=_root_.id rfl
theorem vM (r:Nat)(q:List Nat):iu (r::q)=(r,.none)::iu q:=_root_.id rfl
theorem NG (next:Nat)(rs:List Nat)(r:Nat):gSo next rs r=some (gIn next rs r):=_root_.id rfl
theorem KA (next i:Nat):gIn next [] i=next+i:=_root_.id rfl
theorem Qx (next r:Nat)(q:List Nat):gIn next (r::q) 0=r:=_root_.id rfl
theorem Qw (next r i:Nat)(q:List Nat):gIn next (r::q) (i+1)=gIn next q i:=_root_.id rfl
theorem D2 (n:Nat):((n:Int)+1).toNat=n+1:=by omega
theorem aG (A:List (Nat×Nat×Nat×Nat)){k:Nat}{v v':AV}{bs':List Blk}{sto':List (Nat×Blk)}{next':Nat}(h:StZ (ey A k [0] ⟨[(0,v')],sto',next'⟩) ⟨[(0,v)],bF bs' 0,bs'.length⟩):Kr k v bs' v' sto' next':=Wk.head h
section
variable {P:Program}{G:Nat->List PV}
theorem Dx (F:St->Prop)(s:St):RT F .norm s=F s:=_root_.id rfl
theorem GP (b:ACode)(Q:AExit->St->Prop)(e:List (Nat×AV))(σ:List (Nat×Blk))(n:Nat):Lm (fun m=>vc P G m b) Q ⟨e,σ,n⟩=vc P G n b Q ⟨e,σ,n⟩:=_root_.id rfl
theorem E6 (e:List (Nat×AV)):E7 [] [] e=e:=_root_.id rfl
theorem Ah (p:Nat)(ps:List Nat)(x:PV)(xs:List PV)(e:List (Nat×AV)):E7 (p::ps) (x::xs) e=E7 ps xs ((p,.pv x)::e):=_root_.id rfl
def Q6 {ι:Type}(A:List (Nat×Nat×Nat×Nat))(S:ι->St)(Inv:Nat->ι->Prop)(i m0:Nat)(keep:List Nat)(Q:AExit->St->Prop)(e0:List (Nat×AV)):AExit->St->Prop
 | .norm,s'=>∃ x',Hd A m0 keep ⟨e0,s'.sto,s'.next⟩ (S x')/\Inv (i+1) x'
 | .exit j,s'=>Q (.exit j) ⟨e0,s'.sto,s'.next⟩
 | .ret,s'=>Q .ret ⟨e0,s'.sto,s'.next⟩
theorem Dv {ι:Type}(A:List (Nat×Nat×Nat×Nat))(S:ι->St)(Inv:Nat->ι->Prop)(i m0:Nat)(keep:List Nat)(Q:AExit->St->Prop)(e0 e:List (Nat×AV))(σ:List (Nat×Blk))(n:Nat):Q6 A S Inv i m0 keep Q e0 .norm ⟨e,σ,n⟩ = ∃ x',Hd A m0 keep ⟨e0,σ,n⟩ (S x')/\Inv (i+1) x':=_root_.id rfl
theorem G6 {ι:Type}(A:List (Nat×Nat×Nat×Nat))(S:ι->St)(Inv:Nat->ι->Prop)(i m0:Nat)(keep:List Nat)(Q:AExit->St->Prop)(e0 e:List (Nat×AV))(σ:List (Nat×Blk))(n:Nat):Q6 A S Inv i m0 keep Q e0 .ret ⟨e,σ,n⟩=Q .ret ⟨e0,σ,n⟩:=_root_.id rfl
theorem NE:∀ (lb:List PV),pvs (lb.map AV.pv)=some lb
 | []=>rfl
 | p::r=>by simp[pvs,AV.toPV,NE r]
theorem sd {ι:Type}(A:List (Nat×Nat×Nat×Nat))(ch:ι->List (Nat×AV))(chB:ι->List (Nat×Blk))(Inv:Nat->ι->Prop)(x0:ι){gf:Nat}{lb:List PV}{xs:List (List PV)}(hs:L6 P G gf lb xs)
  {m0:Nat} {f:AX} {ps keep:List Nat} {a b:ACode} {Q:AExit->St->Prop} {s:St}
  (h:∀ e0 σ0 n0,ey A m0 keep s=⟨e0,σ0,n0⟩->StZ ⟨e0,σ0,n0⟩ ⟨fV e0 (ch x0),ip σ0 (chB x0),n0⟩/\Inv 0 x0/\da (f.ev (fun i=>look i (fV e0 (ch x0))))=some (gf,[],lb.map AV.pv) /\
   (∀ i x y,xs[i]? = some y->Inv i x->y.length=ps.length/\vc P G n0 a (RT (Lm (fun m=>vc P G m b) (Q6 A (fun x=>⟨fV e0 (ch x),ip σ0 (chB x),n0⟩) Inv i m0 keep Q (fV e0 (ch x))))) ⟨E7 ps y (fV e0 (ch x)),ip σ0 (chB x),n0⟩) /\
   ∀ x,Inv xs.length x->Q .norm ⟨fV e0 (ch x),ip σ0 (chB x),n0⟩):vc P G m0 (.range f ps keep a b) Q s:=by
 obtain⟨h1,h2,h3,h4,h5⟩:=h (ey A m0 keep s).env (ey A m0 keep s).sto (ey A m0 keep s).next rfl
 let S:ι->St:=fun x=>⟨fV (ey A m0 keep s).env (ch x),ip (ey A m0 keep s).sto (chB x),(ey A m0 keep s).next⟩
 refine⟨fun i t=>∃ x,t=S x/\Inv i x,S x0,aZ h1,⟨x0,rfl,h2⟩,?_⟩
 have e:da (f.ev (S x0).E)=some (gf,[],lb.map AV.pv):=h3
 rw[e]
 refine⟨rfl,lb,xs,NE lb,hs,?_,?_⟩
 ·rintro i y t hy ⟨x,rfl,hx⟩
  obtain⟨k1,k2⟩:=h4 i x y hy hx
  refine⟨k1,ct a (fun e s hs=>?_) _ k2⟩
  cases e with
  | norm=>
    refine ct b (fun e s hs=>?_) s hs
    cases e with
    | norm=>
      obtain⟨x',q1,q2⟩:=hs
      exact⟨S x',q1,x',rfl,q2⟩
    | exit j=>exact hs
    | ret=>exact hs
  | exit j=>exact hs.elim
  | ret=>exact hs.elim
 ·rintro t ⟨x,rfl,hx⟩
  exact h5 x hx
end
attribute [push_cast] mG Iq QD QE QF QG QH QI A5 FL v7 A6 QA QB Gs Gt KT Gv KS Gr IO yI uH uG uF qn uE qm D8 yJ yK ql qk Eb Ec JM D7 D6 yM Ea D9 uD JE JF vg qD JQ JR ox vh qC ve EP zW zU EQ qE qF Cy C9 qw E2 ES EW EU ET E1 EV EX EY EZ E0 Aa z8 zY zZ z7 E3 Ac Ad EM zN zX EL JK AD Sf Se JO Af Ag vq mX IE uz D0 DZ D1 Kg rj rk Ke re Kf rg rh CR xj xg xe px xh am xd CP CN w9 xa CQ rr v8 zR vd Ko Kn ur uq vY OH FI xo A2 FS Bg Be Bd ru Bf A0 vX rn rp Ki JH uX ob Ei jU DR yw GF GG JZ Fx Fz Fy FA GL x7 uu xX xY xW pU Cq wJ oE oF Ft E4 NZ N0 Cp Ej Em El MX MW rm oS oU m6 m7 Iw DN x8 wK rH K0 rq oW oV na m9 Kd FE FD vT Bi wh K1 wI CC wX CD wZ K8 K9 FH Np Fr Dt Du G5 rY rZ xF Is Mv Iu KZ Mt Iv DM It Mu Fo Qq Qr Ez zg He LK Jr M2 M3 M1 wU zf uR E8 NA Bl Bq wl wk rW rX xD Aj vu Ar vC Ak vw As vD qU J3 Nl Ni J4 Nk Nj J5 Fp EN EO map_take map_drop AE vp OO GU Lt nG wE wF rG QX OG C7 sX Ax Aw Fk sV JY Fm Fl vH Fn ou qS vJ lX vI GY OP OJ Km FO Bm NM Gg Gi Gh KF Gm Gj BG BH KD FB AQ AP FC AS AU vQ kj ki qY oO vR GZ Dk Lx Ly Kz tw pC gU JA Jz pk nA P9 M0 AJ vL J6 J8 J7 uS qr vP Bt HB Jv Jt Js M7 Ju zm zj zq EB ol qt zr uT EC zu Fs G0 Dm Dn Dr Ka J9 Fv Fu LB G3 xB Dq G4 LA R7 R6 PW N6 N7 N8 KP B2 ww Fe GR OM Gx Cd Da OI De Eh yR MD Ce wC wb rt Fj Au AK vM NG KA Qx Qw D2 Nat.zero_add Nat.add_zero List.length_cons List.length_nil List.nil_append List.cons_append List.append_nil List.append_assoc List.getElem?_map List.length_map List.map_nil List.map_cons List.take_succ_cons List.take_zero List.drop_succ_cons List.drop_zero List.take_nil List.drop_nil List.all_cons List.all_nil Bool.and_true Bool.true_and Bool.and_false Bool.false_and Bool.not_true Bool.not_false decide_true decide_false Bool.not_not Int.natCast_add Int.cast_ofNat_Int Int.toNat_natCast Option.some.injEq and_true true_and ge_iff_le Nat.le_refl Nat.zero_le Nat.not_lt_zero and_self
attribute [push_cast] Dx GP E6 Ah Dv G6
attribute [push_cast high] Int.cast_ofNat_Int
section
variable {P:Program}{G:Nat->List PV}
theorem Oi {b:Bool}(h:b=true):Chk b:=h
theorem oz:∀ l:List PV,pvs (l.map .pv)=some l
 | []=>rfl
 | x::r=>by simp[pvs,AV.toPV,oz r]
end
section
variable {α β:Type}
def xz (p:Nat->Bool):Nat->Bool
 | 0=>true
 | n+1=>xz p n&&p n
theorem dw {p:Nat->Bool}:∀ {n:Nat},xz p n=true↔∀ k,k<n->p k=true
 | 0=>by simp[xz]
 | n+1=>by
   rw[xz,Bool.and_eq_true,dw]
   constructor
   ·rintro⟨h1,h2⟩ k hk
    rcases Nat.lt_succ_iff_lt_or_eq.1 hk with h | h
    ·exact h1 k h
    ·rw[h];exact h2
   ·exact fun h=>⟨fun k hk=>h k (by omega),h n (by omega)⟩
theorem cu {l:List α}{m:Nat}{x:α}(h:l[m]? = some x):l.drop m=x::l.drop (m+1):=by
 obtain⟨h1,h2⟩:=List.getElem?_eq_some_iff.1 h
 rw[List.drop_eq_getElem_cons h1,h2]
theorem Gy {l:List α}{m:Nat}(h:¬ m<l.length):l.drop m=[]:=List.drop_eq_nil_of_le (by omega)
theorem su {l:List α}{m:Nat}(h:¬ m<l.length):l.take m=l:=List.take_of_length_le (by omega)
def eC (p:α->Bool):List α->Nat->Int
 | [],_=>-1
 | x::r,m=>if p x=true then (m:Int) else eC p r (m+1)
theorem eA {l:List α}{m:Nat}{x:α}{p:α->Bool}(h:l[m]? = some x)(hp:p x=true):eC p (l.drop m) m=m:=by
 rw[cu h,eC,if_pos hp]
theorem cK {l:List α}{m:Nat}{x:α}{p:α->Bool}(h:l[m]? = some x)(hp:p x=false):eC p (l.drop m) m=eC p (l.drop (m+1)) (m+1):=by
 rw[cu h,eC,if_neg (by rw[hp];simp)]
theorem eB {l:List α}{m:Nat}{p:α->Bool}(h:¬ m<l.length):eC p (l.drop m) m = -1:=by rw[Gy h];rfl
theorem bL {p:α->Bool}:∀ (l:List α) (m:Nat),(l.find? p=none/\eC p l m = -1)\/∃ (k:Nat) (x:α),l[k]? = some x/\l.find? p=some x/\eC p l m=((m+k:Nat):Int)
 | [],m=>.inl ⟨rfl,rfl⟩
 | x::r,m=>by
   cases hx:p x with
   | true=>exact .inr ⟨0,x,rfl,by rw[List.find?_cons,hx],by rw[eC,if_pos hx];rfl⟩
   | false=>
     rw[List.find?_cons,hx,eC,if_neg (by rw[hx];simp)]
     rcases bL r (m+1) with ⟨h1,h2⟩ | ⟨k,y,h1,h2,h3⟩
     ·exact .inl ⟨h1,h2⟩
     ·exact .inr ⟨k+1,y,by simpa using h1,h2,by rw[h3];congr 1;omega⟩
theorem dr {p:α->Bool}(l:List α):(l.find? p).isSome=l.any p:=by
 induction l with
 | nil=>rfl
 | cons x r ih=>rw[List.find?_cons,List.any_cons];cases p x<;>simp[ih]
def RU:Option (List UInt8)->Option AV
 | some l=>some (.pv (.str l))
 | none=>none
def H8 (n:Int):Option (List UInt8)->Option (List UInt8)
 | some l=>some (UInt8.ofNat n.toNat::l)
 | none=>none
theorem AA (l:List UInt8):RU (some l)=some (.pv (.str l)):=_root_.id rfl
theorem kX (n:Int)(l:List UInt8):H8 n (some l)=some (UInt8.ofNat n.toNat::l):=_root_.id rfl
theorem IB:u8s []=some []:=_root_.id rfl
theorem sl (n:Int)(r:List PV):u8s (.int .u8 n::r)=H8 n (u8s r):=by
 simp only[u8s];cases u8s r<;>rfl
theorem gj:∀ l:List UInt8,u8s (l.map fun b=>PV.int .u8 (b.toNat:Int))=some l
 | []=>rfl
 | b::r=>by rw[List.map_cons,sl,gj r,kX];simp
theorem DY (σ:aw)(r:Nat)(l:List PV):gx σ (.olist r 1 l)=RU (u8s l):=by
 simp only[gx,bx,if_true];cases u8s l<;>rfl
end
theorem vW (G:Nat->List PV)(e:List (Nat×AV))(σ:List (Nat×Blk))(new:Nat)(x:AX):m8 G e σ new (.toStr x)=g8 [] (gx (fun r=>lookB r σ) (evE e x)):=by
 simp only[m8];cases gx (fun r=>lookB r σ) (evE e x)<;>rfl
theorem eX {a b:Int}(h:0<=a):a.tdiv b=a / b:=Int.tdiv_eq_ediv_of_nonneg h
theorem eV {a b:Int}(h:0<=a):a.tmod b=a % b:=Int.tmod_eq_emod_of_nonneg h
def GN:Option UInt8->Option AV
 | some b=>some (.pv (.int .u8 (b.toNat:Int)))
 | none=>none
theorem aS (b:UInt8):GN (some b)=some (.pv (.int .u8 (b.toNat:Int))):=_root_.id rfl
theorem ij (l:List UInt8)(k:IntKind)(i:Nat):gA (.pv (.str l)) (.pv (.int k (i:Int)))=GN l[i]?:=by
 simp only[gA,Int.toNat_natCast]
 rw[if_pos (by omega)]
 cases l[i]? <;> rfl
theorem qz (l:List UInt8)(k:IntKind):gA (.pv (.str l)) (.pv (.int k 0))=GN l[0]?:=ij l k 0
theorem qA (l:List UInt8)(k:IntKind)(i:Nat):gA (.pv (.str l)) (.pv (.int k ((i:Int)+1)))=GN l[i+1]?:=ij l k (i+1)
attribute [push_cast] aS ij qz qA vW eX eV AA kX IB sl gj DY
open Go.Sort
theorem cH {P:Program}{G:Nat->List PV}{f:Nat}{args:List PV}{r:PV}(hc:bN P f=true)
  (h:∀ (w:World) (imm:Nat->Nat->Prop) (vals:Array Value),bX G w imm->vals.size=args.length->(∀ (i:Nat) (x:PV),args[i]? = some x->PRel w imm x (vals.getD i Go.undef)) ->
   Calls P f vals w fun e w'=>∃ u,e = .returned u/\Below w.heap.size w w'/\PRel w' imm r u):ag P G f args r:=by
 refine⟨hc,fun w imm vals hG hlt hsz hargs=>(h w imm vals hG hsz hargs).mono ?_⟩
 rintro e w' ⟨u,rfl,hb,hr⟩
 exact⟨u,imm,rfl,hb,fun _ _ h=>h,fun _ _ h=>.inl h,fun b o h=>Nat.lt_of_lt_of_le (hlt b o h) hb.size,hr⟩
theorem jO {w:World}{imm:Nat->Nat->Prop}{l:List UInt8}(h:l.length<=maxLen):PRel w imm (.str l) (.string ⟨l.toArray⟩):=by
 have:=PRel.str (w:=w) (imm:=imm) ⟨l.toArray⟩ (by show l.toArray.size<=maxLen;simpa using h)
 simpa using this
theorem jN {w:World}{imm:Nat->Nat->Prop}{l:List UInt8}{v:Value}(h:PRel w imm (.str l) v):v = .string ⟨l.toArray⟩/\l.length<=maxLen:=by
 cases h with
 | str s hs=>exact⟨by simp,hs⟩
theorem ya {vals:Array Value}(h:vals.size=1):vals = #[vals.getD 0 Go.undef]:=by
 apply Array.ext
 ·simp[h]
 ·intro i h1 h2
  have:i=0:=by omega
  subst this
  simp[Array.getD_eq_getD_getElem?,h]
theorem x9 {vals:Array Value}(h:vals.size=2):vals = #[vals.getD 0 Go.undef,vals.getD 1 Go.undef]:=by
 apply Array.ext
 ·simp[h]
 ·intro i h1 h2
  have:i=0\/i=1:=by omega
  rcases this with rfl | rfl<;>simp[Array.getD_eq_getD_getElem?,h]
def bl:Nat->Nat->List UInt8
 | 0,_=>[]
 | n+1,k=>if k<10 then [UInt8.ofNat (48+k)] else bl n (k / 10)++[UInt8.ofNat (48+k % 10)]
def fX (n:Int):List UInt8:=if n<0 then 45::bl 20 n.natAbs else bl 20 n.toNat
theorem kT:∀ (f k:Nat),k<10 ^ f->0<f->bl f k=Lib.decDigits k
 | 0,k,_,h=>absurd h (by simp)
 | f+1,k,hk,_=>by
   rw[bl,Lib.decDigits]
   by_cases h:k<10
   ·simp[h]
   ·rw[if_neg h,dif_neg h]
    have h10:k / 10<10 ^ f:=by
     rw[Nat.pow_succ] at hk
     exact Nat.div_lt_of_lt_mul (by rw[Nat.mul_comm];exact hk)
    rw[kT f (k / 10) h10 (by
     rcases Nat.eq_zero_or_pos f with h0 | h0
     ·subst h0
      simp at hk
      omega
     ·exact h0)]
theorem iH:∀ (f k:Nat),(bl f k).length<=f
 | 0,k=>by simp[bl]
 | f+1,k=>by
   rw[bl]
   split
   ·simp
   ·have:=iH f (k / 10)
    simp;omega
theorem tp {n:Int}(h0:-9223372036854775808<=n)(h1:n<=9223372036854775807):fX n=Lib.itoa n:=by
 have e:(10:Nat) ^ 20=100000000000000000000:=by decide
 unfold fX Lib.itoa
 split
 ·rw[kT 20 n.natAbs (by rw[e];omega) (by decide)]
 ·rw[kT 20 n.toNat (by rw[e];omega) (by decide)]
theorem o8 (n:Int):(fX n).length<=21:=by
 unfold fX
 split
 ·have:=iH 20 n.natAbs
  simp;omega
 ·have:=iH 20 n.toNat
  omega
theorem D5 {P:Program}{G:Nat->List PV}{w:World}{imm:Nat->Nat->Prop}{name:String}{k:IntKind}{zs:List Int}{g:Nat}(hn:P.globalNamed name=some g)(hG:G g=zs.map (PV.int k))(hz:zs≠[])(h:bX G w imm) :
  Lib.TabIs P w name k zs:=by
 obtain⟨cs,T,fz,h1,h2⟩:=h.2 g (by rw[hG];simpa using hz)
 have hcs:cs=(zs.map fun z=>Value.int k z).toArray:=by
  rw[hG] at h2
  simp only[List.length_map] at h2
  apply Array.ext
  ·simp[h2]
  ·intro i hi hi'
   have hiz:i<zs.length:=by omega
   obtain⟨_,v,h3,_,h4⟩:=h.1 g i (.int k zs[i]) (by rw[hG];simp[hiz])
   have hv:v = .int k zs[i]:=by cases h4;rfl
   have hc:=cell_of_row w g i cs T fz h1
   rw[h3,hv] at hc
   have:=(Array.getElem?_eq_some_iff.1 hc.symm).2
   simp[this]
 unfold Lib.TabIs World.var?
 rw[hn]
 simp only[Option.bind_some,h1]
 rw[hcs]
theorem Bj {P:Program}{G:Nat->List PV}{f g:Nat}{name:String}(hc:bN P f=true)(hn:P.globalNamed name=some g)(hG:G g=Lib.pow10Tab.map (PV.int .u64))
  (h:∀ (n:Int) (h0:-9223372036854775808<=n) (h1:n<=9223372036854775807) (w:World) (htab:Lib.TabIs P w name .u64 Lib.pow10Tab),
   Calls P f #[.int .i64 n] w fun e w'=>e = .returned (.string ⟨(Lib.itoa n).toArray⟩)/\∃ k os,w'=Sort.grow (w.drewN k) os)
  (n:Int) (h0:-9223372036854775808<=n) (h1:n<=9223372036854775807):ag P G f [.int .i64 n] (.str (fX n)):=by
 refine cH hc fun w imm vals hGl hsz hargs=>?_
 have hv:=ya hsz
 have h2:=hargs 0 (.int .i64 n) rfl
 have h3:vals.getD 0 Go.undef = .int .i64 n:=by
  generalize vals.getD 0 Go.undef=x at h2
  cases h2;rfl
 rw[hv,h3]
 refine (h n h0 h1 w (D5 hn hG (by
  intro e
  have:=congrArg List.length e
  rw[Lib.pow10Tab_length] at this
  simp at this) hGl)).mono ?_
 rintro e w' ⟨rfl,k,os,rfl⟩
 refine⟨_,rfl,Lib.below_grow _ w (Nat.le_refl _) k os,?_⟩
 rw[tp h0 h1,<- tp h0 h1]
 refine jO ?_
 have:=o8 n
 unfold maxLen;omega
theorem pr {P:Program}{G:Nat->List PV}{f:Nat}(hc:bN P f=true)
  (h:∀ (a b:ByteArray) (w:World),Calls P f #[.string a,.string b] w fun e w'=>e = .returned (.int .i64 (Lib.compareBytes a.data.toList b.data.toList))/\w'=w) (a b:List UInt8) :
  ag P G f [.str a,.str b] (.int .i64 (Lib.compareBytes a b)):=by
 refine cH hc fun w imm vals hGl hsz hargs=>?_
 have hv:=x9 hsz
 obtain⟨ha,_⟩:=jN (hargs 0 (.str a) rfl)
 obtain⟨hb,_⟩:=jN (hargs 1 (.str b) rfl)
 rw[hv,ha,hb]
 refine (h _ _ w).mono ?_
 rintro e w' ⟨rfl,rfl⟩
 refine⟨_,rfl,Below.refl _ _,?_⟩
 simpa using PRel.int (w:=w') (imm:=imm) .i64 (Lib.compareBytes a b)
def decP (l:List UInt8):Nat×Nat:=
 if l=[] then (0,0) else if Lib.decodeL l=(65533,1) then (0,0) else Lib.decodeL l
def byN (l:List UInt8)(i:Nat):Nat:=(l.getD i 0).toNat
section
variable {P:Program}{G:Nat->List PV}
end
section
variable (e:List (Nat×AV))(σ:List (Nat×Blk))(new:Nat)
theorem Ns (G:Nat->List PV)(o:XOp):m8 G e σ new (.xop o)=lC e σ new o:=_root_.id rfl
theorem FJ (o:XOp):gF e (.xop o)=r5 e o:=_root_.id rfl
end
attribute [push_cast] Ns FJ
end Go.Ab

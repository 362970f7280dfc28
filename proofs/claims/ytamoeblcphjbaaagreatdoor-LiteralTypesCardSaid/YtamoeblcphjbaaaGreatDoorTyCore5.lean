/- A program logic over the model: part 5 (a proof is built on it; nothing of the statement is said here). -/
import Derived.Lib.Join
import Derived.Lib.ItoaNum
import Derived.Lib.LaidTab
import Derived.Lib.AppendIntMem
import Derived.Lib.Strings
import Derived.Lib.Bytealg
import Derived.Lib.ValidLaws
import Derived.Test.YtamoeblcphjbaaaGreatDoorTyCore4
set_option linter.unusedVariables false
set_option linter.unusedSimpArgs false
open Nat renaming le_refl->WX,lt_succ_self->XN,zero_le->Xr,zero_add->W4
open Option.some renaming injEq->WJ
open Prod.mk renaming injEq->WR
open Array renaming replicate->XF,getD_eq_getD_getElem?->WM
open List renaming getElem?_eq_some_iff->WH,length_cons->WG,getElem?_cons_zero->Xb,getElem?_eq_getElem->WE,cons_append->WQ,getD_eq_getElem?_getD->WN,mem_of_getElem?->WK,all_eq_true->W8,append_assoc->WS,mem_map->Xo,length_map->XC,map_cons->WP,flatMap_cons->Xf,take_of_length_le->Xm,append_nil->W7,getElem?_map->WW
open Bool renaming and_eq_true->WT
open UInt8 renaming ofNat->Xn
namespace Go.Ab
open Go Go.RowKit
abbrev fa:=Nat->List AV->List (Nat×Blk)->Nat->Option (AV×List (Nat×Blk)×Nat)
def Bg (call:fa)(G:Nat->List PV)(s:St)(d:Option Nat):AOp->Option St
 | .t o=>match o.run s.E with
   | some v=>some (s.put d v)
   | none=>none
 | .m o=>match o.run G s.next s.E s.σ with
   | some p=>some ((s.mem p.2).put d p.1)
   | none=>none
 | .call f xs=>match ed (f.ev s.E) with
   | some p=>match call p.1 (p.2.1++xs.map (·.ev s.E)++p.2.2) s.sto s.next with
     | some r=>some ((⟨s.env,r.2.1,r.2.2⟩:St).put d r.1)
     | none=>none
   | none=>none
 | .fz g x=>match OF G s.σ g (x.ev s.E) with
   | some p=>some ((s.mem p.2).put d p.1)
   | none=>none
def mY (call:fa)(G:Nat->List PV):List AOper->St->Option St
 | [],s=>some s
 | o::r,s=>match cH s o.guard with
   | some true=>match Bg call G s o.dst o.op with
     | some s'=>mY call G r s'
     | none=>none
   | some false=>mY call G r (s.put o.dst (.pv .undef))
   | none=>none
def zy (call:fa)(f:Nat)(ps:List PV):Option PV:=
 match call f (ps.map .pv) [] 0 with
 | some r=>r.1.toPV
 | none=>none
def uR (call:fa)(s:St)(d:Option Nat)(f:Nat)(args:List AV):Option (St×List Nat×List Nat):=
 match pvs args with
 | some ps=>match zy call f ps with
   | some r=>some (s.put d (.pv r),[],[])
   | none=>none
 | none=>match call f args s.sto s.next with
   | some r=>some ((⟨s.env,r.2.1,r.2.2⟩:St).put d r.1,gj 2 (bm (r.2.1.take (r.2.1.length - s.sto.length)).reverse) (s.sto.map (·.1)))
   | none=>none
def nI (call:fa)(G:Nat->List PV)(s:St)(d:Option Nat):AOp->Option (St×List Nat×List Nat)
 | .t o=>match o.run s.E with
   | some v=>some (s.put d v,[],[])
   | none=>none
 | .m o=>match o.run G s.next s.E s.σ with
   | some p=>some ((s.mem p.2).put d p.1,gj (dE o) (bm p.2) (o.reads s.E))
   | none=>none
 | .call f xs=>match ed (f.ev s.E) with
   | some p=>uR call s d p.1 (p.2.1++xs.map (·.ev s.E)++p.2.2)
   | none=>none
 | .fz _ _=>none
def exD (call:fa)(G:Nat->List PV)(A:List (List Nat)):List AOper->List (List Nat×List Nat)->St->Option St
 | [],T,s=>match okB A T with
   | true=>some s
   | false=>none
 | o::r,T,s=>match cH s o.guard with
   | some true=>match nI call G s o.dst o.op with
     | some q=>exD call G A r (T++[q.2]) q.1
     | none=>none
   | some false=>exD call G A r (T++[([],[])]) (s.put o.dst (.pv .undef))
   | none=>none
def exC (call:fa)(G:Nat->List PV):Nat->ACode->St->Option (AExit×St)
 | 0,_,_=>none
 | _+1,.skip,s=>some (.norm,s)
 | _+1,.ops l keep,s=>match mY call G l s with
   | some s'=>some (.norm,clip0 keep s')
   | none=>none
 | _+1,.draw A l l2 keep,s=>match exD call G A l [] s with
   | some s1=>match mY call G l2 s1 with
     | some s'=>some (.norm,clip0 keep s')
     | none=>none
   | none=>none
 | n+1,.seq a b,s=>match exC call G n a s with
   | some (.norm,s')=>exC call G n b s'
   | some (.exit i,s')=>some (.exit i,s')
   | some (.ret,s')=>some (.ret,s')
   | none=>none
 | n+1,.cond x a b,s=>match x.ev s.E with
   | .pv (.bool true)=>exC call G n a s
   | .pv (.bool false)=>exC call G n b s
   | _=>none
 | n+1,.block id b,s=>match exC call G n b s with
   | some (.norm,s')=>some (.norm,s')
   | some (.exit i,s')=>if i=id then some (.norm,s') else some (.exit i,s')
   | some (.ret,s')=>some (.ret,s')
   | none=>none
 | n+1,.loop keep b,s=>match exC call G n b s with
   | some (.norm,s')=>exC call G n (.loop keep b) s'
   | some (.exit i,s')=>some (.exit i,s')
   | some (.ret,s')=>some (.ret,s')
   | none=>none
 | _+1,.range _ _ _ _ _,_=>none
 | _+1,.exit id,s=>some (.exit id,s)
 | _+1,.ret,s=>some (.ret,s)
structure TabRow where
 f:Nat
 muts:List Nat
 fn:AFn
def I5 (f:Nat):List TabRow->Option AFn
 | []=>none
 | r::q=>if r.f=f then some r.fn else I5 f q
def zD (G:Nat->List PV)(fn:AFn)(s:St):Option (AV×List (Nat×Blk)×Nat):=
 match gl G s fn.res with
 | some l=>some (Bc l,s.sto,s.next)
 | none=>none
def exF (tab:List TabRow)(O:Nat->List PV->Option PV)(G:Nat->List PV)(m:Nat):Nat->fa
 | 0,_,_,_,_=>none
 | n+1,f,args,sto,next=>match (pvs args).bind (O f) with
   | some r=>some (.pv r,sto,next)
   | none=>match I5 f tab with
     | some fn=>if args.length<=fn.N then match exC (exF tab O G m n) G m fn.body ⟨d8 args,sto,next⟩ with
       | some (.norm,s)=>zD G fn s
       | some (.ret,s)=>zD G fn s
       | _=>none
       else none
     | none=>none
section
variable {P:Program}{G:Nat->List PV}
def ce (sto:List (Nat×Blk))(next:Nat)(sto':List (Nat×Blk))(next':Nat):Prop:=(∃ pre,sto'=pre++sto)/\next<=next'
theorem ce.refl (sto:List (Nat×Blk))(next:Nat):ce sto next sto next:=⟨⟨[],rfl⟩,WX _⟩
theorem ce.trans {a b c:List (Nat×Blk)}{i j k:Nat}(h:ce a i b j)(g:ce b j c k):ce a i c k:=by
 obtain⟨⟨p,rfl⟩,h2⟩:=h
 obtain⟨⟨q,rfl⟩,g2⟩:=g
 exact⟨⟨q++p,by simp⟩,Nat.le_trans h2 g2⟩
theorem oZ:∀ (δ l:List (Nat×Blk)),nw l δ=δ.reverse++l
 | [],l=>rfl
 | p::r,l=>by rw[nw,oZ r];simp
theorem ce.put {s:St}{sto':List (Nat×Blk)}{n:Nat}{e:List (Nat×AV)}(h:ce s.sto s.next sto' n)(d:Option Nat)(v:AV):ce s.sto s.next ((⟨e,sto',n⟩:St).put d v).sto ((⟨e,sto',n⟩:St).put d v).next:=by
 cases d<;>exact h
theorem ce.mem (s:St)(δ:List (Nat×Blk))(d:Option Nat)(v:AV):ce s.sto s.next ((s.mem δ).put d v).sto ((s.mem δ).put d v).next:=by
 have:ce s.sto s.next (nw s.sto δ) (s.next+1):=⟨⟨δ.reverse,oZ δ s.sto⟩,Nat.le_succ _⟩
 cases d<;>exact this
theorem ce.put0 (s:St)(d:Option Nat)(v:AV):ce s.sto s.next (s.put d v).sto (s.put d v).next:=by
 cases d<;>exact ce.refl _ _
def gN (P:Program)(G:Nat->List PV)(call:fa):Prop:=
 ∀ f args sto next v sto' next',call f args sto next=some (v,sto',next')->ce sto next sto' next'/\(
   (∃ ps r,pvs args=some ps/\am P G f ps r/\v = .pv r/\sto'=sto/\next'=next)\/da P G f args sto next (fun v' s' n'=>v'=v/\s'=sto'/\n'=next'))
theorem da.mono {f:Nat}{args:List AV}{sto:List (Nat×Blk)}{next:Nat}{Q Q':AV->List (Nat×Blk)->Nat->Prop}(h:da P G f args sto next Q)(hq:∀ v s n,Q v s n->Q' v s n):da P G f args sto next Q':=by
 obtain⟨h1,h2⟩:=h
 refine⟨h1,fun κ vals a1 a2 a3 a4=>(h2 κ vals a1 a2 a3 a4).mono ?_⟩
 rintro e w' ⟨u,v,κ',sto',next',b1,b2,b3,b4,b5,b6,b7,b8⟩
 exact⟨u,v,κ',sto',next',b1,b2,b3,b4,b5,b6,b7,hq _ _ _ b8⟩
theorem wu {call:fa}(hc:gN P G call){f:Nat}{ps:List PV}{r:PV}(h:zy call f ps=some r):am P G f ps r:=by
 unfold zy at h
 split at h
 ·rename_i q hq
  obtain⟨v,sto',next'⟩:=q
  rcases (hc f _ _ _ v sto' next' hq).2 with ⟨ps',r',h1,h2,rfl,_,_⟩ | ht
  ·rw[tR] at h1
   cases h1
   simp only[AV.toPV,WJ] at h
   subst h;exact h2
  ·exact am.of_tcalls (ht.mono (by rintro v' _ _ ⟨rfl,_,_⟩;exact RF h))
 ·cases h
theorem OG {call:fa}(hc:gN P G call){s s':St}{d:Option Nat}{o:AOp}{F:St->Prop}(h:Bg call G s d o=some s')(hF:F s'):nA P G F s d o:=by
 cases o with
 | t o=>
   simp only[Bg] at h
   split at h
   ·rename_i v hv
    cases h
    simp only[nA,hv,jY];exact hF
   ·cases h
 | m o=>
   simp only[Bg] at h
   split at h
   ·rename_i v hv
    cases h
    simp only[nA,hv,aV];exact hF
   ·cases h
 | fz g x=>
   simp only[Bg] at h
   split at h
   ·rename_i v hv
    cases h
    simp only[nA,hv,aV];exact hF
   ·cases h
 | call f xs=>
   simp only[Bg] at h
   split at h
   ·rename_i p hp
    split at h
    ·rename_i r hr
     cases h
     obtain⟨v,sto',next'⟩:=r
     simp only[nA,hp,aV,FQ]
     rcases (hc _ _ _ _ v sto' next' hr).2 with ⟨ps,r,h1,h2,rfl,rfl,rfl⟩ | ht
     ·exact ae.pure h2 h1 hF
     ·exact ae.lent ht (by rintro v' s' n' ⟨rfl,rfl,rfl⟩;exact hF)
    ·cases h
   ·cases h
theorem lq {call:fa}(hc:gN P G call){F:St->Prop}:∀ (l:List AOper) (s s':St),mY call G l s=some s'->F s'->ef P G l F s
 | [],s,s',h,hF=>by simp only[mY,WJ] at h;subst h;exact hF
 | o::r,s,s',h,hF=>by
   simp only[mY] at h
   simp only[ef]
   split at h
   ·rename_i hw
    rw[hw]
    split at h
    ·rename_i s1 h1
     exact OG hc h1 (lq hc r s1 s' h hF)
    ·cases h
   ·rename_i hw
    rw[hw]
    exact lq hc r _ s' h hF
   ·cases h
theorem oH {call:fa}(hc:gN P G call){A:List (List Nat)}{F:St->Prop}:∀ (l:List AOper) (T:List (List Nat×List Nat)) (s s':St),exD call G A l T s=some s'->F s'->vcD P G A F l T s
 | [],T,s,s',h,hF=>by
   simp only[exD] at h
   split at h
   ·rename_i ho
    cases h
    exact⟨ho,hF⟩
   ·cases h
 | o::r,T,s,s',h,hF=>by
   simp only[exD] at h
   simp only[vcD]
   split at h
   ·rename_i hw
    rw[hw]
    simp only[aV,uU]
    split at h
    ·rename_i q h1
     obtain⟨d,op,g⟩:=o
     simp only at h1 ⊢
     cases op with
     | t o=>
       simp only[nI] at h1
       split at h1
       ·rename_i v hv
        cases h1
        simp only[jz,hv,aV,Hy]
        exact oH hc r _ _ s' h hF
       ·cases h1
     | m o=>
       simp only[nI] at h1
       split at h1
       ·rename_i v hv
        cases h1
        simp only[jz,hv,aV,B9]
        exact oH hc r _ _ s' h hF
       ·cases h1
     | fz g x=>simp[nI] at h1
     | call f xs=>
       simp only[nI] at h1
       split at h1
       ·rename_i p hp
        simp only[jz,hp,aV]
        unfold uR at h1
        split at h1
        ·rename_i ps hps
         split at h1
         ·rename_i v hv
          cases h1
          exact .inl ⟨ps,v,hps,wu hc hv,oH hc r _ _ s' h hF⟩
         ·cases h1
        ·rename_i hps
         split at h1
         ·rename_i v hv
          cases h1
          obtain⟨v,sto',next'⟩:=v
          obtain⟨⟨⟨pre,hpre⟩,hle⟩,⟨ps',r',k1,_⟩ | ht⟩:=hc _ _ _ _ v sto' next' hv
          ·rw[hps] at k1;cases k1
          ·have e1:nw s.sto (sto'.take (sto'.length - s.sto.length)).reverse=sto':=by
            rw[oZ,List.reverse_reverse,hpre]
            simp
           refine .inr ⟨v,(sto'.take (sto'.length - s.sto.length)).reverse,next',?_,hle,?_⟩
           ·rw[e1];exact ht
           ·rw[e1];exact oH hc r _ _ s' h hF
         ·cases h1
       ·cases h1
    ·cases h
   ·rename_i hw
    rw[hw]
    exact oH hc r _ _ s' h hF
   ·cases h
theorem Av {call:fa}(hc:gN P G call){s s':St}{d:Option Nat}{o:AOp}(h:Bg call G s d o=some s'):ce s.sto s.next s'.sto s'.next:=by
 cases o with
 | t o=>
   simp only[Bg] at h
   split at h
   ·cases h;exact ce.put0 _ _ _
   ·cases h
 | m o=>
   simp only[Bg] at h
   split at h
   ·cases h;exact ce.mem _ _ _ _
   ·cases h
 | fz g x=>
   simp only[Bg] at h
   split at h
   ·cases h;exact ce.mem _ _ _ _
   ·cases h
 | call f xs=>
   simp only[Bg] at h
   split at h
   ·split at h
    ·rename_i r hr
     cases h
     obtain⟨v,sto',next'⟩:=r
     exact ce.put (hc _ _ _ _ v sto' next' hr).1 _ _
    ·cases h
   ·cases h
theorem fF {call:fa}(hc:gN P G call):∀ (l:List AOper) (s s':St),mY call G l s=some s'->ce s.sto s.next s'.sto s'.next
 | [],s,s',h=>by simp only[mY,WJ] at h;subst h;exact ce.refl _ _
 | o::r,s,s',h=>by
   simp only[mY] at h
   split at h
   ·split at h
    ·rename_i s1 h1
     exact (Av hc h1).trans (fF hc r s1 s' h)
    ·cases h
   ·exact (ce.put0 s _ _).trans (fF hc r _ s' h)
   ·cases h
theorem uQ {call:fa}(hc:gN P G call){s:St}{d:Option Nat}{o:AOp}{q:St×List Nat×List Nat}(h:nI call G s d o=some q):ce s.sto s.next q.1.sto q.1.next:=by
 cases o with
 | t o=>
   simp only[nI] at h
   split at h
   ·cases h;exact ce.put0 _ _ _
   ·cases h
 | m o=>
   simp only[nI] at h
   split at h
   ·cases h;exact ce.mem _ _ _ _
   ·cases h
 | fz g x=>simp[nI] at h
 | call f xs=>
   simp only[nI] at h
   split at h
   ·unfold uR at h
    split at h
    ·split at h
     ·cases h;exact ce.put0 _ _ _
     ·cases h
    ·split at h
     ·rename_i r hr
      cases h
      obtain⟨v,sto',next'⟩:=r
      exact ce.put (hc _ _ _ _ v sto' next' hr).1 _ _
     ·cases h
   ·cases h
theorem mZ {call:fa}(hc:gN P G call){A:List (List Nat)}:∀ (l:List AOper) (T:List (List Nat×List Nat)) (s s':St),exD call G A l T s=some s'->ce s.sto s.next s'.sto s'.next
 | [],T,s,s',h=>by
   simp only[exD] at h
   split at h
   ·cases h;exact ce.refl _ _
   ·cases h
 | o::r,T,s,s',h=>by
   simp only[exD] at h
   split at h
   ·split at h
    ·rename_i q h1
     exact (uQ hc h1).trans (mZ hc r _ _ s' h)
    ·cases h
   ·exact (ce.put0 s _ _).trans (mZ hc r _ _ s' h)
   ·cases h
theorem sm {call:fa}(hc:gN P G call):∀ (n:Nat) (ac:ACode) (s:St) (e:AExit) (s':St),exC call G n ac s=some (e,s')->ce s.sto s.next s'.sto s'.next
 | 0,_,_,_,_,h=>by simp[exC] at h
 | n+1,ac,s,e,s',h=>by
   have ih:=sm hc n
   cases ac with
   | skip=>simp only[exC,WJ,WR] at h;obtain⟨_,rfl⟩:=h;exact ce.refl _ _
   | exit i=>simp only[exC,WJ,WR] at h;obtain⟨_,rfl⟩:=h;exact ce.refl _ _
   | ret=>simp only[exC,WJ,WR] at h;obtain⟨_,rfl⟩:=h;exact ce.refl _ _
   | ops l k=>
     simp only[exC] at h
     split at h
     ·rename_i s1 h1;cases h;exact fF hc l s s1 h1
     ·cases h
   | draw A l l2 k=>
     simp only[exC] at h
     split at h
     ·rename_i s1 h1
      split at h
      ·rename_i s2 h2;cases h;exact (mZ hc l [] s s1 h1).trans (fF hc l2 s1 s2 h2)
      ·cases h
     ·cases h
   | seq a b=>
     simp only[exC] at h
     split at h
     ·rename_i s1 h1;exact (ih _ _ _ _ h1).trans (ih _ _ _ _ h)
     ·rename_i i s1 h1;cases h;exact ih _ _ _ _ h1
     ·rename_i s1 h1;cases h;exact ih _ _ _ _ h1
     ·cases h
   | cond x a b=>
     simp only[exC] at h
     split at h
     ·exact ih _ _ _ _ h
     ·exact ih _ _ _ _ h
     ·cases h
   | block id b=>
     simp only[exC] at h
     split at h
     ·rename_i s1 h1;cases h;exact ih _ _ _ _ h1
     ·rename_i i s1 h1
      split at h
      ·cases h;exact ih _ _ _ _ h1
      ·cases h;exact ih _ _ _ _ h1
     ·rename_i s1 h1;cases h;exact ih _ _ _ _ h1
     ·cases h
   | loop k b=>
     simp only[exC] at h
     split at h
     ·rename_i s1 h1;exact (ih _ _ _ _ h1).trans (ih _ _ _ _ h)
     ·rename_i i s1 h1;cases h;exact ih _ _ _ _ h1
     ·rename_i s1 h1;cases h;exact ih _ _ _ _ h1
     ·cases h
   | range f ps k a b=>simp only[exC] at h;cases h
def RN (e:AExit)(s':St):AExit->St->Prop:=fun e1 s1=>e1=e/\s1=s'
theorem sI {call:fa}{G:Nat->List PV}{n:Nat}{s:St}{r:AExit×St}(h:exC call G (n+1) (.ops [⟨none,kV,none⟩] []) s=some r):False:=by
 simp[exC,mY,cH,Bg,kV,AX.ev,ed] at h
theorem RO {call:fa}(hc:gN P G call){c:Ctx}{κ0:Kap}{N:Nat}{muts rl:List Nat}(hG:c.G=G):∀ (n:Nat) (co:Code) (ac:ACode) (ex:List (Nat×List Nat)) (out li:List Nat) (s:St) (a:Act) (w:World) (κ:Kap) (e:AExit) (s':St),
  bW P muts N rl co ex out=some (ac,li)->exC call G n ac s=some (e,s')->Rel c κ0 N s a w κ->co.wpIn (FR none) 0 P (lift c κ0 N (RN e s')) a w:=by
 intro n
 induction n using Nat.strongRecOn with
 | _ n ih=>
 intro co ac ex out li s a w κ e s' hcc he hR
 cases n with
 | zero=>simp[exC] at he
 | succ n=>
 cases co with
 | skip=>
   simp only[bW,WJ,WR] at hcc
   obtain⟨rfl,_⟩:=hcc
   simp only[exC,WJ,WR] at he
   obtain⟨rfl,rfl⟩:=he
   exact wpIn_skip ⟨_,κ,hR,rfl,rfl⟩
 | exit id=>
   simp only[bW,WJ,WR] at hcc
   obtain⟨rfl,_⟩:=hcc
   simp only[exC,WJ,WR] at he
   obtain⟨rfl,rfl⟩:=he
   exact wpIn_exit ⟨_,κ,hR,rfl,rfl⟩
 | ret=>
   simp only[bW,WJ,WR] at hcc
   obtain⟨rfl,_⟩:=hcc
   simp only[exC,WJ,WR] at he
   obtain⟨rfl,rfl⟩:=he
   exact wpIn_ret ⟨_,κ,hR,rfl,rfl⟩
 | region id ops d=>
   simp only[bW] at hcc
   split at hcc
   ·rename_i l hl
    cases d with
    | false=>
      simp only[WJ,WR] at hcc
      obtain⟨rfl,_⟩:=hcc
      simp only[exC] at he
      split at he
      ·rename_i s1 h1
       cases he
       exact wpIn_region_list (fh (F:=fun s=>s=s1) (fun s a w κ hR hF=>by subst hF;exact⟨_,κ,hR.clip0 _,rfl,rfl⟩) ops.toList l s a w κ hl hR (by rw[hG];exact lq hc l s s1 h1 rfl))
      ·cases he
    | true=>
      simp only at hcc
      split at hcc
      ·rename_i hok
       simp only[WJ,WR] at hcc
       obtain⟨rfl,_⟩:=hcc
       simp only[exC] at he
       split at he
       ·rename_i s1 h1
        split at he
        ·rename_i s2 h2
         cases he
         exact oK (F:=fun s=>s=s2) hl hok.1 hok.2.1 hok.2.2 hR (by rw[hG];exact oH hc _ _ s s1 h1 (lq hc _ s1 s2 h2 rfl)) (fun s a w κ hR hF=>by subst hF;exact⟨_,κ,hR.clip0 _,rfl,rfl⟩)
        ·cases he
       ·cases he
      ·cases hcc
   ·cases hcc
 | seq x y=>
   simp only[bW] at hcc
   split at hcc
   ·rename_i b' lb hb
    split at hcc
    ·rename_i a' la ha
     simp only[WJ,WR] at hcc
     obtain⟨rfl,_⟩:=hcc
     simp only[exC] at he
     split at he
     ·rename_i s1 h1
      refine wpIn_seq (Go.wpIn_mono (ih n (XN n) x a' _ _ _ s a w κ _ _ ha h1 hR) ?_)
      intro e1 a w hq
      cases e1 with
      | normal=>
        obtain⟨s2,κ,hR,_,rfl⟩:=hq
        exact ih n (XN n) y b' _ _ _ s2 a w κ _ _ hb he hR
      | exit id=>obtain⟨_,_,_,h,_⟩:=hq;cases h
      | ret=>obtain⟨_,_,_,h,_⟩:=hq;cases h
      | goto l=>exact hq.elim
      | panic ch=>exact hq.elim
      | outgrown=>exact hq.elim
     ·rename_i i s1 h1
      cases he
      refine wpIn_seq (Go.wpIn_mono (ih n (XN n) x a' _ _ _ s a w κ _ _ ha h1 hR) ?_)
      intro e1 a w hq
      cases e1 with
      | normal=>obtain⟨_,_,_,h,_⟩:=hq;cases h
      | exit id=>exact hq
      | ret=>exact hq
      | goto l=>exact hq.elim
      | panic ch=>exact hq.elim
      | outgrown=>exact hq.elim
     ·rename_i s1 h1
      cases he
      refine wpIn_seq (Go.wpIn_mono (ih n (XN n) x a' _ _ _ s a w κ _ _ ha h1 hR) ?_)
      intro e1 a w hq
      cases e1 with
      | normal=>obtain⟨_,_,_,h,_⟩:=hq;cases h
      | exit id=>exact hq
      | ret=>exact hq
      | goto l=>exact hq.elim
      | panic ch=>exact hq.elim
      | outgrown=>exact hq.elim
     ·cases he
    ·cases hcc
   ·cases hcc
 | cond x y z=>
   simp only[bW] at hcc
   split at hcc
   ·rename_i ax a' la b' lb hx hy hz
    simp only[WJ,WR] at hcc
    obtain⟨rfl,_⟩:=hcc
    have hrel:=aH (κ:=κ) (E:=s.E) (a:=a) hx (fun i _=>hR.env i)
    simp only[exC] at he
    split at he
    ·rename_i hv
     rw[hv] at hrel
     exact wpIn_cond_true (dP hrel) (ih n (XN n) y a' _ _ _ s a w κ _ _ hy he hR)
    ·rename_i hv
     rw[hv] at hrel
     exact wpIn_cond_false (dP hrel) (ih n (XN n) z b' _ _ _ s a w κ _ _ hz he hR)
    ·cases he
   ·cases hcc
 | block id b=>
   simp only[bW] at hcc
   split at hcc
   ·rename_i b' lb hb
    simp only[WJ,WR] at hcc
    obtain⟨rfl,_⟩:=hcc
    simp only[exC] at he
    have main:∀ e1 s1,exC call G n b' s=some (e1,s1)->((e1 = .norm/\e = .norm/\s'=s1)\/(∃ i,e1 = .exit i/\s'=s1/\e=if i=id then .norm else .exit i)\/(e1 = .ret/\e = .ret/\s'=s1))->(Code.block id b).wpIn (FR none) 0 P (lift c κ0 N (RN e s')) a w:=by
     intro e1 s1 h1 hcase
     refine wpIn_block (Go.wpIn_mono (ih n (XN n) b b' _ _ _ s a w κ _ _ hb h1 hR) ?_)
     intro e2 a w hq
     cases e2 with
     | normal=>
       obtain⟨s2,κ,hR,rfl,rfl⟩:=hq
       rcases hcase with ⟨_,rfl,rfl⟩ | ⟨i,h,_⟩ | ⟨h,_⟩
       ·exact⟨_,κ,hR,rfl,rfl⟩
       ·cases h
       ·cases h
     | ret=>
       obtain⟨s2,κ,hR,rfl,rfl⟩:=hq
       rcases hcase with ⟨h,_⟩ | ⟨i,h,_⟩ | ⟨_,rfl,rfl⟩
       ·cases h
       ·cases h
       ·exact⟨_,κ,hR,rfl,rfl⟩
     | exit i=>
       obtain⟨s2,κ,hR,rfl,rfl⟩:=hq
       rcases hcase with ⟨h,_⟩ | ⟨i',h,rfl,rfl⟩ | ⟨h,_⟩
       ·cases h
       ·cases h
        simp only[Exit.inBlock]
        split
        ·rename_i hid
         exact⟨_,κ,hR,by simp[hid],rfl⟩
        ·rename_i hid
         exact⟨_,κ,hR,by simp[hid],rfl⟩
       ·cases h
     | goto l=>exact hq.elim
     | panic ch=>exact hq.elim
     | outgrown=>exact hq.elim
    split at he
    ·rename_i s1 h1
     cases he
     exact main _ _ h1 (.inl ⟨rfl,rfl,rfl⟩)
    ·rename_i i s1 h1
     split at he
     ·rename_i hid
      cases he
      exact main _ _ h1 (.inr (.inl ⟨i,rfl,rfl,by simp[hid]⟩))
     ·rename_i hid
      cases he
      exact main _ _ h1 (.inr (.inl ⟨i,rfl,rfl,by simp[hid]⟩))
    ·rename_i s1 h1
     cases he
     exact main _ _ h1 (.inr (.inr ⟨rfl,rfl,rfl⟩))
    ·cases he
   ·cases hcc
 | loop b=>
   simp only[bW] at hcc
   split at hcc
   ·rename_i x1 l1 hb1
    split at hcc
    ·rename_i x2 l2 hb2
     split at hcc
     ·rename_i b' l3 hb
      simp only[WJ,WR] at hcc
      obtain⟨rfl,_⟩:=hcc
      refine lG (fun m a w=>∃ s κ,m<=n+1/\Rel c κ0 N s a w κ/\exC call G m (.loop (qM l2) b') s=some (e,s')) ⟨n+1,s,κ,WX _,hR,he⟩ fun m a w hJ=>?_
      obtain⟨s,κ,hm,hR,he⟩:=hJ
      cases m with
      | zero=>simp[exC] at he
      | succ m=>
        simp only[exC] at he
        split at he
        ·rename_i s1 h1
         refine Go.wpIn_mono (ih m (by omega) b b' _ _ _ s a w κ _ _ hb h1 hR) ?_
         intro e1 a w hq
         cases e1 with
         | normal=>
           obtain⟨s2,κ,hR,_,rfl⟩:=hq
           exact⟨m,XN m,_,κ,by omega,hR,he⟩
         | exit id=>obtain⟨_,_,_,h,_⟩:=hq;cases h
         | ret=>obtain⟨_,_,_,h,_⟩:=hq;cases h
         | goto l=>exact hq.elim
         | panic ch=>exact hq.elim
         | outgrown=>exact hq.elim
        ·rename_i i s1 h1
         cases he
         refine Go.wpIn_mono (ih m (by omega) b b' _ _ _ s a w κ _ _ hb h1 hR) ?_
         intro e1 a w hq
         cases e1 with
         | normal=>obtain⟨_,_,_,h,_⟩:=hq;cases h
         | exit id=>exact hq
         | ret=>exact hq
         | goto l=>exact hq.elim
         | panic ch=>exact hq.elim
         | outgrown=>exact hq.elim
        ·rename_i s1 h1
         cases he
         refine Go.wpIn_mono (ih m (by omega) b b' _ _ _ s a w κ _ _ hb h1 hR) ?_
         intro e1 a w hq
         cases e1 with
         | normal=>obtain⟨_,_,_,h,_⟩:=hq;cases h
         | exit id=>exact hq
         | ret=>exact hq
         | goto l=>exact hq.elim
         | panic ch=>exact hq.elim
         | outgrown=>exact hq.elim
        ·cases he
     ·cases hcc
    ·cases hcc
   ·cases hcc
 | rangeFunc f ps x y=>
   simp only[bW] at hcc
   split at hcc
   ·split at hcc
    ·simp only[WJ,WR] at hcc
     obtain⟨rfl,_⟩:=hcc
     simp only[exC] at he
     cases he
    ·cases hcc
   ·simp only[WJ,WR] at hcc;obtain⟨rfl,rfl⟩:=hcc;exact (sI he).elim
 | scope b=>simp only[bW,WJ,WR] at hcc;obtain⟨rfl,rfl⟩:=hcc;exact (sI he).elim
 | label l=>simp only[bW,WJ,WR] at hcc;obtain⟨rfl,rfl⟩:=hcc;exact (sI he).elim
 | goto l=>simp only[bW,WJ,WR] at hcc;obtain⟨rfl,rfl⟩:=hcc;exact (sI he).elim
 | refuse y=>simp only[bW,WJ,WR] at hcc;obtain⟨rfl,rfl⟩:=hcc;exact (sI he).elim
theorem I4 {tab:List TabRow}(ht:∀ r∈tab,cFn P r.muts r.f=some r.fn){f:Nat}{fn:AFn}(h:I5 f tab=some fn):∃ muts,cFn P muts f=some fn:=by
 induction tab with
 | nil=>cases h
 | cons r q ih=>
   simp only[I5] at h
   split at h
   ·rename_i hf
    cases h
    exact⟨r.muts,hf▸ht r (by simp)⟩
   ·exact ih (fun r hr=>ht r (by simp[hr])) h
theorem E3 {tab:List TabRow}{O:Nat->List PV->Option PV}{m:Nat}(ht:∀ r∈tab,cFn P r.muts r.f=some r.fn)(hO:∀ f ps r,O f ps=some r->am P G f ps r):∀ n,gN P G (exF tab O G m n)
 | 0=>by intro f args sto next v sto' next' h;simp[exF] at h
 | n+1=>by
   intro f args sto next v sto' next' h
   simp only[exF] at h
   split at h
   ·rename_i r hr
    cases h
    simp only[Option.bind_eq_some_iff] at hr
    obtain⟨ps,h1,h2⟩:=hr
    refine⟨ce.refl _ _,?_⟩
    exact .inl ⟨ps,r,h1,hO f ps r h2,rfl,rfl,rfl⟩
   ·split at h
    ·rename_i fn hfn
     obtain⟨muts,hcf⟩:=I4 ht hfn
     split at h
     ·rename_i hl
      have grow:∀ (e:AExit) (s:St),exC (exF tab O G m n) G m fn.body ⟨d8 args,sto,next⟩=some (e,s)->zD G fn s=some (v,sto',next')->ce sto next sto' next':=by
       intro e s h1 h2
       have:=sm (E3 ht hO n) m fn.body _ e s h1
       unfold zD at h2
       split at h2
       ·cases h2;exact this
       ·cases h2
      have fin:∀ (e:AExit) (s:St),(e = .norm\/e = .ret)->exC (exF tab O G m n) G m fn.body ⟨d8 args,sto,next⟩=some (e,s)->zD G fn s=some (v,sto',next')->da P G f args sto next (fun v' s' n'=>v'=v/\s'=sto'/\n'=next'):=by
       intro e s he h1 h2
       refine da.of_code hcf hl fun c κ N a w co rl li hG hk hf hb hR=>?_
       refine Go.wpIn_mono (RO (E3 ht hO n) hG m co fn.body _ _ _ _ a w κ e s hb h1 hR) ?_
       have hout:∀ s1,s1=s->aV (gl G s1 fn.res) (K7 (fun v' s' n'=>v'=v/\s'=sto'/\n'=next') s1):=by
        rintro s1 rfl
        unfold zD at h2
        split at h2
        ·rename_i l hl2
         cases h2
         rw[hl2]
         exact⟨rfl,rfl,rfl⟩
        ·cases h2
       intro e1 a w hq
       cases e1 with
       | normal=>
         obtain⟨s1,κ1,hR1,he1,hs1⟩:=hq
         exact⟨s1,κ1,hR1,hout s1 hs1⟩
       | ret=>
         obtain⟨s1,κ1,hR1,he1,hs1⟩:=hq
         exact⟨s1,κ1,hR1,hout s1 hs1⟩
       | exit id=>
         obtain⟨s1,κ1,hR1,he1,hs1⟩:=hq
         rcases he with rfl | rfl<;>cases he1
       | goto l=>exact hq.elim
       | panic ch=>exact hq.elim
       | outgrown=>exact hq.elim
      split at h
      ·rename_i s1 h1;exact⟨grow _ _ h1 h,.inr (fin _ _ (.inl rfl) h1 h)⟩
      ·rename_i s1 h1;exact⟨grow _ _ h1 h,.inr (fin _ _ (.inr rfl) h1 h)⟩
      ·cases h
     ·cases h
    ·cases h
theorem am.of_ex {tab:List TabRow}{O:Nat->List PV->Option PV}{m n:Nat}{f:Nat}{ps:List PV}{r:PV}(ht:∀ r∈tab,cFn P r.muts r.f=some r.fn)(hO:∀ f ps r,O f ps=some r->am P G f ps r)
  (h:zy (exF tab O G m n) f ps=some r):am P G f ps r:=
 wu (E3 ht hO n) h
end
def Kap.cut (κ:Kap)(k:Nat):Kap:=⟨κ.w,fun r=>if r<k then κ.nm r else none,κ.imm⟩
theorem Kap.cut_ext (κ:Kap)(k:Nat):Ext (κ.cut k) κ:=by
 refine⟨fun _ _ h=>h,fun _ _ _ _ h=>h,fun r d h=>?_,fun _ _ h _=>h⟩
 simp only[Kap.cut] at h
 split at h
 ·exact h
 ·cases h
theorem Kap.cut_none (κ:Kap)(k r:Nat)(h:k<=r):(κ.cut k).nm r=none:=by simp only[Kap.cut];rw[if_neg (by omega)]
def sT (P:Program)(G:Nat->List PV)(k:Nat)(f:Nat)(args:List AV)(sto:List (Nat×Blk))(next:Nat)(Q:AV->List (Nat×Blk)->Nat->Prop):Prop:=
 cx P f=true/\∀ (κ:Kap) (vals:Array Value),SRel (cQ κ (fun r=>lookB r sto) G) κ (fun r=>lookB r sto)->(∀ r,next<=r->κ.nm r=none)->vals.size=args.length ->
  (∀ (i:Nat) (x:AV),args[i]? = some x->ARel κ x (vals.getD i Go.undef)) ->
  Calls P f vals κ.w fun e w'=>∃ u v κ' sto' next',e = .returned u/\κ'.w=w'/\Ext (κ.cut k) κ'/\Left (cQ κ (fun r=>lookB r sto) G) κ.imm κ'/\ARel κ' v u /\
   SRel (cQ κ (fun r=>lookB r sto) G) κ' (fun r=>lookB r sto')/\(∀ r,next'<=r->κ'.nm r=none)/\Q v sto' next'
section
variable {P:Program}{G:Nat->List PV}
theorem sT.of_code {muts:List Nat}{k f:Nat}{fn:AFn}{args:List AV}{sto:List (Nat×Blk)}{next:Nat}{R:AV->List (Nat×Blk)->Nat->Prop}(hc:cFn P muts f=some fn)(hn:args.length<=fn.N)
  (hv:vc P G k fn.body (FnK G fn.res R) ⟨d8 args,sto,next⟩):sT P G k f args sto next R:=by
 unfold cFn at hc
 split at hc
 ·rename_i fnc hfn
  split at hc
  ·rename_i co hco
   split at hc
   ·rename_i rs hrs
    split at hc
    ·rename_i hok
     split at hc
     ·rename_i b li hb
      cases hc
      refine⟨hok,fun κ vals hS hf hsz hargs=>?_⟩
      refine callsIn_wide.1 (callsIn_of_wp_marks (n:=0) hfn hco trivial ?_ rfl)
      let c:=cQ κ (fun r=>lookB r sto) G
      have hsize:(vals++XF (fnc.ntmps - vals.size) Go.undef).size=fnc.ntmps:=by
       simp only at hn
       simp only[Array.size_append,Array.size_replicate];omega
      have hR:Rel c (κ.cut k) fnc.ntmps ⟨d8 args,sto,next⟩ ⟨vals++XF (fnc.ntmps - vals.size) Go.undef,[]⟩ κ.w κ:=by
       refine⟨rfl,κ.cut_ext k,hS,⟨rfl,rfl,rfl,WX _,fun _ _ _=>rfl,fun _ _ h=>.inl h⟩,fun i=>?_,hsize,ee.nil _ _,hf⟩
       show ARel κ (look i ((args.zipIdx 0).map fun p=>(p.2,p.1))) _
       rw[mF,if_pos (Xr _),Nat.sub_zero]
       cases hx:args[i]? with
       | none=>exact .any _
       | some x=>
         have hi:i<vals.size:=by rw[hsz];exact (WH.1 hx).1
         have:=hargs i x hx
         have e:(vals++XF (fnc.ntmps - vals.size) Go.undef).getD i Go.undef=vals.getD i Go.undef:=by
          simp only[WM]
          rw[Array.getElem?_append_left hi]
         rw[e];exact this
      refine Go.wpIn_mono (vB (P:=P) (N:=fnc.ntmps) co c (κ.cut k) k none 0 b [] (jQ rs) li (FnK G rs R) _ _ κ.w κ (.inl rfl) (fun r hr=>κ.cut_none k r hr) (WX _) hb hR hv) ?_
      have fin:∀ (s:St) (κ':Kap) (a:Act) (w:World),Rel c (κ.cut k) fnc.ntmps s a w κ'->aV (gl G s rs) (K7 R s)->∃ v,(results fnc a.tmps).run P w = .ok v w /\
        ∃ u v' κ'' sto' next',Ending.returned v = .returned u/\κ''.w=w/\Ext (κ.cut k) κ''/\Left c κ.imm κ''/\ARel κ'' v' u/\SRel c κ'' (fun r=>lookB r sto')/\(∀ r,next'<=r->κ''.nm r=none)/\R v' sto' next':=by
       intro s κ' a w hR hF
       simp only[aV] at hF
       split at hF
       ·rename_i vs hvs
        obtain⟨us,h1,h2,h3⟩:=l8 (P:=P) hR fnc.results.toList rs vs hrs hvs
        have hrun:(results fnc a.tmps).run P w = .ok (if h:us.toArray.size=1 then us.toArray[0] else .tuple us.toArray) w:=by
         rw[nX,Sem.run_bind,Array.mapM_eq_mapM_toList]
         simp only[Sem.run_bind,Sem.run_map]
         rw[h1]
         simp
        refine⟨_,hrun,_,Bc vs,κ',s.sto,s.next,rfl,hR.w_eq,hR.ext0,hR.left,?_,hR.rel,hR.fresh,hF⟩
        by_cases hl:vs.length=1
        ·obtain⟨v,rfl⟩:=List.length_eq_one_iff.1 hl
         obtain⟨u,rfl⟩:=List.length_eq_one_iff.1 (h2.trans hl)
         have:=h3 0 v rfl
         exact this
        ·have hul:¬ us.toArray.size=1:=by simpa[h2] using hl
         rw[dif_neg hul]
         have hrv:Bc vs=rK vs:=by
          unfold Bc
          split
          ·simp at hl
          ·rfl
         rw[hrv]
         exact rJ (.tup _ _ (by simpa using h2) (fun i x hx=>by rw[aL];simpa using h3 i x hx))
       ·exact hF.elim
      intro e a w hq
      cases e with
      | normal=>
        obtain⟨s,κ',hR,hF⟩:=hq
        exact jk (WX _) rfl hR fun w' κ'' hR'=>fin s κ'' ⟨a.tmps,[]⟩ w' hR' hF
      | ret=>
        obtain⟨s,κ',hR,hF⟩:=hq
        exact jk (WX _) rfl hR fun w' κ'' hR'=>fin s κ'' ⟨a.tmps,[]⟩ w' hR' hF
      | exit id=>
        obtain⟨s,κ',hR,hF⟩:=hq
        exact hF.elim
      | goto l=>exact hq.elim
      | panic ch=>exact hq.elim
      | outgrown=>exact hq.elim
     ·cases hc
    ·cases hc
   ·cases hc
  ·cases hc
 ·cases hc
def cB:List Blk->Nat->List (Nat×Blk)
 | [],_=>[]
 | b::r,k=>(k,b)::cB r (k+1)
theorem ot:∀ (bs:List Blk) (k i:Nat),lookB i (cB bs k)=if k<=i then bs.getD (i - k) .none else .none
 | [],k,i=>by simp[cB,lookB]
 | b::r,k,i=>by
   simp only[cB,lookB]
   by_cases h:k=i
   ·subst h;simp
   ·rw[if_neg h,ot r (k+1) i]
    by_cases hk:k<=i
    ·rw[if_pos (by omega),if_pos hk,show i - k=(i - (k+1))+1 by omega];simp
    ·rw[if_neg (by omega),if_neg hk]
theorem iD (bs:List Blk):(fun r=>lookB r (cB bs 0))=fun r=>bs.getD r .none:=by
 funext r;rw[ot];simp
def aP (P:Program)(G:Nat->List PV)(k f:Nat)(args:List AV)(bs:List Blk)(v:AV)(bs':List Blk):Prop:=
 sT P G k f args (cB bs 0) bs.length fun v' sto' next'=>v'=v/\sto'=cB bs' 0/\next'=bs'.length
def Oa (k:Nat)(v:AV)(bs':List Blk)(v':AV)(sto':List (Nat×Blk))(next':Nat):Prop:=
 Wk k ⟨[(0,v')],sto',next'⟩ ⟨[(0,v)],cB bs' 0,bs'.length⟩
theorem aP.of_lcalls {k f:Nat}{args:List AV}{bs:List Blk}{v:AV}{bs':List Blk}(h:sT P G k f args (cB bs 0) bs.length (Oa k v bs')):aP P G k f args bs v bs':=by
 obtain⟨hcal,h⟩:=h
 refine⟨hcal,fun κ vals hS hf hsz hargs=>(h κ vals hS hf hsz hargs).mono ?_⟩
 rintro e w' ⟨u,v',κ',sto',next',rfl,rfl,he,hL,hv,hS',hf',hw⟩
 obtain⟨κ'',hR⟩:=hw _ (κ.cut k) κ' 1 ⟨#[u],[]⟩ κ'.w (fun r hr=>κ.cut_none k r hr) ⟨rfl,he,hS',hL,fun i=>by
  show ARel κ' (look i [(0,v')]) _
  by_cases hi:0=i
  ·subst hi;simpa[look] using hv
  ·simp only[look,if_neg hi];exact .any _,rfl,ee.nil _ _,hf'⟩
 refine⟨u,v,κ'',_,_,rfl,hR.w_eq,hR.ext0,hR.left,?_,hR.rel,hR.fresh,rfl,rfl,rfl⟩
 have:=hR.env 0
 simpa[St.E,look] using this
theorem aP.intro {muts:List Nat}{k f:Nat}{fn:AFn}{args:List AV}{bs:List Blk}{v:AV}{bs':List Blk}(hc:cFn P muts f=some fn)(hn:args.length<=fn.N)
  (hv:vc P G k fn.body (FnK G fn.res (Oa k v bs')) ⟨d8 args,cB bs 0,bs.length⟩):aP P G k f args bs v bs':=
 aP.of_lcalls (sT.of_code hc hn hv)
def gIn (next:Nat):List Nat->Nat->Nat
 | [],i=>next+i
 | r::_,0=>r
 | _::q,i+1=>gIn next q i
def gSo (next:Nat)(rs:List Nat)(r:Nat):Option Nat:=some (gIn next rs r)
theorem mQ (next:Nat):∀ (rs:List Nat) (i:Nat) (r:Nat),rs[i]? = some r->gIn next rs i=r
 | [],i,r,h=>by simp at h
 | x::q,0,r,h=>by simpa[gIn] using h
 | x::q,i+1,r,h=>by simpa[gIn] using mQ next q i r (by simpa using h)
theorem oy (next:Nat):∀ (rs:List Nat) (i:Nat),rs.length<=i->gIn next rs i=next+(i - rs.length)
 | [],i,h=>by simp[gIn]
 | x::q,0,h=>by simp at h
 | x::q,i+1,h=>by
   simp only[WG] at h
   rw[gIn,oy next q i (by omega)]
   simp
mutual
theorem unren {κ κ':Kap}(hw:κ'.w=κ.w)(hi:κ'.imm=κ.imm){g:Nat->Nat}(hf:∀ r,κ'.nm r=κ.nm (g r)):∀ (x:AV) (v:Value),ARel κ (x.ren fun r=>some (g r)) v->ARel κ' x v
 | .pv p,v,h=>by
   simp only[AV.ren] at h
   cases h with
   | pv _ _ hp=>exact .pv _ _ (by rw[hw,hi];exact hp)
 | .any,v,h=>.any v
 | .ptr r o,v,h=>by
   simp only[AV.ren] at h
   cases h with
   | ptr _ _ b n hn=>exact .ptr _ _ b n (by rw[hf r];exact hn)
 | .row r a b c,v,h=>by
   simp only[AV.ren] at h
   cases h with
   | row _ _ _ _ bb n cap hn h1 h2 h3 h4=>exact .row _ _ _ _ bb n cap (by rw[hf r];exact hn) h1 h2 h3 h4
   | row0 _ _ hn=>exact .row0 _ _ (by rw[hf r];exact hn)
 | .olist r a l,v,h=>by
   simp only[AV.ren] at h
   cases h with
   | olist _ _ _ _ hn hp hs=>exact .olist _ _ _ _ (by rw[hf r];exact hn) (by rw[hw,hi];exact hp) hs
 | .mp r,v,h=>by
   simp only[AV.ren] at h
   cases h with
   | mp _ b hn=>exact .mp _ _ (by rw[hf r];exact hn)
 | .agg cs,v,h=>by
   simp only[AV.ren] at h
   cases h with
   | agg _ vs hl hr=>
     obtain⟨h1,h2⟩:=lL hw hi hf cs vs hr
     exact .agg _ _ (by rw[<- h1];exact hl) h2
 | .tup cs,v,h=>by
   simp only[AV.ren] at h
   cases h with
   | tup _ vs hl hr=>
     obtain⟨h1,h2⟩:=lL hw hi hf cs vs hr
     exact .tup _ _ (by rw[<- h1];exact hl) h2
 | .clo g fs cs,v,h=>by
   simp only[AV.ren] at h
   cases h with
   | clo _ _ _ vs us hl hr hl' hr'=>
     obtain⟨h1,h2⟩:=lL hw hi hf fs vs hr
     obtain⟨h3,h4⟩:=lL hw hi hf cs us hr'
     exact .clo _ _ _ _ _ (by rw[<- h1];exact hl) h2 (by rw[<- h3];exact hl') h4
theorem lL {κ κ':Kap}(hw:κ'.w=κ.w)(hi:κ'.imm=κ.imm){g:Nat->Nat}(hf:∀ r,κ'.nm r=κ.nm (g r)):∀ (xs:List AV) (vs:Array Value),
  (∀ (i:Nat) (x:AV),(AV.renL (fun r=>some (g r)) xs)[i]? = some x->ARel κ x (vs.getD i Go.undef))->(AV.renL (fun r=>some (g r)) xs).length=xs.length/\∀ (i:Nat) (x:AV),xs[i]? = some x->ARel κ' x (vs.getD i Go.undef)
 | [],vs,h=>by simp[AV.renL]
 | x::r,vs,h=>by
   have e:∀ i,(vs.extract 1 vs.size).getD i Go.undef=vs.getD (i+1) Go.undef:=by
    intro i
    simp only[WM,Array.getElem?_extract]
    by_cases hh:i<min vs.size vs.size - 1
    ·rw[if_pos hh];congr 2;omega
    ·rw[if_neg hh,Array.getElem?_eq_none (by omega)]
   obtain⟨h1,h2⟩:=lL hw hi hf r (vs.extract 1 vs.size) (fun i y hy=>by
    have:=h (i+1) y (by simpa[AV.renL] using hy)
    rw[e];exact this)
   refine⟨by simp[AV.renL,h1],fun i y hy=>?_⟩
   cases i with
   | zero=>
     simp only[Xb,WJ] at hy
     subst hy
     exact unren hw hi hf x _ (h 0 _ (by simp[AV.renL]))
   | succ i=>
     simp only[List.getElem?_cons_succ] at hy
     have:=h2 i y hy
     rw[e] at this;exact this
end
theorem fM.unren {κ κ':Kap}(hw:κ'.w=κ.w)(hi:κ'.imm=κ.imm){g:Nat->Nat}(hf:∀ r,κ'.nm r=κ.nm (g r)){r:Nat}{B:Blk}(h:fM κ (g r) (B.ren fun r=>some (g r))):fM κ' r B:=by
 cases B with
 | none=>trivial
 | cells T f l=>
   simp only[Blk.ren] at h
   rcases h with ⟨h1,h2,h3⟩ | ⟨b,n,cs,h1,h2,h3,h4,h5,h6,h7⟩
   ·refine .inl ⟨h1,?_,by rw[hf];exact h3⟩
    cases l with
    | nil=>rfl
    | cons x r=>simp[AV.renL] at h2
   ·obtain⟨q1,q2⟩:=lL hw hi hf l cs h6
    exact .inr ⟨b,n,cs,by rw[hf];exact h1,by rw[hw];exact h2,h3,by rw[<- q1];exact h4,fun hb=>by rw[<- q1];exact h5 hb,q2,by rw[hi];exact h7⟩
 | tok e sz=>
   simp only[Blk.ren] at h
   rcases h with h | ⟨g',n,cap,cur,h1,h2,h3⟩
   ·exact .inl (by rw[hf];exact h)
   ·exact .inr ⟨g',n,cap,cur,by rw[hf];exact h1,by rw[hw];exact h2,by rw[hi];exact h3⟩
 | mp l=>
   obtain⟨b,es,ck,h1,h2⟩:=h
   exact⟨b,es,ck,by rw[hf];exact h1,by rw[hw,hi];exact h2⟩
 | bts e l=>
   obtain⟨b,n,cs,fz,h1,h2⟩:=h
   exact⟨b,n,cs,fz,by rw[hf];exact h1,by rw[hw,hi];exact h2⟩
theorem fM.ren {κ κ':Kap}(hw:κ'.w=κ.w)(hi:κ'.imm=κ.imm){g:Nat->Nat}(hf:∀ r,κ'.nm (g r)=κ.nm r){r:Nat}{B:Blk}(h:fM κ r B):fM κ' (g r) (B.ren fun r=>some (g r)):=by
 have hf':∀ r r',(fun r=>some (g r)) r=some r'->κ'.nm r'=κ.nm r:=fun r r' h=>by cases h;exact hf r
 cases B with
 | none=>trivial
 | cells T f l=>
   simp only[Blk.ren]
   rcases h with ⟨h1,h2,h3⟩ | ⟨b,n,cs,h1,h2,h3,h4,h5,h6,h7⟩
   ·exact .inl ⟨h1,by rw[h2];simp only[AV.renL],by rw[hf];exact h3⟩
   ·obtain⟨q1,q2⟩:=fq hw hi hf' l cs h6
    exact .inr ⟨b,n,cs,by rw[hf];exact h1,by rw[hw];exact h2,h3,by rw[q1];exact h4,fun hb=>by rw[q1];exact h5 hb,q2,by rw[hi];exact h7⟩
 | tok e sz=>
   simp only[Blk.ren]
   rcases h with h | ⟨g',n,cap,cur,h1,h2,h3⟩
   ·exact .inl (by rw[hf];exact h)
   ·exact .inr ⟨g',n,cap,cur,by rw[hf];exact h1,by rw[hw];exact h2,by rw[hi];exact h3⟩
 | mp l=>
   obtain⟨b,es,ck,h1,h2⟩:=h
   exact⟨b,es,ck,by rw[hf];exact h1,by rw[hw,hi];exact h2⟩
 | bts e l=>
   obtain⟨b,n,cs,fz,h1,h2⟩:=h
   exact⟨b,n,cs,fz,by rw[hf];exact h1,by rw[hw,hi];exact h2⟩
def qw (f:Nat->Option Nat):List Blk->Nat->(Nat->Nat)->List (Nat×Blk)
 | [],_,_=>[]
 | b::r,i,g=>(g i,b.ren f)::qw f r (i+1) g
def fW:List Nat->List (Nat×Blk)
 | []=>[]
 | r::q=>(r,.none)::fW q
def iq (sto:List (Nat×Blk))(f:Nat->Option Nat):List Nat->List Blk->Prop
 | [],[]=>True
 | r::rs,b::bs=>BlkZ (lookB r sto) (b.ren f)/\iq sto f rs bs
 | _,_=>False
theorem iq.get {sto:List (Nat×Blk)}{f:Nat->Option Nat}:∀ {rs:List Nat} {bs:List Blk},iq sto f rs bs->rs.length=bs.length/\∀ (i r:Nat) (b:Blk),rs[i]? = some r->bs[i]? = some b->BlkZ (lookB r sto) (b.ren f)
 | [],[],h=>⟨rfl,by simp⟩
 | r::rs,b::bs,h=>by
   obtain⟨h1,h2⟩:=h
   obtain⟨h3,h4⟩:=iq.get h2
   refine⟨by simp[h3],fun i q d hq hd=>?_⟩
   cases i with
   | zero=>simp at hq hd;subst hq;subst hd;exact h1
   | succ i=>exact h4 i q d (by simpa using hq) (by simpa using hd)
 | [],_::_,h=>h.elim
 | _::_,[],h=>h.elim
end
section
variable {P:Program}{G:Nat->List PV}
theorem fM.named {κ:Kap}{r:Nat}{B:Blk}(h:fM κ r B)(hB:B≠.none):∃ d,κ.nm r=some d:=by
 cases B with
 | none=>exact absurd rfl hB
 | cells T f l=>
   rcases h with ⟨_,_,h⟩ | ⟨b,n,cs,h,_⟩
   ·exact⟨_,h⟩
   ·exact⟨_,h⟩
 | tok e sz=>
   rcases h with h | ⟨g,n,cap,cur,h,_⟩
   ·exact⟨_,h⟩
   ·exact⟨_,h⟩
 | mp l=>
   obtain⟨b,es,ck,h,_⟩:=h
   exact⟨_,h⟩
 | bts e l=>
   obtain⟨b,n,cs,fz,h,_⟩:=h
   exact⟨_,h⟩
theorem Wo {f:Nat->Option Nat}{b:Blk}:b.ren f≠.none↔b≠.none:=by
 cases b<;>simp[Blk.ren]
theorem Oo {next:Nat}{rs:List Nat}(hnd:rs.Nodup)(hlt:∀ r∈rs,r<next){i j:Nat}(h:gIn next rs i=gIn next rs j):i=j:=by
 by_cases hi:i<rs.length
 ·have ei:=mQ next rs i _ (WE hi)
  have hi':=hlt _ (List.getElem_mem hi)
  by_cases hj:j<rs.length
  ·have ej:=mQ next rs j _ (WE hj)
   rw[ei,ej] at h
   exact (List.getElem_inj hnd).1 h
  ·have ej:=oy next rs j (by omega)
   omega
 ·have ei:=oy next rs i (by omega)
  by_cases hj:j<rs.length
  ·have ej:=mQ next rs j _ (WE hj)
   have hj':=hlt _ (List.getElem_mem hj)
   omega
  ·have ej:=oy next rs j (by omega)
   omega
theorem rW {f:Nat->Option Nat}{g:Nat->Nat}(hg:∀ i j,g i=g j->i=j)(rest:List (Nat×Blk))(r:Nat):∀ (bs:List Blk) (k:Nat),
  (∀ i b,bs[i]? = some b->g (k+i)=r->lookB r (qw f bs k g++rest)=b.ren f)/\((∀ i,i<bs.length->g (k+i)≠r)->lookB r (qw f bs k g++rest)=lookB r rest)
 | [],k=>⟨by simp,fun _=>rfl⟩
 | b::q,k=>by
   obtain⟨h1,h2⟩:=rW hg rest r q (k+1)
   refine⟨fun i b' hi hr=>?_,fun h=>?_⟩
   ·simp only[qw,WQ,lookB]
    cases i with
    | zero=>
      simp only[Xb,WJ] at hi
      subst hi
      rw[if_pos (by simpa using hr)]
    | succ i=>
      rw[if_neg (fun e=>by have:=hg _ _ (e.trans hr.symm);omega)]
      exact h1 i b' (by simpa using hi) (by rw[<- hr];congr 1;omega)
   ·simp only[qw,WQ,lookB]
    rw[if_neg (by have:=h 0 (by simp);simpa using this)]
    exact h2 fun i hi=>by
     have:=h (i+1) (by simp;omega)
     rwa [show k+(i+1)=k+1+i by omega] at this
theorem oq (rest:List (Nat×Blk))(r:Nat):∀ (l:List Nat),lookB r (fW l++rest)=if r∈l then .none else lookB r rest
 | []=>by simp[fW]
 | x::q=>by
   simp only[fW,WQ,lookB,oq rest r q,List.mem_cons]
   by_cases h:x=r
   ·subst h;simp
   ·rw[if_neg h]
    by_cases hq:r∈q
    ·simp[hq]
    ·have:¬ (r=x\/r∈q):=by rintro (e | e);exact h e.symm;exact hq e
     rw[if_neg hq,if_neg this]
theorem aP.frame {k f:Nat}{args0:List AV}{bs:List Blk}{v:AV}{bs':List Blk}(h:aP P G k f args0 bs v bs'){rs:List Nat}{args:List AV}{sto:List (Nat×Blk)}{next:Nat}
  (hargs:AVzL args (AV.renL (gSo next rs) args0)) (hbs:iq sto (gSo next rs) rs bs) (hnd:rs.Nodup) (hlt:∀ r∈rs,r<next) (hk:k<=bs.length) (hk':k<=bs'.length) (hne:∀ b∈bs.take k,b≠.none) :
  da P G f args sto next fun v' sto' next'=>v'=v.ren (gSo next (rs.take k))/\sto'=qw (gSo next (rs.take k)) bs' 0 (gIn next (rs.take k))++(fW (rs.drop k)++sto)/\next'=next+(bs'.length - k):=by
 obtain⟨hcal,h⟩:=h
 refine⟨hcal,fun κ vals hS hf hsz hvals=>?_⟩
 obtain⟨hrl,hat⟩:=hbs.get
 let κ1:Kap:=⟨κ.w,fun i=>κ.nm (gIn next rs i),κ.imm⟩
 have hσ1:(fun r=>lookB r (cB bs 0))=fun r=>bs.getD r .none:=iD bs
 have hlook:∀ i b,bs[i]? = some b->∃ r,rs[i]? = some r/\gIn next rs i=r/\fM κ r (b.ren (gSo next rs))/\(b≠.none->lookB r sto≠.none):=by
  intro i b hb
  have hi:i<rs.length:=by rw[hrl];exact (WH.1 hb).1
  have hr:=WE hi
  obtain⟨q1,q2⟩:=(hat i _ b hr hb).rel (hS.blk rs[i])
  exact⟨rs[i],hr,mQ next rs i _ hr,q1,fun hb'=>q2 (Wo.2 hb')⟩
 have hlive:∀ i,bs.getD i .none≠.none->∃ b,bs[i]? = some b/\b≠.none:=by
  intro i hi
  rw[WN] at hi
  cases hb:bs[i]? with
  | none=>rw[hb] at hi;exact absurd rfl hi
  | some b=>rw[hb] at hi;exact⟨b,rfl,hi⟩
 have hB1:∀ i b,bs[i]? = some b->fM κ1 i b:=by
  intro i b hb
  obtain⟨r,hr,hgr,hB,_⟩:=hlook i b hb
  exact fM.unren (κ:=κ) (κ':=κ1) rfl rfl (g:=gIn next rs) (fun _=>rfl) (by rw[hgr];exact hB)
 have hl1:∀ b,(cQ κ1 (fun r=>lookB r (cB bs 0)) G).lent b->(cQ κ (fun r=>lookB r sto) G).lent b:=by
  rintro b ⟨i,d,h1,h2,h3⟩
  simp only[congrFun hσ1 i] at h1
  obtain⟨b',hb,hbn⟩:=hlive i h1
  obtain⟨r,hr,hgr,_,hn⟩:=hlook i b' hb
  exact⟨r,d,hn hbn,by rw[<- hgr];exact h2,h3⟩
 have hm1:∀ b,(cQ κ1 (fun r=>lookB r (cB bs 0)) G).mine b->(cQ κ (fun r=>lookB r sto) G).mine b:=fun b hb=>hb.elim .inl (fun h=>.inr (hl1 b h))
 have hS1:SRel (cQ κ1 (fun r=>lookB r (cB bs 0)) G) κ1 (fun r=>lookB r (cB bs 0)):=by
  refine⟨fun i=>?_,fun i j d d' b h1 h2 hij hd hd' hb=>?_,fun i d b h1 hd hb=>.inr ⟨i,d,h1,hd,hb⟩,hS.immLt,?_⟩
  ·rw[congrFun hσ1 i]
   show fM κ1 i (bs.getD i .none)
   rw[WN]
   cases hb:bs[i]? with
   | none=>trivial
   | some b=>exact hB1 i b hb
  ·simp only[congrFun hσ1 i] at h1
   simp only[congrFun hσ1 j] at h2
   obtain⟨b1,hb1,hn1⟩:=hlive i h1
   obtain⟨b2,hb2,hn2⟩:=hlive j h2
   obtain⟨r,hr,hgr,_,hn⟩:=hlook i b1 hb1
   obtain⟨r',hr',hgr',_,hn'⟩:=hlook j b2 hb2
   refine hS.apart r r' d d' b (hn hn1) (hn' hn2) (fun e=>hij ?_) (by rw[<- hgr];exact hd) (by rw[<- hgr'];exact hd') hb
   obtain⟨hi,ei⟩:=WH.1 hr
   obtain⟨hj,ej⟩:=WH.1 hr'
   exact (List.getElem_inj hnd).1 (ei.trans (e.trans ej.symm))
  ·refine⟨fun g o p hp=>?_,fun g hg=>?_⟩
   ·exact hS.glob.1 g o p hp
   ·obtain⟨h1,h2,h3⟩:=hS.glob.2 g hg
    exact⟨h1,fun hl=>h2 (hl1 g hl),h3⟩
 have hf1:∀ r,bs.length<=r->κ1.nm r=none:=fun r hr=>by
  show κ.nm (gIn next rs r)=none
  rw[oy next rs r (by omega)]
  exact hf _ (by omega)
 have hlen0:args0.length=args.length:=by
  rw[hargs.length]
  have:∀ (f:Nat->Option Nat) (l:List AV),(AV.renL f l).length=l.length:=by
   intro f l
   induction l with
   | nil=>simp[AV.renL]
   | cons x r ih=>simp[AV.renL,ih]
  rw[this]
 have hv1:∀ (i:Nat) (x:AV),args0[i]? = some x->ARel κ1 x (vals.getD i Go.undef):=
  (lL (κ:=κ) (κ':=κ1) rfl rfl (g:=gIn next rs) (fun _=>rfl) args0 vals (fun i x hx=>by
   obtain⟨y,hy,hyx⟩:=hargs.get i x hx
   exact hyx.rel (hvals i y hy))).2
 refine (h κ1 vals hS1 hf1 (by omega) hv1).mono ?_
 rintro e w' ⟨u,v',κ1',sto',next',rfl,rfl,he,hL,hv,hS',hf',rfl,rfl,rfl⟩
 obtain⟨g,hgdef⟩:∃ g,g=gIn next (rs.take k):=⟨_,rfl⟩
 have htl:(rs.take k).length=k:=by rw[List.length_take];omega
 have hg1:∀ i,i<k->∃ r,rs[i]? = some r/\g i=r/\r<next:=by
  intro i hi
  have hi':i<rs.length:=by omega
  have hr:=WE hi'
  refine⟨rs[i],hr,?_,hlt _ (List.getElem_mem hi')⟩
  rw[hgdef]
  exact mQ next _ i _ (by rw[List.getElem?_take,if_pos hi];exact hr)
 have hg2:∀ i,k<=i->g i=next+(i - k):=fun i hi=>by rw[hgdef,oy next _ i (by omega),htl]
 have hginj:∀ i j,g i=g j->i=j:=fun i j hij=>by
  rw[hgdef] at hij
  exact Oo (hnd.sublist (List.take_sublist _ _)) (fun r hr=>hlt r (List.mem_of_mem_take hr)) hij
 have hso:gSo next (rs.take k)=fun r=>some (g r):=by rw[hgdef];rfl
 rw[hso,<- hgdef]
 let κ':Kap:=⟨κ1'.w,fun r=>if r<next then κ.nm r else κ1'.nm (k+(r - next)),κ1'.imm⟩
 have hnmk:∀ i,i<k->κ1'.nm i=κ1.nm i:=by
  intro i hi
  have hib:i<bs.length:=by omega
  have hb:=WE hib
  obtain⟨d,hd⟩:=(hB1 i _ hb).named (hne _ (List.mem_take_iff_getElem.2 ⟨i,by omega,rfl⟩))
  rw[hd]
  exact he.nm i d (by simp only[Kap.cut];rw[if_pos hi];exact hd)
 have hnm':∀ i,κ'.nm (g i)=κ1'.nm i:=by
  intro i
  by_cases hi:i<k
  ·obtain⟨r,hr,hgr,hrn⟩:=hg1 i hi
   show (if g i<next then κ.nm (g i) else κ1'.nm (k+(g i - next)))=_
   rw[hgr,if_pos hrn,hnmk i hi]
   show κ.nm r=κ.nm (gIn next rs i)
   rw[mQ next rs i r hr]
  ·show (if g i<next then κ.nm (g i) else κ1'.nm (k+(g i - next)))=_
   rw[hg2 i (by omega),if_neg (by omega)]
   congr 1;omega
 have hext:Ext κ κ':=⟨fun b o hi=>he.imm b o hi,fun b o v hi hc=>he.cell b o v hi hc,fun r d hd=>by
  have hr:r<next:=by
   rcases Nat.lt_or_ge r next with h | h
   ·exact h
   ·rw[hf r h] at hd;cases hd
  show (if r<next then κ.nm r else _)=_
  rw[if_pos hr];exact hd,fun b o ho hc=>he.obj b o ho hc⟩
 have hout:∀ r d b,lookB r sto≠.none->r∉rs->κ.nm r=some d->d.block=some b->b<κ.w.heap.size/\¬ (cQ κ1 (fun r=>lookB r (cB bs 0)) G).lent b:=by
  intro r d b h1 h2 h3 h4
  refine⟨(hS.blk r).lt h1 h3 h4,?_⟩
  rintro⟨i,d',q1,q2,q3⟩
  simp only[congrFun hσ1 i] at q1
  obtain⟨b',hb,hbn⟩:=hlive i q1
  obtain⟨r',hr',hgr,_,hn⟩:=hlook i b' hb
  refine hS.apart r r' d d' b h1 (hn hbn) (fun e=>h2 (e▸WK hr')) h3 (by rw[<- hgr];exact q2) h4 q3
 have hmem:∀ r,r∈rs->(∃ i,i<bs'.length/\g i=r)\/r∈rs.drop k:=by
  intro r hr
  obtain⟨i,hi⟩:=List.getElem?_of_mem hr
  by_cases hik:i<k
  ·obtain⟨r',hr',hgr,_⟩:=hg1 i hik
   rw[hi] at hr';cases hr'
   exact .inl ⟨i,by omega,hgr⟩
  ·refine .inr (WK (i:=i - k) ?_)
   rw[List.getElem?_drop,show k+(i - k)=i by omega];exact hi
 have hσ':∀ r,(∃ i b,bs'[i]? = some b/\g i=r/\lookB r (qw (fun r=>some (g r)) bs' 0 g++(fW (rs.drop k)++sto))=b.ren (fun r=>some (g r))) \/
   lookB r (qw (fun r=>some (g r)) bs' 0 g++(fW (rs.drop k)++sto)) = .none\/(r∉rs/\(∀ i,i<bs'.length->g i≠r)/\lookB r (qw (fun r=>some (g r)) bs' 0 g++(fW (rs.drop k)++sto))=lookB r sto):=by
  intro r
  obtain⟨q1,q2⟩:=rW (f:=fun r=>some (g r)) hginj (fW (rs.drop k)++sto) r bs' 0
  by_cases hi:∃ i,i<bs'.length/\g i=r
  ·obtain⟨i,hi,hgi⟩:=hi
   exact .inl ⟨i,bs'[i],WE hi,hgi,q1 i _ (WE hi) (by rw[W4];exact hgi)⟩
  ·have hni:∀ i,i<bs'.length->g i≠r:=fun i h1 h2=>hi ⟨i,h1,h2⟩
   have e:=q2 (fun i h1=>by rw[W4];exact hni i h1)
   rw[oq] at e
   by_cases hr:r∈rs.drop k
   ·rw[if_pos hr] at e;exact .inr (.inl e)
   ·rw[if_neg hr] at e
    exact .inr (.inr ⟨fun h=>(hmem r h).elim hi hr,hni,e⟩)
 have hlive':∀ i b,bs'[i]? = some b->b.ren (fun r=>some (g r))≠.none->lookB i (cB bs' 0)≠.none:=by
  intro i b hb hbn
  have e2:lookB i (cB bs' 0)=bs'.getD i .none:=congrFun (iD bs') i
  rw[e2,WN,hb]
  exact Wo.1 hbn
 refine⟨u,_,κ',_,_,rfl,rfl,hext,⟨hL.os,hL.tape,hL.output,hL.size,fun b hb hl=>hL.block b hb fun h=>hl (hl1 b h),fun b o hi=>(hL.imm b o hi).imp id (hm1 b)⟩,
  tB (κ:=κ1') (κ':=κ') rfl rfl (fun r r' hr=>by cases hr;exact hnm' r) v' u hv,?_,fun r hr=>?_,rfl,rfl,rfl⟩
 ·refine⟨fun r=>?_,fun r r' d d' b h1 h2 hrr hd hd' hb=>?_,fun r d b h1 hd hb=>?_,hS'.immLt,?_⟩
  ·show fM κ' r (lookB r _)
   rcases hσ' r with ⟨i,b,hb,hgi,e⟩ | e | ⟨hr,hni,e⟩
   ·rw[e,<- hgi]
    refine fM.ren (κ:=κ1') (κ':=κ') rfl rfl hnm' ?_
    have:=hS'.blk i
    have e2:lookB i (cB bs' 0)=bs'.getD i .none:=congrFun (iD bs') i
    simp only[e2,WN,hb] at this
    exact this
   ·rw[e];trivial
   ·rw[e]
    refine (hS.blk r).keep hext fun hbn d b hd hb=>?_
    obtain⟨q1,q2⟩:=hout r d b hbn hr hd hb
    refine⟨hL.block b q1 q2,fun o ho=>?_⟩
    rcases hL.imm b o ho with h | h | h
    ·exact h
    ·exact absurd q1 (Nat.not_lt.2 h)
    ·exact absurd h q2
  ·have cal:∀ r i b0 d,bs'[i]? = some b0->g i=r->b0.ren (fun r=>some (g r))≠.none->κ'.nm r=some d->lookB i (cB bs' 0)≠.none/\κ1'.nm i=some d:=by
    intro r i b0 d hb0 hgi hbn hd
    exact⟨hlive' i b0 hb0 hbn,by rw[<- hnm' i,hgi];exact hd⟩
   have own:∀ r d,r∉rs->lookB r sto≠.none->κ'.nm r=some d->κ.nm r=some d:=by
    intro r d hr hbn hd
    obtain⟨d',hd'⟩:=(hS.blk r).named hbn
    have:=hext.nm r d' hd'
    rw[this] at hd;cases hd;exact hd'
   have mix:∀ r i b0 d d' b,bs'[i]? = some b0->b0.ren (fun r=>some (g r))≠.none->κ1'.nm i=some d->d.block=some b->lookB i (cB bs' 0)≠.none->r∉rs->lookB r sto≠.none->κ.nm r=some d'->d'.block≠some b:=by
    intro r i b0 d d' b hb0 hbn hd hdb hl hr hrl hd' hdb'
    obtain⟨q1,q2⟩:=hout r d' b hrl hr hd' hdb'
    rcases hS'.mine i d b hl hd hdb with h | h
    ·exact absurd q1 (Nat.not_lt.2 h)
    ·exact q2 h
   rcases hσ' r with ⟨i,b1,hb1,hgi,e⟩ | e | ⟨hr,hni,e⟩
   ·have h1':b1.ren (fun r=>some (g r))≠.none:=by
     intro h0;exact h1 (e.trans h0)
    obtain⟨p1,p2⟩:=cal r i b1 d hb1 hgi h1' hd
    rcases hσ' r' with ⟨j,b2,hb2,hgj,e'⟩ | e' | ⟨hr',hni',e'⟩
    ·have h2':b2.ren (fun r=>some (g r))≠.none:=by
      intro h0;exact h2 (e'.trans h0)
     obtain⟨p3,p4⟩:=cal r' j b2 d' hb2 hgj h2' hd'
     exact hS'.apart i j d d' b p1 p3 (fun hij=>hrr (by rw[<- hgi,<- hgj,hij])) p2 p4 hb
    ·exact absurd e' h2
    ·have h2':lookB r' sto≠.none:=by intro h0;exact h2 (e'.trans h0)
     exact mix r' i b1 d d' b hb1 h1' p2 hb p1 hr' h2' (own r' d' hr' h2' hd')
   ·exact absurd e h1
   ·have h1':lookB r sto≠.none:=by intro h0;exact h1 (e.trans h0)
    have hd0:=own r d hr h1' hd
    rcases hσ' r' with ⟨j,b2,hb2,hgj,e'⟩ | e' | ⟨hr',hni',e'⟩
    ·have h2':b2.ren (fun r=>some (g r))≠.none:=by
      intro h0;exact h2 (e'.trans h0)
     obtain⟨p3,p4⟩:=cal r' j b2 d' hb2 hgj h2' hd'
     intro hb'
     exact mix r j b2 d' d b hb2 h2' p4 hb' p3 hr h1' hd0 hb
    ·exact absurd e' h2
    ·have h2':lookB r' sto≠.none:=by intro h0;exact h2 (e'.trans h0)
     exact hS.apart r r' d d' b h1' h2' hrr hd0 (own r' d' hr' h2' hd') hb
  ·rcases hσ' r with ⟨i,b1,hb1,hgi,e⟩ | e | ⟨hr,hni,e⟩
   ·have h1':b1.ren (fun r=>some (g r))≠.none:=by
     intro h0;exact h1 (e.trans h0)
    refine hm1 b (hS'.mine i d b (hlive' i b1 hb1 h1') (by rw[<- hnm' i,hgi];exact hd) hb)
   ·exact absurd e h1
   ·have h1':lookB r sto≠.none:=by intro h0;exact h1 (e.trans h0)
    obtain⟨d',hd'⟩:=(hS.blk r).named h1'
    have:=hext.nm r d' hd'
    rw[this] at hd;cases hd
    exact .inr ⟨r,d,h1',hd',hb⟩
  ·refine⟨hS'.glob.1,fun g' hg'=>?_⟩
   obtain⟨h1,h2,cs,T,fz,h3,h4⟩:=hS.glob.2 g' hg'
   exact⟨h1,h2,cs,T,fz,(hL.block g' h1 fun h=>h2 (hl1 g' h)).trans h3,h4⟩
 ·show (if r<next then κ.nm r else κ1'.nm (k+(r - next)))=none
  rw[if_neg (by omega)]
  exact hf' _ (by omega)
def wT (k:Nat)(rs:List Nat)(bs bs':List Blk)(next:Nat):Bool:=
 decide (k<=bs.length)&&decide (k<=bs'.length)&&(bs.take k).all (fun b=>match b with | .none=>false | _=>true)&&rs.all (fun r=>decide (r<next))&&decide rs.Nodup
theorem ae.lentK {k f:Nat}{args0:List AV}{bs:List Blk}{v:AV}{bs':List Blk}(h:aP P G k f args0 bs v bs')(rs:List Nat){args:List AV}{env:List (Nat×AV)}{sto:List (Nat×Blk)}{next:Nat}{K:AV->St->Prop}
  (hok:wT k rs bs bs' next=true) (hargs:AVzL args (AV.renL (gSo next rs) args0)) (hbs:iq sto (gSo next rs) rs bs)
  (hK:K (v.ren (gSo next (rs.take k))) ⟨env,qw (gSo next (rs.take k)) bs' 0 (gIn next (rs.take k))++(fW (rs.drop k)++sto),next+(bs'.length - k)⟩):ae P G f args ⟨env,sto,next⟩ K:=by
 simp only[wT,WT,decide_eq_true_eq,W8] at hok
 obtain⟨⟨⟨⟨h1,h2⟩,h3⟩,h4⟩,h5⟩:=hok
 refine ae.lent (h.frame hargs hbs h5 h4 h1 h2 (fun b hb e=>?_)) ?_
 ·have:=h3 b hb
  subst e;cases this
 ·rintro v' sto' next' ⟨rfl,rfl,rfl⟩
  exact hK
end
section
variable {P:Program}{G:Nat->List PV}
theorem cp {F:List (List Nat×List Nat)->St->Prop}{T:List (List Nat×List Nat)}{e:List (Nat×AV)}{σ:List (Nat×Blk)}{next d:Nat}{a b args:List AV}
  {k f:Nat} {args0:List AV} {bs:List Blk} {v:AV} {bs':List Blk} (h:aP P G k f args0 bs v bs') (rs:List Nat)
  (hok:wT k rs bs bs' next=true) (hargs:AVzL (a++args++b) (AV.renL (gSo next rs) args0)) (hbs:iq σ (gSo next rs) rs bs)
  (hk:F (T++[gj 2 (bm (qw (gSo next (rs.take k)) bs' 0 (gIn next (rs.take k))++fW (rs.drop k)).reverse) (σ.map (·.1))])
   ⟨(d,v.ren (gSo next (rs.take k)))::e,qw (gSo next (rs.take k)) bs' 0 (gIn next (rs.take k))++(fW (rs.drop k)++σ),next+(bs'.length - k)⟩):kF P G F T ⟨e,σ,next⟩ (some d) args (f,a,b):=by
 simp only[wT,WT,decide_eq_true_eq,W8] at hok
 obtain⟨⟨⟨⟨h1,h2⟩,h3⟩,h4⟩,h5⟩:=hok
 have hf:=h.frame hargs hbs h5 h4 h1 h2 (fun b hb e=>by
  have:=h3 b hb
  subst e;cases this)
 have e:nw σ (qw (gSo next (rs.take k)) bs' 0 (gIn next (rs.take k))++fW (rs.drop k)).reverse=qw (gSo next (rs.take k)) bs' 0 (gIn next (rs.take k))++(fW (rs.drop k)++σ):=by
  rw[oZ,List.reverse_reverse,WS]
 refine vd (δ:=(qw (gSo next (rs.take k)) bs' 0 (gIn next (rs.take k))++fW (rs.drop k)).reverse) (top:=next+(bs'.length - k)) (hf.mono fun v' s n hq=>⟨hq.1,?_,hq.2.2⟩) (by omega) ?_
 ·rw[e];exact hq.2.1
 ·rw[e];exact hk
end
theorem H0 (k k':IntKind)(x y:Int):No (.pv (.int k x)) (.pv (.int k' y))=some (.pv (.int k (min x y))):=by
 simp only[No,WJ,AV.pv.injEq,PV.int.injEq,true_and]
 split<;>omega
theorem H1 (k k':IntKind)(x y:Int):Np (.pv (.int k x)) (.pv (.int k' y))=some (.pv (.int k (max x y))):=by
 simp only[Np,WJ,AV.pv.injEq,PV.int.injEq,true_and]
 split<;>omega
theorem map_take {α β:Type}(f:α->β)(l:List α)(n:Nat):(l.map f).take n=(l.take n).map f:=List.map_take.symm
theorem map_drop {α β:Type}(f:α->β)(l:List α)(n:Nat):(l.map f).drop n=(l.drop n).map f:=List.map_drop.symm
theorem Dq {α β:Type}(f:α->β):(none:Option α).map f=none:=_root_.id rfl
def kH (mu:Bool)(e sz by_ new:Nat)(σ:aE)(x:AV):Option (List PV)->Option (AV×List (Nat×Blk))
 | some ys=>match mu,x with
   | false,.pv .nils=>match ys with
     | []=>some (.pv .nils,[])
     | y::r=>if qv 0 (r.length+1) by_=true then some (.olist new sz (y::r),[(new,.tok e sz)]) else none
   | false,.olist q s l=>match σ q with
     | .tok e' sz'=>if e'=e/\sz'=sz/\s=sz/\qv l.length ys.length by_=true then some (.olist new sz (l++ys),[(q,.none),(new,.tok e sz)]) else none
     | _=>none
   | true,.pv .nils=>match ys with
     | []=>some (.pv .nils,[])
     | y::r=>if qv 0 (r.length+1) by_=true then some (.row new sz 0 (r.length+1),[(new,.cells e false (bQ (y::r)))]) else none
   | true,.row q s off len=>match σ q with
     | .cells e' _ l=>if e'=e/\s=sz/\off=0/\len*sz<=l.length/\qv len ys.length by_=true then some (.row new sz 0 (len+ys.length),[(q,.none),(new,.cells e false (l.take (len*sz)++bQ ys))]) else none
     | _=>none
   | _,_=>none
 | none=>none
def Ki (e sz by_ new q s:Nat)(l ys:List PV):Blk->Option (AV×List (Nat×Blk))
 | .tok e' sz'=>if e'=e/\sz'=sz/\s=sz/\qv l.length ys.length by_=true then some (.olist new sz (l++ys),[(q,.none),(new,.tok e sz)]) else none
 | _=>none
def vj (e sz by_ new q s off len:Nat)(ys:List PV):Blk->Option (AV×List (Nat×Blk))
 | .cells e' _ l=>if e'=e/\s=sz/\off=0/\len*sz<=l.length/\qv len ys.length by_=true then some (.row new sz 0 (len+ys.length),[(q,.none),(new,.cells e false (l.take (len*sz)++bQ ys))]) else none
 | _=>none
theorem zh (mu:Bool)(e sz by_ new:Nat)(σ:aE)(x y:AV):eB mu e sz by_ new σ x y=kH mu e sz by_ new σ x (cn σ sz y):=by
 unfold eB kH
 cases cn σ sz y<;>rfl
theorem SK (e sz by_ new:Nat)(σ:aE)(q s:Nat)(l ys:List PV):kH false e sz by_ new σ (.olist q s l) (some ys)=Ki e sz by_ new q s l ys (σ q):=by
 simp only[kH,Ki]
theorem Kh {e sz by_ new q:Nat}{l ys:List PV}(h1:l.length+ys.length<=9223372036854775807)(h2:(l.length+ys.length)*by_<=140737488355328):Ki e sz by_ new q sz l ys (.tok e sz)=some (.olist new sz (l++ys),[(q,.none),(new,.tok e sz)]):=by
 simp[Ki,jO h1 h2]
theorem Pk (e sz by_ new:Nat)(σ:aE)(q s off len:Nat)(ys:List PV):kH true e sz by_ new σ (.row q s off len) (some ys)=vj e sz by_ new q s off len ys (σ q):=by
 simp only[kH,vj]
theorem lD {e sz by_ new q len:Nat}{f:Bool}{l:List AV}{ys:List PV}(h0:len*sz<=l.length)(h1:len+ys.length<=9223372036854775807)(h2:(len+ys.length)*by_<=140737488355328) :
  vj e sz by_ new q sz 0 len ys (.cells e f l)=some (.row new sz 0 (len+ys.length),[(q,.none),(new,.cells e false (l.take (len*sz)++bQ ys))]):=by
 simp[vj,h0,jO h1 h2]
def xJ (l:List PV):Bool->Option (List PV)
 | true=>some l
 | false=>none
theorem AB (σ:aE)(sz:Nat)(l:List PV):cn σ sz (.pv (.list l))=xJ l (l.all fun y=>y.cells.length == sz):=by
 simp only[cn]
 cases l.all (fun y=>y.cells.length == sz)<;>rfl
theorem AC (l:List PV):xJ l true=some l:=_root_.id rfl
theorem uS (σ:aE)(sz r:Nat)(l:List PV):cn σ sz (.olist r sz l)=some l:=by simp[cn]
def Tl (e sz new:Nat):Option (List PV)->Option (AV×List (Nat×Blk))
 | some ps=>if ps.all (fun p=>p.cells.length == sz&&p.cells.all PV.one)=true then some (.olist new sz ps,[(new,.tok e sz)]) else none
 | none=>none
theorem UU {e sz len new:Nat}{vs:List AV}(h:vs.length=len)(h2:len<=9223372036854775807):iz false e sz len new vs=Tl e sz new (pvs vs):=by
 simp only[iz,h,h2,true_and,if_true,Tl]
 cases pvs vs<;>rfl
def V5 (e sz new:Nat)(ps:List PV):Bool->Option (AV×List (Nat×Blk))
 | true=>some (.olist new sz ps,[(new,.tok e sz)])
 | false=>none
theorem SB (e sz new:Nat)(ps:List PV):V5 e sz new ps true=some (.olist new sz ps,[(new,.tok e sz)]):=_root_.id rfl
theorem FZ (e sz new:Nat)(ps:List PV):Tl e sz new (some ps)=V5 e sz new ps (ps.all fun p=>p.cells.length == sz&&p.cells.all PV.one):=by
 simp only[Tl]
 cases ps.all (fun p=>p.cells.length == sz&&p.cells.all PV.one)<;>rfl
theorem wz (b:Bool):PV.one (.bool b)=true:=_root_.id rfl
theorem Di (k:IntKind)(n:Int):PV.one (.int k n)=true:=_root_.id rfl
theorem Dh (s:List UInt8):PV.one (.str s)=true:=_root_.id rfl
theorem Iy:PV.one .nils=true:=_root_.id rfl
theorem wy (l:List PV):PV.one (.list l)=true:=_root_.id rfl
theorem NB (p:PV):AV.one (.pv p)=p.one:=_root_.id rfl
theorem IA (r o:Nat):AV.one (.ptr r o)=true:=_root_.id rfl
theorem Iz (r s o n:Nat):AV.one (.row r s o n)=true:=_root_.id rfl
theorem zE (r s:Nat)(l:List PV):AV.one (.olist r s l)=true:=_root_.id rfl
def Dn (sz:Nat)(l:List PV)(h:Nat):Option Nat->Option AV
 | some a=>if Ql sz l a=true then some (.pv (.list ((l.take h).drop a))) else none
 | none=>none
def Dm (sz:Nat)(l:List PV)(lo:Option AV):Option Nat->Option AV
 | some h=>Dn sz l h (bS 0 h lo)
 | none=>none
theorem q9 (sz:Nat)(l:List PV)(lo hi:Option AV):gq sz (.pv (.list l)) lo hi=Dm sz l lo (bS l.length l.length hi):=by
 show PP sz l lo hi=_
 unfold PP Dm Dn
 cases bS l.length l.length hi with
 | none=>rfl
 | some h=>simp only;cases bS 0 h lo<;>rfl
theorem tZ (sz:Nat)(l:List PV)(lo:Option AV)(h:Nat):Dm sz l lo (some h)=Dn sz l h (bS 0 h lo):=_root_.id rfl
theorem zG (sz:Nat)(l:List PV)(h:Nat):Dn sz l h (some 0)=some (.pv (.list (l.take h))):=by
 simp[Dn,Ql]
theorem zF (sz:Nat)(l:List PV)(i:Nat)(y:PV):ij sz l i (some y)=if y.cells.length=sz then some (.pv (.eptr l i 0)) else none:=_root_.id rfl
theorem Kl {α β:Type}(f:α->β)(p:β->Bool)(l:List α):(l.map f).all p=l.all fun x=>p (f x):=by
 rw[List.all_map];rfl
theorem SL {α:Type}(l:List α):(l.all fun _=>true)=true:=by simp
theorem SG (n:Nat):(n == n)=true:=by simp
def Rt (sz:Nat)(e:PV):Bool->Option AV
 | true=>some (.pv e)
 | false=>eC true sz 0 (e.cells.map .pv)
theorem N5 (sz:Nat)(e:PV):Rt sz e true=some (.pv e):=_root_.id rfl
theorem I6 (sz:Nat)(e:PV):nG true sz 0 e=Rt sz e (e.isAgg&&decide (e.cells.length=sz)):=by
 simp only[nG,true_and]
 by_cases h:e.isAgg=true/\e.cells.length=sz
 ·rw[if_pos h,h.1,decide_eq_true h.2];rfl
 ·rw[if_neg h]
  have:(e.isAgg&&decide (e.cells.length=sz))=false:=by
   rw[Bool.eq_false_iff]
   intro hh
   simp only[WT,decide_eq_true_eq] at hh
   exact h hh
  rw[this];rfl
theorem Ei (cs:List PV):(PV.agg cs).isAgg=true:=_root_.id rfl
theorem gC {α:Type}{sz:Nat}{f:α->PV}(hf:∀ x,(f x).cells.length=sz)(l:List α):(bQ (l.map f)).length=l.length*sz:=by
 have:=jt (sz:=sz) ((l.map f).map PV.cells) (by
  intro y hy
  simp only[Xo] at hy
  obtain⟨p,⟨s,_,rfl⟩,rfl⟩:=hy
  exact hf s)
 simp only[bQ,XC,List.flatMap_def] at this ⊢
 exact this
def fzO (σ:aE):Option AV->Option (AV×List (Nat×Blk))
 | some v=>(Jy σ v).map Ox
 | none=>none
theorem RM (G:Nat->List PV)(σ:aE)(g:Bool)(sz:Nat)(v:AV):OF G σ (some (g,sz)) v=fzO σ (fV G g sz σ v):=by
 simp only[OF,fzO];cases fV G g sz σ v<;>rfl
theorem Jv (σ:aE)(v:AV):fzO σ (some v)=(Jy σ v).map Ox:=_root_.id rfl
theorem Jw (σ:aE)(cs:List AV):Jy σ (.agg cs)=(JA σ cs).map fun p=>(.agg p.1,p.2):=_root_.id rfl
theorem Oy (σ:aE)(p:PV):Oz σ (.pv p)=some (p,[]):=_root_.id rfl
theorem JC (σ:aE)(r s n:Nat):Oz σ (.row r s 0 n)=RJ s n r (σ r):=_root_.id rfl
theorem Jz (σ:aE):JA σ []=some ([],[]):=_root_.id rfl
theorem EK (σ:aE)(x:AV)(r:List AV):JA σ (x::r)=Ti (Oz σ x) (JA σ r):=_root_.id rfl
theorem EL (p:PV)(a:List Nat)(q:List PV)(b:List Nat):Ti (some (p,a)) (some (q,b))=some (p::q,a++b):=_root_.id rfl
theorem Ow (p:PV)(l:List Nat):Ox (p,l)=(.pv p,l.map fun r=>(r,.none)):=_root_.id rfl
theorem xz {α:Type}{sz:Nat}{f:α->PV}(hf:∀ x,∃ cs,f x = .agg cs/\cs.length=sz/\∀ p∈cs,p.one=true)(hsz:2<=sz)(l:List α){n r T:Nat}{b:Bool}(hn:n=l.length) :
  RJ sz n r (.cells T b (bQ (l.map f)))=some (.list (l.map f),[r]):=by
 have hlen:=gC (sz:=sz) (f:=f) (fun x=>by obtain⟨cs,h1,h2,_⟩:=hf x;rw[h1];exact h2) l
 subst hn
 have hone:(bQ (l.map f)).all AV.one=true:=by
  rw[W8]
  intro x hx
  simp only[bQ,Xo,List.mem_flatMap] at hx
  obtain⟨p,⟨q,⟨s,_,rfl⟩,hq⟩,rfl⟩:=hx
  obtain⟨cs,h1,h2,h3⟩:=hf s
  rw[h1] at hq
  exact h3 p hq
 have hpv:pvs (bQ (l.map f))=some ((l.map f).flatMap PV.cells):=tR _
 have hch:∀ l:List α,km sz l.length ((l.map f).flatMap PV.cells)=l.map f:=by
  intro l
  induction l with
  | nil=>rfl
  | cons x r ih=>
    obtain⟨cs,h1,h2,_⟩:=hf x
    simp only[WG,km,WP,Xf,h1,ap]
    rw[if_neg (by omega),List.take_left' h2,List.drop_left' h2,ih]
 simp only[RJ]
 rw[if_pos ⟨by omega,by omega,by rw[Xm (by omega)];exact hone⟩,Xm (by omega),hpv]
 simp[hch]
theorem IR (p:PV):(AV.pv p).names=[]:=_root_.id rfl
theorem DD (r o:Nat):(AV.ptr r o).names=[r]:=_root_.id rfl
theorem DC (r a b c:Nat):(AV.row r a b c).names=[r]:=_root_.id rfl
theorem IS (r a:Nat)(l:List PV):(AV.olist r a l).names=[r]:=_root_.id rfl
theorem DE (f:Nat)(fs cs:List AV):(AV.clo f fs cs).names=AV.namesL fs++AV.namesL cs:=by simp only[AV.names]
theorem DF:AV.any.names=[]:=_root_.id rfl
theorem zO:AV.namesL []=[]:=_root_.id rfl
theorem mz (x:AV)(r:List AV):AV.namesL (x::r)=x.names++AV.namesL r:=by simp only[AV.namesL]
theorem my:∀ l:List PV,AV.namesL (l.map .pv)=[]
 | []=>rfl
 | x::r=>by rw[WP,mz,my r];rfl
theorem ud (l:List PV):AV.namesL (bQ l)=[]:=my _
theorem rH (T:Nat)(f:Bool)(l:List AV):(Blk.cells T f l).names=AV.namesL l:=_root_.id rfl
theorem zP (e s:Nat):(Blk.tok e s).names=[]:=_root_.id rfl
theorem Kn (acc:List Nat):cg acc []=acc:=_root_.id rfl
def Pr (acc:List Nat)(n:Nat):Bool->List Nat
 | true=>acc
 | false=>acc++[n]
theorem kD (x:Nat):∀ l:List Nat,l.contains x=wL x l
 | []=>rfl
 | y::r=>by
   rw[List.contains_cons,kD x r,rN]
   by_cases h:y=x
   ·simp[h]
   ·have h':¬ x=y:=fun e=>h e.symm
    simp[h,h']
theorem Gh (acc:List Nat)(n:Nat)(r:List Nat):cg acc (n::r)=cg (Pr acc n (wL n acc)) r:=by
 simp only[cg,kD]
 cases wL n acc<;>rfl
theorem Pp (acc:List Nat)(n:Nat):Pr acc n true=acc:=_root_.id rfl
theorem Pq (acc:List Nat)(n:Nat):Pr acc n false=acc++[n]:=_root_.id rfl
def geN (m0:Nat):List Nat->List Nat
 | []=>[]
 | x::r=>if m0<=x then x::geN m0 r else geN m0 r
theorem Om (m0:Nat):geN m0 []=[]:=_root_.id rfl
theorem xr (m0 x:Nat)(r:List Nat):geN m0 (x::r)=if m0<=x then x::geN m0 r else geN m0 r:=_root_.id rfl
theorem EI (m0:Nat):∀ l:List Nat,l.filter (fun r=>decide (m0<=r))=geN m0 l
 | []=>rfl
 | x::r=>by rw[List.filter_cons,EI m0 r,xr];simp
def ey (sto:List (Nat×Blk)):List Nat->List Nat
 | []=>[]
 | r::q=>(lookB r sto).names++ey sto q
theorem sG (sto:List (Nat×Blk)):ey sto []=[]:=_root_.id rfl
theorem jD (sto:List (Nat×Blk))(r:Nat)(q:List Nat):ey sto (r::q)=(lookB r sto).names++ey sto q:=_root_.id rfl
theorem iJ (sto:List (Nat×Blk)):∀ l:List Nat,(l.flatMap fun r=>(lookB r sto).names)=ey sto l
 | []=>rfl
 | r::q=>by rw[Xf,iJ sto q,jD]
theorem Nj (m0:Nat)(sto:List (Nat×Blk))(acc:List Nat):ig m0 sto 0 acc=acc:=_root_.id rfl
theorem Ni (m0:Nat)(sto:List (Nat×Blk))(k:Nat)(acc:List Nat):ig m0 sto (k+1) acc=ig m0 sto k (cg acc (geN m0 (ey sto acc))):=by
 rw[<- EI,<- iJ];rfl
def fG (e:List (Nat×AV)):List Nat->List Nat
 | []=>[]
 | k::r=>(look k e).names++fG e r
theorem sq (e:List (Nat×AV)):fG e []=[]:=_root_.id rfl
theorem p6 (e:List (Nat×AV))(k:Nat)(r:List Nat):fG e (k::r)=(look k e).names++fG e r:=_root_.id rfl
theorem m4 (e:List (Nat×AV))(σ:List (Nat×Blk))(n:Nat):∀ l:List Nat,(l.flatMap fun i=>((⟨e,σ,n⟩:St).E i).names)=fG e l
 | []=>rfl
 | k::r=>by rw[Xf,m4 e σ n r];rfl
def Cu:Nat->Nat->List Nat
 | 0,_=>[]
 | n+1,k=>k::Cu n (k+1)
theorem TW (k:Nat):Cu 0 k=[]:=_root_.id rfl
theorem QP (n k:Nat):Cu (n+1) k=k::Cu n (k+1):=_root_.id rfl
theorem Ct:∀ n k:Nat,Cu n k=List.range' k n
 | 0,k=>rfl
 | n+1,k=>by rw[QP,Ct n,List.range'_succ]
theorem K6 (n:Nat):List.range n=Cu n 0:=by rw[Ct,List.range_eq_range']
theorem NE (m0:Nat)(keep:List Nat)(e:List (Nat×AV))(σ:List (Nat×Blk))(n:Nat):Q9 m0 keep ⟨e,σ,n⟩=ig m0 σ σ.length (cg [] (geN m0 (fG e keep++ey σ (Cu m0 0)))):=by
 rw[<- EI,<- m4 e σ n,<- iJ,<- K6];rfl
def rF (f:Nat->Option Nat)(e:List (Nat×AV)):List Nat->List (Nat×AV)
 | []=>[]
 | k::r=>(k,(look k e).ren f)::rF f e r
theorem Dy (f:Nat->Option Nat)(e:List (Nat×AV)):rF f e []=[]:=_root_.id rfl
theorem zI (f:Nat->Option Nat)(e:List (Nat×AV))(k:Nat)(r:List Nat):rF f e (k::r)=(k,(look k e).ren f)::rF f e r:=_root_.id rfl
def Dx (m0:Nat)(keep:List Nat)(e:List (Nat×AV))(σ:List (Nat×Blk))(os:List Nat):St:=⟨rF (eD m0 os) e keep,fR m0 (eD m0 os) σ (Cu m0 0++os) 0,m0+os.length⟩
theorem NM (m0:Nat)(keep:List Nat)(e:List (Nat×AV))(σ:List (Nat×Blk))(n:Nat):norm m0 keep ⟨e,σ,n⟩=Dx m0 keep e σ (ig m0 σ σ.length (cg [] (geN m0 (fG e keep++ey σ (Cu m0 0))))):=by
 rw[<- NE m0 keep e σ n]
 have hE:∀ (f:Nat->Option Nat) (l:List Nat),(l.map fun i=>(i,((⟨e,σ,n⟩:St).E i).ren f))=rF f e l:=by
  intro f l
  induction l with
  | nil=>rfl
  | cons k r ih=>rw[WP,ih];rfl
 simp only[norm,Dx,hE,K6]
theorem NO (m0:Nat)(keep:List Nat)(e:List (Nat×AV))(σ:List (Nat×Blk))(x:Nat)(r:List Nat):Dx m0 keep e σ (x::r)=⟨rF (eD m0 (x::r)) e keep,fR m0 (eD m0 (x::r)) σ (Cu m0 0++(x::r)) 0,m0+(x::r).length⟩:=_root_.id rfl
theorem NN (m0:Nat)(keep:List Nat)(e:List (Nat×AV))(σ:List (Nat×Blk)):Dx m0 keep e σ []=⟨rF (eD m0 []) e keep,fR m0 (eD m0 []) σ (Cu m0 0) 0,m0⟩:=by
 simp only[Dx,W7];rfl
theorem yV (m0:Nat)(f:Nat->Option Nat)(σ:List (Nat×Blk))(k:Nat):fR m0 f σ [] k=[]:=_root_.id rfl
theorem tC (m0:Nat)(f:Nat->Option Nat)(σ:List (Nat×Blk))(r:Nat)(q:List Nat)(k:Nat):fR m0 f σ (r::q) k=(k,(lookB r σ).ren f)::fR m0 f σ q (k+1):=_root_.id rfl
theorem zN (m0:Nat)(os:List Nat)(r:Nat):eD m0 os r=if r<m0 then some r else Lt r os m0:=_root_.id rfl
theorem Eo (x y:Nat)(r:List Nat)(k:Nat):Lt x (y::r) k=if y=x then some k else Lt x r (k+1):=_root_.id rfl
def TY (o:Nat):Option Nat->AV
 | some q=>.ptr q o
 | none=>.any
def TX (a b c:Nat):Option Nat->AV
 | some q=>.row q a b c
 | none=>.any
def TZ (a:Nat)(l:List PV):Option Nat->AV
 | some q=>.olist q a l
 | none=>.pv (.list l)
theorem K8 (f:Nat->Option Nat)(p:PV):(AV.pv p).ren f = .pv p:=by simp only[AV.ren]
theorem Ng (f:Nat->Option Nat):AV.any.ren f = .any:=by simp only[AV.ren]
theorem Nd (f:Nat->Option Nat)(r o:Nat):(AV.ptr r o).ren f=TY o (f r):=by simp only[AV.ren,TY]<;>(cases f r<;>rfl)
theorem Nc (f:Nat->Option Nat)(r a b c:Nat):(AV.row r a b c).ren f=TX a b c (f r):=by simp only[AV.ren,TX]<;>(cases f r<;>rfl)
theorem QV (f:Nat->Option Nat)(r a:Nat)(l:List PV):(AV.olist r a l).ren f=TZ a l (f r):=by simp only[AV.ren,TZ]<;>(cases f r<;>rfl)
theorem Nf (f:Nat->Option Nat)(g:Nat)(fs cs:List AV):(AV.clo g fs cs).ren f = .clo g (AV.renL f fs) (AV.renL f cs):=by simp only[AV.ren]
theorem Cz (o q:Nat):TY o (some q) = .ptr q o:=_root_.id rfl
theorem Cy (a b c q:Nat):TX a b c (some q) = .row q a b c:=_root_.id rfl
theorem CA (a:Nat)(l:List PV)(q:Nat):TZ a l (some q) = .olist q a l:=_root_.id rfl
theorem HN (f:Nat->Option Nat):AV.renL f []=[]:=_root_.id rfl
theorem qU (f:Nat->Option Nat)(x:AV)(r:List AV):AV.renL f (x::r)=x.ren f::AV.renL f r:=by simp only[AV.renL]
theorem tD (f:Nat->Option Nat):∀ l:List PV,AV.renL f (l.map .pv)=l.map .pv
 | []=>rfl
 | x::r=>by rw[WP,qU,tD f r,K8]
theorem CC (f:Nat->Option Nat)(l:List PV):AV.renL f (bQ l)=bQ l:=tD f _
theorem yW (f:Nat->Option Nat)(T:Nat)(b:Bool)(l:List AV):(Blk.cells T b l).ren f = .cells T b (AV.renL f l):=_root_.id rfl
theorem HO (f:Nat->Option Nat)(e s:Nat):(Blk.tok e s).ren f = .tok e s:=_root_.id rfl
theorem CD (f:Nat->Option Nat):Blk.none.ren f = .none:=_root_.id rfl
theorem IG (A:List (Nat×Nat×Nat×Nat))(m0:Nat)(keep:List Nat)(s:St):fA A m0 keep s=norm m0 keep (Kp A s):=_root_.id rfl
theorem Ko (s:St):Kp [] s=s:=_root_.id rfl
theorem Gi (k e sz:Nat)(r:List (Nat×Nat×Nat×Nat))(env:List (Nat×AV))(σ:List (Nat×Blk))(n:Nat):Kp ((k,0,e,sz)::r) ⟨env,σ,n⟩=Kp r (PW k e sz ⟨env,σ,n⟩ (look k env)):=_root_.id rfl
theorem Gj (k j e sz:Nat)(r:List (Nat×Nat×Nat×Nat))(env:List (Nat×AV))(σ:List (Nat×Blk))(n:Nat):Kp ((k,j+1,e,sz)::r) ⟨env,σ,n⟩=Kp r (SU j e sz ⟨env,σ,n⟩ (look k env)):=_root_.id rfl
theorem Gn (k e sz:Nat)(env:List (Nat×AV))(σ:List (Nat×Blk))(n:Nat):PW k e sz ⟨env,σ,n⟩ (.pv .nils)=⟨(k,j0 n e sz)::env,(n,dD e sz)::σ,n+1⟩:=_root_.id rfl
theorem NQ {n e sz:Nat}(h:e<1000000):j0 n e sz = .olist n sz []:=if_pos h
theorem NP {n e sz:Nat}(h:1000000<=e):j0 n e sz = .row n sz 0 0:=if_neg (Nat.not_lt.2 h)
theorem IJ {e sz:Nat}(h:e<1000000):dD e sz = .tok e sz:=if_pos h
theorem II {e sz:Nat}(h:1000000<=e):dD e sz = .cells (e - 1000000) false []:=if_neg (Nat.not_lt.2 h)
theorem Pt (k e sz r a:Nat)(l:List PV)(s:St):PW k e sz s (.olist r a l)=s:=_root_.id rfl
theorem Kr (o e sz r b:Nat)(env:List (Nat×AV))(σ:List (Nat×Blk))(n:Nat):SU o e sz ⟨env,σ,n⟩ (.ptr r b)=accB r (b+o) e sz ⟨env,σ,n⟩ (lookB r σ):=_root_.id rfl
theorem A9 (r o e sz T:Nat)(f:Bool)(l:List AV)(s:St):accB r o e sz s (.cells T f l)=PU r T f l o e sz s l[o]?:=_root_.id rfl
theorem Gm (r T:Nat)(f:Bool)(l:List AV)(o e sz:Nat)(env:List (Nat×AV))(σ:List (Nat×Blk))(n:Nat):PU r T f l o e sz ⟨env,σ,n⟩ (some (.pv .nils))=⟨env,(r,.cells T f (l.set o (j0 n e sz)))::(n,dD e sz)::σ,n+1⟩:=_root_.id rfl
theorem Ks (r T:Nat)(f:Bool)(l:List AV)(o e sz:Nat)(s:St)(q a b c:Nat):PU r T f l o e sz s (some (.row q a b c))=s:=_root_.id rfl
theorem Ps (r T:Nat)(f:Bool)(l:List AV)(o e sz:Nat)(s:St)(q a:Nat)(k:List PV):PU r T f l o e sz s (some (.olist q a k))=s:=_root_.id rfl
theorem Wb {α:Type}(x y:α)(r:List α):(x::r).set 0 y=y::r:=_root_.id rfl
theorem Wa {α:Type}(x y:α)(r:List α)(n:Nat):(x::r).set (n+1) y=x::r.set n y:=_root_.id rfl
theorem TK (e e':List (Nat×AV))(σ σ':List (Nat×Blk))(n n':Nat):(St.mk e σ n=St.mk e' σ' n')=(e=e'/\σ=σ'/\n=n'):=by rw[St.mk.injEq]
theorem aK {α:Type}{l:List α}{m:Nat}{x:α}(h:l[m]? = some x):l.take (m+1)=l.take m++[x]:=by
 obtain⟨h1,h2⟩:=WH.1 h
 rw[List.take_succ_eq_append_getElem h1,h2]
def RL (cells:List AV)(off sz:Nat)(r:List (Nat×Nat×AV))(xc:List AV):Bool->Option (List AV)
 | true=>iF (cells.take off++xc++cells.drop (off+sz)) r
 | false=>none
theorem OE (cells:List AV)(off sz:Nat)(r:List (Nat×Nat×AV))(xc:List AV):RL cells off sz r xc true=iF (cells.take off++xc++cells.drop (off+sz)) r:=_root_.id rfl
theorem EX (cells:List AV):iF cells []=some cells:=_root_.id rfl
theorem Au (cells:List AV)(off sz:Nat)(x:AV)(r:List (Nat×Nat×AV)):iF cells ((off,sz,x)::r)=RL cells off sz r x.cells (x.known&&decide (x.cells.length=sz)&&decide (off+sz<=cells.length)):=by
 simp only[iF]
 by_cases h:x.known=true/\x.cells.length=sz/\off+sz<=cells.length
 ·rw[if_pos h,h.1,decide_eq_true h.2.1,decide_eq_true h.2.2];rfl
 ·rw[if_neg h]
  have:(x.known&&decide (x.cells.length=sz)&&decide (off+sz<=cells.length))=false:=by
   rw[Bool.eq_false_iff]
   intro hh
   simp only[WT,decide_eq_true_eq] at hh
   exact h ⟨hh.1.1,hh.1.2,hh.2⟩
  rw[this];rfl
theorem It (sz off:Nat)(cs:List AV):Q5 sz off cs=if off+sz<=cs.length then some (kO ((cs.drop off).take sz)) else none:=_root_.id rfl
section
variable {P:Program}{G:Nat->List PV}
end
theorem Fe (k:Nat):cB [] k=[]:=_root_.id rfl
theorem Az (b:Blk)(r:List Blk)(k:Nat):cB (b::r) k=(k,b)::cB r (k+1):=_root_.id rfl
theorem Ae (sto:List (Nat×Blk))(f:Nat->Option Nat):iq sto f [] []=True:=_root_.id rfl
theorem uE (sto:List (Nat×Blk))(f:Nat->Option Nat)(r:Nat)(rs:List Nat)(b:Blk)(bs:List Blk):iq sto f (r::rs) (b::bs)=(BlkZ (lookB r sto) (b.ren f)/\iq sto f rs bs):=_root_.id rfl
theorem Ix (f:Nat->Option Nat)(i:Nat)(g:Nat->Nat):qw f [] i g=[]:=_root_.id rfl
theorem Df (f:Nat->Option Nat)(b:Blk)(r:List Blk)(i:Nat)(g:Nat->Nat):qw f (b::r) i g=(g i,b.ren f)::qw f r (i+1) g:=_root_.id rfl
theorem Dz:fW []=[]:=_root_.id rfl
theorem zJ (r:Nat)(q:List Nat):fW (r::q)=(r,.none)::fW q:=_root_.id rfl
theorem RI (next:Nat)(rs:List Nat)(r:Nat):gSo next rs r=some (gIn next rs r):=_root_.id rfl
theorem On (next i:Nat):gIn next [] i=next+i:=_root_.id rfl
theorem Ut (next r:Nat)(q:List Nat):gIn next (r::q) 0=r:=_root_.id rfl
theorem Us (next r i:Nat)(q:List Nat):gIn next (r::q) (i+1)=gIn next q i:=_root_.id rfl
theorem GZ (n:Nat):((n:Int)+1).toNat=n+1:=by omega
def PI:List Nat->List Nat->List Nat
 | [],a=>a
 | x::r,a=>PI r (x::a)
theorem HL (a:List Nat):PI [] a=a:=_root_.id rfl
theorem qR (x:Nat)(r a:List Nat):PI (x::r) a=PI r (x::a):=_root_.id rfl
theorem Cv:∀ (l a:List Nat),l.reverse++a=PI l a
 | [],a=>rfl
 | x::r,a=>by rw[qR,<- Cv r (x::a)];simp
theorem Ec (l:List (Nat×Blk)):bm l.reverse=PI (bm l) []:=by
 rw[<- Cv,W7];simp[bm]
theorem au (A:List (Nat×Nat×Nat×Nat)){k:Nat}{v v':AV}{bs':List Blk}{sto':List (Nat×Blk)}{next':Nat}(h:StZ (fA A k [0] ⟨[(0,v')],sto',next'⟩) ⟨[(0,v)],cB bs' 0,bs'.length⟩):Oa k v bs' v' sto' next':=Wk.head h
section
variable {P:Program}{G:Nat->List PV}
theorem Gu (F:St->Prop)(s:St):VS F .norm s=F s:=_root_.id rfl
theorem Kb (b:ACode)(Q:AExit->St->Prop)(e:List (Nat×AV))(σ:List (Nat×Blk))(n:Nat):Pe (fun m=>vc P G m b) Q ⟨e,σ,n⟩=vc P G n b Q ⟨e,σ,n⟩:=_root_.id rfl
theorem Il (e:List (Nat×AV)):Im [] [] e=e:=_root_.id rfl
theorem C2 (p:Nat)(ps:List Nat)(x:PV)(xs:List PV)(e:List (Nat×AV)):Im (p::ps) (x::xs) e=Im ps xs ((p,.pv x)::e):=_root_.id rfl
def U5 {ι:Type}(A:List (Nat×Nat×Nat×Nat))(S:ι->St)(Inv:Nat->ι->Prop)(i m0:Nat)(keep:List Nat)(Q:AExit->St->Prop)(e0:List (Nat×AV)):AExit->St->Prop
 | .norm,s'=>∃ x',Hd A m0 keep ⟨e0,s'.sto,s'.next⟩ (S x')/\Inv (i+1) x'
 | .exit j,s'=>Q (.exit j) ⟨e0,s'.sto,s'.next⟩
 | .ret,s'=>Q .ret ⟨e0,s'.sto,s'.next⟩
theorem Gr {ι:Type}(A:List (Nat×Nat×Nat×Nat))(S:ι->St)(Inv:Nat->ι->Prop)(i m0:Nat)(keep:List Nat)(Q:AExit->St->Prop)(e0 e:List (Nat×AV))(σ:List (Nat×Blk))(n:Nat):U5 A S Inv i m0 keep Q e0 .norm ⟨e,σ,n⟩ = ∃ x',Hd A m0 keep ⟨e0,σ,n⟩ (S x')/\Inv (i+1) x':=_root_.id rfl
theorem Kv {ι:Type}(A:List (Nat×Nat×Nat×Nat))(S:ι->St)(Inv:Nat->ι->Prop)(i m0:Nat)(keep:List Nat)(Q:AExit->St->Prop)(e0 e:List (Nat×AV))(σ:List (Nat×Blk))(n:Nat):U5 A S Inv i m0 keep Q e0 .ret ⟨e,σ,n⟩=Q .ret ⟨e0,σ,n⟩:=_root_.id rfl
theorem RH:∀ (lb:List PV),pvs (lb.map AV.pv)=some lb
 | []=>rfl
 | p::r=>by simp[pvs,AV.toPV,RH r]
theorem KL {ι:Type}(A:List (Nat×Nat×Nat×Nat))(ch:ι->List (Nat×AV))(chB:ι->List (Nat×Blk))(Inv:Nat->ι->Prop)(x0:ι){gf:Nat}{lb:List PV}{xs:List (List PV)}(hs:U3 P G gf lb xs)
  {m0:Nat} {f:AX} {ps keep:List Nat} {a b:ACode} {Q:AExit->St->Prop} {s:St}
  (h:∀ e0 σ0 n0,fA A m0 keep s=⟨e0,σ0,n0⟩->StZ ⟨e0,σ0,n0⟩ ⟨iA e0 (ch x0),jX σ0 (chB x0),n0⟩/\Inv 0 x0/\ed (f.ev (fun i=>look i (iA e0 (ch x0))))=some (gf,[],lb.map AV.pv) /\
   (∀ i x y,xs[i]? = some y->Inv i x->y.length=ps.length/\vc P G n0 a (VS (Pe (fun m=>vc P G m b) (U5 A (fun x=>⟨iA e0 (ch x),jX σ0 (chB x),n0⟩) Inv i m0 keep Q (iA e0 (ch x))))) ⟨Im ps y (iA e0 (ch x)),jX σ0 (chB x),n0⟩) /\
   ∀ x,Inv xs.length x->Q .norm ⟨iA e0 (ch x),jX σ0 (chB x),n0⟩):vc P G m0 (.range f ps keep a b) Q s:=by
 obtain⟨h1,h2,h3,h4,h5⟩:=h (fA A m0 keep s).env (fA A m0 keep s).sto (fA A m0 keep s).next rfl
 let S:ι->St:=fun x=>⟨iA (fA A m0 keep s).env (ch x),jX (fA A m0 keep s).sto (chB x),(fA A m0 keep s).next⟩
 refine⟨fun i t=>∃ x,t=S x/\Inv i x,S x0,bl h1,⟨x0,rfl,h2⟩,?_⟩
 have e:ed (f.ev (S x0).E)=some (gf,[],lb.map AV.pv):=h3
 rw[e]
 refine⟨rfl,lb,xs,RH lb,hs,?_,?_⟩
 ·rintro i y t hy ⟨x,rfl,hx⟩
  obtain⟨k1,k2⟩:=h4 i x y hy hx
  refine⟨k1,dA a (fun e s hs=>?_) _ k2⟩
  cases e with
  | norm=>
    refine dA b (fun e s hs=>?_) s hs
    cases e with
    | norm=>
      obtain⟨x',q1,q2⟩:=hs
      exact⟨S x',q1,x',rfl,q2⟩
    | exit j=>exact hs
    | ret=>exact hs
  | exit j=>exact hs.elim
  | ret=>exact hs.elim
 ·rintro t ⟨x,rfl,hx⟩
  exact h5 x hx
end
attribute [push_cast] iP oU UD UE UF UG UH UI DR I3 Aa DT Uw Ux JM JN OI JP OH JL MF BV yM yL yK yJ tp yI tn Hn BW BX tm tl Hq Hr Nr Hm Hl BZ tq tO Hp Ho yH Nk Nl zc tN CR Nv Nw rg zd tM zb H3 CQ CP H4 tP tQ Fx F2 tG Ih H6 Ia H8 H7 Ig H9 Ib Ic Ie If CW CV CT CU Ii CX CY HY CN CS HX Nq Dp Wh Wg Nt C0 C1 zj wo MA yC GY GX NY ur uu NW un NX uo up rL FP A0 AZ sD ap AY FN FL AU AW FO uD Ac CO za N7 N6 yw yv z6 SC I0 A1 DO Ja D2 D1 uF DM zZ uA uB N0 Nn yZ qJ vU jO GM BM J2 J3 NC IL IP IM IQ J8 BD yy BB BC BA s9 Fm AG rp rq IH Ij RV RW Fk Hx HA Hz QN QM QL uw rP rO rR py pA Mt GJ BE AH uT OU rS uC rU rT pD pC NV IW IV zU Ed Aj OV AF FB AQ FC AS O0 O3 IZ Rn IF Gp Gq Ku vw vz Bb Mp Qe Mr OT Qc Ms GI Mq Qd IB Uk Ul HM Cx KG PC Nb QR QS QQ AM Cw yU In RE Eh El Ao An vu vv Ba C8 zr Dd zB C9 zw De zC t8 NG Re Ra NH Rc Rb NI IC H0 H1 map_take map_drop Dq zh SK Kh Pk lD AB AC uS UU SB FZ wz Di Dh Iy wy NB IA Iz zE q9 tZ zG zF Kl SL SG N5 I6 Ei RM Jv Jw Oy JC Jz EK EL Ow IR DD DC IS DE DF zO mz my ud rH zP Kn Gh Pp Pq Om xr sG jD Nj Ni sq p6 TW QP Dy zI NM NO NN yV tC zN Eo K8 Ng Nd Nc QV Nf Cz Cy CA HN qU tD CC yW HO CD IG Ko Gi Gj Gn NQ NP IJ II Pt Kr A9 Gm Ks Ps Wb Wa TK OE EX Au It Kd SJ F7 JV Fd F3 SE SF F6 Hu B2 Qm Fe Az Ae uE Ix Df Dz zJ RI On Ut Us GZ HL qR Ec W4 Nat.add_zero WG List.length_nil List.nil_append WQ W7 WS WW XC List.map_nil WP List.take_succ_cons List.take_zero List.drop_succ_cons List.drop_zero List.take_nil List.drop_nil List.all_cons List.all_nil Bool.and_true Bool.true_and Bool.and_false Bool.false_and Bool.not_true Bool.not_false decide_true decide_false Bool.not_not Int.natCast_add Int.cast_ofNat_Int Int.toNat_natCast WJ and_true true_and ge_iff_le WX Xr Nat.not_lt_zero and_self
attribute [push_cast] Gu Kb Il C2 Gr Kv
attribute [push_cast high] Int.cast_ofNat_Int
section
variable {P:Program}{G:Nat->List PV}
theorem Sh {b:Bool}(h:b=true):Chk b:=h
theorem rj:∀ l:List PV,pvs (l.map .pv)=some l
 | []=>rfl
 | x::r=>by simp[pvs,AV.toPV,rj r]
end
section
variable {α β:Type}
theorem dm {l:List α}{m:Nat}{x:α}(h:l[m]? = some x):l.drop m=x::l.drop (m+1):=by
 obtain⟨h1,h2⟩:=WH.1 h
 rw[List.drop_eq_getElem_cons h1,h2]
theorem JW {l:List α}{m:Nat}(h:¬ m<l.length):l.drop m=[]:=List.drop_eq_nil_of_le (by omega)
def j6 (p:α->Bool):List α->Nat->Int
 | [],_=>-1
 | x::r,m=>if p x=true then (m:Int) else j6 p r (m+1)
theorem mR {l:List α}{m:Nat}{x:α}{p:α->Bool}(h:l[m]? = some x)(hp:p x=true):j6 p (l.drop m) m=m:=by
 rw[dm h,j6,if_pos hp]
theorem jn {l:List α}{m:Nat}{x:α}{p:α->Bool}(h:l[m]? = some x)(hp:p x=false):j6 p (l.drop m) m=j6 p (l.drop (m+1)) (m+1):=by
 rw[dm h,j6,if_neg (by rw[hp];simp)]
theorem mS {l:List α}{m:Nat}{p:α->Bool}(h:¬ m<l.length):j6 p (l.drop m) m = -1:=by rw[JW h];rfl
theorem fE {p:α->Bool}:∀ (l:List α) (m:Nat),(l.find? p=none/\j6 p l m = -1)\/∃ (k:Nat) (x:α),l[k]? = some x/\l.find? p=some x/\j6 p l m=((m+k:Nat):Int)
 | [],m=>.inl ⟨rfl,rfl⟩
 | x::r,m=>by
   cases hx:p x with
   | true=>exact .inr ⟨0,x,rfl,by rw[List.find?_cons,hx],by rw[j6,if_pos hx];rfl⟩
   | false=>
     rw[List.find?_cons,hx,j6,if_neg (by rw[hx];simp)]
     rcases fE r (m+1) with ⟨h1,h2⟩ | ⟨k,y,h1,h2,h3⟩
     ·exact .inl ⟨h1,h2⟩
     ·exact .inr ⟨k+1,y,by simpa using h1,h2,by rw[h3];congr 1;omega⟩
theorem lp {p:α->Bool}(l:List α):(l.find? p).isSome=l.any p:=by
 induction l with
 | nil=>rfl
 | cons x r ih=>rw[List.find?_cons,List.any_cons];cases p x<;>simp[ih]
def VW:Option (List UInt8)->Option AV
 | some l=>some (.pv (.str l))
 | none=>none
def LP (n:Int):Option (List UInt8)->Option (List UInt8)
 | some l=>some (Xn n.toNat::l)
 | none=>none
theorem Dl (l:List UInt8):VW (some l)=some (.pv (.str l)):=_root_.id rfl
theorem m9 (n:Int)(l:List UInt8):LP n (some l)=some (Xn n.toNat::l):=_root_.id rfl
theorem My:u8s []=some []:=_root_.id rfl
theorem vJ (n:Int)(r:List PV):u8s (.int .u8 n::r)=LP n (u8s r):=by
 simp only[u8s];cases u8s r<;>rfl
theorem iQ:∀ l:List UInt8,u8s (l.map fun b=>PV.int .u8 (b.toNat:Int))=some l
 | []=>rfl
 | b::r=>by rw[WP,vJ,iQ r,m9];simp
theorem GW (σ:aE)(r:Nat)(l:List PV):i8 σ (.olist r 1 l)=VW (u8s l):=by
 simp only[i8,cn,if_true];cases u8s l<;>rfl
end
theorem zY (G:Nat->List PV)(e:List (Nat×AV))(σ:List (Nat×Blk))(new:Nat)(x:AX):pB G e σ new (.toStr x)=iu [] (i8 (fun r=>lookB r σ) (evE e x)):=by
 simp only[pB];cases i8 (fun r=>lookB r σ) (evE e x)<;>rfl
theorem iV {a b:Int}(h:0<=a):a.tdiv b=a / b:=Int.tdiv_eq_ediv_of_nonneg h
theorem kr {a b:Int}(h:0<=a):a.tmod b=a % b:=Int.tmod_eq_emod_of_nonneg h
def Ka:Option UInt8->Option AV
 | some b=>some (.pv (.int .u8 (b.toNat:Int)))
 | none=>none
theorem aq (b:UInt8):Ka (some b)=some (.pv (.int .u8 (b.toNat:Int))):=_root_.id rfl
theorem jS (l:List UInt8)(k:IntKind)(i:Nat):jc (.pv (.str l)) (.pv (.int k (i:Int)))=Ka l[i]?:=by
 simp only[jc,Int.toNat_natCast]
 rw[if_pos (by omega)]
 cases l[i]? <;> rfl
theorem tJ (l:List UInt8)(k:IntKind):jc (.pv (.str l)) (.pv (.int k 0))=Ka l[0]?:=jS l k 0
theorem tK (l:List UInt8)(k:IntKind)(i:Nat):jc (.pv (.str l)) (.pv (.int k ((i:Int)+1)))=Ka l[i+1]?:=jS l k (i+1)
attribute [push_cast] aq jS tJ tK zY iV kr Dl m9 My vJ iQ GW
open Go.Sort
theorem cS {P:Program}{G:Nat->List PV}{f:Nat}{args:List PV}{r:PV}(hc:cx P f=true)
  (h:∀ (w:World) (imm:Nat->Nat->Prop) (vals:Array Value),dd G w imm->vals.size=args.length->(∀ (i:Nat) (x:PV),args[i]? = some x->PRel w imm x (vals.getD i Go.undef)) ->
   Calls P f vals w fun e w'=>∃ u,e = .returned u/\Below w.heap.size w w'/\PRel w' imm r u):am P G f args r:=by
 refine⟨hc,fun w imm vals hG hlt hsz hargs=>(h w imm vals hG hsz hargs).mono ?_⟩
 rintro e w' ⟨u,rfl,hb,hr⟩
 exact⟨u,imm,rfl,hb,fun _ _ h=>h,fun _ _ h=>.inl h,fun b o h=>Nat.lt_of_lt_of_le (hlt b o h) hb.size,hr⟩
theorem dV {w:World}{imm:Nat->Nat->Prop}{l:List UInt8}(h:l.length<=maxLen):PRel w imm (.str l) (.string ⟨l.toArray⟩):=by
 have:=PRel.str (w:=w) (imm:=imm) ⟨l.toArray⟩ (by show l.toArray.size<=maxLen;simpa using h)
 simpa using this
theorem jK {w:World}{imm:Nat->Nat->Prop}{l:List UInt8}{v:Value}(h:PRel w imm (.str l) v):v = .string ⟨l.toArray⟩/\l.length<=maxLen:=by
 cases h with
 | str s hs=>exact⟨by simp,hs⟩
theorem BF {vals:Array Value}(h:vals.size=1):vals = #[vals.getD 0 Go.undef]:=by
 apply Array.ext
 ·simp[h]
 ·intro i h1 h2
  have:i=0:=by omega
  subst this
  simp[WM,h]
theorem vD {vals:Array Value}(h:vals.size=2):vals = #[vals.getD 0 Go.undef,vals.getD 1 Go.undef]:=by
 apply Array.ext
 ·simp[h]
 ·intro i h1 h2
  have:i=0\/i=1:=by omega
  rcases this with rfl | rfl<;>simp[WM,h]
def bI:Nat->Nat->List UInt8
 | 0,_=>[]
 | n+1,k=>if k<10 then [Xn (48+k)] else bI n (k / 10)++[Xn (48+k % 10)]
def aN (n:Int):List UInt8:=if n<0 then 45::bI 20 n.natAbs else bI 20 n.toNat
theorem gG:∀ (f k:Nat),k<10 ^ f->0<f->bI f k=Lib.decDigits k
 | 0,k,_,h=>absurd h (by simp)
 | f+1,k,hk,_=>by
   rw[bI,Lib.decDigits]
   by_cases h:k<10
   ·simp[h]
   ·rw[if_neg h,dif_neg h]
    have h10:k / 10<10 ^ f:=by
     rw[Nat.pow_succ] at hk
     exact Nat.div_lt_of_lt_mul (by rw[Nat.mul_comm];exact hk)
    rw[gG f (k / 10) h10 (by
     rcases Nat.eq_zero_or_pos f with h0 | h0
     ·subst h0
      simp at hk
      omega
     ·exact h0)]
theorem kg:∀ (f k:Nat),(bI f k).length<=f
 | 0,k=>by simp[bI]
 | f+1,k=>by
   rw[bI]
   split
   ·simp
   ·have:=kg f (k / 10)
    simp;omega
theorem xa {n:Int}(h0:-9223372036854775808<=n)(h1:n<=9223372036854775807):aN n=Lib.itoa n:=by
 have e:(10:Nat) ^ 20=100000000000000000000:=by decide
 unfold aN Lib.itoa
 split
 ·rw[gG 20 n.natAbs (by rw[e];omega) (by decide)]
 ·rw[gG 20 n.toNat (by rw[e];omega) (by decide)]
theorem mJ (n:Int):(aN n).length<=21:=by
 unfold aN
 split
 ·have:=kg 20 n.natAbs
  simp;omega
 ·have:=kg 20 n.toNat
  omega
theorem Hk {P:Program}{G:Nat->List PV}{w:World}{imm:Nat->Nat->Prop}{name:String}{k:IntKind}{zs:List Int}{g:Nat}(hn:P.globalNamed name=some g)(hG:G g=zs.map (PV.int k))(hz:zs≠[])(h:dd G w imm) :
  Lib.TabIs P w name k zs:=by
 obtain⟨cs,T,fz,h1,h2⟩:=h.2 g (by rw[hG];simpa using hz)
 have hcs:cs=(zs.map fun z=>Value.int k z).toArray:=by
  rw[hG] at h2
  simp only[XC] at h2
  apply Array.ext
  ·simp[h2]
  ·intro i hi hi'
   have hiz:i<zs.length:=by omega
   obtain⟨_,v,h3,_,h4⟩:=h.1 g i (.int k zs[i]) (by rw[hG];simp[hiz])
   have hv:v = .int k zs[i]:=by cases h4;rfl
   have hc:=cell_of_row w g i cs T fz h1
   rw[h3,hv] at hc
   have:=(Array.getElem?_eq_some_iff.1 hc.symm).2
   simp[this]
 unfold Lib.TabIs World.var?
 rw[hn]
 simp only[Option.bind_some,h1]
 rw[hcs]
theorem Ef {P:Program}{G:Nat->List PV}{f g:Nat}{name:String}(hc:cx P f=true)(hn:P.globalNamed name=some g)(hG:G g=Lib.pow10Tab.map (PV.int .u64))
  (h:∀ (n:Int) (h0:-9223372036854775808<=n) (h1:n<=9223372036854775807) (w:World) (htab:Lib.TabIs P w name .u64 Lib.pow10Tab),
   Calls P f #[.int .i64 n] w fun e w'=>e = .returned (.string ⟨(Lib.itoa n).toArray⟩)/\∃ k os,w'=Sort.grow (w.drewN k) os)
  (n:Int) (h0:-9223372036854775808<=n) (h1:n<=9223372036854775807):am P G f [.int .i64 n] (.str (aN n)):=by
 refine cS hc fun w imm vals hGl hsz hargs=>?_
 have hv:=BF hsz
 have h2:=hargs 0 (.int .i64 n) rfl
 have h3:vals.getD 0 Go.undef = .int .i64 n:=by
  generalize vals.getD 0 Go.undef=x at h2
  cases h2;rfl
 rw[hv,h3]
 refine (h n h0 h1 w (Hk hn hG (by
  intro e
  have:=congrArg List.length e
  rw[Lib.pow10Tab_length] at this
  simp at this) hGl)).mono ?_
 rintro e w' ⟨rfl,k,os,rfl⟩
 refine⟨_,rfl,Lib.below_grow _ w (WX _) k os,?_⟩
 rw[xa h0 h1,<- xa h0 h1]
 refine dV ?_
 have:=mJ n
 unfold maxLen;omega
def aM (sep:List UInt8):List (List UInt8)->List UInt8
 | []=>[]
 | [x]=>x
 | x::y::r=>x++sep++aM sep (y::r)
theorem pL (sep:List UInt8):∀ (l:List (List UInt8)),aM sep l=Lib.join l sep
 | []=>rfl
 | [x]=>(Lib.join_one x sep).symm
 | x::y::r=>by
   rw[aM,pL sep (y::r),Lib.join_cons,Lib.join_cons]
   simp[Lib.joinTail]
theorem Ee {P:Program}{G:Nat->List PV}{f:Nat}(hc:cx P f=true)
  (h0:∀ (a:Option Addr) (c:Nat) (sep:ByteArray) (w:World),Calls P f #[.slice a 0 c,.string sep] w fun e w'=>e = .returned (.string ⟨#[]⟩)/\w'=w)
  (h:∀ (bk o c:Nat) (xs:List ByteArray) (sep:ByteArray) (w:World) (hcells:∀ (j:Nat) x,xs[j]? = some x->w.cell? ⟨bk,o+j,none⟩=some (.string x)) (hbk:bk<w.heap.size) (hN:xs.length<=140737488355328) (hcap:xs.length<=c) (hlen:(Lib.join (xs.map (·.data.toList)) sep.data.toList).length<=140737488355328),
   Calls P f #[.slice (some ⟨bk,o,none⟩) xs.length c,.string sep] w fun e w'=>e = .returned (.string ⟨(Lib.join (xs.map (·.data.toList)) sep.data.toList).toArray⟩)/\Below w.heap.size w w')
  (l:List (List UInt8)) (sep:List UInt8) (hN:l.length<=140737488355328) (hlen:(aM sep l).length<=140737488355328):am P G f [.list (l.map .str),.str sep] (.str (aM sep l)):=by
 refine cS hc fun w imm vals hGl hsz hargs=>?_
 have hv:=vD hsz
 have hl:=hargs 0 (.list (l.map .str)) rfl
 obtain⟨hs,hsl⟩:=jK (hargs 1 (.str sep) rfl)
 rw[hv,hs]
 generalize vals.getD 0 Go.undef=u at hl
 generalize hL:l.map PV.str=L at hl
 cases hl with
 | lnil A c hcm=>
   have:l=[]:=by cases l with
    | nil=>rfl
    | cons x r=>simp at hL
   subst this
   refine (h0 A c _ w).mono ?_
   rintro e w' ⟨rfl,rfl⟩
   exact⟨_,rfl,Below.refl _ _,dV (by simp[aM])⟩
 | list _ b off c sz g k1 k2 k3 k4 k5=>
   have hlen':L.length=l.length:=by rw[<- hL];simp
   by_cases hne:l=[]
   ·subst hne
    simp at hL
    subst hL
    refine (h0 _ c _ w).mono ?_
    rintro e w' ⟨rfl,rfl⟩
    exact⟨_,rfl,Below.refl _ _,dV (by simp[aM])⟩
   ·have hget:∀ (i:Nat) (s:List UInt8),l[i]? = some s->L[i]? = some (.str s):=by
     intro i s hi
     rw[<- hL];simp[hi]
    have hpos:0<l.length:=List.length_pos_iff.2 hne
    have hsz1:sz=1:=(k3 0 _ (hget 0 _ (WE hpos))).symm
    subst hsz1
    have hcell:∀ (i:Nat) (s:List UInt8),l[i]? = some s->w.cell? ⟨b,off+i,none⟩=some (.string ⟨s.toArray⟩):=by
     intro i s hi
     obtain⟨_,q2,_⟩:=k4 i (.str s) 0 (.str s) (hget i s hi) rfl
     have q3:=k5 i (.str s) 0 (.str s) (hget i s hi) rfl
     rw[(jK q3).1] at q2
     simpa using q2
    have hbk:b<w.heap.size:=World.block_lt_of_cell? w _ (hcell 0 _ (WE hpos))
    have hmap:(l.map fun s=>(⟨s.toArray⟩:ByteArray)).map (·.data.toList)=l:=by
     rw[List.map_map]
     have:((fun (x:ByteArray)=>x.data.toList)∘fun (s:List UInt8)=>(⟨s.toArray⟩:ByteArray))=id:=by funext s;simp
     rw[this,List.map_id]
    have:=h b off c (l.map fun s=>⟨s.toArray⟩) ⟨sep.toArray⟩ w (fun j x hx=>by
     simp only[WW,Option.map_eq_some_iff] at hx
     obtain⟨s,hs,rfl⟩:=hx
     exact hcell j s hs) hbk (by simpa using hN) (by simp;omega) (by
     rw[hmap]
     rw[pL] at hlen
     simpa using hlen)
    rw[hmap] at this
    simp only[XC] at this
    rw[hlen']
    refine this.mono ?_
    rintro e w' ⟨rfl,hb⟩
    refine⟨_,rfl,hb,?_⟩
    have e:Lib.join l (⟨sep.toArray⟩:ByteArray).data.toList=aM sep l:=by rw[pL]
    rw[e]
    exact dV (by unfold maxLen;omega)
theorem sC {P:Program}{G:Nat->List PV}{f:Nat}(hc:cx P f=true)
  (h:∀ (a b:ByteArray) (w:World),Calls P f #[.string a,.string b] w fun e w'=>e = .returned (.int .i64 (Lib.compareBytes a.data.toList b.data.toList))/\w'=w) (a b:List UInt8) :
  am P G f [.str a,.str b] (.int .i64 (Lib.compareBytes a b)):=by
 refine cS hc fun w imm vals hGl hsz hargs=>?_
 have hv:=vD hsz
 obtain⟨ha,_⟩:=jK (hargs 0 (.str a) rfl)
 obtain⟨hb,_⟩:=jK (hargs 1 (.str b) rfl)
 rw[hv,ha,hb]
 refine (h _ _ w).mono ?_
 rintro e w' ⟨rfl,rfl⟩
 refine⟨_,rfl,Below.refl _ _,?_⟩
 simpa using PRel.int (w:=w') (imm:=imm) .i64 (Lib.compareBytes a b)
def decP (l:List UInt8):Nat×Nat:=
 if l=[] then (0,0) else if Lib.decodeL l=(65533,1) then (0,0) else Lib.decodeL l
theorem take_2 {l:List UInt8}{a b:UInt8}(h0:l[0]? = some a)(h1:l[1]? = some b):l.take 2=[a,b]:=by
 rw[aK h1,aK h0];rfl
theorem take_3 {l:List UInt8}{a b c:UInt8}(h0:l[0]? = some a)(h1:l[1]? = some b)(h2:l[2]? = some c):l.take 3=[a,b,c]:=by
 rw[aK h2,take_2 h0 h1];rfl
section
variable {P:Program}{G:Nat->List PV}
end
theorem Kg {e sz by_ new:Nat}{σ:aE}{y:PV}{r:List PV}(h1:r.length+1<=9223372036854775807)(h2:(r.length+1)*by_<=140737488355328):kH true e sz by_ new σ (.pv .nils) (some (y::r))=some (.row new sz 0 (r.length+1),[(new,.cells e false (bQ (y::r)))]):=by
 simp only[kH];rw[if_pos (jO (by omega) (by simpa using h2))]
section
variable (e:List (Nat×AV))(σ:List (Nat×Blk))(new:Nat)
theorem Rr (G:Nat->List PV)(o:XOp):pB G e σ new (.xop o)=kX e σ new o:=_root_.id rfl
theorem I1 (o:XOp):il e (.xop o)=qB e o:=_root_.id rfl
end
attribute [push_cast] Kg Rr I1

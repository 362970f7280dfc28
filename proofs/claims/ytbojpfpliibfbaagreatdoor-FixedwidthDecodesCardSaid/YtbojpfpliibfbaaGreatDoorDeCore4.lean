/- A program logic over the model: part 4 (a proof is built on it; nothing of the statement is said here). -/
import Derived.Test.YtbojpfpliibfbaaGreatDoorDeCore3
set_option linter.unusedVariables false
set_option linter.unusedSimpArgs false
namespace Go.Ab
open Go Go.RowKit
def iA (n e sz:Nat):AV:=if e<1000000 then .olist n sz [] else .row n sz 0 0
def cN (e sz:Nat):Blk:=if e<1000000 then .tok e sz else .cells (e - 1000000) false []
def L5 (k:Nat)(e sz:Nat)(s:St):AV->St
 | .pv .nils=>⟨(k,iA s.next e sz)::s.env,(s.next,cN e sz)::s.sto,s.next+1⟩
 | _=>s
def L4 (r T:Nat)(f:Bool)(l:List AV)(o e sz:Nat)(s:St):Option AV->St
 | some (.pv .nils)=>⟨s.env,(r,.cells T f (l.set o (iA s.next e sz)))::(s.next,cN e sz)::s.sto,s.next+1⟩
 | _=>s
def accB (r o e sz:Nat)(s:St):Blk->St
 | .cells T f l=>L4 r T f l o e sz s l[o]?
 | _=>s
def accP (o e sz:Nat)(s:St):AV->St
 | .ptr r b=>accB r (b+o) e sz s (lookB r s.sto)
 | _=>s
def Rs (p:Nat×Nat×Nat×Nat)(s:St):St:=
 match p.2.1 with
 | 0=>L5 p.1 p.2.2.1 p.2.2.2 s (look p.1 s.env)
 | j+1=>accP j p.2.2.1 p.2.2.2 s (look p.1 s.env)
def Ho:List (Nat×Nat×Nat×Nat)->St->St
 | [],s=>s
 | p::r,s=>Ho r (Rs p s)
section
variable {P:Program}{c:Ctx}{κ0 κ:Kap}{N:Nat}{s:St}{a:Act}{w:World}
theorem Hp {σ0:aw}(hS:SRel c κ σ0){new:Nat}(hn:κ.nm new=none)(e sz:Nat) :
  Done c κ ⟨κ.w,fun r=>if r=new then some (.own (.slice none 0 0)) else κ.nm r,κ.imm⟩ new /\
  SRel c ⟨κ.w,fun r=>if r=new then some (.own (.slice none 0 0)) else κ.nm r,κ.imm⟩ (aw.set σ0 new (cN e sz)) /\
  ARel ⟨κ.w,fun r=>if r=new then some (.own (.slice none 0 0)) else κ.nm r,κ.imm⟩ (iA new e sz) (.slice none 0 0):=by
 unfold iA cN
 split
 ·exact DE hS hn e sz
 ·exact nW hS hn (e - 1000000) sz
theorem HE (e sz:Nat)(env:List (Nat×AV))(sto:List (Nat×Blk))
  (henv:∀ (κ κ':Kap),Ext κ κ'->ARel κ' (iA s.next e sz) (.slice none 0 0)->∀ (a:Act),(∀ i,ARel κ (s.E i) (a.tmps.getD i Go.undef))->∀ i,ARel κ' (look i env) (a.tmps.getD i Go.undef))
  (hsto:∀ (c:Ctx) (κ':Kap),(∀ r T f l,s.σ r = .cells T f l->r≠s.next)->ARel κ' (iA s.next e sz) (.slice none 0 0)->SRel c κ' (aw.set s.σ s.next (cN e sz))->(∀ r,s.next<r->κ'.nm r=none)->SRel c κ' (fun r=>lookB r sto)):Wx s ⟨env,sto,s.next+1⟩:=by
 intro c κ0 κ N a w h
 obtain⟨h1,h2,h3⟩:=Hp h.rel (h.fresh s.next (Nat.le_refl _)) e sz
 have hfr:∀ r,s.next<r->(if r=s.next then some (Den.own (Value.slice none 0 0)) else κ.nm r)=none:=by
  intro r hr
  rw[if_neg (by omega)]
  exact h.fresh r (by omega)
 exact⟨_,h1.ext,h.w_eq,h.ext0.trans h1.ext,hsto c _ (fun r T f l hr hn=>by
  have hB:=h.rel.blk r
  rw[hr] at hB
  rcases hB with ⟨_,_,h1⟩ | ⟨b,n,cs,h1,_⟩<;>(rw[hn,h.fresh s.next (Nat.le_refl _)] at h1;cases h1)) h3 h2 hfr,h1.left _ h.left,henv κ _ h1.ext h3 a h.env,h.size,h.defers.ext h1.ext,fun r hr=>hfr r hr⟩
theorem tF {v:Value}(h:ARel κ (.pv .nils) v):v = .slice none 0 0:=by cases aF h;rfl
theorem IB (k e sz:Nat)(s:St):Wx s (L5 k e sz s (look k s.env)):=by
 unfold L5
 split
 ·rename_i hk
  refine HE e sz _ _ (fun κ κ' he ho a henv i=>?_) (fun c κ' _ ho hS _=>?_)
  ·simp only[look]
   split
   ·rename_i hi
    subst hi
    have:=henv k
    rw[show s.E k=look k s.env from rfl,hk] at this
    rw[tF this]
    exact ho
   ·exact (henv i).ext he
  ·have:(fun r=>lookB r ((s.next,cN e sz)::s.sto))=aw.set s.σ s.next (cN e sz):=by
    funext r
    simp only[lookB,aw.set,St.σ]
    by_cases h:s.next=r
    ·simp[h]
    ·rw[if_neg h,if_neg (fun e=>h e.symm)]
   rw[this];exact hS
 ·exact Wx.refl s
theorem C6 {κ:Kap}{r T:Nat}{f:Bool}{l:List AV}{o:Nat}{y:AV}(h:eA κ r (.cells T f l))(hy:∀ v x,l[o]? = some x->ARel κ x v->ARel κ y v):eA κ r (.cells T f (l.set o y)):=by
 rcases h with ⟨h1,h2,h3⟩ | ⟨b,n,cs,h1,h2,h3,h4,h7,h5,h6⟩
 ·exact .inl ⟨h1,by rw[h2];rfl,h3⟩
 refine .inr ⟨b,n,cs,h1,h2,h3,by simpa using h4,by simpa using h7,fun j x hx=>?_,h6⟩
 rw[List.getElem?_set] at hx
 split at hx
 ·rename_i hj
  subst hj
  split at hx
  ·rename_i hlt
   cases hx
   exact hy _ _ (List.getElem?_eq_getElem hlt) (h5 o _ (List.getElem?_eq_getElem hlt))
  ·cases hx
 ·exact h5 j x hx
theorem IC (r o e sz:Nat)(s:St):Wx s (accB r o e sz s (lookB r s.sto)):=by
 unfold accB
 split
 ·rename_i T f l hl
  unfold L4
  split
  ·rename_i ho
   refine HE e sz _ _ (fun κ κ' he ho a henv i=>(henv i).ext he) (fun c κ' hcl hol hS hfr=>?_)
   have hr:=hcl r T f l hl
   have hB:=hS.blk r
   have hσr:aw.set s.σ s.next (cN e sz) r = .cells T f l:=by simp only[aw.set,hr,if_false];exact hl
   rw[hσr] at hB
   have hnew:(fun q=>lookB q ((r,Blk.cells T f (l.set o (iA s.next e sz)))::(s.next,cN e sz)::s.sto))=aw.set (aw.set s.σ s.next (cN e sz)) r (.cells T f (l.set o (iA s.next e sz))):=by
    funext q
    simp only[lookB,aw.set,St.σ]
    by_cases h:r=q
    ·rw[if_pos h,if_pos h.symm]
    ·have h1:¬ q=r:=fun e=>h e.symm
     rw[if_neg h,if_neg h1]
     by_cases h':s.next=q
     ·have h2:q=s.next:=h'.symm
      rw[if_pos h',if_pos h2]
     ·have h2:¬ q=s.next:=fun e=>h' e.symm
      rw[if_neg h',if_neg h2]
   rw[hnew]
   have hz:∀ q,(aw.set (aw.set s.σ s.next (cN e sz)) r (.cells T f (l.set o (iA s.next e sz)))) q≠.none->(aw.set s.σ s.next (cN e sz)) q≠.none:=by
    intro q hq
    by_cases h:q=r
    ·subst h;rw[hσr];simp
    ·simpa[aw.set,h] using hq
   refine⟨fun q=>?_,fun q q' d d' b' h1 h2=>hS.apart q q' d d' b' (hz q h1) (hz q' h2),fun q d b' h1=>hS.mine q d b' (hz q h1),hS.immLt,hS.glob⟩
   by_cases h:q=r
   ·subst h
    simp only[aw.set,if_true]
    refine C6 hB fun v x hx hv=>?_
    rw[ho] at hx;cases hx
    rw[tF hv];exact hol
   ·have:=hS.blk q
    simp only[aw.set,h,if_false] at this ⊢
    exact this
  ·exact Wx.refl s
 ·exact Wx.refl s
theorem IA (k o e sz:Nat)(s:St):Wx s (accP o e sz s (look k s.env)):=by
 unfold accP
 split
 ·exact IC _ _ _ _ s
 ·exact Wx.refl s
theorem ID (p:Nat×Nat×Nat×Nat)(s:St):Wx s (Rs p s):=by
 unfold Rs
 split
 ·exact IB _ _ _ s
 ·exact IA _ _ _ _ s
theorem yq:∀ (l:List (Nat×Nat×Nat×Nat)) (s:St),Wx s (Ho l s)
 | [],s=>Wx.refl s
 | p::r,s=>(ID p s).trans (yq r _)
inductive AVz:AV->AV->Prop
 | refl (x:AV):AVz x x
 | any (x:AV):AVz x .any
 | pv (p q:PV):Nz p q->AVz (.pv p) (.pv q)
 | olist (r sz:Nat) (l k:List PV):NzL l k->AVz (.olist r sz l) (.olist r sz k)
 | list (r sz:Nat) (l k:List PV):NzL l k->AVz (.olist r sz l) (.pv (.list k))
inductive AVzL:List AV->List AV->Prop
 | nil:AVzL [] []
 | cons (x y:AV) (r q:List AV):AVz x y->AVzL r q->AVzL (x::r) (y::q)
theorem AVz.rel {κ:Kap}{x y:AV}{v:Value}(h:AVz x y)(hr:ARel κ x v):ARel κ y v:=by
 cases h with
 | refl=>exact hr
 | any=>exact .any v
 | pv p q hq=>exact .pv _ _ ((aF hr).nz hq)
 | olist r sz l k hq=>
   cases hr with
   | olist _ _ _ _ hn hp hs=>
     refine .olist _ _ _ _ hn (hp.nz (.list _ _ hq)) fun y hy=>?_
     obtain⟨i,hi⟩:=List.getElem?_of_mem hy
     obtain⟨x,hx,hxy⟩:=hq.get i y hi
     rw[<- hs x (List.mem_of_getElem? hx),hxy.cells.length]
 | list r sz l k hq=>
   cases hr with
   | olist _ _ _ _ hn hp hs=>exact .pv _ _ (hp.nz (.list _ _ hq))
theorem AVzL.length:∀ {l k:List AV},AVzL l k->l.length=k.length
 | [],_,h=>by cases h;rfl
 | x::r,_,h=>by cases h with | cons _ y _ q _ h2=>simp[AVzL.length h2]
theorem AVzL.get:∀ {l k:List AV},AVzL l k->∀ (i:Nat) (y:AV),k[i]? = some y->∃ x,l[i]? = some x/\AVz x y
 | [],_,h,i,y,hy=>by cases h;simp at hy
 | x::r,_,h,i,y,hy=>by
   cases h with
   | cons _ y' _ q h1 h2=>
     cases i with
     | zero=>simp at hy;subst hy;exact⟨x,rfl,h1⟩
     | succ i=>exact AVzL.get h2 i y (by simpa using hy)
inductive AVzP:List AV->List AV->Prop
 | nil (l:List AV):AVzP l []
 | cons (x y:AV) (r q:List AV):AVz x y->AVzP r q->AVzP (x::r) (y::q)
theorem AVzP.length:∀ {l k:List AV},AVzP l k->k.length<=l.length
 | _,[],_=>Nat.zero_le _
 | _,y::q,h=>by cases h with | cons x _ r _ _ h2=>simp;exact AVzP.length h2
theorem AVzP.get:∀ {l k:List AV},AVzP l k->∀ (i:Nat) (y:AV),k[i]? = some y->∃ x,l[i]? = some x/\AVz x y
 | _,[],h,i,y,hy=>by simp at hy
 | _,y'::q,h,i,y,hy=>by
   cases h with
   | cons x _ r _ h1 h2=>
     cases i with
     | zero=>simp at hy;subst hy;exact⟨x,rfl,h1⟩
     | succ i=>exact AVzP.get h2 i y (by simpa using hy)
theorem AVzP.of_l:∀ {l k:List AV},AVzL l k->AVzP l k
 | [],_,h=>by cases h;exact .nil _
 | x::r,_,h=>by cases h with | cons _ y _ q h1 h2=>exact .cons _ _ _ _ h1 (AVzP.of_l h2)
inductive EnvZ:List (Nat×AV)->List (Nat×AV)->Prop
 | nil:EnvZ [] []
 | cons (k:Nat) (x y:AV) (r q:List (Nat×AV)):AVz x y->EnvZ r q->EnvZ ((k,x)::r) ((k,y)::q)
inductive BlkZ:Blk->Blk->Prop
 | refl (b:Blk):BlkZ b b
 | none (b:Blk):BlkZ b .none
 | cells (T:Nat) (f:Bool) (l k:List AV):AVzL l k->BlkZ (.cells T f l) (.cells T f k)
 | pre (T:Nat) (f:Bool) (l k:List AV):AVzP l k->BlkZ (.cells T f l) (.cells T false k)
inductive StoZ:List (Nat×Blk)->List (Nat×Blk)->Prop
 | nil:StoZ [] []
 | cons (k:Nat) (x y:Blk) (r q:List (Nat×Blk)):BlkZ x y->StoZ r q->StoZ ((k,x)::r) ((k,y)::q)
theorem EnvZ.look:∀ {e e':List (Nat×AV)},EnvZ e e'->∀ i,AVz (look i e) (look i e')
 | [],_,h,i=>by cases h;exact .refl _
 | (k,x)::r,_,h,i=>by
   cases h with
   | cons _ _ y _ q h1 h2=>
     simp only[Go.Ab.look]
     split
     ·exact h1
     ·exact EnvZ.look h2 i
theorem StoZ.look:∀ {e e':List (Nat×Blk)},StoZ e e'->∀ i,BlkZ (lookB i e) (lookB i e')
 | [],_,h,i=>by cases h;exact .refl _
 | (k,x)::r,_,h,i=>by
   cases h with
   | cons _ _ y _ q h1 h2=>
     simp only[Go.Ab.lookB]
     split
     ·exact h1
     ·exact StoZ.look h2 i
theorem BlkZ.rel {κ:Kap}{r:Nat}{b b':Blk}(h:BlkZ b b')(hb:eA κ r b):eA κ r b'/\(b'≠.none->b≠.none):=by
 cases h with
 | refl=>exact⟨hb,id⟩
 | none=>exact⟨trivial,fun h=>absurd rfl h⟩
 | cells T f l k hk=>
   have hlen:=hk.length
   rcases hb with ⟨h1,h2,h3⟩ | ⟨b,n,cs,h1,h2,h3,h4,h7,h5,h6⟩
   ·exact⟨.inl ⟨h1,List.eq_nil_of_length_eq_zero (by rw[<- hlen,h2];rfl),h3⟩,fun _=>by simp⟩
   refine⟨.inr ⟨b,n,cs,h1,h2,h3,by omega,fun h=>by rw[<- hlen];exact h7 h,fun o y hy=>?_,h6⟩,fun _=>by simp⟩
   obtain⟨x,hx,hxy⟩:=hk.get o y hy
   exact hxy.rel (h5 o x hx)
 | pre T f l k hk=>
   have hlen:=hk.length
   rcases hb with ⟨h1,h2,h3⟩ | ⟨b,n,cs,h1,h2,h3,h4,h7,h5,h6⟩
   ·exact⟨.inl ⟨rfl,List.eq_nil_of_length_eq_zero (by rw[h2] at hlen;simpa using hlen),h3⟩,fun _=>by simp⟩
   refine⟨.inr ⟨b,n,cs,h1,h2,h3,by omega,fun h=>(by cases h),fun o y hy=>?_,h6⟩,fun _=>by simp⟩
   obtain⟨x,hx,hxy⟩:=hk.get o y hy
   exact hxy.rel (h5 o x hx)
def StZ (s s':St):Prop:=EnvZ s.env s'.env/\StoZ s.sto s'.sto/\s.next=s'.next
theorem AVzL.refl:∀ e:List AV,AVzL e e
 | []=>.nil
 | x::r=>.cons x x r r (.refl x) (AVzL.refl r)
theorem StZ.wx {s t:St}(h:StZ s t):Wx s t:=by
 intro c κ0 κ N a w hR
 obtain⟨h1,h2,h3⟩:=h
 have hz:∀ r,t.σ r≠.none->s.σ r≠.none:=fun r hr=>((h2.look r).rel (hR.rel.blk r)).2 hr
 refine⟨κ,Ext.refl κ,hR.w_eq,hR.ext0,⟨fun r=>((h2.look r).rel (hR.rel.blk r)).1,fun r r' d d' b k1 k2=>hR.rel.apart r r' d d' b (hz r k1) (hz r' k2),fun r d b k1=>hR.rel.mine r d b (hz r k1),hR.rel.immLt,hR.rel.glob⟩,
  hR.left,fun i=>(h1.look i).rel (hR.env i),hR.size,hR.defers,fun r hr=>hR.fresh r (by omega)⟩
def eo (A:List (Nat×Nat×Nat×Nat))(m0:Nat)(keep:List Nat)(s:St):St:=norm m0 keep (Ho A s)
theorem D0 (A:List (Nat×Nat×Nat×Nat))(m0:Nat)(keep:List Nat)(s:St):Wk m0 s (eo A m0 keep s):=
 (Wk.of (yq A s) m0).trans (Wk.norm m0 keep _)
theorem Wk.head {A:List (Nat×Nat×Nat×Nat)}{m0:Nat}{keep:List Nat}{s t:St}(h:StZ (eo A m0 keep s) t):Wk m0 s t:=
 (D0 A m0 keep s).trans (Wk.of h.wx m0)
theorem Hc (x:AV):AVz x x=True:=eq_true (.refl x)
theorem O0 (p q:PV):AVz (.pv p) (.pv q)=Nz p q:=propext ⟨fun h=>by cases h with | refl=>exact .refl _ | pv _ _ h=>exact h,.pv _ _⟩
theorem GS:EnvZ [] []=True:=eq_true .nil
theorem Ct (k:Nat)(x y:AV)(r q:List (Nat×AV)):EnvZ ((k,x)::r) ((k,y)::q)=(AVz x y/\EnvZ r q):=propext ⟨fun h=>by cases h with | cons _ _ _ _ _ h1 h2=>exact⟨h1,h2⟩,fun ⟨h1,h2⟩=>.cons _ _ _ _ _ h1 h2⟩
theorem Do (b:Blk):BlkZ b b=True:=eq_true (.refl b)
theorem OT (T:Nat)(f:Bool)(l k:List AV):BlkZ (.cells T f l) (.cells T false k)=AVzP l k:=propext ⟨fun h=>by
 cases h with
 | refl=>exact AVzP.of_l (AVzL.refl _)
 | cells _ _ _ _ h=>exact AVzP.of_l h
 | pre _ _ _ _ h=>exact h,.pre _ _ _ _⟩
theorem Dt (l:List AV):AVzP l l=True:=eq_true (AVzP.of_l (AVzL.refl l))
theorem Du (l:List AV):AVzL l l=True:=eq_true (AVzL.refl l)
theorem Ep:StoZ [] []=True:=eq_true .nil
theorem zb (k:Nat)(x y:Blk)(r q:List (Nat×Blk)):StoZ ((k,x)::r) ((k,y)::q)=(BlkZ x y/\StoZ r q):=propext ⟨fun h=>by cases h with | cons _ _ _ _ _ h1 h2=>exact⟨h1,h2⟩,fun ⟨h1,h2⟩=>.cons _ _ _ _ _ h1 h2⟩
theorem ML (e e':List (Nat×AV))(σ σ':List (Nat×Blk))(n n':Nat):StZ ⟨e,σ,n⟩ ⟨e',σ',n'⟩=(EnvZ e e'/\StoZ σ σ'/\n=n'):=_root_.id rfl
end
inductive ARes where
 | tmp (t:Nat)
 | cell (t:Nat) (g:Bool) (sz:Nat)
structure AFn where
 N:Nat
 res:List ARes
 body:ACode
def Nc (G:Nat->List PV)(s:St):ARes->Option AV
 | .tmp t=>some (s.E t)
 | .cell t g sz=>eK G g sz s.σ (s.E t)
def eR (G:Nat->List PV)(s:St):List ARes->Option (List AV)
 | []=>some []
 | r::q=>match Nc G s r,eR G s q with
   | some a,some b=>some (a::b)
   | _,_=>none
def x9 (l:List AV):AV:=
 match l with
 | [v]=>v
 | l=>pf l
def HT (R:AV->List (Nat×Blk)->Nat->Prop)(s:St)(l:List AV):Prop:=R (x9 l) s.sto s.next
def FnK (G:Nat->List PV)(res:List ARes)(R:AV->List (Nat×Blk)->Nat->Prop):AExit->St->Prop
 | .norm,s=>aG (eR G s res) (HT R s)
 | .ret,s=>aG (eR G s res) (HT R s)
 | .exit _,_=>False
def Rh (P:Program):ResultVar->Option ARes
 | .tmp t=>some (.tmp t)
 | .cell a t=>match lq P t,il P t with
   | some g,some n=>some (.cell a g n)
   | _,_=>none
def Dd (P:Program):List ResultVar->Option (List ARes)
 | []=>some []
 | r::q=>match Rh P r,Dd P q with
   | some a,some b=>some (a::b)
   | _,_=>none
def iq:List ARes->List Nat
 | []=>[]
 | .tmp t::r=>fT (iq r) [t]
 | .cell t _ _::r=>fT (iq r) [t]
def cFn (P:Program)(muts:List Nat)(f:Nat):Option AFn:=
 match P.funcs[f]? with
 | some fn=>match fn.body with
   | some c=>match Dd P fn.results.toList with
     | some rs=>if bN P f=true then match bl P muts fn.ntmps (iq rs) c [] (iq rs) with
       | some (b,_)=>some ⟨fn.ntmps,rs,b⟩
       | none=>none
       else none
     | none=>none
   | none=>none
 | none=>none
def dh (args:List AV):List (Nat×AV):=args.zipIdx.map fun p=>(p.2,p.1)
section
variable {P:Program}{G:Nat->List PV}
theorem kC:∀ (args:List AV) (k i:Nat),look i ((args.zipIdx k).map fun p=>(p.2,p.1))=if k<=i then (args[i - k]?).getD .any else .any
 | [],k,i=>by simp[look]
 | x::r,k,i=>by
   rw[List.zipIdx_cons,List.map_cons,look]
   simp only
   by_cases h:k=i
   ·subst h;simp
   ·rw[if_neg h,kC r (k+1) i]
    by_cases hk:k<=i
    ·rw[if_pos (by omega),if_pos hk,show i - k=(i - (k+1))+1 by omega];simp
    ·rw[if_neg (by omega),if_neg hk]
def sR (tmps:Array Value):ResultVar->Sem Value
 | .tmp t=>pure (tmps.getD t Go.undef)
 | .cell x t=>do loadVar t (<- asAddr (tmps.getD x Go.undef))
theorem l8 (fn:Func)(tmps:Array Value):results fn tmps=(do let vs <- fn.results.mapM (sR tmps);pure (if h:vs.size=1 then vs[0] else .tuple vs)):=by
 unfold results
 congr 1
theorem j7 {c:Ctx}{κ0 κ:Kap}{N:Nat}{s:St}{a:Act}{w:World}(hR:Rel c κ0 N s a w κ):∀ (rv:List ResultVar) (rs:List ARes) (vs:List AV),Dd P rv=some rs->eR c.G s rs=some vs ->
  ∃ us:List Value,(rv.mapM (sR a.tmps)).run P w = .ok us w/\us.length=vs.length/\∀ (i:Nat) (x:AV),vs[i]? = some x->ARel κ x (us.getD i Go.undef)
 | [],rs,vs,h1,h2=>by
   simp[Dd] at h1;subst h1
   simp[eR] at h2;subst h2
   exact⟨[],by simp,rfl,by simp⟩
 | r::q,rs,vs,h1,h2=>by
   simp only[Dd] at h1
   split at h1
   ·rename_i ra rb hra hrb
    cases h1
    simp only[eR] at h2
    split at h2
    ·rename_i va vb hva hvb
     cases h2
     obtain⟨us,k1,k2,k3⟩:=j7 hR q rb vb hrb hvb
     have hw:=hR.w_eq
     subst hw
     have hone:∃ u,(sR a.tmps r).run P κ.w = .ok u κ.w/\ARel κ va u:=by
      cases r with
      | tmp t=>
        simp only[Rh,Option.some.injEq] at hra
        subst hra
        simp only[Nc,Option.some.injEq] at hva
        subst hva
        exact⟨_,rfl,hR.env t⟩
      | cell x t=>
        simp only[Rh] at hra
        split at hra
        ·rename_i g n hg hn
         cases hra
         simp only[Nc] at hva
         have hx:=hR.env x
         obtain⟨z,h3,h4⟩:=zj (P:=P) hR.rel hg hn hx hva
         refine⟨z,?_,h4⟩
         obtain⟨y,hy⟩:∃ y,a.tmps.getD x Go.undef=y:=⟨_,rfl⟩
         rw[hy] at hx h3
         simp only[Instr.loadAt,Sem.run_bind] at h3
         have hp:∃ ad,y = .pointer (some ad):=by
          unfold eK at hva
          split at hva
          ·rename_i he
           rw[he] at hx;cases hx;exact⟨_,rfl⟩
          ·rename_i he
           rw[he] at hx;cases aF hx;exact⟨_,rfl⟩
          ·rename_i he
           rw[he] at hx;cases aF hx;exact⟨_,rfl⟩
          ·cases hva
         obtain⟨ad,rfl⟩:=hp
         simp only[sR]
         rw[hy]
         simpa[asAddr,Instr.sureAddr] using h3
        ·cases hra
     obtain⟨u,h5,h6⟩:=hone
     refine⟨u::us,?_,by simp[k2],fun i x hx=>?_⟩
     ·rw[List.mapM_cons,Sem.run_bind,h5]
      simp only[Result.andThen_ok,Sem.run_bind,k1,Sem.run_pure]
     ·cases i with
      | zero=>simp only[List.getElem?_cons_zero,Option.some.injEq] at hx;subst hx;simpa using h6
      | succ i=>simpa using k3 i x (by simpa using hx)
    ·cases h2
   ·cases h1
theorem gN {P:Program}{c:Ctx}{κ0 κ:Kap}{N:Nat}{s:St}{a:Act}{w:World}{fn:Func}{R:Ending->World->Prop}(hk:κ0.w.heap.size<=c.w0.heap.size)(hc:c.rnd=false)(hR:Rel c κ0 N s a w κ)
  (h:∀ w' κ',Rel c κ0 N s ⟨a.tmps,[]⟩ w' κ'->∃ v,(results fn a.tmps).run P w' = .ok v w'/\R (.returned v) w'):LeavesInM Fence.wide 0 P fn a.tmps R a.defers .returning w:=by
 have key:∀ (Ds:List Nat) (w:World) (κ:Kap),Ds.Nodup->(∀ D∈Ds,c.w0.heap.size<=D/\w.heap[D]? = some (.deferred (some [])))->Rel c κ0 N s ⟨a.tmps,[]⟩ w κ->LeavesInM Fence.wide 0 P fn a.tmps R (Ds.map H4) .returning w:=by
  intro Ds
  induction Ds with
  | nil=>intro w κ _ _ hR;exact h w κ hR
  | cons D Ds ih=>
    intro w κ hn hD hR
    obtain⟨h1,h2⟩:=hD D (by simp)
    obtain⟨n1,n2⟩:=List.nodup_cons.1 hn
    refine⟨by simp,.inl ⟨D,_,rfl,run_takeDeferred h2,ih _ _ n2 (fun E hE=>?_) (hR.putObj hk (.deferred none) h2 rfl h1 (dp.nil _ _))⟩⟩
    obtain⟨q1,q2⟩:=hD E (by simp[hE])
    exact⟨q1,(World.putObj_heap_other (by rintro rfl;exact n1 hE)).trans q2⟩
 rcases hR.defers with hm | ⟨Ds,m1,m2,m3⟩
 ·rw[hc] at hm;cases hm
 ·have hw:=hR.w_eq
  rw[m1]
  exact key Ds w κ m2 (fun D hD=>by rw[<- hw];exact m3 D hD) ⟨hR.w_eq,hR.ext0,hR.rel,hR.left,hR.env,hR.size,dp.nil _ _,hR.fresh⟩
theorem cj.of_code {muts:List Nat}{f:Nat}{fn:AFn}{args:List AV}{sto:List (Nat×Blk)}{next:Nat}{R:AV->List (Nat×Blk)->Nat->Prop}(hc:cFn P muts f=some fn)(hn:args.length<=fn.N)
  (hv:∀ (c:Ctx) (κ:Kap) (N:Nat) (a:Act) (w:World) (co:Code) (rl li:List Nat),c.G=G->κ.w.heap.size<=c.w0.heap.size->(∀ r,next<=r->κ.nm r=none)->bl P muts N rl co [] rl=some (fn.body,li)->Rel c κ N ⟨dh args,sto,next⟩ a w κ ->
   co.wpIn (FR none) 0 P (lift c κ N (FnK G fn.res R)) a w):cj P G f args sto next R:=by
 unfold cFn at hc
 split at hc
 ·rename_i fnc hfn
  split at hc
  ·rename_i co hco
   split at hc
   ·rename_i rs hrs
    split at hc
    ·rename_i hok
     split at hc
     ·rename_i b li hb
      cases hc
      refine⟨hok,fun κ vals hS hf hsz hargs=>?_⟩
      refine callsIn_wide.1 (callsIn_of_wp_marks (n:=0) hfn hco trivial ?_ rfl)
      let c:=bY κ (fun r=>lookB r sto) G
      have hsize:(vals++Array.replicate (fnc.ntmps - vals.size) Go.undef).size=fnc.ntmps:=by
       simp only at hn
       simp only[Array.size_append,Array.size_replicate];omega
      have hR:Rel c κ fnc.ntmps ⟨dh args,sto,next⟩ ⟨vals++Array.replicate (fnc.ntmps - vals.size) Go.undef,[]⟩ κ.w κ:=by
       refine⟨rfl,Ext.refl κ,hS,⟨rfl,rfl,rfl,Nat.le_refl _,fun _ _ _=>rfl,fun _ _ h=>.inl h⟩,fun i=>?_,hsize,dp.nil _ _,hf⟩
       show ARel κ (look i ((args.zipIdx 0).map fun p=>(p.2,p.1))) _
       rw[kC,if_pos (Nat.zero_le _),Nat.sub_zero]
       cases hx:args[i]? with
       | none=>exact .any _
       | some x=>
         have hi:i<vals.size:=by rw[hsz];exact (List.getElem?_eq_some_iff.1 hx).1
         have:=hargs i x hx
         have e:(vals++Array.replicate (fnc.ntmps - vals.size) Go.undef).getD i Go.undef=vals.getD i Go.undef:=by
          simp only[Array.getD_eq_getD_getElem?]
          rw[Array.getElem?_append_left hi]
         rw[e];exact this
      refine Go.wpIn_mono (hv c κ fnc.ntmps _ κ.w co (iq rs) li rfl (Nat.le_refl _) hf hb hR) ?_
      have fin:∀ (s:St) (κ':Kap) (a:Act) (w:World),Rel c κ fnc.ntmps s a w κ'->aG (eR G s rs) (HT R s)->∃ v,(results fnc a.tmps).run P w = .ok v w /\
        ∃ u v' κ'' sto' next',Ending.returned v = .returned u/\κ''.w=w/\Ext κ κ''/\Left c κ.imm κ''/\ARel κ'' v' u/\SRel c κ'' (fun r=>lookB r sto')/\(∀ r,next'<=r->κ''.nm r=none)/\R v' sto' next':=by
       intro s κ' a w hR hF
       simp only[aG] at hF
       split at hF
       ·rename_i vs hvs
        obtain⟨us,h1,h2,h3⟩:=j7 (P:=P) hR fnc.results.toList rs vs hrs hvs
        have hrun:(results fnc a.tmps).run P w = .ok (if h:us.toArray.size=1 then us.toArray[0] else .tuple us.toArray) w:=by
         rw[l8,Sem.run_bind,Array.mapM_eq_mapM_toList]
         simp only[Sem.run_bind,Sem.run_map]
         rw[h1]
         simp
        refine⟨_,hrun,_,x9 vs,κ',s.sto,s.next,rfl,hR.w_eq,hR.ext0,hR.left,?_,hR.rel,hR.fresh,hF⟩
        by_cases hl:vs.length=1
        ·obtain⟨v,rfl⟩:=List.length_eq_one_iff.1 hl
         obtain⟨u,rfl⟩:=List.length_eq_one_iff.1 (h2.trans hl)
         have:=h3 0 v rfl
         exact this
        ·have hul:¬ us.toArray.size=1:=by simpa[h2] using hl
         rw[dif_neg hul]
         have hrv:x9 vs=pf vs:=by
          unfold x9
          split
          ·simp at hl
          ·rfl
         rw[hrv]
         exact pd (.tup _ _ (by simpa using h2) (fun i x hx=>by rw[aC];simpa using h3 i x hx))
       ·exact hF.elim
      intro e a w hq
      cases e with
      | normal=>
        obtain⟨s,κ',hR,hF⟩:=hq
        exact gN (Nat.le_refl _) rfl hR fun w' κ'' hR'=>fin s κ'' ⟨a.tmps,[]⟩ w' hR' hF
      | ret=>
        obtain⟨s,κ',hR,hF⟩:=hq
        exact gN (Nat.le_refl _) rfl hR fun w' κ'' hR'=>fin s κ'' ⟨a.tmps,[]⟩ w' hR' hF
      | exit id=>
        obtain⟨s,κ',hR,hF⟩:=hq
        exact hF.elim
      | goto l=>exact hq.elim
      | panic ch=>exact hq.elim
      | outgrown=>exact hq.elim
     ·cases hc
    ·cases hc
   ·cases hc
  ·cases hc
 ·cases hc
theorem cj.intro {muts:List Nat}{f:Nat}{fn:AFn}{args:List AV}{sto:List (Nat×Blk)}{next:Nat}{R:AV->List (Nat×Blk)->Nat->Prop}(hc:cFn P muts f=some fn)(hn:args.length<=fn.N)
  (hv:vc P G next fn.body (FnK G fn.res R) ⟨dh args,sto,next⟩):cj P G f args sto next R:=
 cj.of_code hc hn fun c κ N a w co rl li hG hk hf hb hR=>sA (P:=P) (N:=N) co c κ next none 0 fn.body [] rl li (FnK G fn.res R) _ a w κ (.inl rfl) hf hk hb hR (by rw[hG];exact hv)
def isR (r:PV)(σ:List (Nat×Blk))(v:AV):Prop:=∃ q,DR (fun r=>lookB r σ) v=some q/\Nz q.1 r
theorem ak.of_tcalls {f:Nat}{args:List PV}{r:PV}(h:cj P G f (args.map .pv) [] 0 fun v σ _=>isR r σ v):ak P G f args r:=by
 obtain⟨hcal,h⟩:=h
 refine⟨hcal,fun w imm vals hG hlt hsz hargs=>?_⟩
 have hl:(fun r=>lookB r ([]:List (Nat×Blk)))=fun _=>Blk.none:=by funext r;rfl
 refine (h ⟨w,fun _=>none,imm⟩ vals ?_ (fun _ _=>rfl) (by simpa using hsz) (fun i x hx=>?_)).mono ?_
 ·refine⟨fun r=>trivial,fun r r' d d' b h1=>absurd rfl h1,fun r d b h1=>absurd rfl h1,hlt,hG.1,fun g hg=>?_⟩
  obtain⟨cs,T,fz,h1,h2⟩:=hG.2 g hg
  refine⟨(Array.getElem?_eq_some_iff.1 h1).1,?_,cs,T,fz,h1,h2⟩
  rintro⟨r,d,h1,_⟩
  exact h1 rfl
 ·simp only[List.getElem?_map,Option.map_eq_some_iff] at hx
  obtain⟨q,hq,rfl⟩:=hx
  exact .pv _ _ (hargs i q hq)
 ·rintro e w' ⟨u,v,κ',sto',next',rfl,rfl,he,hL,hv,hS,hf,q,hq,hqr⟩
  have hlent:∀ b,¬ (bY ⟨w,fun _=>none,imm⟩ (fun r=>lookB r ([]:List (Nat×Blk))) G).lent b:=by
   rintro b ⟨r,d,h1,_⟩
   exact h1 rfl
  obtain⟨h1,h2⟩:=tW hS hv hq
  obtain⟨h3,h4⟩:=tV hS q.2 h1 next'
  have hL':=h3.left _ hL
  refine⟨u,(GB κ' (fun r=>lookB r sto') q.2).imm,rfl,⟨hL.os,hL.tape,hL.output,hL.size,fun k hk=>hL.block k hk (hlent k)⟩,fun b o hi=>h3.ext.imm _ _ (he.imm _ _ hi),fun b o hi=>?_,h4.immLt,h2.nz hqr⟩
  rcases hL'.imm b o hi with h1 | h1 | h1
  ·exact .inl h1
  ·exact .inr h1
  ·exact absurd h1 (hlent b)
def Nm (r:PV)(v:AV)(σ:List (Nat×Blk))(_:Nat):Prop:=isR r σ v
theorem NN {r:PV}{σ:List (Nat×Blk)}{v:AV}(h:v.toPV=some r):isR r σ v:=by
 cases v with
 | pv p=>simp only[AV.toPV,Option.some.injEq] at h;subst h;exact⟨(p,[]),rfl,.refl p⟩
 | olist a b l=>simp only[AV.toPV,Option.some.injEq] at h;subst h;exact⟨(.list l,[]),rfl,.refl _⟩
 | _=>simp[AV.toPV] at h
theorem ak.intro {muts:List Nat}{f:Nat}{fn:AFn}{args:List PV}{r:PV}(hc:cFn P muts f=some fn)(hn:args.length<=fn.N)
  (hv:vc P G 0 fn.body (FnK G fn.res (Nm r)) ⟨dh (args.map .pv),[],0⟩):ak P G f args r:=
 ak.of_tcalls (cj.intro hc (by simpa using hn) hv)
theorem ak.nz {f:Nat}{qs ps:List PV}{r:PV}(h:ak P G f ps r)(hz:NzL qs ps):ak P G f qs r:=by
 obtain⟨h1,h2⟩:=h
 refine⟨h1,fun w imm vals hG hlt hsz hargs=>h2 w imm vals hG hlt (by rw[hsz,hz.length]) fun i x hx=>?_⟩
 obtain⟨y,hy,hyx⟩:=hz.get i x hx
 exact (hargs i y hy).nz hyx
theorem ab.pure {f:Nat}{args:List AV}{ps:List PV}{r:PV}{s:St}{K:AV->St->Prop}(h:ak P G f ps r)(he:pvs args=some ps)(hk:K (.pv r) s):ab P G f args s K:=
 ⟨s,args,WkC.refl s args,.inl ⟨ps,r,he,h,hk⟩⟩
theorem ab.pureN {f:Nat}{args:List AV}{qs ps:List PV}{r:PV}{s:St}{K:AV->St->Prop}(h:ak P G f ps r)(he:pvs args=some qs)(hz:NzL qs ps)(hk:K (.pv r) s):ab P G f args s K:=
 ab.pure (h.nz hz) he hk
theorem ab.lent {f:Nat}{args:List AV}{s:St}{K:AV->St->Prop}{Q:AV->List (Nat×Blk)->Nat->Prop}(h:cj P G f args s.sto s.next Q)(hk:∀ v sto' next',Q v sto' next'->K v ⟨s.env,sto',next'⟩):ab P G f args s K:=
 ⟨s,args,WkC.refl s args,.inr ⟨Q,h,hk⟩⟩
end
section
variable {P:Program}{G:Nat->List PV}
theorem bm {α:Type}{x:Option α}{k k':α->Prop}(h:∀ a,k a->k' a)(hx:aG x k):aG x k':=by
 cases x with
 | none=>exact hx
 | some a=>exact h a hx
theorem ab.mono {f:Nat}{args:List AV}{s:St}{K K':AV->St->Prop}(h:∀ v s,K v s->K' v s)(hA:ab P G f args s K):ab P G f args s K':=by
 obtain⟨s',args',hw,⟨ps,r,h1,h2,h3⟩ | ⟨Q,h1,h2⟩⟩:=hA
 ·exact⟨s',args',hw,.inl ⟨ps,r,h1,h2,h _ _ h3⟩⟩
 ·exact⟨s',args',hw,.inr ⟨Q,h1,fun v sto n hq=>h _ _ (h2 v sto n hq)⟩⟩
theorem Cz {F F':St->Prop}(h:∀ s,F s->F' s){s:St}{d:Option Nat}{o:AOp}(hx:lC P G F s d o):lC P G F' s d o:=by
 cases o with
 | t o=>
   simp only[lC,iz] at hx ⊢
   split
   ·rename_i v hv
    rw[hv] at hx;exact h _ hx
   ·rename_i hv
    rw[hv] at hx
    exact⟨hx.1,fun b=>h _ (hx.2 b)⟩
 | m o=>exact bm (fun v hv=>h _ hv) hx
 | fz g x=>exact bm (fun v hv=>h _ hv) hx
 | call f xs=>exact bm (fun p hp=>ab.mono (fun v s hv=>h _ hv) hp) hx
theorem CC {F F':St->Prop}(h:∀ s,F s->F' s){s:St}{d:Option Nat}{o:AOp}{b:Bool}(hx:K2 P G F s d o b):K2 P G F' s d o b:=by
 cases b with
 | true=>exact Cz h hx
 | false=>exact h _ hx
theorem ik {F F':St->Prop}(h:∀ s,F s->F' s):∀ (l:List AOper) (s:St),dq P G l F s->dq P G l F' s
 | [],s,hx=>h s hx
 | o::r,s,hx=>bm (fun b hb=>CC (fun s hs=>ik h r s hs) hb) hx
theorem sf {F F':List (List Nat×List Nat)->St->Prop}(h:∀ T s,F T s->F' T s){T:List (List Nat×List Nat)}{s:St}{d:Option Nat}{args:List AV}{p:Nat×List AV×List AV}(hx:mN P G F T s d args p):mN P G F' T s d args p:=by
 unfold mN OJ at hx ⊢
 rcases hx with ⟨ps,r,h1,h2,h3⟩ | ⟨v,δ,top,h1,h2,h3⟩
 ·exact .inl ⟨ps,r,h1,h2,h _ _ h3⟩
 ·exact .inr ⟨v,δ,top,h1,h2,h _ _ h3⟩
theorem xg {F F':List (List Nat×List Nat)->St->Prop}(h:∀ T s,F T s->F' T s){T:List (List Nat×List Nat)}{s:St}{d:Option Nat}{o:AOp}(hx:gX P G F T s d o):gX P G F' T s d o:=by
 cases o with
 | t o=>exact bm (fun v hv=>h _ _ hv) hx
 | m o=>exact bm (fun v hv=>h _ _ hv) hx
 | fz g x=>exact hx
 | call f xs=>exact bm (fun p hp=>sf h hp) hx
theorem mR {A:List (List Nat)}{F F':St->Prop}(h:∀ s,F s->F' s):∀ (l:List AOper) (T:List (List Nat×List Nat)) (s:St),vcD P G A F l T s->vcD P G A F' l T s
 | [],T,s,hx=>⟨hx.1,h s hx.2⟩
 | o::r,T,s,hx=>by
   refine bm (fun b hb=>?_) hx
   cases b with
   | true=>exact xg (fun T s hs=>mR h r T s hs) hb
   | false=>exact mR h r _ _ hb
theorem dg:∀ {m0:Nat} (c:ACode) {Q Q':AExit->St->Prop} (h:∀ e s,Q e s->Q' e s) (s:St),vc P G m0 c Q s->vc P G m0 c Q' s
 | m0,.skip,Q,Q',h,s,hx=>h _ _ hx
 | m0,.ops l keep,Q,Q',h,s,hx=>ik (fun s hs=>h _ _ hs) l s hx
 | m0,.draw A l l2 keep,Q,Q',h,s,hx=>mR (fun s hs=>ik (fun s hs=>h _ _ hs) l2 s hs) l [] s hx
 | m0,.seq a b,Q,Q',h,s,hx=>dg a (fun e s hs=>by
   cases e with
   | norm=>exact dg b h s hs
   | exit i=>exact h _ _ hs
   | ret=>exact h _ _ hs) s hx
 | m0,.cond x a b,Q,Q',h,s,hx=>by
   simp only[vc] at hx ⊢
   unfold oU at hx ⊢
   split at hx
   ·exact dg a h s hx
   ·exact dg b h s hx
   ·exact hx
 | m0,.block id b,Q,Q',h,s,hx=>dg b (fun e s hs=>by
   cases e with
   | norm=>exact h _ _ hs
   | exit i=>
     simp only[ly] at hs ⊢
     split at hs
     ·rename_i hi;rw[if_pos hi];exact h _ _ hs
     ·rename_i hi;rw[if_neg hi];exact h _ _ hs
   | ret=>exact h _ _ hs) s hx
 | m0,.loop keep b,Q,Q',h,s,hx=>by
   obtain⟨I,h0,h1⟩:=hx
   refine⟨I,h0,fun n s hs=>dg b (fun e s hs=>?_) s (h1 n s hs)⟩
   cases e with
   | norm=>exact hs
   | exit i=>
     obtain⟨s',hw,hq⟩:=hs
     exact⟨s',hw,h _ _ hq⟩
   | ret=>exact h _ _ hs
 | m0,.range f ps keep a b,Q,Q',h,s,hx=>by
   obtain⟨I,s0,h1,h2,h3⟩:=hx
   refine⟨I,s0,h1,h2,bm (fun p hp=>?_) h3⟩
   obtain⟨q1,lb,xs,q2,q3,q4,q5⟩:=hp
   refine⟨q1,lb,xs,q2,q3,fun i x s' hx hI=>?_,fun s' hI=>h _ _ (q5 s' hI)⟩
   obtain⟨r1,r2⟩:=q4 i x s' hx hI
   refine⟨r1,dg a (fun e s hs=>?_) _ r2⟩
   cases e with
   | norm=>
     refine dg b (fun e s hs=>?_) s hs
     cases e with
     | norm=>exact hs
     | exit i=>exact h _ _ hs
     | ret=>exact h _ _ hs
   | exit i=>exact hs.elim
   | ret=>exact hs.elim
 | m0,.exit id,Q,Q',h,s,hx=>h _ _ hx
 | m0,.ret,Q,Q',h,s,hx=>h _ _ hx
end
theorem gr {n:Int}(h1:-9223372036854775808<=n)(h2:n<=9223372036854775807):IntKind.i64.wrap n=n:=by
 show (if (true&&decide (n % 18446744073709551616>=9223372036854775808))=true then n % 18446744073709551616 - 18446744073709551616 else n % 18446744073709551616)=n
 simp only[Bool.true_and,decide_eq_true_eq]
 split<;>omega
theorem IE {n:Int}(h1:0<=n)(h2:n<=255):IntKind.u8.wrap n=n:=by
 show (if (false&&decide (n % 256>=128))=true then n % 256 - 256 else n % 256)=n
 simp only[Bool.false_and]
 simp;omega
theorem QY {a b:Int}(h:a<b):decide (a<b)=true:=decide_eq_true h
theorem QZ {a b:Int}(h:¬ a<b):decide (a<b)=false:=decide_eq_false h
theorem Q0 {a b:Int}(h:a<=b):decide (a<=b)=true:=decide_eq_true h
theorem Q1 {a b:Int}(h:¬ a<=b):decide (a<=b)=false:=decide_eq_false h
theorem Q2 {a b:Int}(h:a=b):decide (a=b)=true:=decide_eq_true h
theorem Q3 {a b:Int}(h:¬ a=b):decide (a=b)=false:=decide_eq_false h
def Chk (b:Bool):Prop:=b=true
theorem K6:Chk true:=_root_.id rfl
theorem Bj (i k:Nat)(x:AV)(r:List (Nat×AV)):look i ((k,x)::r)=if k=i then x else look i r:=_root_.id rfl
theorem FY (i:Nat):look i [] = .any:=_root_.id rfl
theorem wF (i k:Nat)(x:Blk)(r:List (Nat×Blk)):lookB i ((k,x)::r)=if k=i then x else lookB i r:=_root_.id rfl
theorem Bk (i:Nat):lookB i [] = .none:=_root_.id rfl
def evE (e:List (Nat×AV)):AX->AV
 | .t i=>look i e
 | .c p=>.pv p
 | .m i tb=>PH tb (look i e)
theorem QS (e:List (Nat×AV))(i:Nat):evE e (.t i)=look i e:=_root_.id rfl
theorem QT (e:List (Nat×AV))(p:PV):evE e (.c p) = .pv p:=_root_.id rfl
def evO (e:List (Nat×AV)):Option AX->Option AV
 | some x=>some (evE e x)
 | none=>none
theorem GN (e:List (Nat×AV))(x:AX):evO e (some x)=some (evE e x):=_root_.id rfl
theorem GO (e:List (Nat×AV)):evO e none=none:=_root_.id rfl
def evL (e:List (Nat×AV)):List AX->List AV
 | []=>[]
 | x::r=>evE e x::evL e r
theorem KU (e:List (Nat×AV)):evL e []=[]:=_root_.id rfl
theorem GQ (e:List (Nat×AV))(x:AX)(r:List AX):evL e (x::r)=evE e x::evL e r:=_root_.id rfl
theorem jl (e:List (Nat×AV))(σ:List (Nat×Blk))(n:Nat)(x:AX):x.ev (St.E ⟨e,σ,n⟩)=evE e x:=by cases x<;>rfl
theorem Cp (e:List (Nat×AV))(σ:List (Nat×Blk))(n:Nat):∀ (l:List AX),l.map (·.ev (St.E ⟨e,σ,n⟩))=evL e l
 | []=>rfl
 | x::r=>by rw[List.map_cons,Cp e σ n r,jl];rfl
def evP (e:List (Nat×AV)):List (Nat×Nat×AX)->List (Nat×Nat×AV)
 | []=>[]
 | (a,b,x)::r=>(a,b,evE e x)::evP e r
theorem KT (e:List (Nat×AV)):evP e []=[]:=_root_.id rfl
theorem GM (e:List (Nat×AV))(a b:Nat)(x:AX)(r:List (Nat×Nat×AX)):evP e ((a,b,x)::r)=(a,b,evE e x)::evP e r:=_root_.id rfl
def iT (e:List (Nat×AV)):TOp->Option AV
 | .mv x=>some (evE e x)
 | .pick c a b=>qX (evE e c) (evE e a) (evE e b)
 | .build zs ps=>(ga (zs.map .pv) (evP e ps)).map jh
 | .faddr off x=>kg off (evE e x)
 | .field g sz off x=>tc g sz off (evE e x)
 | .iaddr sz x i=>gG sz (evE e x) (evE e i)
 | .iaddrA n sz x i=>iv n sz (evE e x) (evE e i)
 | .index x i=>gF (evE e x) (evE e i)
 | .indexA g n sz x i=>dC g n sz (evE e x) (evE e i)
 | .len st x=>DP st (evE e x)
 | .imin x y=>JJ (evE e x) (evE e y)
 | .imax x y=>JK (evE e x) (evE e y)
 | .sliceL sz x lo hi=>ef sz (evE e x) (evO e lo) (evO e hi)
 | .sliceS x lo hi=>fX (evE e x) (evO e lo) (evO e hi)
 | .bin op x y=>eS op (evE e x) (evE e y)
 | .beq kd ng x y=>(HX kd (evE e x) (evE e y)).map fun b=>.pv (.bool (if ng then !b else b))
 | .neg x=>LW (evE e x)
 | .not x=>LU (evE e x)
 | .conv k x=>vU k (evE e x)
 | .clo f fs cs=>some (rI f (evL e fs) (evL e cs))
 | .ext x i=>LX i (evE e x)
 | .nilck x=>LV (evE e x)
theorem GP (e:List (Nat×AV)):∀ (l:List AX),l.map (fun x=>evE e x)=evL e l
 | []=>rfl
 | x::r=>by rw[List.map_cons,GP e r];rfl
theorem N4 (e:List (Nat×AV))(l:Option AX):l.map (fun x=>evE e x)=evO e l:=by cases l<;>rfl
theorem N3 (e:List (Nat×AV)):∀ (l:List (Nat×Nat×AX)),(l.map fun p=>(p.1,p.2.1,evE e p.2.2))=evP e l
 | []=>rfl
 | (a,b,x)::r=>by rw[List.map_cons,N3 e r];rfl
theorem yX (e:List (Nat×AV))(σ:List (Nat×Blk))(n:Nat)(o:TOp):o.run (St.E ⟨e,σ,n⟩)=iT e o:=by
 cases o<;>simp only[TOp.run,iT,jl,GP,N4,N3]
theorem IY (e:List (Nat×AV))(x:AX):iT e (.mv x)=some (evE e x):=_root_.id rfl
theorem yU (e:List (Nat×AV))(c a b:AX):iT e (.pick c a b)=qX (evE e c) (evE e a) (evE e b):=_root_.id rfl
theorem vu (e:List (Nat×AV))(zs:List PV)(ps:List (Nat×Nat×AX)):iT e (.build zs ps)=(ga (zs.map .pv) (evP e ps)).map jh:=_root_.id rfl
theorem vr (e:List (Nat×AV))(off:Nat)(x:AX):iT e (.faddr off x)=kg off (evE e x):=_root_.id rfl
theorem vq (e:List (Nat×AV))(sz:Nat)(x i:AX):iT e (.iaddr sz x i)=gG sz (evE e x) (evE e i):=_root_.id rfl
theorem qN (e:List (Nat×AV))(n sz:Nat)(x i:AX):iT e (.iaddrA n sz x i)=iv n sz (evE e x) (evE e i):=_root_.id rfl
theorem vp (e:List (Nat×AV))(x i:AX):iT e (.index x i)=gF (evE e x) (evE e i):=_root_.id rfl
theorem qM (e:List (Nat×AV))(g:Bool)(n sz:Nat)(x i:AX):iT e (.indexA g n sz x i)=dC g n sz (evE e x) (evE e i):=_root_.id rfl
theorem Eh (e:List (Nat×AV))(st:Bool)(x:AX):iT e (.len st x)=DP st (evE e x):=_root_.id rfl
theorem yV (e:List (Nat×AV))(x y:AX):iT e (.imin x y)=JJ (evE e x) (evE e y):=_root_.id rfl
theorem yW (e:List (Nat×AV))(x y:AX):iT e (.imax x y)=JK (evE e x) (evE e y):=_root_.id rfl
theorem qL (e:List (Nat×AV))(sz:Nat)(x:AX)(lo hi:Option AX):iT e (.sliceL sz x lo hi)=ef sz (evE e x) (evO e lo) (evO e hi):=_root_.id rfl
theorem qK (e:List (Nat×AV))(x:AX)(lo hi:Option AX):iT e (.sliceS x lo hi)=fX (evE e x) (evO e lo) (evO e hi):=_root_.id rfl
theorem Ek (e:List (Nat×AV))(op:BinOp)(x y:AX):iT e (.bin op x y)=eS op (evE e x) (evE e y):=_root_.id rfl
def JN (ng:Bool):Option Bool->Option AV
 | some b=>some (.pv (.bool (if ng then !b else b)))
 | none=>none
theorem El (e:List (Nat×AV))(kd:Nat)(ng:Bool)(x y:AX):iT e (.beq kd ng x y)=JN ng (HX kd (evE e x) (evE e y)):=by
 simp only[iT];cases HX kd (evE e x) (evE e y)<;>rfl
theorem JM (b:Bool):JN false (some b)=some (.pv (.bool b)):=_root_.id rfl
theorem Eg (e:List (Nat×AV))(x:AX):iT e (.neg x)=LW (evE e x):=_root_.id rfl
theorem Ef (e:List (Nat×AV))(x:AX):iT e (.not x)=LU (evE e x):=_root_.id rfl
theorem yY (e:List (Nat×AV))(k:IntKind)(x:AX):iT e (.conv k x)=vU k (evE e x):=_root_.id rfl
theorem Ej (e:List (Nat×AV))(f:Nat)(fs cs:List AX):iT e (.clo f fs cs)=some (rI f (evL e fs) (evL e cs)):=_root_.id rfl
theorem Ei (e:List (Nat×AV))(x:AX)(i:Nat):iT e (.ext x i)=LX i (evE e x):=_root_.id rfl
theorem vo (e:List (Nat×AV))(x:AX):iT e (.nilck x)=LV (evE e x):=_root_.id rfl
theorem JG (x y:AV):qX (.pv (.bool true)) x y=some x:=_root_.id rfl
theorem JH (x y:AV):qX (.pv (.bool false)) x y=some y:=_root_.id rfl
theorem vS (off r o:Nat):kg off (.ptr r o)=some (.ptr r (o+off)):=_root_.id rfl
theorem re (off:Nat)(l:List PV)(i o:Nat):kg off (.pv (.eptr l i o))=some (.pv (.eptr l i (o+off))):=_root_.id rfl
def JR (sz off:Nat)(cs:List AV):Option AV:=if off+sz<=cs.length then some (jh ((cs.drop off).take sz)) else none
theorem Au (sz off:Nat)(cs:List AV):dF true sz off cs=JR sz off cs:=_root_.id rfl
theorem JS (sz off:Nat)(cs:List AV):dF false sz off cs=cs[off]?:=_root_.id rfl
def cK (sz:Nat)(l:List PV)(i:Nat):Option PV->Option AV
 | some y=>if y.cells.length=sz then some (.pv (.eptr l i 0)) else none
 | none=>none
theorem oK (sz:Nat)(l:List PV)(i:Nat):dD sz l (i:Int)=cK sz l i l[i]?:=by
 unfold dD cK
 rw[if_pos (by omega)]
 simp only[Int.toNat_natCast]
 cases l[i]? <;> rfl
theorem au (sz:Nat)(l:List PV):dD sz l 0=cK sz l 0 l[0]?:=_root_.id rfl
theorem vT (sz:Nat)(l:List PV)(i:Nat):dD sz l ((i:Int)+1)=cK sz l (i+1) l[i+1]?:=oK sz l (i+1)
theorem Aa (sz:Nat)(l:List PV){n:Int}(h:0<=n):dD sz l n=cK sz l n.toNat l[n.toNat]?:=by
 unfold dD cK
 rw[if_pos h]
 cases l[n.toNat]? <;> rfl
theorem rc (sz:Nat)(l:List PV)(k:IntKind)(n:Int):gG sz (.pv (.list l)) (.pv (.int k n))=dD sz l n:=_root_.id rfl
theorem oJ (sz r s:Nat)(l:List PV)(k:IntKind)(n:Int):gG sz (.olist r s l) (.pv (.int k n))=dD sz l n:=_root_.id rfl
theorem vR (sz r off len:Nat)(k:IntKind){n:Int}(h:0<=n)(h':n.toNat<len):gG sz (.row r sz off len) (.pv (.int k n))=some (.ptr r (off+n.toNat*sz)):=by
 simp[gG,h,h']
theorem EZ (l:List UInt8):DP true (.pv (.str l))=some (.pv (.int .i64 l.length)):=_root_.id rfl
theorem z8 (l:List PV):DP false (.pv (.list l))=some (.pv (.int .i64 l.length)):=_root_.id rfl
theorem z7:DP false (.pv .nils)=some (.pv (.int .i64 0)):=_root_.id rfl
theorem vQ (r s:Nat)(l:List PV):DP false (.olist r s l)=some (.pv (.int .i64 l.length)):=_root_.id rfl
theorem E0 (r s o n:Nat):DP false (.row r s o n)=some (.pv (.int .i64 n)):=_root_.id rfl
theorem rg {d top:Nat}{k:IntKind}{n:Int}(h0:0<=n)(h1:n<=top):aU d top (some (.pv (.int k n)))=some n.toNat:=by
 simp[aU,h0,h1]
theorem rh {d top:Nat}:aU d top none=some d:=_root_.id rfl
def Rc {α:Type}(l:List α)(f:List α->AV):Option Nat->Option Nat->Option AV
 | some h,some a=>some (f ((l.take h).drop a))
 | _,_=>none
theorem CO {α:Type}(l:List α)(f:List α->AV)(h a:Nat):Rc l f (some h) (some a)=some (f ((l.take h).drop a)):=_root_.id rfl
def Rp (l:Nat)(lo:Option AV):Option Nat->Option Nat
 | some h=>aU 0 h lo
 | none=>none
theorem Dn (l:Nat)(lo:Option AV)(h:Nat):Rp l lo (some h)=aU 0 h lo:=_root_.id rfl
theorem qW (l:List UInt8)(lo hi:Option AV):fX (.pv (.str l)) lo hi=Rc l (fun x=>.pv (.str x)) (aU l.length l.length hi) (Rp l.length lo (aU l.length l.length hi)):=by
 unfold fX Rc Rp
 simp only
 split<;>rename_i h
 ·rw[h];simp only;cases aU 0 _ lo<;>rfl
 ·rw[h]
theorem Fb (k:IntKind)(a b:Int):eS .add (.pv (.int k a)) (.pv (.int k b))=some (.pv (.int k (k.wrap (a+b)))):=by simp[eS,ta]
theorem E1 (k:IntKind)(a b:Int):eS .sub (.pv (.int k a)) (.pv (.int k b))=some (.pv (.int k (k.wrap (a - b)))):=by simp[eS,ta]
theorem E5 (k:IntKind)(a b:Int):eS .mul (.pv (.int k a)) (.pv (.int k b))=some (.pv (.int k (k.wrap (a*b)))):=by simp[eS,ta]
theorem E3 {k:IntKind}{a b:Int}(h:¬ b=0):eS .quo (.pv (.int k a)) (.pv (.int k b))=some (.pv (.int k (k.wrap (a.tdiv b)))):=by simp[eS,ta,h]
theorem E2 {k:IntKind}{a b:Int}(h:¬ b=0):eS .rem (.pv (.int k a)) (.pv (.int k b))=some (.pv (.int k (a.tmod b))):=by simp[eS,ta,h]
theorem Fa (k:IntKind)(a b:Int):eS .eql (.pv (.int k a)) (.pv (.int k b))=some (.pv (.bool (decide (a=b)))):=by simp[eS,ta];rfl
theorem E4 (k:IntKind)(a b:Int):eS .neq (.pv (.int k a)) (.pv (.int k b))=some (.pv (.bool (!decide (a=b)))):=by simp[eS,ta];rfl
theorem E6 (k:IntKind)(a b:Int):eS .lss (.pv (.int k a)) (.pv (.int k b))=some (.pv (.bool (decide (a<b)))):=by simp[eS,ta]
theorem E7 (k:IntKind)(a b:Int):eS .leq (.pv (.int k a)) (.pv (.int k b))=some (.pv (.bool (decide (a<=b)))):=by simp[eS,ta]
theorem E8 (k:IntKind)(a b:Int):eS .gtr (.pv (.int k a)) (.pv (.int k b))=some (.pv (.bool (decide (b<a)))):=by simp[eS,ta]
theorem E9 (k:IntKind)(a b:Int):eS .geq (.pv (.int k a)) (.pv (.int k b))=some (.pv (.bool (decide (b<=a)))):=by simp[eS,ta]
theorem Ah {a b:List UInt8}(h:a.length+b.length<=9223372036854775807):eS .add (.pv (.str a)) (.pv (.str b))=some (.pv (.str (a++b))):=by
 have:a.length+b.length<=maxLen:=by unfold maxLen;omega
 simp[eS,LT,this]
theorem Ag (a b:List UInt8):eS .eql (.pv (.str a)) (.pv (.str b))=some (.pv (.bool (decide (a=b)))):=by
 simp[eS,LT];rw[Bool.eq_iff_iff];simp
theorem Ad (a b:List UInt8):eS .neq (.pv (.str a)) (.pv (.str b))=some (.pv (.bool (!decide (a=b)))):=by
 simp[eS,LT];rw[Bool.eq_iff_iff];simp
theorem Ae (a b:List UInt8):eS .lss (.pv (.str a)) (.pv (.str b))=some (.pv (.bool (bf a b))):=_root_.id rfl
theorem Af (a b:List UInt8):eS .geq (.pv (.str a)) (.pv (.str b))=some (.pv (.bool (!(bf a b)))):=_root_.id rfl
theorem Ai (x:PV)(l:List PV):HX 2 (.pv (.list (x::l))) (.pv .nils)=some false:=_root_.id rfl
theorem EW (k:IntKind)(n:Int):LW (.pv (.int k n))=some (.pv (.int k (k.wrap (0 - n)))):=_root_.id rfl
theorem zY (b:Bool):LU (.pv (.bool b))=some (.pv (.bool (!b))):=_root_.id rfl
theorem Ac (k k':IntKind)(n:Int):vU k (.pv (.int k' n))=some (.pv (.int k (k.wrap n))):=_root_.id rfl
theorem EV (r o:Nat):LV (.ptr r o)=some (.ptr r o):=_root_.id rfl
theorem JL (i:Nat)(ps:List PV):LX i (.pv (.tup ps))=(ps[i]?).map .pv:=_root_.id rfl
theorem AQ {α β:Type}(f:α->β)(a:α):(some a).map f=some (f a):=_root_.id rfl
theorem SR {α:Type}(x:α)(r:List α):(x::r)[0]? = some x:=_root_.id rfl
theorem SQ {α:Type}(x:α)(r:List α)(n:Nat):(x::r)[n+1]? = r[n]?:=_root_.id rfl
theorem JO:pvs []=some []:=_root_.id rfl
def PD:Option PV->Option (List PV)->Option (List PV)
 | some p,some ps=>some (p::ps)
 | _,_=>none
theorem Aj (p:PV)(ps:List PV):PD (some p) (some ps)=some (p::ps):=_root_.id rfl
theorem Ak (x:Option (List PV)):PD none x=none:=_root_.id rfl
theorem vW (x:Option PV):PD x none=none:=by cases x<;>rfl
theorem nh (x:AV)(r:List AV):pvs (x::r)=PD x.toPV (pvs r):=by
 show (match x.toPV,pvs r with | some p,some ps=>some (p::ps) | _,_=>none)=_
 cases x.toPV<;>cases pvs r<;>rfl
theorem pvs_map:∀ (ps:List PV),pvs (ps.map .pv)=some ps
 | []=>rfl
 | x::r=>by rw[List.map_cons,nh,pvs_map r];rfl
theorem IT (p:PV):(AV.pv p).toPV=some p:=_root_.id rfl
theorem vd (r s:Nat)(l:List PV):(AV.olist r s l).toPV=some (.list l):=_root_.id rfl
theorem Ea (r o:Nat):(AV.ptr r o).toPV=none:=_root_.id rfl
theorem D9 (r s o n:Nat):(AV.row r s o n).toPV=none:=_root_.id rfl
theorem Eb (f:Nat)(a b:List AV):(AV.clo f a b).toPV=none:=_root_.id rfl
def Bc (cs:List AV):Option (List PV)->AV
 | some ps=>.pv (.agg ps)
 | none=>.agg cs
theorem Bb (cs:List AV):jh cs=Bc cs (pvs cs):=by unfold jh;cases pvs cs<;>rfl
theorem kz (cs:List AV)(ps:List PV):Bc cs (some ps) = .pv (.agg ps):=_root_.id rfl
theorem rJ (cs:List AV):Bc cs none = .agg cs:=_root_.id rfl
def H2 (cs:List AV):Option (List PV)->AV
 | some ps=>.pv (.tup ps)
 | none=>.tup cs
theorem Kg (cs:List AV):pf cs=H2 cs (pvs cs):=by unfold pf;cases pvs cs<;>rfl
theorem rF (cs:List AV)(ps:List PV):H2 cs (some ps) = .pv (.tup ps):=_root_.id rfl
def tI (f:Nat)(fs cs:List AV):Option (List PV)->Option (List PV)->AV
 | some a,some b=>.pv (.clo f a b)
 | _,_=>.clo f fs cs
theorem Kh (f:Nat)(fs cs:List AV):rI f fs cs=tI f fs cs (pvs fs) (pvs cs):=by unfold rI tI;cases pvs fs<;>cases pvs cs<;>rfl
theorem rG (f:Nat)(fs cs:List AV)(a b:List PV):tI f fs cs (some a) (some b) = .pv (.clo f a b):=_root_.id rfl
theorem rH (f:Nat)(fs cs:List AV)(a:Option (List PV)):tI f fs cs a none = .clo f fs cs:=by cases a<;>rfl
theorem C9 (p:PV):(AV.pv p).cells=p.cells.map .pv:=_root_.id rfl
theorem xO (cs:List AV):(AV.agg cs).cells=cs:=_root_.id rfl
theorem xM (r o:Nat):(AV.ptr r o).cells=[.ptr r o]:=_root_.id rfl
theorem xL (r s o n:Nat):(AV.row r s o n).cells=[.row r s o n]:=_root_.id rfl
theorem pT (r s:Nat)(l:List PV):(AV.olist r s l).cells=[.olist r s l]:=_root_.id rfl
theorem xN (f:Nat)(a b:List AV):(AV.clo f a b).cells=[.clo f a b]:=_root_.id rfl
theorem ag (cs:List PV):(PV.agg cs).cells=cs:=_root_.id rfl
theorem xK (b:Bool):(PV.bool b).cells=[.bool b]:=_root_.id rfl
theorem C7 (k:IntKind)(n:Int):(PV.int k n).cells=[.int k n]:=_root_.id rfl
theorem C5 (s:List UInt8):(PV.str s).cells=[.str s]:=_root_.id rfl
theorem xI:PV.nils.cells=[.nils]:=_root_.id rfl
theorem xJ (l:List PV):(PV.list l).cells=[.list l]:=_root_.id rfl
theorem C8 (f:Nat)(a b:List PV):(PV.clo f a b).cells=[.clo f a b]:=_root_.id rfl
def Kp (g:Bool)(sz o:Nat):Blk->Option AV
 | .cells _ _ l=>dF g sz o l
 | _=>none
theorem rP (g:Bool)(sz o T:Nat)(f:Bool)(l:List AV):Kp g sz o (.cells T f l)=dF g sz o l:=_root_.id rfl
def Kl (g:Bool)(sz o:Nat):Option PV->Option AV
 | some e=>lI g sz o e
 | none=>none
theorem wG (g:Bool)(sz o:Nat)(e:PV):Kl g sz o (some e)=lI g sz o e:=_root_.id rfl
theorem zZ (G:Nat->List PV)(g:Bool)(sz:Nat)(σ:aw)(r o:Nat):eK G g sz σ (.ptr r o)=Kp g sz o (σ r):=by
 simp only[eK,Kp];cases σ r<;>rfl
theorem vP (G:Nat->List PV)(g:Bool)(sz:Nat)(σ:aw)(l:List PV)(i o:Nat):eK G g sz σ (.pv (.eptr l i o))=Kl g sz o l[i]?:=by
 simp only[eK,Kl];cases l[i]? <;> rfl
theorem Ko (sz o:Nat)(e:PV):lI false sz o e=dF false sz o (e.cells.map .pv):=by simp[lI]
theorem Kn {sz o:Nat}{cs:List PV}(h:0<o):lI true sz o (.agg cs)=dF true sz o (cs.map .pv):=by
 simp[lI,PV.cells];omega
def DO (e:List (Nat×AV))(σ:List (Nat×Blk))(new:Nat):XOp->Option (AV×List (Nat×Blk))
 | .noesc x=>some (evE e x,[])
 | .ucast u n b x=>(ke u n b (fun r=>lookB r σ) (evE e x)).map fun v=>(v,[])
 | .peq ng x y=>(PC ng (evE e x) (evE e y)).map fun v=>(v,[])
 | .apps t by_ x y=>Fd t by_ new (fun r=>lookB r σ) (evE e x) (evE e y)
 | .sdata x=>(s9 (evE e x)).map fun v=>(v,[])
 | .ustr t x k=>zU t (fun r=>lookB r σ) (evE e x) (evE e k)
 | .ofStr x=>fL new (evE e x)
 | .inil ng x y=>(oH ng (evE e x) (evE e y)).map fun v=>(v,[])
 | .idxb x y=>(q9 (evE e x) (evE e y)).map fun v=>(v,[])
 | .same x=>zW (fun r=>lookB r σ) (evE e x)
theorem Iz (e:List (Nat×AV))(σ:List (Nat×Blk))(n new:Nat)(o:XOp):o.run new (St.E ⟨e,σ,n⟩) (St.σ ⟨e,σ,n⟩)=DO e σ new o:=by
 cases o<;>simp only[XOp.run,DO,jl,GP]<;>rfl
def nt (G:Nat->List PV)(e:List (Nat×AV))(σ:List (Nat×Blk))(new:Nat):MOp->Option (AV×List (Nat×Blk))
 | .alloc T zs=>some (.ptr new 0,[(new,.cells T true (zs.map .pv))])
 | .box T x=>if (evE e x).known=true then some (.ptr new 0,[(new,.cells T true (evE e x).cells)]) else none
 | .cbox T x=>match (evE e x).toPV with
   | some p=>if p.cells.all PV.one=true then some (.pv (.eptr [p] 0 0),[(new,.none)]) else none
   | none=>none
 | .load g sz x=>(eK G g sz (fun r=>lookB r σ) (evE e x)).map fun v=>(v,[])
 | .store sz x v=>(gE sz (fun r=>lookB r σ) (evE e x) (evE e v)).map fun d=>(.pv .undef,d)
 | .toStr x=>(gD (fun r=>lookB r σ) (evE e x)).map fun v=>(v,[])
 | .xop o=>DO e σ new o
 | .bslice mu t sz len xs=>eh mu t sz len new (evL e xs)
 | .append mu t sz by_ x y=>dE mu t sz by_ new (fun r=>lookB r σ) (evE e x) (evE e y)
 | .mk mu t sz by_ zs x y=>rMk mu t sz by_ zs new (evE e x) (evE e y)
theorem Bg (G:Nat->List PV)(e:List (Nat×AV))(σ:List (Nat×Blk))(n new:Nat)(o:MOp):o.run G new (St.E ⟨e,σ,n⟩) (St.σ ⟨e,σ,n⟩)=nt G e σ new o:=by
 cases o<;>first | (simp only[MOp.run,nt,jl,GP,N4]<;>rfl) | exact Iz e σ n new _
def qz (δ:List (Nat×Blk)):Option AV->Option (AV×List (Nat×Blk))
 | some v=>some (v,δ)
 | none=>none
theorem uY (δ:List (Nat×Blk))(v:AV):qz δ (some v)=some (v,δ):=_root_.id rfl
def Mw (v:AV):Option (List (Nat×Blk))->Option (AV×List (Nat×Blk))
 | some δ=>some (v,δ)
 | none=>none
theorem uX (δ:List (Nat×Blk))(v:AV):Mw v (some δ)=some (v,δ):=_root_.id rfl
theorem wD (G:Nat->List PV)(e:List (Nat×AV))(σ:List (Nat×Blk))(new T:Nat)(zs:List PV):nt G e σ new (.alloc T zs)=some (.ptr new 0,[(new,.cells T true (zs.map .pv))]):=_root_.id rfl
def SB (new T:Nat)(v:AV):Bool->Option (AV×List (Nat×Blk))
 | true=>some (.ptr new 0,[(new,.cells T true v.cells)])
 | false=>none
theorem OS (new T:Nat)(v:AV):SB new T v true=some (.ptr new 0,[(new,.cells T true v.cells)]):=_root_.id rfl
theorem FW (G:Nat->List PV)(e:List (Nat×AV))(σ:List (Nat×Blk))(new T:Nat)(x:AX):nt G e σ new (.box T x)=SB new T (evE e x) (evE e x).known:=by
 simp only[nt];cases (evE e x).known<;>rfl
def Lc (new:Nat):Option PV->Option (AV×List (Nat×Blk))
 | some p=>if p.cells.all PV.one=true then some (.pv (.eptr [p] 0 0),[(new,.none)]) else none
 | none=>none
theorem xP (new:Nat)(p:PV):Lc new (some p)=if p.cells.all PV.one=true then some (.pv (.eptr [p] 0 0),[(new,.none)]) else none:=_root_.id rfl
theorem Bh (G:Nat->List PV)(e:List (Nat×AV))(σ:List (Nat×Blk))(new T:Nat)(x:AX):nt G e σ new (.cbox T x)=Lc new (evE e x).toPV:=by
 simp only[nt,Lc]
theorem F6 (p:PV):(AV.pv p).known=true:=_root_.id rfl
theorem Bv (cs:List AV):(AV.agg cs).known=true:=_root_.id rfl
theorem Bt (r o:Nat):(AV.ptr r o).known=true:=_root_.id rfl
theorem Bs (r s o n:Nat):(AV.row r s o n).known=true:=_root_.id rfl
theorem rR (r s:Nat)(l:List PV):(AV.olist r s l).known=true:=_root_.id rfl
theorem Bu (f:Nat)(a b:List AV):(AV.clo f a b).known=true:=_root_.id rfl
theorem Bf (G:Nat->List PV)(e:List (Nat×AV))(σ:List (Nat×Blk))(new:Nat)(g:Bool)(sz:Nat)(x:AX):nt G e σ new (.load g sz x)=qz [] (eK G g sz (fun r=>lookB r σ) (evE e x)):=by
 simp only[nt];cases eK G g sz (fun r=>lookB r σ) (evE e x)<;>rfl
theorem wC (G:Nat->List PV)(e:List (Nat×AV))(σ:List (Nat×Blk))(new sz:Nat)(x v:AX):nt G e σ new (.store sz x v)=Mw (.pv .undef) (gE sz (fun r=>lookB r σ) (evE e x) (evE e v)):=by
 simp only[nt];cases gE sz (fun r=>lookB r σ) (evE e x) (evE e v)<;>rfl
theorem rL (G:Nat->List PV)(e:List (Nat×AV))(σ:List (Nat×Blk))(new:Nat)(mu:Bool)(t sz len:Nat)(xs:List AX):nt G e σ new (.bslice mu t sz len xs)=eh mu t sz len new (evL e xs):=_root_.id rfl
theorem rM (G:Nat->List PV)(e:List (Nat×AV))(σ:List (Nat×Blk))(new:Nat)(mu:Bool)(t sz by_:Nat)(x y:AX):nt G e σ new (.append mu t sz by_ x y)=dE mu t sz by_ new (fun r=>lookB r σ) (evE e x) (evE e y):=_root_.id rfl
theorem Ki (G:Nat->List PV)(e:List (Nat×AV))(σ:List (Nat×Blk))(new:Nat)(mu:Bool)(t sz by_:Nat)(zs:List PV)(x y:AX):nt G e σ new (.mk mu t sz by_ zs x y)=rMk mu t sz by_ zs new (evE e x) (evE e y):=_root_.id rfl
theorem JI {e sz by_:Nat}{zs:List PV}{new:Nat}{k k':IntKind}{c:Int}(h:0<=c)(h1:(by_:Int)*c<=281474976710656)(h2:c<=9223372036854775807):rMk false e sz by_ zs new (.pv (.int k 0)) (.pv (.int k' c))=some (.olist new sz [],[(new,.tok e sz)]):=by
 simp[rMk,h,h1,h2]
def sM (sz r o:Nat)(v:AV):Blk->Option (List (Nat×Blk))
 | .cells T f l=>if v.known=true/\v.cells.length=sz/\v.cells.all AV.one=true/\o+sz<=l.length then some [(r,.cells T f (l.take o++v.cells++l.drop (o+sz)))] else none
 | _=>none
theorem vN (sz:Nat)(σ:aw)(r o:Nat)(v:AV):gE sz σ (.ptr r o) v=sM sz r o v (σ r):=by
 simp only[gE,sM];cases σ r<;>rfl
def oi (r T:Nat)(f:Bool)(l:List AV)(sz o:Nat)(cs:List AV):Bool->Option (List (Nat×Blk))
 | true=>some [(r,.cells T f (l.take o++cs++l.drop (o+sz)))]
 | false=>none
theorem oj (sz r o:Nat)(v:AV)(T:Nat)(f:Bool)(l:List AV):sM sz r o v (.cells T f l)=oi r T f l sz o v.cells (v.known&&decide (v.cells.length=sz)&&v.cells.all AV.one&&decide (o+sz<=l.length)):=by
 simp only[sM]
 by_cases h:v.known=true/\v.cells.length=sz/\v.cells.all AV.one=true/\o+sz<=l.length
 ·rw[if_pos h]
  have:(v.known&&decide (v.cells.length=sz)&&v.cells.all AV.one&&decide (o+sz<=l.length))=true:=by simp only[Bool.and_eq_true,decide_eq_true_eq];exact⟨⟨⟨h.1,h.2.1⟩,h.2.2.1⟩,h.2.2.2⟩
  rw[this];rfl
 ·rw[if_neg h]
  have:(v.known&&decide (v.cells.length=sz)&&v.cells.all AV.one&&decide (o+sz<=l.length))=false:=by
   rw[Bool.eq_false_iff]
   intro hh
   simp only[Bool.and_eq_true,decide_eq_true_eq] at hh
   exact h ⟨hh.1.1.1,hh.1.1.2,hh.1.2,hh.2⟩
  rw[this];rfl
theorem Er (r T:Nat)(f:Bool)(l:List AV)(sz o:Nat)(cs:List AV):oi r T f l sz o cs true=some [(r,.cells T f (l.take o++cs++l.drop (o+sz)))]:=_root_.id rfl
theorem m8 {n m by_:Nat}(h1:n+m<=9223372036854775807)(h2:(n+m)*by_<=140737488355328):ov n m by_=true:=by
 simp[ov,h1,h2]
theorem D3 (l:List (Nat×Blk)):mV l []=l:=_root_.id rfl
theorem yN (l:List (Nat×Blk))(p:Nat×Blk)(r:List (Nat×Blk)):mV l (p::r)=mV (p::l) r:=_root_.id rfl
theorem GZ (f:Nat)(a b:List PV):dn (.pv (.clo f a b))=some (f,a.map .pv,b.map .pv):=_root_.id rfl
theorem G0 (f:Nat)(a b:List AV):dn (.clo f a b)=some (f,a,b):=_root_.id rfl
theorem JZ {α:Type}(a:α)(k:α->Prop):aG (some a) k=k a:=_root_.id rfl
section
variable {P:Program}{G:Nat->List PV}
theorem FJ (F:St->Prop)(e:List (Nat×AV))(σ:List (Nat×Blk))(n d:Nat)(v:AV):Kc F ⟨e,σ,n⟩ (some d) v=F ⟨(d,v)::e,σ,n⟩:=_root_.id rfl
theorem FL (F:St->Prop)(e:List (Nat×AV))(σ:List (Nat×Blk))(n d:Nat)(v:AV)(δ:List (Nat×Blk)):wp F ⟨e,σ,n⟩ (some d) (v,δ)=F ⟨(d,v)::e,mV σ δ,n+1⟩:=_root_.id rfl
theorem FK (F:St->Prop)(e:List (Nat×AV))(σ:List (Nat×Blk))(n:Nat)(v:AV)(δ:List (Nat×Blk)):wp F ⟨e,σ,n⟩ none (v,δ)=F ⟨e,mV σ δ,n+1⟩:=_root_.id rfl
theorem FM (F:St->Prop)(e:List (Nat×AV))(σ:List (Nat×Blk))(n d:Nat)(v:AV):Kd F (some d) v ⟨e,σ,n⟩=F ⟨(d,v)::e,σ,n⟩:=_root_.id rfl
theorem G6 (args:List AV)(s:St)(K:AV->St->Prop)(f:Nat)(a b:List AV):Db P G args s K (f,a,b)=ab P G f (a++args++b) s K:=_root_.id rfl
theorem yE (F:St->Prop)(s:St):dq P G [] F s=F s:=_root_.id rfl
theorem u7 (d:Option Nat)(o:AOp)(r:List AOper)(F:St->Prop)(s:St):dq P G (⟨d,o,none⟩::r) F s=lC P G (dq P G r F) s d o:=_root_.id rfl
def jQ (b:Bool):AV->Option Bool
 | .pv (.bool x)=>some (x == b)
 | .pv .undef=>some false
 | _=>none
theorem yw (x:Bool):jQ true (.pv (.bool x))=some x:=by cases x<;>rfl
theorem yx (x:Bool):jQ false (.pv (.bool x))=some (!x):=by cases x<;>rfl
theorem yu (b:Bool):jQ b (.pv .undef)=some false:=_root_.id rfl
theorem qA (d:Option Nat)(o:AOp)(i:Nat)(b:Bool)(r:List AOper)(F:St->Prop)(e:List (Nat×AV))(σ:List (Nat×Blk))(n:Nat) :
  dq P G (⟨d,o,some (i,b)⟩::r) F ⟨e,σ,n⟩=aG (jQ b (look i e)) (K2 P G (dq P G r F) ⟨e,σ,n⟩ d o):=_root_.id rfl
theorem CB (F:St->Prop)(s:St)(d:Option Nat)(o:AOp):K2 P G F s d o true=lC P G F s d o:=_root_.id rfl
theorem xj (F:St->Prop)(e:List (Nat×AV))(σ:List (Nat×Blk))(n:Nat)(d:Nat)(o:AOp):K2 P G F ⟨e,σ,n⟩ (some d) o false=F ⟨(d,.pv .undef)::e,σ,n⟩:=_root_.id rfl
def NA (k:AV->Prop):AV->Prop
 | .pv (.list [])=>∀ b:Bool,k (.pv (.bool b))
 | _=>False
def nk (x:Option AV)(k:AV->Prop)(e:List (Nat×AV))(o:TOp):Prop:=
 match x with
 | some v=>k v
 | none=>match o with
   | .beq 2 _ y (.c .nils)=>NA k (evE e y)
   | _=>False
theorem oQ (v:AV)(k:AV->Prop)(e:List (Nat×AV))(o:TOp):nk (some v) k e o=k v:=_root_.id rfl
theorem oR (k:AV->Prop)(e:List (Nat×AV))(ng:Bool)(y:AX):nk none k e (.beq 2 ng y (.c .nils))=NA k (evE e y):=_root_.id rfl
theorem FF (k:AV->Prop):NA k (.pv (.list [])) = ∀ b:Bool,k (.pv (.bool b)):=_root_.id rfl
theorem Fc (ng:Bool):JN ng (HX 2 (.pv (.list [])) (.pv .nils))=none:=_root_.id rfl
theorem N9 (F:St->Prop)(e:List (Nat×AV))(σ:List (Nat×Blk))(n:Nat)(d:Option Nat)(o:TOp):lC P G F ⟨e,σ,n⟩ d (.t o)=nk (iT e o) (Kc F ⟨e,σ,n⟩ d) e o:=by
 rw[<- yX e σ n]
 show iz (o.run (St.E ⟨e,σ,n⟩)) _ _=_
 cases hr:o.run (St.E ⟨e,σ,n⟩) with
 | some v=>rfl
 | none=>
   simp only[iz,nk]
   refine propext ⟨fun h=>?_,fun h=>?_⟩
   ·obtain⟨h1,h2⟩:=h
    unfold NB at h1
    split at h1
    ·split at h1
     ·rename_i hev
      rw[jl] at hev
      show NA _ _
      rw[hev];exact h2
     ·cases h1
    ·cases h1
   ·split at h
    ·rename_i y
     unfold NA at h
     split at h
     ·rename_i hev
      refine⟨?_,h⟩
      simp only[NB]
      rw[jl,hev]
     ·exact h.elim
    ·exact h.elim
theorem Oa (F:St->Prop)(e:List (Nat×AV))(σ:List (Nat×Blk))(n:Nat)(d:Option Nat)(o:MOp):lC P G F ⟨e,σ,n⟩ d (.m o)=aG (nt G e σ n o) (wp F ⟨e,σ,n⟩ d):=by
 rw[<- Bg G e σ n];rfl
theorem CA (F:St->Prop)(e:List (Nat×AV))(σ:List (Nat×Blk))(n:Nat)(d:Option Nat)(f:AX)(xs:List AX):lC P G F ⟨e,σ,n⟩ d (.call f xs)=aG (dn (evE e f)) (Db P G (evL e xs) ⟨e,σ,n⟩ (Kd F d)):=by
 rw[<- jl e σ n,<- Cp e σ n];rfl
theorem Ev (F:List (List Nat×List Nat)->St->Prop)(T:List (List Nat×List Nat))(e:List (Nat×AV))(σ:List (Nat×Blk))(n d:Nat)(v:AV):Ew F T ⟨e,σ,n⟩ (some d) v=F (T++[([],[])]) ⟨(d,v)::e,σ,n⟩:=_root_.id rfl
theorem Ey (F:List (List Nat×List Nat)->St->Prop)(T:List (List Nat×List Nat))(e:List (Nat×AV))(σ:List (Nat×Blk))(n d k:Nat)(rd:List Nat)(v:AV)(δ:List (Nat×Blk)):stepM F T ⟨e,σ,n⟩ (some d) k rd (v,δ)=F (T++[fJ k (aQ δ) rd]) ⟨(d,v)::e,mV σ δ,n+1⟩:=_root_.id rfl
theorem Ex (F:List (List Nat×List Nat)->St->Prop)(T:List (List Nat×List Nat))(e:List (Nat×AV))(σ:List (Nat×Blk))(n k:Nat)(rd:List Nat)(v:AV)(δ:List (Nat×Blk)):stepM F T ⟨e,σ,n⟩ none k rd (v,δ)=F (T++[fJ k (aQ δ) rd]) ⟨e,mV σ δ,n+1⟩:=_root_.id rfl
theorem ae {F:List (List Nat×List Nat)->St->Prop}{T:List (List Nat×List Nat)}{e:List (Nat×AV)}{σ:List (Nat×Blk)}{n d:Nat}{f:Nat}{a b args:List AV}{ps:List PV}{r:PV}(h:ak P G f ps r)(he:pvs (a++args++b)=some ps)
  (hk:F (T++[([],[])]) ⟨(d,.pv r)::e,σ,n⟩):mN P G F T ⟨e,σ,n⟩ (some d) args (f,a,b):=.inl ⟨ps,r,he,h,hk⟩
theorem M5 (ks rs:List Nat):fJ 0 ks rs=(ks.map (· + 1),rs.map (· + 1)):=_root_.id rfl
theorem M4 (ks rs:List Nat):fJ 1 ks rs=(ks.map (· + 1),0::rs.map (· + 1)):=_root_.id rfl
theorem rK (g:Bool)(sz:Nat)(x:AX):dy (.load g sz x)=0:=_root_.id rfl
theorem pk (sz:Nat)(x v:AX):dy (.store sz x v)=0:=_root_.id rfl
theorem pj (x:AX):dy (.toStr x)=0:=_root_.id rfl
theorem pl (T:Nat)(z:List PV):dy (.alloc T z)=1:=_root_.id rfl
theorem nq (m:Bool)(e s l:Nat)(x:List AX):dy (.bslice m e s l x)=1:=_root_.id rfl
theorem nr (m:Bool)(e s l:Nat)(x y:AX):dy (.append m e s l x y)=1:=_root_.id rfl
theorem IK {A:List (List Nat)}{F:St->Prop}{T:List (List Nat×List Nat)}{s:St}(h:Chk (okB A T)):vcD P G A F [] T s=F s:=by
 show (okB A T=true/\F s)=F s
 rw[eq_iff_iff]
 exact⟨fun x=>x.2,fun x=>⟨h,x⟩⟩
theorem D2 (A:List (List Nat))(F:St->Prop)(d:Option Nat)(o:AOp)(r:List AOper)(T:List (List Nat×List Nat))(s:St):vcD P G A F (⟨d,o,none⟩::r) T s=gX P G (vcD P G A F r) T s d o:=_root_.id rfl
theorem yF (A:List (List Nat))(F:St->Prop)(d:Option Nat)(o:AOp)(i:Nat)(b:Bool)(r:List AOper)(T:List (List Nat×List Nat))(e:List (Nat×AV))(σ:List (Nat×Blk))(n:Nat) :
  vcD P G A F (⟨d,o,some (i,b)⟩::r) T ⟨e,σ,n⟩=aG (jQ b (look i e)) (r5 P G (vcD P G A F r) T ⟨e,σ,n⟩ d o):=_root_.id rfl
theorem xm (F:List (List Nat×List Nat)->St->Prop)(T:List (List Nat×List Nat))(s:St)(d:Option Nat)(o:AOp):r5 P G F T s d o true=gX P G F T s d o:=_root_.id rfl
theorem r4 (F:List (List Nat×List Nat)->St->Prop)(T:List (List Nat×List Nat))(e:List (Nat×AV))(σ:List (Nat×Blk))(n:Nat)(d:Nat)(o:AOp):r5 P G F T ⟨e,σ,n⟩ (some d) o false=F (T++[([],[])]) ⟨(d,.pv .undef)::e,σ,n⟩:=_root_.id rfl
theorem K0 (F:List (List Nat×List Nat)->St->Prop)(T:List (List Nat×List Nat))(e:List (Nat×AV))(σ:List (Nat×Blk))(n:Nat)(d:Option Nat)(o:TOp):gX P G F T ⟨e,σ,n⟩ d (.t o)=aG (iT e o) (Ew F T ⟨e,σ,n⟩ d):=by
 rw[<- yX e σ n];rfl
def HD (e:List (Nat×AV)):XOp->List Nat
 | .ucast _ _ _ x | .apps _ _ x _ | .ustr _ x _ | .same x=>(evE e x).name
 | .noesc _ | .peq _ _ _ | .sdata _ | .ofStr _ | .inil _ _ _ | .idxb _ _=>[]
def gL (e:List (Nat×AV)):MOp->List Nat
 | .xop o=>HD e o
 | .load _ _ x | .toStr x=>(evE e x).name
 | .append _ _ _ _ x y=>(evE e x).name++(evE e y).name
 | .store _ x _=>(evE e x).name
 | .alloc _ _ | .box _ _ | .cbox _ _ | .bslice _ _ _ _ _ | .mk _ _ _ _ _ _ _=>[]
theorem pm (e:List (Nat×AV))(x:AX):gL e (.toStr x)=(evE e x).name:=_root_.id rfl
theorem rN (e:List (Nat×AV))(g:Bool)(sz:Nat)(x:AX):gL e (.load g sz x)=(evE e x).name:=_root_.id rfl
theorem po (e:List (Nat×AV))(T:Nat)(x:List PV):gL e (.alloc T x)=[]:=_root_.id rfl
theorem pn (e:List (Nat×AV))(sz:Nat)(x v:AX):gL e (.store sz x v)=(evE e x).name:=_root_.id rfl
theorem nv (e:List (Nat×AV))(mu:Bool)(t sz b:Nat)(x y:AX):gL e (.append mu t sz b x y)=(evE e x).name++(evE e y).name:=_root_.id rfl
theorem nu (e:List (Nat×AV))(mu:Bool)(t sz b:Nat)(x:List AX):gL e (.bslice mu t sz b x)=[]:=_root_.id rfl
theorem Kf (p:PV):(AV.pv p).name=[]:=_root_.id rfl
theorem FQ (r o:Nat):(AV.ptr r o).name=[r]:=_root_.id rfl
theorem FP (r s o n:Nat):(AV.row r s o n).name=[r]:=_root_.id rfl
theorem ww (r s:Nat)(l:List PV):(AV.olist r s l).name=[r]:=_root_.id rfl
theorem By:aQ ([]:List (Nat×Blk))=[]:=_root_.id rfl
theorem wL (r:Nat)(B:Blk)(q:List (Nat×Blk)):aQ ((r,B)::q)=r::aQ q:=_root_.id rfl
theorem K1 (F:List (List Nat×List Nat)->St->Prop)(T:List (List Nat×List Nat))(e:List (Nat×AV))(σ:List (Nat×Blk))(n:Nat)(d:Option Nat)(o:MOp):gX P G F T ⟨e,σ,n⟩ d (.m o)=aG (nt G e σ n o) (stepM F T ⟨e,σ,n⟩ d (dy o) (gL e o)):=by
 have:gL e o=o.reads (St.E ⟨e,σ,n⟩):=by
  cases o<;>simp only[gL,MOp.reads,jl]
  rename_i o
  cases o<;>simp only[HD,XOp.reads,jl]
 rw[<- Bg G e σ n,this];rfl
theorem xh (F:List (List Nat×List Nat)->St->Prop)(T:List (List Nat×List Nat))(e:List (Nat×AV))(σ:List (Nat×Blk))(n:Nat)(d:Option Nat)(f:AX)(xs:List AX):gX P G F T ⟨e,σ,n⟩ d (.call f xs)=aG (dn (evE e f)) (mN P G F T ⟨e,σ,n⟩ d (evL e xs)):=by
 rw[<- jl e σ n,<- Cp e σ n];rfl
def xF (e:List (Nat×AV)):List Nat->List (Nat×AV)
 | []=>[]
 | k::r=>(k,look k e)::xF e r
theorem CR (e:List (Nat×AV)):xF e []=[]:=_root_.id rfl
theorem xE (e:List (Nat×AV))(k:Nat)(r:List Nat):xF e (k::r)=(k,look k e)::xF e r:=_root_.id rfl
theorem uu (e:List (Nat×AV))(σ:List (Nat×Blk))(n:Nat):∀ (l:List Nat),l.map (fun i=>(i,St.E ⟨e,σ,n⟩ i))=xF e l
 | []=>rfl
 | k::r=>by rw[List.map_cons,uu e σ n r];rfl
theorem CS (seen:List Nat):jb seen []=[]:=_root_.id rfl
theorem xG (seen:List Nat)(k:Nat)(b:Blk)(r:List (Nat×Blk)):jb seen ((k,b)::r)=xA k b (jb (k::seen) r) (tJ k seen):=_root_.id rfl
theorem K4 (k:Nat)(b:Blk)(r:List (Nat×Blk)):xA k b r true=r:=_root_.id rfl
theorem K5 (k:Nat)(b:Blk)(r:List (Nat×Blk)):xA k b r false=(k,b)::r:=_root_.id rfl
theorem FV (k:Nat):tJ k []=false:=_root_.id rfl
theorem ND (k j:Nat)(r:List Nat):tJ k (j::r)=if j=k then true else tJ k r:=_root_.id rfl
theorem FD (Q:AExit->St->Prop)(keep:List Nat)(e:List (Nat×AV))(σ:List (Nat×Blk))(n:Nat):rz Q keep ⟨e,σ,n⟩=Q .norm ⟨xF e keep,jb [] σ,n⟩:=by
 rw[<- uu e σ n];rfl
theorem DH (F:St->Prop)(Q:AExit->St->Prop)(s:St):Pj F Q .norm s=F s:=_root_.id rfl
theorem DI (F:St->Prop)(Q:AExit->St->Prop)(i:Nat)(s:St):Pj F Q (.exit i) s=Q (.exit i) s:=_root_.id rfl
theorem Hs (F:St->Prop)(Q:AExit->St->Prop)(s:St):Pj F Q .ret s=Q .ret s:=_root_.id rfl
theorem sv (id:Nat)(Q:AExit->St->Prop)(s:St):ly id Q .norm s=Q .norm s:=_root_.id rfl
theorem sw (id:Nat)(Q:AExit->St->Prop)(i:Nat)(s:St):ly id Q (.exit i) s=if i=id then Q .norm s else Q (.exit i) s:=_root_.id rfl
theorem x8 (id:Nat)(Q:AExit->St->Prop)(s:St):ly id Q .ret s=Q .ret s:=_root_.id rfl
theorem IG (m0:Nat)(Q:AExit->St->Prop)(s:St):vc P G m0 .skip Q s=Q .norm s:=_root_.id rfl
theorem MB (m0:Nat)(l:List AOper)(keep:List Nat)(Q:AExit->St->Prop)(s:St):vc P G m0 (.ops l keep) Q s=dq P G l (rz Q keep) s:=_root_.id rfl
theorem II (m0:Nat)(A:List (List Nat))(l l2:List AOper)(keep:List Nat)(Q:AExit->St->Prop)(s:St):vc P G m0 (.draw A l l2 keep) Q s=vcD P G A (dq P G l2 (rz Q keep)) l [] s:=_root_.id rfl
theorem KZ (F:St->Prop)(e:List (Nat×AV))(σ:List (Nat×Blk))(n:Nat)(d:Option Nat)(g:Option (Bool×Nat))(x:AX):lC P G F ⟨e,σ,n⟩ d (.fz g x)=aG (KR G (fun r=>lookB r σ) g (evE e x)) (wp F ⟨e,σ,n⟩ d):=by
 rw[<- jl e σ n];rfl
theorem Mz (m0:Nat)(a b:ACode)(Q:AExit->St->Prop)(s:St):vc P G m0 (.seq a b) Q s=vc P G m0 a (Pj (vc P G m0 b Q) Q) s:=_root_.id rfl
theorem IJ (m0:Nat)(x:AX)(a b:ACode)(Q:AExit->St->Prop)(e:List (Nat×AV))(σ:List (Nat×Blk))(n:Nat):vc P G m0 (.cond x a b) Q ⟨e,σ,n⟩=oU (evE e x) (vc P G m0 a Q) (vc P G m0 b Q) ⟨e,σ,n⟩:=by
 rw[<- jl e σ n];rfl
theorem D1 (m0 id:Nat)(b:ACode)(Q:AExit->St->Prop)(s:St):vc P G m0 (.block id b) Q s=vc P G m0 b (ly id Q) s:=_root_.id rfl
theorem IH (m0 id:Nat)(Q:AExit->St->Prop)(s:St):vc P G m0 (.exit id) Q s=Q (.exit id) s:=_root_.id rfl
theorem MA (m0:Nat)(Q:AExit->St->Prop)(s:St):vc P G m0 .ret Q s=Q .ret s:=_root_.id rfl
theorem FA (b:Bool)(F H:St->Prop)(s:St):oU (.pv (.bool b)) F H s=ifB b F H s:=by cases b<;>rfl
theorem QH (F H:St->Prop)(s:St):ifB true F H s=F s:=_root_.id rfl
theorem QI (F H:St->Prop)(s:St):ifB false F H s=H s:=_root_.id rfl
def Nd (G:Nat->List PV)(e:List (Nat×AV))(σ:List (Nat×Blk)):ARes->Option AV
 | .tmp t=>some (look t e)
 | .cell t g sz=>eK G g sz (fun r=>lookB r σ) (look t e)
theorem EK (e:List (Nat×AV))(σ:List (Nat×Blk))(t:Nat):Nd G e σ (.tmp t)=some (look t e):=_root_.id rfl
theorem zB (e:List (Nat×AV))(σ:List (Nat×Blk))(t:Nat)(g:Bool)(sz:Nat):Nd G e σ (.cell t g sz)=eK G g sz (fun r=>lookB r σ) (look t e):=_root_.id rfl
theorem HC (res:List ARes)(R:AV->List (Nat×Blk)->Nat->Prop)(s:St):FnK G res R .norm s=aG (eR G s res) (HT R s):=_root_.id rfl
theorem LL (res:List ARes)(R:AV->List (Nat×Blk)->Nat->Prop)(s:St):FnK G res R .ret s=aG (eR G s res) (HT R s):=_root_.id rfl
theorem Js (R:AV->List (Nat×Blk)->Nat->Prop)(e:List (Nat×AV))(σ:List (Nat×Blk))(n:Nat)(l:List AV):HT R ⟨e,σ,n⟩ l=R (x9 l) σ n:=_root_.id rfl
theorem Na (x:AV):x9 [x]=x:=_root_.id rfl
theorem Nb:x9 [] = .pv (.tup []):=_root_.id rfl
theorem M9 (x y:AV)(r:List AV):x9 (x::y::r)=pf (x::y::r):=_root_.id rfl
def Ok:Option AV->Option (List AV)->Option (List AV)
 | some a,some b=>some (a::b)
 | _,_=>none
theorem xB (a:AV)(b:List AV):Ok (some a) (some b)=some (a::b):=_root_.id rfl
theorem zA (s:St):eR G s []=some []:=_root_.id rfl
theorem vI (e:List (Nat×AV))(σ:List (Nat×Blk))(n:Nat)(r:ARes)(q:List ARes):eR G ⟨e,σ,n⟩ (r::q)=Ok (Nd G e σ r) (eR G ⟨e,σ,n⟩ q):=by
 have:Nc G ⟨e,σ,n⟩ r=Nd G e σ r:=by cases r<;>rfl
 show (match Nc G ⟨e,σ,n⟩ r,eR G ⟨e,σ,n⟩ q with | some a,some b=>some (a::b) | _,_=>none)=_
 rw[this]
 cases Nd G e σ r<;>cases eR G ⟨e,σ,n⟩ q<;>rfl
theorem Fg (r:PV)(v:AV)(σ:List (Nat×Blk))(n:Nat):Nm r v σ n=isR r σ v:=_root_.id rfl
theorem NM (r p:PV)(σ:List (Nat×Blk)):isR r σ (.pv p)=Nz p r:=propext ⟨fun ⟨q,h,g⟩=>by cases h;exact g,fun h=>⟨(p,[]),rfl,h⟩⟩
theorem BC (r:PV)(k sz:Nat)(l:List PV)(σ:List (Nat×Blk)):isR r σ (.olist k sz l)=Nz (.list l) r:=propext ⟨fun ⟨q,h,g⟩=>by cases h;exact g,fun h=>⟨(.list l,[]),rfl,h⟩⟩
def wP:List AV->Nat->List (Nat×AV)
 | [],_=>[]
 | x::r,k=>(k,x)::wP r (k+1)
theorem BF (k:Nat):wP [] k=[]:=_root_.id rfl
theorem wO (x:AV)(r:List AV)(k:Nat):wP (x::r) k=(k,x)::wP r (k+1):=_root_.id rfl
theorem BE:∀ (args:List AV) (k:Nat),((args.zipIdx k).map fun p=>(p.2,p.1))=wP args k
 | [],k=>rfl
 | x::r,k=>by rw[List.zipIdx_cons,List.map_cons,BE r (k+1)];rfl
theorem wN (args:List AV):dh args=wP args 0:=BE args 0
theorem Qc {ι:Type}(S:ι->St)(Inv:ι->Prop)(μ:ι->Nat)(x0:ι){m0:Nat}{keep:List Nat}{b:ACode}{Q:AExit->St->Prop}{s:St}(h0:Wk m0 s (S x0))(hi:Inv x0)
  (h:∀ x,Inv x->vc P G m0 b (fun e s'=>match e with
   | .norm=>∃ x',Wk m0 s' (S x')/\Inv x'/\μ x'<μ x
   | .exit i=>Q (.exit i) s'
   | .ret=>Q .ret s') (S x)):vc P G m0 (.loop keep b) Q s:=by
 refine⟨fun n s=>∃ x,s=S x/\Inv x/\μ x=n,⟨μ x0,S x0,h0,x0,rfl,hi,rfl⟩,?_⟩
 rintro n s ⟨x,rfl,hx,rfl⟩
 refine dg b (fun e s' hs=>?_) _ (h x hx)
 cases e with
 | norm=>
   obtain⟨x',h1,h2,h3⟩:=hs
   exact⟨_,_,h3,h1,x',rfl,h2,rfl⟩
 | exit i=>exact⟨s',Wk.of (Wx.refl s') m0,hs⟩
 | ret=>exact hs
def Hd (A:List (Nat×Nat×Nat×Nat))(m0:Nat)(keep:List Nat)(s t:St):Prop:=Wk m0 s t
theorem aI {A:List (Nat×Nat×Nat×Nat)}{m0:Nat}{keep:List Nat}{s t:St}(h:StZ (eo A m0 keep s) t):Hd A m0 keep s t:=Wk.head h
def mP {ι:Type}(A:List (Nat×Nat×Nat×Nat))(S:ι->St)(Inv:ι->Prop)(μ:ι->Nat)(x:ι)(m0:Nat)(keep:List Nat)(Q:AExit->St->Prop):AExit->St->Prop
 | .norm,s'=>∃ x',Hd A m0 keep s' (S x')/\Inv x'/\μ x'<μ x
 | .exit i,s'=>Q (.exit i) s'
 | .ret,s'=>Q .ret s'
theorem sr {ι:Type}(A:List (Nat×Nat×Nat×Nat))(S:ι->St)(Inv:ι->Prop)(μ:ι->Nat)(x:ι)(m0:Nat)(keep:List Nat)(Q:AExit->St->Prop)(s:St):mP A S Inv μ x m0 keep Q .norm s = ∃ x',Hd A m0 keep s (S x')/\Inv x'/\μ x'<μ x:=_root_.id rfl
theorem su {ι:Type}(A:List (Nat×Nat×Nat×Nat))(S:ι->St)(Inv:ι->Prop)(μ:ι->Nat)(x:ι)(m0:Nat)(keep:List Nat)(Q:AExit->St->Prop)(i:Nat)(s:St):mP A S Inv μ x m0 keep Q (.exit i) s=Q (.exit i) s:=_root_.id rfl
theorem x7 {ι:Type}(A:List (Nat×Nat×Nat×Nat))(S:ι->St)(Inv:ι->Prop)(μ:ι->Nat)(x:ι)(m0:Nat)(keep:List Nat)(Q:AExit->St->Prop)(s:St):mP A S Inv μ x m0 keep Q .ret s=Q .ret s:=_root_.id rfl
theorem yD {ι:Type}(A:List (Nat×Nat×Nat×Nat))(S:ι->St)(Inv:ι->Prop)(μ:ι->Nat)(x0:ι){m0:Nat}{keep:List Nat}{b:ACode}{Q:AExit->St->Prop}{s:St}(h0:Hd A m0 keep s (S x0))(hi:Inv x0)
  (h:∀ x,Inv x->vc P G m0 b (mP A S Inv μ x m0 keep Q) (S x)):vc P G m0 (.loop keep b) Q s:=by
 refine Qc S Inv μ x0 h0 hi fun x hx=>?_
 have e:(fun (e:AExit) (s':St)=>match e with
   | .norm=>∃ x',Wk m0 s' (S x')/\Inv x'/\μ x'<μ x
   | .exit i=>Q (.exit i) s'
   | .ret=>Q .ret s')=mP A S Inv μ x m0 keep Q:=by
  funext e s'
  cases e<;>rfl
 rw[e];exact h x hx
def v7 (k:Nat)(x:AV):List (Nat×AV)->AV
 | []=>x
 | p::r=>if p.1=k then p.2 else v7 k x r
def fY:List (Nat×AV)->List (Nat×AV)->List (Nat×AV)
 | [],_=>[]
 | p::r,ch=>(p.1,v7 p.1 p.2 ch)::fY r ch
def wa (k:Nat)(x:Blk):List (Nat×Blk)->Blk
 | []=>x
 | p::r=>if p.1=k then p.2 else wa k x r
def iw:List (Nat×Blk)->List (Nat×Blk)->List (Nat×Blk)
 | [],_=>[]
 | p::r,ch=>(p.1,wa p.1 p.2 ch)::iw r ch
theorem Aq (k:Nat)(x:AV):v7 k x []=x:=_root_.id rfl
theorem vZ (k j:Nat)(x y:AV)(r:List (Nat×AV)):v7 k x ((j,y)::r)=if j=k then y else v7 k x r:=_root_.id rfl
theorem AD (ch:List (Nat×AV)):fY [] ch=[]:=_root_.id rfl
theorem we (k:Nat)(x:AV)(r ch:List (Nat×AV)):fY ((k,x)::r) ch=(k,v7 k x ch)::fY r ch:=_root_.id rfl
theorem Ar (k:Nat)(x:Blk):wa k x []=x:=_root_.id rfl
theorem v8 (k j:Nat)(x y:Blk)(r:List (Nat×Blk)):wa k x ((j,y)::r)=if j=k then y else wa k x r:=_root_.id rfl
theorem AE (ch:List (Nat×Blk)):iw [] ch=[]:=_root_.id rfl
theorem wg (k:Nat)(x:Blk)(r ch:List (Nat×Blk)):iw ((k,x)::r) ch=(k,wa k x ch)::iw r ch:=_root_.id rfl
theorem am {ι:Type}(A:List (Nat×Nat×Nat×Nat))(ch:ι->List (Nat×AV))(chB:ι->List (Nat×Blk))(Inv:ι->Prop)(μ:ι->Nat)(x0:ι){m0:Nat}{keep:List Nat}{b:ACode}{Q:AExit->St->Prop}{s:St}
  (h:∀ e0 σ0 n0,eo A m0 keep s=⟨e0,σ0,n0⟩->StZ ⟨e0,σ0,n0⟩ ⟨fY e0 (ch x0),iw σ0 (chB x0),n0⟩/\Inv x0 /\
   ∀ x,Inv x->vc P G m0 b (mP A (fun x=>⟨fY e0 (ch x),iw σ0 (chB x),n0⟩) Inv μ x m0 keep Q) ⟨fY e0 (ch x),iw σ0 (chB x),n0⟩):vc P G m0 (.loop keep b) Q s:=by
 obtain⟨h1,h2,h3⟩:=h (eo A m0 keep s).env (eo A m0 keep s).sto (eo A m0 keep s).next rfl
 exact yD A (fun x=>⟨fY (eo A m0 keep s).env (ch x),iw (eo A m0 keep s).sto (chB x),(eo A m0 keep s).next⟩) Inv μ x0 (aI h1) h2 h3
end
abbrev dZ:=Nat->List AV->List (Nat×Blk)->Nat->Option (AV×List (Nat×Blk)×Nat)
def yd (call:dZ)(G:Nat->List PV)(s:St)(d:Option Nat):AOp->Option St
 | .t o=>match o.run s.E with
   | some v=>some (s.put d v)
   | none=>none
 | .m o=>match o.run G s.next s.E s.σ with
   | some p=>some ((s.mem p.2).put d p.1)
   | none=>none
 | .call f xs=>match dn (f.ev s.E) with
   | some p=>match call p.1 (p.2.1++xs.map (·.ev s.E)++p.2.2) s.sto s.next with
     | some r=>some ((⟨s.env,r.2.1,r.2.2⟩:St).put d r.1)
     | none=>none
   | none=>none
 | .fz g x=>match KR G s.σ g (x.ev s.E) with
   | some p=>some ((s.mem p.2).put d p.1)
   | none=>none
def kX (call:dZ)(G:Nat->List PV):List AOper->St->Option St
 | [],s=>some s
 | o::r,s=>match bO s o.guard with
   | some true=>match yd call G s o.dst o.op with
     | some s'=>kX call G r s'
     | none=>none
   | some false=>kX call G r (s.put o.dst (.pv .undef))
   | none=>none
def As (call:dZ)(f:Nat)(ps:List PV):Option PV:=
 match call f (ps.map .pv) [] 0 with
 | some r=>r.1.toPV
 | none=>none
def rZ (call:dZ)(s:St)(d:Option Nat)(f:Nat)(args:List AV):Option (St×List Nat×List Nat):=
 match pvs args with
 | some ps=>match As call f ps with
   | some r=>some (s.put d (.pv r),[],[])
   | none=>none
 | none=>match call f args s.sto s.next with
   | some r=>some ((⟨s.env,r.2.1,r.2.2⟩:St).put d r.1,fJ 2 (aQ (r.2.1.take (r.2.1.length - s.sto.length)).reverse) (s.sto.map (·.1)))
   | none=>none
def lK (call:dZ)(G:Nat->List PV)(s:St)(d:Option Nat):AOp->Option (St×List Nat×List Nat)
 | .t o=>match o.run s.E with
   | some v=>some (s.put d v,[],[])
   | none=>none
 | .m o=>match o.run G s.next s.E s.σ with
   | some p=>some ((s.mem p.2).put d p.1,fJ (dy o) (aQ p.2) (o.reads s.E))
   | none=>none
 | .call f xs=>match dn (f.ev s.E) with
   | some p=>rZ call s d p.1 (p.2.1++xs.map (·.ev s.E)++p.2.2)
   | none=>none
 | .fz _ _=>none
def exD (call:dZ)(G:Nat->List PV)(A:List (List Nat)):List AOper->List (List Nat×List Nat)->St->Option St
 | [],T,s=>match okB A T with
   | true=>some s
   | false=>none
 | o::r,T,s=>match bO s o.guard with
   | some true=>match lK call G s o.dst o.op with
     | some q=>exD call G A r (T++[q.2]) q.1
     | none=>none
   | some false=>exD call G A r (T++[([],[])]) (s.put o.dst (.pv .undef))
   | none=>none
def exC (call:dZ)(G:Nat->List PV):Nat->ACode->St->Option (AExit×St)
 | 0,_,_=>none
 | _+1,.skip,s=>some (.norm,s)
 | _+1,.ops l keep,s=>match kX call G l s with
   | some s'=>some (.norm,clip0 keep s')
   | none=>none
 | _+1,.draw A l l2 keep,s=>match exD call G A l [] s with
   | some s1=>match kX call G l2 s1 with
     | some s'=>some (.norm,clip0 keep s')
     | none=>none
   | none=>none
 | n+1,.seq a b,s=>match exC call G n a s with
   | some (.norm,s')=>exC call G n b s'
   | some (.exit i,s')=>some (.exit i,s')
   | some (.ret,s')=>some (.ret,s')
   | none=>none
 | n+1,.cond x a b,s=>match x.ev s.E with
   | .pv (.bool true)=>exC call G n a s
   | .pv (.bool false)=>exC call G n b s
   | _=>none
 | n+1,.block id b,s=>match exC call G n b s with
   | some (.norm,s')=>some (.norm,s')
   | some (.exit i,s')=>if i=id then some (.norm,s') else some (.exit i,s')
   | some (.ret,s')=>some (.ret,s')
   | none=>none
 | n+1,.loop keep b,s=>match exC call G n b s with
   | some (.norm,s')=>exC call G n (.loop keep b) s'
   | some (.exit i,s')=>some (.exit i,s')
   | some (.ret,s')=>some (.ret,s')
   | none=>none
 | _+1,.range _ _ _ _ _,_=>none
 | _+1,.exit id,s=>some (.exit id,s)
 | _+1,.ret,s=>some (.ret,s)
structure TabRow where
 f:Nat
 muts:List Nat
 fn:AFn
def F0 (f:Nat):List TabRow->Option AFn
 | []=>none
 | r::q=>if r.f=f then some r.fn else F0 f q
def wh (G:Nat->List PV)(fn:AFn)(s:St):Option (AV×List (Nat×Blk)×Nat):=
 match eR G s fn.res with
 | some l=>some (x9 l,s.sto,s.next)
 | none=>none
def exF (tab:List TabRow)(O:Nat->List PV->Option PV)(G:Nat->List PV)(m:Nat):Nat->dZ
 | 0,_,_,_,_=>none
 | n+1,f,args,sto,next=>match (pvs args).bind (O f) with
   | some r=>some (.pv r,sto,next)
   | none=>match F0 f tab with
     | some fn=>if args.length<=fn.N then match exC (exF tab O G m n) G m fn.body ⟨dh args,sto,next⟩ with
       | some (.norm,s)=>wh G fn s
       | some (.ret,s)=>wh G fn s
       | _=>none
       else none
     | none=>none
section
variable {P:Program}{G:Nat->List PV}
def bu (sto:List (Nat×Blk))(next:Nat)(sto':List (Nat×Blk))(next':Nat):Prop:=(∃ pre,sto'=pre++sto)/\next<=next'
theorem bu.refl (sto:List (Nat×Blk))(next:Nat):bu sto next sto next:=⟨⟨[],rfl⟩,Nat.le_refl _⟩
theorem bu.trans {a b c:List (Nat×Blk)}{i j k:Nat}(h:bu a i b j)(g:bu b j c k):bu a i c k:=by
 obtain⟨⟨p,rfl⟩,h2⟩:=h
 obtain⟨⟨q,rfl⟩,g2⟩:=g
 exact⟨⟨q++p,by simp⟩,Nat.le_trans h2 g2⟩
theorem qD:∀ (δ l:List (Nat×Blk)),mV l δ=δ.reverse++l
 | [],l=>rfl
 | p::r,l=>by rw[mV,qD r];simp
theorem bu.put {s:St}{sto':List (Nat×Blk)}{n:Nat}{e:List (Nat×AV)}(h:bu s.sto s.next sto' n)(d:Option Nat)(v:AV):bu s.sto s.next ((⟨e,sto',n⟩:St).put d v).sto ((⟨e,sto',n⟩:St).put d v).next:=by
 cases d<;>exact h
theorem bu.mem (s:St)(δ:List (Nat×Blk))(d:Option Nat)(v:AV):bu s.sto s.next ((s.mem δ).put d v).sto ((s.mem δ).put d v).next:=by
 have:bu s.sto s.next (mV s.sto δ) (s.next+1):=⟨⟨δ.reverse,qD δ s.sto⟩,Nat.le_succ _⟩
 cases d<;>exact this
theorem bu.put0 (s:St)(d:Option Nat)(v:AV):bu s.sto s.next (s.put d v).sto (s.put d v).next:=by
 cases d<;>exact bu.refl _ _
def fo (P:Program)(G:Nat->List PV)(call:dZ):Prop:=
 ∀ f args sto next v sto' next',call f args sto next=some (v,sto',next')->bu sto next sto' next'/\(
   (∃ ps r,pvs args=some ps/\ak P G f ps r/\v = .pv r/\sto'=sto/\next'=next)\/cj P G f args sto next (fun v' s' n'=>v'=v/\s'=sto'/\n'=next'))
theorem cj.mono {f:Nat}{args:List AV}{sto:List (Nat×Blk)}{next:Nat}{Q Q':AV->List (Nat×Blk)->Nat->Prop}(h:cj P G f args sto next Q)(hq:∀ v s n,Q v s n->Q' v s n):cj P G f args sto next Q':=by
 obtain⟨h1,h2⟩:=h
 refine⟨h1,fun κ vals a1 a2 a3 a4=>(h2 κ vals a1 a2 a3 a4).mono ?_⟩
 rintro e w' ⟨u,v,κ',sto',next',b1,b2,b3,b4,b5,b6,b7,b8⟩
 exact⟨u,v,κ',sto',next',b1,b2,b3,b4,b5,b6,b7,hq _ _ _ b8⟩
theorem tk {call:dZ}(hc:fo P G call){f:Nat}{ps:List PV}{r:PV}(h:As call f ps=some r):ak P G f ps r:=by
 unfold As at h
 split at h
 ·rename_i q hq
  obtain⟨v,sto',next'⟩:=q
  rcases (hc f _ _ _ v sto' next' hq).2 with ⟨ps',r',h1,h2,rfl,_,_⟩ | ht
  ·rw[pvs_map] at h1
   cases h1
   simp only[AV.toPV,Option.some.injEq] at h
   subst h;exact h2
  ·exact ak.of_tcalls (ht.mono (by rintro v' _ _ ⟨rfl,_,_⟩;exact NN h))
 ·cases h
theorem KS {call:dZ}(hc:fo P G call){s s':St}{d:Option Nat}{o:AOp}{F:St->Prop}(h:yd call G s d o=some s')(hF:F s'):lC P G F s d o:=by
 cases o with
 | t o=>
   simp only[yd] at h
   split at h
   ·rename_i v hv
    cases h
    simp only[lC,hv,iz];exact hF
   ·cases h
 | m o=>
   simp only[yd] at h
   split at h
   ·rename_i v hv
    cases h
    simp only[lC,hv,aG];exact hF
   ·cases h
 | fz g x=>
   simp only[yd] at h
   split at h
   ·rename_i v hv
    cases h
    simp only[lC,hv,aG];exact hF
   ·cases h
 | call f xs=>
   simp only[yd] at h
   split at h
   ·rename_i p hp
    split at h
    ·rename_i r hr
     cases h
     obtain⟨v,sto',next'⟩:=r
     simp only[lC,hp,aG,Db]
     rcases (hc _ _ _ _ v sto' next' hr).2 with ⟨ps,r,h1,h2,rfl,rfl,rfl⟩ | ht
     ·exact ab.pure h2 h1 hF
     ·exact ab.lent ht (by rintro v' s' n' ⟨rfl,rfl,rfl⟩;exact hF)
    ·cases h
   ·cases h
theorem jC {call:dZ}(hc:fo P G call){F:St->Prop}:∀ (l:List AOper) (s s':St),kX call G l s=some s'->F s'->dq P G l F s
 | [],s,s',h,hF=>by simp only[kX,Option.some.injEq] at h;subst h;exact hF
 | o::r,s,s',h,hF=>by
   simp only[kX] at h
   simp only[dq]
   split at h
   ·rename_i hw
    rw[hw]
    split at h
    ·rename_i s1 h1
     exact KS hc h1 (jC hc r s1 s' h hF)
    ·cases h
   ·rename_i hw
    rw[hw]
    exact jC hc r _ s' h hF
   ·cases h
theorem mF {call:dZ}(hc:fo P G call){A:List (List Nat)}{F:St->Prop}:∀ (l:List AOper) (T:List (List Nat×List Nat)) (s s':St),exD call G A l T s=some s'->F s'->vcD P G A F l T s
 | [],T,s,s',h,hF=>by
   simp only[exD] at h
   split at h
   ·rename_i ho
    cases h
    exact⟨ho,hF⟩
   ·cases h
 | o::r,T,s,s',h,hF=>by
   simp only[exD] at h
   simp only[vcD]
   split at h
   ·rename_i hw
    rw[hw]
    simp only[aG,r5]
    split at h
    ·rename_i q h1
     obtain⟨d,op,g⟩:=o
     simp only at h1 ⊢
     cases op with
     | t o=>
       simp only[lK] at h1
       split at h1
       ·rename_i v hv
        cases h1
        simp only[gX,hv,aG,Ew]
        exact mF hc r _ _ s' h hF
       ·cases h1
     | m o=>
       simp only[lK] at h1
       split at h1
       ·rename_i v hv
        cases h1
        simp only[gX,hv,aG,stepM]
        exact mF hc r _ _ s' h hF
       ·cases h1
     | fz g x=>simp[lK] at h1
     | call f xs=>
       simp only[lK] at h1
       split at h1
       ·rename_i p hp
        simp only[gX,hp,aG]
        unfold rZ at h1
        split at h1
        ·rename_i ps hps
         split at h1
         ·rename_i v hv
          cases h1
          exact .inl ⟨ps,v,hps,tk hc hv,mF hc r _ _ s' h hF⟩
         ·cases h1
        ·rename_i hps
         split at h1
         ·rename_i v hv
          cases h1
          obtain⟨v,sto',next'⟩:=v
          obtain⟨⟨⟨pre,hpre⟩,hle⟩,⟨ps',r',k1,_⟩ | ht⟩:=hc _ _ _ _ v sto' next' hv
          ·rw[hps] at k1;cases k1
          ·have e1:mV s.sto (sto'.take (sto'.length - s.sto.length)).reverse=sto':=by
            rw[qD,List.reverse_reverse,hpre]
            simp
           refine .inr ⟨v,(sto'.take (sto'.length - s.sto.length)).reverse,next',?_,hle,?_⟩
           ·rw[e1];exact ht
           ·rw[e1];exact mF hc r _ _ s' h hF
         ·cases h1
       ·cases h1
    ·cases h
   ·rename_i hw
    rw[hw]
    exact mF hc r _ _ s' h hF
   ·cases h
theorem wX {call:dZ}(hc:fo P G call){s s':St}{d:Option Nat}{o:AOp}(h:yd call G s d o=some s'):bu s.sto s.next s'.sto s'.next:=by
 cases o with
 | t o=>
   simp only[yd] at h
   split at h
   ·cases h;exact bu.put0 _ _ _
   ·cases h
 | m o=>
   simp only[yd] at h
   split at h
   ·cases h;exact bu.mem _ _ _ _
   ·cases h
 | fz g x=>
   simp only[yd] at h
   split at h
   ·cases h;exact bu.mem _ _ _ _
   ·cases h
 | call f xs=>
   simp only[yd] at h
   split at h
   ·split at h
    ·rename_i r hr
     cases h
     obtain⟨v,sto',next'⟩:=r
     exact bu.put (hc _ _ _ _ v sto' next' hr).1 _ _
    ·cases h
   ·cases h
theorem eq {call:dZ}(hc:fo P G call):∀ (l:List AOper) (s s':St),kX call G l s=some s'->bu s.sto s.next s'.sto s'.next
 | [],s,s',h=>by simp only[kX,Option.some.injEq] at h;subst h;exact bu.refl _ _
 | o::r,s,s',h=>by
   simp only[kX] at h
   split at h
   ·split at h
    ·rename_i s1 h1
     exact (wX hc h1).trans (eq hc r s1 s' h)
    ·cases h
   ·exact (bu.put0 s _ _).trans (eq hc r _ s' h)
   ·cases h
theorem rY {call:dZ}(hc:fo P G call){s:St}{d:Option Nat}{o:AOp}{q:St×List Nat×List Nat}(h:lK call G s d o=some q):bu s.sto s.next q.1.sto q.1.next:=by
 cases o with
 | t o=>
   simp only[lK] at h
   split at h
   ·cases h;exact bu.put0 _ _ _
   ·cases h
 | m o=>
   simp only[lK] at h
   split at h
   ·cases h;exact bu.mem _ _ _ _
   ·cases h
 | fz g x=>simp[lK] at h
 | call f xs=>
   simp only[lK] at h
   split at h
   ·unfold rZ at h
    split at h
    ·split at h
     ·cases h;exact bu.put0 _ _ _
     ·cases h
    ·split at h
     ·rename_i r hr
      cases h
      obtain⟨v,sto',next'⟩:=r
      exact bu.put (hc _ _ _ _ v sto' next' hr).1 _ _
     ·cases h
   ·cases h
theorem kY {call:dZ}(hc:fo P G call){A:List (List Nat)}:∀ (l:List AOper) (T:List (List Nat×List Nat)) (s s':St),exD call G A l T s=some s'->bu s.sto s.next s'.sto s'.next
 | [],T,s,s',h=>by
   simp only[exD] at h
   split at h
   ·cases h;exact bu.refl _ _
   ·cases h
 | o::r,T,s,s',h=>by
   simp only[exD] at h
   split at h
   ·split at h
    ·rename_i q h1
     exact (rY hc h1).trans (kY hc r _ _ s' h)
    ·cases h
   ·exact (bu.put0 s _ _).trans (kY hc r _ _ s' h)
   ·cases h
theorem pI {call:dZ}(hc:fo P G call):∀ (n:Nat) (ac:ACode) (s:St) (e:AExit) (s':St),exC call G n ac s=some (e,s')->bu s.sto s.next s'.sto s'.next
 | 0,_,_,_,_,h=>by simp[exC] at h
 | n+1,ac,s,e,s',h=>by
   have ih:=pI hc n
   cases ac with
   | skip=>simp only[exC,Option.some.injEq,Prod.mk.injEq] at h;obtain⟨_,rfl⟩:=h;exact bu.refl _ _
   | exit i=>simp only[exC,Option.some.injEq,Prod.mk.injEq] at h;obtain⟨_,rfl⟩:=h;exact bu.refl _ _
   | ret=>simp only[exC,Option.some.injEq,Prod.mk.injEq] at h;obtain⟨_,rfl⟩:=h;exact bu.refl _ _
   | ops l k=>
     simp only[exC] at h
     split at h
     ·rename_i s1 h1;cases h;exact eq hc l s s1 h1
     ·cases h
   | draw A l l2 k=>
     simp only[exC] at h
     split at h
     ·rename_i s1 h1
      split at h
      ·rename_i s2 h2;cases h;exact (kY hc l [] s s1 h1).trans (eq hc l2 s1 s2 h2)
      ·cases h
     ·cases h
   | seq a b=>
     simp only[exC] at h
     split at h
     ·rename_i s1 h1;exact (ih _ _ _ _ h1).trans (ih _ _ _ _ h)
     ·rename_i i s1 h1;cases h;exact ih _ _ _ _ h1
     ·rename_i s1 h1;cases h;exact ih _ _ _ _ h1
     ·cases h
   | cond x a b=>
     simp only[exC] at h
     split at h
     ·exact ih _ _ _ _ h
     ·exact ih _ _ _ _ h
     ·cases h
   | block id b=>
     simp only[exC] at h
     split at h
     ·rename_i s1 h1;cases h;exact ih _ _ _ _ h1
     ·rename_i i s1 h1
      split at h
      ·cases h;exact ih _ _ _ _ h1
      ·cases h;exact ih _ _ _ _ h1
     ·rename_i s1 h1;cases h;exact ih _ _ _ _ h1
     ·cases h
   | loop k b=>
     simp only[exC] at h
     split at h
     ·rename_i s1 h1;exact (ih _ _ _ _ h1).trans (ih _ _ _ _ h)
     ·rename_i i s1 h1;cases h;exact ih _ _ _ _ h1
     ·rename_i s1 h1;cases h;exact ih _ _ _ _ h1
     ·cases h
   | range f ps k a b=>simp only[exC] at h;cases h
def NZ (e:AExit)(s':St):AExit->St->Prop:=fun e1 s1=>e1=e/\s1=s'
theorem p5 {call:dZ}{G:Nat->List PV}{n:Nat}{s:St}{r:AExit×St}(h:exC call G (n+1) (.ops [⟨none,jo,none⟩] []) s=some r):False:=by
 simp[exC,kX,bO,yd,jo,AX.ev,dn] at h
theorem N2 {call:dZ}(hc:fo P G call){c:Ctx}{κ0:Kap}{N:Nat}{muts rl:List Nat}(hG:c.G=G):∀ (n:Nat) (co:Code) (ac:ACode) (ex:List (Nat×List Nat)) (out li:List Nat) (s:St) (a:Act) (w:World) (κ:Kap) (e:AExit) (s':St),
  bl P muts N rl co ex out=some (ac,li)->exC call G n ac s=some (e,s')->Rel c κ0 N s a w κ->co.wpIn (FR none) 0 P (lift c κ0 N (NZ e s')) a w:=by
 intro n
 induction n using Nat.strongRecOn with
 | _ n ih=>
 intro co ac ex out li s a w κ e s' hcc he hR
 cases n with
 | zero=>simp[exC] at he
 | succ n=>
 cases co with
 | skip=>
   simp only[bl,Option.some.injEq,Prod.mk.injEq] at hcc
   obtain⟨rfl,_⟩:=hcc
   simp only[exC,Option.some.injEq,Prod.mk.injEq] at he
   obtain⟨rfl,rfl⟩:=he
   exact wpIn_skip ⟨_,κ,hR,rfl,rfl⟩
 | exit id=>
   simp only[bl,Option.some.injEq,Prod.mk.injEq] at hcc
   obtain⟨rfl,_⟩:=hcc
   simp only[exC,Option.some.injEq,Prod.mk.injEq] at he
   obtain⟨rfl,rfl⟩:=he
   exact wpIn_exit ⟨_,κ,hR,rfl,rfl⟩
 | ret=>
   simp only[bl,Option.some.injEq,Prod.mk.injEq] at hcc
   obtain⟨rfl,_⟩:=hcc
   simp only[exC,Option.some.injEq,Prod.mk.injEq] at he
   obtain⟨rfl,rfl⟩:=he
   exact wpIn_ret ⟨_,κ,hR,rfl,rfl⟩
 | region id ops d=>
   simp only[bl] at hcc
   split at hcc
   ·rename_i l hl
    cases d with
    | false=>
      simp only[Option.some.injEq,Prod.mk.injEq] at hcc
      obtain⟨rfl,_⟩:=hcc
      simp only[exC] at he
      split at he
      ·rename_i s1 h1
       cases he
       exact wpIn_region_list (d7 (F:=fun s=>s=s1) (fun s a w κ hR hF=>by subst hF;exact⟨_,κ,hR.clip0 _,rfl,rfl⟩) ops.toList l s a w κ hl hR (by rw[hG];exact jC hc l s s1 h1 rfl))
      ·cases he
    | true=>
      simp only at hcc
      split at hcc
      ·rename_i hok
       simp only[Option.some.injEq,Prod.mk.injEq] at hcc
       obtain⟨rfl,_⟩:=hcc
       simp only[exC] at he
       split at he
       ·rename_i s1 h1
        split at he
        ·rename_i s2 h2
         cases he
         exact mG (F:=fun s=>s=s2) hl hok.1 hok.2.1 hok.2.2 hR (by rw[hG];exact mF hc _ _ s s1 h1 (jC hc _ s1 s2 h2 rfl)) (fun s a w κ hR hF=>by subst hF;exact⟨_,κ,hR.clip0 _,rfl,rfl⟩)
        ·cases he
       ·cases he
      ·cases hcc
   ·cases hcc
 | seq x y=>
   simp only[bl] at hcc
   split at hcc
   ·rename_i b' lb hb
    split at hcc
    ·rename_i a' la ha
     simp only[Option.some.injEq,Prod.mk.injEq] at hcc
     obtain⟨rfl,_⟩:=hcc
     simp only[exC] at he
     split at he
     ·rename_i s1 h1
      refine wpIn_seq (Go.wpIn_mono (ih n (Nat.lt_succ_self n) x a' _ _ _ s a w κ _ _ ha h1 hR) ?_)
      intro e1 a w hq
      cases e1 with
      | normal=>
        obtain⟨s2,κ,hR,_,rfl⟩:=hq
        exact ih n (Nat.lt_succ_self n) y b' _ _ _ s2 a w κ _ _ hb he hR
      | exit id=>obtain⟨_,_,_,h,_⟩:=hq;cases h
      | ret=>obtain⟨_,_,_,h,_⟩:=hq;cases h
      | goto l=>exact hq.elim
      | panic ch=>exact hq.elim
      | outgrown=>exact hq.elim
     ·rename_i i s1 h1
      cases he
      refine wpIn_seq (Go.wpIn_mono (ih n (Nat.lt_succ_self n) x a' _ _ _ s a w κ _ _ ha h1 hR) ?_)
      intro e1 a w hq
      cases e1 with
      | normal=>obtain⟨_,_,_,h,_⟩:=hq;cases h
      | exit id=>exact hq
      | ret=>exact hq
      | goto l=>exact hq.elim
      | panic ch=>exact hq.elim
      | outgrown=>exact hq.elim
     ·rename_i s1 h1
      cases he
      refine wpIn_seq (Go.wpIn_mono (ih n (Nat.lt_succ_self n) x a' _ _ _ s a w κ _ _ ha h1 hR) ?_)
      intro e1 a w hq
      cases e1 with
      | normal=>obtain⟨_,_,_,h,_⟩:=hq;cases h
      | exit id=>exact hq
      | ret=>exact hq
      | goto l=>exact hq.elim
      | panic ch=>exact hq.elim
      | outgrown=>exact hq.elim
     ·cases he
    ·cases hcc
   ·cases hcc
 | cond x y z=>
   simp only[bl] at hcc
   split at hcc
   ·rename_i ax a' la b' lb hx hy hz
    simp only[Option.some.injEq,Prod.mk.injEq] at hcc
    obtain⟨rfl,_⟩:=hcc
    have hrel:=aA (κ:=κ) (E:=s.E) (a:=a) hx (fun i _=>hR.env i)
    simp only[exC] at he
    split at he
    ·rename_i hv
     rw[hv] at hrel
     exact wpIn_cond_true (da hrel) (ih n (Nat.lt_succ_self n) y a' _ _ _ s a w κ _ _ hy he hR)
    ·rename_i hv
     rw[hv] at hrel
     exact wpIn_cond_false (da hrel) (ih n (Nat.lt_succ_self n) z b' _ _ _ s a w κ _ _ hz he hR)
    ·cases he
   ·cases hcc
 | block id b=>
   simp only[bl] at hcc
   split at hcc
   ·rename_i b' lb hb
    simp only[Option.some.injEq,Prod.mk.injEq] at hcc
    obtain⟨rfl,_⟩:=hcc
    simp only[exC] at he
    have main:∀ e1 s1,exC call G n b' s=some (e1,s1)->((e1 = .norm/\e = .norm/\s'=s1)\/(∃ i,e1 = .exit i/\s'=s1/\e=if i=id then .norm else .exit i)\/(e1 = .ret/\e = .ret/\s'=s1))->(Code.block id b).wpIn (FR none) 0 P (lift c κ0 N (NZ e s')) a w:=by
     intro e1 s1 h1 hcase
     refine wpIn_block (Go.wpIn_mono (ih n (Nat.lt_succ_self n) b b' _ _ _ s a w κ _ _ hb h1 hR) ?_)
     intro e2 a w hq
     cases e2 with
     | normal=>
       obtain⟨s2,κ,hR,rfl,rfl⟩:=hq
       rcases hcase with ⟨_,rfl,rfl⟩ | ⟨i,h,_⟩ | ⟨h,_⟩
       ·exact⟨_,κ,hR,rfl,rfl⟩
       ·cases h
       ·cases h
     | ret=>
       obtain⟨s2,κ,hR,rfl,rfl⟩:=hq
       rcases hcase with ⟨h,_⟩ | ⟨i,h,_⟩ | ⟨_,rfl,rfl⟩
       ·cases h
       ·cases h
       ·exact⟨_,κ,hR,rfl,rfl⟩
     | exit i=>
       obtain⟨s2,κ,hR,rfl,rfl⟩:=hq
       rcases hcase with ⟨h,_⟩ | ⟨i',h,rfl,rfl⟩ | ⟨h,_⟩
       ·cases h
       ·cases h
        simp only[Exit.inBlock]
        split
        ·rename_i hid
         exact⟨_,κ,hR,by simp[hid],rfl⟩
        ·rename_i hid
         exact⟨_,κ,hR,by simp[hid],rfl⟩
       ·cases h
     | goto l=>exact hq.elim
     | panic ch=>exact hq.elim
     | outgrown=>exact hq.elim
    split at he
    ·rename_i s1 h1
     cases he
     exact main _ _ h1 (.inl ⟨rfl,rfl,rfl⟩)
    ·rename_i i s1 h1
     split at he
     ·rename_i hid
      cases he
      exact main _ _ h1 (.inr (.inl ⟨i,rfl,rfl,by simp[hid]⟩))
     ·rename_i hid
      cases he
      exact main _ _ h1 (.inr (.inl ⟨i,rfl,rfl,by simp[hid]⟩))
    ·rename_i s1 h1
     cases he
     exact main _ _ h1 (.inr (.inr ⟨rfl,rfl,rfl⟩))
    ·cases he
   ·cases hcc
 | loop b=>
   simp only[bl] at hcc
   split at hcc
   ·rename_i x1 l1 hb1
    split at hcc
    ·rename_i x2 l2 hb2
     split at hcc
     ·rename_i b' l3 hb
      simp only[Option.some.injEq,Prod.mk.injEq] at hcc
      obtain⟨rfl,_⟩:=hcc
      refine jN (fun m a w=>∃ s κ,m<=n+1/\Rel c κ0 N s a w κ/\exC call G m (.loop (ol l2) b') s=some (e,s')) ⟨n+1,s,κ,Nat.le_refl _,hR,he⟩ fun m a w hJ=>?_
      obtain⟨s,κ,hm,hR,he⟩:=hJ
      cases m with
      | zero=>simp[exC] at he
      | succ m=>
        simp only[exC] at he
        split at he
        ·rename_i s1 h1
         refine Go.wpIn_mono (ih m (by omega) b b' _ _ _ s a w κ _ _ hb h1 hR) ?_
         intro e1 a w hq
         cases e1 with
         | normal=>
           obtain⟨s2,κ,hR,_,rfl⟩:=hq
           exact⟨m,Nat.lt_succ_self m,_,κ,by omega,hR,he⟩
         | exit id=>obtain⟨_,_,_,h,_⟩:=hq;cases h
         | ret=>obtain⟨_,_,_,h,_⟩:=hq;cases h
         | goto l=>exact hq.elim
         | panic ch=>exact hq.elim
         | outgrown=>exact hq.elim
        ·rename_i i s1 h1
         cases he
         refine Go.wpIn_mono (ih m (by omega) b b' _ _ _ s a w κ _ _ hb h1 hR) ?_
         intro e1 a w hq
         cases e1 with
         | normal=>obtain⟨_,_,_,h,_⟩:=hq;cases h
         | exit id=>exact hq
         | ret=>exact hq
         | goto l=>exact hq.elim
         | panic ch=>exact hq.elim
         | outgrown=>exact hq.elim
        ·rename_i s1 h1
         cases he
         refine Go.wpIn_mono (ih m (by omega) b b' _ _ _ s a w κ _ _ hb h1 hR) ?_
         intro e1 a w hq
         cases e1 with
         | normal=>obtain⟨_,_,_,h,_⟩:=hq;cases h
         | exit id=>exact hq
         | ret=>exact hq
         | goto l=>exact hq.elim
         | panic ch=>exact hq.elim
         | outgrown=>exact hq.elim
        ·cases he
     ·cases hcc
    ·cases hcc
   ·cases hcc
 | rangeFunc f ps x y=>
   simp only[bl] at hcc
   split at hcc
   ·split at hcc
    ·simp only[Option.some.injEq,Prod.mk.injEq] at hcc
     obtain⟨rfl,_⟩:=hcc
     simp only[exC] at he
     cases he
    ·cases hcc
   ·simp only[Option.some.injEq,Prod.mk.injEq] at hcc;obtain⟨rfl,rfl⟩:=hcc;exact (p5 he).elim
 | scope b=>simp only[bl,Option.some.injEq,Prod.mk.injEq] at hcc;obtain⟨rfl,rfl⟩:=hcc;exact (p5 he).elim
 | label l=>simp only[bl,Option.some.injEq,Prod.mk.injEq] at hcc;obtain⟨rfl,rfl⟩:=hcc;exact (p5 he).elim
 | goto l=>simp only[bl,Option.some.injEq,Prod.mk.injEq] at hcc;obtain⟨rfl,rfl⟩:=hcc;exact (p5 he).elim
 | refuse y=>simp only[bl,Option.some.injEq,Prod.mk.injEq] at hcc;obtain⟨rfl,rfl⟩:=hcc;exact (p5 he).elim
theorem FZ {tab:List TabRow}(ht:∀ r∈tab,cFn P r.muts r.f=some r.fn){f:Nat}{fn:AFn}(h:F0 f tab=some fn):∃ muts,cFn P muts f=some fn:=by
 induction tab with
 | nil=>cases h
 | cons r q ih=>
   simp only[F0] at h
   split at h
   ·rename_i hf
    cases h
    exact⟨r.muts,hf▸ht r (by simp)⟩
   ·exact ih (fun r hr=>ht r (by simp[hr])) h
theorem Co {tab:List TabRow}{O:Nat->List PV->Option PV}{m:Nat}(ht:∀ r∈tab,cFn P r.muts r.f=some r.fn)(hO:∀ f ps r,O f ps=some r->ak P G f ps r):∀ n,fo P G (exF tab O G m n)
 | 0=>by intro f args sto next v sto' next' h;simp[exF] at h
 | n+1=>by
   intro f args sto next v sto' next' h
   simp only[exF] at h
   split at h
   ·rename_i r hr
    cases h
    simp only[Option.bind_eq_some_iff] at hr
    obtain⟨ps,h1,h2⟩:=hr
    refine⟨bu.refl _ _,?_⟩
    exact .inl ⟨ps,r,h1,hO f ps r h2,rfl,rfl,rfl⟩
   ·split at h
    ·rename_i fn hfn
     obtain⟨muts,hcf⟩:=FZ ht hfn
     split at h
     ·rename_i hl
      have grow:∀ (e:AExit) (s:St),exC (exF tab O G m n) G m fn.body ⟨dh args,sto,next⟩=some (e,s)->wh G fn s=some (v,sto',next')->bu sto next sto' next':=by
       intro e s h1 h2
       have:=pI (Co ht hO n) m fn.body _ e s h1
       unfold wh at h2
       split at h2
       ·cases h2;exact this
       ·cases h2
      have fin:∀ (e:AExit) (s:St),(e = .norm\/e = .ret)->exC (exF tab O G m n) G m fn.body ⟨dh args,sto,next⟩=some (e,s)->wh G fn s=some (v,sto',next')->cj P G f args sto next (fun v' s' n'=>v'=v/\s'=sto'/\n'=next'):=by
       intro e s he h1 h2
       refine cj.of_code hcf hl fun c κ N a w co rl li hG hk hf hb hR=>?_
       refine Go.wpIn_mono (N2 (Co ht hO n) hG m co fn.body _ _ _ _ a w κ e s hb h1 hR) ?_
       have hout:∀ s1,s1=s->aG (eR G s1 fn.res) (HT (fun v' s' n'=>v'=v/\s'=sto'/\n'=next') s1):=by
        rintro s1 rfl
        unfold wh at h2
        split at h2
        ·rename_i l hl2
         cases h2
         rw[hl2]
         exact⟨rfl,rfl,rfl⟩
        ·cases h2
       intro e1 a w hq
       cases e1 with
       | normal=>
         obtain⟨s1,κ1,hR1,he1,hs1⟩:=hq
         exact⟨s1,κ1,hR1,hout s1 hs1⟩
       | ret=>
         obtain⟨s1,κ1,hR1,he1,hs1⟩:=hq
         exact⟨s1,κ1,hR1,hout s1 hs1⟩
       | exit id=>
         obtain⟨s1,κ1,hR1,he1,hs1⟩:=hq
         rcases he with rfl | rfl<;>cases he1
       | goto l=>exact hq.elim
       | panic ch=>exact hq.elim
       | outgrown=>exact hq.elim
      split at h
      ·rename_i s1 h1;exact⟨grow _ _ h1 h,.inr (fin _ _ (.inl rfl) h1 h)⟩
      ·rename_i s1 h1;exact⟨grow _ _ h1 h,.inr (fin _ _ (.inr rfl) h1 h)⟩
      ·cases h
     ·cases h
    ·cases h
theorem ak.of_ex {tab:List TabRow}{O:Nat->List PV->Option PV}{m n:Nat}{f:Nat}{ps:List PV}{r:PV}(ht:∀ r∈tab,cFn P r.muts r.f=some r.fn)(hO:∀ f ps r,O f ps=some r->ak P G f ps r)
  (h:As (exF tab O G m n) f ps=some r):ak P G f ps r:=
 tk (Co ht hO n) h
end
def Kap.cut (κ:Kap)(k:Nat):Kap:=⟨κ.w,fun r=>if r<k then κ.nm r else none,κ.imm⟩
theorem Kap.cut_ext (κ:Kap)(k:Nat):Ext (κ.cut k) κ:=by
 refine⟨fun _ _ h=>h,fun _ _ _ _ h=>h,fun r d h=>?_,fun _ _ h _=>h⟩
 simp only[Kap.cut] at h
 split at h
 ·exact h
 ·cases h
theorem Kap.cut_none (κ:Kap)(k r:Nat)(h:k<=r):(κ.cut k).nm r=none:=by simp only[Kap.cut];rw[if_neg (by omega)]
def qq (P:Program)(G:Nat->List PV)(k:Nat)(f:Nat)(args:List AV)(sto:List (Nat×Blk))(next:Nat)(Q:AV->List (Nat×Blk)->Nat->Prop):Prop:=
 bN P f=true/\∀ (κ:Kap) (vals:Array Value),SRel (bY κ (fun r=>lookB r sto) G) κ (fun r=>lookB r sto)->(∀ r,next<=r->κ.nm r=none)->vals.size=args.length ->
  (∀ (i:Nat) (x:AV),args[i]? = some x->ARel κ x (vals.getD i Go.undef)) ->
  Calls P f vals κ.w fun e w'=>∃ u v κ' sto' next',e = .returned u/\κ'.w=w'/\Ext (κ.cut k) κ'/\Left (bY κ (fun r=>lookB r sto) G) κ.imm κ'/\ARel κ' v u /\
   SRel (bY κ (fun r=>lookB r sto) G) κ' (fun r=>lookB r sto')/\(∀ r,next'<=r->κ'.nm r=none)/\Q v sto' next'
section
variable {P:Program}{G:Nat->List PV}
theorem qq.of_code {muts:List Nat}{k f:Nat}{fn:AFn}{args:List AV}{sto:List (Nat×Blk)}{next:Nat}{R:AV->List (Nat×Blk)->Nat->Prop}(hc:cFn P muts f=some fn)(hn:args.length<=fn.N)
  (hv:vc P G k fn.body (FnK G fn.res R) ⟨dh args,sto,next⟩):qq P G k f args sto next R:=by
 unfold cFn at hc
 split at hc
 ·rename_i fnc hfn
  split at hc
  ·rename_i co hco
   split at hc
   ·rename_i rs hrs
    split at hc
    ·rename_i hok
     split at hc
     ·rename_i b li hb
      cases hc
      refine⟨hok,fun κ vals hS hf hsz hargs=>?_⟩
      refine callsIn_wide.1 (callsIn_of_wp_marks (n:=0) hfn hco trivial ?_ rfl)
      let c:=bY κ (fun r=>lookB r sto) G
      have hsize:(vals++Array.replicate (fnc.ntmps - vals.size) Go.undef).size=fnc.ntmps:=by
       simp only at hn
       simp only[Array.size_append,Array.size_replicate];omega
      have hR:Rel c (κ.cut k) fnc.ntmps ⟨dh args,sto,next⟩ ⟨vals++Array.replicate (fnc.ntmps - vals.size) Go.undef,[]⟩ κ.w κ:=by
       refine⟨rfl,κ.cut_ext k,hS,⟨rfl,rfl,rfl,Nat.le_refl _,fun _ _ _=>rfl,fun _ _ h=>.inl h⟩,fun i=>?_,hsize,dp.nil _ _,hf⟩
       show ARel κ (look i ((args.zipIdx 0).map fun p=>(p.2,p.1))) _
       rw[kC,if_pos (Nat.zero_le _),Nat.sub_zero]
       cases hx:args[i]? with
       | none=>exact .any _
       | some x=>
         have hi:i<vals.size:=by rw[hsz];exact (List.getElem?_eq_some_iff.1 hx).1
         have:=hargs i x hx
         have e:(vals++Array.replicate (fnc.ntmps - vals.size) Go.undef).getD i Go.undef=vals.getD i Go.undef:=by
          simp only[Array.getD_eq_getD_getElem?]
          rw[Array.getElem?_append_left hi]
         rw[e];exact this
      refine Go.wpIn_mono (sA (P:=P) (N:=fnc.ntmps) co c (κ.cut k) k none 0 b [] (iq rs) li (FnK G rs R) _ _ κ.w κ (.inl rfl) (fun r hr=>κ.cut_none k r hr) (Nat.le_refl _) hb hR hv) ?_
      have fin:∀ (s:St) (κ':Kap) (a:Act) (w:World),Rel c (κ.cut k) fnc.ntmps s a w κ'->aG (eR G s rs) (HT R s)->∃ v,(results fnc a.tmps).run P w = .ok v w /\
        ∃ u v' κ'' sto' next',Ending.returned v = .returned u/\κ''.w=w/\Ext (κ.cut k) κ''/\Left c κ.imm κ''/\ARel κ'' v' u/\SRel c κ'' (fun r=>lookB r sto')/\(∀ r,next'<=r->κ''.nm r=none)/\R v' sto' next':=by
       intro s κ' a w hR hF
       simp only[aG] at hF
       split at hF
       ·rename_i vs hvs
        obtain⟨us,h1,h2,h3⟩:=j7 (P:=P) hR fnc.results.toList rs vs hrs hvs
        have hrun:(results fnc a.tmps).run P w = .ok (if h:us.toArray.size=1 then us.toArray[0] else .tuple us.toArray) w:=by
         rw[l8,Sem.run_bind,Array.mapM_eq_mapM_toList]
         simp only[Sem.run_bind,Sem.run_map]
         rw[h1]
         simp
        refine⟨_,hrun,_,x9 vs,κ',s.sto,s.next,rfl,hR.w_eq,hR.ext0,hR.left,?_,hR.rel,hR.fresh,hF⟩
        by_cases hl:vs.length=1
        ·obtain⟨v,rfl⟩:=List.length_eq_one_iff.1 hl
         obtain⟨u,rfl⟩:=List.length_eq_one_iff.1 (h2.trans hl)
         have:=h3 0 v rfl
         exact this
        ·have hul:¬ us.toArray.size=1:=by simpa[h2] using hl
         rw[dif_neg hul]
         have hrv:x9 vs=pf vs:=by
          unfold x9
          split
          ·simp at hl
          ·rfl
         rw[hrv]
         exact pd (.tup _ _ (by simpa using h2) (fun i x hx=>by rw[aC];simpa using h3 i x hx))
       ·exact hF.elim
      intro e a w hq
      cases e with
      | normal=>
        obtain⟨s,κ',hR,hF⟩:=hq
        exact gN (Nat.le_refl _) rfl hR fun w' κ'' hR'=>fin s κ'' ⟨a.tmps,[]⟩ w' hR' hF
      | ret=>
        obtain⟨s,κ',hR,hF⟩:=hq
        exact gN (Nat.le_refl _) rfl hR fun w' κ'' hR'=>fin s κ'' ⟨a.tmps,[]⟩ w' hR' hF
      | exit id=>
        obtain⟨s,κ',hR,hF⟩:=hq
        exact hF.elim
      | goto l=>exact hq.elim
      | panic ch=>exact hq.elim
      | outgrown=>exact hq.elim
     ·cases hc
    ·cases hc
   ·cases hc
  ·cases hc
 ·cases hc
def bG:List Blk->Nat->List (Nat×Blk)
 | [],_=>[]
 | b::r,k=>(k,b)::bG r (k+1)
theorem mo:∀ (bs:List Blk) (k i:Nat),lookB i (bG bs k)=if k<=i then bs.getD (i - k) .none else .none
 | [],k,i=>by simp[bG,lookB]
 | b::r,k,i=>by
   simp only[bG,lookB]
   by_cases h:k=i
   ·subst h;simp
   ·rw[if_neg h,mo r (k+1) i]
    by_cases hk:k<=i
    ·rw[if_pos (by omega),if_pos hk,show i - k=(i - (k+1))+1 by omega];simp
    ·rw[if_neg (by omega),if_neg hk]
theorem f0 (bs:List Blk):(fun r=>lookB r (bG bs 0))=fun r=>bs.getD r .none:=by
 funext r;rw[mo];simp
def bK (P:Program)(G:Nat->List PV)(k f:Nat)(args:List AV)(bs:List Blk)(v:AV)(bs':List Blk):Prop:=
 qq P G k f args (bG bs 0) bs.length fun v' sto' next'=>v'=v/\sto'=bG bs' 0/\next'=bs'.length
def Kr (k:Nat)(v:AV)(bs':List Blk)(v':AV)(sto':List (Nat×Blk))(next':Nat):Prop:=
 Wk k ⟨[(0,v')],sto',next'⟩ ⟨[(0,v)],bG bs' 0,bs'.length⟩
theorem bK.of_lcalls {k f:Nat}{args:List AV}{bs:List Blk}{v:AV}{bs':List Blk}(h:qq P G k f args (bG bs 0) bs.length (Kr k v bs')):bK P G k f args bs v bs':=by
 obtain⟨hcal,h⟩:=h
 refine⟨hcal,fun κ vals hS hf hsz hargs=>(h κ vals hS hf hsz hargs).mono ?_⟩
 rintro e w' ⟨u,v',κ',sto',next',rfl,rfl,he,hL,hv,hS',hf',hw⟩
 obtain⟨κ'',hR⟩:=hw _ (κ.cut k) κ' 1 ⟨#[u],[]⟩ κ'.w (fun r hr=>κ.cut_none k r hr) ⟨rfl,he,hS',hL,fun i=>by
  show ARel κ' (look i [(0,v')]) _
  by_cases hi:0=i
  ·subst hi;simpa[look] using hv
  ·simp only[look,if_neg hi];exact .any _,rfl,dp.nil _ _,hf'⟩
 refine⟨u,v,κ'',_,_,rfl,hR.w_eq,hR.ext0,hR.left,?_,hR.rel,hR.fresh,rfl,rfl,rfl⟩
 have:=hR.env 0
 simpa[St.E,look] using this
theorem bK.intro {muts:List Nat}{k f:Nat}{fn:AFn}{args:List AV}{bs:List Blk}{v:AV}{bs':List Blk}(hc:cFn P muts f=some fn)(hn:args.length<=fn.N)
  (hv:vc P G k fn.body (FnK G fn.res (Kr k v bs')) ⟨dh args,bG bs 0,bs.length⟩):bK P G k f args bs v bs':=
 bK.of_lcalls (qq.of_code hc hn hv)
def gIn (next:Nat):List Nat->Nat->Nat
 | [],i=>next+i
 | r::_,0=>r
 | _::q,i+1=>gIn next q i
def gSo (next:Nat)(rs:List Nat)(r:Nat):Option Nat:=some (gIn next rs r)
theorem kQ (next:Nat):∀ (rs:List Nat) (i:Nat) (r:Nat),rs[i]? = some r->gIn next rs i=r
 | [],i,r,h=>by simp at h
 | x::q,0,r,h=>by simpa[gIn] using h
 | x::q,i+1,r,h=>by simpa[gIn] using kQ next q i r (by simpa using h)
theorem mt (next:Nat):∀ (rs:List Nat) (i:Nat),rs.length<=i->gIn next rs i=next+(i - rs.length)
 | [],i,h=>by simp[gIn]
 | x::q,0,h=>by simp at h
 | x::q,i+1,h=>by
   simp only[List.length_cons] at h
   rw[gIn,mt next q i (by omega)]
   simp
mutual
theorem unren {κ κ':Kap}(hw:κ'.w=κ.w)(hi:κ'.imm=κ.imm){g:Nat->Nat}(hf:∀ r,κ'.nm r=κ.nm (g r)):∀ (x:AV) (v:Value),ARel κ (x.ren fun r=>some (g r)) v->ARel κ' x v
 | .pv p,v,h=>by
   simp only[AV.ren] at h
   cases h with
   | pv _ _ hp=>exact .pv _ _ (by rw[hw,hi];exact hp)
 | .any,v,h=>.any v
 | .ptr r o,v,h=>by
   simp only[AV.ren] at h
   cases h with
   | ptr _ _ b n hn=>exact .ptr _ _ b n (by rw[hf r];exact hn)
 | .row r a b c,v,h=>by
   simp only[AV.ren] at h
   cases h with
   | row _ _ _ _ bb n cap hn h1 h2 h3 h4=>exact .row _ _ _ _ bb n cap (by rw[hf r];exact hn) h1 h2 h3 h4
   | row0 _ _ hn=>exact .row0 _ _ (by rw[hf r];exact hn)
 | .olist r a l,v,h=>by
   simp only[AV.ren] at h
   cases h with
   | olist _ _ _ _ hn hp hs=>exact .olist _ _ _ _ (by rw[hf r];exact hn) (by rw[hw,hi];exact hp) hs
 | .agg cs,v,h=>by
   simp only[AV.ren] at h
   cases h with
   | agg _ vs hl hr=>
     obtain⟨h1,h2⟩:=jT hw hi hf cs vs hr
     exact .agg _ _ (by rw[<- h1];exact hl) h2
 | .tup cs,v,h=>by
   simp only[AV.ren] at h
   cases h with
   | tup _ vs hl hr=>
     obtain⟨h1,h2⟩:=jT hw hi hf cs vs hr
     exact .tup _ _ (by rw[<- h1];exact hl) h2
 | .clo g fs cs,v,h=>by
   simp only[AV.ren] at h
   cases h with
   | clo _ _ _ vs us hl hr hl' hr'=>
     obtain⟨h1,h2⟩:=jT hw hi hf fs vs hr
     obtain⟨h3,h4⟩:=jT hw hi hf cs us hr'
     exact .clo _ _ _ _ _ (by rw[<- h1];exact hl) h2 (by rw[<- h3];exact hl') h4
theorem jT {κ κ':Kap}(hw:κ'.w=κ.w)(hi:κ'.imm=κ.imm){g:Nat->Nat}(hf:∀ r,κ'.nm r=κ.nm (g r)):∀ (xs:List AV) (vs:Array Value),
  (∀ (i:Nat) (x:AV),(AV.renL (fun r=>some (g r)) xs)[i]? = some x->ARel κ x (vs.getD i Go.undef))->(AV.renL (fun r=>some (g r)) xs).length=xs.length/\∀ (i:Nat) (x:AV),xs[i]? = some x->ARel κ' x (vs.getD i Go.undef)
 | [],vs,h=>by simp[AV.renL]
 | x::r,vs,h=>by
   have e:∀ i,(vs.extract 1 vs.size).getD i Go.undef=vs.getD (i+1) Go.undef:=by
    intro i
    simp only[Array.getD_eq_getD_getElem?,Array.getElem?_extract]
    by_cases hh:i<min vs.size vs.size - 1
    ·rw[if_pos hh];congr 2;omega
    ·rw[if_neg hh,Array.getElem?_eq_none (by omega)]
   obtain⟨h1,h2⟩:=jT hw hi hf r (vs.extract 1 vs.size) (fun i y hy=>by
    have:=h (i+1) y (by simpa[AV.renL] using hy)
    rw[e];exact this)
   refine⟨by simp[AV.renL,h1],fun i y hy=>?_⟩
   cases i with
   | zero=>
     simp only[List.getElem?_cons_zero,Option.some.injEq] at hy
     subst hy
     exact unren hw hi hf x _ (h 0 _ (by simp[AV.renL]))
   | succ i=>
     simp only[List.getElem?_cons_succ] at hy
     have:=h2 i y hy
     rw[e] at this;exact this
end
theorem eA.unren {κ κ':Kap}(hw:κ'.w=κ.w)(hi:κ'.imm=κ.imm){g:Nat->Nat}(hf:∀ r,κ'.nm r=κ.nm (g r)){r:Nat}{B:Blk}(h:eA κ (g r) (B.ren fun r=>some (g r))):eA κ' r B:=by
 cases B with
 | none=>trivial
 | cells T f l=>
   simp only[Blk.ren] at h
   rcases h with ⟨h1,h2,h3⟩ | ⟨b,n,cs,h1,h2,h3,h4,h5,h6,h7⟩
   ·refine .inl ⟨h1,?_,by rw[hf];exact h3⟩
    cases l with
    | nil=>rfl
    | cons x r=>simp[AV.renL] at h2
   ·obtain⟨q1,q2⟩:=jT hw hi hf l cs h6
    exact .inr ⟨b,n,cs,by rw[hf];exact h1,by rw[hw];exact h2,h3,by rw[<- q1];exact h4,fun hb=>by rw[<- q1];exact h5 hb,q2,by rw[hi];exact h7⟩
 | tok e sz=>
   simp only[Blk.ren] at h
   rcases h with h | ⟨g',n,cap,cur,h1,h2,h3⟩
   ·exact .inl (by rw[hf];exact h)
   ·exact .inr ⟨g',n,cap,cur,by rw[hf];exact h1,by rw[hw];exact h2,by rw[hi];exact h3⟩
 | bts e l=>
   obtain⟨b,n,cs,fz,h1,h2⟩:=h
   exact⟨b,n,cs,fz,by rw[hf];exact h1,by rw[hw,hi];exact h2⟩
theorem eA.ren {κ κ':Kap}(hw:κ'.w=κ.w)(hi:κ'.imm=κ.imm){g:Nat->Nat}(hf:∀ r,κ'.nm (g r)=κ.nm r){r:Nat}{B:Blk}(h:eA κ r B):eA κ' (g r) (B.ren fun r=>some (g r)):=by
 have hf':∀ r r',(fun r=>some (g r)) r=some r'->κ'.nm r'=κ.nm r:=fun r r' h=>by cases h;exact hf r
 cases B with
 | none=>trivial
 | cells T f l=>
   simp only[Blk.ren]
   rcases h with ⟨h1,h2,h3⟩ | ⟨b,n,cs,h1,h2,h3,h4,h5,h6,h7⟩
   ·exact .inl ⟨h1,by rw[h2];simp only[AV.renL],by rw[hf];exact h3⟩
   ·obtain⟨q1,q2⟩:=ed hw hi hf' l cs h6
    exact .inr ⟨b,n,cs,by rw[hf];exact h1,by rw[hw];exact h2,h3,by rw[q1];exact h4,fun hb=>by rw[q1];exact h5 hb,q2,by rw[hi];exact h7⟩
 | tok e sz=>
   simp only[Blk.ren]
   rcases h with h | ⟨g',n,cap,cur,h1,h2,h3⟩
   ·exact .inl (by rw[hf];exact h)
   ·exact .inr ⟨g',n,cap,cur,by rw[hf];exact h1,by rw[hw];exact h2,by rw[hi];exact h3⟩
 | bts e l=>
   obtain⟨b,n,cs,fz,h1,h2⟩:=h
   exact⟨b,n,cs,fz,by rw[hf];exact h1,by rw[hw,hi];exact h2⟩
def wi (f:Nat->Option Nat):List Blk->Nat->(Nat->Nat)->List (Nat×Blk)
 | [],_,_=>[]
 | b::r,i,g=>(g i,b.ren f)::wi f r (i+1) g
def kt:List Nat->List (Nat×Blk)
 | []=>[]
 | r::q=>(r,.none)::kt q
def ig (sto:List (Nat×Blk))(f:Nat->Option Nat):List Nat->List Blk->Prop
 | [],[]=>True
 | r::rs,b::bs=>BlkZ (lookB r sto) (b.ren f)/\ig sto f rs bs
 | _,_=>False
theorem ig.get {sto:List (Nat×Blk)}{f:Nat->Option Nat}:∀ {rs:List Nat} {bs:List Blk},ig sto f rs bs->rs.length=bs.length/\∀ (i r:Nat) (b:Blk),rs[i]? = some r->bs[i]? = some b->BlkZ (lookB r sto) (b.ren f)
 | [],[],h=>⟨rfl,by simp⟩
 | r::rs,b::bs,h=>by
   obtain⟨h1,h2⟩:=h
   obtain⟨h3,h4⟩:=ig.get h2
   refine⟨by simp[h3],fun i q d hq hd=>?_⟩
   cases i with
   | zero=>simp at hq hd;subst hq;subst hd;exact h1
   | succ i=>exact h4 i q d (by simpa using hq) (by simpa using hd)
 | [],_::_,h=>h.elim
 | _::_,[],h=>h.elim
end
end Go.Ab

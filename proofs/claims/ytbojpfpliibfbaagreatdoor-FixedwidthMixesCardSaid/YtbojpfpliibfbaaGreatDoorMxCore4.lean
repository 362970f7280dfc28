/- A program logic over the model: part 4 (a proof is built on it; nothing of the statement is said here). -/
import Derived.Test.YtbojpfpliibfbaaGreatDoorMxCore3
set_option linter.unusedVariables false
set_option linter.unusedSimpArgs false
namespace Go.Ab
open Go Go.RowKit
def ir (n e sz:Nat):AV:=if e<1000000 then .olist n sz [] else .row n sz 0 0
def cz (e sz:Nat):Blk:=if e<1000000 then .tok e sz else .cells (e - 1000000) false []
def MZ (k:Nat)(e sz:Nat)(s:St):AV->St
 | .pv .nils=>⟨(k,ir s.next e sz)::s.env,(s.next,cz e sz)::s.sto,s.next+1⟩
 | _=>s
def Np (r T:Nat)(f:Bool)(l:List AV)(o e sz:Nat)(s:St):Option AV->St
 | some (.pv .nils)=>⟨s.env,(r,.cells T f (l.set o (ir s.next e sz)))::(s.next,cz e sz)::s.sto,s.next+1⟩
 | _=>s
def accB (r o e sz:Nat)(s:St):Blk->St
 | .cells T f l=>Np r T f l o e sz s l[o]?
 | _=>s
def accP (o e sz:Nat)(s:St):AV->St
 | .ptr r b=>accB r (b+o) e sz s (lookB r s.sto)
 | _=>s
def SK (p:Nat×Nat×Nat×Nat)(s:St):St:=
 match p.2.1 with
 | 0=>MZ p.1 p.2.2.1 p.2.2.2 s (look p.1 s.env)
 | j+1=>accP j p.2.2.1 p.2.2.2 s (look p.1 s.env)
def Iw:List (Nat×Nat×Nat×Nat)->St->St
 | [],s=>s
 | p::r,s=>Iw r (SK p s)
section
variable {P:Program}{c:Ctx}{κ0 κ:Kap}{N:Nat}{s:St}{a:Act}{w:World}
theorem Ix {σ0:ap}(hS:SRel c κ σ0){new:Nat}(hn:κ.nm new=none)(e sz:Nat) :
  Done c κ ⟨κ.w,fun r=>if r=new then some (.own (.slice none 0 0)) else κ.nm r,κ.imm⟩ new /\
  SRel c ⟨κ.w,fun r=>if r=new then some (.own (.slice none 0 0)) else κ.nm r,κ.imm⟩ (ap.set σ0 new (cz e sz)) /\
  ARel ⟨κ.w,fun r=>if r=new then some (.own (.slice none 0 0)) else κ.nm r,κ.imm⟩ (ir new e sz) (.slice none 0 0):=by
 unfold ir cz
 split
 ·exact Ez hS hn e sz
 ·exact nL hS hn (e - 1000000) sz
theorem IJ (e sz:Nat)(env:List (Nat×AV))(sto:List (Nat×Blk))
  (henv:∀ (κ κ':Kap),Ext κ κ'->ARel κ' (ir s.next e sz) (.slice none 0 0)->∀ (a:Act),(∀ i,ARel κ (s.E i) (a.tmps.getD i Go.undef))->∀ i,ARel κ' (look i env) (a.tmps.getD i Go.undef))
  (hsto:∀ (c:Ctx) (κ':Kap),(∀ r T f l,s.σ r = .cells T f l->r≠s.next)->ARel κ' (ir s.next e sz) (.slice none 0 0)->SRel c κ' (ap.set s.σ s.next (cz e sz))->(∀ r,s.next<r->κ'.nm r=none)->SRel c κ' (fun r=>lookB r sto)):Wx s ⟨env,sto,s.next+1⟩:=by
 intro c κ0 κ N a w h
 obtain⟨h1,h2,h3⟩:=Ix h.rel (h.fresh s.next (Nat.le_refl _)) e sz
 have hfr:∀ r,s.next<r->(if r=s.next then some (Den.own (Value.slice none 0 0)) else κ.nm r)=none:=by
  intro r hr
  rw[if_neg (by omega)]
  exact h.fresh r (by omega)
 exact⟨_,h1.ext,h.w_eq,h.ext0.trans h1.ext,hsto c _ (fun r T f l hr hn=>by
  have hB:=h.rel.blk r
  rw[hr] at hB
  rcases hB with ⟨_,_,h1⟩ | ⟨b,n,cs,h1,_⟩<;>(rw[hn,h.fresh s.next (Nat.le_refl _)] at h1;cases h1)) h3 h2 hfr,h1.left _ h.left,henv κ _ h1.ext h3 a h.env,h.size,h.defers.ext h1.ext,fun r hr=>hfr r hr⟩
theorem tC {v:Value}(h:ARel κ (.pv .nils) v):v = .slice none 0 0:=by cases aI h;rfl
theorem JQ (k e sz:Nat)(s:St):Wx s (MZ k e sz s (look k s.env)):=by
 unfold MZ
 split
 ·rename_i hk
  refine IJ e sz _ _ (fun κ κ' he ho a henv i=>?_) (fun c κ' _ ho hS _=>?_)
  ·simp only[look]
   split
   ·rename_i hi
    subst hi
    have:=henv k
    rw[show s.E k=look k s.env from rfl,hk] at this
    rw[tC this]
    exact ho
   ·exact (henv i).ext he
  ·have:(fun r=>lookB r ((s.next,cz e sz)::s.sto))=ap.set s.σ s.next (cz e sz):=by
    funext r
    simp only[lookB,ap.set,St.σ]
    by_cases h:s.next=r
    ·simp[h]
    ·rw[if_neg h,if_neg (fun e=>h e.symm)]
   rw[this];exact hS
 ·exact Wx.refl s
theorem DU {κ:Kap}{r T:Nat}{f:Bool}{l:List AV}{o:Nat}{y:AV}(h:eA κ r (.cells T f l))(hy:∀ v x,l[o]? = some x->ARel κ x v->ARel κ y v):eA κ r (.cells T f (l.set o y)):=by
 rcases h with ⟨h1,h2,h3⟩ | ⟨b,n,cs,h1,h2,h3,h4,h7,h5,h6⟩
 ·exact .inl ⟨h1,by rw[h2];rfl,h3⟩
 refine .inr ⟨b,n,cs,h1,h2,h3,by simpa using h4,by simpa using h7,fun j x hx=>?_,h6⟩
 rw[List.getElem?_set] at hx
 split at hx
 ·rename_i hj
  subst hj
  split at hx
  ·rename_i hlt
   cases hx
   exact hy _ _ (List.getElem?_eq_getElem hlt) (h5 o _ (List.getElem?_eq_getElem hlt))
  ·cases hx
 ·exact h5 j x hx
theorem y9 (r o e sz:Nat)(s:St):Wx s (accB r o e sz s (lookB r s.sto)):=by
 unfold accB
 split
 ·rename_i T f l hl
  unfold Np
  split
  ·rename_i ho
   refine IJ e sz _ _ (fun κ κ' he ho a henv i=>(henv i).ext he) (fun c κ' hcl hol hS hfr=>?_)
   have hr:=hcl r T f l hl
   have hB:=hS.blk r
   have hσr:ap.set s.σ s.next (cz e sz) r = .cells T f l:=by simp only[ap.set,hr,if_false];exact hl
   rw[hσr] at hB
   have hnew:(fun q=>lookB q ((r,Blk.cells T f (l.set o (ir s.next e sz)))::(s.next,cz e sz)::s.sto))=ap.set (ap.set s.σ s.next (cz e sz)) r (.cells T f (l.set o (ir s.next e sz))):=by
    funext q
    simp only[lookB,ap.set,St.σ]
    by_cases h:r=q
    ·rw[if_pos h,if_pos h.symm]
    ·have h1:¬ q=r:=fun e=>h e.symm
     rw[if_neg h,if_neg h1]
     by_cases h':s.next=q
     ·have h2:q=s.next:=h'.symm
      rw[if_pos h',if_pos h2]
     ·have h2:¬ q=s.next:=fun e=>h' e.symm
      rw[if_neg h',if_neg h2]
   rw[hnew]
   have hz:∀ q,(ap.set (ap.set s.σ s.next (cz e sz)) r (.cells T f (l.set o (ir s.next e sz)))) q≠.none->(ap.set s.σ s.next (cz e sz)) q≠.none:=by
    intro q hq
    by_cases h:q=r
    ·subst h;rw[hσr];simp
    ·simpa[ap.set,h] using hq
   refine⟨fun q=>?_,fun q q' d d' b' h1 h2=>hS.apart q q' d d' b' (hz q h1) (hz q' h2),fun q d b' h1=>hS.mine q d b' (hz q h1),hS.immLt,hS.glob⟩
   by_cases h:q=r
   ·subst h
    simp only[ap.set,if_true]
    refine DU hB fun v x hx hv=>?_
    rw[ho] at hx;cases hx
    rw[tC hv];exact hol
   ·have:=hS.blk q
    simp only[ap.set,h,if_false] at this ⊢
    exact this
  ·exact Wx.refl s
 ·exact Wx.refl s
theorem JP (k o e sz:Nat)(s:St):Wx s (accP o e sz s (look k s.env)):=by
 unfold accP
 split
 ·exact y9 _ _ _ _ s
 ·exact Wx.refl s
theorem JR (p:Nat×Nat×Nat×Nat)(s:St):Wx s (SK p s):=by
 unfold SK
 split
 ·exact JQ _ _ _ s
 ·exact JP _ _ _ _ s
theorem y8:∀ (l:List (Nat×Nat×Nat×Nat)) (s:St),Wx s (Iw l s)
 | [],s=>Wx.refl s
 | p::r,s=>(JR p s).trans (y8 r _)
inductive AVz:AV->AV->Prop
 | refl (x:AV):AVz x x
 | any (x:AV):AVz x .any
 | pv (p q:PV):Nz p q->AVz (.pv p) (.pv q)
 | olist (r sz:Nat) (l k:List PV):NzL l k->AVz (.olist r sz l) (.olist r sz k)
 | list (r sz:Nat) (l k:List PV):NzL l k->AVz (.olist r sz l) (.pv (.list k))
inductive AVzL:List AV->List AV->Prop
 | nil:AVzL [] []
 | cons (x y:AV) (r q:List AV):AVz x y->AVzL r q->AVzL (x::r) (y::q)
theorem AVz.rel {κ:Kap}{x y:AV}{v:Value}(h:AVz x y)(hr:ARel κ x v):ARel κ y v:=by
 cases h with
 | refl=>exact hr
 | any=>exact .any v
 | pv p q hq=>exact .pv _ _ ((aI hr).nz hq)
 | olist r sz l k hq=>
   cases hr with
   | olist _ _ _ _ hn hp hs=>
     refine .olist _ _ _ _ hn (hp.nz (.list _ _ hq)) fun y hy=>?_
     obtain⟨i,hi⟩:=List.getElem?_of_mem hy
     obtain⟨x,hx,hxy⟩:=hq.get i y hi
     rw[<- hs x (List.mem_of_getElem? hx),hxy.cells.length]
 | list r sz l k hq=>
   cases hr with
   | olist _ _ _ _ hn hp hs=>exact .pv _ _ (hp.nz (.list _ _ hq))
theorem AVzL.length:∀ {l k:List AV},AVzL l k->l.length=k.length
 | [],_,h=>by cases h;rfl
 | x::r,_,h=>by cases h with | cons _ y _ q _ h2=>simp[AVzL.length h2]
theorem AVzL.get:∀ {l k:List AV},AVzL l k->∀ (i:Nat) (y:AV),k[i]? = some y->∃ x,l[i]? = some x/\AVz x y
 | [],_,h,i,y,hy=>by cases h;simp at hy
 | x::r,_,h,i,y,hy=>by
   cases h with
   | cons _ y' _ q h1 h2=>
     cases i with
     | zero=>simp at hy;subst hy;exact⟨x,rfl,h1⟩
     | succ i=>exact AVzL.get h2 i y (by simpa using hy)
inductive AVzP:List AV->List AV->Prop
 | nil (l:List AV):AVzP l []
 | cons (x y:AV) (r q:List AV):AVz x y->AVzP r q->AVzP (x::r) (y::q)
theorem AVzP.length:∀ {l k:List AV},AVzP l k->k.length<=l.length
 | _,[],_=>Nat.zero_le _
 | _,y::q,h=>by cases h with | cons x _ r _ _ h2=>simp;exact AVzP.length h2
theorem AVzP.get:∀ {l k:List AV},AVzP l k->∀ (i:Nat) (y:AV),k[i]? = some y->∃ x,l[i]? = some x/\AVz x y
 | _,[],h,i,y,hy=>by simp at hy
 | _,y'::q,h,i,y,hy=>by
   cases h with
   | cons x _ r _ h1 h2=>
     cases i with
     | zero=>simp at hy;subst hy;exact⟨x,rfl,h1⟩
     | succ i=>exact AVzP.get h2 i y (by simpa using hy)
theorem AVzP.of_l:∀ {l k:List AV},AVzL l k->AVzP l k
 | [],_,h=>by cases h;exact .nil _
 | x::r,_,h=>by cases h with | cons _ y _ q h1 h2=>exact .cons _ _ _ _ h1 (AVzP.of_l h2)
theorem AVzP.app:∀ (a b:List AV),AVzP (a++b) a
 | [],b=>.nil _
 | x::r,b=>.cons _ _ _ _ (.refl x) (AVzP.app r b)
inductive EnvZ:List (Nat×AV)->List (Nat×AV)->Prop
 | nil:EnvZ [] []
 | cons (k:Nat) (x y:AV) (r q:List (Nat×AV)):AVz x y->EnvZ r q->EnvZ ((k,x)::r) ((k,y)::q)
inductive BlkZ:Blk->Blk->Prop
 | refl (b:Blk):BlkZ b b
 | none (b:Blk):BlkZ b .none
 | cells (T:Nat) (f:Bool) (l k:List AV):AVzL l k->BlkZ (.cells T f l) (.cells T f k)
 | pre (T:Nat) (f:Bool) (l k:List AV):AVzP l k->BlkZ (.cells T f l) (.cells T false k)
inductive StoZ:List (Nat×Blk)->List (Nat×Blk)->Prop
 | nil:StoZ [] []
 | cons (k:Nat) (x y:Blk) (r q:List (Nat×Blk)):BlkZ x y->StoZ r q->StoZ ((k,x)::r) ((k,y)::q)
theorem EnvZ.look:∀ {e e':List (Nat×AV)},EnvZ e e'->∀ i,AVz (look i e) (look i e')
 | [],_,h,i=>by cases h;exact .refl _
 | (k,x)::r,_,h,i=>by
   cases h with
   | cons _ _ y _ q h1 h2=>
     simp only[Go.Ab.look]
     split
     ·exact h1
     ·exact EnvZ.look h2 i
theorem StoZ.look:∀ {e e':List (Nat×Blk)},StoZ e e'->∀ i,BlkZ (lookB i e) (lookB i e')
 | [],_,h,i=>by cases h;exact .refl _
 | (k,x)::r,_,h,i=>by
   cases h with
   | cons _ _ y _ q h1 h2=>
     simp only[Go.Ab.lookB]
     split
     ·exact h1
     ·exact StoZ.look h2 i
theorem BlkZ.rel {κ:Kap}{r:Nat}{b b':Blk}(h:BlkZ b b')(hb:eA κ r b):eA κ r b'/\(b'≠.none->b≠.none):=by
 cases h with
 | refl=>exact⟨hb,id⟩
 | none=>exact⟨trivial,fun h=>absurd rfl h⟩
 | cells T f l k hk=>
   have hlen:=hk.length
   rcases hb with ⟨h1,h2,h3⟩ | ⟨b,n,cs,h1,h2,h3,h4,h7,h5,h6⟩
   ·exact⟨.inl ⟨h1,List.eq_nil_of_length_eq_zero (by rw[<- hlen,h2];rfl),h3⟩,fun _=>by simp⟩
   refine⟨.inr ⟨b,n,cs,h1,h2,h3,by omega,fun h=>by rw[<- hlen];exact h7 h,fun o y hy=>?_,h6⟩,fun _=>by simp⟩
   obtain⟨x,hx,hxy⟩:=hk.get o y hy
   exact hxy.rel (h5 o x hx)
 | pre T f l k hk=>
   have hlen:=hk.length
   rcases hb with ⟨h1,h2,h3⟩ | ⟨b,n,cs,h1,h2,h3,h4,h7,h5,h6⟩
   ·exact⟨.inl ⟨rfl,List.eq_nil_of_length_eq_zero (by rw[h2] at hlen;simpa using hlen),h3⟩,fun _=>by simp⟩
   refine⟨.inr ⟨b,n,cs,h1,h2,h3,by omega,fun h=>(by cases h),fun o y hy=>?_,h6⟩,fun _=>by simp⟩
   obtain⟨x,hx,hxy⟩:=hk.get o y hy
   exact hxy.rel (h5 o x hx)
def StZ (s s':St):Prop:=EnvZ s.env s'.env/\StoZ s.sto s'.sto/\s.next=s'.next
theorem EnvZ.refl:∀ e:List (Nat×AV),EnvZ e e
 | []=>.nil
 | (k,x)::r=>.cons k x x r r (.refl x) (EnvZ.refl r)
theorem StoZ.refl:∀ e:List (Nat×Blk),StoZ e e
 | []=>.nil
 | (k,x)::r=>.cons k x x r r (.refl x) (StoZ.refl r)
theorem AVzL.refl:∀ e:List AV,AVzL e e
 | []=>.nil
 | x::r=>.cons x x r r (.refl x) (AVzL.refl r)
theorem StZ.wx {s t:St}(h:StZ s t):Wx s t:=by
 intro c κ0 κ N a w hR
 obtain⟨h1,h2,h3⟩:=h
 have hz:∀ r,t.σ r≠.none->s.σ r≠.none:=fun r hr=>((h2.look r).rel (hR.rel.blk r)).2 hr
 refine⟨κ,Ext.refl κ,hR.w_eq,hR.ext0,⟨fun r=>((h2.look r).rel (hR.rel.blk r)).1,fun r r' d d' b k1 k2=>hR.rel.apart r r' d d' b (hz r k1) (hz r' k2),fun r d b k1=>hR.rel.mine r d b (hz r k1),hR.rel.immLt,hR.rel.glob⟩,
  hR.left,fun i=>(h1.look i).rel (hR.env i),hR.size,hR.defers,fun r hr=>hR.fresh r (by omega)⟩
def en (A:List (Nat×Nat×Nat×Nat))(m0:Nat)(keep:List Nat)(s:St):St:=norm m0 keep (Iw A s)
theorem EX (A:List (Nat×Nat×Nat×Nat))(m0:Nat)(keep:List Nat)(s:St):Wk m0 s (en A m0 keep s):=
 (Wk.of (y8 A s) m0).trans (Wk.norm m0 keep _)
theorem Wk.head {A:List (Nat×Nat×Nat×Nat)}{m0:Nat}{keep:List Nat}{s t:St}(h:StZ (en A m0 keep s) t):Wk m0 s t:=
 (EX A m0 keep s).trans (Wk.of h.wx m0)
theorem Ie (x:AV):AVz x x=True:=eq_true (.refl x)
theorem Qs (p q:PV):AVz (.pv p) (.pv q)=Nz p q:=propext ⟨fun h=>by cases h with | refl=>exact .refl _ | pv _ _ h=>exact h,.pv _ _⟩
theorem If (r sz:Nat)(l k:List PV):AVz (.olist r sz l) (.pv (.list k))=NzL l k:=propext ⟨fun h=>by cases h with | list _ _ _ _ h=>exact h,.list _ _ _ _⟩
theorem Ij:AVzL [] []=True:=eq_true .nil
theorem Em (x y:AV)(r q:List AV):AVzL (x::r) (y::q)=(AVz x y/\AVzL r q):=propext ⟨fun h=>by cases h with | cons _ _ _ _ h1 h2=>exact⟨h1,h2⟩,fun ⟨h1,h2⟩=>.cons _ _ _ _ h1 h2⟩
theorem HU:EnvZ [] []=True:=eq_true .nil
theorem Dl (k:Nat)(x y:AV)(r q:List (Nat×AV)):EnvZ ((k,x)::r) ((k,y)::q)=(AVz x y/\EnvZ r q):=propext ⟨fun h=>by cases h with | cons _ _ _ _ _ h1 h2=>exact⟨h1,h2⟩,fun ⟨h1,h2⟩=>.cons _ _ _ _ _ h1 h2⟩
theorem Ef (b:Blk):BlkZ b b=True:=eq_true (.refl b)
theorem Ql (T:Nat)(l k:List AV):BlkZ (.cells T true l) (.cells T true k)=AVzL l k:=propext ⟨fun h=>by cases h with | refl=>exact AVzL.refl _ | cells _ _ _ _ h=>exact h,.cells _ _ _ _⟩
theorem Qn (T:Nat)(f:Bool)(l k:List AV):BlkZ (.cells T f l) (.cells T false k)=AVzP l k:=propext ⟨fun h=>by
 cases h with
 | refl=>exact AVzP.of_l (AVzL.refl _)
 | cells _ _ _ _ h=>exact AVzP.of_l h
 | pre _ _ _ _ h=>exact h,.pre _ _ _ _⟩
theorem Qm (b:Blk):BlkZ b .none=True:=eq_true (.none b)
theorem Ih (l:List AV):AVzP l []=True:=eq_true (.nil l)
theorem Ek (x y:AV)(r q:List AV):AVzP (x::r) (y::q)=(AVz x y/\AVzP r q):=propext ⟨fun h=>by cases h with | cons _ _ _ _ h1 h2=>exact⟨h1,h2⟩,fun ⟨h1,h2⟩=>.cons _ _ _ _ h1 h2⟩
theorem Ej (l:List AV):AVzP l l=True:=eq_true (AVzP.of_l (AVzL.refl l))
theorem Ii (a b:List AV):AVzP (a++b) a=True:=eq_true (AVzP.app a b)
theorem El (l:List AV):AVzL l l=True:=eq_true (AVzL.refl l)
theorem Fy:StoZ [] []=True:=eq_true .nil
theorem Aj (k:Nat)(x y:Blk)(r q:List (Nat×Blk)):StoZ ((k,x)::r) ((k,y)::q)=(BlkZ x y/\StoZ r q):=propext ⟨fun h=>by cases h with | cons _ _ _ _ _ h1 h2=>exact⟨h1,h2⟩,fun ⟨h1,h2⟩=>.cons _ _ _ _ _ h1 h2⟩
theorem NY (e e':List (Nat×AV))(σ σ':List (Nat×Blk))(n n':Nat):StZ ⟨e,σ,n⟩ ⟨e',σ',n'⟩=(EnvZ e e'/\StoZ σ σ'/\n=n'):=_root_.id rfl
end
inductive ARes where
 | tmp (t:Nat)
 | cell (t:Nat) (g:Bool) (sz:Nat)
structure AFn where
 N:Nat
 res:List ARes
 body:ACode
def Ot (G:Nat->List PV)(s:St):ARes->Option AV
 | .tmp t=>some (s.E t)
 | .cell t g sz=>ef G g sz s.σ (s.E t)
def eX (G:Nat->List PV)(s:St):List ARes->Option (List AV)
 | []=>some []
 | r::q=>match Ot G s r,eX G s q with
   | some a,some b=>some (a::b)
   | _,_=>none
def yE (l:List AV):AV:=
 match l with
 | [v]=>v
 | l=>oX l
def I1 (R:AV->List (Nat×Blk)->Nat->Prop)(s:St)(l:List AV):Prop:=R (yE l) s.sto s.next
def FnK (G:Nat->List PV)(res:List ARes)(R:AV->List (Nat×Blk)->Nat->Prop):AExit->St->Prop
 | .norm,s=>aJ (eX G s res) (I1 R s)
 | .ret,s=>aJ (eX G s res) (I1 R s)
 | .exit _,_=>False
def Sv (P:Program):ResultVar->Option ARes
 | .tmp t=>some (.tmp t)
 | .cell a t=>match lc P t,gY P t with
   | some g,some n=>some (.cell a g n)
   | _,_=>none
def D3 (P:Program):List ResultVar->Option (List ARes)
 | []=>some []
 | r::q=>match Sv P r,D3 P q with
   | some a,some b=>some (a::b)
   | _,_=>none
def g9:List ARes->List Nat
 | []=>[]
 | .tmp t::r=>fQ (g9 r) [t]
 | .cell t _ _::r=>fQ (g9 r) [t]
def cFn (P:Program)(muts:List Nat)(f:Nat):Option AFn:=
 match P.funcs[f]? with
 | some fn=>match fn.body with
   | some c=>match D3 P fn.results.toList with
     | some rs=>if bH P f=true then match bd P muts fn.ntmps (g9 rs) c [] (g9 rs) with
       | some (b,_)=>some ⟨fn.ntmps,rs,b⟩
       | none=>none
       else none
     | none=>none
   | none=>none
 | none=>none
def dc (args:List AV):List (Nat×AV):=args.zipIdx.map fun p=>(p.2,p.1)
section
variable {P:Program}{G:Nat->List PV}
theorem ko:∀ (args:List AV) (k i:Nat),look i ((args.zipIdx k).map fun p=>(p.2,p.1))=if k<=i then (args[i - k]?).getD .any else .any
 | [],k,i=>by simp[look]
 | x::r,k,i=>by
   rw[List.zipIdx_cons,List.map_cons,look]
   simp only
   by_cases h:k=i
   ·subst h;simp
   ·rw[if_neg h,ko r (k+1) i]
    by_cases hk:k<=i
    ·rw[if_pos (by omega),if_pos hk,show i - k=(i - (k+1))+1 by omega];simp
    ·rw[if_neg (by omega),if_neg hk]
def th (tmps:Array Value):ResultVar->Sem Value
 | .tmp t=>pure (tmps.getD t Go.undef)
 | .cell x t=>do loadVar t (<- asAddr (tmps.getD x Go.undef))
theorem lO (fn:Func)(tmps:Array Value):results fn tmps=(do let vs <- fn.results.mapM (th tmps);pure (if h:vs.size=1 then vs[0] else .tuple vs)):=by
 unfold results
 congr 1
theorem jT {c:Ctx}{κ0 κ:Kap}{N:Nat}{s:St}{a:Act}{w:World}(hR:Rel c κ0 N s a w κ):∀ (rv:List ResultVar) (rs:List ARes) (vs:List AV),D3 P rv=some rs->eX c.G s rs=some vs ->
  ∃ us:List Value,(rv.mapM (th a.tmps)).run P w = .ok us w/\us.length=vs.length/\∀ (i:Nat) (x:AV),vs[i]? = some x->ARel κ x (us.getD i Go.undef)
 | [],rs,vs,h1,h2=>by
   simp[D3] at h1;subst h1
   simp[eX] at h2;subst h2
   exact⟨[],by simp,rfl,by simp⟩
 | r::q,rs,vs,h1,h2=>by
   simp only[D3] at h1
   split at h1
   ·rename_i ra rb hra hrb
    cases h1
    simp only[eX] at h2
    split at h2
    ·rename_i va vb hva hvb
     cases h2
     obtain⟨us,k1,k2,k3⟩:=jT hR q rb vb hrb hvb
     have hw:=hR.w_eq
     subst hw
     have hone:∃ u,(th a.tmps r).run P κ.w = .ok u κ.w/\ARel κ va u:=by
      cases r with
      | tmp t=>
        simp only[Sv,Option.some.injEq] at hra
        subst hra
        simp only[Ot,Option.some.injEq] at hva
        subst hva
        exact⟨_,rfl,hR.env t⟩
      | cell x t=>
        simp only[Sv] at hra
        split at hra
        ·rename_i g n hg hn
         cases hra
         simp only[Ot] at hva
         have hx:=hR.env x
         obtain⟨z,h3,h4⟩:=As (P:=P) hR.rel hg hn hx hva
         refine⟨z,?_,h4⟩
         obtain⟨y,hy⟩:∃ y,a.tmps.getD x Go.undef=y:=⟨_,rfl⟩
         rw[hy] at hx h3
         simp only[Instr.loadAt,Sem.run_bind] at h3
         have hp:∃ ad,y = .pointer (some ad):=by
          unfold ef at hva
          split at hva
          ·rename_i he
           rw[he] at hx;cases hx;exact⟨_,rfl⟩
          ·rename_i he
           rw[he] at hx;cases aI hx;exact⟨_,rfl⟩
          ·rename_i he
           rw[he] at hx;cases aI hx;exact⟨_,rfl⟩
          ·cases hva
         obtain⟨ad,rfl⟩:=hp
         simp only[th]
         rw[hy]
         simpa[asAddr,Instr.sureAddr] using h3
        ·cases hra
     obtain⟨u,h5,h6⟩:=hone
     refine⟨u::us,?_,by simp[k2],fun i x hx=>?_⟩
     ·rw[List.mapM_cons,Sem.run_bind,h5]
      simp only[Result.andThen_ok,Sem.run_bind,k1,Sem.run_pure]
     ·cases i with
      | zero=>simp only[List.getElem?_cons_zero,Option.some.injEq] at hx;subst hx;simpa using h6
      | succ i=>simpa using k3 i x (by simpa using hx)
    ·cases h2
   ·cases h1
theorem gA {P:Program}{c:Ctx}{κ0 κ:Kap}{N:Nat}{s:St}{a:Act}{w:World}{fn:Func}{R:Ending->World->Prop}(hk:κ0.w.heap.size<=c.w0.heap.size)(hc:c.rnd=false)(hR:Rel c κ0 N s a w κ)
  (h:∀ w' κ',Rel c κ0 N s ⟨a.tmps,[]⟩ w' κ'->∃ v,(results fn a.tmps).run P w' = .ok v w'/\R (.returned v) w'):LeavesInM Fence.wide 0 P fn a.tmps R a.defers .returning w:=by
 have key:∀ (Ds:List Nat) (w:World) (κ:Kap),Ds.Nodup->(∀ D∈Ds,c.w0.heap.size<=D/\w.heap[D]? = some (.deferred (some [])))->Rel c κ0 N s ⟨a.tmps,[]⟩ w κ->LeavesInM Fence.wide 0 P fn a.tmps R (Ds.map Jc) .returning w:=by
  intro Ds
  induction Ds with
  | nil=>intro w κ _ _ hR;exact h w κ hR
  | cons D Ds ih=>
    intro w κ hn hD hR
    obtain⟨h1,h2⟩:=hD D (by simp)
    obtain⟨n1,n2⟩:=List.nodup_cons.1 hn
    refine⟨by simp,.inl ⟨D,_,rfl,run_takeDeferred h2,ih _ _ n2 (fun E hE=>?_) (hR.putObj hk (.deferred none) h2 rfl h1 (dh.nil _ _))⟩⟩
    obtain⟨q1,q2⟩:=hD E (by simp[hE])
    exact⟨q1,(World.putObj_heap_other (by rintro rfl;exact n1 hE)).trans q2⟩
 rcases hR.defers with hm | ⟨Ds,m1,m2,m3⟩
 ·rw[hc] at hm;cases hm
 ·have hw:=hR.w_eq
  rw[m1]
  exact key Ds w κ m2 (fun D hD=>by rw[<- hw];exact m3 D hD) ⟨hR.w_eq,hR.ext0,hR.rel,hR.left,hR.env,hR.size,dh.nil _ _,hR.fresh⟩
theorem bU.of_code {muts:List Nat}{f:Nat}{fn:AFn}{args:List AV}{sto:List (Nat×Blk)}{next:Nat}{R:AV->List (Nat×Blk)->Nat->Prop}(hc:cFn P muts f=some fn)(hn:args.length<=fn.N)
  (hv:∀ (c:Ctx) (κ:Kap) (N:Nat) (a:Act) (w:World) (co:Code) (rl li:List Nat),c.G=G->κ.w.heap.size<=c.w0.heap.size->(∀ r,next<=r->κ.nm r=none)->bd P muts N rl co [] rl=some (fn.body,li)->Rel c κ N ⟨dc args,sto,next⟩ a w κ ->
   co.wpIn (FR none) 0 P (lift c κ N (FnK G fn.res R)) a w):bU P G f args sto next R:=by
 unfold cFn at hc
 split at hc
 ·rename_i fnc hfn
  split at hc
  ·rename_i co hco
   split at hc
   ·rename_i rs hrs
    split at hc
    ·rename_i hok
     split at hc
     ·rename_i b li hb
      cases hc
      refine⟨hok,fun κ vals hS hf hsz hargs=>?_⟩
      refine callsIn_wide.1 (callsIn_of_wp_marks (n:=0) hfn hco trivial ?_ rfl)
      let c:=bP κ (fun r=>lookB r sto) G
      have hsize:(vals++Array.replicate (fnc.ntmps - vals.size) Go.undef).size=fnc.ntmps:=by
       simp only at hn
       simp only[Array.size_append,Array.size_replicate];omega
      have hR:Rel c κ fnc.ntmps ⟨dc args,sto,next⟩ ⟨vals++Array.replicate (fnc.ntmps - vals.size) Go.undef,[]⟩ κ.w κ:=by
       refine⟨rfl,Ext.refl κ,hS,⟨rfl,rfl,rfl,Nat.le_refl _,fun _ _ _=>rfl,fun _ _ h=>.inl h⟩,fun i=>?_,hsize,dh.nil _ _,hf⟩
       show ARel κ (look i ((args.zipIdx 0).map fun p=>(p.2,p.1))) _
       rw[ko,if_pos (Nat.zero_le _),Nat.sub_zero]
       cases hx:args[i]? with
       | none=>exact .any _
       | some x=>
         have hi:i<vals.size:=by rw[hsz];exact (List.getElem?_eq_some_iff.1 hx).1
         have:=hargs i x hx
         have e:(vals++Array.replicate (fnc.ntmps - vals.size) Go.undef).getD i Go.undef=vals.getD i Go.undef:=by
          simp only[Array.getD_eq_getD_getElem?]
          rw[Array.getElem?_append_left hi]
         rw[e];exact this
      refine Go.wpIn_mono (hv c κ fnc.ntmps _ κ.w co (g9 rs) li rfl (Nat.le_refl _) hf hb hR) ?_
      have fin:∀ (s:St) (κ':Kap) (a:Act) (w:World),Rel c κ fnc.ntmps s a w κ'->aJ (eX G s rs) (I1 R s)->∃ v,(results fnc a.tmps).run P w = .ok v w /\
        ∃ u v' κ'' sto' next',Ending.returned v = .returned u/\κ''.w=w/\Ext κ κ''/\Left c κ.imm κ''/\ARel κ'' v' u/\SRel c κ'' (fun r=>lookB r sto')/\(∀ r,next'<=r->κ''.nm r=none)/\R v' sto' next':=by
       intro s κ' a w hR hF
       simp only[aJ] at hF
       split at hF
       ·rename_i vs hvs
        obtain⟨us,h1,h2,h3⟩:=jT (P:=P) hR fnc.results.toList rs vs hrs hvs
        have hrun:(results fnc a.tmps).run P w = .ok (if h:us.toArray.size=1 then us.toArray[0] else .tuple us.toArray) w:=by
         rw[lO,Sem.run_bind,Array.mapM_eq_mapM_toList]
         simp only[Sem.run_bind,Sem.run_map]
         rw[h1]
         simp
        refine⟨_,hrun,_,yE vs,κ',s.sto,s.next,rfl,hR.w_eq,hR.ext0,hR.left,?_,hR.rel,hR.fresh,hF⟩
        by_cases hl:vs.length=1
        ·obtain⟨v,rfl⟩:=List.length_eq_one_iff.1 hl
         obtain⟨u,rfl⟩:=List.length_eq_one_iff.1 (h2.trans hl)
         have:=h3 0 v rfl
         exact this
        ·have hul:¬ us.toArray.size=1:=by simpa[h2] using hl
         rw[dif_neg hul]
         have hrv:yE vs=oX vs:=by
          unfold yE
          split
          ·simp at hl
          ·rfl
         rw[hrv]
         exact oW (.tup _ _ (by simpa using h2) (fun i x hx=>by rw[aE];simpa using h3 i x hx))
       ·exact hF.elim
      intro e a w hq
      cases e with
      | normal=>
        obtain⟨s,κ',hR,hF⟩:=hq
        exact gA (Nat.le_refl _) rfl hR fun w' κ'' hR'=>fin s κ'' ⟨a.tmps,[]⟩ w' hR' hF
      | ret=>
        obtain⟨s,κ',hR,hF⟩:=hq
        exact gA (Nat.le_refl _) rfl hR fun w' κ'' hR'=>fin s κ'' ⟨a.tmps,[]⟩ w' hR' hF
      | exit id=>
        obtain⟨s,κ',hR,hF⟩:=hq
        exact hF.elim
      | goto l=>exact hq.elim
      | panic ch=>exact hq.elim
      | outgrown=>exact hq.elim
     ·cases hc
    ·cases hc
   ·cases hc
  ·cases hc
 ·cases hc
theorem bU.intro {muts:List Nat}{f:Nat}{fn:AFn}{args:List AV}{sto:List (Nat×Blk)}{next:Nat}{R:AV->List (Nat×Blk)->Nat->Prop}(hc:cFn P muts f=some fn)(hn:args.length<=fn.N)
  (hv:vc P G next fn.body (FnK G fn.res R) ⟨dc args,sto,next⟩):bU P G f args sto next R:=
 bU.of_code hc hn fun c κ N a w co rl li hG hk hf hb hR=>sP (P:=P) (N:=N) co c κ next none 0 fn.body [] rl li (FnK G fn.res R) _ a w κ (.inl rfl) hf hk hb hR (by rw[hG];exact hv)
def isR (r:PV)(σ:List (Nat×Blk))(v:AV):Prop:=∃ q,r9 (fun r=>lookB r σ) v=some q/\Nz q.1 r
theorem ag.of_tcalls {f:Nat}{args:List PV}{r:PV}(h:bU P G f (args.map .pv) [] 0 fun v σ _=>isR r σ v):ag P G f args r:=by
 obtain⟨hcal,h⟩:=h
 refine⟨hcal,fun w imm vals hG hlt hsz hargs=>?_⟩
 have hl:(fun r=>lookB r ([]:List (Nat×Blk)))=fun _=>Blk.none:=by funext r;rfl
 refine (h ⟨w,fun _=>none,imm⟩ vals ?_ (fun _ _=>rfl) (by simpa using hsz) (fun i x hx=>?_)).mono ?_
 ·refine⟨fun r=>trivial,fun r r' d d' b h1=>absurd rfl h1,fun r d b h1=>absurd rfl h1,hlt,hG.1,fun g hg=>?_⟩
  obtain⟨cs,T,fz,h1,h2⟩:=hG.2 g hg
  refine⟨(Array.getElem?_eq_some_iff.1 h1).1,?_,cs,T,fz,h1,h2⟩
  rintro⟨r,d,h1,_⟩
  exact h1 rfl
 ·simp only[List.getElem?_map,Option.map_eq_some_iff] at hx
  obtain⟨q,hq,rfl⟩:=hx
  exact .pv _ _ (hargs i q hq)
 ·rintro e w' ⟨u,v,κ',sto',next',rfl,rfl,he,hL,hv,hS,hf,q,hq,hqr⟩
  have hlent:∀ b,¬ (bP ⟨w,fun _=>none,imm⟩ (fun r=>lookB r ([]:List (Nat×Blk))) G).lent b:=by
   rintro b ⟨r,d,h1,_⟩
   exact h1 rfl
  obtain⟨h1,h2⟩:=tV hS hv hq
  obtain⟨h3,h4⟩:=tU hS q.2 h1 next'
  have hL':=h3.left _ hL
  refine⟨u,(HH κ' (fun r=>lookB r sto') q.2).imm,rfl,⟨hL.os,hL.tape,hL.output,hL.size,fun k hk=>hL.block k hk (hlent k)⟩,fun b o hi=>h3.ext.imm _ _ (he.imm _ _ hi),fun b o hi=>?_,h4.immLt,h2.nz hqr⟩
  rcases hL'.imm b o hi with h1 | h1 | h1
  ·exact .inl h1
  ·exact .inr h1
  ·exact absurd h1 (hlent b)
def OD (r:PV)(v:AV)(σ:List (Nat×Blk))(_:Nat):Prop:=isR r σ v
theorem O8 {r:PV}{σ:List (Nat×Blk)}{v:AV}(h:v.toPV=some r):isR r σ v:=by
 cases v with
 | pv p=>simp only[AV.toPV,Option.some.injEq] at h;subst h;exact⟨(p,[]),rfl,.refl p⟩
 | olist a b l=>simp only[AV.toPV,Option.some.injEq] at h;subst h;exact⟨(.list l,[]),rfl,.refl _⟩
 | _=>simp[AV.toPV] at h
theorem ag.intro {muts:List Nat}{f:Nat}{fn:AFn}{args:List PV}{r:PV}(hc:cFn P muts f=some fn)(hn:args.length<=fn.N)
  (hv:vc P G 0 fn.body (FnK G fn.res (OD r)) ⟨dc (args.map .pv),[],0⟩):ag P G f args r:=
 ag.of_tcalls (bU.intro hc (by simpa using hn) hv)
theorem ag.nz {f:Nat}{qs ps:List PV}{r:PV}(h:ag P G f ps r)(hz:NzL qs ps):ag P G f qs r:=by
 obtain⟨h1,h2⟩:=h
 refine⟨h1,fun w imm vals hG hlt hsz hargs=>h2 w imm vals hG hlt (by rw[hsz,hz.length]) fun i x hx=>?_⟩
 obtain⟨y,hy,hyx⟩:=hz.get i x hx
 exact (hargs i y hy).nz hyx
theorem ab.pure {f:Nat}{args:List AV}{ps:List PV}{r:PV}{s:St}{K:AV->St->Prop}(h:ag P G f ps r)(he:pvs args=some ps)(hk:K (.pv r) s):ab P G f args s K:=
 ⟨s,args,WkC.refl s args,.inl ⟨ps,r,he,h,hk⟩⟩
theorem ab.lent {f:Nat}{args:List AV}{s:St}{K:AV->St->Prop}{Q:AV->List (Nat×Blk)->Nat->Prop}(h:bU P G f args s.sto s.next Q)(hk:∀ v sto' next',Q v sto' next'->K v ⟨s.env,sto',next'⟩):ab P G f args s K:=
 ⟨s,args,WkC.refl s args,.inr ⟨Q,h,hk⟩⟩
theorem LG.intro {body:(AExit->St->Prop)->St->Prop}{m0:Nat}{keep:List Nat}{Q:AExit->St->Prop}{s:St}(I:Nat->St->Prop)(n:Nat)(h0:I n (norm m0 keep s))(h:∀ n s,I n s->body (QT m0 I n Q) s):LG body m0 keep Q s:=
 ⟨I,⟨n,_,Wk.norm m0 keep s,h0⟩,h⟩
end
section
variable {P:Program}{G:Nat->List PV}
theorem bi {α:Type}{x:Option α}{k k':α->Prop}(h:∀ a,k a->k' a)(hx:aJ x k):aJ x k':=by
 cases x with
 | none=>exact hx
 | some a=>exact h a hx
theorem ab.mono {f:Nat}{args:List AV}{s:St}{K K':AV->St->Prop}(h:∀ v s,K v s->K' v s)(hA:ab P G f args s K):ab P G f args s K':=by
 obtain⟨s',args',hw,⟨ps,r,h1,h2,h3⟩ | ⟨Q,h1,h2⟩⟩:=hA
 ·exact⟨s',args',hw,.inl ⟨ps,r,h1,h2,h _ _ h3⟩⟩
 ·exact⟨s',args',hw,.inr ⟨Q,h1,fun v sto n hq=>h _ _ (h2 v sto n hq)⟩⟩
theorem Dw {F F':St->Prop}(h:∀ s,F s->F' s){s:St}{d:Option Nat}{o:AOp}(hx:lk P G F s d o):lk P G F' s d o:=by
 cases o with
 | t o=>
   simp only[lk,ip] at hx ⊢
   split
   ·rename_i v hv
    rw[hv] at hx;exact h _ hx
   ·rename_i hv
    rw[hv] at hx
    exact⟨hx.1,fun b=>h _ (hx.2 b)⟩
 | m o=>exact bi (fun v hv=>h _ hv) hx
 | fz g x=>exact bi (fun v hv=>h _ hv) hx
 | call f xs=>exact bi (fun p hp=>ab.mono (fun v s hv=>h _ hv) hp) hx
theorem Dz {F F':St->Prop}(h:∀ s,F s->F' s){s:St}{d:Option Nat}{o:AOp}{b:Bool}(hx:Jp P G F s d o b):Jp P G F' s d o b:=by
 cases b with
 | true=>exact Dw h hx
 | false=>exact h _ hx
theorem gW {F F':St->Prop}(h:∀ s,F s->F' s):∀ (l:List AOper) (s:St),di P G l F s->di P G l F' s
 | [],s,hx=>h s hx
 | o::r,s,hx=>bi (fun b hb=>Dz (fun s hs=>gW h r s hs) hb) hx
theorem sy {F F':List (List Nat×List Nat)->St->Prop}(h:∀ T s,F T s->F' T s){T:List (List Nat×List Nat)}{s:St}{d:Option Nat}{args:List AV}{p:Nat×List AV×List AV}(hx:mz P G F T s d args p):mz P G F' T s d args p:=by
 unfold mz P9 at hx ⊢
 rcases hx with ⟨ps,r,h1,h2,h3⟩ | ⟨v,δ,top,h1,h2,h3⟩
 ·exact .inl ⟨ps,r,h1,h2,h _ _ h3⟩
 ·exact .inr ⟨v,δ,top,h1,h2,h _ _ h3⟩
theorem xv {F F':List (List Nat×List Nat)->St->Prop}(h:∀ T s,F T s->F' T s){T:List (List Nat×List Nat)}{s:St}{d:Option Nat}{o:AOp}(hx:gJ P G F T s d o):gJ P G F' T s d o:=by
 cases o with
 | t o=>exact bi (fun v hv=>h _ _ hv) hx
 | m o=>exact bi (fun v hv=>h _ _ hv) hx
 | fz g x=>exact hx
 | call f xs=>exact bi (fun p hp=>sy h hp) hx
theorem mE {A:List (List Nat)}{F F':St->Prop}(h:∀ s,F s->F' s):∀ (l:List AOper) (T:List (List Nat×List Nat)) (s:St),vcD P G A F l T s->vcD P G A F' l T s
 | [],T,s,hx=>⟨hx.1,h s hx.2⟩
 | o::r,T,s,hx=>by
   refine bi (fun b hb=>?_) hx
   cases b with
   | true=>exact xv (fun T s hs=>mE h r T s hs) hb
   | false=>exact mE h r _ _ hb
theorem cu:∀ {m0:Nat} (c:ACode) {Q Q':AExit->St->Prop} (h:∀ e s,Q e s->Q' e s) (s:St),vc P G m0 c Q s->vc P G m0 c Q' s
 | m0,.skip,Q,Q',h,s,hx=>h _ _ hx
 | m0,.ops l keep,Q,Q',h,s,hx=>gW (fun s hs=>h _ _ hs) l s hx
 | m0,.draw A l l2 keep,Q,Q',h,s,hx=>mE (fun s hs=>gW (fun s hs=>h _ _ hs) l2 s hs) l [] s hx
 | m0,.seq a b,Q,Q',h,s,hx=>cu a (fun e s hs=>by
   cases e with
   | norm=>exact cu b h s hs
   | exit i=>exact h _ _ hs
   | ret=>exact h _ _ hs) s hx
 | m0,.cond x a b,Q,Q',h,s,hx=>by
   simp only[vc] at hx ⊢
   unfold oM at hx ⊢
   split at hx
   ·exact cu a h s hx
   ·exact cu b h s hx
   ·exact hx
 | m0,.block id b,Q,Q',h,s,hx=>cu b (fun e s hs=>by
   cases e with
   | norm=>exact h _ _ hs
   | exit i=>
     simp only[fO] at hs ⊢
     split at hs
     ·rename_i hi;rw[if_pos hi];exact h _ _ hs
     ·rename_i hi;rw[if_neg hi];exact h _ _ hs
   | ret=>exact h _ _ hs) s hx
 | m0,.loop keep b,Q,Q',h,s,hx=>by
   obtain⟨I,h0,h1⟩:=hx
   refine⟨I,h0,fun n s hs=>cu b (fun e s hs=>?_) s (h1 n s hs)⟩
   cases e with
   | norm=>exact hs
   | exit i=>
     obtain⟨s',hw,hq⟩:=hs
     exact⟨s',hw,h _ _ hq⟩
   | ret=>exact h _ _ hs
 | m0,.range f ps keep a b,Q,Q',h,s,hx=>by
   obtain⟨I,s0,h1,h2,h3⟩:=hx
   refine⟨I,s0,h1,h2,bi (fun p hp=>?_) h3⟩
   obtain⟨q1,lb,xs,q2,q3,q4,q5⟩:=hp
   refine⟨q1,lb,xs,q2,q3,fun i x s' hx hI=>?_,fun s' hI=>h _ _ (q5 s' hI)⟩
   obtain⟨r1,r2⟩:=q4 i x s' hx hI
   refine⟨r1,cu a (fun e s hs=>?_) _ r2⟩
   cases e with
   | norm=>
     refine cu b (fun e s hs=>?_) s hs
     cases e with
     | norm=>exact hs
     | exit i=>exact h _ _ hs
     | ret=>exact h _ _ hs
   | exit i=>exact hs.elim
   | ret=>exact hs.elim
 | m0,.exit id,Q,Q',h,s,hx=>h _ _ hx
 | m0,.ret,Q,Q',h,s,hx=>h _ _ hx
end
theorem mC {n:Int}(h1:-9223372036854775808<=n)(h2:n<=9223372036854775807):IntKind.i64.wrap n=n:=by
 show (if (true&&decide (n % 18446744073709551616>=9223372036854775808))=true then n % 18446744073709551616 - 18446744073709551616 else n % 18446744073709551616)=n
 simp only[Bool.true_and,decide_eq_true_eq]
 split<;>omega
theorem EV {n:Int}(h1:-2147483648<=n)(h2:n<=2147483647):IntKind.i32.wrap n=n:=by
 show (if (true&&decide (n % 4294967296>=2147483648))=true then n % 4294967296 - 4294967296 else n % 4294967296)=n
 simp only[Bool.true_and,decide_eq_true_eq]
 split<;>omega
theorem JS {n:Int}(h1:0<=n)(h2:n<=255):IntKind.u8.wrap n=n:=by
 show (if (false&&decide (n % 256>=128))=true then n % 256 - 256 else n % 256)=n
 simp only[Bool.false_and]
 simp;omega
theorem ET {n:Int}(h1:0<=n)(h2:n<=18446744073709551615):IntKind.u64.wrap n=n:=by
 show (if (false&&decide (n % 18446744073709551616>=9223372036854775808))=true then n % 18446744073709551616 - 18446744073709551616 else n % 18446744073709551616)=n
 simp only[Bool.false_and]
 simp;omega
theorem EU {n:Int}(h1:0<=n)(h2:n<=4294967295):IntKind.u32.wrap n=n:=by
 show (if (false&&decide (n % 4294967296>=2147483648))=true then n % 4294967296 - 4294967296 else n % 4294967296)=n
 simp only[Bool.false_and]
 simp;omega
theorem Sc {a b:Int}(h:a<b):decide (a<b)=true:=decide_eq_true h
theorem Se {a b:Int}(h:¬ a<b):decide (a<b)=false:=decide_eq_false h
theorem Sf {a b:Int}(h:a<=b):decide (a<=b)=true:=decide_eq_true h
theorem Sg {a b:Int}(h:¬ a<=b):decide (a<=b)=false:=decide_eq_false h
theorem Si {a b:Int}(h:a=b):decide (a=b)=true:=decide_eq_true h
theorem Sj {a b:Int}(h:¬ a=b):decide (a=b)=false:=decide_eq_false h
def Chk (b:Bool):Prop:=b=true
theorem MA:Chk true:=_root_.id rfl
theorem Cj (i k:Nat)(x:AV)(r:List (Nat×AV)):look i ((k,x)::r)=if k=i then x else look i r:=_root_.id rfl
theorem Hb (i:Nat):look i [] = .any:=_root_.id rfl
theorem wL (i k:Nat)(x:Blk)(r:List (Nat×Blk)):lookB i ((k,x)::r)=if k=i then x else lookB i r:=_root_.id rfl
theorem Ck (i:Nat):lookB i [] = .none:=_root_.id rfl
def evE (e:List (Nat×AV)):AX->AV
 | .t i=>look i e
 | .c p=>.pv p
 | .m i tb=>Nl tb (look i e)
theorem R9 (e:List (Nat×AV))(i:Nat)(tb:List (Nat×Nat)):evE e (.m i tb)=Nl tb (look i e):=_root_.id rfl
theorem wI (tb:List (Nat×Nat))(T:Nat)(p:PV):Nl tb (.pv (.iface T p))=Ch p (kq T tb):=_root_.id rfl
theorem wK (t a b:Nat)(r:List (Nat×Nat)):kq t ((a,b)::r)=if a=t then some b else kq t r:=_root_.id rfl
theorem wJ (p:PV)(f:Nat):Ch p (some f) = .clo f [.pv p] []:=_root_.id rfl
theorem R8 (e:List (Nat×AV))(i:Nat):evE e (.t i)=look i e:=_root_.id rfl
theorem Sa (e:List (Nat×AV))(p:PV):evE e (.c p) = .pv p:=_root_.id rfl
def evO (e:List (Nat×AV)):Option AX->Option AV
 | some x=>some (evE e x)
 | none=>none
theorem HP (e:List (Nat×AV))(x:AX):evO e (some x)=some (evE e x):=_root_.id rfl
theorem HQ (e:List (Nat×AV)):evO e none=none:=_root_.id rfl
def evL (e:List (Nat×AV)):List AX->List AV
 | []=>[]
 | x::r=>evE e x::evL e r
theorem Mj (e:List (Nat×AV)):evL e []=[]:=_root_.id rfl
theorem HS (e:List (Nat×AV))(x:AX)(r:List AX):evL e (x::r)=evE e x::evL e r:=_root_.id rfl
theorem jf (e:List (Nat×AV))(σ:List (Nat×Blk))(n:Nat)(x:AX):x.ev (St.E ⟨e,σ,n⟩)=evE e x:=by cases x<;>rfl
theorem Dh (e:List (Nat×AV))(σ:List (Nat×Blk))(n:Nat):∀ (l:List AX),l.map (·.ev (St.E ⟨e,σ,n⟩))=evL e l
 | []=>rfl
 | x::r=>by rw[List.map_cons,Dh e σ n r,jf];rfl
def evP (e:List (Nat×AV)):List (Nat×Nat×AX)->List (Nat×Nat×AV)
 | []=>[]
 | (a,b,x)::r=>(a,b,evE e x)::evP e r
theorem Mi (e:List (Nat×AV)):evP e []=[]:=_root_.id rfl
theorem HO (e:List (Nat×AV))(a b:Nat)(x:AX)(r:List (Nat×Nat×AX)):evP e ((a,b,x)::r)=(a,b,evE e x)::evP e r:=_root_.id rfl
def gX (e:List (Nat×AV)):TOp->Option AV
 | .mv x=>some (evE e x)
 | .pick c a b=>qT (evE e c) (evE e a) (evE e b)
 | .build zs ps=>(fZ (zs.map .pv) (evP e ps)).map jc
 | .faddr off x=>iP off (evE e x)
 | .field g sz off x=>j0 g sz off (evE e x)
 | .iaddr sz x i=>gv sz (evE e x) (evE e i)
 | .iaddrA n sz x i=>ic n sz (evE e x) (evE e i)
 | .index x i=>gu (evE e x) (evE e i)
 | .indexA g n sz x i=>dw g n sz (evE e x) (evE e i)
 | .len st x=>EK st (evE e x)
 | .imin x y=>K2 (evE e x) (evE e y)
 | .imax x y=>K3 (evE e x) (evE e y)
 | .sliceL sz x lo hi=>ee sz (evE e x) (evO e lo) (evO e hi)
 | .sliceS x lo hi=>fU (evE e x) (evO e lo) (evO e hi)
 | .bin op x y=>dj op (evE e x) (evE e y)
 | .beq kd ng x y=>(rg kd (evE e x) (evE e y)).map fun b=>.pv (.bool (if ng then !b else b))
 | .neg x=>Nk (evE e x)
 | .not x=>Nj (evE e x)
 | .conv k x=>vQ k (evE e x)
 | .clo f fs cs=>some (rM f (evL e fs) (evL e cs))
 | .ext x i=>K6 i (evE e x)
 | .nilck x=>EJ (evE e x)
theorem HR (e:List (Nat×AV)):∀ (l:List AX),l.map (fun x=>evE e x)=evL e l
 | []=>rfl
 | x::r=>by rw[List.map_cons,HR e r];rfl
theorem Ps (e:List (Nat×AV))(l:Option AX):l.map (fun x=>evE e x)=evO e l:=by cases l<;>rfl
theorem Pr (e:List (Nat×AV)):∀ (l:List (Nat×Nat×AX)),(l.map fun p=>(p.1,p.2.1,evE e p.2.2))=evP e l
 | []=>rfl
 | (a,b,x)::r=>by rw[List.map_cons,Pr e r];rfl
theorem Ad (e:List (Nat×AV))(σ:List (Nat×Blk))(n:Nat)(o:TOp):o.run (St.E ⟨e,σ,n⟩)=gX e o:=by
 cases o<;>simp only[TOp.run,gX,jf,HR,Ps,Pr]
theorem Kh (e:List (Nat×AV))(x:AX):gX e (.mv x)=some (evE e x):=_root_.id rfl
theorem z8 (e:List (Nat×AV))(c a b:AX):gX e (.pick c a b)=qT (evE e c) (evE e a) (evE e b):=_root_.id rfl
theorem vo (e:List (Nat×AV))(zs:List PV)(ps:List (Nat×Nat×AX)):gX e (.build zs ps)=(fZ (zs.map .pv) (evP e ps)).map jc:=_root_.id rfl
theorem vm (e:List (Nat×AV))(off:Nat)(x:AX):gX e (.faddr off x)=iP off (evE e x):=_root_.id rfl
theorem vj (e:List (Nat×AV))(g:Bool)(sz off:Nat)(x:AX):gX e (.field g sz off x)=j0 g sz off (evE e x):=_root_.id rfl
theorem vh (e:List (Nat×AV))(sz:Nat)(x i:AX):gX e (.iaddr sz x i)=gv sz (evE e x) (evE e i):=_root_.id rfl
theorem qK (e:List (Nat×AV))(n sz:Nat)(x i:AX):gX e (.iaddrA n sz x i)=ic n sz (evE e x) (evE e i):=_root_.id rfl
theorem vg (e:List (Nat×AV))(x i:AX):gX e (.index x i)=gu (evE e x) (evE e i):=_root_.id rfl
theorem qJ (e:List (Nat×AV))(g:Bool)(n sz:Nat)(x i:AX):gX e (.indexA g n sz x i)=dw g n sz (evE e x) (evE e i):=_root_.id rfl
theorem Fp (e:List (Nat×AV))(st:Bool)(x:AX):gX e (.len st x)=EK st (evE e x):=_root_.id rfl
theorem Aa (e:List (Nat×AV))(x y:AX):gX e (.imin x y)=K2 (evE e x) (evE e y):=_root_.id rfl
theorem Ac (e:List (Nat×AV))(x y:AX):gX e (.imax x y)=K3 (evE e x) (evE e y):=_root_.id rfl
theorem qI (e:List (Nat×AV))(sz:Nat)(x:AX)(lo hi:Option AX):gX e (.sliceL sz x lo hi)=ee sz (evE e x) (evO e lo) (evO e hi):=_root_.id rfl
theorem qH (e:List (Nat×AV))(x:AX)(lo hi:Option AX):gX e (.sliceS x lo hi)=fU (evE e x) (evO e lo) (evO e hi):=_root_.id rfl
theorem Fs (e:List (Nat×AV))(op:BinOp)(x y:AX):gX e (.bin op x y)=dj op (evE e x) (evE e y):=_root_.id rfl
def Gr (ng:Bool):Option Bool->Option AV
 | some b=>some (.pv (.bool (if ng then !b else b)))
 | none=>none
theorem Ft (e:List (Nat×AV))(kd:Nat)(ng:Bool)(x y:AX):gX e (.beq kd ng x y)=Gr ng (rg kd (evE e x) (evE e y)):=by
 simp only[gX];cases rg kd (evE e x) (evE e y)<;>rfl
theorem K8 (b:Bool):Gr true (some b)=some (.pv (.bool (!b))):=_root_.id rfl
theorem K9 (b:Bool):Gr false (some b)=some (.pv (.bool b)):=_root_.id rfl
theorem Fo (e:List (Nat×AV))(x:AX):gX e (.neg x)=Nk (evE e x):=_root_.id rfl
theorem Fn (e:List (Nat×AV))(x:AX):gX e (.not x)=Nj (evE e x):=_root_.id rfl
theorem Ae (e:List (Nat×AV))(k:IntKind)(x:AX):gX e (.conv k x)=vQ k (evE e x):=_root_.id rfl
theorem Fr (e:List (Nat×AV))(f:Nat)(fs cs:List AX):gX e (.clo f fs cs)=some (rM f (evL e fs) (evL e cs)):=_root_.id rfl
theorem Fq (e:List (Nat×AV))(x:AX)(i:Nat):gX e (.ext x i)=K6 i (evE e x):=_root_.id rfl
theorem ve (e:List (Nat×AV))(x:AX):gX e (.nilck x)=EJ (evE e x):=_root_.id rfl
theorem KY (x y:AV):qT (.pv (.bool true)) x y=some x:=_root_.id rfl
theorem KZ (x y:AV):qT (.pv (.bool false)) x y=some y:=_root_.id rfl
theorem vO (off r o:Nat):iP off (.ptr r o)=some (.ptr r (o+off)):=_root_.id rfl
theorem q8 (off:Nat)(l:List PV)(i o:Nat):iP off (.pv (.eptr l i o))=some (.pv (.eptr l i (o+off))):=_root_.id rfl
theorem qZ (off g o:Nat):iP off (.pv (.gptr g o))=some (.pv (.gptr g (o+off))):=_root_.id rfl
theorem A7 (g:Bool)(sz off:Nat)(ps:List PV):j0 g sz off (.pv (.agg ps))=cY g sz off (ps.map .pv):=_root_.id rfl
theorem A8 (g:Bool)(sz off:Nat)(ps:List AV):j0 g sz off (.agg ps)=cY g sz off ps:=_root_.id rfl
def OG (sz off:Nat)(cs:List AV):Option AV:=if off+sz<=cs.length then some (jc ((cs.drop off).take sz)) else none
theorem Lc (sz off:Nat)(cs:List AV):cY true sz off cs=OG sz off cs:=_root_.id rfl
theorem Ld (sz off:Nat)(cs:List AV):cY false sz off cs=cs[off]?:=_root_.id rfl
def eH (sz:Nat)(l:List PV)(i:Nat):Option PV->Option AV
 | some y=>if y.cells.length=sz then some (.pv (.eptr l i 0)) else none
 | none=>none
theorem oE (sz:Nat)(l:List PV)(i:Nat):e6 sz l (i:Int)=eH sz l i l[i]?:=by
 unfold e6 eH
 rw[if_pos (by omega)]
 simp only[Int.toNat_natCast]
 cases l[i]? <;> rfl
theorem aD (sz:Nat)(l:List PV):e6 sz l 0=eH sz l 0 l[0]?:=_root_.id rfl
theorem vP (sz:Nat)(l:List PV)(i:Nat):e6 sz l ((i:Int)+1)=eH sz l (i+1) l[i+1]?:=oE sz l (i+1)
theorem qY (sz:Nat)(l:List PV)(k:IntKind)(n:Int):gv sz (.pv (.list l)) (.pv (.int k n))=e6 sz l n:=_root_.id rfl
theorem oD (sz r s:Nat)(l:List PV)(k:IntKind)(n:Int):gv sz (.olist r s l) (.pv (.int k n))=e6 sz l n:=_root_.id rfl
theorem vN (sz r off len:Nat)(k:IntKind){n:Int}(h:0<=n)(h':n.toNat<len):gv sz (.row r sz off len) (.pv (.int k n))=some (.ptr r (off+n.toNat*sz)):=by
 simp[gv,h,h']
theorem F7 (l:List UInt8):EK true (.pv (.str l))=some (.pv (.int .i64 l.length)):=_root_.id rfl
theorem A6 (l:List PV):EK false (.pv (.list l))=some (.pv (.int .i64 l.length)):=_root_.id rfl
theorem A5:EK false (.pv .nils)=some (.pv (.int .i64 0)):=_root_.id rfl
theorem vM (r s:Nat)(l:List PV):EK false (.olist r s l)=some (.pv (.int .i64 l.length)):=_root_.id rfl
theorem F9 (r s o n:Nat):EK false (.row r s o n)=some (.pv (.int .i64 n)):=_root_.id rfl
theorem q9 {d top:Nat}{k:IntKind}{n:Int}(h0:0<=n)(h1:n<=top):aW d top (some (.pv (.int k n)))=some n.toNat:=by
 simp[aW,h0,h1]
theorem rc {d top:Nat}:aW d top none=some d:=_root_.id rfl
def Sp {α:Type}(l:List α)(f:List α->AV):Option Nat->Option Nat->Option AV
 | some h,some a=>some (f ((l.take h).drop a))
 | _,_=>none
theorem DG {α:Type}(l:List α)(f:List α->AV)(h a:Nat):Sp l f (some h) (some a)=some (f ((l.take h).drop a)):=_root_.id rfl
def SC (l:Nat)(lo:Option AV):Option Nat->Option Nat
 | some h=>aW 0 h lo
 | none=>none
theorem Ee (l:Nat)(lo:Option AV)(h:Nat):SC l lo (some h)=aW 0 h lo:=_root_.id rfl
theorem qS (l:List UInt8)(lo hi:Option AV):fU (.pv (.str l)) lo hi=Sp l (fun x=>.pv (.str x)) (aW l.length l.length hi) (SC l.length lo (aW l.length l.length hi)):=by
 unfold fU Sp SC
 simp only
 split<;>rename_i h
 ·rw[h];simp only;cases aW 0 _ lo<;>rfl
 ·rw[h]
theorem Gm (k:IntKind)(a b:Int):dj .add (.pv (.int k a)) (.pv (.int k b))=some (.pv (.int k (k.wrap (a+b)))):=by simp[dj,nR]
theorem Gb (k:IntKind)(a b:Int):dj .sub (.pv (.int k a)) (.pv (.int k b))=some (.pv (.int k (k.wrap (a - b)))):=by simp[dj,nR]
theorem Gf (k:IntKind)(a b:Int):dj .mul (.pv (.int k a)) (.pv (.int k b))=some (.pv (.int k (k.wrap (a*b)))):=by simp[dj,nR]
theorem Gd {k:IntKind}{a b:Int}(h:¬ b=0):dj .quo (.pv (.int k a)) (.pv (.int k b))=some (.pv (.int k (k.wrap (a.tdiv b)))):=by simp[dj,nR,h]
theorem Gc {k:IntKind}{a b:Int}(h:¬ b=0):dj .rem (.pv (.int k a)) (.pv (.int k b))=some (.pv (.int k (a.tmod b))):=by simp[dj,nR,h]
theorem Gl (k:IntKind)(a b:Int):dj .and (.pv (.int k a)) (.pv (.int k b))=some (.pv (.int k (bits .and k a b))):=by simp[dj,nR]
theorem K7 (k:IntKind)(a b:Int):dj .or (.pv (.int k a)) (.pv (.int k b))=some (.pv (.int k (bits .or k a b))):=by simp[dj,nR]
theorem Ga (k:IntKind)(a b:Int):dj .xor (.pv (.int k a)) (.pv (.int k b))=some (.pv (.int k (bits .xor k a b))):=by simp[dj,nR]
theorem re (k:IntKind)(a b:Int):dj .andNot (.pv (.int k a)) (.pv (.int k b))=some (.pv (.int k (bits .andNot k a b))):=by simp[dj,nR]
theorem Gk (k:IntKind)(a b:Int):dj .eql (.pv (.int k a)) (.pv (.int k b))=some (.pv (.bool (decide (a=b)))):=by simp[dj,nR];rfl
theorem Ge (k:IntKind)(a b:Int):dj .neq (.pv (.int k a)) (.pv (.int k b))=some (.pv (.bool (!decide (a=b)))):=by simp[dj,nR];rfl
theorem Gg (k:IntKind)(a b:Int):dj .lss (.pv (.int k a)) (.pv (.int k b))=some (.pv (.bool (decide (a<b)))):=by simp[dj,nR]
theorem Gh (k:IntKind)(a b:Int):dj .leq (.pv (.int k a)) (.pv (.int k b))=some (.pv (.bool (decide (a<=b)))):=by simp[dj,nR]
theorem Gi (k:IntKind)(a b:Int):dj .gtr (.pv (.int k a)) (.pv (.int k b))=some (.pv (.bool (decide (b<a)))):=by simp[dj,nR]
theorem Gj (k:IntKind)(a b:Int):dj .geq (.pv (.int k a)) (.pv (.int k b))=some (.pv (.bool (decide (b<=a)))):=by simp[dj,nR]
theorem Bg {a b:List UInt8}(h:a.length+b.length<=9223372036854775807):dj .add (.pv (.str a)) (.pv (.str b))=some (.pv (.str (a++b))):=by
 have:a.length+b.length<=maxLen:=by unfold maxLen;omega
 simp[dj,Ni,this]
theorem Bf (a b:List UInt8):dj .eql (.pv (.str a)) (.pv (.str b))=some (.pv (.bool (decide (a=b)))):=by
 simp[dj,Ni];rw[Bool.eq_iff_iff];simp
theorem Ba (a b:List UInt8):dj .neq (.pv (.str a)) (.pv (.str b))=some (.pv (.bool (!decide (a=b)))):=by
 simp[dj,Ni];rw[Bool.eq_iff_iff];simp
theorem Bb (a b:List UInt8):dj .lss (.pv (.str a)) (.pv (.str b))=some (.pv (.bool (bj a b))):=_root_.id rfl
theorem Bc (a b:List UInt8):dj .leq (.pv (.str a)) (.pv (.str b))=some (.pv (.bool (bj a b||a == b))):=_root_.id rfl
theorem Bd (a b:List UInt8):dj .gtr (.pv (.str a)) (.pv (.str b))=some (.pv (.bool (!(bj a b||a == b)))):=_root_.id rfl
theorem Be (a b:List UInt8):dj .geq (.pv (.str a)) (.pv (.str b))=some (.pv (.bool (!(bj a b)))):=_root_.id rfl
theorem Bl (a b:Bool):rg 0 (.pv (.bool a)) (.pv (.bool b))=some (a == b):=_root_.id rfl
theorem Gp (r o:Nat):rg 1 (.ptr r o) (.pv .nilp)=some false:=_root_.id rfl
theorem Bj (l:List PV)(i o:Nat):rg 1 (.pv (.eptr l i o)) (.pv .nilp)=some false:=_root_.id rfl
theorem Bi:rg 1 (.pv .nilp) (.pv .nilp)=some true:=_root_.id rfl
theorem Bk (x:PV)(l:List PV):rg 2 (.pv (.list (x::l))) (.pv .nils)=some false:=_root_.id rfl
theorem vR (r s:Nat)(x:PV)(l:List PV):rg 2 (.olist r s (x::l)) (.pv .nils)=some false:=_root_.id rfl
theorem Gn {r s o n:Nat}(h:0<n):rg 2 (.row r s o n) (.pv .nils)=some false:=by
 cases n with
 | zero=>exact absurd h (Nat.lt_irrefl _)
 | succ n=>rfl
theorem Bh:rg 2 (.pv .nils) (.pv .nils)=some true:=_root_.id rfl
theorem F4 (k:IntKind)(n:Int):Nk (.pv (.int k n))=some (.pv (.int k (k.wrap (0 - n)))):=_root_.id rfl
theorem A0 (b:Bool):Nj (.pv (.bool b))=some (.pv (.bool (!b))):=_root_.id rfl
theorem A9 (k k':IntKind)(n:Int):vQ k (.pv (.int k' n))=some (.pv (.int k (k.wrap n))):=_root_.id rfl
theorem F0 (r o:Nat):EJ (.ptr r o)=some (.ptr r o):=_root_.id rfl
theorem A3 (l:List PV)(i o:Nat):EJ (.pv (.eptr l i o))=some (.pv (.eptr l i o)):=_root_.id rfl
theorem A2 (g o:Nat):EJ (.pv (.gptr g o))=some (.pv (.gptr g o)):=_root_.id rfl
theorem A1 (f:Nat)(a b:List PV):EJ (.pv (.clo f a b))=some (.pv (.clo f a b)):=_root_.id rfl
theorem F3 (f:Nat)(a b:List AV):EJ (.clo f a b)=some (.clo f a b):=_root_.id rfl
theorem K4 (i:Nat)(ps:List PV):K6 i (.pv (.tup ps))=(ps[i]?).map .pv:=_root_.id rfl
theorem K5 (i:Nat)(ps:List AV):K6 i (.tup ps)=ps[i]?:=_root_.id rfl
theorem BN {α β:Type}(f:α->β)(a:α):(some a).map f=some (f a):=_root_.id rfl
theorem wA:[].map AV.pv=[]:=_root_.id rfl
theorem rP (x:PV)(r:List PV):(x::r).map AV.pv = .pv x::r.map AV.pv:=_root_.id rfl
theorem T3 {α:Type}(x:α)(r:List α):(x::r)[0]? = some x:=_root_.id rfl
theorem T2 {α:Type}(x:α)(r:List α)(n:Nat):(x::r)[n+1]? = r[n]?:=_root_.id rfl
theorem La:pvs []=some []:=_root_.id rfl
def QZ:Option PV->Option (List PV)->Option (List PV)
 | some p,some ps=>some (p::ps)
 | _,_=>none
theorem Bp (p:PV)(ps:List PV):QZ (some p) (some ps)=some (p::ps):=_root_.id rfl
theorem Bq (x:Option (List PV)):QZ none x=none:=_root_.id rfl
theorem vV (x:Option PV):QZ x none=none:=by cases x<;>rfl
theorem mU (x:AV)(r:List AV):pvs (x::r)=QZ x.toPV (pvs r):=by
 show (match x.toPV,pvs r with | some p,some ps=>some (p::ps) | _,_=>none)=_
 cases x.toPV<;>cases pvs r<;>rfl
theorem pvs_map:∀ (ps:List PV),pvs (ps.map .pv)=some ps
 | []=>rfl
 | x::r=>by rw[List.map_cons,mU,pvs_map r];rfl
theorem J8 (p:PV):(AV.pv p).toPV=some p:=_root_.id rfl
theorem uX (r s:Nat)(l:List PV):(AV.olist r s l).toPV=some (.list l):=_root_.id rfl
theorem Fg (r o:Nat):(AV.ptr r o).toPV=none:=_root_.id rfl
theorem Ff (r s o n:Nat):(AV.row r s o n).toPV=none:=_root_.id rfl
theorem Fi (cs:List AV):(AV.agg cs).toPV=none:=_root_.id rfl
theorem Fe (cs:List AV):(AV.tup cs).toPV=none:=_root_.id rfl
theorem Fh (f:Nat)(a b:List AV):(AV.clo f a b).toPV=none:=_root_.id rfl
def B9 (cs:List AV):Option (List PV)->AV
 | some ps=>.pv (.agg ps)
 | none=>.agg cs
theorem LB (cs:List AV):jc cs=B9 cs (pvs cs):=by unfold jc;cases pvs cs<;>rfl
theorem rN (cs:List AV)(ps:List PV):B9 cs (some ps) = .pv (.agg ps):=_root_.id rfl
theorem rO (cs:List AV):B9 cs none = .agg cs:=_root_.id rfl
def B7 (cs:List AV):Option (List PV)->AV
 | some ps=>.pv (.tup ps)
 | none=>.tup cs
theorem Lz (cs:List AV):oX cs=B7 cs (pvs cs):=by unfold oX;cases pvs cs<;>rfl
theorem rI (cs:List AV)(ps:List PV):B7 cs (some ps) = .pv (.tup ps):=_root_.id rfl
theorem rJ (cs:List AV):B7 cs none = .tup cs:=_root_.id rfl
def oZ (f:Nat)(fs cs:List AV):Option (List PV)->Option (List PV)->AV
 | some a,some b=>.pv (.clo f a b)
 | _,_=>.clo f fs cs
theorem LA (f:Nat)(fs cs:List AV):rM f fs cs=oZ f fs cs (pvs fs) (pvs cs):=by unfold rM oZ;cases pvs fs<;>cases pvs cs<;>rfl
theorem rK (f:Nat)(fs cs:List AV)(a b:List PV):oZ f fs cs (some a) (some b) = .pv (.clo f a b):=_root_.id rfl
theorem rL (f:Nat)(fs cs:List AV)(a:Option (List PV)):oZ f fs cs a none = .clo f fs cs:=by cases a<;>rfl
theorem oY (f:Nat)(fs cs:List AV)(a:Option (List PV)):oZ f fs cs none a = .clo f fs cs:=by cases a<;>rfl
theorem DX (p:PV):(AV.pv p).cells=p.cells.map .pv:=_root_.id rfl
theorem xZ (cs:List AV):(AV.agg cs).cells=cs:=_root_.id rfl
theorem xV (cs:List AV):(AV.tup cs).cells=[.tup cs]:=_root_.id rfl
theorem xX (r o:Nat):(AV.ptr r o).cells=[.ptr r o]:=_root_.id rfl
theorem xW (r s o n:Nat):(AV.row r s o n).cells=[.row r s o n]:=_root_.id rfl
theorem pP (r s:Nat)(l:List PV):(AV.olist r s l).cells=[.olist r s l]:=_root_.id rfl
theorem xY (f:Nat)(a b:List AV):(AV.clo f a b).cells=[.clo f a b]:=_root_.id rfl
theorem ae (cs:List PV):(PV.agg cs).cells=cs:=_root_.id rfl
theorem xU (b:Bool):(PV.bool b).cells=[.bool b]:=_root_.id rfl
theorem DV (k:IntKind)(n:Int):(PV.int k n).cells=[.int k n]:=_root_.id rfl
theorem DT (s:List UInt8):(PV.str s).cells=[.str s]:=_root_.id rfl
theorem xO:PV.nils.cells=[.nils]:=_root_.id rfl
theorem xR (l:List PV):(PV.list l).cells=[.list l]:=_root_.id rfl
theorem xP:PV.nilp.cells=[.nilp]:=_root_.id rfl
theorem xQ:PV.nilf.cells=[.nilf]:=_root_.id rfl
theorem DW (f:Nat)(a b:List PV):(PV.clo f a b).cells=[.clo f a b]:=_root_.id rfl
theorem xT (l:List PV)(i o:Nat):(PV.eptr l i o).cells=[.eptr l i o]:=_root_.id rfl
theorem xS (g o:Nat):(PV.gptr g o).cells=[.gptr g o]:=_root_.id rfl
def LL (g:Bool)(sz o:Nat):Blk->Option AV
 | .cells _ _ l=>cY g sz o l
 | _=>none
theorem rZ (g:Bool)(sz o T:Nat)(f:Bool)(l:List AV):LL g sz o (.cells T f l)=cY g sz o l:=_root_.id rfl
def LH (g:Bool)(sz o:Nat):Option PV->Option AV
 | some e=>lr g sz o e
 | none=>none
theorem wM (g:Bool)(sz o:Nat)(e:PV):LH g sz o (some e)=lr g sz o e:=_root_.id rfl
theorem A4 (G:Nat->List PV)(g:Bool)(sz:Nat)(σ:ap)(r o:Nat):ef G g sz σ (.ptr r o)=LL g sz o (σ r):=by
 simp only[ef,LL];cases σ r<;>rfl
theorem vL (G:Nat->List PV)(g:Bool)(sz:Nat)(σ:ap)(l:List PV)(i o:Nat):ef G g sz σ (.pv (.eptr l i o))=LH g sz o l[i]?:=by
 simp only[ef,LH];cases l[i]? <;> rfl
theorem vK (G:Nat->List PV)(g:Bool)(sz:Nat)(σ:ap)(b o:Nat):ef G g sz σ (.pv (.gptr b o))=cY g sz o ((G b).map .pv):=_root_.id rfl
theorem LK (sz o:Nat)(e:PV):lr false sz o e=cY false sz o (e.cells.map .pv):=by simp[lr]
theorem LJ {sz o:Nat}{cs:List PV}(h:0<o):lr true sz o (.agg cs)=cY true sz o (cs.map .pv):=by
 simp[lr,PV.cells];omega
def lD (e:List (Nat×AV))(σ:List (Nat×Blk))(new:Nat):XOp->Option (AV×List (Nat×Blk))
 | .noesc x=>some (evE e x,[])
 | .ucast u n b x=>(e5 u n b (fun r=>lookB r σ) (evE e x)).map fun v=>(v,[])
 | .peq ng x y=>(K0 ng (evE e x) (evE e y)).map fun v=>(v,[])
 | .apps t by_ x y=>lm t by_ new (fun r=>lookB r σ) (evE e x) (evE e y)
 | .sdata x=>(gr (evE e x)).map fun v=>(v,[])
 | .ustr t x k=>oz t (fun r=>lookB r σ) (evE e x) (evE e k)
 | .ofStr x=>dJ new (evE e x)
 | .inil ng x y=>(oB ng (evE e x) (evE e y)).map fun v=>(v,[])
 | .idxb x y=>(qX (evE e x) (evE e y)).map fun v=>(v,[])
 | .same x=>AY (fun r=>lookB r σ) (evE e x)
theorem JO (e:List (Nat×AV))(σ:List (Nat×Blk))(n new:Nat)(o:XOp):o.run new (St.E ⟨e,σ,n⟩) (St.σ ⟨e,σ,n⟩)=lD e σ new o:=by
 cases o<;>simp only[XOp.run,lD,jf,HR]<;>rfl
def m7 (G:Nat->List PV)(e:List (Nat×AV))(σ:List (Nat×Blk))(new:Nat):MOp->Option (AV×List (Nat×Blk))
 | .alloc T zs=>some (.ptr new 0,[(new,.cells T true (zs.map .pv))])
 | .box T x=>if (evE e x).known=true then some (.ptr new 0,[(new,.cells T true (evE e x).cells)]) else none
 | .cbox T x=>match (evE e x).toPV with
   | some p=>if p.cells.all PV.one=true then some (.pv (.eptr [p] 0 0),[(new,.none)]) else none
   | none=>none
 | .load g sz x=>(ef G g sz (fun r=>lookB r σ) (evE e x)).map fun v=>(v,[])
 | .store sz x v=>(gq sz (fun r=>lookB r σ) (evE e x) (evE e v)).map fun d=>(.pv .undef,d)
 | .toStr x=>(eG (fun r=>lookB r σ) (evE e x)).map fun v=>(v,[])
 | .xop o=>lD e σ new o
 | .bslice mu t sz len xs=>cW mu t sz len new (evL e xs)
 | .append mu t sz by_ x y=>dx mu t sz by_ new (fun r=>lookB r σ) (evE e x) (evE e y)
 | .mk mu t sz by_ zs x y=>rMk mu t sz by_ zs new (evE e x) (evE e y)
theorem Cd (G:Nat->List PV)(e:List (Nat×AV))(σ:List (Nat×Blk))(n new:Nat)(o:MOp):o.run G new (St.E ⟨e,σ,n⟩) (St.σ ⟨e,σ,n⟩)=m7 G e σ new o:=by
 cases o<;>first | (simp only[MOp.run,m7,jf,HR,Ps]<;>rfl) | exact JO e σ n new _
def gV (δ:List (Nat×Blk)):Option AV->Option (AV×List (Nat×Blk))
 | some v=>some (v,δ)
 | none=>none
theorem uS (δ:List (Nat×Blk))(v:AV):gV δ (some v)=some (v,δ):=_root_.id rfl
def NK (v:AV):Option (List (Nat×Blk))->Option (AV×List (Nat×Blk))
 | some δ=>some (v,δ)
 | none=>none
theorem uR (δ:List (Nat×Blk))(v:AV):NK v (some δ)=some (v,δ):=_root_.id rfl
theorem wF (G:Nat->List PV)(e:List (Nat×AV))(σ:List (Nat×Blk))(new T:Nat)(zs:List PV):m7 G e σ new (.alloc T zs)=some (.ptr new 0,[(new,.cells T true (zs.map .pv))]):=_root_.id rfl
def TQ (new T:Nat)(v:AV):Bool->Option (AV×List (Nat×Blk))
 | true=>some (.ptr new 0,[(new,.cells T true v.cells)])
 | false=>none
theorem Qk (new T:Nat)(v:AV):TQ new T v true=some (.ptr new 0,[(new,.cells T true v.cells)]):=_root_.id rfl
theorem G8 (G:Nat->List PV)(e:List (Nat×AV))(σ:List (Nat×Blk))(new T:Nat)(x:AX):m7 G e σ new (.box T x)=TQ new T (evE e x) (evE e x).known:=by
 simp only[m7];cases (evE e x).known<;>rfl
def MI (new:Nat):Option PV->Option (AV×List (Nat×Blk))
 | some p=>if p.cells.all PV.one=true then some (.pv (.eptr [p] 0 0),[(new,.none)]) else none
 | none=>none
theorem x8 (new:Nat)(p:PV):MI new (some p)=if p.cells.all PV.one=true then some (.pv (.eptr [p] 0 0),[(new,.none)]) else none:=_root_.id rfl
theorem Ce (G:Nat->List PV)(e:List (Nat×AV))(σ:List (Nat×Blk))(new T:Nat)(x:AX):m7 G e σ new (.cbox T x)=MI new (evE e x).toPV:=by
 simp only[m7,MI]
theorem Hi (p:PV):(AV.pv p).known=true:=_root_.id rfl
theorem Cs (cs:List AV):(AV.agg cs).known=true:=_root_.id rfl
theorem Co (cs:List AV):(AV.tup cs).known=true:=_root_.id rfl
theorem Cq (r o:Nat):(AV.ptr r o).known=true:=_root_.id rfl
theorem Cp (r s o n:Nat):(AV.row r s o n).known=true:=_root_.id rfl
theorem r4 (r s:Nat)(l:List PV):(AV.olist r s l).known=true:=_root_.id rfl
theorem Cr (f:Nat)(a b:List AV):(AV.clo f a b).known=true:=_root_.id rfl
theorem Cc (G:Nat->List PV)(e:List (Nat×AV))(σ:List (Nat×Blk))(new:Nat)(g:Bool)(sz:Nat)(x:AX):m7 G e σ new (.load g sz x)=gV [] (ef G g sz (fun r=>lookB r σ) (evE e x)):=by
 simp only[m7];cases ef G g sz (fun r=>lookB r σ) (evE e x)<;>rfl
theorem wE (G:Nat->List PV)(e:List (Nat×AV))(σ:List (Nat×Blk))(new sz:Nat)(x v:AX):m7 G e σ new (.store sz x v)=NK (.pv .undef) (gq sz (fun r=>lookB r σ) (evE e x) (evE e v)):=by
 simp only[m7];cases gq sz (fun r=>lookB r σ) (evE e x) (evE e v)<;>rfl
theorem rV (G:Nat->List PV)(e:List (Nat×AV))(σ:List (Nat×Blk))(new:Nat)(mu:Bool)(t sz len:Nat)(xs:List AX):m7 G e σ new (.bslice mu t sz len xs)=cW mu t sz len new (evL e xs):=_root_.id rfl
theorem rW (G:Nat->List PV)(e:List (Nat×AV))(σ:List (Nat×Blk))(new:Nat)(mu:Bool)(t sz by_:Nat)(x y:AX):m7 G e σ new (.append mu t sz by_ x y)=dx mu t sz by_ new (fun r=>lookB r σ) (evE e x) (evE e y):=_root_.id rfl
theorem LE (G:Nat->List PV)(e:List (Nat×AV))(σ:List (Nat×Blk))(new:Nat)(mu:Bool)(t sz by_:Nat)(zs:List PV)(x y:AX):m7 G e σ new (.mk mu t sz by_ zs x y)=rMk mu t sz by_ zs new (evE e x) (evE e y):=_root_.id rfl
theorem K1 {e sz by_:Nat}{zs:List PV}{new:Nat}{k k':IntKind}{c:Int}(h:0<=c)(h1:(by_:Int)*c<=281474976710656)(h2:c<=9223372036854775807):rMk false e sz by_ zs new (.pv (.int k 0)) (.pv (.int k' c))=some (.olist new sz [],[(new,.tok e sz)]):=by
 simp[rMk,h,h1,h2]
def s8 (sz r o:Nat)(v:AV):Blk->Option (List (Nat×Blk))
 | .cells T f l=>if v.known=true/\v.cells.length=sz/\v.cells.all AV.one=true/\o+sz<=l.length then some [(r,.cells T f (l.take o++v.cells++l.drop (o+sz)))] else none
 | _=>none
theorem vF (sz:Nat)(σ:ap)(r o:Nat)(v:AV):gq sz σ (.ptr r o) v=s8 sz r o v (σ r):=by
 simp only[gq,s8];cases σ r<;>rfl
def og (r T:Nat)(f:Bool)(l:List AV)(sz o:Nat)(cs:List AV):Bool->Option (List (Nat×Blk))
 | true=>some [(r,.cells T f (l.take o++cs++l.drop (o+sz)))]
 | false=>none
theorem oh (sz r o:Nat)(v:AV)(T:Nat)(f:Bool)(l:List AV):s8 sz r o v (.cells T f l)=og r T f l sz o v.cells (v.known&&decide (v.cells.length=sz)&&v.cells.all AV.one&&decide (o+sz<=l.length)):=by
 simp only[s8]
 by_cases h:v.known=true/\v.cells.length=sz/\v.cells.all AV.one=true/\o+sz<=l.length
 ·rw[if_pos h]
  have:(v.known&&decide (v.cells.length=sz)&&v.cells.all AV.one&&decide (o+sz<=l.length))=true:=by simp only[Bool.and_eq_true,decide_eq_true_eq];exact⟨⟨⟨h.1,h.2.1⟩,h.2.2.1⟩,h.2.2.2⟩
  rw[this];rfl
 ·rw[if_neg h]
  have:(v.known&&decide (v.cells.length=sz)&&v.cells.all AV.one&&decide (o+sz<=l.length))=false:=by
   rw[Bool.eq_false_iff]
   intro hh
   simp only[Bool.and_eq_true,decide_eq_true_eq] at hh
   exact h ⟨hh.1.1.1,hh.1.1.2,hh.1.2,hh.2⟩
  rw[this];rfl
theorem Fz (r T:Nat)(f:Bool)(l:List AV)(sz o:Nat)(cs:List AV):og r T f l sz o cs true=some [(r,.cells T f (l.take o++cs++l.drop (o+sz)))]:=_root_.id rfl
theorem eW {n m by_:Nat}(h1:n+m<=9223372036854775807)(h2:(n+m)*by_<=140737488355328):nQ n m by_=true:=by
 simp[nQ,h1,h2]
theorem E4 (l:List (Nat×Blk)):mG l []=l:=_root_.id rfl
theorem zE (l:List (Nat×Blk))(p:Nat×Blk)(r:List (Nat×Blk)):mG l (p::r)=mG (p::l) r:=_root_.id rfl
theorem H2 (f:Nat)(a b:List PV):df (.pv (.clo f a b))=some (f,a.map .pv,b.map .pv):=_root_.id rfl
theorem H3 (f:Nat)(a b:List AV):df (.clo f a b)=some (f,a,b):=_root_.id rfl
theorem Lk {α:Type}(a:α)(k:α->Prop):aJ (some a) k=k a:=_root_.id rfl
section
variable {P:Program}{G:Nat->List PV}
theorem GR (F:St->Prop)(e:List (Nat×AV))(σ:List (Nat×Blk))(n d:Nat)(v:AV):GS F ⟨e,σ,n⟩ (some d) v=F ⟨(d,v)::e,σ,n⟩:=_root_.id rfl
theorem GQ (F:St->Prop)(e:List (Nat×AV))(σ:List (Nat×Blk))(n:Nat)(v:AV):GS F ⟨e,σ,n⟩ none v=F ⟨e,σ,n⟩:=_root_.id rfl
theorem GU (F:St->Prop)(e:List (Nat×AV))(σ:List (Nat×Blk))(n d:Nat)(v:AV)(δ:List (Nat×Blk)):wo F ⟨e,σ,n⟩ (some d) (v,δ)=F ⟨(d,v)::e,mG σ δ,n+1⟩:=_root_.id rfl
theorem GT (F:St->Prop)(e:List (Nat×AV))(σ:List (Nat×Blk))(n:Nat)(v:AV)(δ:List (Nat×Blk)):wo F ⟨e,σ,n⟩ none (v,δ)=F ⟨e,mG σ δ,n+1⟩:=_root_.id rfl
theorem GW (F:St->Prop)(e:List (Nat×AV))(σ:List (Nat×Blk))(n d:Nat)(v:AV):GX F (some d) v ⟨e,σ,n⟩=F ⟨(d,v)::e,σ,n⟩:=_root_.id rfl
theorem GV (F:St->Prop)(e:List (Nat×AV))(σ:List (Nat×Blk))(n:Nat)(v:AV):GX F none v ⟨e,σ,n⟩=F ⟨e,σ,n⟩:=_root_.id rfl
theorem H8 (args:List AV)(s:St)(K:AV->St->Prop)(f:Nat)(a b:List AV):D1 P G args s K (f,a,b)=ab P G f (a++args++b) s K:=_root_.id rfl
theorem zq (F:St->Prop)(s:St):di P G [] F s=F s:=_root_.id rfl
theorem uV (d:Option Nat)(o:AOp)(r:List AOper)(F:St->Prop)(s:St):di P G (⟨d,o,none⟩::r) F s=lk P G (di P G r F) s d o:=_root_.id rfl
def jG (b:Bool):AV->Option Bool
 | .pv (.bool x)=>some (x == b)
 | .pv .undef=>some false
 | _=>none
theorem zh (x:Bool):jG true (.pv (.bool x))=some x:=by cases x<;>rfl
theorem zj (x:Bool):jG false (.pv (.bool x))=some (!x):=by cases x<;>rfl
theorem zg (b:Bool):jG b (.pv .undef)=some false:=_root_.id rfl
theorem qx (d:Option Nat)(o:AOp)(i:Nat)(b:Bool)(r:List AOper)(F:St->Prop)(e:List (Nat×AV))(σ:List (Nat×Blk))(n:Nat) :
  di P G (⟨d,o,some (i,b)⟩::r) F ⟨e,σ,n⟩=aJ (jG b (look i e)) (Jp P G (di P G r F) ⟨e,σ,n⟩ d o):=_root_.id rfl
theorem Dy (F:St->Prop)(s:St)(d:Option Nat)(o:AOp):Jp P G F s d o true=lk P G F s d o:=_root_.id rfl
theorem xx (F:St->Prop)(e:List (Nat×AV))(σ:List (Nat×Blk))(n:Nat)(d:Nat)(o:AOp):Jp P G F ⟨e,σ,n⟩ (some d) o false=F ⟨(d,.pv .undef)::e,σ,n⟩:=_root_.id rfl
theorem sn (F:St->Prop)(s:St)(o:AOp):Jp P G F s none o false=F s:=_root_.id rfl
def OQ (k:AV->Prop):AV->Prop
 | .pv (.list [])=>∀ b:Bool,k (.pv (.bool b))
 | _=>False
def mY (x:Option AV)(k:AV->Prop)(e:List (Nat×AV))(o:TOp):Prop:=
 match x with
 | some v=>k v
 | none=>match o with
   | .beq 2 _ y (.c .nils)=>OQ k (evE e y)
   | _=>False
theorem oI (v:AV)(k:AV->Prop)(e:List (Nat×AV))(o:TOp):mY (some v) k e o=k v:=_root_.id rfl
theorem oJ (k:AV->Prop)(e:List (Nat×AV))(ng:Bool)(y:AX):mY none k e (.beq 2 ng y (.c .nils))=OQ k (evE e y):=_root_.id rfl
theorem GM (k:AV->Prop):OQ k (.pv (.list [])) = ∀ b:Bool,k (.pv (.bool b)):=_root_.id rfl
theorem Gq (ng:Bool):Gr ng (rg 2 (.pv (.list [])) (.pv .nils))=none:=_root_.id rfl
theorem Px (F:St->Prop)(e:List (Nat×AV))(σ:List (Nat×Blk))(n:Nat)(d:Option Nat)(o:TOp):lk P G F ⟨e,σ,n⟩ d (.t o)=mY (gX e o) (GS F ⟨e,σ,n⟩ d) e o:=by
 rw[<- Ad e σ n]
 show ip (o.run (St.E ⟨e,σ,n⟩)) _ _=_
 cases hr:o.run (St.E ⟨e,σ,n⟩) with
 | some v=>rfl
 | none=>
   simp only[ip,mY]
   refine propext ⟨fun h=>?_,fun h=>?_⟩
   ·obtain⟨h1,h2⟩:=h
    unfold nilB at h1
    split at h1
    ·split at h1
     ·rename_i hev
      rw[jf] at hev
      show OQ _ _
      rw[hev];exact h2
     ·cases h1
    ·cases h1
   ·split at h
    ·rename_i y
     unfold OQ at h
     split at h
     ·rename_i hev
      refine⟨?_,h⟩
      simp only[nilB]
      rw[jf,hev]
     ·exact h.elim
    ·exact h.elim
theorem Py (F:St->Prop)(e:List (Nat×AV))(σ:List (Nat×Blk))(n:Nat)(d:Option Nat)(o:MOp):lk P G F ⟨e,σ,n⟩ d (.m o)=aJ (m7 G e σ n o) (wo F ⟨e,σ,n⟩ d):=by
 rw[<- Cd G e σ n];rfl
theorem Dx (F:St->Prop)(e:List (Nat×AV))(σ:List (Nat×Blk))(n:Nat)(d:Option Nat)(f:AX)(xs:List AX):lk P G F ⟨e,σ,n⟩ d (.call f xs)=aJ (df (evE e f)) (D1 P G (evL e xs) ⟨e,σ,n⟩ (GX F d)):=by
 rw[<- jf e σ n,<- Dh e σ n];rfl
theorem FC (F:List (List Nat×List Nat)->St->Prop)(T:List (List Nat×List Nat))(e:List (Nat×AV))(σ:List (Nat×Blk))(n d:Nat)(v:AV):Ak F T ⟨e,σ,n⟩ (some d) v=F (T++[([],[])]) ⟨(d,v)::e,σ,n⟩:=_root_.id rfl
theorem FB (F:List (List Nat×List Nat)->St->Prop)(T:List (List Nat×List Nat))(e:List (Nat×AV))(σ:List (Nat×Blk))(n:Nat)(v:AV):Ak F T ⟨e,σ,n⟩ none v=F (T++[([],[])]) ⟨e,σ,n⟩:=_root_.id rfl
theorem FE (F:List (List Nat×List Nat)->St->Prop)(T:List (List Nat×List Nat))(e:List (Nat×AV))(σ:List (Nat×Blk))(n d k:Nat)(rd:List Nat)(v:AV)(δ:List (Nat×Blk)):stepM F T ⟨e,σ,n⟩ (some d) k rd (v,δ)=F (T++[eU k (aR δ) rd]) ⟨(d,v)::e,mG σ δ,n+1⟩:=_root_.id rfl
theorem FD (F:List (List Nat×List Nat)->St->Prop)(T:List (List Nat×List Nat))(e:List (Nat×AV))(σ:List (Nat×Blk))(n k:Nat)(rd:List Nat)(v:AV)(δ:List (Nat×Blk)):stepM F T ⟨e,σ,n⟩ none k rd (v,δ)=F (T++[eU k (aR δ) rd]) ⟨e,mG σ δ,n+1⟩:=_root_.id rfl
theorem am {F:List (List Nat×List Nat)->St->Prop}{T:List (List Nat×List Nat)}{e:List (Nat×AV)}{σ:List (Nat×Blk)}{n d:Nat}{f:Nat}{a b args:List AV}{ps:List PV}{r:PV}(h:ag P G f ps r)(he:pvs (a++args++b)=some ps)
  (hk:F (T++[([],[])]) ⟨(d,.pv r)::e,σ,n⟩):mz P G F T ⟨e,σ,n⟩ (some d) args (f,a,b):=.inl ⟨ps,r,he,h,hk⟩
theorem Oj (ks rs:List Nat):eU 0 ks rs=(ks.map (· + 1),rs.map (· + 1)):=_root_.id rfl
theorem Oi (ks rs:List Nat):eU 1 ks rs=(ks.map (· + 1),0::rs.map (· + 1)):=_root_.id rfl
theorem Oh (ks rs:List Nat):eU 2 ks rs=(0::ks.map (· + 1),rs.map (· + 1)):=_root_.id rfl
theorem rR (g:Bool)(sz:Nat)(x:AX):bq (.load g sz x)=0:=_root_.id rfl
theorem pc (sz:Nat)(x v:AX):bq (.store sz x v)=0:=_root_.id rfl
theorem o9 (x:AX):bq (.toStr x)=0:=_root_.id rfl
theorem pg (T:Nat)(z:List PV):bq (.alloc T z)=1:=_root_.id rfl
theorem wC (T:Nat)(x:AX):bq (.box T x)=1:=_root_.id rfl
theorem rT (T:Nat)(x:AX):bq (.cbox T x)=1:=_root_.id rfl
theorem m5 (m:Bool)(e s l:Nat)(x:List AX):bq (.bslice m e s l x)=1:=_root_.id rfl
theorem m6 (m:Bool)(e s l:Nat)(x y:AX):bq (.append m e s l x y)=1:=_root_.id rfl
theorem Cb (m:Bool)(e s l:Nat)(z:List PV)(x y:AX):bq (.mk m e s l z x y)=1:=_root_.id rfl
theorem JY {A:List (List Nat)}{F:St->Prop}{T:List (List Nat×List Nat)}{s:St}(h:Chk (okB A T)):vcD P G A F [] T s=F s:=by
 show (okB A T=true/\F s)=F s
 rw[eq_iff_iff]
 exact⟨fun x=>x.2,fun x=>⟨h,x⟩⟩
theorem E0 (A:List (List Nat))(F:St->Prop)(d:Option Nat)(o:AOp)(r:List AOper)(T:List (List Nat×List Nat))(s:St):vcD P G A F (⟨d,o,none⟩::r) T s=gJ P G (vcD P G A F r) T s d o:=_root_.id rfl
theorem zr (A:List (List Nat))(F:St->Prop)(d:Option Nat)(o:AOp)(i:Nat)(b:Bool)(r:List AOper)(T:List (List Nat×List Nat))(e:List (Nat×AV))(σ:List (Nat×Blk))(n:Nat) :
  vcD P G A F (⟨d,o,some (i,b)⟩::r) T ⟨e,σ,n⟩=aJ (jG b (look i e)) (pH P G (vcD P G A F r) T ⟨e,σ,n⟩ d o):=_root_.id rfl
theorem xy (F:List (List Nat×List Nat)->St->Prop)(T:List (List Nat×List Nat))(s:St)(d:Option Nat)(o:AOp):pH P G F T s d o true=gJ P G F T s d o:=_root_.id rfl
theorem sq (F:List (List Nat×List Nat)->St->Prop)(T:List (List Nat×List Nat))(e:List (Nat×AV))(σ:List (Nat×Blk))(n:Nat)(d:Nat)(o:AOp):pH P G F T ⟨e,σ,n⟩ (some d) o false=F (T++[([],[])]) ⟨(d,.pv .undef)::e,σ,n⟩:=_root_.id rfl
theorem pG (F:List (List Nat×List Nat)->St->Prop)(T:List (List Nat×List Nat))(s:St)(o:AOp):pH P G F T s none o false=F (T++[([],[])]) s:=_root_.id rfl
theorem Mq (F:List (List Nat×List Nat)->St->Prop)(T:List (List Nat×List Nat))(e:List (Nat×AV))(σ:List (Nat×Blk))(n:Nat)(d:Option Nat)(o:TOp):gJ P G F T ⟨e,σ,n⟩ d (.t o)=aJ (gX e o) (Ak F T ⟨e,σ,n⟩ d):=by
 rw[<- Ad e σ n];rfl
def fJ (e:List (Nat×AV)):XOp->List Nat
 | .ucast _ _ _ x | .apps _ _ x _ | .ustr _ x _ | .same x=>(evE e x).name
 | .noesc _ | .peq _ _ _ | .sdata _ | .ofStr _ | .inil _ _ _ | .idxb _ _=>[]
def dR (e:List (Nat×AV)):MOp->List Nat
 | .xop o=>fJ e o
 | .load _ _ x | .toStr x=>(evE e x).name
 | .append _ _ _ _ x y=>(evE e x).name++(evE e y).name
 | .store _ x _=>(evE e x).name
 | .alloc _ _ | .box _ _ | .cbox _ _ | .bslice _ _ _ _ _ | .mk _ _ _ _ _ _ _=>[]
theorem Cf (e:List (Nat×AV))(mu:Bool)(t sz b:Nat)(zs:List PV)(x y:AX):dR e (.mk mu t sz b zs x y)=[]:=_root_.id rfl
theorem ph (e:List (Nat×AV))(x:AX):dR e (.toStr x)=(evE e x).name:=_root_.id rfl
theorem rX (e:List (Nat×AV))(g:Bool)(sz:Nat)(x:AX):dR e (.load g sz x)=(evE e x).name:=_root_.id rfl
theorem wG (e:List (Nat×AV))(T:Nat)(x:AX):dR e (.box T x)=[]:=_root_.id rfl
theorem rY (e:List (Nat×AV))(T:Nat)(x:AX):dR e (.cbox T x)=[]:=_root_.id rfl
theorem pj (e:List (Nat×AV))(T:Nat)(x:List PV):dR e (.alloc T x)=[]:=_root_.id rfl
theorem pi (e:List (Nat×AV))(sz:Nat)(x v:AX):dR e (.store sz x v)=(evE e x).name:=_root_.id rfl
theorem m9 (e:List (Nat×AV))(mu:Bool)(t sz b:Nat)(x y:AX):dR e (.append mu t sz b x y)=(evE e x).name++(evE e y).name:=_root_.id rfl
theorem m8 (e:List (Nat×AV))(mu:Bool)(t sz b:Nat)(x:List AX):dR e (.bslice mu t sz b x)=[]:=_root_.id rfl
theorem Lx (p:PV):(AV.pv p).name=[]:=_root_.id rfl
theorem G1 (r o:Nat):(AV.ptr r o).name=[r]:=_root_.id rfl
theorem G0 (r s o n:Nat):(AV.row r s o n).name=[r]:=_root_.id rfl
theorem ww (r s:Nat)(l:List PV):(AV.olist r s l).name=[r]:=_root_.id rfl
theorem Cv:aR ([]:List (Nat×Blk))=[]:=_root_.id rfl
theorem wS (r:Nat)(B:Blk)(q:List (Nat×Blk)):aR ((r,B)::q)=r::aR q:=_root_.id rfl
theorem Mr (F:List (List Nat×List Nat)->St->Prop)(T:List (List Nat×List Nat))(e:List (Nat×AV))(σ:List (Nat×Blk))(n:Nat)(d:Option Nat)(o:MOp):gJ P G F T ⟨e,σ,n⟩ d (.m o)=aJ (m7 G e σ n o) (stepM F T ⟨e,σ,n⟩ d (bq o) (dR e o)):=by
 have:dR e o=o.reads (St.E ⟨e,σ,n⟩):=by
  cases o<;>simp only[dR,MOp.reads,jf]
  rename_i o
  cases o<;>simp only[fJ,XOp.reads,jf]
 rw[<- Cd G e σ n,this];rfl
theorem xw (F:List (List Nat×List Nat)->St->Prop)(T:List (List Nat×List Nat))(e:List (Nat×AV))(σ:List (Nat×Blk))(n:Nat)(d:Option Nat)(f:AX)(xs:List AX):gJ P G F T ⟨e,σ,n⟩ d (.call f xs)=aJ (df (evE e f)) (mz P G F T ⟨e,σ,n⟩ d (evL e xs)):=by
 rw[<- jf e σ n,<- Dh e σ n];rfl
def xM (e:List (Nat×AV)):List Nat->List (Nat×AV)
 | []=>[]
 | k::r=>(k,look k e)::xM e r
theorem DK (e:List (Nat×AV)):xM e []=[]:=_root_.id rfl
theorem xL (e:List (Nat×AV))(k:Nat)(r:List Nat):xM e (k::r)=(k,look k e)::xM e r:=_root_.id rfl
theorem uo (e:List (Nat×AV))(σ:List (Nat×Blk))(n:Nat):∀ (l:List Nat),l.map (fun i=>(i,St.E ⟨e,σ,n⟩ i))=xM e l
 | []=>rfl
 | k::r=>by rw[List.map_cons,uo e σ n r];rfl
theorem DL (seen:List Nat):i6 seen []=[]:=_root_.id rfl
theorem xN (seen:List Nat)(k:Nat)(b:Blk)(r:List (Nat×Blk)):i6 seen ((k,b)::r)=xH k b (i6 (k::seen) r) (tI k seen):=_root_.id rfl
theorem Mx (k:Nat)(b:Blk)(r:List (Nat×Blk)):xH k b r true=r:=_root_.id rfl
theorem My (k:Nat)(b:Blk)(r:List (Nat×Blk)):xH k b r false=(k,b)::r:=_root_.id rfl
theorem G7 (k:Nat):tI k []=false:=_root_.id rfl
theorem OT (k j:Nat)(r:List Nat):tI k (j::r)=if j=k then true else tI k r:=_root_.id rfl
theorem GK (Q:AExit->St->Prop)(keep:List Nat)(e:List (Nat×AV))(σ:List (Nat×Blk))(n:Nat):rB Q keep ⟨e,σ,n⟩=Q .norm ⟨xM e keep,i6 [] σ,n⟩:=by
 rw[<- uo e σ n];rfl
theorem EC (F:St->Prop)(Q:AExit->St->Prop)(s:St):JJ F Q .norm s=F s:=_root_.id rfl
theorem ED (F:St->Prop)(Q:AExit->St->Prop)(i:Nat)(s:St):JJ F Q (.exit i) s=Q (.exit i) s:=_root_.id rfl
theorem IB (F:St->Prop)(Q:AExit->St->Prop)(s:St):JJ F Q .ret s=Q .ret s:=_root_.id rfl
theorem sL (id:Nat)(Q:AExit->St->Prop)(s:St):fO id Q .norm s=Q .norm s:=_root_.id rfl
theorem sM (id:Nat)(Q:AExit->St->Prop)(i:Nat)(s:St):fO id Q (.exit i) s=if i=id then Q .norm s else Q (.exit i) s:=_root_.id rfl
theorem yy (id:Nat)(Q:AExit->St->Prop)(s:St):fO id Q .ret s=Q .ret s:=_root_.id rfl
theorem JU (m0:Nat)(Q:AExit->St->Prop)(s:St):vc P G m0 .skip Q s=Q .norm s:=_root_.id rfl
theorem NQ (m0:Nat)(l:List AOper)(keep:List Nat)(Q:AExit->St->Prop)(s:St):vc P G m0 (.ops l keep) Q s=di P G l (rB Q keep) s:=_root_.id rfl
theorem JW (m0:Nat)(A:List (List Nat))(l l2:List AOper)(keep:List Nat)(Q:AExit->St->Prop)(s:St):vc P G m0 (.draw A l l2 keep) Q s=vcD P G A (di P G l2 (rB Q keep)) l [] s:=_root_.id rfl
theorem Mp (F:St->Prop)(e:List (Nat×AV))(σ:List (Nat×Blk))(n:Nat)(d:Option Nat)(g:Option (Bool×Nat))(x:AX):lk P G F ⟨e,σ,n⟩ d (.fz g x)=aJ (Jn G (fun r=>lookB r σ) g (evE e x)) (wo F ⟨e,σ,n⟩ d):=by
 rw[<- jf e σ n];rfl
theorem NO (m0:Nat)(a b:ACode)(Q:AExit->St->Prop)(s:St):vc P G m0 (.seq a b) Q s=vc P G m0 a (JJ (vc P G m0 b Q) Q) s:=_root_.id rfl
theorem JX (m0:Nat)(x:AX)(a b:ACode)(Q:AExit->St->Prop)(e:List (Nat×AV))(σ:List (Nat×Blk))(n:Nat):vc P G m0 (.cond x a b) Q ⟨e,σ,n⟩=oM (evE e x) (vc P G m0 a Q) (vc P G m0 b Q) ⟨e,σ,n⟩:=by
 rw[<- jf e σ n];rfl
theorem EZ (m0 id:Nat)(b:ACode)(Q:AExit->St->Prop)(s:St):vc P G m0 (.block id b) Q s=vc P G m0 b (fO id Q) s:=_root_.id rfl
theorem JV (m0 id:Nat)(Q:AExit->St->Prop)(s:St):vc P G m0 (.exit id) Q s=Q (.exit id) s:=_root_.id rfl
theorem NP (m0:Nat)(Q:AExit->St->Prop)(s:St):vc P G m0 .ret Q s=Q .ret s:=_root_.id rfl
theorem GH (b:Bool)(F H:St->Prop)(s:St):oM (.pv (.bool b)) F H s=ifB b F H s:=by cases b<;>rfl
theorem RX (F H:St->Prop)(s:St):ifB true F H s=F s:=_root_.id rfl
theorem RY (F H:St->Prop)(s:St):ifB false F H s=H s:=_root_.id rfl
def Ou (G:Nat->List PV)(e:List (Nat×AV))(σ:List (Nat×Blk)):ARes->Option AV
 | .tmp t=>some (look t e)
 | .cell t g sz=>ef G g sz (fun r=>lookB r σ) (look t e)
theorem FQ (e:List (Nat×AV))(σ:List (Nat×Blk))(t:Nat):Ou G e σ (.tmp t)=some (look t e):=_root_.id rfl
theorem AC (e:List (Nat×AV))(σ:List (Nat×Blk))(t:Nat)(g:Bool)(sz:Nat):Ou G e σ (.cell t g sz)=ef G g sz (fun r=>lookB r σ) (look t e):=_root_.id rfl
theorem II (res:List ARes)(R:AV->List (Nat×Blk)->Nat->Prop)(s:St):FnK G res R .norm s=aJ (eX G s res) (I1 R s):=_root_.id rfl
theorem M7 (res:List ARes)(R:AV->List (Nat×Blk)->Nat->Prop)(s:St):FnK G res R .ret s=aJ (eX G s res) (I1 R s):=_root_.id rfl
theorem KO (R:AV->List (Nat×Blk)->Nat->Prop)(e:List (Nat×AV))(σ:List (Nat×Blk))(n:Nat)(l:List AV):I1 R ⟨e,σ,n⟩ l=R (yE l) σ n:=_root_.id rfl
theorem Oo (x:AV):yE [x]=x:=_root_.id rfl
theorem Oq:yE [] = .pv (.tup []):=_root_.id rfl
theorem On (x y:AV)(r:List AV):yE (x::y::r)=oX (x::y::r):=_root_.id rfl
def PL:Option AV->Option (List AV)->Option (List AV)
 | some a,some b=>some (a::b)
 | _,_=>none
theorem xI (a:AV)(b:List AV):PL (some a) (some b)=some (a::b):=_root_.id rfl
theorem AB (s:St):eX G s []=some []:=_root_.id rfl
theorem vA (e:List (Nat×AV))(σ:List (Nat×Blk))(n:Nat)(r:ARes)(q:List ARes):eX G ⟨e,σ,n⟩ (r::q)=PL (Ou G e σ r) (eX G ⟨e,σ,n⟩ q):=by
 have:Ot G ⟨e,σ,n⟩ r=Ou G e σ r:=by cases r<;>rfl
 show (match Ot G ⟨e,σ,n⟩ r,eX G ⟨e,σ,n⟩ q with | some a,some b=>some (a::b) | _,_=>none)=_
 rw[this]
 cases Ou G e σ r<;>cases eX G ⟨e,σ,n⟩ q<;>rfl
theorem Gu (r:PV)(v:AV)(σ:List (Nat×Blk))(n:Nat):OD r v σ n=isR r σ v:=_root_.id rfl
theorem O7 (r p:PV)(σ:List (Nat×Blk)):isR r σ (.pv p)=Nz p r:=propext ⟨fun ⟨q,h,g⟩=>by cases h;exact g,fun h=>⟨(p,[]),rfl,h⟩⟩
theorem Cy (r:PV)(k sz:Nat)(l:List PV)(σ:List (Nat×Blk)):isR r σ (.olist k sz l)=Nz (.list l) r:=propext ⟨fun ⟨q,h,g⟩=>by cases h;exact g,fun h=>⟨(.list l,[]),rfl,h⟩⟩
def O9 (r:PV):Option (PV×List Nat)->Prop
 | some q=>Nz q.1 r
 | none=>False
theorem CA (r p:PV)(l:List Nat):O9 r (some (p,l))=Nz p r:=_root_.id rfl
theorem Cz (r:PV)(σ:List (Nat×Blk))(v:AV):isR r σ v=O9 r (r9 (fun r=>lookB r σ) v):=by
 unfold isR O9
 cases r9 (fun r=>lookB r σ) v with
 | none=>simp
 | some q=>simp
theorem LS (r:PV)(cs:List AV)(σ:List (Nat×Blk)):isR r σ (.agg cs)=O9 r ((EM (fun r=>lookB r σ) cs).map fun p=>(.agg p.1,p.2)):=Cz _ _ _
theorem LR (r:PV)(k sz len:Nat)(σ:List (Nat×Blk)):isR r σ (.row k sz 0 len)=O9 r (Jk sz len k (lookB k σ)):=Cz _ _ _
def wW:List AV->Nat->List (Nat×AV)
 | [],_=>[]
 | x::r,k=>(k,x)::wW r (k+1)
theorem CD (k:Nat):wW [] k=[]:=_root_.id rfl
theorem wV (x:AV)(r:List AV)(k:Nat):wW (x::r) k=(k,x)::wW r (k+1):=_root_.id rfl
theorem CC:∀ (args:List AV) (k:Nat),((args.zipIdx k).map fun p=>(p.2,p.1))=wW args k
 | [],k=>rfl
 | x::r,k=>by rw[List.zipIdx_cons,List.map_cons,CC r (k+1)];rfl
theorem wU (args:List AV):dc args=wW args 0:=CC args 0
theorem Rs {ι:Type}(S:ι->St)(Inv:ι->Prop)(μ:ι->Nat)(x0:ι){m0:Nat}{keep:List Nat}{b:ACode}{Q:AExit->St->Prop}{s:St}(h0:Wk m0 s (S x0))(hi:Inv x0)
  (h:∀ x,Inv x->vc P G m0 b (fun e s'=>match e with
   | .norm=>∃ x',Wk m0 s' (S x')/\Inv x'/\μ x'<μ x
   | .exit i=>Q (.exit i) s'
   | .ret=>Q .ret s') (S x)):vc P G m0 (.loop keep b) Q s:=by
 refine⟨fun n s=>∃ x,s=S x/\Inv x/\μ x=n,⟨μ x0,S x0,h0,x0,rfl,hi,rfl⟩,?_⟩
 rintro n s ⟨x,rfl,hx,rfl⟩
 refine cu b (fun e s' hs=>?_) _ (h x hx)
 cases e with
 | norm=>
   obtain⟨x',h1,h2,h3⟩:=hs
   exact⟨_,_,h3,h1,x',rfl,h2,rfl⟩
 | exit i=>exact⟨s',Wk.of (Wx.refl s') m0,hs⟩
 | ret=>exact hs
def Hd (A:List (Nat×Nat×Nat×Nat))(m0:Nat)(keep:List Nat)(s t:St):Prop:=Wk m0 s t
theorem aV {A:List (Nat×Nat×Nat×Nat)}{m0:Nat}{keep:List Nat}{s t:St}(h:StZ (en A m0 keep s) t):Hd A m0 keep s t:=Wk.head h
def mB {ι:Type}(A:List (Nat×Nat×Nat×Nat))(S:ι->St)(Inv:ι->Prop)(μ:ι->Nat)(x:ι)(m0:Nat)(keep:List Nat)(Q:AExit->St->Prop):AExit->St->Prop
 | .norm,s'=>∃ x',Hd A m0 keep s' (S x')/\Inv x'/\μ x'<μ x
 | .exit i,s'=>Q (.exit i) s'
 | .ret,s'=>Q .ret s'
theorem sJ {ι:Type}(A:List (Nat×Nat×Nat×Nat))(S:ι->St)(Inv:ι->Prop)(μ:ι->Nat)(x:ι)(m0:Nat)(keep:List Nat)(Q:AExit->St->Prop)(s:St):mB A S Inv μ x m0 keep Q .norm s = ∃ x',Hd A m0 keep s (S x')/\Inv x'/\μ x'<μ x:=_root_.id rfl
theorem sK {ι:Type}(A:List (Nat×Nat×Nat×Nat))(S:ι->St)(Inv:ι->Prop)(μ:ι->Nat)(x:ι)(m0:Nat)(keep:List Nat)(Q:AExit->St->Prop)(i:Nat)(s:St):mB A S Inv μ x m0 keep Q (.exit i) s=Q (.exit i) s:=_root_.id rfl
theorem yr {ι:Type}(A:List (Nat×Nat×Nat×Nat))(S:ι->St)(Inv:ι->Prop)(μ:ι->Nat)(x:ι)(m0:Nat)(keep:List Nat)(Q:AExit->St->Prop)(s:St):mB A S Inv μ x m0 keep Q .ret s=Q .ret s:=_root_.id rfl
theorem zm {ι:Type}(A:List (Nat×Nat×Nat×Nat))(S:ι->St)(Inv:ι->Prop)(μ:ι->Nat)(x0:ι){m0:Nat}{keep:List Nat}{b:ACode}{Q:AExit->St->Prop}{s:St}(h0:Hd A m0 keep s (S x0))(hi:Inv x0)
  (h:∀ x,Inv x->vc P G m0 b (mB A S Inv μ x m0 keep Q) (S x)):vc P G m0 (.loop keep b) Q s:=by
 refine Rs S Inv μ x0 h0 hi fun x hx=>?_
 have e:(fun (e:AExit) (s':St)=>match e with
   | .norm=>∃ x',Wk m0 s' (S x')/\Inv x'/\μ x'<μ x
   | .exit i=>Q (.exit i) s'
   | .ret=>Q .ret s')=mB A S Inv μ x m0 keep Q:=by
  funext e s'
  cases e<;>rfl
 rw[e];exact h x hx
def vY (k:Nat)(x:AV):List (Nat×AV)->AV
 | []=>x
 | p::r=>if p.1=k then p.2 else vY k x r
def fV:List (Nat×AV)->List (Nat×AV)->List (Nat×AV)
 | [],_=>[]
 | p::r,ch=>(p.1,vY p.1 p.2 ch)::fV r ch
def v7 (k:Nat)(x:Blk):List (Nat×Blk)->Blk
 | []=>x
 | p::r=>if p.1=k then p.2 else v7 k x r
def ij:List (Nat×Blk)->List (Nat×Blk)->List (Nat×Blk)
 | [],_=>[]
 | p::r,ch=>(p.1,v7 p.1 p.2 ch)::ij r ch
theorem Bw (k:Nat)(x:AV):vY k x []=x:=_root_.id rfl
theorem vX (k j:Nat)(x y:AV)(r:List (Nat×AV)):vY k x ((j,y)::r)=if j=k then y else vY k x r:=_root_.id rfl
theorem BF (ch:List (Nat×AV)):fV [] ch=[]:=_root_.id rfl
theorem wc (k:Nat)(x:AV)(r ch:List (Nat×AV)):fV ((k,x)::r) ch=(k,vY k x ch)::fV r ch:=_root_.id rfl
theorem Bx (k:Nat)(x:Blk):v7 k x []=x:=_root_.id rfl
theorem vZ (k j:Nat)(x y:Blk)(r:List (Nat×Blk)):v7 k x ((j,y)::r)=if j=k then y else v7 k x r:=_root_.id rfl
theorem BG (ch:List (Nat×Blk)):ij [] ch=[]:=_root_.id rfl
theorem we (k:Nat)(x:Blk)(r ch:List (Nat×Blk)):ij ((k,x)::r) ch=(k,v7 k x ch)::ij r ch:=_root_.id rfl
theorem az {ι:Type}(A:List (Nat×Nat×Nat×Nat))(ch:ι->List (Nat×AV))(chB:ι->List (Nat×Blk))(Inv:ι->Prop)(μ:ι->Nat)(x0:ι){m0:Nat}{keep:List Nat}{b:ACode}{Q:AExit->St->Prop}{s:St}
  (h:∀ e0 σ0 n0,en A m0 keep s=⟨e0,σ0,n0⟩->StZ ⟨e0,σ0,n0⟩ ⟨fV e0 (ch x0),ij σ0 (chB x0),n0⟩/\Inv x0 /\
   ∀ x,Inv x->vc P G m0 b (mB A (fun x=>⟨fV e0 (ch x),ij σ0 (chB x),n0⟩) Inv μ x m0 keep Q) ⟨fV e0 (ch x),ij σ0 (chB x),n0⟩):vc P G m0 (.loop keep b) Q s:=by
 obtain⟨h1,h2,h3⟩:=h (en A m0 keep s).env (en A m0 keep s).sto (en A m0 keep s).next rfl
 exact zm A (fun x=>⟨fV (en A m0 keep s).env (ch x),ij (en A m0 keep s).sto (chB x),(en A m0 keep s).next⟩) Inv μ x0 (aV h1) h2 h3
end
abbrev dX:=Nat->List AV->List (Nat×Blk)->Nat->Option (AV×List (Nat×Blk)×Nat)
def yJ (call:dX)(G:Nat->List PV)(s:St)(d:Option Nat):AOp->Option St
 | .t o=>match o.run s.E with
   | some v=>some (s.put d v)
   | none=>none
 | .m o=>match o.run G s.next s.E s.σ with
   | some p=>some ((s.mem p.2).put d p.1)
   | none=>none
 | .call f xs=>match df (f.ev s.E) with
   | some p=>match call p.1 (p.2.1++xs.map (·.ev s.E)++p.2.2) s.sto s.next with
     | some r=>some ((⟨s.env,r.2.1,r.2.2⟩:St).put d r.1)
     | none=>none
   | none=>none
 | .fz g x=>match Jn G s.σ g (x.ev s.E) with
   | some p=>some ((s.mem p.2).put d p.1)
   | none=>none
def kJ (call:dX)(G:Nat->List PV):List AOper->St->Option St
 | [],s=>some s
 | o::r,s=>match bI s o.guard with
   | some true=>match yJ call G s o.dst o.op with
     | some s'=>kJ call G r s'
     | none=>none
   | some false=>kJ call G r (s.put o.dst (.pv .undef))
   | none=>none
def By (call:dX)(f:Nat)(ps:List PV):Option PV:=
 match call f (ps.map .pv) [] 0 with
 | some r=>r.1.toPV
 | none=>none
def sk (call:dX)(s:St)(d:Option Nat)(f:Nat)(args:List AV):Option (St×List Nat×List Nat):=
 match pvs args with
 | some ps=>match By call f ps with
   | some r=>some (s.put d (.pv r),[],[])
   | none=>none
 | none=>match call f args s.sto s.next with
   | some r=>some ((⟨s.env,r.2.1,r.2.2⟩:St).put d r.1,eU 2 (aR (r.2.1.take (r.2.1.length - s.sto.length)).reverse) (s.sto.map (·.1)))
   | none=>none
def lu (call:dX)(G:Nat->List PV)(s:St)(d:Option Nat):AOp->Option (St×List Nat×List Nat)
 | .t o=>match o.run s.E with
   | some v=>some (s.put d v,[],[])
   | none=>none
 | .m o=>match o.run G s.next s.E s.σ with
   | some p=>some ((s.mem p.2).put d p.1,eU (bq o) (aR p.2) (o.reads s.E))
   | none=>none
 | .call f xs=>match df (f.ev s.E) with
   | some p=>sk call s d p.1 (p.2.1++xs.map (·.ev s.E)++p.2.2)
   | none=>none
 | .fz _ _=>none
def exD (call:dX)(G:Nat->List PV)(A:List (List Nat)):List AOper->List (List Nat×List Nat)->St->Option St
 | [],T,s=>match okB A T with
   | true=>some s
   | false=>none
 | o::r,T,s=>match bI s o.guard with
   | some true=>match lu call G s o.dst o.op with
     | some q=>exD call G A r (T++[q.2]) q.1
     | none=>none
   | some false=>exD call G A r (T++[([],[])]) (s.put o.dst (.pv .undef))
   | none=>none
def exC (call:dX)(G:Nat->List PV):Nat->ACode->St->Option (AExit×St)
 | 0,_,_=>none
 | _+1,.skip,s=>some (.norm,s)
 | _+1,.ops l keep,s=>match kJ call G l s with
   | some s'=>some (.norm,clip0 keep s')
   | none=>none
 | _+1,.draw A l l2 keep,s=>match exD call G A l [] s with
   | some s1=>match kJ call G l2 s1 with
     | some s'=>some (.norm,clip0 keep s')
     | none=>none
   | none=>none
 | n+1,.seq a b,s=>match exC call G n a s with
   | some (.norm,s')=>exC call G n b s'
   | some (.exit i,s')=>some (.exit i,s')
   | some (.ret,s')=>some (.ret,s')
   | none=>none
 | n+1,.cond x a b,s=>match x.ev s.E with
   | .pv (.bool true)=>exC call G n a s
   | .pv (.bool false)=>exC call G n b s
   | _=>none
 | n+1,.block id b,s=>match exC call G n b s with
   | some (.norm,s')=>some (.norm,s')
   | some (.exit i,s')=>if i=id then some (.norm,s') else some (.exit i,s')
   | some (.ret,s')=>some (.ret,s')
   | none=>none
 | n+1,.loop keep b,s=>match exC call G n b s with
   | some (.norm,s')=>exC call G n (.loop keep b) s'
   | some (.exit i,s')=>some (.exit i,s')
   | some (.ret,s')=>some (.ret,s')
   | none=>none
 | _+1,.range _ _ _ _ _,_=>none
 | _+1,.exit id,s=>some (.exit id,s)
 | _+1,.ret,s=>some (.ret,s)
structure TabRow where
 f:Nat
 muts:List Nat
 fn:AFn
def He (f:Nat):List TabRow->Option AFn
 | []=>none
 | r::q=>if r.f=f then some r.fn else He f q
def wg (G:Nat->List PV)(fn:AFn)(s:St):Option (AV×List (Nat×Blk)×Nat):=
 match eX G s fn.res with
 | some l=>some (yE l,s.sto,s.next)
 | none=>none
def exF (tab:List TabRow)(O:Nat->List PV->Option PV)(G:Nat->List PV)(m:Nat):Nat->dX
 | 0,_,_,_,_=>none
 | n+1,f,args,sto,next=>match (pvs args).bind (O f) with
   | some r=>some (.pv r,sto,next)
   | none=>match He f tab with
     | some fn=>if args.length<=fn.N then match exC (exF tab O G m n) G m fn.body ⟨dc args,sto,next⟩ with
       | some (.norm,s)=>wg G fn s
       | some (.ret,s)=>wg G fn s
       | _=>none
       else none
     | none=>none
section
variable {P:Program}{G:Nat->List PV}
def bp (sto:List (Nat×Blk))(next:Nat)(sto':List (Nat×Blk))(next':Nat):Prop:=(∃ pre,sto'=pre++sto)/\next<=next'
theorem bp.refl (sto:List (Nat×Blk))(next:Nat):bp sto next sto next:=⟨⟨[],rfl⟩,Nat.le_refl _⟩
theorem bp.trans {a b c:List (Nat×Blk)}{i j k:Nat}(h:bp a i b j)(g:bp b j c k):bp a i c k:=by
 obtain⟨⟨p,rfl⟩,h2⟩:=h
 obtain⟨⟨q,rfl⟩,g2⟩:=g
 exact⟨⟨q++p,by simp⟩,Nat.le_trans h2 g2⟩
theorem qC:∀ (δ l:List (Nat×Blk)),mG l δ=δ.reverse++l
 | [],l=>rfl
 | p::r,l=>by rw[mG,qC r];simp
theorem bp.put {s:St}{sto':List (Nat×Blk)}{n:Nat}{e:List (Nat×AV)}(h:bp s.sto s.next sto' n)(d:Option Nat)(v:AV):bp s.sto s.next ((⟨e,sto',n⟩:St).put d v).sto ((⟨e,sto',n⟩:St).put d v).next:=by
 cases d<;>exact h
theorem bp.mem (s:St)(δ:List (Nat×Blk))(d:Option Nat)(v:AV):bp s.sto s.next ((s.mem δ).put d v).sto ((s.mem δ).put d v).next:=by
 have:bp s.sto s.next (mG s.sto δ) (s.next+1):=⟨⟨δ.reverse,qC δ s.sto⟩,Nat.le_succ _⟩
 cases d<;>exact this
theorem bp.put0 (s:St)(d:Option Nat)(v:AV):bp s.sto s.next (s.put d v).sto (s.put d v).next:=by
 cases d<;>exact bp.refl _ _
def fo (P:Program)(G:Nat->List PV)(call:dX):Prop:=
 ∀ f args sto next v sto' next',call f args sto next=some (v,sto',next')->bp sto next sto' next'/\(
   (∃ ps r,pvs args=some ps/\ag P G f ps r/\v = .pv r/\sto'=sto/\next'=next)\/bU P G f args sto next (fun v' s' n'=>v'=v/\s'=sto'/\n'=next'))
theorem bU.mono {f:Nat}{args:List AV}{sto:List (Nat×Blk)}{next:Nat}{Q Q':AV->List (Nat×Blk)->Nat->Prop}(h:bU P G f args sto next Q)(hq:∀ v s n,Q v s n->Q' v s n):bU P G f args sto next Q':=by
 obtain⟨h1,h2⟩:=h
 refine⟨h1,fun κ vals a1 a2 a3 a4=>(h2 κ vals a1 a2 a3 a4).mono ?_⟩
 rintro e w' ⟨u,v,κ',sto',next',b1,b2,b3,b4,b5,b6,b7,b8⟩
 exact⟨u,v,κ',sto',next',b1,b2,b3,b4,b5,b6,b7,hq _ _ _ b8⟩
theorem tq {call:dX}(hc:fo P G call){f:Nat}{ps:List PV}{r:PV}(h:By call f ps=some r):ag P G f ps r:=by
 unfold By at h
 split at h
 ·rename_i q hq
  obtain⟨v,sto',next'⟩:=q
  rcases (hc f _ _ _ v sto' next' hq).2 with ⟨ps',r',h1,h2,rfl,_,_⟩ | ht
  ·rw[pvs_map] at h1
   cases h1
   simp only[AV.toPV,Option.some.injEq] at h
   subst h;exact h2
  ·exact ag.of_tcalls (ht.mono (by rintro v' _ _ ⟨rfl,_,_⟩;exact O8 h))
 ·cases h
theorem Mh {call:dX}(hc:fo P G call){s s':St}{d:Option Nat}{o:AOp}{F:St->Prop}(h:yJ call G s d o=some s')(hF:F s'):lk P G F s d o:=by
 cases o with
 | t o=>
   simp only[yJ] at h
   split at h
   ·rename_i v hv
    cases h
    simp only[lk,hv,ip];exact hF
   ·cases h
 | m o=>
   simp only[yJ] at h
   split at h
   ·rename_i v hv
    cases h
    simp only[lk,hv,aJ];exact hF
   ·cases h
 | fz g x=>
   simp only[yJ] at h
   split at h
   ·rename_i v hv
    cases h
    simp only[lk,hv,aJ];exact hF
   ·cases h
 | call f xs=>
   simp only[yJ] at h
   split at h
   ·rename_i p hp
    split at h
    ·rename_i r hr
     cases h
     obtain⟨v,sto',next'⟩:=r
     simp only[lk,hp,aJ,D1]
     rcases (hc _ _ _ _ v sto' next' hr).2 with ⟨ps,r,h1,h2,rfl,rfl,rfl⟩ | ht
     ·exact ab.pure h2 h1 hF
     ·exact ab.lent ht (by rintro v' s' n' ⟨rfl,rfl,rfl⟩;exact hF)
    ·cases h
   ·cases h
theorem ju {call:dX}(hc:fo P G call){F:St->Prop}:∀ (l:List AOper) (s s':St),kJ call G l s=some s'->F s'->di P G l F s
 | [],s,s',h,hF=>by simp only[kJ,Option.some.injEq] at h;subst h;exact hF
 | o::r,s,s',h,hF=>by
   simp only[kJ] at h
   simp only[di]
   split at h
   ·rename_i hw
    rw[hw]
    split at h
    ·rename_i s1 h1
     exact Mh hc h1 (ju hc r s1 s' h hF)
    ·cases h
   ·rename_i hw
    rw[hw]
    exact ju hc r _ s' h hF
   ·cases h
theorem mm {call:dX}(hc:fo P G call){A:List (List Nat)}{F:St->Prop}:∀ (l:List AOper) (T:List (List Nat×List Nat)) (s s':St),exD call G A l T s=some s'->F s'->vcD P G A F l T s
 | [],T,s,s',h,hF=>by
   simp only[exD] at h
   split at h
   ·rename_i ho
    cases h
    exact⟨ho,hF⟩
   ·cases h
 | o::r,T,s,s',h,hF=>by
   simp only[exD] at h
   simp only[vcD]
   split at h
   ·rename_i hw
    rw[hw]
    simp only[aJ,pH]
    split at h
    ·rename_i q h1
     obtain⟨d,op,g⟩:=o
     simp only at h1 ⊢
     cases op with
     | t o=>
       simp only[lu] at h1
       split at h1
       ·rename_i v hv
        cases h1
        simp only[gJ,hv,aJ,Ak]
        exact mm hc r _ _ s' h hF
       ·cases h1
     | m o=>
       simp only[lu] at h1
       split at h1
       ·rename_i v hv
        cases h1
        simp only[gJ,hv,aJ,stepM]
        exact mm hc r _ _ s' h hF
       ·cases h1
     | fz g x=>simp[lu] at h1
     | call f xs=>
       simp only[lu] at h1
       split at h1
       ·rename_i p hp
        simp only[gJ,hp,aJ]
        unfold sk at h1
        split at h1
        ·rename_i ps hps
         split at h1
         ·rename_i v hv
          cases h1
          exact .inl ⟨ps,v,hps,tq hc hv,mm hc r _ _ s' h hF⟩
         ·cases h1
        ·rename_i hps
         split at h1
         ·rename_i v hv
          cases h1
          obtain⟨v,sto',next'⟩:=v
          obtain⟨⟨⟨pre,hpre⟩,hle⟩,⟨ps',r',k1,_⟩ | ht⟩:=hc _ _ _ _ v sto' next' hv
          ·rw[hps] at k1;cases k1
          ·have e1:mG s.sto (sto'.take (sto'.length - s.sto.length)).reverse=sto':=by
            rw[qC,List.reverse_reverse,hpre]
            simp
           refine .inr ⟨v,(sto'.take (sto'.length - s.sto.length)).reverse,next',?_,hle,?_⟩
           ·rw[e1];exact ht
           ·rw[e1];exact mm hc r _ _ s' h hF
         ·cases h1
       ·cases h1
    ·cases h
   ·rename_i hw
    rw[hw]
    exact mm hc r _ _ s' h hF
   ·cases h
theorem xe {call:dX}(hc:fo P G call){s s':St}{d:Option Nat}{o:AOp}(h:yJ call G s d o=some s'):bp s.sto s.next s'.sto s'.next:=by
 cases o with
 | t o=>
   simp only[yJ] at h
   split at h
   ·cases h;exact bp.put0 _ _ _
   ·cases h
 | m o=>
   simp only[yJ] at h
   split at h
   ·cases h;exact bp.mem _ _ _ _
   ·cases h
 | fz g x=>
   simp only[yJ] at h
   split at h
   ·cases h;exact bp.mem _ _ _ _
   ·cases h
 | call f xs=>
   simp only[yJ] at h
   split at h
   ·split at h
    ·rename_i r hr
     cases h
     obtain⟨v,sto',next'⟩:=r
     exact bp.put (hc _ _ _ _ v sto' next' hr).1 _ _
    ·cases h
   ·cases h
theorem ep {call:dX}(hc:fo P G call):∀ (l:List AOper) (s s':St),kJ call G l s=some s'->bp s.sto s.next s'.sto s'.next
 | [],s,s',h=>by simp only[kJ,Option.some.injEq] at h;subst h;exact bp.refl _ _
 | o::r,s,s',h=>by
   simp only[kJ] at h
   split at h
   ·split at h
    ·rename_i s1 h1
     exact (xe hc h1).trans (ep hc r s1 s' h)
    ·cases h
   ·exact (bp.put0 s _ _).trans (ep hc r _ s' h)
   ·cases h
theorem sh {call:dX}(hc:fo P G call){s:St}{d:Option Nat}{o:AOp}{q:St×List Nat×List Nat}(h:lu call G s d o=some q):bp s.sto s.next q.1.sto q.1.next:=by
 cases o with
 | t o=>
   simp only[lu] at h
   split at h
   ·cases h;exact bp.put0 _ _ _
   ·cases h
 | m o=>
   simp only[lu] at h
   split at h
   ·cases h;exact bp.mem _ _ _ _
   ·cases h
 | fz g x=>simp[lu] at h
 | call f xs=>
   simp only[lu] at h
   split at h
   ·unfold sk at h
    split at h
    ·split at h
     ·cases h;exact bp.put0 _ _ _
     ·cases h
    ·split at h
     ·rename_i r hr
      cases h
      obtain⟨v,sto',next'⟩:=r
      exact bp.put (hc _ _ _ _ v sto' next' hr).1 _ _
     ·cases h
   ·cases h
theorem kK {call:dX}(hc:fo P G call){A:List (List Nat)}:∀ (l:List AOper) (T:List (List Nat×List Nat)) (s s':St),exD call G A l T s=some s'->bp s.sto s.next s'.sto s'.next
 | [],T,s,s',h=>by
   simp only[exD] at h
   split at h
   ·cases h;exact bp.refl _ _
   ·cases h
 | o::r,T,s,s',h=>by
   simp only[exD] at h
   split at h
   ·split at h
    ·rename_i q h1
     exact (sh hc h1).trans (kK hc r _ _ s' h)
    ·cases h
   ·exact (bp.put0 s _ _).trans (kK hc r _ _ s' h)
   ·cases h
theorem pC {call:dX}(hc:fo P G call):∀ (n:Nat) (ac:ACode) (s:St) (e:AExit) (s':St),exC call G n ac s=some (e,s')->bp s.sto s.next s'.sto s'.next
 | 0,_,_,_,_,h=>by simp[exC] at h
 | n+1,ac,s,e,s',h=>by
   have ih:=pC hc n
   cases ac with
   | skip=>simp only[exC,Option.some.injEq,Prod.mk.injEq] at h;obtain⟨_,rfl⟩:=h;exact bp.refl _ _
   | exit i=>simp only[exC,Option.some.injEq,Prod.mk.injEq] at h;obtain⟨_,rfl⟩:=h;exact bp.refl _ _
   | ret=>simp only[exC,Option.some.injEq,Prod.mk.injEq] at h;obtain⟨_,rfl⟩:=h;exact bp.refl _ _
   | ops l k=>
     simp only[exC] at h
     split at h
     ·rename_i s1 h1;cases h;exact ep hc l s s1 h1
     ·cases h
   | draw A l l2 k=>
     simp only[exC] at h
     split at h
     ·rename_i s1 h1
      split at h
      ·rename_i s2 h2;cases h;exact (kK hc l [] s s1 h1).trans (ep hc l2 s1 s2 h2)
      ·cases h
     ·cases h
   | seq a b=>
     simp only[exC] at h
     split at h
     ·rename_i s1 h1;exact (ih _ _ _ _ h1).trans (ih _ _ _ _ h)
     ·rename_i i s1 h1;cases h;exact ih _ _ _ _ h1
     ·rename_i s1 h1;cases h;exact ih _ _ _ _ h1
     ·cases h
   | cond x a b=>
     simp only[exC] at h
     split at h
     ·exact ih _ _ _ _ h
     ·exact ih _ _ _ _ h
     ·cases h
   | block id b=>
     simp only[exC] at h
     split at h
     ·rename_i s1 h1;cases h;exact ih _ _ _ _ h1
     ·rename_i i s1 h1
      split at h
      ·cases h;exact ih _ _ _ _ h1
      ·cases h;exact ih _ _ _ _ h1
     ·rename_i s1 h1;cases h;exact ih _ _ _ _ h1
     ·cases h
   | loop k b=>
     simp only[exC] at h
     split at h
     ·rename_i s1 h1;exact (ih _ _ _ _ h1).trans (ih _ _ _ _ h)
     ·rename_i i s1 h1;cases h;exact ih _ _ _ _ h1
     ·rename_i s1 h1;cases h;exact ih _ _ _ _ h1
     ·cases h
   | range f ps k a b=>simp only[exC] at h;cases h
def Pn (e:AExit)(s':St):AExit->St->Prop:=fun e1 s1=>e1=e/\s1=s'
theorem pX {call:dX}{G:Nat->List PV}{n:Nat}{s:St}{r:AExit×St}(h:exC call G (n+1) (.ops [⟨none,ji,none⟩] []) s=some r):False:=by
 simp[exC,kJ,bI,yJ,ji,AX.ev,df] at h
theorem Pq {call:dX}(hc:fo P G call){c:Ctx}{κ0:Kap}{N:Nat}{muts rl:List Nat}(hG:c.G=G):∀ (n:Nat) (co:Code) (ac:ACode) (ex:List (Nat×List Nat)) (out li:List Nat) (s:St) (a:Act) (w:World) (κ:Kap) (e:AExit) (s':St),
  bd P muts N rl co ex out=some (ac,li)->exC call G n ac s=some (e,s')->Rel c κ0 N s a w κ->co.wpIn (FR none) 0 P (lift c κ0 N (Pn e s')) a w:=by
 intro n
 induction n using Nat.strongRecOn with
 | _ n ih=>
 intro co ac ex out li s a w κ e s' hcc he hR
 cases n with
 | zero=>simp[exC] at he
 | succ n=>
 cases co with
 | skip=>
   simp only[bd,Option.some.injEq,Prod.mk.injEq] at hcc
   obtain⟨rfl,_⟩:=hcc
   simp only[exC,Option.some.injEq,Prod.mk.injEq] at he
   obtain⟨rfl,rfl⟩:=he
   exact wpIn_skip ⟨_,κ,hR,rfl,rfl⟩
 | exit id=>
   simp only[bd,Option.some.injEq,Prod.mk.injEq] at hcc
   obtain⟨rfl,_⟩:=hcc
   simp only[exC,Option.some.injEq,Prod.mk.injEq] at he
   obtain⟨rfl,rfl⟩:=he
   exact wpIn_exit ⟨_,κ,hR,rfl,rfl⟩
 | ret=>
   simp only[bd,Option.some.injEq,Prod.mk.injEq] at hcc
   obtain⟨rfl,_⟩:=hcc
   simp only[exC,Option.some.injEq,Prod.mk.injEq] at he
   obtain⟨rfl,rfl⟩:=he
   exact wpIn_ret ⟨_,κ,hR,rfl,rfl⟩
 | region id ops d=>
   simp only[bd] at hcc
   split at hcc
   ·rename_i l hl
    cases d with
    | false=>
      simp only[Option.some.injEq,Prod.mk.injEq] at hcc
      obtain⟨rfl,_⟩:=hcc
      simp only[exC] at he
      split at he
      ·rename_i s1 h1
       cases he
       exact wpIn_region_list (d6 (F:=fun s=>s=s1) (fun s a w κ hR hF=>by subst hF;exact⟨_,κ,hR.clip0 _,rfl,rfl⟩) ops.toList l s a w κ hl hR (by rw[hG];exact ju hc l s s1 h1 rfl))
      ·cases he
    | true=>
      simp only at hcc
      split at hcc
      ·rename_i hok
       simp only[Option.some.injEq,Prod.mk.injEq] at hcc
       obtain⟨rfl,_⟩:=hcc
       simp only[exC] at he
       split at he
       ·rename_i s1 h1
        split at he
        ·rename_i s2 h2
         cases he
         exact mp (F:=fun s=>s=s2) hl hok.1 hok.2.1 hok.2.2 hR (by rw[hG];exact mm hc _ _ s s1 h1 (ju hc _ s1 s2 h2 rfl)) (fun s a w κ hR hF=>by subst hF;exact⟨_,κ,hR.clip0 _,rfl,rfl⟩)
        ·cases he
       ·cases he
      ·cases hcc
   ·cases hcc
 | seq x y=>
   simp only[bd] at hcc
   split at hcc
   ·rename_i b' lb hb
    split at hcc
    ·rename_i a' la ha
     simp only[Option.some.injEq,Prod.mk.injEq] at hcc
     obtain⟨rfl,_⟩:=hcc
     simp only[exC] at he
     split at he
     ·rename_i s1 h1
      refine wpIn_seq (Go.wpIn_mono (ih n (Nat.lt_succ_self n) x a' _ _ _ s a w κ _ _ ha h1 hR) ?_)
      intro e1 a w hq
      cases e1 with
      | normal=>
        obtain⟨s2,κ,hR,_,rfl⟩:=hq
        exact ih n (Nat.lt_succ_self n) y b' _ _ _ s2 a w κ _ _ hb he hR
      | exit id=>obtain⟨_,_,_,h,_⟩:=hq;cases h
      | ret=>obtain⟨_,_,_,h,_⟩:=hq;cases h
      | goto l=>exact hq.elim
      | panic ch=>exact hq.elim
      | outgrown=>exact hq.elim
     ·rename_i i s1 h1
      cases he
      refine wpIn_seq (Go.wpIn_mono (ih n (Nat.lt_succ_self n) x a' _ _ _ s a w κ _ _ ha h1 hR) ?_)
      intro e1 a w hq
      cases e1 with
      | normal=>obtain⟨_,_,_,h,_⟩:=hq;cases h
      | exit id=>exact hq
      | ret=>exact hq
      | goto l=>exact hq.elim
      | panic ch=>exact hq.elim
      | outgrown=>exact hq.elim
     ·rename_i s1 h1
      cases he
      refine wpIn_seq (Go.wpIn_mono (ih n (Nat.lt_succ_self n) x a' _ _ _ s a w κ _ _ ha h1 hR) ?_)
      intro e1 a w hq
      cases e1 with
      | normal=>obtain⟨_,_,_,h,_⟩:=hq;cases h
      | exit id=>exact hq
      | ret=>exact hq
      | goto l=>exact hq.elim
      | panic ch=>exact hq.elim
      | outgrown=>exact hq.elim
     ·cases he
    ·cases hcc
   ·cases hcc
 | cond x y z=>
   simp only[bd] at hcc
   split at hcc
   ·rename_i ax a' la b' lb hx hy hz
    simp only[Option.some.injEq,Prod.mk.injEq] at hcc
    obtain⟨rfl,_⟩:=hcc
    have hrel:=aC (κ:=κ) (E:=s.E) (a:=a) hx (fun i _=>hR.env i)
    simp only[exC] at he
    split at he
    ·rename_i hv
     rw[hv] at hrel
     exact wpIn_cond_true (cN hrel) (ih n (Nat.lt_succ_self n) y a' _ _ _ s a w κ _ _ hy he hR)
    ·rename_i hv
     rw[hv] at hrel
     exact wpIn_cond_false (cN hrel) (ih n (Nat.lt_succ_self n) z b' _ _ _ s a w κ _ _ hz he hR)
    ·cases he
   ·cases hcc
 | block id b=>
   simp only[bd] at hcc
   split at hcc
   ·rename_i b' lb hb
    simp only[Option.some.injEq,Prod.mk.injEq] at hcc
    obtain⟨rfl,_⟩:=hcc
    simp only[exC] at he
    have main:∀ e1 s1,exC call G n b' s=some (e1,s1)->((e1 = .norm/\e = .norm/\s'=s1)\/(∃ i,e1 = .exit i/\s'=s1/\e=if i=id then .norm else .exit i)\/(e1 = .ret/\e = .ret/\s'=s1))->(Code.block id b).wpIn (FR none) 0 P (lift c κ0 N (Pn e s')) a w:=by
     intro e1 s1 h1 hcase
     refine wpIn_block (Go.wpIn_mono (ih n (Nat.lt_succ_self n) b b' _ _ _ s a w κ _ _ hb h1 hR) ?_)
     intro e2 a w hq
     cases e2 with
     | normal=>
       obtain⟨s2,κ,hR,rfl,rfl⟩:=hq
       rcases hcase with ⟨_,rfl,rfl⟩ | ⟨i,h,_⟩ | ⟨h,_⟩
       ·exact⟨_,κ,hR,rfl,rfl⟩
       ·cases h
       ·cases h
     | ret=>
       obtain⟨s2,κ,hR,rfl,rfl⟩:=hq
       rcases hcase with ⟨h,_⟩ | ⟨i,h,_⟩ | ⟨_,rfl,rfl⟩
       ·cases h
       ·cases h
       ·exact⟨_,κ,hR,rfl,rfl⟩
     | exit i=>
       obtain⟨s2,κ,hR,rfl,rfl⟩:=hq
       rcases hcase with ⟨h,_⟩ | ⟨i',h,rfl,rfl⟩ | ⟨h,_⟩
       ·cases h
       ·cases h
        simp only[Exit.inBlock]
        split
        ·rename_i hid
         exact⟨_,κ,hR,by simp[hid],rfl⟩
        ·rename_i hid
         exact⟨_,κ,hR,by simp[hid],rfl⟩
       ·cases h
     | goto l=>exact hq.elim
     | panic ch=>exact hq.elim
     | outgrown=>exact hq.elim
    split at he
    ·rename_i s1 h1
     cases he
     exact main _ _ h1 (.inl ⟨rfl,rfl,rfl⟩)
    ·rename_i i s1 h1
     split at he
     ·rename_i hid
      cases he
      exact main _ _ h1 (.inr (.inl ⟨i,rfl,rfl,by simp[hid]⟩))
     ·rename_i hid
      cases he
      exact main _ _ h1 (.inr (.inl ⟨i,rfl,rfl,by simp[hid]⟩))
    ·rename_i s1 h1
     cases he
     exact main _ _ h1 (.inr (.inr ⟨rfl,rfl,rfl⟩))
    ·cases he
   ·cases hcc
 | loop b=>
   simp only[bd] at hcc
   split at hcc
   ·rename_i x1 l1 hb1
    split at hcc
    ·rename_i x2 l2 hb2
     split at hcc
     ·rename_i b' l3 hb
      simp only[Option.some.injEq,Prod.mk.injEq] at hcc
      obtain⟨rfl,_⟩:=hcc
      refine jE (fun m a w=>∃ s κ,m<=n+1/\Rel c κ0 N s a w κ/\exC call G m (.loop (oi l2) b') s=some (e,s')) ⟨n+1,s,κ,Nat.le_refl _,hR,he⟩ fun m a w hJ=>?_
      obtain⟨s,κ,hm,hR,he⟩:=hJ
      cases m with
      | zero=>simp[exC] at he
      | succ m=>
        simp only[exC] at he
        split at he
        ·rename_i s1 h1
         refine Go.wpIn_mono (ih m (by omega) b b' _ _ _ s a w κ _ _ hb h1 hR) ?_
         intro e1 a w hq
         cases e1 with
         | normal=>
           obtain⟨s2,κ,hR,_,rfl⟩:=hq
           exact⟨m,Nat.lt_succ_self m,_,κ,by omega,hR,he⟩
         | exit id=>obtain⟨_,_,_,h,_⟩:=hq;cases h
         | ret=>obtain⟨_,_,_,h,_⟩:=hq;cases h
         | goto l=>exact hq.elim
         | panic ch=>exact hq.elim
         | outgrown=>exact hq.elim
        ·rename_i i s1 h1
         cases he
         refine Go.wpIn_mono (ih m (by omega) b b' _ _ _ s a w κ _ _ hb h1 hR) ?_
         intro e1 a w hq
         cases e1 with
         | normal=>obtain⟨_,_,_,h,_⟩:=hq;cases h
         | exit id=>exact hq
         | ret=>exact hq
         | goto l=>exact hq.elim
         | panic ch=>exact hq.elim
         | outgrown=>exact hq.elim
        ·rename_i s1 h1
         cases he
         refine Go.wpIn_mono (ih m (by omega) b b' _ _ _ s a w κ _ _ hb h1 hR) ?_
         intro e1 a w hq
         cases e1 with
         | normal=>obtain⟨_,_,_,h,_⟩:=hq;cases h
         | exit id=>exact hq
         | ret=>exact hq
         | goto l=>exact hq.elim
         | panic ch=>exact hq.elim
         | outgrown=>exact hq.elim
        ·cases he
     ·cases hcc
    ·cases hcc
   ·cases hcc
 | rangeFunc f ps x y=>
   simp only[bd] at hcc
   split at hcc
   ·split at hcc
    ·simp only[Option.some.injEq,Prod.mk.injEq] at hcc
     obtain⟨rfl,_⟩:=hcc
     simp only[exC] at he
     cases he
    ·cases hcc
   ·simp only[Option.some.injEq,Prod.mk.injEq] at hcc;obtain⟨rfl,rfl⟩:=hcc;exact (pX he).elim
 | scope b=>simp only[bd,Option.some.injEq,Prod.mk.injEq] at hcc;obtain⟨rfl,rfl⟩:=hcc;exact (pX he).elim
 | label l=>simp only[bd,Option.some.injEq,Prod.mk.injEq] at hcc;obtain⟨rfl,rfl⟩:=hcc;exact (pX he).elim
 | goto l=>simp only[bd,Option.some.injEq,Prod.mk.injEq] at hcc;obtain⟨rfl,rfl⟩:=hcc;exact (pX he).elim
 | refuse y=>simp only[bd,Option.some.injEq,Prod.mk.injEq] at hcc;obtain⟨rfl,rfl⟩:=hcc;exact (pX he).elim
theorem Hc {tab:List TabRow}(ht:∀ r∈tab,cFn P r.muts r.f=some r.fn){f:Nat}{fn:AFn}(h:He f tab=some fn):∃ muts,cFn P muts f=some fn:=by
 induction tab with
 | nil=>cases h
 | cons r q ih=>
   simp only[He] at h
   split at h
   ·rename_i hf
    cases h
    exact⟨r.muts,hf▸ht r (by simp)⟩
   ·exact ih (fun r hr=>ht r (by simp[hr])) h
theorem Dg {tab:List TabRow}{O:Nat->List PV->Option PV}{m:Nat}(ht:∀ r∈tab,cFn P r.muts r.f=some r.fn)(hO:∀ f ps r,O f ps=some r->ag P G f ps r):∀ n,fo P G (exF tab O G m n)
 | 0=>by intro f args sto next v sto' next' h;simp[exF] at h
 | n+1=>by
   intro f args sto next v sto' next' h
   simp only[exF] at h
   split at h
   ·rename_i r hr
    cases h
    simp only[Option.bind_eq_some_iff] at hr
    obtain⟨ps,h1,h2⟩:=hr
    refine⟨bp.refl _ _,?_⟩
    exact .inl ⟨ps,r,h1,hO f ps r h2,rfl,rfl,rfl⟩
   ·split at h
    ·rename_i fn hfn
     obtain⟨muts,hcf⟩:=Hc ht hfn
     split at h
     ·rename_i hl
      have grow:∀ (e:AExit) (s:St),exC (exF tab O G m n) G m fn.body ⟨dc args,sto,next⟩=some (e,s)->wg G fn s=some (v,sto',next')->bp sto next sto' next':=by
       intro e s h1 h2
       have:=pC (Dg ht hO n) m fn.body _ e s h1
       unfold wg at h2
       split at h2
       ·cases h2;exact this
       ·cases h2
      have fin:∀ (e:AExit) (s:St),(e = .norm\/e = .ret)->exC (exF tab O G m n) G m fn.body ⟨dc args,sto,next⟩=some (e,s)->wg G fn s=some (v,sto',next')->bU P G f args sto next (fun v' s' n'=>v'=v/\s'=sto'/\n'=next'):=by
       intro e s he h1 h2
       refine bU.of_code hcf hl fun c κ N a w co rl li hG hk hf hb hR=>?_
       refine Go.wpIn_mono (Pq (Dg ht hO n) hG m co fn.body _ _ _ _ a w κ e s hb h1 hR) ?_
       have hout:∀ s1,s1=s->aJ (eX G s1 fn.res) (I1 (fun v' s' n'=>v'=v/\s'=sto'/\n'=next') s1):=by
        rintro s1 rfl
        unfold wg at h2
        split at h2
        ·rename_i l hl2
         cases h2
         rw[hl2]
         exact⟨rfl,rfl,rfl⟩
        ·cases h2
       intro e1 a w hq
       cases e1 with
       | normal=>
         obtain⟨s1,κ1,hR1,he1,hs1⟩:=hq
         exact⟨s1,κ1,hR1,hout s1 hs1⟩
       | ret=>
         obtain⟨s1,κ1,hR1,he1,hs1⟩:=hq
         exact⟨s1,κ1,hR1,hout s1 hs1⟩
       | exit id=>
         obtain⟨s1,κ1,hR1,he1,hs1⟩:=hq
         rcases he with rfl | rfl<;>cases he1
       | goto l=>exact hq.elim
       | panic ch=>exact hq.elim
       | outgrown=>exact hq.elim
      split at h
      ·rename_i s1 h1;exact⟨grow _ _ h1 h,.inr (fin _ _ (.inl rfl) h1 h)⟩
      ·rename_i s1 h1;exact⟨grow _ _ h1 h,.inr (fin _ _ (.inr rfl) h1 h)⟩
      ·cases h
     ·cases h
    ·cases h
theorem ag.of_ex {tab:List TabRow}{O:Nat->List PV->Option PV}{m n:Nat}{f:Nat}{ps:List PV}{r:PV}(ht:∀ r∈tab,cFn P r.muts r.f=some r.fn)(hO:∀ f ps r,O f ps=some r->ag P G f ps r)
  (h:By (exF tab O G m n) f ps=some r):ag P G f ps r:=
 tq (Dg ht hO n) h
end
def Kap.cut (κ:Kap)(k:Nat):Kap:=⟨κ.w,fun r=>if r<k then κ.nm r else none,κ.imm⟩
theorem Kap.cut_ext (κ:Kap)(k:Nat):Ext (κ.cut k) κ:=by
 refine⟨fun _ _ h=>h,fun _ _ _ _ h=>h,fun r d h=>?_,fun _ _ h _=>h⟩
 simp only[Kap.cut] at h
 split at h
 ·exact h
 ·cases h
theorem Kap.cut_none (κ:Kap)(k r:Nat)(h:k<=r):(κ.cut k).nm r=none:=by simp only[Kap.cut];rw[if_neg (by omega)]
def ql (P:Program)(G:Nat->List PV)(k:Nat)(f:Nat)(args:List AV)(sto:List (Nat×Blk))(next:Nat)(Q:AV->List (Nat×Blk)->Nat->Prop):Prop:=
 bH P f=true/\∀ (κ:Kap) (vals:Array Value),SRel (bP κ (fun r=>lookB r sto) G) κ (fun r=>lookB r sto)->(∀ r,next<=r->κ.nm r=none)->vals.size=args.length ->
  (∀ (i:Nat) (x:AV),args[i]? = some x->ARel κ x (vals.getD i Go.undef)) ->
  Calls P f vals κ.w fun e w'=>∃ u v κ' sto' next',e = .returned u/\κ'.w=w'/\Ext (κ.cut k) κ'/\Left (bP κ (fun r=>lookB r sto) G) κ.imm κ'/\ARel κ' v u /\
   SRel (bP κ (fun r=>lookB r sto) G) κ' (fun r=>lookB r sto')/\(∀ r,next'<=r->κ'.nm r=none)/\Q v sto' next'
section
variable {P:Program}{G:Nat->List PV}
theorem ql.of_code {muts:List Nat}{k f:Nat}{fn:AFn}{args:List AV}{sto:List (Nat×Blk)}{next:Nat}{R:AV->List (Nat×Blk)->Nat->Prop}(hc:cFn P muts f=some fn)(hn:args.length<=fn.N)
  (hv:vc P G k fn.body (FnK G fn.res R) ⟨dc args,sto,next⟩):ql P G k f args sto next R:=by
 unfold cFn at hc
 split at hc
 ·rename_i fnc hfn
  split at hc
  ·rename_i co hco
   split at hc
   ·rename_i rs hrs
    split at hc
    ·rename_i hok
     split at hc
     ·rename_i b li hb
      cases hc
      refine⟨hok,fun κ vals hS hf hsz hargs=>?_⟩
      refine callsIn_wide.1 (callsIn_of_wp_marks (n:=0) hfn hco trivial ?_ rfl)
      let c:=bP κ (fun r=>lookB r sto) G
      have hsize:(vals++Array.replicate (fnc.ntmps - vals.size) Go.undef).size=fnc.ntmps:=by
       simp only at hn
       simp only[Array.size_append,Array.size_replicate];omega
      have hR:Rel c (κ.cut k) fnc.ntmps ⟨dc args,sto,next⟩ ⟨vals++Array.replicate (fnc.ntmps - vals.size) Go.undef,[]⟩ κ.w κ:=by
       refine⟨rfl,κ.cut_ext k,hS,⟨rfl,rfl,rfl,Nat.le_refl _,fun _ _ _=>rfl,fun _ _ h=>.inl h⟩,fun i=>?_,hsize,dh.nil _ _,hf⟩
       show ARel κ (look i ((args.zipIdx 0).map fun p=>(p.2,p.1))) _
       rw[ko,if_pos (Nat.zero_le _),Nat.sub_zero]
       cases hx:args[i]? with
       | none=>exact .any _
       | some x=>
         have hi:i<vals.size:=by rw[hsz];exact (List.getElem?_eq_some_iff.1 hx).1
         have:=hargs i x hx
         have e:(vals++Array.replicate (fnc.ntmps - vals.size) Go.undef).getD i Go.undef=vals.getD i Go.undef:=by
          simp only[Array.getD_eq_getD_getElem?]
          rw[Array.getElem?_append_left hi]
         rw[e];exact this
      refine Go.wpIn_mono (sP (P:=P) (N:=fnc.ntmps) co c (κ.cut k) k none 0 b [] (g9 rs) li (FnK G rs R) _ _ κ.w κ (.inl rfl) (fun r hr=>κ.cut_none k r hr) (Nat.le_refl _) hb hR hv) ?_
      have fin:∀ (s:St) (κ':Kap) (a:Act) (w:World),Rel c (κ.cut k) fnc.ntmps s a w κ'->aJ (eX G s rs) (I1 R s)->∃ v,(results fnc a.tmps).run P w = .ok v w /\
        ∃ u v' κ'' sto' next',Ending.returned v = .returned u/\κ''.w=w/\Ext (κ.cut k) κ''/\Left c κ.imm κ''/\ARel κ'' v' u/\SRel c κ'' (fun r=>lookB r sto')/\(∀ r,next'<=r->κ''.nm r=none)/\R v' sto' next':=by
       intro s κ' a w hR hF
       simp only[aJ] at hF
       split at hF
       ·rename_i vs hvs
        obtain⟨us,h1,h2,h3⟩:=jT (P:=P) hR fnc.results.toList rs vs hrs hvs
        have hrun:(results fnc a.tmps).run P w = .ok (if h:us.toArray.size=1 then us.toArray[0] else .tuple us.toArray) w:=by
         rw[lO,Sem.run_bind,Array.mapM_eq_mapM_toList]
         simp only[Sem.run_bind,Sem.run_map]
         rw[h1]
         simp
        refine⟨_,hrun,_,yE vs,κ',s.sto,s.next,rfl,hR.w_eq,hR.ext0,hR.left,?_,hR.rel,hR.fresh,hF⟩
        by_cases hl:vs.length=1
        ·obtain⟨v,rfl⟩:=List.length_eq_one_iff.1 hl
         obtain⟨u,rfl⟩:=List.length_eq_one_iff.1 (h2.trans hl)
         have:=h3 0 v rfl
         exact this
        ·have hul:¬ us.toArray.size=1:=by simpa[h2] using hl
         rw[dif_neg hul]
         have hrv:yE vs=oX vs:=by
          unfold yE
          split
          ·simp at hl
          ·rfl
         rw[hrv]
         exact oW (.tup _ _ (by simpa using h2) (fun i x hx=>by rw[aE];simpa using h3 i x hx))
       ·exact hF.elim
      intro e a w hq
      cases e with
      | normal=>
        obtain⟨s,κ',hR,hF⟩:=hq
        exact gA (Nat.le_refl _) rfl hR fun w' κ'' hR'=>fin s κ'' ⟨a.tmps,[]⟩ w' hR' hF
      | ret=>
        obtain⟨s,κ',hR,hF⟩:=hq
        exact gA (Nat.le_refl _) rfl hR fun w' κ'' hR'=>fin s κ'' ⟨a.tmps,[]⟩ w' hR' hF
      | exit id=>
        obtain⟨s,κ',hR,hF⟩:=hq
        exact hF.elim
      | goto l=>exact hq.elim
      | panic ch=>exact hq.elim
      | outgrown=>exact hq.elim
     ·cases hc
    ·cases hc
   ·cases hc
  ·cases hc
 ·cases hc
def bE:List Blk->Nat->List (Nat×Blk)
 | [],_=>[]
 | b::r,k=>(k,b)::bE r (k+1)
theorem ma:∀ (bs:List Blk) (k i:Nat),lookB i (bE bs k)=if k<=i then bs.getD (i - k) .none else .none
 | [],k,i=>by simp[bE,lookB]
 | b::r,k,i=>by
   simp only[bE,lookB]
   by_cases h:k=i
   ·subst h;simp
   ·rw[if_neg h,ma r (k+1) i]
    by_cases hk:k<=i
    ·rw[if_pos (by omega),if_pos hk,show i - k=(i - (k+1))+1 by omega];simp
    ·rw[if_neg (by omega),if_neg hk]
theorem fW (bs:List Blk):(fun r=>lookB r (bE bs 0))=fun r=>bs.getD r .none:=by
 funext r;rw[ma];simp
def bO (P:Program)(G:Nat->List PV)(k f:Nat)(args:List AV)(bs:List Blk)(v:AV)(bs':List Blk):Prop:=
 ql P G k f args (bE bs 0) bs.length fun v' sto' next'=>v'=v/\sto'=bE bs' 0/\next'=bs'.length
def LN (k:Nat)(v:AV)(bs':List Blk)(v':AV)(sto':List (Nat×Blk))(next':Nat):Prop:=
 Wk k ⟨[(0,v')],sto',next'⟩ ⟨[(0,v)],bE bs' 0,bs'.length⟩
theorem bO.of_lcalls {k f:Nat}{args:List AV}{bs:List Blk}{v:AV}{bs':List Blk}(h:ql P G k f args (bE bs 0) bs.length (LN k v bs')):bO P G k f args bs v bs':=by
 obtain⟨hcal,h⟩:=h
 refine⟨hcal,fun κ vals hS hf hsz hargs=>(h κ vals hS hf hsz hargs).mono ?_⟩
 rintro e w' ⟨u,v',κ',sto',next',rfl,rfl,he,hL,hv,hS',hf',hw⟩
 obtain⟨κ'',hR⟩:=hw _ (κ.cut k) κ' 1 ⟨#[u],[]⟩ κ'.w (fun r hr=>κ.cut_none k r hr) ⟨rfl,he,hS',hL,fun i=>by
  show ARel κ' (look i [(0,v')]) _
  by_cases hi:0=i
  ·subst hi;simpa[look] using hv
  ·simp only[look,if_neg hi];exact .any _,rfl,dh.nil _ _,hf'⟩
 refine⟨u,v,κ'',_,_,rfl,hR.w_eq,hR.ext0,hR.left,?_,hR.rel,hR.fresh,rfl,rfl,rfl⟩
 have:=hR.env 0
 simpa[St.E,look] using this
theorem bO.intro {muts:List Nat}{k f:Nat}{fn:AFn}{args:List AV}{bs:List Blk}{v:AV}{bs':List Blk}(hc:cFn P muts f=some fn)(hn:args.length<=fn.N)
  (hv:vc P G k fn.body (FnK G fn.res (LN k v bs')) ⟨dc args,bE bs 0,bs.length⟩):bO P G k f args bs v bs':=
 bO.of_lcalls (ql.of_code hc hn hv)
def gIn (next:Nat):List Nat->Nat->Nat
 | [],i=>next+i
 | r::_,0=>r
 | _::q,i+1=>gIn next q i
def gSo (next:Nat)(rs:List Nat)(r:Nat):Option Nat:=some (gIn next rs r)
theorem kB (next:Nat):∀ (rs:List Nat) (i:Nat) (r:Nat),rs[i]? = some r->gIn next rs i=r
 | [],i,r,h=>by simp at h
 | x::q,0,r,h=>by simpa[gIn] using h
 | x::q,i+1,r,h=>by simpa[gIn] using kB next q i r (by simpa using h)
theorem mc (next:Nat):∀ (rs:List Nat) (i:Nat),rs.length<=i->gIn next rs i=next+(i - rs.length)
 | [],i,h=>by simp[gIn]
 | x::q,0,h=>by simp at h
 | x::q,i+1,h=>by
   simp only[List.length_cons] at h
   rw[gIn,mc next q i (by omega)]
   simp
mutual
theorem unren {κ κ':Kap}(hw:κ'.w=κ.w)(hi:κ'.imm=κ.imm){g:Nat->Nat}(hf:∀ r,κ'.nm r=κ.nm (g r)):∀ (x:AV) (v:Value),ARel κ (x.ren fun r=>some (g r)) v->ARel κ' x v
 | .pv p,v,h=>by
   simp only[AV.ren] at h
   cases h with
   | pv _ _ hp=>exact .pv _ _ (by rw[hw,hi];exact hp)
 | .any,v,h=>.any v
 | .ptr r o,v,h=>by
   simp only[AV.ren] at h
   cases h with
   | ptr _ _ b n hn=>exact .ptr _ _ b n (by rw[hf r];exact hn)
 | .row r a b c,v,h=>by
   simp only[AV.ren] at h
   cases h with
   | row _ _ _ _ bb n cap hn h1 h2 h3 h4=>exact .row _ _ _ _ bb n cap (by rw[hf r];exact hn) h1 h2 h3 h4
   | row0 _ _ hn=>exact .row0 _ _ (by rw[hf r];exact hn)
 | .olist r a l,v,h=>by
   simp only[AV.ren] at h
   cases h with
   | olist _ _ _ _ hn hp hs=>exact .olist _ _ _ _ (by rw[hf r];exact hn) (by rw[hw,hi];exact hp) hs
 | .agg cs,v,h=>by
   simp only[AV.ren] at h
   cases h with
   | agg _ vs hl hr=>
     obtain⟨h1,h2⟩:=jI hw hi hf cs vs hr
     exact .agg _ _ (by rw[<- h1];exact hl) h2
 | .tup cs,v,h=>by
   simp only[AV.ren] at h
   cases h with
   | tup _ vs hl hr=>
     obtain⟨h1,h2⟩:=jI hw hi hf cs vs hr
     exact .tup _ _ (by rw[<- h1];exact hl) h2
 | .clo g fs cs,v,h=>by
   simp only[AV.ren] at h
   cases h with
   | clo _ _ _ vs us hl hr hl' hr'=>
     obtain⟨h1,h2⟩:=jI hw hi hf fs vs hr
     obtain⟨h3,h4⟩:=jI hw hi hf cs us hr'
     exact .clo _ _ _ _ _ (by rw[<- h1];exact hl) h2 (by rw[<- h3];exact hl') h4
theorem jI {κ κ':Kap}(hw:κ'.w=κ.w)(hi:κ'.imm=κ.imm){g:Nat->Nat}(hf:∀ r,κ'.nm r=κ.nm (g r)):∀ (xs:List AV) (vs:Array Value),
  (∀ (i:Nat) (x:AV),(AV.renL (fun r=>some (g r)) xs)[i]? = some x->ARel κ x (vs.getD i Go.undef))->(AV.renL (fun r=>some (g r)) xs).length=xs.length/\∀ (i:Nat) (x:AV),xs[i]? = some x->ARel κ' x (vs.getD i Go.undef)
 | [],vs,h=>by simp[AV.renL]
 | x::r,vs,h=>by
   have e:∀ i,(vs.extract 1 vs.size).getD i Go.undef=vs.getD (i+1) Go.undef:=by
    intro i
    simp only[Array.getD_eq_getD_getElem?,Array.getElem?_extract]
    by_cases hh:i<min vs.size vs.size - 1
    ·rw[if_pos hh];congr 2;omega
    ·rw[if_neg hh,Array.getElem?_eq_none (by omega)]
   obtain⟨h1,h2⟩:=jI hw hi hf r (vs.extract 1 vs.size) (fun i y hy=>by
    have:=h (i+1) y (by simpa[AV.renL] using hy)
    rw[e];exact this)
   refine⟨by simp[AV.renL,h1],fun i y hy=>?_⟩
   cases i with
   | zero=>
     simp only[List.getElem?_cons_zero,Option.some.injEq] at hy
     subst hy
     exact unren hw hi hf x _ (h 0 _ (by simp[AV.renL]))
   | succ i=>
     simp only[List.getElem?_cons_succ] at hy
     have:=h2 i y hy
     rw[e] at this;exact this
end
theorem eA.unren {κ κ':Kap}(hw:κ'.w=κ.w)(hi:κ'.imm=κ.imm){g:Nat->Nat}(hf:∀ r,κ'.nm r=κ.nm (g r)){r:Nat}{B:Blk}(h:eA κ (g r) (B.ren fun r=>some (g r))):eA κ' r B:=by
 cases B with
 | none=>trivial
 | cells T f l=>
   simp only[Blk.ren] at h
   rcases h with ⟨h1,h2,h3⟩ | ⟨b,n,cs,h1,h2,h3,h4,h5,h6,h7⟩
   ·refine .inl ⟨h1,?_,by rw[hf];exact h3⟩
    cases l with
    | nil=>rfl
    | cons x r=>simp[AV.renL] at h2
   ·obtain⟨q1,q2⟩:=jI hw hi hf l cs h6
    exact .inr ⟨b,n,cs,by rw[hf];exact h1,by rw[hw];exact h2,h3,by rw[<- q1];exact h4,fun hb=>by rw[<- q1];exact h5 hb,q2,by rw[hi];exact h7⟩
 | tok e sz=>
   simp only[Blk.ren] at h
   rcases h with h | ⟨g',n,cap,cur,h1,h2,h3⟩
   ·exact .inl (by rw[hf];exact h)
   ·exact .inr ⟨g',n,cap,cur,by rw[hf];exact h1,by rw[hw];exact h2,by rw[hi];exact h3⟩
 | bts e l=>
   obtain⟨b,n,cs,fz,h1,h2⟩:=h
   exact⟨b,n,cs,fz,by rw[hf];exact h1,by rw[hw,hi];exact h2⟩
theorem eA.ren {κ κ':Kap}(hw:κ'.w=κ.w)(hi:κ'.imm=κ.imm){g:Nat->Nat}(hf:∀ r,κ'.nm (g r)=κ.nm r){r:Nat}{B:Blk}(h:eA κ r B):eA κ' (g r) (B.ren fun r=>some (g r)):=by
 have hf':∀ r r',(fun r=>some (g r)) r=some r'->κ'.nm r'=κ.nm r:=fun r r' h=>by cases h;exact hf r
 cases B with
 | none=>trivial
 | cells T f l=>
   simp only[Blk.ren]
   rcases h with ⟨h1,h2,h3⟩ | ⟨b,n,cs,h1,h2,h3,h4,h5,h6,h7⟩
   ·exact .inl ⟨h1,by rw[h2];simp only[AV.renL],by rw[hf];exact h3⟩
   ·obtain⟨q1,q2⟩:=ed hw hi hf' l cs h6
    exact .inr ⟨b,n,cs,by rw[hf];exact h1,by rw[hw];exact h2,h3,by rw[q1];exact h4,fun hb=>by rw[q1];exact h5 hb,q2,by rw[hi];exact h7⟩
 | tok e sz=>
   simp only[Blk.ren]
   rcases h with h | ⟨g',n,cap,cur,h1,h2,h3⟩
   ·exact .inl (by rw[hf];exact h)
   ·exact .inr ⟨g',n,cap,cur,by rw[hf];exact h1,by rw[hw];exact h2,by rw[hi];exact h3⟩
 | bts e l=>
   obtain⟨b,n,cs,fz,h1,h2⟩:=h
   exact⟨b,n,cs,fz,by rw[hf];exact h1,by rw[hw,hi];exact h2⟩
def wh (f:Nat->Option Nat):List Blk->Nat->(Nat->Nat)->List (Nat×Blk)
 | [],_,_=>[]
 | b::r,i,g=>(g i,b.ren f)::wh f r (i+1) g
def iq:List Nat->List (Nat×Blk)
 | []=>[]
 | r::q=>(r,.none)::iq q
def gS (sto:List (Nat×Blk))(f:Nat->Option Nat):List Nat->List Blk->Prop
 | [],[]=>True
 | r::rs,b::bs=>BlkZ (lookB r sto) (b.ren f)/\gS sto f rs bs
 | _,_=>False
theorem gS.get {sto:List (Nat×Blk)}{f:Nat->Option Nat}:∀ {rs:List Nat} {bs:List Blk},gS sto f rs bs->rs.length=bs.length/\∀ (i r:Nat) (b:Blk),rs[i]? = some r->bs[i]? = some b->BlkZ (lookB r sto) (b.ren f)
 | [],[],h=>⟨rfl,by simp⟩
 | r::rs,b::bs,h=>by
   obtain⟨h1,h2⟩:=h
   obtain⟨h3,h4⟩:=gS.get h2
   refine⟨by simp[h3],fun i q d hq hd=>?_⟩
   cases i with
   | zero=>simp at hq hd;subst hq;subst hd;exact h1
   | succ i=>exact h4 i q d (by simpa using hq) (by simpa using hd)
 | [],_::_,h=>h.elim
 | _::_,[],h=>h.elim
end
end Go.Ab

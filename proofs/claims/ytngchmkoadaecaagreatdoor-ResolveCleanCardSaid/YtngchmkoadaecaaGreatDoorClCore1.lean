/- A program logic over the model: part 1 (a proof is built on it; nothing of the statement is said here). -/
import Derived.Below
import Derived.RangeFuncOwn
import Derived.Maps.AppendAt
import Derived.Laws.Entries
import Derived.Laws.Tables
import Derived.Laws.Slices
import Derived.Laws.Strings
import Derived.Laws.StructEq
import Derived.Laws.CopyRow
set_option linter.unusedVariables false
set_option linter.unusedSimpArgs false
set_option maxHeartbeats 16000000
open Array renaming getElem?_eq_some_iff->UF,getD_eq_getD_getElem?->Uw,getElem?_eq_getElem->Vq
open Nat renaming lt_of_lt_of_le->UZ,le_trans->UX,le_refl->UI,mul_le_mul_right->UA,add_zero->VA,zero_add->UN,succ_mul->Vo
open List renaming getD_eq_getElem?_getD->Uv,getElem?_map->UE,getElem?_eq_some_iff->Ur,getElem?_take->UL,getElem?_drop->Vl,getElem?_eq_getElem->Uq,length_cons->UC,map_cons->UQ,append_assoc->UB,getElem?_append_right->UT,getElem?_append_left->US,getElem?_cons_succ->VF,mem_append->UY,replicate->Vm,range->U1,all_eq_true->UD,mem_of_getElem?->Us
open Option renaming map_eq_some_iff->Ut
namespace Go.Ab
open Go Go.RowKit
inductive PV where
 | undef
 | bool (b:Bool)
 | int (k:IntKind) (n:Int)
 | str (s:List UInt8)
 | agg (cs:List PV)
 | tup (vs:List PV)
 | nils
 | list (l:List PV)
 | nilp
 | nilf
 | clo (f:Nat) (first captured:List PV)
 | eptr (l:List PV) (i o:Nat)
 | gptr (g o:Nat)
 | nili
 | iface (T:Nat) (v:PV)
instance:Inhabited PV:=⟨.undef⟩
def PV.cells:PV->List PV
 | .agg cs=>cs
 | v=>[v]
def PV.one:PV->Bool
 | .agg _ | .tup _ | .undef=>false
 | _=>true
inductive PRel (w:World)(imm:Nat->Nat->Prop):PV->Value->Prop
 | undef:PRel w imm .undef (.tuple #[])
 | bool (b:Bool):PRel w imm (.bool b) (.bool b)
 | int (k:IntKind) (n:Int):PRel w imm (.int k n) (.int k n)
 | str (s:ByteArray):s.size<=maxLen->PRel w imm (.str s.data.toList) (.string s)
 | agg (cs:List PV) (vs:Array Value):vs.size=cs.length->(∀ (i:Nat) (x:PV),cs[i]? = some x->PRel w imm x (vs.getD i undef))->PRel w imm (.agg cs) (.agg vs)
 | tup (cs:List PV) (vs:Array Value):vs.size=cs.length->(∀ (i:Nat) (x:PV),cs[i]? = some x->PRel w imm x (vs.getD i undef))->PRel w imm (.tup cs) (.tuple vs)
 | nils:PRel w imm .nils (.slice none 0 0)
 | lnil (A:Option Addr) (c:Nat):c<=maxLen->PRel w imm (.list []) (.slice A 0 c)
 | list (l:List PV) (b off c sz:Nat) (g:Nat->Nat->Value):l.length<=c->c<=maxLen->(∀ (i:Nat) (x:PV),l[i]? = some x->x.cells.length=sz) ->
   (∀ (i:Nat) (x:PV) (j:Nat) (y:PV),l[i]? = some x->x.cells[j]? = some y->imm b (off+i*sz+j)/\w.cell? ⟨b,off+i*sz+j,none⟩=some (g i j)/\(g i j).oneCell'=true) ->
   (∀ (i:Nat) (x:PV) (j:Nat) (y:PV),l[i]? = some x->x.cells[j]? = some y->PRel w imm y (g i j))->PRel w imm (.list l) (.slice (some ⟨b,off,none⟩) l.length c)
 | nilp:PRel w imm .nilp (.pointer none)
 | nilf:PRel w imm .nilf .nilFunc
 | clo (f:Nat) (fs cs:List PV) (vs us:Array Value):vs.size=fs.length->(∀ (i:Nat) (x:PV),fs[i]? = some x->PRel w imm x (vs.getD i undef)) ->
   us.size=cs.length->(∀ (i:Nat) (x:PV),cs[i]? = some x->PRel w imm x (us.getD i undef))->PRel w imm (.clo f fs cs) (.func (.func f) vs us)
 | eptr (l:List PV) (b off c sz:Nat) (g:Nat->Nat->Value) (i o:Nat):l.length<=c->c<=maxLen->(∀ (i:Nat) (x:PV),l[i]? = some x->x.cells.length=sz) ->
   (∀ (i:Nat) (x:PV) (j:Nat) (y:PV),l[i]? = some x->x.cells[j]? = some y->imm b (off+i*sz+j)/\w.cell? ⟨b,off+i*sz+j,none⟩=some (g i j)/\(g i j).oneCell'=true) ->
   (∀ (i:Nat) (x:PV) (j:Nat) (y:PV),l[i]? = some x->x.cells[j]? = some y->PRel w imm y (g i j))->i<l.length->PRel w imm (.eptr l i o) (.pointer (some ⟨b,off+i*sz+o,none⟩))
 | gptr (g o:Nat):PRel w imm (.gptr g o) (.pointer (some ⟨g,o,none⟩))
 | nili:PRel w imm .nili .nilIface
 | iface (T:Nat) (p:PV) (u:Value):PRel w imm p u->PRel w imm (.iface T p) (.iface T u)
theorem PRel.mono {w w':World}{imm imm':Nat->Nat->Prop}(hi:∀ b o,imm b o->imm' b o)
  (hc:∀ b o v,imm b o->w.cell? ⟨b,o,none⟩=some v->w'.cell? ⟨b,o,none⟩=some v) {p:PV} {v:Value} (h:PRel w imm p v):PRel w' imm' p v:=by
 induction h with
 | undef=>exact .undef
 | bool b=>exact .bool b
 | int k n=>exact .int k n
 | str s hs=>exact .str s hs
 | agg cs vs hl _ ih=>exact .agg cs vs hl ih
 | tup cs vs hl _ ih=>exact .tup cs vs hl ih
 | nils=>exact .nils
 | lnil A c h=>exact .lnil A c h
 | list l b off c sz g h1 h2 h3 h4 _ ih=>
   exact .list l b off c sz g h1 h2 h3 (fun i x j y hx hy=>⟨hi _ _ (h4 i x j y hx hy).1,hc _ _ _ (h4 i x j y hx hy).1 (h4 i x j y hx hy).2.1,(h4 i x j y hx hy).2.2⟩) ih
 | nilp=>exact .nilp
 | nilf=>exact .nilf
 | clo f fs cs vs us h1 _ h2 _ ih1 ih2=>exact .clo f fs cs vs us h1 ih1 h2 ih2
 | eptr l b off c sz g i o h1 h2 h3 h4 _ h6 ih=>
   exact .eptr l b off c sz g i o h1 h2 h3 (fun i x j y hx hy=>⟨hi _ _ (h4 i x j y hx hy).1,hc _ _ _ (h4 i x j y hx hy).1 (h4 i x j y hx hy).2.1,(h4 i x j y hx hy).2.2⟩) ih h6
 | gptr g o=>exact .gptr g o
 | nili=>exact .nili
 | iface T p u _ ih=>exact .iface T p u ih
inductive Den where
 | blk (b n:Nat)
 | own (v:Value)
 | mp (b:Nat)
def Den.block:Den->Option Nat
 | .blk b _=>some b
 | .own v=>v.ownBlock
 | .mp b=>some b
def FX:Obj->Bool
 | .cells ..=>true
 | .map ..=>true
 | _=>false
structure Kap where
 w:World
 nm:Nat->Option Den
 imm:Nat->Nat->Prop
inductive AV where
 | pv (p:PV)
 | agg (cs:List AV)
 | tup (vs:List AV)
 | ptr (r o:Nat)
 | row (r sz off len:Nat)
 | olist (r sz:Nat) (l:List PV)
 | clo (f:Nat) (first captured:List AV)
 | mp (r:Nat)
 | any
instance:Inhabited AV:=⟨.any⟩
def AV.cells:AV->List AV
 | .pv p=>p.cells.map AV.pv
 | .agg cs=>cs
 | v=>[v]
def AV.one:AV->Bool
 | .pv p=>p.one
 | .agg _ | .tup _ | .any=>false
 | _=>true
inductive ARel (κ:Kap):AV->Value->Prop
 | pv (p:PV) (v:Value):PRel κ.w κ.imm p v->ARel κ (.pv p) v
 | agg (cs:List AV) (vs:Array Value):vs.size=cs.length->(∀ (i:Nat) (x:AV),cs[i]? = some x->ARel κ x (vs.getD i undef))->ARel κ (.agg cs) (.agg vs)
 | tup (cs:List AV) (vs:Array Value):vs.size=cs.length->(∀ (i:Nat) (x:AV),cs[i]? = some x->ARel κ x (vs.getD i undef))->ARel κ (.tup cs) (.tuple vs)
 | ptr (r o b n:Nat):κ.nm r=some (.blk b n)->ARel κ (.ptr r o) (.pointer (some ⟨b,o,none⟩))
 | row (r sz off len b n cap:Nat):κ.nm r=some (.blk b n)->off+cap*sz<=n->(off=0->cap*sz=n)->len<=cap->cap<=maxLen->ARel κ (.row r sz off len) (.slice (some ⟨b,off,none⟩) len cap)
 | row0 (r sz:Nat):κ.nm r=some (.own (.slice none 0 0))->ARel κ (.row r sz 0 0) (.slice none 0 0)
 | olist (r sz:Nat) (l:List PV) (v:Value):κ.nm r=some (.own v)->PRel κ.w κ.imm (.list l) v->(∀ x∈l,x.cells.length=sz)->ARel κ (.olist r sz l) v
 | clo (f:Nat) (fs cs:List AV) (vs us:Array Value):vs.size=fs.length->(∀ (i:Nat) (x:AV),fs[i]? = some x->ARel κ x (vs.getD i undef)) ->
   us.size=cs.length->(∀ (i:Nat) (x:AV),cs[i]? = some x->ARel κ x (us.getD i undef))->ARel κ (.clo f fs cs) (.func (.func f) vs us)
 | mp (r b:Nat):κ.nm r=some (.mp b)->ARel κ (.mp r) (.map (some b))
 | any (v:Value):ARel κ .any v
structure Ext (κ κ':Kap):Prop where
 imm:∀ b o,κ.imm b o->κ'.imm b o
 cell:∀ b o v,κ.imm b o->κ.w.cell? ⟨b,o,none⟩=some v->κ'.w.cell? ⟨b,o,none⟩=some v
 nm:∀ r d,κ.nm r=some d->κ'.nm r=some d
 obj:∀ (b:Nat) (o:Obj),κ.w.heap[b]? = some o->FX o=false->κ'.w.heap[b]? = some o
theorem Ext.refl (κ:Kap):Ext κ κ:=⟨fun _ _ h=>h,fun _ _ _ _ h=>h,fun _ _ h=>h,fun _ _ h _=>h⟩
theorem Ext.trans {a b c:Kap}(h:Ext a b)(k:Ext b c):Ext a c:=
 ⟨fun b o x=>k.imm b o (h.imm b o x),fun b o v x y=>k.cell b o v (h.imm b o x) (h.cell b o v x y),fun r d x=>k.nm r d (h.nm r d x),fun b o x y=>k.obj b o (h.obj b o x y) y⟩
theorem PRel.ext {κ κ':Kap}(h:Ext κ κ'){p:PV}{v:Value}(hp:PRel κ.w κ.imm p v):PRel κ'.w κ'.imm p v:=hp.mono h.imm h.cell
theorem ARel.extC {κ κ':Kap}(hi:∀ b o,κ.imm b o->κ'.imm b o)(hc:∀ b o v,κ.imm b o->κ.w.cell? ⟨b,o,none⟩=some v->κ'.w.cell? ⟨b,o,none⟩=some v)(hm:∀ r d,κ.nm r=some d->κ'.nm r=some d){x:AV}{v:Value}(hp:ARel κ x v):ARel κ' x v:=by
 induction hp with
 | pv p v hp=>exact .pv p v (hp.mono hi hc)
 | agg cs vs hl _ ih=>exact .agg cs vs hl ih
 | tup cs vs hl _ ih=>exact .tup cs vs hl ih
 | ptr r o b n hn=>exact .ptr r o b n (hm _ _ hn)
 | row r sz off len b n cap hn h1 h0 h2 h3=>exact .row r sz off len b n cap (hm _ _ hn) h1 h0 h2 h3
 | row0 r sz hn=>exact .row0 r sz (hm _ _ hn)
 | olist r sz l v hn hp hs=>exact .olist r sz l v (hm _ _ hn) (hp.mono hi hc) hs
 | clo f fs cs vs us h1 _ h2 _ ih1 ih2=>exact .clo f fs cs vs us h1 ih1 h2 ih2
 | mp r b hn=>exact .mp r b (hm _ _ hn)
 | any v=>exact .any v
theorem ARel.ext {κ κ':Kap}(h:Ext κ κ'){x:AV}{v:Value}(hp:ARel κ x v):ARel κ' x v:=hp.extC h.imm h.cell h.nm
inductive Blk where
 | none
 | cells (T:Nat) (f:Bool) (l:List AV)
 | tok (e sz:Nat)
 | mp (l:List (PV×PV))
 | bts (e:Nat) (l:List UInt8)
def eP (κ:Kap)(r:Nat):Blk->Prop
 | .none=>True
 | .cells T f l=>(f=false/\l=[]/\κ.nm r=some (.own (.slice none 0 0)))\/∃ b n cs,κ.nm r=some (.blk b n)/\κ.w.heap[b]? = some (.cells cs T (0,0))/\cs.size=n/\l.length<=n/\(f=true->l.length=n) /\
   (∀ (o:Nat) (x:AV),l[o]? = some x->ARel κ x (cs.getD o undef))/\(∀ o,¬ κ.imm b o)
 | .tok e sz=>κ.nm r=some (.own (.slice none 0 0))\/∃ g n cap cur,κ.nm r=some (.own (.slice (some ⟨g,0,none⟩) n cap))/\κ.w.heap[g]? = some (.cells cur e (0,0))/\n<=cap/\cap<=maxLen/\cur.size=cap*sz/\(∀ o,n*sz<=o->¬ κ.imm g o)
 | .mp l=>∃ b es ck,κ.nm r=some (.mp b)/\κ.w.heap[b]? = some (.map es ck)/\(∀ (i:Nat) (e:MapEntry),es[i]? = some e->∃ p,l[i]? = some p/\PRel κ.w κ.imm p.1 e.key/\PRel κ.w κ.imm p.2 e.val)/\es.size=l.length/\∀ o,¬ κ.imm b o
 | .bts e l=>∃ b n cs fz,κ.nm r=some (.blk b n)/\κ.w.heap[b]? = some (.cells cs e fz)/\cs.size=n/\l.length<=n/\(∀ (i:Nat) (x:UInt8),l[i]? = some x->cs.getD i undef = .int .u8 (x.toNat:Int))/\∀ o,¬ κ.imm b o
abbrev aq:=Nat->Blk
def aq.set (σ:aq)(r:Nat)(b:Blk):aq:=fun x=>if x=r then b else σ x
def aq.upd (σ:aq):List (Nat×Blk)->aq
 | []=>σ
 | p::r=>aq.upd (σ.set p.1 p.2) r
structure Ctx where
 w0:World
 lent:Nat->Prop
 G:Nat->List PV
 rnd:Bool
def Ctx.mine (c:Ctx)(b:Nat):Prop:=c.w0.heap.size<=b\/c.lent b
def iQ (c:Ctx)(κ:Kap):Prop:=
 (∀ g o p,(c.G g)[o]? = some p->κ.imm g o/\∃ v,κ.w.cell? ⟨g,o,none⟩=some v/\v.oneCell'=true/\PRel κ.w κ.imm p v) /\
 ∀ g,c.G g≠[]->g<c.w0.heap.size/\¬ c.lent g/\∃ cs T fz,κ.w.heap[g]? = some (.cells cs T fz)/\cs.size=(c.G g).length
structure SRel (c:Ctx)(κ:Kap)(σ:aq):Prop where
 blk:∀ r,eP κ r (σ r)
 apart:∀ r r' d d' b,σ r≠.none->σ r'≠.none->r≠r'->κ.nm r=some d->κ.nm r'=some d'->d.block=some b->d'.block≠some b
 mine:∀ r d b,σ r≠.none->κ.nm r=some d->d.block=some b->c.mine b
 immLt:∀ b o,κ.imm b o->b<κ.w.heap.size
 glob:iQ c κ
structure Left (c:Ctx)(imm0:Nat->Nat->Prop)(κ:Kap):Prop where
 os:κ.w.os=c.w0.os
 tape:κ.w.tape=c.w0.tape
 output:κ.w.output=c.w0.output
 size:c.w0.heap.size<=κ.w.heap.size
 block:∀ b,b<c.w0.heap.size->¬ c.lent b->κ.w.heap[b]? = c.w0.heap[b]?
 imm:∀ b o,κ.imm b o->imm0 b o\/c.mine b
theorem eP.keepC {κ κ':Kap}(hx:∀ x v,ARel κ x v->ARel κ' x v)(hpx:∀ p v,PRel κ.w κ.imm p v->PRel κ'.w κ'.imm p v)(hm:∀ r d,κ.nm r=some d->κ'.nm r=some d){r:Nat}{B:Blk}(h:eP κ r B)
  (hk:B≠.none->∀ d b,κ.nm r=some d->d.block=some b->κ'.w.heap[b]? = κ.w.heap[b]?/\∀ o,κ'.imm b o->κ.imm b o):eP κ' r B:=by
 cases B with
 | none=>trivial
 | cells T f l=>
   rcases h with ⟨h,h',h''⟩ | ⟨b,n,cs,h1,h2,h3,h4,h7,h5,h6⟩
   ·exact .inl ⟨h,h',hm _ _ h''⟩
   obtain⟨k1,k2⟩:=hk (by simp) _ b h1 rfl
   exact .inr ⟨b,n,cs,hm _ _ h1,k1.trans h2,h3,h4,h7,fun o x hx'=>hx _ _ (h5 o x hx'),fun o ho=>h6 o (k2 o ho)⟩
 | tok e sz=>
   rcases h with h | ⟨g,n,cap,cur,h1,h2,h3,h4,h5,h6⟩
   ·exact .inl (hm _ _ h)
   obtain⟨k1,k2⟩:=hk (by simp) _ g h1 rfl
   exact .inr ⟨g,n,cap,cur,hm _ _ h1,k1.trans h2,h3,h4,h5,fun o ho hi=>h6 o ho (k2 o hi)⟩
 | mp l=>
   obtain⟨b,es,ck,h1,h2,h3,h4,h5⟩:=h
   obtain⟨k1,k2⟩:=hk (by simp) _ b h1 rfl
   exact⟨b,es,ck,hm _ _ h1,k1.trans h2,fun i e he=>(h3 i e he).imp fun p ⟨q1,q2,q3⟩=>⟨q1,hpx _ _ q2,hpx _ _ q3⟩,h4,fun o ho=>h5 o (k2 o ho)⟩
 | bts e l=>
   obtain⟨b,n,cs,fz,h1,h2,h3,h4,h5,h6⟩:=h
   obtain⟨k1,k2⟩:=hk (by simp) _ b h1 rfl
   exact⟨b,n,cs,fz,hm _ _ h1,k1.trans h2,h3,h4,h5,fun o ho=>h6 o (k2 o ho)⟩
theorem eP.keep {κ κ':Kap}(he:Ext κ κ'){r:Nat}{B:Blk}(h:eP κ r B)
  (hk:B≠.none->∀ d b,κ.nm r=some d->d.block=some b->κ'.w.heap[b]? = κ.w.heap[b]?/\∀ o,κ'.imm b o->κ.imm b o):eP κ' r B:=h.keepC (fun _ _ h=>h.ext he) (fun _ _ h=>h.ext he) he.nm hk
theorem eP.lt {κ:Kap}{r:Nat}{B:Blk}(h:eP κ r B)(hB:B≠.none){d:Den}{b:Nat}(hd:κ.nm r=some d)(hb:d.block=some b):b<κ.w.heap.size:=by
 cases B with
 | none=>exact absurd rfl hB
 | cells T f l=>
   rcases h with ⟨_,_,h⟩ | ⟨b',n,cs,h1,h2,_⟩
   ·rw[h] at hd;cases hd;cases hb
   rw[h1] at hd;cases hd
   cases hb
   exact (UF.1 h2).1
 | tok e sz=>
   rcases h with h | ⟨g,n,cap,cur,h1,h2,_⟩
   ·rw[h] at hd;cases hd;cases hb
   rw[h1] at hd;cases hd
   cases hb
   exact (UF.1 h2).1
 | mp l=>
   obtain⟨b',es,ck,h1,h2,_⟩:=h
   rw[h1] at hd;cases hd
   cases hb
   exact (UF.1 h2).1
 | bts e l=>
   obtain⟨b',n,cs,fz,h1,h2,_⟩:=h
   rw[h1] at hd;cases hd
   cases hb
   exact (UF.1 h2).1
theorem eP.isCells {κ:Kap}{r:Nat}{B:Blk}(h:eP κ r B)(hB:B≠.none){d:Den}{b:Nat}(hd:κ.nm r=some d)(hb:d.block=some b){o:Obj}(ho:κ.w.heap[b]? = some o):FX o=true:=by
 cases B with
 | none=>exact absurd rfl hB
 | cells T f l=>
   rcases h with ⟨_,_,h⟩ | ⟨b',n,cs,h1,h2,_⟩
   ·rw[h] at hd;cases hd;cases hb
   rw[h1] at hd;cases hd
   cases hb
   rw[h2] at ho;cases ho;rfl
 | tok e sz=>
   rcases h with h | ⟨g,n,cap,cur,h1,h2,_⟩
   ·rw[h] at hd;cases hd;cases hb
   rw[h1] at hd;cases hd
   cases hb
   rw[h2] at ho;cases ho;rfl
 | mp l=>
   obtain⟨b',es,ck,h1,h2,_⟩:=h
   rw[h1] at hd;cases hd
   cases hb
   rw[h2] at ho;cases ho;rfl
 | bts e l=>
   obtain⟨b',n,cs,fz,h1,h2,_⟩:=h
   rw[h1] at hd;cases hd
   cases hb
   rw[h2] at ho;cases ho;rfl
theorem T9 {c:Ctx}{κ κ':Kap}(he:Ext κ κ')(h:iQ c κ)(hb:∀ g,g<c.w0.heap.size->¬ c.lent g->κ'.w.heap[g]? = κ.w.heap[g]?):iQ c κ':=by
 refine⟨fun g o p hp=>?_,fun g hg=>?_⟩
 ·obtain⟨h1,v,h2,h3,h4⟩:=h.1 g o p hp
  exact⟨he.imm _ _ h1,v,he.cell _ _ _ h1 h2,h3,h4.ext he⟩
 ·obtain⟨h1,h2,cs,T,fz,h3,h4⟩:=h.2 g hg
  exact⟨h1,h2,cs,T,fz,(hb g h1 h2).trans h3,h4⟩
theorem en {c:Ctx}{g:Nat}(h1:g<c.w0.heap.size)(h2:¬ c.lent g):¬ c.mine g:=fun h=>h.elim (fun h=>absurd h1 (Nat.not_lt.2 h)) h2
structure Done (c:Ctx)(κ κ':Kap)(new:Nat):Prop where
 ext:Ext κ κ'
 left:∀ imm0,Left c imm0 κ->Left c imm0 κ'
 size:κ.w.heap.size<=κ'.w.heap.size
 fresh:∀ r,r≠new->κ.nm r=none->κ'.nm r=none
theorem SRel.drop {c:Ctx}{κ:Kap}{σ:aq}(h:SRel c κ σ)(q:Nat):SRel c κ (σ.set q .none):=by
 have hz:∀ r,(σ.set q .none) r≠.none->σ r≠.none:=by
  intro r hr
  by_cases e:r=q
  ·simp[aq.set,e] at hr
  ·simpa[aq.set,e] using hr
 refine⟨fun r=>?_,fun r r' d d' b h1 h2=>h.apart r r' d d' b (hz r h1) (hz r' h2),fun r d b h1=>h.mine r d b (hz r h1),h.immLt,h.glob⟩
 by_cases e:r=q
 ·simp[aq.set,e,eP]
 ·simpa[aq.set,e] using h.blk r
theorem e7 (w:World)(o:Obj):(w.alloc o).heap.size=w.heap.size+1:=Array.size_push ..
theorem RM {c:Ctx}{κ:Kap}{σ:aq}(hS:SRel c κ σ)(hw:c.w0.heap.size<=κ.w.heap.size)(o:Obj)(q:Nat->Prop)(new:Nat) :
  let κ':Kap:=⟨κ.w.alloc o,κ.nm,fun b j=>κ.imm b j\/(b=κ.w.heap.size/\q j)⟩
  Done c κ κ' new/\SRel c κ' σ:=by
 intro κ'
 have hold:∀ b,b<κ.w.heap.size->κ'.w.heap[b]? = κ.w.heap[b]?:=fun b hb=>Below.heap_alloc κ.w o b hb
 have he:Ext κ κ':=by
  refine⟨fun b j h=>.inl h,fun b j v hi hc=>?_,fun r d' h=>h,fun b o h _=>?_⟩
  ·have hb:=World.block_lt_of_cell? κ.w _ hc
   exact (World.cell?_of_block (a:=⟨b,j,none⟩) (hold b hb)).trans hc
  ·exact (hold b (UF.1 h).1).trans h
 have hsz:κ'.w.heap.size=κ.w.heap.size+1:=e7 κ.w o
 have hlt:∀ r d b,σ r≠.none->κ.nm r=some d->d.block=some b->b<κ.w.heap.size:=fun r d b h1 h2 h3=>(hS.blk r).lt h1 h2 h3
 refine⟨⟨he,fun imm0 hL=>⟨hL.os,hL.tape,hL.output,?_,fun b hb hl=>?_,fun b j hi=>?_⟩,by omega,fun r hr h=>h⟩,
  ⟨fun r=>?_,hS.apart,hS.mine,fun b j hi=>?_,T9 he hS.glob fun g h1 _=>hold g (UZ h1 hw)⟩⟩
 ·have:=hL.size;omega
 ·exact (hold b (UZ hb hL.size)).trans (hL.block b hb hl)
 ·rcases hi with hi | ⟨rfl,_⟩
  ·exact hL.imm b j hi
  ·exact .inr (.inl hL.size)
 ·refine (hS.blk r).keep he fun hz d' b hd' hb'=>?_
  have:=hlt r d' b hz hd' hb'
  exact⟨hold b this,fun j hj=>hj.elim id (fun h=>by omega)⟩
 ·rcases hi with hi | ⟨rfl,_⟩
  ·have:=hS.immLt b j hi;omega
  ·omega
theorem OS {c:Ctx}{κ:Kap}{σ:aq}{new:Nat}(hS:SRel c κ σ)(hw:c.w0.heap.size<=κ.w.heap.size)(hn:κ.nm new=none)(o:Obj)(d:Den)(B:Blk)(q:Nat->Prop)
  (hd:d.block=some κ.w.heap.size) (w1:World) (e1:w1.heap=κ.w.heap) (e2:w1.os=κ.w.os) (e3:w1.tape=κ.w.tape) (e4:w1.output=κ.w.output) :
  let κ':Kap:=⟨w1.alloc o,fun r=>if r=new then some d else κ.nm r,fun b j=>κ.imm b j\/(b=κ.w.heap.size/\q j)⟩
  Done c κ κ' new/\(eP κ' new B->SRel c κ' (σ.set new B)):=by
 intro κ'
 have hold:∀ b,b<κ.w.heap.size->κ'.w.heap[b]? = κ.w.heap[b]?:=fun b hb=>by
  have:=Below.heap_alloc w1 o b (by rw[e1];exact hb)
  rw[e1] at this;exact this
 have he:Ext κ κ':=by
  refine⟨fun b j h=>.inl h,fun b j v hi hc=>?_,fun r d' h=>?_,fun b o h _=>?_⟩
  ·have hb:=World.block_lt_of_cell? κ.w _ hc
   exact (World.cell?_of_block (a:=⟨b,j,none⟩) (hold b hb)).trans hc
  ·have:r≠new:=by rintro rfl;rw[hn] at h;cases h
   simp[κ',this,h]
  ·exact (hold b (UF.1 h).1).trans h
 have hsz:κ'.w.heap.size=κ.w.heap.size+1:=by rw[<- e1];exact e7 w1 o
 refine⟨⟨he,fun imm0 hL=>⟨e2.trans hL.os,e3.trans hL.tape,e4.trans hL.output,?_,fun b hb hl=>?_,fun b j hi=>?_⟩,by omega,fun r hr h=>by simp[κ',hr,h]⟩,fun hB=>?_⟩
 ·have:=hL.size;omega
 ·exact (hold b (UZ hb hL.size)).trans (hL.block b hb hl)
 ·rcases hi with hi | ⟨rfl,_⟩
  ·exact hL.imm b j hi
  ·exact .inr (.inl hL.size)
 ·have hlt:∀ r d b,σ r≠.none->κ.nm r=some d->d.block=some b->b<κ.w.heap.size:=fun r d b h1 h2 h3=>(hS.blk r).lt h1 h2 h3
  refine⟨fun r=>?_,fun r r' d1 d2 b h1 h2 hne hd1 hd2 hb1 hb2=>?_,fun r d1 b h1 hd1 hb1=>?_,fun b j hi=>?_,T9 he hS.glob fun g h1 _=>hold g (UZ h1 hw)⟩
  ·by_cases hr:r=new
   ·subst hr;simpa[aq.set] using hB
   ·simp only[aq.set,hr,if_false]
    refine (hS.blk r).keep he fun hz d' b hd' hb'=>?_
    have:=hlt r d' b hz hd' hb'
    exact⟨hold b this,fun j hj=>hj.elim id (fun h=>by omega)⟩
  ·simp only[aq.set] at h1 h2
   simp only[κ'] at hd1 hd2
   by_cases hr:r=new
   ·subst hr
    have hr':¬ r'=r:=fun e=>hne e.symm
    simp only[if_true,if_neg hr'] at hd1 hd2 h2
    cases hd1
    rw[hd] at hb1;cases hb1
    have:=hlt r' d2 _ h2 hd2 hb2
    omega
   ·simp only[if_neg hr] at hd1 h1
    by_cases hr':r'=new
    ·subst hr'
     simp only[if_true] at hd2
     cases hd2
     rw[hd] at hb2
     have:=hlt r d1 b h1 hd1 hb1
     cases hb2
     omega
    ·simp only[if_neg hr'] at hd2 h2
     exact hS.apart r r' d1 d2 b h1 h2 hne hd1 hd2 hb1 hb2
  ·simp only[aq.set] at h1
   simp only[κ'] at hd1
   by_cases hr:r=new
   ·subst hr
    simp only[if_true] at hd1
    cases hd1
    rw[hd] at hb1;cases hb1
    exact .inl hw
   ·simp only[if_neg hr] at hd1 h1
    exact hS.mine r d1 b h1 hd1 hb1
  ·rcases hi with hi | ⟨rfl,_⟩
   ·have:=hS.immLt b j hi;omega
   ·omega
inductive AX where
 | t (i:Nat)
 | c (p:PV)
 | m (i:Nat) (tb:List (Nat×Nat))
def jH (t:Nat):List (Nat×Nat)->Option Nat
 | []=>none
 | p::r=>if p.1=t then some p.2 else jH t r
def BG (p:PV):Option Nat->AV
 | some f=>.clo f [.pv p] []
 | none=>.any
def Nf (tb:List (Nat×Nat)):AV->AV
 | .pv (.iface T p)=>BG p (jH T tb)
 | _=>.any
def AX.ev (E:Nat->AV):AX->AV
 | .t i=>E i
 | .c p=>.pv p
 | .m i tb=>Nf tb (E i)
def AX.slots:AX->List Nat
 | .t i=>[i]
 | .c _=>[]
 | .m i _=>[i]
def cV1:Value->Option PV
 | .bool b=>some (.bool b)
 | .int k n=>some (.int k n)
 | .string s=>if s.size<=maxLen then some (.str s.data.toList) else none
 | .pointer none=>some .nilp
 | .slice none 0 0=>some .nils
 | .nilFunc=>some .nilf
 | .nilIface=>some .nili
 | _=>none
def D6:List Value->Option (List PV)
 | []=>some []
 | v::r=>match cV1 v,D6 r with
   | some p,some ps=>some (p::ps)
   | _,_=>none
def cV:Value->Option PV
 | .agg cs=>(D6 cs.toList).map .agg
 | .tuple cs=>if cs.toList.isEmpty then some .undef else none
 | v=>cV1 v
def cX:Operand->Option AX
 | .tmp t=>some (.t t)
 | .const v=>(cV v).map .c
 | .global g=>some (.c (.gptr g 0))
 | .func f=>some (.c (.clo f [] []))
theorem Dq {w:World}{imm:Nat->Nat->Prop}{v:Value}{p:PV}(h:cV1 v=some p):PRel w imm p v:=by
 unfold cV1 at h
 split at h
 ·cases h;exact .bool _
 ·cases h;exact .int _ _
 ·split at h
  ·cases h;exact .str _ ‹_›
  ·cases h
 ·cases h;exact .nilp
 ·cases h;exact .nils
 ·cases h;exact .nilf
 ·cases h;exact .nili
 ·cases h
theorem tE:∀ {vs:List Value} {ps:List PV},D6 vs=some ps->vs.length=ps.length
 | [],ps,h=>by simp[D6] at h;subst h;rfl
 | v::r,ps,h=>by
   simp only[D6] at h
   split at h
   ·cases h;simp[tE ‹D6 r=some _›]
   ·cases h
theorem tD {w:World}{imm:Nat->Nat->Prop}:∀ {vs:List Value} {ps:List PV},D6 vs=some ps->∀ (i:Nat) (x:PV),ps[i]? = some x->PRel w imm x (vs.getD i Go.undef)
 | [],ps,h=>by simp[D6] at h;subst h;simp
 | v::r,ps,h=>by
   simp only[D6] at h
   split at h
   ·cases h
    intro i x hx
    cases i with
    | zero=>simp at hx;subst hx;simpa using Dq ‹cV1 v=some _›
    | succ i=>simp at hx;simpa using tD ‹D6 r=some _› i x hx
   ·cases h
theorem aA (a:Array Value)(i:Nat)(d:Value):a.getD i d=a.toList.getD i d:=by
 simp[Uw,Uv]
theorem fK {w:World}{imm:Nat->Nat->Prop}{v:Value}{p:PV}(h:cV v=some p):PRel w imm p v:=by
 unfold cV at h
 split at h
 ·rename_i cs
  simp only[Ut] at h
  obtain⟨ps,h,rfl⟩:=h
  refine .agg _ _ (by simpa using tE h) fun i x hx=>?_
  rw[aA]
  exact tD h i x hx
 ·rename_i cs
  split at h
  ·cases h
   have:cs = #[]:=by simpa using ‹cs.toList.isEmpty=true›
   subst this
   exact .undef
  ·cases h
 ·exact Dq h
theorem az {κ:Kap}{E:Nat->AV}{a:Act}{x:Operand}{ax:AX}(h:cX x=some ax)(hE:∀ i,i∈ax.slots->ARel κ (E i) (a.tmps.getD i Go.undef)):ARel κ (ax.ev E) (a.eval x):=by
 cases x with
 | tmp t=>simp[cX] at h;subst h;exact hE t (by simp[AX.slots])
 | const v=>
   simp only[cX,Ut] at h
   obtain⟨p,h,rfl⟩:=h
   exact .pv _ _ (fK h)
 | global g=>simp[cX] at h;subst h;exact .pv _ _ (.gptr g 0)
 | func f=>simp[cX] at h;subst h;exact .pv _ _ (.clo f [] [] #[] #[] rfl (by simp) rfl (by simp))
def AV.toPV:AV->Option PV
 | .pv p=>some p
 | .olist _ _ l=>some (.list l)
 | _=>none
def pvs:List AV->Option (List PV)
 | []=>some []
 | x::r=>match x.toPV,pvs r with
   | some p,some ps=>some (p::ps)
   | _,_=>none
def iI (cs:List AV):AV:=match pvs cs with
 | some ps=>.pv (.agg ps)
 | none=>.agg cs
def nT (cs:List AV):AV:=match pvs cs with
 | some ps=>.pv (.tup ps)
 | none=>.tup cs
def qL (f:Nat)(fs cs:List AV):AV:=match pvs fs,pvs cs with
 | some a,some b=>.pv (.clo f a b)
 | _,_=>.clo f fs cs
def AV.known:AV->Bool
 | .any=>false
 | _=>true
theorem bI {κ:Kap}{x:AV}{p:PV}{v:Value}(h:x.toPV=some p)(hr:ARel κ x v):PRel κ.w κ.imm p v:=by
 cases x<;>simp[AV.toPV] at h
 ·subst h;cases hr;assumption
 ·subst h;cases hr;assumption
theorem bT:∀ {xs:List AV} {ps:List PV},pvs xs=some ps->ps.length=xs.length
 | [],ps,h=>by simp[pvs] at h;subst h;rfl
 | x::r,ps,h=>by
   simp only[pvs] at h
   split at h
   ·cases h;simp[bT ‹pvs r=some _›]
   ·cases h
theorem cB:∀ {xs:List AV} {ps:List PV},pvs xs=some ps->∀ (i:Nat) (p:PV),ps[i]? = some p->∃ x,xs[i]? = some x/\x.toPV=some p
 | [],ps,h=>by simp[pvs] at h;subst h;simp
 | x::r,ps,h=>by
   simp only[pvs] at h
   split at h
   ·cases h
    intro i p hp
    cases i with
    | zero=>simp at hp;subst hp;exact⟨x,rfl,‹_›⟩
    | succ i=>simp at hp;simpa using cB ‹pvs r=some _› i p hp
   ·cases h
theorem jE {κ:Kap}{cs:List AV}{vs:Array Value}(h:ARel κ (.agg cs) (.agg vs)):ARel κ (iI cs) (.agg vs):=by
 unfold iI
 split
 ·rename_i ps hps
  cases h with
  | agg _ _ hl hr=>
    refine .pv _ _ (.agg _ _ (hl.trans (bT hps).symm) fun i x hx=>?_)
    obtain⟨y,hy,hp⟩:=cB hps i x hx
    exact bI hp (hr i y hy)
 ·exact h
theorem nS {κ:Kap}{cs:List AV}{vs:Array Value}(h:ARel κ (.tup cs) (.tuple vs)):ARel κ (nT cs) (.tuple vs):=by
 unfold nT
 split
 ·rename_i ps hps
  cases h with
  | tup _ _ hl hr=>
    refine .pv _ _ (.tup _ _ (hl.trans (bT hps).symm) fun i x hx=>?_)
    obtain⟨y,hy,hp⟩:=cB hps i x hx
    exact bI hp (hr i y hy)
 ·exact h
theorem Bt {κ:Kap}{f:Nat}{fs cs:List AV}{vs us:Array Value}(h:ARel κ (.clo f fs cs) (.func (.func f) vs us)):ARel κ (qL f fs cs) (.func (.func f) vs us):=by
 unfold qL
 split
 ·rename_i ps qs hps hqs
  cases h with
  | clo _ _ _ _ _ h1 h2 h3 h4=>
    refine .pv _ _ (.clo _ _ _ _ _ (h1.trans (bT hps).symm) (fun i x hx=>?_) (h3.trans (bT hqs).symm) (fun i x hx=>?_))
    ·obtain⟨y,hy,hp⟩:=cB hps i x hx
     exact bI hp (h2 i y hy)
    ·obtain⟨y,hy,hp⟩:=cB hqs i x hx
     exact bI hp (h4 i y hy)
 ·exact h
theorem ARel.cellsOf {κ:Kap}{x:AV}{v:Value}(hk:x.known=true)(h:ARel κ x v) :
  v.cells.size=x.cells.length/\∀ (j:Nat) (y:AV),x.cells[j]? = some y->ARel κ y (v.cells.getD j Go.undef):=by
 have hone:∀ {x:AV} {v:Value},ARel κ x v->v.cells = #[v]->x.cells=[x]->v.cells.size=x.cells.length/\∀ (j:Nat) (y:AV),x.cells[j]? = some y->ARel κ y (v.cells.getD j Go.undef):=by
  intro x v h h1 h2
  rw[h1,h2]
  refine⟨rfl,fun j y hy=>?_⟩
  cases j with
  | zero=>simp at hy;subst hy;simpa using h
  | succ j=>simp at hy
 cases h with
 | pv p v hp=>
   cases hp with
   | agg cs vs hl hr=>
     refine⟨by simp[Value.cells,AV.cells,PV.cells,hl],fun j y hy=>?_⟩
     simp only[AV.cells,PV.cells,UE,Ut] at hy
     obtain⟨q,hq,rfl⟩:=hy
     exact .pv _ _ (hr j q hq)
   | tup cs vs hl hr=>exact hone (.pv _ _ (.tup cs vs hl hr)) rfl rfl
   | undef=>exact hone (.pv _ _ .undef) rfl rfl
   | bool b=>exact hone (.pv _ _ (.bool b)) rfl rfl
   | int k n=>exact hone (.pv _ _ (.int k n)) rfl rfl
   | str s h=>exact hone (.pv _ _ (.str s h)) rfl rfl
   | nils=>exact hone (.pv _ _ .nils) rfl rfl
   | lnil A c h=>exact hone (.pv _ _ (.lnil A c h)) rfl rfl
   | list l b off c sz g h1 h2 h3 h4 h5=>exact hone (.pv _ _ (.list l b off c sz g h1 h2 h3 h4 h5)) rfl rfl
   | nilp=>exact hone (.pv _ _ .nilp) rfl rfl
   | nilf=>exact hone (.pv _ _ .nilf) rfl rfl
   | clo f fs cs vs us h1 h2 h3 h4=>exact hone (.pv _ _ (.clo f fs cs vs us h1 h2 h3 h4)) rfl rfl
   | eptr l b off c sz g i o h1 h2 h3 h4 h5 h6=>exact hone (.pv _ _ (.eptr l b off c sz g i o h1 h2 h3 h4 h5 h6)) rfl rfl
   | gptr g o=>exact hone (.pv _ _ (.gptr g o)) rfl rfl
   | nili=>exact hone (.pv _ _ .nili) rfl rfl
   | iface T p u h=>exact hone (.pv _ _ (.iface T p u h)) rfl rfl
 | agg cs vs hl hr=>exact⟨by simpa[Value.cells,AV.cells] using hl,fun j y hy=>hr j y hy⟩
 | tup cs vs hl hr=>exact hone (.tup cs vs hl hr) rfl rfl
 | ptr r o b n h=>exact hone (.ptr r o b n h) rfl rfl
 | row r sz off len b n cap h1 h2 h3 h4 h5=>exact hone (.row r sz off len b n cap h1 h2 h3 h4 h5) rfl rfl
 | row0 r sz h1=>exact hone (.row0 r sz h1) rfl rfl
 | olist r sz l v h1 h2 h3=>
   refine hone (.olist r sz l v h1 h2 h3) ?_ rfl
   cases h2<;>rfl
 | clo f fs cs vs us h1 h2 h3 h4=>exact hone (.clo f fs cs vs us h1 h2 h3 h4) rfl rfl
 | mp r b h1=>exact hone (.mp r b h1) rfl rfl
 | any v=>simp[AV.known] at hk
theorem ARel.oneCell {κ:Kap}{x:AV}{v:Value}(hk:x.one=true)(h:ARel κ x v):v.oneCell'=true:=by
 cases h with
 | pv p v hp=>cases hp<;>simp[AV.one,PV.one] at hk<;>rfl
 | olist r sz l v h1 h2 h3=>cases h2<;>rfl
 | _=>first | rfl | simp[AV.one] at hk
inductive TOp where
 | mv (x:AX)
 | pick (c a b:AX)
 | build (zs:List PV) (parts:List (Nat×Nat×AX))
 | faddr (off:Nat) (x:AX)
 | field (agg:Bool) (sz off:Nat) (x:AX)
 | iaddr (sz:Nat) (x i:AX)
 | iaddrA (n sz:Nat) (x i:AX)
 | index (x i:AX)
 | indexA (agg:Bool) (n sz:Nat) (x i:AX)
 | len (st:Bool) (x:AX)
 | lenC (n:Nat)
 | imin (x y:AX)
 | imax (x y:AX)
 | sliceL (sz:Nat) (x:AX) (lo hi:Option AX)
 | sliceS (x:AX) (lo hi:Option AX)
 | bin (op:BinOp) (x y:AX)
 | beq (kd:Nat) (ng:Bool) (x y:AX)
 | neg (x:AX)
 | not (x:AX)
 | compl (x:AX)
 | conv (k:IntKind) (x:AX)
 | convS (x:AX)
 | convIS (x:AX)
 | beqS (ng:Bool) (ks:List Nat) (x y:AX)
 | clo (f:Nat) (fs cs:List AX)
 | ext (x:AX) (i:Nat)
 | nilck (x:AX)
def iv:Option AX->List Nat
 | some x=>x.slots
 | none=>[]
def TOp.slots:TOp->List Nat
 | .mv x | .faddr _ x | .field _ _ _ x | .len _ x | .neg x | .not x | .compl x | .conv _ x | .convS x | .convIS x | .ext x _ | .nilck x=>x.slots
 | .pick c a b=>c.slots++a.slots++b.slots
 | .build _ ps=>ps.flatMap fun p=>p.2.2.slots
 | .iaddr _ x i | .iaddrA _ _ x i | .index x i | .indexA _ _ _ x i | .imin x i | .imax x i | .bin _ x i | .beq _ _ x i | .beqS _ _ x i=>x.slots++i.slots
 | .lenC _=>[]
 | .sliceL _ x l h | .sliceS x l h=>x.slots++iv l++iv h
 | .clo _ fs cs=>(fs.flatMap AX.slots)++cs.flatMap AX.slots
def fX (cells:List AV):List (Nat×Nat×AV)->Option (List AV)
 | []=>some cells
 | (off,sz,x)::r=>if x.known=true/\x.cells.length=sz/\off+sz<=cells.length then fX (cells.take off++x.cells++cells.drop (off+sz)) r else none
def dg (agg:Bool)(sz off:Nat)(cs:List AV):Option AV:=
 match agg with
 | true=>if off+sz<=cs.length then some (iI ((cs.drop off).take sz)) else none
 | false=>cs[off]?
def qd:AV->AV->AV->Option AV
 | .pv (.bool b),x,y=>some (if b then x else y)
 | _,_,_=>none
def iq (off:Nat):AV->Option AV
 | .ptr r o=>some (.ptr r (o+off))
 | .pv (.eptr l i o)=>some (.pv (.eptr l i (o+off)))
 | .pv (.gptr g o)=>some (.pv (.gptr g (o+off)))
 | _=>none
def jw (agg:Bool)(sz off:Nat):AV->Option AV
 | .pv (.agg ps)=>dg agg sz off (ps.map .pv)
 | .agg cs=>dg agg sz off cs
 | _=>none
def gp (sz:Nat)(l:List PV)(n:Int):Option AV:=
 if 0<=n then match l[n.toNat]? with
  | some y=>if y.cells.length=sz then some (.pv (.eptr l n.toNat 0)) else none
  | none=>none
 else none
def gn (sz:Nat):AV->AV->Option AV
 | .pv (.list l),.pv (.int _ n)=>gp sz l n
 | .olist _ _ l,.pv (.int _ n)=>gp sz l n
 | .row r s off len,.pv (.int _ n)=>if s=sz/\0<=n/\n.toNat<len then some (.ptr r (off+n.toNat*sz)) else none
 | _,_=>none
def gY (n sz:Nat):AV->AV->Option AV
 | .ptr r o,.pv (.int _ i)=>if 0<=i/\i.toNat<n then some (.ptr r (o+i.toNat*sz)) else none
 | .pv (.gptr g o),.pv (.int _ i)=>if 0<=i/\i.toNat<n then some (.pv (.gptr g (o+i.toNat*sz))) else none
 | _,_=>none
def gm:AV->AV->Option AV
 | .pv (.str s),.pv (.int _ i)=>if 0<=i then (s[i.toNat]?).map fun b=>.pv (.int .u8 b.toNat) else none
 | _,_=>none
def gX (agg:Bool)(n sz:Nat):AV->AV->Option AV
 | .pv (.agg ps),.pv (.int _ i)=>if 0<=i/\i.toNat<n then dg agg sz (i.toNat*sz) (ps.map .pv) else none
 | .agg cs,.pv (.int _ i)=>if 0<=i/\i.toNat<n then dg agg sz (i.toNat*sz) cs else none
 | _,_=>none
def D2:Bool->AV->Option AV
 | true,.pv (.str s)=>some (.pv (.int .i64 s.length))
 | false,.pv (.list l)=>some (.pv (.int .i64 l.length))
 | false,.pv .nils=>some (.pv (.int .i64 0))
 | false,.olist _ _ l=>some (.pv (.int .i64 l.length))
 | false,.row _ _ _ n=>some (.pv (.int .i64 n))
 | _,_=>none
def K4:AV->AV->Option AV
 | .pv (.int k x),.pv (.int _ y)=>some (.pv (.int k (if y<x then y else x)))
 | _,_=>none
def K5:AV->AV->Option AV
 | .pv (.int k x),.pv (.int _ y)=>some (.pv (.int k (if y>x then y else x)))
 | _,_=>none
def bd (d:Nat)(top:Nat):Option AV->Option Nat
 | none=>some d
 | some (.pv (.int _ n))=>if 0<=n/\n<=top then some n.toNat else none
 | some _=>none
def M8 (sz:Nat)(l:List PV)(a:Nat):Bool:=
 match a with
 | 0=>true
 | a+1=>match l[a+1]? with
   | some y=>y.cells.length == sz
   | none=>true
def IC (sz:Nat)(l:List PV)(lo hi:Option AV):Option AV:=
 match bd l.length l.length hi with
 | some h=>match bd 0 h lo with
   | some a=>if M8 sz l a=true then some (.pv (.list ((l.take h).drop a))) else none
   | none=>none
 | none=>none
def dd (sz:Nat)(x:AV)(lo hi:Option AV):Option AV:=
 match x with
 | .pv .nils=>match bd 0 0 hi with
   | some h=>(bd 0 h lo).map fun _=>.pv .nils
   | none=>none
 | .pv (.list l)=>IC sz l lo hi
 | .olist _ _ l=>IC sz l lo hi
 | .row r s off n=>match bd n n hi with
   | some h=>match bd 0 h lo with
     | some a=>if s=sz/\0<sz then (if a=0 then some (.row r s off h) else if a<h then some (.row r s (off+a*sz) (h - a)) else some (.pv (.list []))) else none
     | none=>none
   | none=>none
 | _=>none
def fU (x:AV)(lo hi:Option AV):Option AV:=
 match x with
 | .pv (.str l)=>match bd l.length l.length hi with
   | some h=>(bd 0 h lo).map fun a=>.pv (.str ((l.take h).drop a))
   | none=>none
 | _=>none
def ca (a b:List UInt8):Bool:=Op.bytesLess a b
def mW (op:BinOp)(k:IntKind)(a b:Int):Option PV:=
 match op with
 | .add=>some (.int k (k.wrap (a+b)))
 | .sub=>some (.int k (k.wrap (a - b)))
 | .mul=>some (.int k (k.wrap (a*b)))
 | .quo=>if b=0 then none else some (.int k (k.wrap (a.tdiv b)))
 | .rem=>if b=0 then none else some (.int k (a.tmod b))
 | .and=>some (.int k (bits .and k a b))
 | .or=>some (.int k (bits .or k a b))
 | .xor=>some (.int k (bits .xor k a b))
 | .andNot=>some (.int k (bits .andNot k a b))
 | .eql=>some (.bool (a == b))
 | .neq=>some (.bool (a != b))
 | .lss=>some (.bool (decide (a<b)))
 | .leq=>some (.bool (decide (a<=b)))
 | .gtr=>some (.bool (decide (a>b)))
 | .geq=>some (.bool (decide (a>=b)))
 | _=>none
def Nb (op:BinOp)(a b:List UInt8):Option PV:=
 match op with
 | .add=>if a.length+b.length<=maxLen then some (.str (a++b)) else none
 | .eql=>some (.bool (a == b))
 | .neq=>some (.bool (!(a == b)))
 | .lss=>some (.bool (ca a b))
 | .leq=>some (.bool (ca a b||a == b))
 | .gtr=>some (.bool (!(ca a b||a == b)))
 | .geq=>some (.bool (!(ca a b)))
 | _=>none
def sq (op:BinOp)(k:IntKind)(a b:Int):Option PV:=
 if b<0 then none else
 match op with
 | .shl=>some (.int k (k.wrap (a*2 ^ (min b.toNat k.bits))))
 | .shr=>some (.int k (a.fdiv (2 ^ (min b.toNat k.bits))))
 | _=>none
def dw (op:BinOp):AV->AV->Option AV
 | .pv (.int k a),.pv (.int k' b)=>match op with
   | .shl=>(sq .shl k a b).map .pv
   | .shr=>(sq .shr k a b).map .pv
   | op=>if k=k' then (mW op k a b).map .pv else none
 | .pv (.str a),.pv (.str b)=>(Nb op a b).map .pv
 | _,_=>none
def Nh:Nat->PV->PV->Option Bool
 | 0,.bool a,.bool b=>some (a == b)
 | 1,.int k a,.int k' b=>if k=k' then some (a == b) else none
 | 2,.str a,.str b=>some (a == b)
 | _,_,_=>none
def I7:Option Bool->Option Bool->Option Bool
 | some b,some c=>some (b&&c)
 | _,_=>none
def oF:List Nat->List PV->List PV->Option Bool
 | [],[],[]=>some true
 | k::l,p::r,q::s=>I7 (Nh k p q) (oF l r s)
 | _,_,_=>none
def qq (ks:List Nat):AV->AV->Option Bool
 | .pv (.agg ps),.pv (.agg qs)=>oF ks ps qs
 | _,_=>none
def qt:Nat->AV->AV->Option Bool
 | 0,.pv (.bool a),.pv (.bool b)=>some (a == b)
 | 1,.ptr _ _,.pv .nilp=>some false
 | 1,.pv .nilp,.pv .nilp=>some true
 | 1,.pv (.eptr _ _ _),.pv .nilp=>some false
 | 2,.pv .nils,.pv .nils=>some true
 | 2,.pv (.list (_::_)),.pv .nils=>some false
 | 2,.olist _ _ (_::_),.pv .nils=>some false
 | 2,.row _ _ _ (_+1),.pv .nils=>some false
 | _,_,_=>none
def Nd:AV->Option AV
 | .pv (.int k n)=>some (.pv (.int k (k.wrap (0 - n))))
 | _=>none
def Nc:AV->Option AV
 | .pv (.bool b)=>some (.pv (.bool (!b)))
 | _=>none
def nJ:AV->Option AV
 | .pv (.int k n)=>some (.pv (.int k (bits .xor k (if k.signed then -1 else k.max) n)))
 | _=>none
def uV (k:IntKind):AV->Option AV
 | .pv (.int _ n)=>some (.pv (.int k (k.wrap n)))
 | _=>none
def k9:AV->Option AV
 | .pv (.str s)=>some (.pv (.str s))
 | _=>none
def gZ:AV->Option AV
 | .pv (.int _ n)=>some (.pv (.str (Utf8.encode n).data.toList))
 | _=>none
def D1:AV->Option AV
 | .ptr r o=>some (.ptr r o)
 | .pv (.eptr l i o)=>some (.pv (.eptr l i o))
 | .pv (.gptr g o)=>some (.pv (.gptr g o))
 | .pv (.clo f a b)=>some (.pv (.clo f a b))
 | .clo f a b=>some (.clo f a b)
 | _=>none
def K8 (i:Nat):AV->Option AV
 | .pv (.tup ps)=>(ps[i]?).map .pv
 | .tup cs=>cs[i]?
 | _=>none
def TOp.run (E:Nat->AV):TOp->Option AV
 | .mv x=>some (x.ev E)
 | .pick c a b=>qd (c.ev E) (a.ev E) (b.ev E)
 | .build zs ps=>(fX (zs.map .pv) (ps.map fun p=>(p.1,p.2.1,p.2.2.ev E))).map iI
 | .faddr off x=>iq off (x.ev E)
 | .field g sz off x=>jw g sz off (x.ev E)
 | .iaddr sz x i=>gn sz (x.ev E) (i.ev E)
 | .iaddrA n sz x i=>gY n sz (x.ev E) (i.ev E)
 | .index x i=>gm (x.ev E) (i.ev E)
 | .indexA g n sz x i=>gX g n sz (x.ev E) (i.ev E)
 | .len st x=>D2 st (x.ev E)
 | .lenC n=>some (.pv (.int .i64 n))
 | .imin x y=>K4 (x.ev E) (y.ev E)
 | .imax x y=>K5 (x.ev E) (y.ev E)
 | .sliceL sz x lo hi=>dd sz (x.ev E) (lo.map (·.ev E)) (hi.map (·.ev E))
 | .sliceS x lo hi=>fU (x.ev E) (lo.map (·.ev E)) (hi.map (·.ev E))
 | .bin op x y=>dw op (x.ev E) (y.ev E)
 | .beq kd ng x y=>(qt kd (x.ev E) (y.ev E)).map fun b=>.pv (.bool (if ng then !b else b))
 | .neg x=>Nd (x.ev E)
 | .not x=>Nc (x.ev E)
 | .compl x=>nJ (x.ev E)
 | .conv k x=>uV k (x.ev E)
 | .convS x=>k9 (x.ev E)
 | .convIS x=>gZ (x.ev E)
 | .beqS ng ks x y=>(qq ks (x.ev E) (y.ev E)).map fun b=>.pv (.bool (if ng then !b else b))
 | .clo f fs cs=>some (qL f (fs.map (·.ev E)) (cs.map (·.ev E)))
 | .ext x i=>K8 i (x.ev E)
 | .nilck x=>D1 (x.ev E)
section
variable {P:Program}{κ:Kap}
theorem aG {p:PV}{v:Value}(h:ARel κ (.pv p) v):PRel κ.w κ.imm p v:=by cases h;assumption
theorem aV {k:IntKind}{n:Int}{v:Value}(h:ARel κ (.pv (.int k n)) v):v = .int k n:=by
 cases h with
 | pv _ _ h=>cases h;rfl
theorem cY {b:Bool}{v:Value}(h:ARel κ (.pv (.bool b)) v):v = .bool b:=by
 cases h with
 | pv _ _ h=>cases h;rfl
theorem d9 {l:List UInt8}{v:Value}(h:ARel κ (.pv (.str l)) v):∃ s:ByteArray,v = .string s/\l=s.data.toList/\s.size<=maxLen:=by
 cases h with
 | pv _ _ h=>cases h with
   | str s hs=>exact⟨s,rfl,rfl,hs⟩
theorem NB {s:ByteArray}(h:s.size<=maxLen):ARel κ (.pv (.str s.data.toList)) (.string s):=.pv _ _ (.str s h)
theorem yZ {l:List UInt8}{s:ByteArray}(e:s.data.toList=l)(h:l.length<=maxLen):ARel κ (.pv (.str l)) (.string s):=by
 subst e;exact NB (by simpa using h)
theorem nk (s:ByteArray):s.data.toList.length=s.size:=rfl
theorem NN {c x y:AV}{vc vx vy:Value}{v:AV}(hc:ARel κ c vc)(hx:ARel κ x vx)(hy:ARel κ y vy)(hr:qd c x y=some v) :
  ∃ b,vc = .bool b/\ARel κ v (if b then vx else vy):=by
 unfold qd at hr
 split at hr
 ·rename_i b
  cases hr
  refine⟨b,cY hc,?_⟩
  cases b<;>simpa
 ·cases hr
theorem J3 {off:Nat}{x v:AV}{u:Value}(hx:ARel κ x u)(hr:iq off x=some v) :
  ∃ b o,u = .pointer (some ⟨b,o,none⟩)/\ARel κ v (.pointer (some ⟨b,o+off,none⟩)):=by
 unfold iq at hr
 split at hr
 ·rename_i r o
  cases hr
  cases hx with
  | ptr r o b n h=>exact⟨b,o,rfl,.ptr r _ b n h⟩
 ·rename_i l i o
  cases hr
  cases aG hx with
  | eptr l b off' c sz g i o h1 h2 h3 h4 h5 h6=>
    refine⟨b,_,rfl,?_⟩
    rw[Nat.add_assoc (off'+i*sz) o off]
    exact .pv _ _ (.eptr l b off' c sz g i (o+off) h1 h2 h3 h4 h5 h6)
 ·rename_i g o
  cases hr
  cases aG hx with
  | gptr g o=>exact⟨g,o,rfl,.pv _ _ (.gptr g _)⟩
 ·cases hr
theorem Iw {sz:Nat}{l:List PV}{n:Int}{v:AV}{u:Value}(hp:PRel κ.w κ.imm (.list l) u)(hr:gp sz l n=some v) :
  ∃ b o len cap,u = .slice (some ⟨b,o,none⟩) len cap/\0<=n/\n<len/\ARel κ v (.pointer (some ⟨b,o+n.toNat*sz,none⟩)):=by
 unfold gp at hr
 split at hr
 ·rename_i h0
  split at hr
  ·rename_i y hy
   split at hr
   ·rename_i hsz
    cases hr
    have hlt:n.toNat<l.length:=(Ur.1 hy).1
    cases hp with
    | lnil A c h=>simp at hlt
    | list _ b off c sz' g h1 h2 h3 h4 h5=>
      refine⟨b,off,l.length,c,rfl,h0,by omega,?_⟩
      obtain rfl:sz'=sz:=by rw[<- h3 _ _ hy,hsz]
      exact .pv _ _ (PRel.eptr (w:=κ.w) (imm:=κ.imm) l b off c sz' g n.toNat 0 h1 h2 h3 h4 h5 hlt)
   ·cases hr
  ·cases hr
 ·cases hr
theorem J1 {sz:Nat}{x i v:AV}{u ui:Value}(hx:ARel κ x u)(hi:ARel κ i ui)(hr:gn sz x i=some v) :
  ∃ b o len cap k n,u = .slice (some ⟨b,o,none⟩) len cap/\ui = .int k n/\0<=n/\n<len/\ARel κ v (.pointer (some ⟨b,o+n.toNat*sz,none⟩)):=by
 unfold gn at hr
 split at hr
 ·rename_i l k n
  obtain⟨b,o,len,cap,h1,h2,h3,h4⟩:=Iw (aG hx) hr
  exact⟨b,o,len,cap,k,n,h1,aV hi,h2,h3,h4⟩
 ·rename_i r s l k n
  cases hx with
  | olist _ _ _ _ hn hp _=>
    obtain⟨b,o,len,cap,h1,h2,h3,h4⟩:=Iw hp hr
    exact⟨b,o,len,cap,k,n,h1,aV hi,h2,h3,h4⟩
 ·rename_i r s off len k n
  split at hr
  ·rename_i h
   cases hr
   obtain⟨rfl,h0,hlt⟩:=h
   cases hx with
   | row _ _ _ _ b N cap hn h1 h4 h2 h3=>
     exact⟨b,off,len,cap,k,n,rfl,aV hi,h0,by omega,.ptr r _ b N hn⟩
   | row0=>omega
  ·cases hr
 ·cases hr
theorem EZ {n sz:Nat}{x i v:AV}{u ui:Value}(hx:ARel κ x u)(hi:ARel κ i ui)(hr:gY n sz x i=some v) :
  ∃ b o k j,u = .pointer (some ⟨b,o,none⟩)/\ui = .int k j/\0<=j/\j<n/\ARel κ v (.pointer (some ⟨b,o+j.toNat*sz,none⟩)):=by
 unfold gY at hr
 split at hr
 ·rename_i r o k j
  split at hr
  ·rename_i h
   cases hr
   cases hx with
   | ptr _ _ b N hn=>exact⟨b,o,k,j,rfl,aV hi,h.1,by omega,.ptr r _ b N hn⟩
  ·cases hr
 ·rename_i g o k j
  split at hr
  ·rename_i h
   cases hr
   cases aG hx with
   | gptr g o=>exact⟨g,o,k,j,rfl,aV hi,h.1,by omega,.pv _ _ (.gptr g _)⟩
  ·cases hr
 ·cases hr
theorem sh {agg:Bool}{sz off:Nat}{cs:List AV}{vs:Array Value}{v:AV}(hl:vs.size=cs.length)(hc:∀ (i:Nat) (x:AV),cs[i]? = some x->ARel κ x (vs.getD i Go.undef))
  (hr:dg agg sz off cs=some v):∃ u,ARel κ v u/\(agg=true->u = .agg (vs.extract off (off+sz)))/\(agg=false->vs[off]? = some u):=by
 unfold dg at hr
 cases agg with
 | true=>
   simp only at hr
   split at hr
   ·rename_i h
    cases hr
    refine⟨_,jE (.agg _ (vs.extract off (off+sz)) ?_ fun i x hx=>?_),(fun _=>rfl),(fun h=>by cases h)⟩
    ·simp only[Array.size_extract,List.length_take,List.length_drop];omega
    ·simp only[UL,Vl] at hx
     split at hx
     ·rename_i hi
      have h2:=hc _ _ hx
      have hlt:off+i<cs.length:=(Ur.1 hx).1
      have e:(vs.extract off (off+sz)).getD i Go.undef=vs.getD (off+i) Go.undef:=by
       simp only[Uw]
       rw[Array.getElem?_extract]
       split
       ·rfl
       ·omega
      rw[e];exact h2
     ·cases hx
   ·cases hr
 | false=>
   simp only at hr
   have hlt:off<cs.length:=(Ur.1 hr).1
   refine⟨vs.getD off Go.undef,hc _ _ hr,(fun h=>by cases h),(fun _=>?_)⟩
   have hv:off<vs.size:=by omega
   simp[Uw,hv]
theorem mQ {ps:List PV}{u:Value}(h:ARel κ (.pv (.agg ps)) u):∃ vs:Array Value,u = .agg vs/\vs.size=(ps.map AV.pv).length/\∀ (i:Nat) (x:AV),(ps.map AV.pv)[i]? = some x->ARel κ x (vs.getD i Go.undef):=by
 cases aG h with
 | agg _ vs hl hr=>
   refine⟨vs,rfl,by simpa using hl,fun i x hx=>?_⟩
   simp only[UE,Ut] at hx
   obtain⟨q,hq,rfl⟩:=hx
   exact .pv _ _ (hr i q hq)
theorem J2 {agg:Bool}{sz off:Nat}{x v:AV}{u:Value}(hx:ARel κ x u)(hr:jw agg sz off x=some v) :
  ∃ vs z,u = .agg vs/\ARel κ v z/\(agg=true->z = .agg (vs.extract off (off+sz)))/\(agg=false->vs[off]? = some z):=by
 unfold jw at hr
 split at hr
 ·obtain⟨vs,rfl,hl,hc⟩:=mQ hx
  obtain⟨z,h1,h2,h3⟩:=sh hl hc hr
  exact⟨vs,z,rfl,h1,h2,h3⟩
 ·cases hx with
  | agg _ vs hl hc=>
    obtain⟨z,h1,h2,h3⟩:=sh hl hc hr
    exact⟨vs,z,rfl,h1,h2,h3⟩
 ·cases hr
theorem J0 {x i v:AV}{u ui:Value}(hx:ARel κ x u)(hi:ARel κ i ui)(hr:gm x i=some v) :
  ∃ (s:ByteArray) (k:IntKind) (n:Int) (b:UInt8),u = .string s/\ui = .int k n/\0<=n/\s[n.toNat]? = some b/\v = .pv (.int .u8 b.toNat):=by
 unfold gm at hr
 split at hr
 ·rename_i l k n
  split at hr
  ·rename_i h0
   simp only[Ut] at hr
   obtain⟨b,hb,rfl⟩:=hr
   obtain⟨s,rfl,rfl,_⟩:=d9 hx
   refine⟨s,k,n,b,rfl,aV hi,h0,?_,rfl⟩
   obtain⟨hlt,he⟩:=Ur.1 hb
   have hlt':n.toNat<s.size:=hlt
   rw[getElem?_pos s n.toNat hlt']
   have e:s[n.toNat]=s.data[n.toNat]:=rfl
   rw[e]
   simpa using he
  ·cases hr
 ·cases hr
theorem EY {agg:Bool}{n sz:Nat}{x i v:AV}{u ui:Value}(hx:ARel κ x u)(hi:ARel κ i ui)(hr:gX agg n sz x i=some v) :
  ∃ vs j k z,u = .agg vs/\ui = .int k j/\0<=j/\j<n/\ARel κ v z/\(agg=true->z = .agg (vs.extract (j.toNat*sz) (j.toNat*sz+sz)))/\(agg=false->vs[j.toNat*sz]? = some z):=by
 unfold gX at hr
 split at hr
 ·rename_i ps k j
  split at hr
  ·rename_i h
   obtain⟨vs,rfl,hl,hc⟩:=mQ hx
   obtain⟨z,h1,h2,h3⟩:=sh hl hc hr
   exact⟨vs,j,k,z,rfl,aV hi,h.1,by omega,h1,h2,h3⟩
  ·cases hr
 ·rename_i cs k j
  split at hr
  ·rename_i h
   cases hx with
   | agg _ vs hl hc=>
     obtain⟨z,h1,h2,h3⟩:=sh hl hc hr
     exact⟨vs,j,k,z,rfl,aV hi,h.1,by omega,h1,h2,h3⟩
  ·cases hr
 ·cases hr
theorem NR {st:Bool}{x v:AV}{u:Value}(hx:ARel κ x u)(hr:D2 st x=some v) :
  (st=true->∃ s:ByteArray,u = .string s/\v = .pv (.int .i64 s.size))/\(st=false->∃ A n c,u = .slice A n c/\v = .pv (.int .i64 n)):=by
 have main:∀ l,PRel κ.w κ.imm (.list l) u->∃ A c,u = .slice A l.length c:=by
  intro l hp
  cases hp with
  | lnil A c h=>exact⟨A,c,rfl⟩
  | list _ b off c sz' g h1 h2 h3 h4 h5=>exact⟨_,_,rfl⟩
 unfold D2 at hr
 split at hr
 ·cases hr
  obtain⟨s,rfl,rfl,_⟩:=d9 hx
  exact⟨fun _=>⟨s,rfl,rfl⟩,fun h=>by cases h⟩
 ·cases hr
  obtain⟨A,c,rfl⟩:=main _ (aG hx)
  exact⟨fun h=>(by cases h),fun _=>⟨A,_,c,rfl,rfl⟩⟩
 ·cases hr
  cases aG hx
  exact⟨fun h=>(by cases h),fun _=>⟨_,_,_,rfl,rfl⟩⟩
 ·cases hr
  cases hx with
  | olist _ _ _ _ hn hp _=>
    obtain⟨A,c,rfl⟩:=main _ hp
    exact⟨fun h=>(by cases h),fun _=>⟨A,_,c,rfl,rfl⟩⟩
 ·cases hr
  cases hx
  ·exact⟨fun h=>(by cases h),fun _=>⟨_,_,_,rfl,rfl⟩⟩
  ·exact⟨fun h=>(by cases h),fun _=>⟨_,_,_,rfl,rfl⟩⟩
 ·cases hr
theorem Rw {x y v:AV}{ux uy:Value}(hx:ARel κ x ux)(hy:ARel κ y uy)(hr:K4 x y=some v):∃ k a k' b,ux = .int k a/\uy = .int k' b/\v = .pv (.int k (if b<a then b else a)):=by
 unfold K4 at hr
 split at hr
 ·cases hr;exact⟨_,_,_,_,aV hx,aV hy,rfl⟩
 ·cases hr
theorem Rx {x y v:AV}{ux uy:Value}(hx:ARel κ x ux)(hy:ARel κ y uy)(hr:K5 x y=some v):∃ k a k' b,ux = .int k a/\uy = .int k' b/\v = .pv (.int k (if b>a then b else a)):=by
 unfold K5 at hr
 split at hr
 ·cases hr;exact⟨_,_,_,_,aV hx,aV hy,rfl⟩
 ·cases hr
theorem Ru {x v:AV}{ux:Value}(hx:ARel κ x ux)(hr:Nd x=some v):∃ k a,ux = .int k a/\v = .pv (.int k (k.wrap (0 - a))):=by
 unfold Nd at hr
 split at hr
 ·cases hr;exact⟨_,_,aV hx,rfl⟩
 ·cases hr
theorem Rs {x v:AV}{ux:Value}(hx:ARel κ x ux)(hr:Nc x=some v):∃ b,ux = .bool b/\v = .pv (.bool (!b)):=by
 unfold Nc at hr
 split at hr
 ·cases hr;exact⟨_,cY hx,rfl⟩
 ·cases hr
theorem J5 {x v:AV}{ux:Value}(hx:ARel κ x ux)(hr:nJ x=some v):∃ k a,ux = .int k a/\v = .pv (.int k (bits .xor k (if k.signed then -1 else k.max) a)):=by
 unfold nJ at hr
 split at hr
 ·cases hr;exact⟨_,_,aV hx,rfl⟩
 ·cases hr
theorem NX {k:IntKind}{x v:AV}{ux:Value}(hx:ARel κ x ux)(hr:uV k x=some v):∃ k' a,ux = .int k' a/\v = .pv (.int k (k.wrap a)):=by
 unfold uV at hr
 split at hr
 ·cases hr;exact⟨_,_,aV hx,rfl⟩
 ·cases hr
theorem Pn (n:Int):(Utf8.encode n).size<=maxLen:=by
 refine UX (m:=4) ?_ (by unfold maxLen;omega)
 unfold Utf8.encode
 simp only
 generalize (if Utf8.valid n=true then n.toNat else Utf8.runeError)=c
 split
 ·exact Nat.le_of_ble_eq_true rfl
 ·split
  ·exact Nat.le_of_ble_eq_true rfl
  ·split<;>exact Nat.le_of_ble_eq_true rfl
theorem E0 {x v:AV}{ux:Value}(hx:ARel κ x ux)(hr:gZ x=some v):∃ k n,ux = .int k n/\v = .pv (.str (Utf8.encode n).data.toList):=by
 unfold gZ at hr
 split at hr
 ·cases hr;exact⟨_,_,aV hx,rfl⟩
 ·cases hr
theorem J4 {x v:AV}{ux:Value}(hx:ARel κ x ux)(hr:k9 x=some v):∃ s,ux = .string s/\v=x:=by
 unfold k9 at hr
 split at hr
 ·cases hr
  obtain⟨s,h,_⟩:=d9 hx
  exact⟨s,h,rfl⟩
 ·cases hr
theorem Rz {i:Nat}{x v:AV}{ux:Value}(hx:ARel κ x ux)(hr:K8 i x=some v):∃ (vs:Array Value) (u:Value),ux = .tuple vs/\vs[i]? = some u/\ARel κ v u:=by
 unfold K8 at hr
 split at hr
 ·simp only[Ut] at hr
  obtain⟨p,hp,rfl⟩:=hr
  cases aG hx with
  | tup _ vs hl hc=>
    have hlt:=(Ur.1 hp).1
    refine⟨vs,vs.getD i Go.undef,rfl,?_,.pv _ _ (hc i p hp)⟩
    simp[Uw,show i<vs.size by omega]
 ·cases hx with
  | tup _ vs hl hc=>
    have hlt:=(Ur.1 hr).1
    refine⟨vs,vs.getD i Go.undef,rfl,?_,hc i v hr⟩
    simp[Uw,show i<vs.size by omega]
 ·cases hr
theorem Rt {x v:AV}{ux:Value}(hx:ARel κ x ux)(hr:D1 x=some v):v=x/\((∃ b o,ux = .pointer (some ⟨b,o,none⟩))\/∃ f a c,ux = .func (.func f) a c):=by
 unfold D1 at hr
 split at hr<;>cases hr
 ·cases hx;exact⟨rfl,.inl ⟨_,_,rfl⟩⟩
 ·cases aG hx;exact⟨rfl,.inl ⟨_,_,rfl⟩⟩
 ·cases aG hx;exact⟨rfl,.inl ⟨_,_,rfl⟩⟩
 ·cases aG hx;exact⟨rfl,.inr ⟨_,_,_,rfl⟩⟩
 ·cases hx;exact⟨rfl,.inr ⟨_,_,_,rfl⟩⟩
theorem wh {l:List PV}{A:Option Addr}{n c:Nat}(hp:PRel κ.w κ.imm (.list l) (.slice A n c)){sz a h m:Nat}(hsz:M8 sz l a=true)(hh:h<=l.length)(hm:m=c)(ha:a<=h) :
  PRel κ.w κ.imm (.list ((l.take h).drop a)) (.slice (if m=a then A else A.map (·.add (a*sz))) (h - a) (m - a)):=by
 subst hm
 by_cases hz:h - a=0
 ·have e:(l.take h).drop a=[]:=by
   apply List.eq_nil_of_length_eq_zero
   simp;omega
  rw[e,hz]
  refine .lnil _ _ ?_
  cases hp with
  | lnil _ _ hc=>omega
  | list _ b off c sz' g h1 h2 h3 h4 h5=>omega
 ·cases hp with
  | lnil _ _ hc=>simp at hh;omega
  | list _ b off c sz' g h1 h2 h3 h4 h5=>
    have hlt:a<l.length:=by omega
    have hmul:a*sz'=a*sz:=by
     cases a with
     | zero=>simp
     | succ a=>
       have hy:=Uq hlt
       simp only[M8,hy,beq_iff_eq] at hsz
       rw[<- h3 _ _ hy,hsz]
    rw[if_neg (by omega)]
    have key:∀ (i:Nat) (x:PV),((l.take h).drop a)[i]? = some x->l[a+i]? = some x:=by
     intro i x hx
     rw[Vl,UL] at hx
     split at hx
     ·exact hx
     ·cases hx
    have hlen:((l.take h).drop a).length=h - a:=by simp;omega
    have:=PRel.list (w:=κ.w) (imm:=κ.imm) ((l.take h).drop a) b (off+a*sz') (m - a) sz' (fun i j=>g (a+i) j) (by omega) (by omega)
     (fun i x hx=>h3 _ _ (key i x hx)) (fun i x j y hx hy=>by
      have:=h4 _ _ j y (key i x hx) hy
      rw[show off+a*sz'+i*sz'+j=off+(a+i)*sz'+j by rw[Nat.add_mul];omega]
      exact this) (fun i x j y hx hy=>h5 _ _ j y (key i x hx) hy)
    rw[hlen] at this
    simpa[Addr.add_lit,hmul] using this
theorem gh {w:World}{isSlice:Bool}{n c:Nat}{lo hi:Option AV}{vlo vhi:Option Value}(hlo:∀ x,lo=some x->∃ v,vlo=some v/\ARel κ x v)(hlo':lo=none->vlo=none)
  (hhi:∀ x,hi=some x->∃ v,vhi=some v/\ARel κ x v) (hhi':hi=none->vhi=none) (hnc:n<=c) {h a:Nat} (hh:bd n n hi=some h) (ha:bd 0 h lo=some a) :
  (Instr.sliceBounds isSlice n c vlo vhi none).run P w = .ok (a,h,c) w/\a<=h/\h<=n:=by
 have hh':h<=n/\((vhi=none/\h=n)\/∃ (k:IntKind) (z:Int),vhi=some (.int k z)/\0<=z/\z<=n/\h=z.toNat):=by
  cases hi with
  | none=>simp[bd] at hh;subst hh;exact⟨UI _,.inl ⟨hhi' rfl,rfl⟩⟩
  | some x=>
    obtain⟨v,rfl,hr⟩:=hhi x rfl
    unfold bd at hh
    split at hh
    ·rename_i heq;cases heq
    ·rename_i k z heq
     cases heq
     split at hh
     ·rename_i hz
      cases hh
      exact⟨by omega,.inr ⟨k,z,by rw[aV hr],hz.1,hz.2,rfl⟩⟩
     ·cases hh
    ·cases hh
 have ha':a<=h/\((vlo=none/\a=0)\/∃ (k:IntKind) (z:Int),vlo=some (.int k z)/\0<=z/\z<=h/\a=z.toNat):=by
  cases lo with
  | none=>simp[bd] at ha;subst ha;exact⟨Nat.zero_le _,.inl ⟨hlo' rfl,rfl⟩⟩
  | some x=>
    obtain⟨v,rfl,hr⟩:=hlo x rfl
    unfold bd at ha
    split at ha
    ·rename_i heq;cases heq
    ·rename_i k z heq
     cases heq
     split at ha
     ·rename_i hz
      cases ha
      exact⟨by omega,.inr ⟨k,z,by rw[aV hr],hz.1,hz.2,rfl⟩⟩
     ·cases ha
    ·cases ha
 refine⟨?_,ha'.1,hh'.1⟩
 rcases hh'.2 with ⟨rfl,rfl⟩ | ⟨k,z,rfl,hz0,hz1,rfl⟩<;>rcases ha'.2 with ⟨rfl,rfl⟩ | ⟨k',z',rfl,hy0,hy1,rfl⟩
 ·simp[Instr.sliceBounds]
 ·have:=run_sliceBound (P:=P) w k' z' h .sliceB hy0 hy1
  simp[Instr.sliceBounds,this]
 ·have:=run_sliceBound (P:=P) w k z c (if isSlice then .sliceAcap else .sliceAlen) hz0 (by omega)
  simp[Instr.sliceBounds,this]
 ·have h1:=run_sliceBound (P:=P) w k z c (if isSlice then .sliceAcap else .sliceAlen) hz0 (by omega)
  have h2:=run_sliceBound (P:=P) w k' z' z.toNat .sliceB hy0 hy1
  simp[Instr.sliceBounds,h1,h2]
end
section
variable {P:Program}{κ:Kap}
theorem sg {sz:Nat}{x v:AV}{u:Value}{lo hi:Option AV}{vlo vhi:Option Value}(hx:ARel κ x u)
  (hlo:∀ x,lo=some x->∃ v,vlo=some v/\ARel κ x v) (hlo':lo=none->vlo=none)
  (hhi:∀ x,hi=some x->∃ v,vhi=some v/\ARel κ x v) (hhi':hi=none->vhi=none) (hr:dd sz x lo hi=some v) :
  ∃ A n c a h,u = .slice A n c/\(∀ isSlice,(Instr.sliceBounds isSlice n c vlo vhi none).run P κ.w = .ok (a,h,c) κ.w) /\
    ARel κ v (.slice (if c=a then A else A.map (·.add (a*sz))) (h - a) (c - a)):=by
 have cut:∀ l,PRel κ.w κ.imm (.list l) u->IC sz l lo hi=some v->∃ A n c a h,u = .slice A n c/\(∀ isSlice,(Instr.sliceBounds isSlice n c vlo vhi none).run P κ.w = .ok (a,h,c) κ.w) /\
   ARel κ v (.slice (if c=a then A else A.map (·.add (a*sz))) (h - a) (c - a)):=by
  intro l hp hr
  have hform:∃ A c,u = .slice A l.length c/\l.length<=c:=by
   cases hp with
   | lnil A c h=>exact⟨A,c,rfl,by simp⟩
   | list _ b off c sz' g h1 h2 h3 h4 h5=>exact⟨_,_,rfl,h1⟩
  obtain⟨A,c,rfl,hc⟩:=hform
  unfold IC at hr
  split at hr
  ·rename_i h hh
   split at hr
   ·rename_i a ha
    split at hr
    ·rename_i hok
     cases hr
     have hb:=fun isSlice=>gh (P:=P) (w:=κ.w) (isSlice:=isSlice) hlo hlo' hhi hhi' hc hh ha
     exact⟨A,_,c,a,h,rfl,fun i=>(hb i).1,.pv _ _ (wh hp hok (hb true).2.2 rfl (hb true).2.1)⟩
    ·cases hr
   ·cases hr
  ·cases hr
 unfold dd at hr
 split at hr
 ·split at hr
  ·rename_i h hh
   simp only[Ut] at hr
   obtain⟨a,ha,rfl⟩:=hr
   have hb:=fun isSlice=>gh (P:=P) (w:=κ.w) (isSlice:=isSlice) (n:=0) (c:=0) hlo hlo' hhi hhi' (UI _) hh ha
   cases aG hx
   obtain⟨_,h1,h2⟩:=hb true
   obtain rfl:h=0:=by omega
   obtain rfl:a=0:=by omega
   exact⟨none,0,0,0,0,rfl,fun i=>(hb i).1,.pv _ _ .nils⟩
  ·cases hr
 ·exact cut _ (aG hx) hr
 ·cases hx with
  | olist _ _ _ _ hn hp _=>exact cut _ hp hr
 ·rename_i r s off len
  split at hr
  ·rename_i h hh
   split at hr
   ·rename_i a ha
    split at hr
    ·rename_i hs
     obtain⟨rfl,hs0⟩:=hs
     cases hx with
     | row _ _ _ _ b N cap hn h1 h0 h2 h3=>
       have hb:=fun isSlice=>gh (P:=P) (w:=κ.w) (isSlice:=isSlice) hlo hlo' hhi hhi' h2 hh ha
       obtain⟨_,hah,hhn⟩:=hb true
       refine⟨_,len,cap,a,h,rfl,fun i=>(hb i).1,?_⟩
       split at hr
       ·rename_i ha0
        cases hr
        subst ha0
        simp only[Nat.zero_mul,Nat.sub_zero]
        have e:(if cap=0 then some (⟨b,off,none⟩:Addr) else Option.map (fun x:Addr=>x.add 0) (some ⟨b,off,none⟩))=some ⟨b,off,none⟩:=by
         split<;>simp[Addr.add]
        rw[e]
        exact .row r s off h b N cap hn h1 h0 (by omega) h3
       ·rename_i ha0
        split at hr
        ·rename_i hlt
         cases hr
         rw[if_neg (by omega)]
         have:off+a*s+(cap - a)*s<=N:=by
          rw[Nat.sub_mul]
          have:a*s<=cap*s:=UA _ (by omega)
          omega
         simpa[Addr.add_lit] using ARel.row (κ:=κ) r s (off+a*s) (h - a) b N (cap - a) hn this (fun h=>by have:0<a*s:=Nat.mul_pos (by omega) hs0;omega) (by omega) (by omega)
        ·cases hr
         rw[show h - a=0 by omega]
         exact .pv _ _ (.lnil _ _ (by omega))
     | row0 _ _ hn=>
       have hb:=fun isSlice=>gh (P:=P) (w:=κ.w) (isSlice:=isSlice) (n:=0) (c:=0) hlo hlo' hhi hhi' (UI _) hh ha
       obtain⟨_,h1,h2⟩:=hb true
       obtain rfl:h=0:=by omega
       obtain rfl:a=0:=by omega
       rw[if_pos rfl] at hr
       cases hr
       exact⟨none,0,0,0,0,rfl,fun i=>(hb i).1,.row0 r s hn⟩
    ·cases hr
   ·cases hr
  ·cases hr
 ·cases hr
theorem EX {x v:AV}{u:Value}{lo hi:Option AV}{vlo vhi:Option Value}(hx:ARel κ x u)
  (hlo:∀ x,lo=some x->∃ v,vlo=some v/\ARel κ x v) (hlo':lo=none->vlo=none)
  (hhi:∀ x,hi=some x->∃ v,vhi=some v/\ARel κ x v) (hhi':hi=none->vhi=none) (hr:fU x lo hi=some v) :
  ∃ (s:ByteArray) (a h:Nat),u = .string s/\(Instr.sliceBounds false s.size s.size vlo vhi none).run P κ.w = .ok (a,h,s.size) κ.w/\ARel κ v (.string (s.extract a h)):=by
 unfold fU at hr
 split at hr
 ·rename_i l
  split at hr
  ·rename_i h hh
   simp only[Ut] at hr
   obtain⟨a,ha,rfl⟩:=hr
   obtain⟨s,rfl,rfl,hs⟩:=d9 hx
   have hb:=gh (P:=P) (w:=κ.w) (isSlice:=false) hlo hlo' hhi hhi' (UI _) hh ha
   refine⟨s,a,h,rfl,hb.1,yZ ?_ ?_⟩
   ·have h1:h<=s.data.toList.length:=hb.2.2
    simp only[ByteArray.data_extract,Array.toList_extract,List.extract_eq_take_drop,List.drop_take]
   ·have:((List.take h s.data.toList).drop a).length<=s.data.toList.length:=by simp;omega
    rw[nk] at this
    omega
  ·cases hr
 ·cases hr
theorem Ry {op:BinOp}{k:IntKind}{a b:Int}{p:PV}{t:TypeId}(hr:mW op k a b=some p) :
  ∃ u,(binOp op t (.int k a) (.int k b)).run P κ.w = .ok u κ.w/\PRel κ.w κ.imm p u:=by
 cases op<;>simp[mW] at hr
 case quo=>obtain⟨h0,rfl⟩:=hr;exact⟨_,by simp only[binOp_quo,Op.intDiv,if_neg h0,Sem.run_pure],.int _ _⟩
 case rem=>obtain⟨h0,rfl⟩:=hr;exact⟨_,by simp only[binOp_rem,Op.intDiv,if_neg h0,Sem.run_pure],.int _ _⟩
 all_goals subst hr
 case add=>exact⟨.int k _,by simp only[binOp_add,Op.intArith,Sem.run_pure],.int _ _⟩
 case sub=>exact⟨.int k _,by simp only[binOp_sub,Op.intArith,Sem.run_pure],.int _ _⟩
 case mul=>exact⟨.int k _,by simp only[binOp_mul,Op.intArith,Sem.run_pure],.int _ _⟩
 case and=>exact⟨.int k _,by simp only[binOp_and,intBits_and,Sem.run_pure],.int _ _⟩
 case or=>exact⟨.int k _,by simp only[binOp_or,intBits_or,Sem.run_pure],.int _ _⟩
 case xor=>exact⟨.int k _,by simp only[binOp_xor,intBits_xor,Sem.run_pure],.int _ _⟩
 case andNot=>exact⟨.int k _,by simp only[binOp_andNot,intBits_andNot,Sem.run_pure],.int _ _⟩
 case eql=>exact⟨.bool _,by simp only[binOp_eql,Sem.run_pure],.bool _⟩
 case neq=>exact⟨.bool _,by simp only[binOp_neq,Sem.run_pure],.bool _⟩
 case lss=>exact⟨.bool _,by simp only[binOp_lss,Sem.run_pure],.bool _⟩
 case leq=>exact⟨.bool _,by simp only[binOp_leq,Sem.run_pure],.bool _⟩
 case gtr=>exact⟨.bool _,by simp only[binOp_gtr,Sem.run_pure],.bool _⟩
 case geq=>exact⟨.bool _,by simp only[binOp_geq,Sem.run_pure],.bool _⟩
theorem zw {op:BinOp}{k k':IntKind}{a b:Int}{p:PV}{t:TypeId}(hop:op = .shl\/op = .shr)(hr:sq op k a b=some p) :
  ∃ u,(binOp op t (.int k a) (.int k' b)).run P κ.w = .ok u κ.w/\PRel κ.w κ.imm p u:=by
 unfold sq at hr
 split at hr
 ·cases hr
 ·rename_i h0
  rcases hop with rfl | rfl<;>simp at hr<;>subst hr
  ·exact⟨.int k _,by simp only[binOp_shl,Op.shift,if_neg h0,Sem.run_pure],.int _ _⟩
  ·exact⟨.int k _,by simp only[binOp_shr,Op.shift,if_neg h0,Sem.run_pure],.int _ _⟩
theorem Rr {op:BinOp}{a b:ByteArray}{p:PV}{t:TypeId}(hr:Nb op a.data.toList b.data.toList=some p) :
  ∃ u,(binOp op t (.string a) (.string b)).run P κ.w = .ok u κ.w/\PRel κ.w κ.imm p u:=by
 have e:∀ op,binOp op t (.string a) (.string b)=Op.stringOp op a b:=by intro op;cases op<;>rfl
 rw[e]
 cases op<;>simp only[Nb] at hr<;>first
  | (cases hr;done)
  | (split at hr
     ·rename_i hl
      cases hr
      have hl':a.size+b.size<=maxLen:=by simpa using hl
      refine⟨.string (a++b),?_,?_⟩
      ·have:¬ (((a.size+b.size:Nat):Int)>9223372036854775807):=by unfold maxLen at hl';omega
       simp only[Op.stringOp,IntKind.max_i64,Sem.run_ite,if_neg this,Sem.run_pure]
      ·have h1:(a++b).data.toList=a.data.toList++b.data.toList:=by simp
       rw[<- h1]
       exact .str _ (by rw[<- nk,h1];simpa using hl)
     ·cases hr)
  | (cases hr;refine⟨.bool _,?_,.bool _⟩;simp only[Op.stringOp,Sem.run_pure,ByteArray.toList_eq,ca])
theorem RC {op:BinOp}{x y v:AV}{ux uy:Value}{t:TypeId}(hx:ARel κ x ux)(hy:ARel κ y uy)(hr:dw op x y=some v) :
  ∃ u,(binOp op t ux uy).run P κ.w = .ok u κ.w/\ARel κ v u/\((∃ k n,ux = .int k n)\/∃ s,ux = .string s):=by
 unfold dw at hr
 split at hr
 ·rename_i k a k' b
  obtain rfl:=aV hx
  obtain rfl:=aV hy
  split at hr
  ·simp only[Ut] at hr
   obtain⟨p,hp,rfl⟩:=hr
   obtain⟨u,h1,h2⟩:=zw (P:=P) (κ:=κ) (t:=t) (k':=k') (.inl rfl) hp
   exact⟨u,h1,.pv _ _ h2,.inl ⟨_,_,rfl⟩⟩
  ·simp only[Ut] at hr
   obtain⟨p,hp,rfl⟩:=hr
   obtain⟨u,h1,h2⟩:=zw (P:=P) (κ:=κ) (t:=t) (k':=k') (.inr rfl) hp
   exact⟨u,h1,.pv _ _ h2,.inl ⟨_,_,rfl⟩⟩
  ·split at hr
   ·rename_i hk
    subst hk
    simp only[Ut] at hr
    obtain⟨p,hp,rfl⟩:=hr
    obtain⟨u,h1,h2⟩:=Ry (P:=P) (κ:=κ) (t:=t) hp
    exact⟨u,h1,.pv _ _ h2,.inl ⟨_,_,rfl⟩⟩
   ·cases hr
 ·rename_i a b
  obtain⟨sa,rfl,rfl,_⟩:=d9 hx
  obtain⟨sb,rfl,rfl,_⟩:=d9 hy
  simp only[Ut] at hr
  obtain⟨p,hp,rfl⟩:=hr
  obtain⟨u,h1,h2⟩:=Rr (P:=P) (κ:=κ) (t:=t) hp
  exact⟨u,h1,.pv _ _ h2,.inr ⟨_,rfl⟩⟩
 ·cases hr
theorem jJ {κ:Kap}{x:PV}{l:List PV}{u:Value}(h:PRel κ.w κ.imm (.list (x::l)) u):∃ a n c,u = .slice (some a) n c:=by
 cases h with
 | list _ b off c sz g h1 h2 h3 h4 h5=>exact⟨_,_,_,rfl⟩
def eR (P:Program)(t:TypeId):Option Nat:=(P.info? t).map (·.size)
def iP (P:Program)(t:TypeId):Option Bool:=
 match P.underlying t with
 | some (.struct _) | some (.array _ _)=>some true
 | some _=>some false
 | none=>none
theorem aZ {t:TypeId}{n:Nat}{w:World}(h:eR P t=some n):(sizeOf t).run P w = .ok n w:=by
 simp only[eR,Ut] at h
 obtain⟨i,hi,rfl⟩:=h
 simp[sizeOf,typeInfo,hi]
theorem jp {t:TypeId}{g:Bool}{w:World}(h:iP P t=some g):(isAgg t).run P w = .ok g w:=by
 unfold iP at h
 split at h<;>(try cases h)
 ·simp[isAgg,run_underlying ‹_›]
 ·simp[isAgg,run_underlying ‹_›]
 ·rename_i d h1 h2 hd
  simp only[isAgg,Sem.run_bind,run_underlying hd,Result.andThen_ok]
  cases d<;>simp_all
theorem iU {t:TypeId}{g:Bool}{n off:Nat}{vs:Array Value}{u:Value}{w:World}(hg:iP P t=some g)(hn:eR P t=some n)
  (h1:g=true->u = .agg (vs.extract off (off+n))) (h2:g=false->vs[off]? = some u):(part t vs off).run P w = .ok u w:=by
 simp only[part,Sem.run_bind,jp hg,Result.andThen_ok,Sem.run_ite]
 cases g with
 | true=>simp[aZ hn,h1 rfl]
 | false=>simp[h2 rfl]
def lE (P:Program):List Field->Nat->Option (List Nat)
 | [],_=>some []
 | f :: r,o=>if f.name≠ "_"/\f.offset=o/\iP P f.type=some false/\eR P f.type=some 1 then
     match P.underlying f.type,lE P r (o+1) with
     | some .bool,some l=>some (0::l)
     | some (.int _),some l=>some (1::l)
     | some .string,some l=>some (2::l)
     | _,_=>none
   else none
def Mb (P:Program)(t:TypeId):Option (List Nat):=
 match P.underlying t with
 | some (.struct fs)=>if P.stoodInHeld t=false/\P.eqGuardType P.depth t=false then lE P fs.toList 0 else none
 | _=>none
theorem iB {w:World}{imm:Nat->Nat->Prop}(d:Nat){xs ys:Array Value}:∀ (fs:List Field) (o:Nat) (ks:List Nat) (ps qs:List PV) (b:Bool),lE P fs o=some ks ->
  xs.size=o+ps.length->ys.size=o+qs.length->(∀ (i:Nat) (x:PV),ps[i]? = some x->PRel w imm x (xs.getD (o+i) Go.undef))->(∀ (i:Nat) (x:PV),qs[i]? = some x->PRel w imm x (ys.getD (o+i) Go.undef)) ->
  oF ks ps qs=some b->(Op.eqFields (d+1) xs ys fs).run P w = .ok b w
 | [],o,ks,ps,qs,b,hf,_,_,_,_,h=>by
   simp only[lE,Option.some.injEq] at hf
   subst hf
   unfold oF at h
   split at h
   ·cases h;simp[Op.eqFields]
   ·cases ‹[]=_::_›
   ·cases h
 | f::r,o,ks,ps,qs,b,hf,hx,hy,hpx,hpy,h=>by
   simp only[lE] at hf
   split at hf
   ·rename_i hh
    obtain⟨hn,rfl,ha,hs⟩:=hh
    obtain⟨k,l,rfl,hl,hk⟩:∃ k l,ks=k::l/\lE P r (f.offset+1)=some l/\((k=0/\P.underlying f.type=some .bool)\/(k=1/\∃ j,P.underlying f.type=some (.int j))\/(k=2/\P.underlying f.type=some .string)):=by
     split at hf
     ·rename_i l h1 h2;cases hf;exact⟨0,l,rfl,h2,.inl ⟨rfl,h1⟩⟩
     ·rename_i j l h1 h2;cases hf;exact⟨1,l,rfl,h2,.inr (.inl ⟨rfl,_,h1⟩)⟩
     ·rename_i l h1 h2;cases hf;exact⟨2,l,rfl,h2,.inr (.inr ⟨rfl,h1⟩)⟩
     ·cases hf
    cases ps with
    | nil=>simp[oF] at h
    | cons p ps=>
      cases qs with
      | nil=>simp[oF] at h
      | cons q qs=>
        rw[oF] at h
        have hpu:=hpx 0 p rfl
        have hqv:=hpy 0 q rfl
        rw[VA] at hpu hqv
        simp only[UC] at hx hy
        have hgx:xs[f.offset]? = some (xs.getD f.offset Go.undef):=by
         rw[Uw,Vq (by omega)];rfl
        have hgy:ys[f.offset]? = some (ys.getD f.offset Go.undef):=by
         rw[Uw,Vq (by omega)];rfl
        generalize xs.getD f.offset Go.undef=u at hpu hgx
        generalize ys.getD f.offset Go.undef=v at hqv hgy
        cases h1:Nh k p q with
        | none=>rw[h1] at h;simp[I7] at h
        | some b1=>
          cases h2:oF l ps qs with
          | none=>rw[h1,h2] at h;simp[I7] at h
          | some b2=>
            rw[h1,h2] at h
            simp only[I7,Option.some.injEq] at h
            subst h
            have ih:=iB d (xs:=xs) (ys:=ys) (w:=w) (imm:=imm) r (f.offset+1) l ps qs b2 hl (by omega) (by omega)
             (fun i x hi=>by have:=hpx (i+1) x (by simpa using hi);rwa [show f.offset+(i+1)=f.offset+1+i by omega] at this)
             (fun i x hi=>by have:=hpy (i+1) x (by simpa using hi);rwa [show f.offset+(i+1)=f.offset+1+i by omega] at this) h2
            have heq:(Op.equalIn (d+1) f.type u v).run P w = .ok b1 w:=by
             rcases hk with ⟨rfl,hu⟩ | ⟨rfl,j,hu⟩ | ⟨rfl,hu⟩
             ·unfold Nh at h1
              split at h1
              ·cases h1;cases hpu;cases hqv
               exact run_equalIn_bool w d f.type _ _ hu
              ·simp at *
              ·simp at *
              ·cases h1
             ·unfold Nh at h1
              split at h1
              ·simp at *
              ·split at h1
               ·rename_i hkk
                subst hkk
                cases h1;cases hpu;cases hqv
                exact run_equalIn_int w d f.type _ _ _ _ hu
               ·cases h1
              ·simp at *
              ·cases h1
             ·unfold Nh at h1
              split at h1
              ·simp at *
              ·simp at *
              ·cases h1;cases hpu;cases hqv
               rw[run_equalIn_string w d f.type _ _ hu,ByteArray.toList_eq,ByteArray.toList_eq]
              ·cases h1
            rw[Op.eqFields,if_pos hn]
            simp only[Sem.run_bind,iU ha hs (fun h=>by cases h) (fun _=>hgx),iU ha hs (fun h=>by cases h) (fun _=>hgy),heq,Result.andThen_ok,Sem.run_ite]
            cases b1 with
            | true=>simpa using ih
            | false=>simp
   ·cases hf
theorem Ix {x y:AV}{b:Bool}{ux uy:Value}{t:TypeId}{op:BinOp}{X Y:Operand}{ks:List Nat}(ht:Mb P t=some ks)(hop:op = .eql\/op = .neq)(hx:ARel κ x ux)(hy:ARel κ y uy)(hr:qq ks x y=some b) :
  (do eqGuard op t X Y ux uy;binOp op t ux uy:Sem Value).run P κ.w = .ok (.bool (if op = .neq then !b else b)) κ.w:=by
 unfold qq at hr
 split at hr
 ·rename_i ps qs
  obtain⟨xs,rfl,hxl,hxr⟩:=mQ hx
  obtain⟨ys,rfl,hyl,hyr⟩:=mQ hy
  unfold Mb at ht
  split at ht
  ·rename_i fs hu
   split at ht
   ·rename_i hh
    obtain⟨hp,hg⟩:=hh
    have hfo:P.fieldsOf t=fs:=by simp[Program.fieldsOf,hu]
    have hmain:(Op.equalIn 10000 t (.agg xs) (.agg ys)).run P κ.w = .ok b κ.w:=by
     rw[run_equalIn_struct κ.w 9999 t xs ys (by rw[hfo];exact hu) hp,hfo]
     refine iB 9998 (imm:=κ.imm) fs.toList 0 ks ps qs b ht (by simpa using hxl) (by simpa using hyl) (fun i x hi=>?_) (fun i x hi=>?_) hr
     ·have:=hxr i (.pv x) (by simp[hi]);rw[UN];exact aG this
     ·have:=hyr i (.pv x) (by simp[hi]);rw[UN];exact aG this
    rw[Sem.run_bind,run_eqGuard_agg κ.w op t X Y xs ys hg]
    simp only[Result.andThen_ok]
    rcases hop with rfl | rfl
    ·rw[run_eql_struct,hmain];rfl
    ·rw[run_neq_struct,hmain];rfl
   ·cases ht
  ·cases ht
 ·cases hr
def cN (P:Program)(t:TypeId):Option Nat:=
 match P.underlying t with
 | some .bool=>some 0
 | some (.pointer _)=>some 1
 | some (.slice _)=>some 2
 | _=>none
theorem CJ {w:World}(d:Nat){t:TypeId}(hu:P.underlying t=some .bool)(a b:Bool):(Op.equalIn (d+1) t (.bool a) (.bool b)).run P w = .ok (a == b) w:=by
 simp only[Op.equalIn,Sem.run_bind,run_underlying hu,Result.andThen_ok,Sem.run_pure]
theorem mB {w:World}(d:Nat){t e:TypeId}(hu:P.underlying t=some (.pointer e))(a:Option Addr):(Op.equalIn (d+1) t (.pointer a) (.pointer none)).run P w = .ok a.isNone w:=by
 cases a<;>simp[Op.equalIn,run_underlying hu]
theorem wH {w:World}(d:Nat){t e:TypeId}(hu:P.underlying t=some (.slice e)):(Op.equalIn (d+1) t (.slice none 0 0) (.slice none 0 0)).run P w = .ok true w:=by
 simp[Op.equalIn,run_underlying hu]
theorem dm {w:World}(d:Nat){t e:TypeId}(hu:P.underlying t=some (.slice e))(a:Addr)(n c:Nat):(Op.equalIn (d+1) t (.slice (some a) n c) (.slice none 0 0)).run P w = .ok false w:=by
 simp[Op.equalIn,run_underlying hu]
theorem NZ {x y:AV}{b:Bool}{ux uy:Value}{t:TypeId}{op:BinOp}{X Y:Operand}{kd:Nat}(ht:cN P t=some kd)(hop:op = .eql\/op = .neq)(hx:ARel κ x ux)(hy:ARel κ y uy)(hr:qt kd x y=some b) :
  (do eqGuard op t X Y ux uy;binOp op t ux uy:Sem Value).run P κ.w = .ok (.bool (if op = .neq then !b else b)) κ.w:=by
 have he:Op.equal t ux uy=Op.equalIn (9999+1) t ux uy:=rfl
 have hmain:∀ {c:Bool},(Op.equalIn (9999+1) t ux uy).run P κ.w = .ok c κ.w->((do pure (.bool (<- Op.equal t ux uy))):Sem Value).run P κ.w = .ok (.bool c) κ.w/\((do pure (.bool (!(<- Op.equal t ux uy)))):Sem Value).run P κ.w = .ok (.bool (!c)) κ.w:=by
  intro c h
  rw[he]
  simp[h]
 unfold qt at hr
 split at hr
 ·cases hr
  have hu:P.underlying t=some .bool:=by
   unfold cN at ht
   split at ht<;>first | assumption | cases ht
  obtain rfl:=cY hx
  obtain rfl:=cY hy
  obtain⟨h1,h2⟩:=hmain (CJ 9999 hu _ _)
  rcases hop with rfl | rfl
  ·simpa[eqGuard_at_bool,binOp] using h1
  ·simpa[eqGuard_at_bool,binOp] using h2
 ·cases hr
  obtain⟨e,hu⟩:∃ e,P.underlying t=some (.pointer e):=by
   unfold cN at ht
   split at ht<;>first | exact⟨_,‹_›⟩ | cases ht
  obtain⟨bb,o,rfl⟩:∃ bb o,ux = .pointer (some ⟨bb,o,none⟩):=by cases hx;exact⟨_,_,rfl⟩
  cases aG hy
  obtain⟨h1,h2⟩:=hmain (mB 9999 hu _)
  rcases hop with rfl | rfl
  ·simpa[eqGuard_at_pointer,binOp] using h1
  ·simpa[eqGuard_at_pointer,binOp] using h2
 ·cases hr
  obtain⟨e,hu⟩:∃ e,P.underlying t=some (.pointer e):=by
   unfold cN at ht
   split at ht<;>first | exact⟨_,‹_›⟩ | cases ht
  cases aG hx
  cases aG hy
  obtain⟨h1,h2⟩:=hmain (mB 9999 hu _)
  rcases hop with rfl | rfl
  ·simpa[eqGuard_at_pointer,binOp] using h1
  ·simpa[eqGuard_at_pointer,binOp] using h2
 ·cases hr
  obtain⟨e,hu⟩:∃ e,P.underlying t=some (.pointer e):=by
   unfold cN at ht
   split at ht<;>first | exact⟨_,‹_›⟩ | cases ht
  obtain⟨bb,o,rfl⟩:∃ bb o,ux = .pointer (some ⟨bb,o,none⟩):=by cases aG hx;exact⟨_,_,rfl⟩
  cases aG hy
  obtain⟨h1,h2⟩:=hmain (mB 9999 hu _)
  rcases hop with rfl | rfl
  ·simpa[eqGuard_at_pointer,binOp] using h1
  ·simpa[eqGuard_at_pointer,binOp] using h2
 ·cases hr
  obtain⟨e,hu⟩:∃ e,P.underlying t=some (.slice e):=by
   unfold cN at ht
   split at ht<;>first | exact⟨_,‹_›⟩ | cases ht
  cases aG hx
  cases aG hy
  obtain⟨h1,h2⟩:=hmain (wH 9999 hu)
  rcases hop with rfl | rfl
  ·simpa[eqGuard_at_slice,binOp] using h1
  ·simpa[eqGuard_at_slice,binOp] using h2
 ·cases hr
  obtain⟨e,hu⟩:∃ e,P.underlying t=some (.slice e):=by
   unfold cN at ht
   split at ht<;>first | exact⟨_,‹_›⟩ | cases ht
  obtain⟨aa,nn,cc,rfl⟩:∃ a n c,ux = .slice (some a) n c:=jJ (aG hx)
  cases aG hy
  obtain⟨h1,h2⟩:=hmain (dm 9999 hu aa nn cc)
  rcases hop with rfl | rfl
  ·simpa[eqGuard_at_slice,binOp] using h1
  ·simpa[eqGuard_at_slice,binOp] using h2
 ·cases hr
  obtain⟨e,hu⟩:∃ e,P.underlying t=some (.slice e):=by
   unfold cN at ht
   split at ht<;>first | exact⟨_,‹_›⟩ | cases ht
  obtain⟨aa,nn,cc,rfl⟩:∃ a n c,ux = .slice (some a) n c:=(by cases hx with | olist _ _ _ _ hn hp _=>exact jJ hp)
  cases aG hy
  obtain⟨h1,h2⟩:=hmain (dm 9999 hu aa nn cc)
  rcases hop with rfl | rfl
  ·simpa[eqGuard_at_slice,binOp] using h1
  ·simpa[eqGuard_at_slice,binOp] using h2
 ·cases hr
  obtain⟨e,hu⟩:∃ e,P.underlying t=some (.slice e):=by
   unfold cN at ht
   split at ht<;>first | exact⟨_,‹_›⟩ | cases ht
  obtain⟨aa,nn,cc,rfl⟩:∃ a n c,ux = .slice (some a) n c:=(by cases hx with | row=>exact⟨_,_,_,rfl⟩)
  cases aG hy
  obtain⟨h1,h2⟩:=hmain (dm 9999 hu aa nn cc)
  rcases hop with rfl | rfl
  ·simpa[eqGuard_at_slice,binOp] using h1
  ·simpa[eqGuard_at_slice,binOp] using h2
 ·cases hr
theorem rt (vc:List Value):∀ (k off:Nat) (cs:Array Value),off+k+vc.length<=cs.size ->
  ((vc.zipIdx k).foldl (fun cs (c,j)=>cs.setIfInBounds (off+j) c) cs).size=cs.size /\
  ∀ i,((vc.zipIdx k).foldl (fun cs (c,j)=>cs.setIfInBounds (off+j) c) cs).getD i Go.undef=if off+k<=i/\i<off+k+vc.length then vc.getD (i - (off+k)) Go.undef else cs.getD i Go.undef:=by
 induction vc with
 | nil=>intro k off cs h;simp;intro i h1 h2;omega
 | cons v r ih=>
   intro k off cs h
   simp only[UC] at h
   simp only[List.zipIdx_cons,List.foldl_cons]
   obtain⟨h1,h2⟩:=ih (k+1) off (cs.setIfInBounds (off+k) v) (by simp;omega)
   refine⟨by simpa using h1,fun i=>?_⟩
   rw[h2 i]
   simp only[UC]
   by_cases hi:off+(k+1)<=i/\i<off+(k+1)+r.length
   ·rw[if_pos hi,if_pos (by omega)]
    rw[show i - (off+k)=(i - (off+(k+1)))+1 by omega]
    simp
   ·rw[if_neg hi]
    by_cases he:i=off+k
    ·subst he
     rw[if_pos (by omega)]
     simp[Uw]
     omega
    ·rw[if_neg (by omega)]
     simp only[Uw,Array.getElem?_setIfInBounds]
     rw[if_neg (by omega)]
theorem zy (place:Nat->Option (Nat×Nat)):∀ (qs:List (Nat×Nat×Nat×AV×Value)) (cs:List AV) (vs:Array Value) (out:List AV),vs.size=cs.length->(∀ (i:Nat) (x:AV),cs[i]? = some x->ARel κ x (vs.getD i Go.undef)) ->
  (∀ q∈qs,place q.1=some (q.2.1,q.2.2.1)/\ARel κ q.2.2.2.1 q.2.2.2.2)->fX cs (qs.map fun q=>(q.2.1,q.2.2.1,q.2.2.2.1))=some out ->
  ∃ us,Instr.fill place vs (qs.map fun q=>(q.1,q.2.2.2.2))=some us/\us.size=out.length/\∀ (i:Nat) (x:AV),out[i]? = some x->ARel κ x (us.getD i Go.undef)
 | [],cs,vs,out,hl,hc,_,h=>by
   simp[fX] at h;subst h
   exact⟨vs,rfl,hl,hc⟩
 | (i,off,sz,x,v)::r,cs,vs,out,hl,hc,hq,h=>by
   simp only[UQ,fX] at h
   split at h
   ·rename_i hk
    obtain⟨hk,hsz,hle⟩:=hk
    obtain⟨hp,hxv⟩:place i=some (off,sz)/\ARel κ x v:=hq (i,off,sz,x,v) (by simp)
    obtain⟨hcl,hcv⟩:=hxv.cellsOf hk
    have hf:=rt v.cells.toList 0 off vs (by simp;omega)
    have hzip:v.cells.toList.zipIdx 0=v.cells.zipIdx.toList:=by simp
    obtain⟨us,h1,h2,h3⟩:=zy place r (cs.take off++x.cells++cs.drop (off+sz)) ((v.cells.toList.zipIdx 0).foldl (fun cs (c,j)=>cs.setIfInBounds (off+j) c) vs) out
     (by rw[hf.1];simp;omega)
     (fun j y hy=>by
      rw[hf.2 j]
      simp only[VA,Array.length_toList]
      by_cases hj:off<=j/\j<off+v.cells.size
      ·rw[if_pos hj,<- aA]
       refine hcv _ y ?_
       rw[UB,UT (by simp;omega),US (by simp;omega)] at hy
       simpa[Nat.min_eq_left (show off<=cs.length by omega)] using hy
      ·rw[if_neg hj]
       refine hc j y ?_
       by_cases h1:j<off
       ·rw[UB,US (by simp;omega),UL,if_pos h1] at hy
        exact hy
       ·rw[UT (by simp;omega),Vl] at hy
        rw[<- hy];congr 1;simp;omega)
     (fun q hq'=>hq q (by simp[hq'])) h
    refine⟨us,?_,h2,h3⟩
    simp only[UQ,Instr.fill,hp]
    rw[if_neg (by simp;omega),<- Array.foldl_toList,<- hzip]
    exact h1
   ·cases h
end
def ik (P:Program)(t:TypeId):Option (List PV):=
 match P.info? t with
 | some i=>match i.zero with
   | some z=>(cV z).map PV.cells
   | none=>none
 | none=>none
def cXs:List Operand->Option (List AX)
 | []=>some []
 | x::r=>match cX x,cXs r with
   | some a,some b=>some (a::b)
   | _,_=>none
def kf (place:Nat->Option (Nat×Nat)):List (Nat×Operand)->Option (List (Nat×Nat×AX))
 | []=>some []
 | (i,x)::r=>match place i,cX x,kf place r with
   | some p,some a,some b=>some ((p.1,p.2,a)::b)
   | _,_,_=>none
def cO:Option Operand->Option (Option AX)
 | none=>some none
 | some x=>(cX x).map some
def c1 (f:AX->TOp)(x:Operand):Option TOp:=(cX x).map f
def c2 (f:AX->AX->TOp)(x y:Operand):Option TOp:=
 match cX x,cX y with
 | some a,some b=>some (f a b)
 | _,_=>none
def c3 (f:AX->Option AX->Option AX->TOp)(x:Operand)(l h:Option Operand):Option TOp:=
 match cX x,cO l,cO h with
 | some a,some b,some c=>some (f a b c)
 | _,_,_=>none
def cT (P:Program):Op->Option TOp
 | .move x | .assign x=>c1 .mv x
 | .pick c a b=>match cX c,cX a,cX b with
   | some c,some a,some b=>some (.pick c a b)
   | _,_,_=>none
 | .build t parts=>match P.info? t,P.underlying t with
   | some it,some (.array _ e)=>match it.zero,P.info? e with
     | some z,some ie=>match cV z,kf (fun i=>some (i*ie.size,ie.size)) parts.toList with
       | some p,some ps=>some (.build p.cells ps)
       | _,_=>none
     | _,_=>none
   | some it,some (.struct fields)=>match it.zero,fields.toList.mapM (fun f=>(P.info? f.type).map fun i=>(f.offset,i.size)) with
     | some z,some places=>match cV z,kf (places.toArray[·]?) parts.toList with
       | some p,some ps=>some (.build p.cells ps)
       | _,_=>none
     | _,_=>none
   | _,_=>none
 | .fieldAddr s x f=>match P.underlying s with
   | some (.struct fs)=>match fs[f]? with
     | some f=>match eR P f.type with
       | some (n+1)=>c1 (.faddr f.offset) x
       | _=>none
     | none=>none
   | _=>none
 | .field s x f=>match P.underlying s with
   | some (.struct fs)=>match fs[f]? with
     | some f=>match eR P f.type,iP P f.type with
       | some n,some g=>c1 (.field g n f.offset) x
       | _,_=>none
     | none=>none
   | _=>none
 | .indexAddr t x i=>match P.underlying t with
   | some (.slice e)=>match eR P e with
     | some n=>c2 (.iaddr n) x i
     | none=>none
   | some (.array len e)=>match eR P e with
     | some n=>c2 (.iaddrA len n) x i
     | none=>none
   | _=>none
 | .index t x i=>match P.underlying t with
   | some .string=>c2 .index x i
   | some (.array len e)=>match eR P e,iP P e with
     | some n,some g=>c2 (.indexA g len n) x i
     | _,_=>none
   | _=>none
 | .call { callee:=.builtin .len,args,argTypes }=>match args.toList,argTypes.toList with
   | [x],[t]=>match P.underlying t with
     | some .string=>c1 (.len true) x
     | some (.slice _)=>c1 (.len false) x
     | some (.array n _)=>some (.lenC n)
     | _=>none
   | _,_=>none
 | .call { callee:=.builtin .min,args,argTypes:=_ }=>match args.toList with
   | [x,y]=>c2 .imin x y
   | _=>none
 | .call { callee:=.builtin .max,args,argTypes:=_ }=>match args.toList with
   | [x,y]=>c2 .imax x y
   | _=>none
 | .slice t x lo hi none=>match P.underlying t with
   | some .string=>c3 .sliceS x lo hi
   | some (.slice e)=>match eR P e with
     | some n=>c3 (.sliceL n) x lo hi
     | none=>none
   | _=>none
 | .binOp op t x y _=>match op,cN P t with
   | .eql,some kd=>c2 (.beq kd false) x y
   | .neq,some kd=>c2 (.beq kd true) x y
   | op,_=>match Mb P t,op with
     | some ks,.eql=>c2 (.beqS false ks) x y
     | some ks,.neq=>c2 (.beqS true ks) x y
     | _,op=>c2 (.bin op) x y
 | .unOp .neg _ x=>c1 .neg x
 | .unOp .not _ x=>c1 .not x
 | .unOp .xor _ x=>c1 .compl x
 | .convert s d x=>match P.underlying s,P.underlying d with
   | some (.int _),some (.int k)=>c1 (.conv k) x
   | some .string,some .string=>c1 .convS x
   | some (.int _),some .string=>c1 .convIS x
   | _,_=>none
 | .makeFunc (.func f) fs cs=>match cXs fs.toList,cXs cs.toList with
   | some a,some b=>some (.clo f a b)
   | _,_=>none
 | .extract x i=>c1 (fun a=>.ext a i) x
 | .nilCheck x=>c1 .nilck x
 | _=>none
section
variable {P:Program}{κ:Kap}{E:Nat->AV}{a:Act}
theorem fZ:∀ {xs:List Operand} {as:List AX},cXs xs=some as->(∀ i,i∈as.flatMap AX.slots->ARel κ (E i) (a.tmps.getD i Go.undef)) ->
  xs.length=as.length/\∀ (i:Nat) (v:AV),(as.map (·.ev E))[i]? = some v->ARel κ v ((xs.map a.eval).getD i Go.undef)
 | [],as,h,_=>by simp[cXs] at h;subst h;simp
 | x::r,as,h,hE=>by
   simp only[cXs] at h
   split at h
   ·rename_i b bs hb hbs
    cases h
    have ih:=fZ hbs (fun i hi=>hE i (by simp;exact .inr (by simpa using hi)))
    refine⟨by simp[ih.1],fun i v hv=>?_⟩
    cases i with
    | zero=>
      simp at hv;subst hv
      simpa using az (κ:=κ) (E:=E) (a:=a) hb (fun i hi=>hE i (by simp[hi]))
    | succ i=>
      simp only[UQ,VF] at hv
      simpa using ih.2 i v hv
   ·cases h
theorem lM {place:Nat->Option (Nat×Nat)}:∀ {xs:List (Nat×Operand)} {ps:List (Nat×Nat×AX)},kf place xs=some ps->(∀ i,i∈ps.flatMap (fun p=>p.2.2.slots)->ARel κ (E i) (a.tmps.getD i Go.undef)) ->
  ∃ qs:List (Nat×Nat×Nat×AV×Value),qs.map (fun q=>(q.2.1,q.2.2.1,q.2.2.2.1))=ps.map (fun p=>(p.1,p.2.1,p.2.2.ev E))/\qs.map (fun q=>(q.1,q.2.2.2.2))=xs.map (fun p=>(p.1,a.eval p.2)) /\
    ∀ q∈qs,place q.1=some (q.2.1,q.2.2.1)/\ARel κ q.2.2.2.1 q.2.2.2.2
 | [],ps,h,_=>by simp[kf] at h;subst h;exact⟨[],rfl,rfl,by simp⟩
 | (i,x)::r,ps,h,hE=>by
   simp only[kf] at h
   split at h
   ·rename_i p b bs hp hb hbs
    cases h
    obtain⟨qs,h1,h2,h3⟩:=lM hbs (fun i hi=>hE i (by simp only[List.flatMap_cons,UY];exact .inr hi))
    refine⟨(i,p.1,p.2,b.ev E,a.eval x)::qs,by simp[h1],by simp[h2],fun q hq=>?_⟩
    rcases List.mem_cons.1 hq with rfl | hq
    ·exact⟨hp,az hb (fun i hi=>hE i (by simp[hi]))⟩
    ·exact h3 q hq
   ·cases h
theorem lN {x:Option Operand}{ax:Option AX}(h:cO x=some ax)(hE:∀ i,i∈iv ax->ARel κ (E i) (a.tmps.getD i Go.undef)) :
  (∀ v,ax.map (·.ev E)=some v->∃ u,x.map a.eval=some u/\ARel κ v u)/\(ax.map (·.ev E)=none->x.map a.eval=none):=by
 cases x with
 | none=>simp[cO] at h;subst h;simp
 | some x=>
   simp only[cO,Ut] at h
   obtain⟨b,hb,rfl⟩:=h
   exact⟨fun v hv=>by simp at hv;subst hv;exact⟨_,rfl,az hb (fun i hi=>hE i (by simpa[iv] using hi))⟩,by simp⟩
theorem dr {f:AX->TOp}{x:Operand}{t:TOp}(h:c1 f x=some t):∃ ax,cX x=some ax/\t=f ax:=by
 simp only[c1,Ut] at h
 obtain⟨ax,h1,h2⟩:=h
 exact⟨ax,h1,h2.symm⟩
theorem dq {f:AX->AX->TOp}{x y:Operand}{t:TOp}(h:c2 f x y=some t):∃ ax ay,cX x=some ax/\cX y=some ay/\t=f ax ay:=by
 unfold c2 at h
 split at h
 ·cases h;exact⟨_,_,‹_›,‹_›,rfl⟩
 ·cases h
theorem Dv {f:AX->Option AX->Option AX->TOp}{x:Operand}{l h':Option Operand}{t:TOp}(h:c3 f x l h'=some t):∃ ax al ah,cX x=some ax/\cO l=some al/\cO h'=some ah/\t=f ax al ah:=by
 unfold c3 at h
 split at h
 ·cases h;exact⟨_,_,_,‹_›,‹_›,‹_›,rfl⟩
 ·cases h
theorem kh {zs:List PV}{z:Value}{pz:PV}{ps:List (Nat×Nat×AX)}{xs:List (Nat×Operand)}{place:Nat->Option (Nat×Nat)}{v:AV}(hz:cV z=some pz)(hzs:zs=pz.cells)(hp:kf place xs=some ps)
  (hE:∀ i,i∈(TOp.build zs ps).slots->ARel κ (E i) (a.tmps.getD i Go.undef)) (hr:(TOp.build zs ps).run E=some v) :
  ∃ cells,Instr.fill place z.cells (xs.map fun p=>(p.1,a.eval p.2))=some cells/\ARel κ v (.agg cells):=by
 obtain⟨qs,h1,h2,h3⟩:=lM (κ:=κ) (E:=E) (a:=a) hp hE
 simp only[TOp.run,Ut] at hr
 obtain⟨out,ho,rfl⟩:=hr
 have hzr:=(ARel.pv (κ:=κ) pz z (fK hz)).cellsOf rfl
 subst hzs
 obtain⟨us,h4,h5,h6⟩:=zy (κ:=κ) place qs (pz.cells.map .pv) z.cells out (by simpa[AV.cells] using hzr.1) (by simpa[AV.cells] using hzr.2) h3 (by rw[h1];exact ho)
 exact⟨us,by rw[<- h2];exact h4,jE (.agg _ _ h5 h6)⟩
theorem nc {o:Oper}{t:TOp}{v:AV}(hc:cT P o.op=some t)(hE:∀ i,i∈t.slots->ARel κ (E i) (a.tmps.getD i Go.undef))(hr:t.run E=some v) :
  ∃ u,(execOp a.eval o).run P κ.w = .ok (.value u) κ.w/\ARel κ v u:=by
 obtain⟨dst,op,type,pos,after,guard⟩:=o
 simp only at hc
 unfold cT at hc
 split at hc
 ·obtain⟨ax,hx,rfl⟩:=dr hc
  simp[TOp.run] at hr;subst hr
  exact⟨_,by simp[execOp],az hx hE⟩
 ·obtain⟨ax,hx,rfl⟩:=dr hc
  simp[TOp.run] at hr;subst hr
  exact⟨_,by simp[execOp],az hx hE⟩
 ·rename_i c x y
  split at hc
  ·rename_i ac ax ay hcc hx hy
   cases hc
   obtain⟨b,hb,hv⟩:=NN (az hcc (fun i hi=>hE i (by simp[TOp.slots,hi]))) (az hx (fun i hi=>hE i (by simp[TOp.slots,hi]))) (az hy (fun i hi=>hE i (by simp[TOp.slots,hi]))) hr
   exact⟨_,by simp[execOp,hb,asBool],hv⟩
  ·cases hc
 ·rename_i t' parts
  split at hc
  ·rename_i it n e hit hu
   split at hc
   ·rename_i z ie hz hie
    split at hc
    ·rename_i p ps hp hps
     cases hc
     obtain⟨cells,h1,h2⟩:=kh (κ:=κ) (E:=E) (a:=a) hp rfl hps hE hr
     have hb:P.built t' (parts.map fun p=>(p.1,a.eval p.2)).toList=some cells:=by
      simp only[Program.built,hit,hu,hz,hie]
      simpa using h1
     exact⟨_,by simp[execOp,run_build κ.w t' _ cells hb],h2⟩
    ·cases hc
   ·cases hc
  ·rename_i it fields hit hu
   split at hc
   ·rename_i z places hz hpl
    split at hc
    ·rename_i p ps hp hps
     cases hc
     obtain⟨cells,h1,h2⟩:=kh (κ:=κ) (E:=E) (a:=a) hp rfl hps hE hr
     have hb:P.built t' (parts.map fun p=>(p.1,a.eval p.2)).toList=some cells:=by
      simp only[Program.built,hit,hu,hz,hpl]
      simpa using h1
     exact⟨_,by simp[execOp,run_build κ.w t' _ cells hb],h2⟩
    ·cases hc
   ·cases hc
  ·cases hc
 ·rename_i s x f
  split at hc
  ·rename_i fs hu
   split at hc
   ·rename_i fd hf
    split at hc
    ·rename_i n hn
     obtain⟨ax,hx,rfl⟩:=dr hc
     obtain⟨b,o,hxu,hv⟩:=J3 (az hx hE) hr
     exact⟨_,by simp[execOp,Instr.fieldAt,run_underlying hu,hf,hxu,Instr.sureAddr,fieldPlace,aZ hn,Addr.add_lit],hv⟩
    ·cases hc
   ·cases hc
  ·cases hc
 ·rename_i s x f
  split at hc
  ·rename_i fs hu
   split at hc
   ·rename_i fd hf
    split at hc
    ·rename_i n g hn hg
     obtain⟨ax,hx,rfl⟩:=dr hc
     obtain⟨vs,z,hxu,hv,h1,h2⟩:=J2 (az hx hE) hr
     exact⟨z,by simp[execOp,Instr.field,run_underlying hu,hf,hxu,asAgg,iU hg hn h1 h2],hv⟩
    ·cases hc
   ·cases hc
  ·cases hc
 ·rename_i t' x i
  split at hc
  ·rename_i e hu
   split at hc
   ·rename_i n hn
    obtain⟨ax,ai,hx,hi,rfl⟩:=dq hc
    obtain⟨b,o,len,cap,k,j,hxu,hiu,h0,hlt,hv⟩:=J1 (az hx (fun i hi=>hE i (by simp[TOp.slots,hi]))) (az hi (fun i hi=>hE i (by simp[TOp.slots,hi]))) hr
    exact⟨_,by simp[execOp,Instr.indexAt,run_underlying hu,hxu,hiu,asIntOf,h0,hlt,aZ hn,Addr.add_lit],hv⟩
   ·cases hc
  ·rename_i len e hu
   split at hc
   ·rename_i n hn
    obtain⟨ax,ai,hx,hi,rfl⟩:=dq hc
    obtain⟨b,o,k,j,hxu,hiu,h0,hlt,hv⟩:=EZ (az hx (fun i hi=>hE i (by simp[TOp.slots,hi]))) (az hi (fun i hi=>hE i (by simp[TOp.slots,hi]))) hr
    exact⟨_,by simp[execOp,Instr.indexAt,run_underlying hu,hxu,hiu,asIntOf,h0,hlt,aZ hn,Addr.add_lit,Instr.sureAddr],hv⟩
   ·cases hc
  ·cases hc
 ·rename_i t' x i
  split at hc
  ·rename_i hu
   obtain⟨ax,ai,hx,hi,rfl⟩:=dq hc
   obtain⟨s,k,n,b,hxu,hiu,h0,hb,rfl⟩:=J0 (az hx (fun i hi=>hE i (by simp[TOp.slots,hi]))) (az hi (fun i hi=>hE i (by simp[TOp.slots,hi]))) hr
   exact⟨_,by simp[execOp,Instr.index,run_underlying hu,hxu,hiu,asIntOf,h0,hb],.pv _ _ (.int _ _)⟩
  ·rename_i len e hu
   split at hc
   ·rename_i n g hn hg
    obtain⟨ax,ai,hx,hi,rfl⟩:=dq hc
    obtain⟨vs,j,k,z,hxu,hiu,h0,hlt,hv,h1,h2⟩:=EY (az hx (fun i hi=>hE i (by simp[TOp.slots,hi]))) (az hi (fun i hi=>hE i (by simp[TOp.slots,hi]))) hr
    exact⟨z,by simp[execOp,Instr.index,run_underlying hu,hxu,hiu,asIntOf,h0,hlt,aZ hn,iU hg hn h1 h2],hv⟩
   ·cases hc
  ·cases hc
 ·rename_i args argTypes
  split at hc
  ·rename_i x t' hargs hat
   obtain rfl:args = #[x]:=by cases args;simp_all
   obtain rfl:argTypes = #[t']:=by cases argTypes;simp_all
   split at hc
   ·rename_i hu
    obtain⟨ax,hx,rfl⟩:=dr hc
    obtain⟨s,hxu,rfl⟩:=(NR (az hx hE) hr).1 rfl
    exact⟨_,by simp[execOp,resolve,invoke,builtin,Builtin.len_,run_underlying hu,hxu,goInt],.pv _ _ (.int _ _)⟩
   ·rename_i e hu
    obtain⟨ax,hx,rfl⟩:=dr hc
    obtain⟨A,n,c,hxu,rfl⟩:=(NR (az hx hE) hr).2 rfl
    exact⟨_,by simp[execOp,resolve,invoke,builtin,Builtin.len_,run_underlying hu,hxu,goInt],.pv _ _ (.int _ _)⟩
   ·rename_i n e hu
    cases hc
    simp[TOp.run] at hr
    subst hr
    exact⟨_,by simp[execOp,resolve,invoke,builtin,Builtin.len_,run_underlying hu,goInt],.pv _ _ (.int _ _)⟩
   ·cases hc
  ·cases hc
 ·rename_i args argTypes
  split at hc
  ·rename_i x y hargs
   obtain rfl:args = #[x,y]:=by cases args;simp_all
   obtain⟨ax,ay,hx,hy,rfl⟩:=dq hc
   obtain⟨k,m,k',n,h1,h2,rfl⟩:=Rw (az hx (fun i hi=>hE i (by simp[TOp.slots,hi]))) (az hy (fun i hi=>hE i (by simp[TOp.slots,hi]))) hr
   exact⟨_,by simp[execOp,resolve,invoke,builtin,Builtin.min_,Builtin.min2,h1,h2],.pv _ _ (.int _ _)⟩
  ·cases hc
 ·rename_i args argTypes
  split at hc
  ·rename_i x y hargs
   obtain rfl:args = #[x,y]:=by cases args;simp_all
   obtain⟨ax,ay,hx,hy,rfl⟩:=dq hc
   obtain⟨k,m,k',n,h1,h2,rfl⟩:=Rx (az hx (fun i hi=>hE i (by simp[TOp.slots,hi]))) (az hy (fun i hi=>hE i (by simp[TOp.slots,hi]))) hr
   exact⟨_,by simp[execOp,resolve,invoke,builtin,Builtin.max_,Builtin.max2,h1,h2],.pv _ _ (.int _ _)⟩
  ·cases hc
 ·rename_i t' x lo hi
  split at hc
  ·rename_i hu
   obtain⟨ax,al,ah,hx,hl,hh,rfl⟩:=Dv hc
   obtain⟨l1,l2⟩:=lN (κ:=κ) (E:=E) (a:=a) hl (fun i hi=>hE i (by simp[TOp.slots,hi]))
   obtain⟨h1,h2⟩:=lN (κ:=κ) (E:=E) (a:=a) hh (fun i hi=>hE i (by simp[TOp.slots,hi]))
   obtain⟨s,p,q,hxu,hb,hv⟩:=EX (P:=P) (az hx (fun i hi=>hE i (by simp[TOp.slots,hi]))) l1 l2 h1 h2 hr
   exact⟨_,by simp[execOp,Instr.sliceAt,Instr.slice,run_underlying hu,hxu,hb],hv⟩
  ·rename_i e hu
   split at hc
   ·rename_i n hn
    obtain⟨ax,al,ah,hx,hl,hh,rfl⟩:=Dv hc
    obtain⟨l1,l2⟩:=lN (κ:=κ) (E:=E) (a:=a) hl (fun i hi=>hE i (by simp[TOp.slots,hi]))
    obtain⟨h1,h2⟩:=lN (κ:=κ) (E:=E) (a:=a) hh (fun i hi=>hE i (by simp[TOp.slots,hi]))
    obtain⟨A,m,c,p,q,hxu,hb,hv⟩:=sg (P:=P) (az hx (fun i hi=>hE i (by simp[TOp.slots,hi]))) l1 l2 h1 h2 hr
    exact⟨_,by simp[execOp,Instr.sliceAt,Instr.slice,run_underlying hu,hxu,hb,aZ hn],hv⟩
   ·cases hc
  ·cases hc
 ·rename_i op t' x y yt
  split at hc
  ·rename_i kd hk
   obtain⟨ax,ay,hx,hy,rfl⟩:=dq hc
   simp only[TOp.run,Ut] at hr
   obtain⟨b,hb,rfl⟩:=hr
   have:=NZ (P:=P) (κ:=κ) (X:=x) (Y:=y) hk (.inl rfl) (az hx (fun i hi=>hE i (by simp[TOp.slots,hi]))) (az hy (fun i hi=>hE i (by simp[TOp.slots,hi]))) hb
   exact⟨.bool b,by simp only[execOp];rw[Sem.run_bind,this];rfl,.pv _ _ (.bool _)⟩
  ·rename_i kd hk
   obtain⟨ax,ay,hx,hy,rfl⟩:=dq hc
   simp only[TOp.run,Ut] at hr
   obtain⟨b,hb,rfl⟩:=hr
   have:=NZ (P:=P) (κ:=κ) (X:=x) (Y:=y) hk (.inr rfl) (az hx (fun i hi=>hE i (by simp[TOp.slots,hi]))) (az hy (fun i hi=>hE i (by simp[TOp.slots,hi]))) hb
   exact⟨.bool (!b),by simp only[execOp];rw[Sem.run_bind,this];rfl,.pv _ _ (.bool _)⟩
  split at hc
  ·obtain⟨ax,ay,hx,hy,rfl⟩:=dq hc
   simp only[TOp.run,Ut] at hr
   obtain⟨b,hb,rfl⟩:=hr
   have:=Ix (P:=P) (κ:=κ) (X:=x) (Y:=y) (t:=t') (by assumption) (.inl rfl) (az hx (fun i hi=>hE i (by simp[TOp.slots,hi]))) (az hy (fun i hi=>hE i (by simp[TOp.slots,hi]))) hb
   exact⟨.bool b,by simp only[execOp];rw[Sem.run_bind,this];rfl,.pv _ _ (.bool _)⟩
  ·obtain⟨ax,ay,hx,hy,rfl⟩:=dq hc
   simp only[TOp.run,Ut] at hr
   obtain⟨b,hb,rfl⟩:=hr
   have:=Ix (P:=P) (κ:=κ) (X:=x) (Y:=y) (t:=t') (by assumption) (.inr rfl) (az hx (fun i hi=>hE i (by simp[TOp.slots,hi]))) (az hy (fun i hi=>hE i (by simp[TOp.slots,hi]))) hb
   exact⟨.bool (!b),by simp only[execOp];rw[Sem.run_bind,this];rfl,.pv _ _ (.bool _)⟩
  ·obtain⟨ax,ay,hx,hy,rfl⟩:=dq hc
   obtain⟨u,h1,h2,h3⟩:=RC (P:=P) (t:=t') (az hx (fun i hi=>hE i (by simp[TOp.slots,hi]))) (az hy (fun i hi=>hE i (by simp[TOp.slots,hi]))) hr
   refine⟨u,?_,h2⟩
   have hg:∀ op,eqGuard op t' x y (a.eval x) (a.eval y)=pure ():=by
    intro op
    rcases h3 with ⟨k,n,e⟩ | ⟨s,e⟩<;>rw[e]
    ·exact eqGuard_at_int ..
    ·exact eqGuard_at_string ..
   simp[execOp,hg,h1]
 ·obtain⟨ax,hx,rfl⟩:=dr hc
  obtain⟨k,n,h1,rfl⟩:=Ru (az hx hE) hr
  exact⟨_,by simp[execOp,Op.unary,h1,Op.intArith],.pv _ _ (.int _ _)⟩
 ·obtain⟨ax,hx,rfl⟩:=dr hc
  obtain⟨b,h1,rfl⟩:=Rs (az hx hE) hr
  exact⟨_,by simp[execOp,Op.unary,h1],.pv _ _ (.bool _)⟩
 ·obtain⟨ax,hx,rfl⟩:=dr hc
  obtain⟨k,n,h1,rfl⟩:=J5 (az hx hE) hr
  exact⟨_,by simp[execOp,Op.unary,h1,intBits_xor],.pv _ _ (.int _ _)⟩
 ·rename_i s d x
  split at hc
  ·rename_i k0 k hs hd
   obtain⟨ax,hx,rfl⟩:=dr hc
   obtain⟨k',n,h1,rfl⟩:=NX (az hx hE) hr
   exact⟨_,by simp[execOp,convert,run_underlying hs,run_underlying hd,h1,Conv.intToInt],.pv _ _ (.int _ _)⟩
  ·rename_i hs hd
   obtain⟨ax,hx,rfl⟩:=dr hc
   obtain⟨s',h1,rfl⟩:=J4 (az hx hE) hr
   exact⟨a.eval x,by simp[execOp,convert,run_underlying hs,run_underlying hd,h1],az hx hE⟩
  ·rename_i k0 hs hd
   obtain⟨ax,hx,rfl⟩:=dr hc
   obtain⟨k',n,h1,rfl⟩:=E0 (az hx hE) hr
   exact⟨_,by simp[execOp,convert,run_underlying hs,run_underlying hd,h1,Conv.intToString],.pv _ _ (.str _ (Pn n))⟩
  ·cases hc
 ·rename_i f fs cs
  split at hc
  ·rename_i af ac hf hcs
   cases hc
   simp[TOp.run] at hr
   subst hr
   obtain⟨l1,r1⟩:=fZ (κ:=κ) (E:=E) (a:=a) hf (fun i hi=>hE i (by simp only[TOp.slots,UY];exact .inl hi))
   obtain⟨l2,r2⟩:=fZ (κ:=κ) (E:=E) (a:=a) hcs (fun i hi=>hE i (by simp only[TOp.slots,UY];exact .inr hi))
   refine⟨.func (.func f) (fs.map a.eval) (cs.map a.eval),by simp[execOp,Instr.makeFunc],Bt (.clo _ _ _ _ _ (by simpa using l1) (fun i x hx=>?_) (by simpa using l2) (fun i x hx=>?_))⟩
   ·rw[aA];simpa using r1 i x hx
   ·rw[aA];simpa using r2 i x hx
  ·cases hc
 ·rename_i x i
  obtain⟨ax,hx,rfl⟩:=dr hc
  obtain⟨vs,u,h1,h2,h3⟩:=Rz (az hx hE) hr
  exact⟨u,by simp[execOp,Instr.extract,h1,h2],h3⟩
 ·obtain⟨ax,hx,rfl⟩:=dr hc
  obtain⟨rfl,h⟩:=Rt (az hx hE) hr
  refine⟨_,?_,az hx hE⟩
  rcases h with ⟨b,o,h1⟩ | ⟨f,p,q,h1⟩<;>simp[execOp,h1]
 ·cases hc
end
section
variable {P:Program}{c:Ctx}{κ κ':Kap}{σ:aq}
theorem uu (hS:SRel c κ σ){r0 b0:Nat}{d0:Den}{Bo:Blk}{w':World}(new:Nat)
  (hos:w'.os=κ.w.os) (htape:w'.tape=κ.w.tape) (hout:w'.output=κ.w.output) (hsize:w'.heap.size=κ.w.heap.size)
  (hblock:∀ b,b≠b0->w'.heap[b]? = κ.w.heap[b]?) (hcell:∀ o,¬ κ.imm b0 o)
  (h0:σ r0≠.none) (hd0:κ.nm r0=some d0) (hb0:d0.block=some b0) :
  Done c κ ⟨w',κ.nm,κ.imm⟩ new/\(eP ⟨w',κ.nm,κ.imm⟩ r0 Bo->SRel c ⟨w',κ.nm,κ.imm⟩ (σ.set r0 Bo)):=by
 have he:Ext κ ⟨w',κ.nm,κ.imm⟩:=by
  refine⟨fun _ _ h=>h,fun b o v hi hc=>?_,fun _ _ h=>h,fun b o ho hc=>(hblock b fun e=>?_).trans ho⟩
  rotate_left
  ·have:=(hS.blk r0).isCells h0 hd0 hb0 (e▸ho);rw[hc] at this;cases this
  have hne:b≠b0:=by rintro rfl;exact hcell o hi
  have hb:=hblock b hne
  simpa[World.cell?,hb] using hc
 have hm:=hS.mine r0 d0 b0 h0 hd0 hb0
 refine⟨⟨he,fun imm0 hL=>⟨hos.trans hL.os,htape.trans hL.tape,hout.trans hL.output,by rw[hsize];exact hL.size,fun b hb hl=>?_,fun b o hi=>hL.imm b o hi⟩,by rw[hsize];exact UI _,fun r _ h=>h⟩,fun hBo=>?_⟩
 ·refine (hblock b fun e=>?_).trans (hL.block b hb hl)
  subst e
  rcases hm with h | h
  ·omega
  ·exact hl h
 ·refine⟨fun r=>?_,fun r r' d d' b h1 h2 hne hd hd' hb=>?_,fun r d b h1 hd hb=>?_,fun b o hi=>by rw[hsize];exact hS.immLt b o hi,T9 he hS.glob fun g h1 h2=>hblock g fun e=>en h1 h2 (e▸hm)⟩
  ·by_cases hr:r=r0
   ·subst hr;simpa[aq.set] using hBo
   ·simp only[aq.set,hr,if_false]
    refine (hS.blk r).keep he fun hz d b hd hb=>⟨hblock b ?_,fun o ho=>ho⟩
    rintro rfl
    exact hS.apart r r0 d d0 b hz h0 hr hd hd0 hb hb0
  ·have hz:∀ r,aq.set σ r0 Bo r≠.none->σ r≠.none:=by
    intro r h
    by_cases hr:r=r0
    ·subst hr;exact h0
    ·simpa[aq.set,hr] using h
   exact hS.apart r r' d d' b (hz r h1) (hz r' h2) hne hd hd' hb
  ·have hz:σ r≠.none:=by
    by_cases hr:r=r0
    ·subst hr;exact h0
    ·simpa[aq.set,hr] using h1
   exact hS.mine r d b hz hd hb
theorem uw (hS:SRel c κ σ)(hw:c.w0.heap.size<=κ.w.heap.size){r0 new:Nat}{b0:Option Nat}{d:Den}{Bn:Blk}{w':World}{q:Nat->Nat->Prop}{b':Nat}
  (hg:κ.w.grownBy w' b0) (hnew:κ.nm new=none) (hd:d.block=some b') (hb':some b'=b0\/(κ.w.heap.size<=b'/\b'<w'.heap.size))
  (hq:∀ b o,q b o->b=b') (hkeep:∀ o v,κ.imm b' o->κ.w.cell? ⟨b',o,none⟩=some v->w'.cell? ⟨b',o,none⟩=some v)
  (hkeep0:∀ b o v,some b=b0->κ.imm b o->κ.w.cell? ⟨b,o,none⟩=some v->w'.cell? ⟨b,o,none⟩=some v)
  (hb0:∀ b,b0=some b->σ r0≠.none/\∃ d,κ.nm r0=some d/\d.block=some b) :
  let κ':Kap:=⟨w',fun r=>if r=new then some d else κ.nm r,fun b o=>κ.imm b o\/q b o⟩
  Done c κ κ' new/\(eP κ' new Bn->SRel c κ' ((σ.set r0 .none).set new Bn)):=by
 intro κ'
 have hlt:∀ r d b,σ r≠.none->κ.nm r=some d->d.block=some b->b<κ.w.heap.size:=fun r d b h1 h2 h3=>(hS.blk r).lt h1 h2 h3
 have he:Ext κ κ':=by
  refine⟨fun b j h=>.inl h,fun b o v hi hc=>?_,fun r d' h=>?_,fun b o ho hc=>?_⟩
  ·by_cases hb:some b=b0
   ·exact hkeep0 b o v hb hi hc
   ·have hl:=World.block_lt_of_cell? κ.w _ hc
    have:=hg.block b hl hb
    exact (World.cell?_of_block (a:=⟨b,o,none⟩) this).trans hc
  ·have:r≠new:=by rintro rfl;rw[hnew] at h;cases h
   simp[κ',this,h]
  ·refine (hg.block b (UF.1 ho).1 fun e=>?_).trans ho
   obtain⟨k1,d1,k2,k3⟩:=hb0 b e.symm
   have:=(hS.blk r0).isCells k1 k2 k3 ho;rw[hc] at this;cases this
 have hmine0:∀ b,b0=some b->c.mine b:=fun b hb=>by
  obtain⟨h1,d,h2,h3⟩:=hb0 b hb
  exact hS.mine r0 d b h1 h2 h3
 have hmine':c.mine b':=by
  rcases hb' with h | ⟨h,_⟩
  ·exact hmine0 b' h.symm
  ·exact .inl (UX hw h)
 have hb'lt:b'<w'.heap.size:=by
  rcases hb' with h | ⟨_,h⟩
  ·obtain⟨h1,d,h2,h3⟩:=hb0 b' h.symm
   have:=hlt r0 d b' h1 h2 h3
   have:=hg.size;omega
  ·exact h
 refine⟨⟨he,fun imm0 hL=>⟨hg.os.trans hL.os,hg.tape.trans hL.tape,hg.output.trans hL.output,UX hL.size hg.size,fun b hb hl=>?_,fun b o hi=>?_⟩,hg.size,fun r hr h=>by simp[κ',hr,h]⟩,fun hBn=>?_⟩
 ·refine (hg.block b (UZ hb hL.size) fun e=>?_).trans (hL.block b hb hl)
  rcases hmine0 b e.symm with h | h
  ·omega
  ·exact hl h
 ·rcases hi with hi | hi
  ·exact hL.imm b o hi
  ·rw[hq b o hi];exact .inr hmine'
 ·-- a live name other than the new one: an old live name,not r0
  have old:∀ r,r≠new->((σ.set r0 .none).set new Bn) r≠.none->r≠r0/\σ r≠.none:=by
   intro r h1 h2
   simp only[aq.set,if_neg h1] at h2
   by_cases hr:r=r0
   ·simp[hr] at h2
   ·simp only[if_neg hr] at h2;exact⟨hr,h2⟩
  have nm':∀ r,r≠new->κ'.nm r=κ.nm r:=fun r h=>by simp[κ',h]
  have nne:∀ r,r≠new->((σ.set r0 .none).set new Bn) r≠.none->∀ d1 b,κ.nm r=some d1->d1.block=some b->some b≠b0:=by
   intro r h1 h2 d1 b hd1 hb1 e
   obtain⟨k0,k1⟩:=old r h1 h2
   obtain⟨e1,d',e2,e3⟩:=hb0 b e.symm
   exact hS.apart r r0 d1 d' b k1 e1 k0 hd1 e2 hb1 e3
  have newne:∀ r,r≠new->((σ.set r0 .none).set new Bn) r≠.none->∀ d1 b,κ.nm r=some d1->d1.block=some b->b≠b':=by
   intro r h1 h2 d1 b hd1 hb1 e
   subst e
   rcases hb' with h | ⟨h,_⟩
   ·exact nne r h1 h2 d1 b hd1 hb1 h
   ·have:=hlt r d1 b (old r h1 h2).2 hd1 hb1;omega
  refine⟨fun r=>?_,fun r r' d1 d2 b h1 h2 hne hd1 hd2 hb1 hb2=>?_,fun r d1 b h1 hd1 hb1=>?_,fun b o hi=>?_,T9 he hS.glob fun g h1 h2=>hg.block g (UZ h1 hw) fun e=>en h1 h2 (hmine0 g e.symm)⟩
  ·by_cases hr:r=new
   ·subst hr;simpa[aq.set] using hBn
   ·by_cases hr0:r=r0
    ·have:((σ.set r0 .none).set new Bn) r = .none:=by subst hr0;simp[aq.set,hr]
     rw[this];trivial
    ·have hv:((σ.set r0 .none).set new Bn) r=σ r:=by simp[aq.set,hr,hr0]
     rw[hv]
     refine (hS.blk r).keep he fun hz d1 b hd1 hb1=>⟨hg.block b (hlt r d1 b hz hd1 hb1) (nne r hr (by rw[hv];exact hz) d1 b hd1 hb1),fun o ho=>?_⟩
     rcases ho with ho | ho
     ·exact ho
     ·exact absurd (hq b o ho) (newne r hr (by rw[hv];exact hz) d1 b hd1 hb1)
  ·by_cases hr:r=new
   ·subst hr
    have hr':r'≠r:=fun e=>hne e.symm
    rw[nm' r' hr'] at hd2
    have e1:d1=d:=by simpa[κ'] using hd1.symm
    subst e1
    rw[hd] at hb1;cases hb1
    exact newne r' hr' h2 d2 _ hd2 hb2 rfl
   ·rw[nm' r hr] at hd1
    by_cases hr':r'=new
    ·subst hr'
     have e1:d2=d:=by simpa[κ'] using hd2.symm
     subst e1
     rw[hd] at hb2;cases hb2
     exact newne r hr h1 d1 _ hd1 hb1 rfl
    ·rw[nm' r' hr'] at hd2
     exact hS.apart r r' d1 d2 b (old r hr h1).2 (old r' hr' h2).2 hne hd1 hd2 hb1 hb2
  ·by_cases hr:r=new
   ·subst hr
    have e1:d1=d:=by simpa[κ'] using hd1.symm
    subst e1
    rw[hd] at hb1;cases hb1
    exact hmine'
   ·rw[nm' r hr] at hd1
    exact hS.mine r d1 b (old r hr h1).2 hd1 hb1
  ·rcases hi with hi | hi
   ·exact UZ (hS.immLt b o hi) hg.size
   ·rw[hq b o hi];exact hb'lt
end
inductive XOp where
 | cap (sz:Nat) (x:AX)
 | resl (sz:Nat) (x h:AX)
 | copy (sz:Nat) (x y:AX)
 | apart (x y:AX)
 | appz (e sz by_:Nat) (zs:List PV) (x k:AX)
 | noesc (x:AX)
 | ucast (u n:Nat) (back:Bool) (x:AX)
 | peq (ng:Bool) (x y:AX)
 | anyc
 | apps (e by_:Nat) (x y:AX)
 | sdata (x:AX)
 | ustr (e:Nat) (x k:AX)
 | ofStr (x:AX)
 | fnil (ng:Bool) (x y:AX)
 | inil (ng:Bool) (x y:AX)
 | idxb (x y:AX)
 | mki (T:Nat) (x:AX)
 | mkmap
 | mlook (kd:Option IntKind) (co:Bool) (z:PV) (x k:AX)
 | mset (kd:Option IntKind) (x k v:AX)
 | bslf (sz len:Nat) (xs:List AX)
 | same (x:AX)
 | mlen (x:AX)
def XOp.slots:XOp->List Nat
 | .cap _ x=>x.slots
 | .resl _ x y | .copy _ x y | .apart x y | .appz _ _ _ _ x y | .peq _ x y | .apps _ _ x y | .ustr _ x y | .fnil _ x y | .inil _ x y | .idxb x y | .mlook _ _ _ x y=>x.slots++y.slots
 | .mset _ x k v=>x.slots++(k.slots++v.slots)
 | .noesc x | .ucast _ _ _ x | .sdata x | .ofStr x | .mki _ x | .same x | .mlen x=>x.slots
 | .anyc | .mkmap=>[]
 | .bslf _ _ xs=>xs.flatMap AX.slots
def XOp.makes:XOp->Bool
 | .appz _ _ _ _ _ _ | .apps _ _ _ _ | .ofStr _ | .mkmap=>true
 | _=>false
inductive MOp where
 | alloc (T:Nat) (zs:List PV)
 | box (T:Nat) (x:AX)
 | cbox (T:Nat) (x:AX)
 | load (g:Bool) (sz:Nat) (x:AX)
 | store (sz:Nat) (x v:AX)
 | bslice (mu:Bool) (e sz len:Nat) (xs:List AX)
 | append (mu:Bool) (e sz by_:Nat) (x y:AX)
 | sliceA (n sz:Nat) (x:AX) (lo hi:Option AX)
 | mk (mu:Bool) (e sz by_:Nat) (zs:List PV) (x y:AX)
 | clear (sz:Nat) (zs:List PV) (x:AX)
 | toStr (x:AX)
 | xop (o:XOp)
def MOp.slots:MOp->List Nat
 | .alloc _ _=>[]
 | .box _ x | .cbox _ x | .load _ _ x | .clear _ _ x | .toStr x=>x.slots
 | .store _ x v | .append _ _ _ _ x v=>x.slots++v.slots
 | .bslice _ _ _ _ xs=>xs.flatMap AX.slots
 | .sliceA _ _ x l h=>x.slots++iv l++iv h
 | .mk _ _ _ _ _ x y=>x.slots++y.slots
 | .xop o=>o.slots
def MOp.makes:MOp->Bool
 | .load _ _ _ | .store _ _ _ | .sliceA _ _ _ _ _ | .clear _ _ _ | .toStr _=>false
 | .xop o=>o.makes
 | _=>true
def PV.isAgg:PV->Bool
 | .agg _=>true
 | _=>false
def ky (g:Bool)(sz o:Nat)(e:PV):Option AV:=
 if g=true/\o=0/\e.isAgg=true/\e.cells.length=sz then some (.pv e) else dg g sz o (e.cells.map .pv)
def ef (G:Nat->List PV)(g:Bool)(sz:Nat)(σ:aq):AV->Option AV
 | .ptr r o=>match σ r with
   | .cells _ _ l=>dg g sz o l
   | _=>none
 | .pv (.eptr l i o)=>match l[i]? with
   | some e=>ky g sz o e
   | none=>none
 | .pv (.gptr b o)=>dg g sz o ((G b).map .pv)
 | _=>none
def gj (sz:Nat)(σ:aq)(x v:AV):Option (List (Nat×Blk)):=
 match x with
 | .ptr r o=>match σ r with
   | .cells T f l=>if v.known=true/\v.cells.length=sz/\v.cells.all AV.one=true/\o+sz<=l.length then some [(r,.cells T f (l.take o++v.cells++l.drop (o+sz)))] else none
   | _=>none
 | _=>none
def be (σ:aq)(sz:Nat):AV->Option (List PV)
 | .pv .nils=>some []
 | .pv (.list l)=>if l.all (fun y=>y.cells.length == sz)=true then some l else none
 | .olist _ s l=>if s=sz then some l else none
 | .row r s off len=>match σ r with
   | .cells _ _ l=>if s=1/\sz=1/\off+len<=l.length/\((l.drop off).take len).all AV.one=true then pvs ((l.drop off).take len) else none
   | _=>none
 | _=>none
def kY (n m by_:Nat):Bool:=decide (n+m<=9223372036854775807)&&decide ((n+m)*by_<=140737488355328)
def cn (ys:List PV):List AV:=(ys.flatMap PV.cells).map .pv
def dE (mu:Bool)(e sz by_ new:Nat)(σ:aq)(x y:AV):Option (AV×List (Nat×Blk)):=
 match be σ sz y with
 | some ys=>match mu,x with
   | false,.pv .nils=>match ys with
     | []=>some (.pv .nils,[])
     | y::r=>if kY 0 (r.length+1) by_=true then some (.olist new sz (y::r),[(new,.tok e sz)]) else none
   | false,.olist q s l=>match σ q with
     | .tok e' sz'=>if e'=e/\sz'=sz/\s=sz/\kY l.length ys.length by_=true then some (.olist new sz (l++ys),[(q,.none),(new,.tok e sz)]) else none
     | _=>none
   | true,.pv .nils=>match ys with
     | []=>some (.pv .nils,[])
     | y::r=>if kY 0 (r.length+1) by_=true then some (.row new sz 0 (r.length+1),[(new,.cells e false (cn (y::r)))]) else none
   | true,.row q s off len=>match σ q with
     | .cells e' _ l=>if e'=e/\s=sz/\off=0/\len*sz<=l.length/\kY len ys.length by_=true then some (.row new sz 0 (len+ys.length),[(q,.none),(new,.cells e false (l.take (len*sz)++cn ys))]) else none
     | _=>none
   | _,_=>none
 | none=>none
def de (mu:Bool)(e sz len new:Nat)(vs:List AV):Option (AV×List (Nat×Blk)):=
 if vs.length=len/\len<=9223372036854775807 then
  match mu with
  | false=>match pvs vs with
    | some ps=>if ps.all (fun p=>p.cells.length == sz&&p.cells.all PV.one)=true then some (.olist new sz ps,[(new,.tok e sz)]) else none
    | none=>none
  | true=>if vs.all (fun v=>v.known&&v.cells.length == sz&&v.cells.all AV.one)=true then some (.row new sz 0 len,[(new,.cells e true (vs.flatMap AV.cells))]) else none
 else none
def rMk (mu:Bool)(e sz by_:Nat)(zs:List PV)(new:Nat):AV->AV->Option (AV×List (Nat×Blk))
 | .pv (.int _ l),.pv (.int _ c)=>if 0<=l/\l<=c/\(by_:Int)*c<=281474976710656/\c<=9223372036854775807 then
   match mu with
   | false=>if l=0 then some (.olist new sz [],[(new,.tok e sz)]) else none
   | true=>some (.row new sz 0 l.toNat,[(new,.cells e false ((Vm l.toNat zs).flatten.map .pv))])
   else none
 | _,_=>none
def gq (sz:Nat)(zs:List PV)(σ:aq):AV->Option (List (Nat×Blk))
 | .row r s off len=>match σ r with
   | .cells T f l=>if s=sz/\0<len/\zs.length=sz/\off+len*sz<=l.length/\zs.all PV.one=true then some [(r,.cells T f (l.take off++(Vm len zs).flatten.map .pv++l.drop (off+len*sz)))] else none
   | _=>none
 | _=>none
def u8s:List PV->Option (List UInt8)
 | []=>some []
 | .int .u8 n::r=>match u8s r with
   | some l=>some (UInt8.ofNat n.toNat::l)
   | none=>none
 | _=>none
def eI (σ:aq)(x:AV):Option AV:=
 match be σ 1 x with
 | some ys=>match u8s ys with
   | some l=>some (.pv (.str l))
   | none=>none
 | none=>none
def Fx (sz:Nat)(σ:aq):AV->Option AV
 | .row r s off len=>match σ r with
   | .cells _ f l=>if f=true/\s=sz/\0<sz/\off=0 then some (.pv (.int .i64 ((l.length / sz:Nat):Int))) else none
   | _=>none
 | _=>none
def l7 (sz:Nat)(σ:aq):AV->AV->Option AV
 | .row r s off len,.pv (.int k h)=>match σ r with
   | .cells _ f l=>if f=true/\s=sz/\0<sz/\off=0/\0<=h/\h.toNat*sz<=l.length then some (.row r sz 0 h.toNat) else none
   | _=>none
 | _,_=>none
def xN (sz:Nat)(σ:aq):AV->Option (Nat×List AV)
 | .row r s off len=>match σ r with
   | .cells _ _ l=>if s=sz/\off+len*sz<=l.length then some (len,(l.drop off).take (len*sz)) else none
   | _=>none
 | y=>(be σ sz y).map fun ys=>(ys.length,cn ys)
def Mo (sz r off len:Nat)(T:Nat)(f:Bool)(l:List AV):Nat×List AV->Option (AV×List (Nat×Blk))
 | (m,cs)=>if off+min m len*sz<=l.length/\(cs.take (min m len*sz)).all AV.one=true then
   some (.pv (.int .i64 ((min m len:Nat):Int)),[(r,.cells T f (l.take off++cs.take (min m len*sz)++l.drop (off+min m len*sz)))]) else none
def nI (sz:Nat)(σ:aq)(x y:AV):Option (AV×List (Nat×Blk)):=
 match x with
 | .row r s off len=>match σ r with
   | .cells T f l=>if s=sz then (xN sz σ y).bind (Mo sz r off len T f l) else none
   | _=>none
 | _=>none
def gr (σ:aq):AV->AV->Option AV
 | .olist r _ k,.row q _ _ _=>match σ r,σ q with
   | .tok _ _,.cells _ f l=>if r≠q/\f=true/\0<l.length/\0<k.length then some (.pv (.bool false)) else none
   | _,_=>none
 | _,_=>none
def nK (e sz by_:Nat)(zs:List PV)(new:Nat)(σ:aq):AV->AV->Option (AV×List (Nat×Blk))
 | .row r s off len,.pv (.int _ k)=>match σ r with
   | .cells _ f l=>if f=true/\s=sz/\0<sz/\off=0/\0<k/\l.length<(len+k.toNat)*sz/\zs.length=sz/\zs.all PV.one=true/\kY len k.toNat by_=true then
     some (.row new sz 0 (len+k.toNat),[(new,.cells e false (l.take (len*sz)++(Vm k.toNat zs).flatten.map .pv))]) else none
   | _=>none
 | _,_=>none
def eY (u n:Nat)(back:Bool)(σ:aq):AV->Option AV
 | .ptr r o=>match σ r with
   | .cells T f l=>match back with
     | false=>if o<l.length then some (.ptr r o) else none
     | true=>if T=u/\o=0/\f=true/\l.length=n then some (.ptr r o) else none
   | _=>none
 | _=>none
def K2 (ng:Bool):AV->AV->Option AV
 | .ptr r o,.ptr r' o'=>if r=r'/\o=o' then some (.pv (.bool (!ng))) else none
 | _,_=>none
def aX (l:List UInt8):List PV:=l.map fun b=>.int .u8 (b.toNat:Int)
def I5 (e sz by_ new:Nat)(σ:aq)(x:AV)(ys:List PV):Option (AV×List (Nat×Blk)):=
 match x with
 | .pv .nils=>match ys with
   | []=>some (.pv .nils,[])
   | y::r=>if kY 0 (r.length+1) by_=true then some (.row new sz 0 (r.length+1),[(new,.cells e false (cn (y::r)))]) else none
 | .row q s off len=>match σ q with
   | .cells e' _ l=>if e'=e/\s=sz/\off=0/\len*sz<=l.length/\kY len ys.length by_=true then some (.row new sz 0 (len+ys.length),[(q,.none),(new,.cells e false (l.take (len*sz)++cn ys))]) else none
   | _=>none
 | _=>none
def kw (e by_ new:Nat)(σ:aq)(x:AV):AV->Option (AV×List (Nat×Blk))
 | .pv (.str k)=>I5 e 1 by_ new σ x (aX k)
 | _=>none
def gl:AV->Option AV
 | .pv .nils=>some (.pv .nilp)
 | .row r _ off len=>if 0<len then some (.ptr r off) else none
 | _=>none
def u8x:List PV->Option (List UInt8)
 | []=>some []
 | .int .u8 n::r=>if 0<=n/\n<256 then (match u8x r with
   | some l=>some (UInt8.ofNat n.toNat::l)
   | none=>none) else none
 | _=>none
def A9 (e r:Nat):Option (List UInt8)->Option (AV×List (Nat×Blk))
 | some l=>some (.pv (.str l),[(r,.bts e l)])
 | none=>none
def Jt (e r o:Nat)(k:Int):Blk->Option (AV×List (Nat×Blk))
 | .cells T _ l=>if T=e/\o=0/\0<k/\k.toNat<=l.length/\k<=140737488355328 then A9 e r ((pvs (l.take k.toNat)).bind u8x) else none
 | .bts T l=>if T=e/\o=0/\0<k/\k=(l.length:Int)/\k<=140737488355328 then some (.pv (.str l),[(r,.bts e l)]) else none
 | _=>none
def nC (e:Nat)(σ:aq):AV->AV->Option (AV×List (Nat×Blk))
 | .ptr r o,.pv (.int .i64 k)=>Jt e r o k (σ r)
 | .pv .nilp,.pv (.int .i64 k)=>if k=0 then some (.pv (.str []),[]) else none
 | _,_=>none
def ju (new:Nat):AV->Option (AV×List (Nat×Blk))
 | .pv (.str k)=>if k.length<=140737488355328 then some (.pv (.list (aX k)),[(new,.none)]) else none
 | _=>none
def nF (ng:Bool):AV->AV->Option AV
 | .pv (.clo _ _ _),.pv .nilf=>some (.pv (.bool ng))
 | .clo _ _ _,.pv .nilf=>some (.pv (.bool ng))
 | .pv .nilf,.pv .nilf=>some (.pv (.bool (!ng)))
 | _,_=>none
def Fv (ng:Bool):AV->AV->Option AV
 | .pv .nili,.pv .nili=>some (.pv (.bool (!ng)))
 | .pv (.iface _ _),.pv .nili=>some (.pv (.bool ng))
 | _,_=>none
def Ng (c:UInt8):List UInt8->Nat->Int
 | [],_=>-1
 | b::r,i=>if b == c then (i:Int) else Ng c r (i+1)
def qh:AV->AV->Option AV
 | .pv (.str s),.pv (.int .u8 c)=>some (.pv (.int .i64 (Ng c.toNat.toUInt8 s 0)))
 | _,_=>none
def Q2 (T:Nat)(x:AV):Option AV:=x.toPV.map fun p=>.pv (.iface T p)
def di:TypeDesc->Option (Option IntKind)
 | .string=>some none
 | .int k=>some (some k)
 | _=>none
def wq:Option IntKind->PV->Bool
 | none,.str _=>true
 | some k,.int k' _=>k=k'
 | _,_=>false
def keq:PV->PV->Option Bool
 | .str a,.str b=>some (a == b)
 | .int k a,.int k' b=>if k=k' then some (a == b) else none
 | _,_=>none
def fC (k:PV):List (PV×PV)->Nat->Option (Option (Nat×PV))
 | [],_=>some none
 | p::r,i=>match keq k p.1 with
   | some true=>some (some (i,p.2))
   | some false=>fC k r (i+1)
   | none=>none
def ma (kd:Option IntKind)(co:Bool)(z:PV)(σ:aq):AV->AV->Option AV
 | .mp r,.pv k=>match σ r with
   | .mp l=>if wq kd k=true then match fC k l 0 with
     | some (some (_,v))=>some (.pv (if co=true then .tup [v,.bool true] else v))
     | some none=>some (.pv (if co=true then .tup [z,.bool false] else z))
     | none=>none
     else none
   | _=>none
 | _,_=>none
def l8 (kd:Option IntKind)(σ:aq):AV->AV->AV->Option (List (Nat×Blk))
 | .mp r,.pv k,v=>match σ r,v.toPV with
   | .mp l,some p=>if wq kd k=true then match fC k l 0 with
     | some (some (i,_))=>some [(r,.mp (l.set i (k,p)))]
     | some none=>some [(r,.mp (l++[(k,p)]))]
     | none=>none
     else none
   | _,_=>none
 | _,_,_=>none
def qm (sz len:Nat)(vs:List AV):Option (AV×List (Nat×Blk)):=
 if vs.length=len/\len<=9223372036854775807 then match pvs vs with
  | some ps=>if ps.all (fun p=>p.cells.length == sz&&p.cells.all PV.one)=true then some (.pv (.list ps),[]) else none
  | none=>none
 else none
def EW (q:Nat)(l:List PV):Blk->Option (AV×List (Nat×Blk))
 | .tok _ _=>some (.pv (.list l),[(q,.none)])
 | _=>none
def qc (σ:aq):AV->Option (AV×List (Nat×Blk))
 | .olist q _ (y::l)=>EW q (y::l) (σ q)
 | _=>none
def l9 (σ:aq):AV->Option AV
 | .mp r=>match σ r with
   | .mp l=>some (.pv (.int .i64 l.length))
   | _=>none
 | _=>none
def XOp.run (new:Nat)(E:Nat->AV)(σ:aq):XOp->Option (AV×List (Nat×Blk))
 | .cap sz x=>(Fx sz σ (x.ev E)).map fun v=>(v,[])
 | .resl sz x h=>(l7 sz σ (x.ev E) (h.ev E)).map fun v=>(v,[])
 | .copy sz x y=>nI sz σ (x.ev E) (y.ev E)
 | .apart x y=>(gr σ (x.ev E) (y.ev E)).map fun v=>(v,[])
 | .appz e sz by_ zs x k=>nK e sz by_ zs new σ (x.ev E) (k.ev E)
 | .noesc x=>some (x.ev E,[])
 | .ucast u n b x=>(eY u n b σ (x.ev E)).map fun v=>(v,[])
 | .peq ng x y=>(K2 ng (x.ev E) (y.ev E)).map fun v=>(v,[])
 | .anyc=>some (.any,[])
 | .apps e by_ x y=>kw e by_ new σ (x.ev E) (y.ev E)
 | .sdata x=>(gl (x.ev E)).map fun v=>(v,[])
 | .ustr e x k=>nC e σ (x.ev E) (k.ev E)
 | .ofStr x=>ju new (x.ev E)
 | .fnil ng x y=>(nF ng (x.ev E) (y.ev E)).map fun v=>(v,[])
 | .inil ng x y=>(Fv ng (x.ev E) (y.ev E)).map fun v=>(v,[])
 | .idxb x y=>(qh (x.ev E) (y.ev E)).map fun v=>(v,[])
 | .mki T x=>(Q2 T (x.ev E)).map fun v=>(v,[])
 | .mkmap=>some (.mp new,[(new,.mp [])])
 | .mlook kd co z x k=>(ma kd co z σ (x.ev E) (k.ev E)).map fun v=>(v,[])
 | .mset kd x k v=>(l8 kd σ (x.ev E) (k.ev E) (v.ev E)).map fun d=>(.pv .undef,d)
 | .bslf sz len xs=>qm sz len (xs.map (·.ev E))
 | .same x=>qc σ (x.ev E)
 | .mlen x=>(l9 σ (x.ev E)).map fun v=>(v,[])
def MOp.run (G:Nat->List PV)(new:Nat)(E:Nat->AV)(σ:aq):MOp->Option (AV×List (Nat×Blk))
 | .alloc T zs=>some (.ptr new 0,[(new,.cells T true (zs.map .pv))])
 | .box T x=>if (x.ev E).known=true then some (.ptr new 0,[(new,.cells T true (x.ev E).cells)]) else none
 | .cbox T x=>match (x.ev E).toPV with
   | some p=>if p.cells.all PV.one=true then some (.pv (.eptr [p] 0 0),[(new,.none)]) else none
   | none=>none
 | .load g sz x=>(ef G g sz σ (x.ev E)).map fun v=>(v,[])
 | .store sz x v=>(gj sz σ (x.ev E) (v.ev E)).map fun d=>(.pv .undef,d)
 | .clear sz zs x=>(gq sz zs σ (x.ev E)).map fun d=>(.pv (.tup []),d)
 | .toStr x=>(eI σ (x.ev E)).map fun v=>(v,[])
 | .xop o=>o.run new E σ
 | .bslice mu e sz len xs=>de mu e sz len new (xs.map (·.ev E))
 | .append mu e sz by_ x y=>dE mu e sz by_ new σ (x.ev E) (y.ev E)
 | .mk mu e sz by_ zs x y=>rMk mu e sz by_ zs new (x.ev E) (y.ev E)
 | .sliceA n sz x lo hi=>match x.ev E with
   | .ptr r o=>match σ r with
     | .cells _ f l=>if f=true/\o+n*sz<=l.length/\(o=0->n*sz=l.length)/\n<=9223372036854775807 then (dd sz (.row r sz o n) (lo.map (·.ev E)) (hi.map (·.ev E))).map fun v=>(v,[]) else none
     | _=>none
   | _=>none
section
variable {P:Program}{c:Ctx}{κ:Kap}{σ:aq}
theorem ft {t:TypeId}{g:Bool}{sz b base off:Nat}{l:List AV}{v:AV}(hg:iP P t=some g)(hn:eR P t=some sz)
  (hcells:∀ (j:Nat) (y:AV),l[j]? = some y->∃ u,κ.w.cell? ⟨b,base+j,none⟩=some u/\ARel κ y u) (hr:dg g sz off l=some v) :
  ∃ u,(loadVar t ⟨b,base+off,none⟩).run P κ.w = .ok u κ.w/\ARel κ v u:=by
 unfold dg at hr
 cases g with
 | true=>
   simp only at hr
   split at hr
   ·rename_i h
    cases hr
    have hf:∀ j,j<sz->κ.w.cell? ((⟨b,base+off,none⟩:Addr).add j)=some ((κ.w.cell? ⟨b,base+off+j,none⟩).getD Go.undef):=by
     intro j hj
     obtain⟨u,hu,_⟩:=hcells (off+j) _ (Uq (by omega))
     rw[<- Nat.add_assoc] at hu
     simp[Addr.add_lit,hu]
    have hl:=run_loadCells (P:=P) κ.w ⟨b,base+off,none⟩ sz (fun j=>(κ.w.cell? ⟨b,base+off+j,none⟩).getD Go.undef) hf
    refine⟨.agg ((U1 sz).map fun j=>(κ.w.cell? ⟨b,base+off+j,none⟩).getD Go.undef).toArray,?_,jE (.agg _ _ (by simp;omega) fun i x hx=>?_)⟩
    ·simp only[loadVar,Sem.run_bind,jp hg,Result.andThen_ok,if_true,aZ hn,hl,Sem.run_pure]
    ·rw[UL] at hx
     split at hx
     ·rename_i hi
      rw[Vl] at hx
      obtain⟨u,hu,hru⟩:=hcells (off+i) x hx
      rw[<- Nat.add_assoc] at hu
      rw[aA]
      simpa[Uv,hi,hu] using hru
     ·cases hx
   ·cases hr
 | false=>
   simp only at hr
   obtain⟨u,hu,hru⟩:=hcells off v hr
   exact⟨u,by simp[loadVar,jp hg,hu],hru⟩
theorem bJ (hS:SRel c κ σ){r T:Nat}{f:Bool}{l:List AV}(h:σ r = .cells T f l){b n:Nat}(hb:κ.nm r=some (.blk b n)) :
  ∃ cs,κ.w.heap[b]? = some (.cells cs T (0,0))/\cs.size=n/\l.length<=n/\(f=true->l.length=n)/\(∀ o,¬ κ.imm b o)/\(∀ (j:Nat) (y:AV),l[j]? = some y->ARel κ y (cs.getD j Go.undef)) /\
    ∀ (j:Nat) (y:AV),l[j]? = some y->∃ u,κ.w.cell? ⟨b,j,none⟩=some u/\ARel κ y u:=by
 have hB:=hS.blk r
 rw[h] at hB
 rcases hB with ⟨_,_,h1⟩ | ⟨b',n',cs,h1,h2,h3,h4,h5,h6,h7⟩
 ·rw[hb] at h1;cases h1
 rw[hb] at h1;cases h1
 refine⟨cs,h2,h3,h4,h5,h7,h6,fun j y hy=>?_⟩
 have hj:j<cs.size:=by have:=(Ur.1 hy).1;omega
 refine⟨cs[j],by simp[World.cell?,h2,hj],?_⟩
 have:=h6 j y hy
 simpa[Uw,hj] using this
theorem zx {t:TypeId}{g:Bool}{sz:Nat}{x v:AV}{u:Value}(hS:SRel c κ σ)(hg:iP P t=some g)(hn:eR P t=some sz)(hx:ARel κ x u)(hr:ef c.G g sz σ x=some v) :
  ∃ z,(Instr.loadAt t u).run P κ.w = .ok z κ.w/\ARel κ v z:=by
 unfold ef at hr
 split at hr
 ·rename_i r o
  split at hr
  ·rename_i T f l hσ
   cases hx with
   | ptr _ _ b n hnm=>
     obtain⟨cs,_,_,_,_,_,_,hc⟩:=bJ hS hσ hnm
     obtain⟨z,h1,h2⟩:=ft (P:=P) (base:=0) hg hn (by simpa using hc) hr
     exact⟨z,by simpa[Instr.loadAt,Instr.sureAddr] using h1,h2⟩
  ·cases hr
 ·rename_i l i o
  split at hr
  ·rename_i e he
   cases aG hx with
   | eptr _ b off cc sz' gg _ _ h1 h2 h3 h4 h5 h6=>
     have hcells:∀ (j:Nat) (y:AV),(e.cells.map AV.pv)[j]? = some y->∃ u,κ.w.cell? ⟨b,off+i*sz'+j,none⟩=some u/\ARel κ y u:=by
      intro j y hy
      simp only[UE,Ut] at hy
      obtain⟨q,hq,rfl⟩:=hy
      exact⟨gg i j,(h4 i e j q he hq).2.1,.pv _ _ (h5 i e j q he hq)⟩
     unfold ky at hr
     split at hr
     ·rename_i hh
      obtain⟨rfl,rfl,ha,hsz⟩:=hh
      cases hr
      cases e with
      | agg es=>
        have hpart:dg true sz 0 ((PV.agg es).cells.map AV.pv)=some (iI (((((PV.agg es).cells.map AV.pv).drop 0).take sz))):=by
         simp only[dg]
         rw[if_pos (by simp only[List.length_map];omega)]
        obtain⟨z,k1,k2⟩:=ft (P:=P) (base:=off+i*sz') hg hn hcells hpart
        refine⟨z,by simpa[Instr.loadAt,Instr.sureAddr] using k1,?_⟩
        have hall:((((PV.agg es).cells.map AV.pv).drop 0).take sz)=es.map AV.pv:=by
         simp only[PV.cells,List.drop_zero]
         exact List.take_of_length_le (by simp only[PV.cells] at hsz;simp;omega)
        rw[hall] at k2
        have hp:∀ (es:List PV),pvs (es.map AV.pv)=some es:=by
         intro es
         induction es with
         | nil=>rfl
         | cons a r ih=>simp[pvs,AV.toPV,ih]
        simpa[iI,hp] using k2
      | _=>simp[PV.isAgg] at ha
     ·obtain⟨z,k1,k2⟩:=ft (P:=P) (base:=off+i*sz') hg hn hcells hr
      exact⟨z,by simpa[Instr.loadAt,Instr.sureAddr] using k1,k2⟩
  ·cases hr
 ·rename_i b o
  cases aG hx with
  | gptr _ _=>
    have hcells:∀ (j:Nat) (y:AV),((c.G b).map AV.pv)[j]? = some y->∃ u,κ.w.cell? ⟨b,0+j,none⟩=some u/\ARel κ y u:=by
     intro j y hy
     simp only[UE,Ut] at hy
     obtain⟨q,hq,rfl⟩:=hy
     obtain⟨_,u,h1,_,h2⟩:=hS.glob.1 b j q hq
     exact⟨u,by simpa using h1,.pv _ _ h2⟩
    obtain⟨z,k1,k2⟩:=ft (P:=P) (base:=0) hg hn hcells hr
    exact⟨z,by simpa[Instr.loadAt,Instr.sureAddr] using k1,k2⟩
 ·cases hr
end
section
variable {P:Program}{c:Ctx}{κ:Kap}{σ:aq}
theorem Jw (σ:aq)(r:Nat)(B:Blk):σ.upd [(r,B)]=σ.set r B:=rfl
theorem pN (σ:aq):σ.upd []=σ:=rfl
theorem Done.same (c:Ctx)(κ:Kap)(new:Nat):Done c κ κ new:=⟨Ext.refl κ,fun _ h=>h,UI _,fun _ _ h=>h⟩
theorem bO {α:Type}(l ys:List α)(o:Nat)(i:Nat)(h:o+ys.length<=l.length) :
  (l.take o++ys++l.drop (o+ys.length))[i]? = if o<=i/\i<o+ys.length then ys[i - o]? else l[i]?:=by
 by_cases h1:i<o
 ·rw[if_neg (by omega),UB,US (by simp;omega),UL,if_pos h1]
 ·by_cases h2:i<o+ys.length
  ·rw[if_pos ⟨by omega,h2⟩,US (by simp;omega),UT (by simp;omega)]
   congr 1;simp;omega
  ·rw[if_neg (by omega),UT (by simp;omega),Vl]
   congr 1;simp;omega
theorem JV {t:TypeId}{sz new:Nat}{x v:AV}{u uv:Value}{δ:List (Nat×Blk)}(hS:SRel c κ σ)(hn:eR P t=some sz)(hx:ARel κ x u)(hv:ARel κ v uv)(hr:gj sz σ x v=some δ) :
  ∃ w',(Instr.storeAt t u uv).run P κ.w = .ok () w'/\Done c κ ⟨w',κ.nm,κ.imm⟩ new/\SRel c ⟨w',κ.nm,κ.imm⟩ (σ.upd δ):=by
 unfold gj at hr
 split at hr
 ·rename_i r o
  split at hr
  ·rename_i T f l hσ
   split at hr
   ·rename_i h
    obtain⟨hk,hsz,hone,hle⟩:=h
    cases hr
    cases hx with
    | ptr _ _ b n hnm=>
      obtain⟨cs,hg,hcs,hln,hf,himm,hrel,_⟩:=bJ hS hσ hnm
      obtain⟨hvl,hvr⟩:=hv.cellsOf hk
      have hone':∀ y∈uv.cells.toList,y.oneCell'=true:=by
       intro y hy
       obtain⟨i,hi,rfl⟩:=List.getElem_of_mem hy
       have hi':i<v.cells.length:=by simp at hi;omega
       have h1:=hvr i _ (Uq hi')
       have h2:AV.one v.cells[i]=true:=(UD.1 hone) _ (List.getElem_mem hi')
       have:=h1.oneCell h2
       have hsz':i<uv.cells.size:=by simpa using hi
       simpa[Uw,hsz'] using this
      have hst:=run_storeCells_at (P:=P) b o T uv.cells.toList 0 cs κ.w hg (by simp;omega) hone'
      simp only[VA,Array.length_toList] at hst
      refine⟨κ.w.setRow b (cs.toList.take o++uv.cells.toList++cs.toList.drop (o+uv.cells.size)).toArray,?_,?_⟩
      ·simp only[Instr.storeAt,Instr.sureAddr,Sem.run_bind,Sem.run_pure,Result.andThen_ok,storeVar,aZ hn]
       rw[if_neg (by simp;omega)]
       exact hst
      ·have hh:=setRow_heap κ.w b cs (cs.toList.take o++uv.cells.toList++cs.toList.drop (o+uv.cells.size)).toArray T (0,0) hg
       obtain⟨h1,h2⟩:=uu hS (r0:=r) (b0:=b) (d0:=.blk b n) (Bo:=.cells T f (l.take o++v.cells++l.drop (o+sz)))
        (w':=κ.w.setRow b (cs.toList.take o++uv.cells.toList++cs.toList.drop (o+uv.cells.size)).toArray) new
        rfl rfl rfl (setRow_size ..) (fun b' hb'=>setRow_other κ.w b b' _ hb') himm (by rw[hσ];simp) hnm rfl
       refine⟨h1,h2 (.inr ⟨b,n,_,hnm,hh,?_,?_,?_,fun i y hy=>?_,himm⟩)⟩
       ·simp;omega
       ·simp;omega
       ·intro hft;have:=hf hft;simp;omega
       ·rw[aA]
        simp only
        rw[Uv]
        subst hsz
        rw[bO l v.cells o i hle] at hy
        have hm:=bO cs.toList uv.cells.toList o i (by simp;omega)
        simp only[Array.length_toList] at hm
        rw[hm]
        by_cases hi:o<=i/\i<o+v.cells.length
        ·rw[if_pos hi] at hy
         rw[if_pos (by omega)]
         have:=(hvr _ y hy).ext h1.ext
         rw[aA,Uv] at this
         exact this
        ·rw[if_neg hi] at hy
         rw[if_neg (by omega)]
         have:=(hrel i y hy).ext h1.ext
         rw[aA,Uv] at this
         exact this
   ·cases hr
  ·cases hr
 ·cases hr
theorem bM (hS:SRel c κ σ)(hw:c.w0.heap.size<=κ.w.heap.size){new T:Nat}(hn:κ.nm new=none){cs:Array Value}{l:List AV}{f:Bool}(hl:l.length<=cs.size)(hf:f=true->l.length=cs.size)(hr:∀ (i:Nat) (x:AV),l[i]? = some x->ARel κ x (cs.getD i Go.undef))
  (w1:World) (e1:w1.heap=κ.w.heap) (e2:w1.os=κ.w.os) (e3:w1.tape=κ.w.tape) (e4:w1.output=κ.w.output) :
  ∃ κ':Kap,κ'.w=w1.alloc (.cells cs T)/\κ'.nm new=some (.blk κ.w.heap.size cs.size)/\Done c κ κ' new/\SRel c κ' (σ.set new (.cells T f l)):=by
 obtain⟨h1,h2⟩:=OS hS hw hn (.cells cs T) (.blk κ.w.heap.size cs.size) (.cells T f l) (fun _=>False) rfl w1 e1 e2 e3 e4
 refine⟨_,rfl,by simp,h1,h2 (.inr ⟨κ.w.heap.size,cs.size,cs,by simp,by rw[<- e1];exact heap_alloc_new w1 _,rfl,hl,hf,fun i x hx=>(hr i x hx).ext h1.ext,?_⟩)⟩
 rintro o (hi | ⟨_,hi⟩)
 ·have:=hS.immLt _ _ hi;omega
 ·exact hi
theorem iT {T:Nat}{zs:List PV}{w:World}(h:ik P T=some zs):∃ z p,(zeroValue T).run P w = .ok z w/\cV z=some p/\zs=p.cells:=by
 unfold ik at h
 split at h
 ·rename_i i hi
  split at h
  ·rename_i z hz
   simp only[Ut] at h
   obtain⟨p,hp,rfl⟩:=h
   exact⟨z,p,by simp[zeroValue,typeInfo,hi,hz],hp,rfl⟩
  ·cases h
 ·cases h
theorem gU (T:Nat)(v:Value)(w:World):(newVar T v).run P w = .ok ⟨w.heap.size,0,none⟩ (w.alloc (.cells v.cells T)):=by
 simp[newVar,newRow,World.alloc_eq]
theorem J8 {T new:Nat}{zs:List PV}(hS:SRel c κ σ)(hw:c.w0.heap.size<=κ.w.heap.size)(hn:κ.nm new=none)(hz:ik P T=some zs)(old:Value) :
  ∃ u κ',(Instr.alloc T true old).run P κ.w = .ok u κ'.w/\ARel κ' (.ptr new 0) u/\Done c κ κ' new/\SRel c κ' (σ.set new (.cells T true (zs.map .pv))):=by
 obtain⟨z,p,h1,h2,rfl⟩:=iT (P:=P) (w:=κ.w) hz
 obtain⟨k1,k2⟩:=(ARel.pv (κ:=κ) p z (fK h2)).cellsOf rfl
 obtain⟨κ',e1,e2,e3,e4⟩:=bM (T:=T) (f:=true) hS hw hn (by simpa[AV.cells] using Nat.le_of_eq k1.symm) (fun _=>by simpa[AV.cells] using k1.symm) k2 κ.w rfl rfl rfl rfl
 refine⟨.pointer (some ⟨κ.w.heap.size,0,none⟩),κ',?_,.ptr _ _ _ _ e2,e3,by simpa[AV.cells] using e4⟩
 rw[e1]
 simp[Instr.alloc,h1,gU]
theorem RB {T new:Nat}{x:AV}{v:Value}(hS:SRel c κ σ)(hw:c.w0.heap.size<=κ.w.heap.size)(hn:κ.nm new=none)(hk:x.known=true)(hx:ARel κ x v) :
  ∃ u κ',(Instr.box T v).run P κ.w = .ok u κ'.w/\ARel κ' (.ptr new 0) u/\Done c κ κ' new/\SRel c κ' (σ.set new (.cells T true x.cells)):=by
 obtain⟨k1,k2⟩:=hx.cellsOf hk
 obtain⟨κ',e1,e2,e3,e4⟩:=bM (T:=T) (f:=true) hS hw hn (Nat.le_of_eq k1.symm) (fun _=>k1.symm) k2 κ.w rfl rfl rfl rfl
 refine⟨.pointer (some ⟨κ.w.heap.size,0,none⟩),κ',?_,.ptr _ _ _ _ e2,e3,e4⟩
 rw[e1]
 simp[Instr.box,gU]
theorem NY {T new:Nat}{x:AV}{p:PV}{v:Value}(hS:SRel c κ σ)(hw:c.w0.heap.size<=κ.w.heap.size)(hn:κ.nm new=none)(hp:x.toPV=some p)(ho:p.cells.all PV.one=true)(hx:ARel κ x v) :
  ∃ u κ',(Instr.box T v).run P κ.w = .ok u κ'.w/\ARel κ' (.pv (.eptr [p] 0 0)) u/\Done c κ κ' new/\SRel c κ' (σ.set new .none):=by
 have hpv:=bI hp hx
 obtain⟨h1,h2⟩:=OS hS hw hn (.cells v.cells T) (.blk κ.w.heap.size v.cells.size) .none (fun _=>True) rfl κ.w rfl rfl rfl rfl
 have hA:ARel κ (.pv p) v:=.pv p v hpv
 obtain⟨hsz,hcells⟩:=hA.cellsOf rfl
 have hsz':v.cells.size=p.cells.length:=by simpa[AV.cells] using hsz
 have hcells':∀ (j:Nat) (y:PV),p.cells[j]? = some y->PRel κ.w κ.imm y (v.cells.getD j Go.undef):=by
  intro j y hy
  have:=hcells j (.pv y) (by simp[AV.cells,hy])
  cases this;assumption
 have hone:∀ (j:Nat) (y:PV),p.cells[j]? = some y->(v.cells.getD j Go.undef).oneCell'=true:=by
  intro j y hy
  have h1:=(UD.1 ho) y (Us hy)
  have hB:ARel κ (.pv y) (v.cells.getD j Go.undef):=.pv _ _ (hcells' j y hy)
  exact ARel.oneCell (x:=.pv y) h1 hB
 have hh:(κ.w.alloc (.cells v.cells T)).heap[κ.w.heap.size]? = some (.cells v.cells T (0,0)):=heap_alloc_new κ.w _
 refine⟨.pointer (some ⟨κ.w.heap.size,0,none⟩),_,by simp[Instr.box,gU],?_,h1,h2 trivial⟩
 have hsing:∀ (i:Nat) (x:PV),[p][i]? = some x->i=0/\x=p:=by
  intro i x hi
  cases i with
  | zero=>simp at hi;exact⟨rfl,hi.symm⟩
  | succ i=>simp at hi
 have key:=PRel.eptr (w:=κ.w.alloc (.cells v.cells T)) (imm:=fun b j=>κ.imm b j\/(b=κ.w.heap.size/\True)) [p] κ.w.heap.size 0 1 p.cells.length (fun _ j=>v.cells.getD j Go.undef) 0 0 (by simp) (by decide)
  (fun i x hi=>by obtain⟨rfl,rfl⟩:=hsing i x hi;rfl)
  (fun i x j y hi hj=>by
   obtain⟨rfl,rfl⟩:=hsing i x hi
   refine⟨.inr ⟨rfl,trivial⟩,?_,hone j y hj⟩
   have hlt:j<v.cells.size:=by rw[hsz'];exact (Ur.1 hj).1
   rw[cell_of_row _ κ.w.heap.size _ v.cells T (0,0) hh]
   simp[Uw,hlt])
  (fun i x j y hi hj=>by
   obtain⟨rfl,rfl⟩:=hsing i x hi
   exact (hcells' j y hj).mono h1.ext.imm h1.ext.cell)
  (by simp)
 refine .pv _ _ ?_
 simpa using key
end
section
variable {P:Program}{c:Ctx}{κ:Kap}{σ:aq}
theorem i1 {α:Type}{sz:Nat}{j:Nat}(hj:j<sz):∀ (ls:List (List α)) (i:Nat),(∀ l∈ls,l.length=sz)->(ls.flatten)[i*sz+j]? = (ls[i]?).bind (·[j]?)
 | [],i,_=>by simp
 | l::r,i,h=>by
   have hl:=h l (by simp)
   cases i with
   | zero=>simp only[Nat.zero_mul,UN,List.flatten_cons,List.getElem?_cons_zero,Option.bind_some];rw[US (by omega)]
   | succ i=>
     simp only[List.flatten_cons,VF]
     rw[UT (by rw[Vo];omega),<- i1 hj r i (fun l hl=>h l (by simp[hl]))]
     congr 1;rw[Vo];omega
theorem gB {α:Type}{sz:Nat}:∀ (ls:List (List α)),(∀ l∈ls,l.length=sz)->ls.flatten.length=ls.length*sz
 | [],_=>by simp
 | l::r,h=>by
   simp only[List.flatten_cons,List.length_append,UC,Vo]
   rw[gB r (fun l hl=>h l (by simp[hl])),h l (by simp)];omega
def eO (κ:Kap)(sz:Nat)(l:List PV)(xs:List Value):Prop:=
 xs.length=l.length*sz/\(∀ (i:Nat) (x:PV),l[i]? = some x->x.cells.length=sz) /\
 ∀ (i:Nat) (x:PV) (j:Nat) (y:PV),l[i]? = some x->x.cells[j]? = some y->PRel κ.w κ.imm y (xs.getD (i*sz+j) Go.undef)/\(xs.getD (i*sz+j) Go.undef).oneCell'=true
theorem eO.ext {κ κ':Kap}(he:Ext κ κ'){sz:Nat}{l:List PV}{xs:List Value}(h:eO κ sz l xs):eO κ' sz l xs:=
 ⟨h.1,h.2.1,fun i x j y hx hy=>⟨(h.2.2 i x j y hx hy).1.ext he,(h.2.2 i x j y hx hy).2⟩⟩
theorem ot {i sz j n:Nat}(hi:i<n)(hj:j<sz):i*sz+j<n*sz:=by
 have:(i+1)*sz<=n*sz:=UA _ hi
 rw[Vo] at this;omega
theorem eO.append {sz:Nat}{l ys:List PV}{xs zs:List Value}(h:eO κ sz l xs)(k:eO κ sz ys zs):eO κ sz (l++ys) (xs++zs):=by
 refine⟨by simp[h.1,k.1,Nat.add_mul],fun i x hx=>?_,fun i x j y hx hy=>?_⟩
 ·by_cases hi:i<l.length
  ·rw[US hi] at hx;exact h.2.1 i x hx
  ·rw[UT (by omega)] at hx;exact k.2.1 _ x hx
 ·by_cases hi:i<l.length
  ·rw[US hi] at hx
   have hj:j<sz:=by rw[<- h.2.1 i x hx];exact (Ur.1 hy).1
   have:=h.2.2 i x j y hx hy
   have hlt:i*sz+j<xs.length:=by rw[h.1];exact ot hi hj
   simpa[Uv,US hlt] using this
  ·rw[UT (by omega)] at hx
   have:=k.2.2 _ x j y hx hy
   have e:i*sz+j - xs.length=(i - l.length)*sz+j:=by rw[h.1,Nat.sub_mul];have:l.length*sz<=i*sz:=UA _ (by omega);omega
   rw[Uv,UT (by rw[h.1];have:l.length*sz<=i*sz:=UA _ (by omega);omega),e,<- Uv]
   exact this
theorem eO.list {sz b n cap:Nat}{l:List PV}{xs:List Value}(h:eO κ sz l xs)(hn:n=l.length)(hc:n<=cap)(hm:cap<=maxLen)
  (hcell:∀ (j:Nat) (u:Value),xs[j]? = some u->κ.w.cell? ⟨b,j,none⟩=some u) (himm:∀ j,j<n*sz->κ.imm b j):PRel κ.w κ.imm (.list l) (.slice (some ⟨b,0,none⟩) n cap):=by
 subst hn
 refine .list l b 0 cap sz (fun i j=>xs.getD (i*sz+j) Go.undef) hc hm h.2.1 (fun i x j y hx hy=>?_) (fun i x j y hx hy=>(h.2.2 i x j y hx hy).1)
 have hj:j<sz:=by rw[<- h.2.1 i x hx];exact (Ur.1 hy).1
 have hi:i<l.length:=(Ur.1 hx).1
 have hlt:=ot hi hj
 rw[UN]
 have hlx:i*sz+j<xs.length:=by rw[h.1];exact hlt
 have hg:xs[i*sz+j]? = some (xs.getD (i*sz+j) Go.undef):=by simp[Uv,hlx]
 exact⟨himm _ hlt,hcell _ _ hg,(h.2.2 i x j y hx hy).2⟩
theorem sK {l:List PV}{A:Option Addr}{m cc sz:Nat}(h:PRel κ.w κ.imm (.list l) (.slice A m cc))(hsz:l.all (fun y=>y.cells.length == sz)=true) :
  m=l.length/\∃ xs,eO κ sz l xs/\(∀ u∈xs,u.oneCell'=true)/\(m=0\/∃ a,A=some a/\∀ (j:Nat) (u:Value),xs[j]? = some u->κ.w.cell? (a.add j)=some u):=by
 have hs:∀ (i:Nat) (x:PV),l[i]? = some x->x.cells.length=sz:=by
  intro i x hx
  have:=(UD.1 hsz) x (Us hx)
  simpa using this
 cases h with
 | lnil _ _ hc=>exact⟨rfl,[],⟨by simp,by simp,by simp⟩,by simp,.inl rfl⟩
 | list _ b off _ sz' g h1 h2 h3 h4 h5=>
   refine⟨rfl,?_⟩
   have hsz':∀ (i:Nat) (x:PV),l[i]? = some x->sz'=sz:=fun i x hx=>by rw[<- h3 i x hx,hs i x hx]
   let xs:List Value:=(U1 (l.length*sz)).map fun q=>g (q / sz) (q % sz)
   have hget:∀ q,q<l.length*sz->xs[q]? = some (g (q / sz) (q % sz)):=by
    intro q hq;simp[xs,hq]
   have hcell:∀ q,q<l.length*sz->∃ x y,l[q / sz]? = some x/\x.cells[q % sz]? = some y:=by
    intro q hq
    have hsz0 : 0 < sz := by rcases Nat.eq_zero_or_pos sz with h | h;· subst h;simp at hq
                             ·exact h
    have h1:q / sz<l.length:=(Nat.div_lt_iff_lt_mul hsz0).2 hq
    have h2:=Uq h1
    have h3:q % sz<(l[q / sz]).cells.length:=by rw[hs _ _ h2];exact Nat.mod_lt _ hsz0
    exact⟨_,_,h2,Uq h3⟩
   refine⟨xs,⟨by simp[xs],hs,fun i x j y hx hy=>?_⟩,fun u hu=>?_,.inr ⟨⟨b,off,none⟩,rfl,fun j u hj=>?_⟩⟩
   ·have hj:j<sz:=by rw[<- hs i x hx];exact (Ur.1 hy).1
    have hi:i<l.length:=(Ur.1 hx).1
    have hlt:=ot hi hj
    have e1:(i*sz+j) / sz=i:=by rw[Nat.mul_comm,Nat.mul_add_div (by omega)];simp[Nat.div_eq_of_lt hj]
    have e2:(i*sz+j) % sz=j:=by rw[Nat.mul_comm,Nat.mul_add_mod];exact Nat.mod_eq_of_lt hj
    have e:=hget _ hlt
    rw[e1,e2] at e
    rw[Uv,e]
    exact⟨h5 i x j y hx hy,(h4 i x j y hx hy).2.2⟩
   ·obtain⟨q,hq,rfl⟩:=List.getElem_of_mem hu
    have hq':q<l.length*sz:=by simpa[xs] using hq
    obtain⟨x,y,hx,hy⟩:=hcell q hq'
    have:=(h4 _ x _ y hx hy).2.2
    simpa[xs] using this
   ·have hq':j<l.length*sz:=by
     have:=(Ur.1 hj).1;simpa[xs] using this
    rw[hget j hq'] at hj
    cases hj
    obtain⟨x,y,hx,hy⟩:=hcell j hq'
    have h6:=(h4 _ x _ y hx hy).2.1
    have e:sz'=sz:=hsz' _ x hx
    subst e
    rw[Addr.add_lit]
    have hd:=Nat.div_add_mod j sz'
    rw[show off+j=off+j / sz'*sz'+j % sz' by rw[Nat.mul_comm];omega]
    exact h6
end

/- A program logic over the model: part 6 (a proof is built on it; nothing of the statement is said here). -/
import Derived.Lib.LaidTab
import Derived.ChangeShapes
import Derived.ProofKit
import Derived.OpenShut
import Derived.ShutString
import Derived.ChangeOld
import Derived.Carry
import Derived.WideShapes
import Derived.Deep.DeepHandedRow
import Derived.Lib.LaidU8T
import Derived.Test.YtamoeblcphjbaaaGreatDoorTyCore5
set_option linter.unusedVariables false
set_option linter.unusedSimpArgs false
open List renaming map_cons->WP,map_append->XG,take_of_length_le->Xm,mem_cons->W9,getElem?_cons_zero->Xb,getD_eq_getElem?_getD->WN,getElem?_eq_some_iff->WH,range->Xq,mem_of_getElem?->WK,getElem?_map->WW,eq_nil_of_length_eq_zero->WY,getElem?_eq_getElem->WE,all_eq_true->W8,mem_cons_self->Xy,mem_cons_of_mem->Xj,mem_append->Xk,append_nil->W7
open Option.some renaming injEq->WJ
open Bool renaming and_eq_true->WT
open Option renaming map_eq_some_iff->WI
open Nat renaming zero_add->W4
namespace Go.Ab
open Go
section
variable {e:List (Nat×AV)}{σ:List (Nat×Blk)}{new:Nat}
theorem bc (l:List UInt8):(aD l).length=l.length:=by simp[aD]
theorem oF (l:List UInt8):bQ (aD l)=(aD l).map .pv:=by
 unfold bQ
 congr 1
 induction l with
 | nil=>rfl
 | cons b r ih=>simp only[aD,WP,List.flatMap_cons,PV.cells] at ih ⊢;rw[ih];rfl
theorem jC (l k:List UInt8):aD (l++k)=aD l++aD k:=by simp[aD]
theorem yq (x:AX):kX e σ new (.noesc x)=some (evE e x,[]):=_root_.id rfl
theorem ym (u n:Nat)(b:Bool)(x:AX):kX e σ new (.ucast u n b x)=iu [] (gm u n b (fun r=>lookB r σ) (evE e x)):=by
 simp only[kX,iu];cases gm u n b (fun r=>lookB r σ) (evE e x)<;>rfl
def vH (u n:Nat)(back:Bool)(r o:Nat):Blk->Option AV
 | .cells T f l=>match back with
   | false=>if o<l.length then some (.ptr r o) else none
   | true=>if T=u/\o=0/\f=true/\l.length=n then some (.ptr r o) else none
 | _=>none
theorem yY (u n:Nat)(b:Bool)(τ:aE)(r o:Nat):gm u n b τ (.ptr r o)=vH u n b r o (τ r):=by
 simp only[gm,vH];cases τ r<;>rfl
theorem GO {u n r o T:Nat}{f:Bool}{l:List AV}(h:Chk (decide (o<l.length))):vH u n false r o (.cells T f l)=some (.ptr r o):=if_pos (of_decide_eq_true h)
theorem GN {u n r:Nat}{l:List AV}(h:Chk (decide (l.length=n))):vH u n true r 0 (.cells u true l)=some (.ptr r 0):=if_pos ⟨rfl,rfl,rfl,of_decide_eq_true h⟩
theorem GC (ng:Bool)(x y:AX):kX e σ new (.peq ng x y)=iu [] (Nm ng (evE e x) (evE e y)):=by
 simp only[kX,iu];cases Nm ng (evE e x) (evE e y)<;>rfl
theorem HW (ng:Bool)(r o:Nat):Nm ng (.ptr r o) (.ptr r o)=some (.pv (.bool (!ng))):=if_pos ⟨rfl,rfl⟩
theorem qz (x y:AX):kX e σ new (.idxb x y)=iu [] (tL (evE e x) (evE e y)):=by
 simp only[kX,iu];cases tL (evE e x) (evE e y)<;>rfl
theorem re (s:List UInt8)(c:Int):tL (.pv (.str s)) (.pv (.int .u8 c))=some (.pv (.int .i64 (fZ c.toNat.toUInt8 s 0))):=_root_.id rfl
theorem Bt (t by_:Nat)(x y:AX):kX e σ new (.apps t by_ x y)=nD t by_ new (fun r=>lookB r σ) (evE e x) (evE e y):=_root_.id rfl
theorem zg (t by_:Nat)(τ:aE):nD t by_ new τ (.pv .nils) (.pv (.str []))=some (.pv .nils,[]):=_root_.id rfl
theorem zf {t:Nat}{τ:aE}{c:UInt8}{k:List UInt8}(h:k.length+1<=140737488355328):nD t 1 new τ (.pv .nils) (.pv (.str (c::k)))=some (.row new 1 0 (k.length+1),[(new,.cells t false ((aD (c::k)).map .pv))]):=by
 have h1:aD (c::k) = .int .u8 (c.toNat:Int)::aD k:=_root_.id rfl
 have h2:=jO (n:=0) (m:=(aD k).length+1) (by_:=1) (by rw[bc];omega) (by rw[bc];omega)
 simp only[nD,L8,h1]
 rw[if_pos h2,<- h1,oF,bc]
def Kf (t by_ new q s off len:Nat)(k:List UInt8):Blk->Option (AV×List (Nat×Blk))
 | .cells e' _ l=>if e'=t/\s=1/\off=0/\len*1<=l.length/\qv len (aD k).length by_=true then some (.row new 1 0 (len+(aD k).length),[(q,.none),(new,.cells t false (l.take (len*1)++bQ (aD k)))]) else none
 | _=>none
theorem CZ (t by_:Nat)(τ:aE)(q s off len:Nat)(k:List UInt8):nD t by_ new τ (.row q s off len) (.pv (.str k))=Kf t by_ new q s off len k (τ q):=by
 simp only[nD,L8,Kf]
 cases τ q<;>rfl
theorem Ke {t q len:Nat}{f:Bool}{l k:List UInt8}(hl:len=l.length)(h:l.length+k.length<=140737488355328) :
  Kf t 1 new q 1 0 len k (.cells t f ((aD l).map .pv))=some (.row new 1 0 (l.length+k.length),[(q,.none),(new,.cells t false ((aD (l++k)).map .pv))]):=by
 subst hl
 have h2:=jO (n:=l.length) (m:=(aD k).length) (by_:=1) (by rw[bc];omega) (by rw[bc];omega)
 simp only[Kf]
 rw[if_pos ⟨trivial,trivial,trivial,by simp[bc],h2⟩,bc,oF,jC,XG,Xm (by simp[bc])]
theorem EV (k:IntKind)(n:Int):bQ [PV.int k n]=[.pv (.int k n)]:=_root_.id rfl
theorem A6 {t new q len:Nat}{f:Bool}{l:List UInt8}{c:UInt8}(hl:len=l.length)(h:l.length+1<=140737488355328) :
  vj t 1 1 new q 1 0 len [.int .u8 (c.toNat:Int)] (.cells t f ((aD l).map .pv))=some (.row new 1 0 (l.length+1),[(q,.none),(new,.cells t false ((aD (l++[c])).map .pv))]):=by
 subst hl
 rw[lD (by simp[bc]) (by simp;omega) (by simpa using h),Xm (by simp[bc]),jC,XG]
 rfl
theorem yo (x:AX):kX e σ new (.sdata x)=iu [] (jb (evE e x)):=by
 simp only[kX,iu];cases jb (evE e x)<;>rfl
theorem y9:jb (.pv .nils)=some (.pv .nilp):=_root_.id rfl
theorem y8 (r s off n:Nat):jb (.row r s off (n+1))=some (.ptr r off):=by rw[jb];exact if_pos (Nat.succ_pos n)
theorem Bq (t:Nat)(x k:AX):kX e σ new (.ustr t x k)=q8 t (fun r=>lookB r σ) (evE e x) (evE e k):=_root_.id rfl
theorem CK (t:Nat)(τ:aE):q8 t τ (.pv .nilp) (.pv (.int .i64 0))=some (.pv (.str []),[]):=_root_.id rfl
theorem CJ (t:Nat)(τ:aE)(r o:Nat)(k:Int):q8 t τ (.ptr r o) (.pv (.int .i64 k))=tc t r o k (τ r):=_root_.id rfl
theorem qD:∀ l:List UInt8,u8x (aD l)=some l
 | []=>rfl
 | b::r=>by
   have ih:=qD r
   have h:aD (b::r) = .int .u8 (b.toNat:Int)::aD r:=_root_.id rfl
   have hb:=b.toNat_lt
   rw[h,u8x,if_pos ⟨by omega,by omega⟩,ih]
   simp
theorem vG {t r:Nat}{k:Int}{f:Bool}{l:List UInt8}(hk:k=(l.length:Int))(h0:0<l.length)(h1:l.length<=140737488355328):tc t r 0 k (.cells t f ((aD l).map .pv))=some (.pv (.str l),[(r,.bts t l)]):=by
 subst hk
 simp only[tc,Int.toNat_natCast]
 rw[if_pos ⟨trivial,trivial,by omega,by simp[bc],by omega⟩,Xm (by simp[bc]),rj,Option.bind_some,qD]
 rfl
theorem zR (t:Nat)(l:List UInt8):(Blk.bts t l).names=[]:=_root_.id rfl
theorem HP (f:Nat->Option Nat)(t:Nat)(l:List UInt8):(Blk.bts t l).ren f = .bts t l:=_root_.id rfl
theorem BL {t r:Nat}{k:Int}{l:List UInt8}(hk:k=(l.length:Int))(h0:0<l.length)(h1:l.length<=140737488355328):tc t r 0 k (.bts t l)=some (.pv (.str l),[(r,.bts t l)]):=by
 subst hk
 simp only[tc]
 rw[if_pos ⟨trivial,trivial,by omega,trivial,by omega⟩]
theorem qA (x:AX):qB e (.sdata x)=[]:=_root_.id rfl
theorem rQ (x:AX):dE (.xop (.sdata x))=0:=_root_.id rfl
end
section
variable {P:Program}{G:Nat->List PV}
def yg {ι κ:Type}(S:ι->St)(Inv:ι->Prop)(μ:ι->Nat)(x:ι)(m0:Nat)(keep:List Nat)(id:Nat)(keepX:List Nat)(SX:κ->St)(fin:κ->Prop)(Q:AExit->St->Prop):AExit->St->Prop
 | .norm,s'=>∃ x',Hd [] m0 keep s' (S x')/\Inv x'/\μ x'<μ x
 | .exit i,s'=>if i=id then ∃ y,Hd [] m0 keepX s' (SX y)/\fin y else Q (.exit i) s'
 | .ret,s'=>Q .ret s'
theorem vq {ι κ:Type}(S:ι->St)(Inv:ι->Prop)(μ:ι->Nat)(x:ι)(m0:Nat)(keep:List Nat)(id:Nat)(keepX:List Nat)(SX:κ->St)(fin:κ->Prop)(Q:AExit->St->Prop)(s:St):yg S Inv μ x m0 keep id keepX SX fin Q .norm s = ∃ x',Hd [] m0 keep s (S x')/\Inv x'/\μ x'<μ x:=_root_.id rfl
theorem vr {ι κ:Type}(S:ι->St)(Inv:ι->Prop)(μ:ι->Nat)(x:ι)(m0:Nat)(keep:List Nat)(id:Nat)(keepX:List Nat)(SX:κ->St)(fin:κ->Prop)(Q:AExit->St->Prop)(i:Nat)(s:St):yg S Inv μ x m0 keep id keepX SX fin Q (.exit i) s=if i=id then (∃ y,Hd [] m0 keepX s (SX y)/\fin y) else Q (.exit i) s:=_root_.id rfl
theorem GH {ι κ:Type}(S:ι->St)(Inv:ι->Prop)(μ:ι->Nat)(x0:ι)(keepX:List Nat)(SX:κ->St)(fin:κ->Prop){m0 id:Nat}{keep:List Nat}{b:ACode}{F:St->Prop}{Q:AExit->St->Prop}{s:St}
  (h1:Hd [] m0 keep s (S x0)) (h2:Inv x0) (h3:∀ x,Inv x->vc P G m0 b (yg S Inv μ x m0 keep id keepX SX fin Q) (S x)) (h4:∀ y,fin y->F (SX y)):vc P G m0 (.loop keep b) (ir id (Mc F Q)) s:=by
 refine⟨fun n s'=>∃ x,s'=S x/\Inv x/\μ x=n,⟨μ x0,_,h1,x0,rfl,h2,rfl⟩,?_⟩
 rintro n s' ⟨x,rfl,hx,rfl⟩
 refine dA b (fun e s' hs=>?_) _ (h3 x hx)
 cases e with
 | norm=>
   obtain⟨x',k1,k2,k3⟩:=hs
   exact⟨_,_,k3,k1,x',rfl,k2,rfl⟩
 | exit i=>
   simp only[yg] at hs
   split at hs
   ·rename_i hi
    obtain⟨y,k1,k2⟩:=hs
    refine⟨_,k1,?_⟩
    simp only[ir,if_pos hi,Mc]
    exact h4 y k2
   ·rename_i hi
    refine⟨s',Wk.of (Wx.refl s') m0,?_⟩
    simp only[ir,if_neg hi,Mc]
    exact hs
 | ret=>exact hs
end
attribute [push_cast] vq vr EV yq ym yY GO GN GC HW qz re zR HP Bt zg zf CZ yo y9 y8 Bq CK CJ qA rQ
open Go.RowKit
def bO (P:Program)(t:TypeId):Bool:=
 match P.underlying t with
 | some (.struct _) | some (.array _ _)=>true
 | _=>false
def dG (g:Bool)(cs:List PV):PV:=
 match g with
 | true=>.agg cs
 | false=>cs.headD .undef
def mW (P:Program)(f:Field)(cs:List PV):PV:=dG (bO P f.type) ((cs.drop f.offset).take (P.cellsOf f.type))
inductive HasT (P:Program):TypeId->PV->Prop
 | bool (t:TypeId) (b:Bool):P.underlying t=some .bool->HasT P t (.bool b)
 | int (t:TypeId) (k:IntKind) (n:Int):P.underlying t=some (.int k)->(Lit.int k n).wf=true->HasT P t (.int k n)
 | str (t:TypeId) (s:List UInt8):P.underlying t=some .string->s.length<=140737488351232->HasT P t (.str s)
 | list (t e:TypeId) (l:List PV):P.underlying t=some (.slice e)->l.length<=maxLen->l.length*P.bytesOf e<=140737488351232->(∀ (i:Nat) (x:PV),l[i]? = some x->HasT P e x)->HasT P t (.list l)
 | arr (t e:TypeId) (n:Nat) (cs:List PV):P.underlying t=some (.array n e)->cs.length=P.cellsOf t->(∀ i,i<n->HasT P e (dG (bO P e) ((cs.drop (i*P.cellsOf e)).take (P.cellsOf e))))->HasT P t (.agg cs)
 | agg (t:TypeId) (fs:Array Field) (cs:List PV):P.underlying t=some (.struct fs)->cs.length=P.cellsOf t->(∀ (i:Nat) (f:Field),fs.toList[i]? = some f->HasT P f.type (mW P f cs))->HasT P t (.agg cs)
def Bj (w:World)(imm:Nat->Nat->Prop)(p:PV)(cs:List Value):Prop:=
 p.cells.length=cs.length/\∀ (i:Nat) (x:PV),p.cells[i]? = some x->PRel w imm x (cs.getD i Go.undef)/\(cs.getD i Go.undef).oneCell'=true
def Bf (P:Program):List Field->Nat->Option Nat
 | [],o=>some o
 | f::r,o=>if f.offset=o then Bf P r (o+P.cellsOf f.type) else none
def Lf (P:Program)(ts:List TypeId)(t:TypeId):Bool:=
 match P.underlying t with
 | some .bool | some (.int _) | some .string=>true
 | some (.slice e)=>ts.contains e&&decide (0<P.cellsOf e)
 | some (.struct fs)=>(match Bf P fs.toList 0 with
   | some n=>decide (n=P.cellsOf t)
   | none=>false)&&fs.toList.all fun f=>ts.contains f.type
 | some (.array n e)=>ts.contains e&&decide (n*P.cellsOf e=P.cellsOf t)
 | _=>false
def Tf (P:Program)(ts:List TypeId):Bool:=ts.all fun t=>Lf P ts t
theorem HasT.cell {P:Program}{t:TypeId}{p:PV}(h:HasT P t p):dG (bO P t) p.cells=p:=by
 cases h with
 | bool _ h=>simp[bO,‹P.underlying t=_›,dG,PV.cells]
 | int _ _ h _=>simp[bO,‹P.underlying t=_›,dG,PV.cells]
 | str _ h _=>simp[bO,‹P.underlying t=_›,dG,PV.cells]
 | list _ _ h _ _ _=>simp[bO,‹P.underlying t=_›,dG,PV.cells]
 | arr _ _ _ h _ _=>simp[bO,‹P.underlying t=_›,dG,PV.cells]
 | agg _ _ h _ _=>simp[bO,‹P.underlying t=_›,dG,PV.cells]
theorem DZ {P:Program}:∀ (fs:List Field) (o n:Nat),Bf P fs o=some n->o<=n/\∀ f∈fs,o<=f.offset
 | [],o,n,h=>by simp only[Bf,WJ] at h;subst h;simp
 | f::r,o,n,h=>by
   simp only[Bf] at h
   split at h
   ·rename_i ho
    obtain⟨h1,h2⟩:=DZ r _ n h
    refine⟨by omega,fun g hg=>?_⟩
    rcases W9.1 hg with rfl | hg
    ·omega
    ·have:=h2 g hg;omega
   ·cases h
section
variable {H:Type}{enc:TypeId×Value->H}{P:Program}{w:World}{spare:Nat->Bool}{held:Bool}{ts:List TypeId}{imm:Nat->Nat->Prop}
theorem i7 {p:PV}{v:Value}(hc:p.cells=[p])(h:PRel w imm p v)(h1:v.oneCell'=true):Bj w imm p [v]:=by
 refine⟨by rw[hc];rfl,fun i x hx=>?_⟩
 rw[hc] at hx
 cases i with
 | zero=>simp only[Xb,WJ] at hx;subst hx;exact⟨h,h1⟩
 | succ i=>simp at hx
theorem kb {F:Field->Option (DataW H×List MemPlace)}{cs:List Value}{n:Nat}(hcs:cs.length=n)
  (hF:∀ f x,F f=some x->(x.1.weights P f.type).all (·<=reachBytes)=true->f.type∈ts->∃ p,HasT P f.type p/\Bj w imm p ((cs.drop f.offset).take (P.cellsOf f.type))):∀ (fs:List Field) (o:Nat) (xs:List (DataW H×List MemPlace)),Bf P fs o=some n->(∀ f∈fs,f.type∈ts)->fs.mapM F=some xs->(DataW.weightsEach P (fs.map (·.type)) (xs.map (·.1))).all (·<=reachBytes)=true ->
  ∃ ps:List PV,ps.length=n - o/\(∀ (i:Nat) (x:PV),ps[i]? = some x->PRel w imm x (cs.getD (o+i) Go.undef)/\(cs.getD (o+i) Go.undef).oneCell'=true) /\
    ∀ f∈fs,HasT P f.type (dG (bO P f.type) ((ps.drop (f.offset - o)).take (P.cellsOf f.type)))
 | [],o,xs,hl,_,_,_=>by
   simp only[Bf,WJ] at hl
   subst hl
   exact⟨[],by simp,by simp,by simp⟩
 | f::r,o,xs,hl,ht,hm,hz=>by
   simp only[Bf] at hl
   split at hl
   ·rename_i ho
    simp only[List.mapM_cons,Option.bind_eq_bind,Option.bind_eq_some_iff,Option.pure_def,WJ] at hm
    obtain⟨x,hx,xs',hxs,rfl⟩:=hm
    simp only[WP,DataW.weightsEach,List.all_append,WT] at hz
    obtain⟨p,hp,hr1,hr2⟩:=hF f x hx hz.1 (ht f (by simp))
    obtain⟨q1,q2⟩:=DZ r _ n hl
    obtain⟨ps,h1,h2,h3⟩:=kb hcs hF r _ xs' hl (fun g hg=>ht g (by simp[hg])) hxs hz.2
    have hpl:p.cells.length=P.cellsOf f.type:=by rw[hr1];simp;omega
    refine⟨p.cells++ps,by simp only[List.length_append];omega,fun i x hx=>?_,fun g hg=>?_⟩
    ·by_cases hi:i<p.cells.length
     ·rw[List.getElem?_append_left hi] at hx
      have:=hr2 i x hx
      have e:((cs.drop f.offset).take (P.cellsOf f.type)).getD i Go.undef=cs.getD (o+i) Go.undef:=by
       simp only[WN,List.getElem?_take,List.getElem?_drop]
       rw[if_pos (by omega),ho]
      rw[e] at this;exact this
     ·rw[List.getElem?_append_right (by omega)] at hx
      have:=h2 _ x hx
      have e:o+P.cellsOf f.type+(i - p.cells.length)=o+i:=by omega
      rw[e] at this;exact this
    ·rcases W9.1 hg with rfl | hg'
     ·have e:((p.cells++ps).drop (g.offset - o)).take (P.cellsOf g.type)=p.cells:=by
       rw[ho,Nat.sub_self,List.drop_zero,<- hpl,List.take_left]
      rw[e,hp.cell];exact hp
     ·have:=q2 g hg'
      have e:(p.cells++ps).drop (g.offset - o)=ps.drop (g.offset - (o+P.cellsOf f.type)):=by
       rw[List.drop_append,List.drop_eq_nil_of_le (by omega),List.nil_append]
       congr 1;omega
      rw[e];exact h3 g hg'
   ·cases hl
theorem gO {t:TypeId}{p:PV}{v:Value}(hp:HasT P t p)(h:Bj w imm p v.cells.toList)(ha:bO P t=true->∃ cs,v = .agg cs)(ha':bO P t=false->v.cells = #[v]):PRel w imm p v:=by
 have hc:=hp.cell
 cases hg:bO P t with
 | false=>
   rw[hg] at hc
   rw[ha' hg] at h
   obtain⟨h1,h2⟩:=h
   have:p.cells=[p]:=by
    have hl:p.cells.length=1:=by rw[h1];simp
    obtain⟨q,hq⟩:=List.length_eq_one_iff.1 hl
    rw[hq] at hc ⊢
    simp only[dG,List.headD_cons] at hc
    rw[hc]
   have:=(h2 0 p (by rw[this];rfl)).1
   simpa using this
 | true=>
   rw[hg] at hc
   obtain⟨cs,rfl⟩:=ha hg
   obtain⟨h1,h2⟩:=h
   simp only[dG] at hc
   rw[<- hc]
   refine .agg _ _ (by simpa[Value.cells] using h1.symm) fun i x hx=>?_
   rw[aL]
   exact (h2 i x hx).1
theorem lg {α β:Type}{f:α->Option β}:∀ {l:List α} {r:List β},l.mapM f=some r->r.length=l.length
 | [],r,h=>by simp at h;subst h;rfl
 | x::l,r,h=>by
   simp only[List.mapM_cons,Option.bind_eq_bind,Option.bind_eq_some_iff,Option.pure_def,WJ] at h
   obtain⟨b,hb,r',hr',rfl⟩:=h
   simp[lg hr']
theorem J7 {w:World}{a:Addr}{n:Nat}{v:Value}(h:w.cell? (a.add n)=some v):w.cell? ⟨a.block,a.off+n,none⟩=some v:=by
 obtain⟨b,off,spot⟩:=a
 unfold Addr.add at h
 by_cases hn:n=0
 ·subst hn
  rw[if_pos rfl] at h
  have:=World.cell?_spot h
  simp only at this
  subst this
  exact h
 ·rw[if_neg hn] at h;exact h
theorem Gg (a:Addr)(n:Nat):(a.add n).block=a.block:=by unfold Addr.add;split<;>rfl
theorem Po (a:Addr)(n:Nat):(a.add n).off=a.off+n:=by unfold Addr.add;split<;>simp_all
theorem xV {w:World}{a:Addr}{n:Nat}{cs:List Value}(h:w.cells? 0 a n=some cs):cs.length=n/\∀ (j:Nat) (v:Value),cs[j]? = some v->w.cell? (a.add j)=some v:=by
 unfold World.cells? at h
 rw[if_pos (Nat.zero_le _)] at h
 have hl:=lg h
 simp only[List.length_range] at hl
 refine⟨hl,fun j v hv=>?_⟩
 have hj:j<n:=by rw[<- hl];exact (WH.1 hv).1
 obtain⟨b,hb,hf⟩:=Lib.mapM_at h j j (by simp[hj])
 rw[hv] at hb;cases hb
 exact hf
theorem lI {e:TypeId}:∀ {l:List (DataW H)},(DataW.weightsAll P e l).all (·<=reachBytes)=true->∀ d∈l,(d.weights P e).all (·<=reachBytes)=true
 | [],_,d,hd=>by cases hd
 | x::r,h,d,hd=>by
   simp only[DataW.weightsAll,List.all_append,WT] at h
   rcases W9.1 hd with rfl | hd
   ·exact h.1
   ·exact lI h.2 d hd
theorem Ce {t e:TypeId}{a:Addr}{len cap:Nat}{R:List Value->Option (DataW H×List MemPlace)}{d:DataW H}{ps:List MemPlace}(hu:P.underlying t=some (.slice e))(hpos:0<P.cellsOf e)
  (hz:(d.weights P t).all (·<=reachBytes)=true) (ih:∀ cs d ps,R cs=some (d,ps)->(d.weights P e).all (·<=reachBytes)=true->∃ p,HasT P e p/\Bj w imm p cs) (himm:∀ b o,b<w.heap.size->imm b o)
  (h:(if 0<=a.block/\len<=cap/\cap<=maxLen then
   (List.mapM (fun i=>(w.cells? 0 (a.add (i*P.cellsOf e)) (P.cellsOf e)).bind R) (Xq len)).bind fun elems=>
    Option.map (fun rest=>(DataW.slice (List.map (fun x=>x.fst) elems) (List.map (fun x=>x.fst) rest),MemPlace.row a ((elems.length+rest.length)*P.cellsOf e)++List.flatMap (fun x=>x.snd) (elems++rest)))
     (if spare a.block=true then List.mapM (fun j=>(w.cells? 0 (a.add ((len+j)*P.cellsOf e)) (P.cellsOf e)).bind R) (Xq (cap - len)) else some [])
   else none)=some (d,ps)):∃ p,HasT P t p/\Bj w imm p [.slice (some a) len cap]:=by
 split at h
 ·rename_i hh
  obtain⟨_,hlc,hcm⟩:=hh
  simp only[Option.bind_eq_some_iff] at h
  obtain⟨elems,he,hrest⟩:=h
  simp only[WI,Prod.mk.injEq] at hrest
  obtain⟨rest,_,rfl,_⟩:=hrest
  simp only[DataW.weights,hu,List.all_cons,List.all_append,WT,decide_eq_true_eq,List.length_map] at hz
  obtain⟨hz1,hz2,_⟩:=hz
  have hel:elems.length=len:=by rw[lg he];simp
  have hzl:len*P.bytesOf e<=140737488351232:=by
   have h1:elems.length*P.bytesOf e<=(elems.length+rest.length)*P.bytesOf e:=Nat.mul_le_mul_right _ (by omega)
   have h2:(elems.length+rest.length)*P.bytesOf e<=140737488351232:=hz1
   exact Nat.le_trans (by rw[<- hel];exact h1) h2
  have hat:∀ i,i<len->∃ cs,w.cells? 0 (a.add (i*P.cellsOf e)) (P.cellsOf e)=some cs/\∃ p,HasT P e p/\Bj w imm p cs:=by
   intro i hi
   obtain⟨b,hb,hf⟩:=Lib.mapM_at he i i (by simp[hi])
   simp only[Option.bind_eq_some_iff] at hf
   obtain⟨cs,h1,h2⟩:=hf
   obtain⟨p,h3,h4⟩:=ih cs b.1 b.2 h2 (lI hz2 b.1 (List.mem_map.2 ⟨b,WK hb,rfl⟩))
   exact⟨cs,h1,p,h3,h4⟩
  have hex:∃ l:List PV,l.length=len/\∀ (i:Nat) (x:PV),l[i]? = some x->HasT P e x/\∃ cs,w.cells? 0 (a.add (i*P.cellsOf e)) (P.cellsOf e)=some cs/\Bj w imm x cs:=by
   refine⟨(Xq len).map fun i=>if h:i<len then (hat i h).choose_spec.2.choose else .undef,by simp,fun i x hx=>?_⟩
   simp only[WW,WI] at hx
   obtain⟨j,hj,rfl⟩:=hx
   obtain⟨hlt,hji⟩:=WH.1 hj
   simp at hlt hji
   subst hji
   rw[dif_pos hlt]
   exact⟨(hat i hlt).choose_spec.2.choose_spec.1,_,(hat i hlt).choose_spec.1,(hat i hlt).choose_spec.2.choose_spec.2⟩
  obtain⟨l,hl,hle⟩:=hex
  refine⟨.list l,.list _ _ _ hu (by omega) (by rw[hl];exact hzl) (fun i x hx=>(hle i x hx).1),i7 rfl ?_ rfl⟩
  by_cases h0:len=0
  ·have:l=[]:=WY (by omega)
   subst this
   rw[h0]
   exact .lnil _ _ hcm
  ·have hcell:∀ (i:Nat) (x:PV) (j:Nat) (y:PV),l[i]? = some x->x.cells[j]? = some y->∃ v,w.cell? ((a.add (i*P.cellsOf e)).add j)=some v/\w.cell? ⟨a.block,a.off+i*P.cellsOf e+j,none⟩=some v/\PRel w imm y v/\v.oneCell'=true:=by
    intro i x j y hx hy
    obtain⟨_,cs,h1,h2,h3⟩:=hle i x hx
    obtain⟨k1,k2⟩:=xV h1
    have hj:j<cs.length:=by rw[<- h2];exact (WH.1 hy).1
    have h4:=h3 j y hy
    have h5:=k2 j _ (WE hj)
    refine⟨cs[j],h5,?_,?_⟩
    ·have:=J7 h5
     rw[Gg,Po] at this;exact this
    ·simpa[WN,hj] using h4
   have hlen:∀ (i:Nat) (x:PV),l[i]? = some x->x.cells.length=P.cellsOf e:=by
    intro i x hx
    obtain⟨_,cs,h1,h2,_⟩:=hle i x hx
    rw[h2,(xV h1).1]
   obtain⟨b,off,spot⟩:=a
   have hspot:spot=none:=by
    have hx:=WE (show 0<l.length by omega)
    have hy:=WE (show 0<(l[0]'(by omega)).cells.length by rw[hlen 0 _ hx];exact hpos)
    obtain⟨v,hv,_⟩:=hcell 0 _ 0 _ hx hy
    have:=World.cell?_spot hv
    simpa[Addr.add] using this
   subst hspot
   have:=PRel.list (w:=w) (imm:=imm) l b off cap (P.cellsOf e) (fun i j=>(w.cell? ⟨b,off+i*P.cellsOf e+j,none⟩).getD Go.undef) (by omega) hcm hlen (fun i x j y hx hy=>by
     obtain⟨v,_,hv,_,h1⟩:=hcell i x j y hx hy
     have hv':w.cell? ⟨b,off+i*P.cellsOf e+j,none⟩=some v:=hv
     have hb:=World.block_lt_of_cell? w _ hv'
     exact⟨himm _ _ hb,by rw[hv'];rfl,by rw[hv'];exact h1⟩) (fun i x j y hx hy=>by
     obtain⟨v,_,hv,h1,_⟩:=hcell i x j y hx hy
     have hv':w.cell? ⟨b,off+i*P.cellsOf e+j,none⟩=some v:=hv
     rw[hv'];exact h1)
   rw[hl] at this
   exact this
 ·cases h
theorem yN {t:TypeId}{fs:Array Field}{cs:List Value}{R:TypeId->List Value->Option (DataW H×List MemPlace)}{d:DataW H}{ps:List MemPlace}(hu:P.underlying t=some (.struct fs))
  (hstep:((match Bf P fs.toList 0 with
   | some n=>decide (n=P.cellsOf t)
   | none=>false)&&fs.toList.all fun f=>ts.contains f.type)=true)
  (hz:(d.weights P t).all (·<=reachBytes)=true) (ih:∀ t cs d ps,t∈ts->R t cs=some (d,ps)->(d.weights P t).all (·<=reachBytes)=true->∃ p,HasT P t p/\Bj w imm p cs)
  (h:(if cs.length=P.cellsOf t then Option.map (fun xs=>(DataW.agg (List.map (fun x=>x.fst) xs),List.flatMap (fun x=>x.snd) xs)) (List.mapM (fun f=>R f.type (List.take (P.cellsOf f.type) (List.drop f.offset cs))) fs.toList) else none)=some (d,ps)) :
  ∃ p,HasT P t p/\Bj w imm p cs:=by
 split at h
 ·rename_i hcs
  simp only[WI,Prod.mk.injEq] at h
  obtain⟨xs,hxs,rfl,_⟩:=h
  simp only[DataW.weights,hu] at hz
  simp only[WT] at hstep
  obtain⟨h1,h2⟩:=hstep
  split at h1
  ·rename_i n hn
   simp only[decide_eq_true_eq] at h1
   subst h1
   obtain⟨qs,k1,k2,k3⟩:=kb (w:=w) (imm:=imm) (P:=P) (ts:=ts) (H:=H) hcs (F:=fun f=>R f.type (List.take (P.cellsOf f.type) (List.drop f.offset cs))) (fun f x hx hz hf=>ih f.type _ x.1 x.2 hf hx hz) fs.toList 0 xs hn (fun f hf=>by simpa using (W8.1 h2) f hf) hxs hz
   refine⟨.agg qs,.agg _ fs _ hu (by omega) (fun i f hf=>?_),by simp only[PV.cells];omega,fun i x hx=>?_⟩
   ·have:=k3 f (WK hf)
    rwa [Nat.sub_zero] at this
   ·have:=k2 i x hx
    rwa [W4] at this
  ·cases h1
 ·cases h
def A5 (P:Program)(e:TypeId):Nat->Nat->List Field
 | 0,_=>[]
 | n+1,k=>{ (default:Field) with type:=e,offset:=k*P.cellsOf e }::A5 P e n (k+1)
theorem ya (P:Program)(e:TypeId):∀ n k,Bf P (A5 P e n k) (k*P.cellsOf e)=some ((k+n)*P.cellsOf e)
 | 0,k=>by simp[A5,Bf]
 | n+1,k=>by
   rw[A5,Bf,if_pos rfl]
   have:=ya P e n (k+1)
   simp only
   rw[show k*P.cellsOf e+P.cellsOf e=(k+1)*P.cellsOf e by rw[Nat.succ_mul],this]
   congr 2;omega
theorem x9 {P:Program}{e:TypeId}:∀ {n k:Nat} {f:Field},f∈A5 P e n k->f.type=e
 | 0,_,_,h=>by cases h
 | n+1,k,f,h=>by
   rcases W9.1 h with rfl | h
   ·rfl
   ·exact x9 h
theorem Gb {P:Program}{e:TypeId}:∀ {n k i:Nat},i<n->∃ f,f∈A5 P e n k/\f.type=e/\f.offset=(k+i)*P.cellsOf e
 | 0,_,_,h=>by omega
 | n+1,k,0,_=>⟨_,Xy,rfl,by simp⟩
 | n+1,k,i+1,h=>by
   obtain⟨f,h1,h2,h3⟩:=Gb (P:=P) (e:=e) (n:=n) (k:=k+1) (i:=i) (by omega)
   exact⟨f,Xj _ h1,h2,by rw[h3];congr 1;omega⟩
theorem sK {α:Type}{P:Program}{e:TypeId}{R:TypeId->List Value->Option α}{cs:List Value}:∀ (n k:Nat),(List.range' k n).mapM (fun i=>R e ((cs.drop (i*P.cellsOf e)).take (P.cellsOf e)))=(A5 P e n k).mapM (fun f=>R f.type ((cs.drop f.offset).take (P.cellsOf f.type)))
 | 0,k=>by simp[A5]
 | n+1,k=>by
   rw[List.range'_succ,A5,List.mapM_cons,List.mapM_cons,sK n (k+1)]
theorem kG {P:Program}{e:TypeId}:∀ (n k:Nat) (l:List (DataW H)),l.length=n->DataW.weightsEach P ((A5 P e n k).map (·.type)) l=DataW.weightsAll P e l
 | 0,k,l,h=>by
   obtain rfl:=WY h
   simp[A5,DataW.weightsEach,DataW.weightsAll]
 | n+1,k,l,h=>by
   cases l with
   | nil=>simp at h
   | cons d r=>
     simp only[A5,WP,DataW.weightsEach,DataW.weightsAll]
     rw[kG n (k+1) r (by simpa using h)]
theorem Ph {t e:TypeId}{n:Nat}{cs:List Value}{R:TypeId->List Value->Option (DataW H×List MemPlace)}{d:DataW H}{ps:List MemPlace}(hu:P.underlying t=some (.array n e))
  (hstep:ts.contains e=true/\n*P.cellsOf e=P.cellsOf t)
  (hz:(d.weights P t).all (·<=reachBytes)=true) (ih:∀ t cs d ps,t∈ts->R t cs=some (d,ps)->(d.weights P t).all (·<=reachBytes)=true->∃ p,HasT P t p/\Bj w imm p cs)
  (h:(if cs.length=P.cellsOf t then Option.map (fun xs=>(DataW.agg (List.map (fun x=>x.fst) xs),List.flatMap (fun x=>x.snd) xs)) (List.mapM (fun i=>R e (List.take (P.cellsOf e) (List.drop (i*P.cellsOf e) cs))) (Xq n)) else none)=some (d,ps)) :
  ∃ p,HasT P t p/\Bj w imm p cs:=by
 split at h
 ·rename_i hcs
  simp only[WI,Prod.mk.injEq] at h
  obtain⟨xs,hxs,rfl,_⟩:=h
  have hxl:xs.length=n:=by rw[lg hxs];simp
  rw[List.range_eq_range',sK n 0] at hxs
  simp only[DataW.weights,hu] at hz
  rw[<- kG (P:=P) n 0 _ (by simpa using hxl)] at hz
  have hlay:=ya P e n 0
  rw[Nat.zero_mul,W4,hstep.2] at hlay
  obtain⟨qs,k1,k2,k3⟩:=kb (w:=w) (imm:=imm) (P:=P) (ts:=ts) (H:=H) hcs (F:=fun f=>R f.type (List.take (P.cellsOf f.type) (List.drop f.offset cs))) (fun f x hx hz hf=>ih f.type _ x.1 x.2 hf hx hz) (A5 P e n 0) 0 xs hlay
   (fun f hf=>by rw[x9 hf];simpa using hstep.1) hxs hz
  refine⟨.agg qs,.arr _ e n _ hu (by omega) (fun i hi=>?_),by simp only[PV.cells];omega,fun i x hx=>?_⟩
  ·obtain⟨f,hf,h1,h2⟩:=Gb (P:=P) (e:=e) (k:=0) hi
   have:=k3 f hf
   rwa [h1,h2,Nat.sub_zero,W4] at this
  ·have:=k2 i x hx
   rwa [W4] at this
 ·cases h
theorem kZ (hts:Tf P ts=true)(himm:∀ b o,b<w.heap.size->imm b o):∀ (fuel:Nat) (t:TypeId) (cs:List Value) (d:DataW H) (ps:List MemPlace),t∈ts->DataW.trod enc P w 0 spare held fuel t cs=some (d,ps)->(d.weights P t).all (·<=reachBytes)=true->∃ p,HasT P t p/\Bj w imm p cs
 | 0,t,cs,d,ps,_,h,_=>by simp[DataW.trod] at h
 | fuel+1,t,cs,d,ps,ht,h,hz=>by
   have hstep:=(W8.1 hts) t ht
   unfold Lf at hstep
   rw[DataW.trod.eq_def] at h
   simp only at h
   cases hu:P.underlying t with
   | none=>rw[hu] at hstep;simp at hstep
   | some u=>
     rw[hu] at hstep h
     cases u with
     | bool=>
       split at h
       all_goals first
        | (rename_i b h1;exact⟨.bool b,.bool _ _ hu,i7 rfl (.bool _) rfl⟩)
        | (exfalso;simp_all;done)
        | skip
     | int k=>
       split at h
       all_goals first
        | (rename_i k' k2 n heq
           simp only[WJ,TypeDesc.int.injEq] at heq
           subst heq
           split at h
           ·rename_i hh
            obtain⟨rfl,hw⟩:=hh
            exact⟨.int _ n,.int _ _ _ hu hw,i7 rfl (.int _ _) rfl⟩
           ·cases h)
        | (exfalso;simp_all;done)
        | skip
     | string=>
       split at h
       all_goals first
        | (rename_i s _
           split at h
           ·rename_i hh
            cases h
            simp only[DataW.weights,List.all_cons,List.all_nil,Bool.and_true,decide_eq_true_eq] at hz
            exact⟨.str s.data.toList,.str _ _ hu hz,i7 rfl (.str _ hh) rfl⟩
           ·cases h)
        | (exfalso;simp_all;done)
        | skip
     | slice e=>
       split at h
       all_goals first
        | (exact⟨.list [],.list _ _ _ hu (by simp) (by simp) (by simp),i7 rfl (.lnil none 0 (by simp)) rfl⟩)
        | (rename_i e' a len cap heq
           simp only[WJ,TypeDesc.slice.injEq] at heq
           subst heq
           simp only[WT,decide_eq_true_eq] at hstep
           exact Ce hu hstep.2 hz (fun cs d ps h hz=>kZ hts himm fuel _ cs d ps (by simpa using hstep.1) h hz) himm h)
        | (exfalso;simp_all;done)
        | skip
     | struct fs=>
       split at h
       all_goals first
        | (rename_i fs' heq
           simp only[WJ,TypeDesc.struct.injEq] at heq
           subst heq
           exact yN hu hstep hz (fun t cs d ps ht h hz=>kZ hts himm fuel t cs d ps ht h hz) h)
        | (exfalso;simp_all;done)
        | skip
     | array n e=>
       simp only[WT,decide_eq_true_eq] at hstep
       split at h
       all_goals first
        | (rename_i n' e' heq
           simp only[WJ,TypeDesc.array.injEq] at heq
           obtain⟨rfl,rfl⟩:=heq
           exact Ph hu hstep hz (fun t cs d ps ht h hz=>kZ hts himm fuel t cs d ps ht h hz) h)
        | (exfalso;simp_all;done)
        | skip
     | _=>simp at hstep
end
open Go.ChangeShapes Go.WideShapes
section
variable {H:Type}{enc:TypeId×Value->H}{P:Program}{W:World}{ts:List TypeId}{base:Nat}
def pO (W:World):Nat->Nat->Prop:=fun b _=>b<W.heap.size
theorem Pi (hts:Tf P ts=true){t:TypeId}(ht:t∈ts){v:Value}{d:DataW H}{p:List MemPlace}(hok:Value.okWide P W .any base t v)(h:DataW.Trod enc P W 0 (fun _=>true) true t v d p)(hz:(d.weights P t).all (·<=reachBytes)=true) :
  ∃ x,HasT P t x/\PRel W (pO W) x v:=by
 obtain⟨fuel,hf⟩:=h
 obtain⟨x,h1,h2⟩:=kZ (w:=W) (imm:=pO W) hts (fun b o h=>h) fuel t _ d p ht hf hz
 refine⟨x,h1,?_⟩
 cases h1 with
 | bool _ b hu=>obtain⟨b',rfl⟩:=okWide_bool hu hok;exact gO (.bool _ _ hu) h2 (by simp[bO,hu]) (fun _=>rfl)
 | int _ k n hu hw=>obtain⟨b',rfl⟩:=okWide_int hu hok;exact gO (.int _ _ _ hu hw) h2 (by simp[bO,hu]) (fun _=>rfl)
 | str _ s hu hs=>obtain⟨b',rfl⟩:=okWide_string hu hok;exact gO (.str _ _ hu hs) h2 (by simp[bO,hu]) (fun _=>rfl)
 | list _ e l hu hl hl2 hle=>obtain⟨a,len,cap,rfl⟩:=okWide_slice hu hok;exact gO (.list _ _ _ hu hl hl2 hle) h2 (by simp[bO,hu]) (fun _=>rfl)
 | arr _ e n cs hu hl hle=>
   have hok':=hok
   simp only[Value.okWide,hu] at hok'
   obtain⟨cs',rfl,_⟩:=hok'
   exact gO (.arr _ _ _ _ hu hl hle) h2 (fun _=>⟨_,rfl⟩) (by simp[bO,hu])
 | agg _ fs cs hu hl hle=>obtain⟨cs',rfl,_⟩:=okWide_struct hu hok;exact gO (.agg _ _ _ hu hl hle) h2 (fun _=>⟨_,rfl⟩) (by simp[bO,hu])
theorem yb (hts:Tf P ts=true):∀ (tys:List TypeId) (vs:List Value) (ds:List (DataW H)) (p:List MemPlace),(∀ t∈tys,t∈ts)->(∀ (j:Nat) (t:TypeId) (v:Value),tys[j]? = some t->vs[j]? = some v->Value.okWide P W .any base t v) ->
  DataW.TrodAll enc P W 0 (fun _=>true) true tys vs ds p->(DataW.weightsEach P tys ds).all (·<=reachBytes)=true->vs.length=tys.length/\ds.length=tys.length/\∃ xs:List PV,xs.length=tys.length/\(∀ (i:Nat) (x:PV),xs[i]? = some x->PRel W (pO W) x (vs.getD i Go.undef))/\(∀ (i:Nat) (t:TypeId) (x:PV),tys[i]? = some t->xs[i]? = some x->HasT P t x)
 | [],vs,ds,p,_,_,h,_=>by
   cases vs<;>cases ds<;>simp[DataW.TrodAll] at h
   exact⟨rfl,rfl,[],rfl,by simp,by simp⟩
 | t::tys,vs,ds,p,ht,hok,h,hz=>by
   obtain⟨v,vs',d,ds',p',q',rfl,rfl,rfl,h1,h2⟩:=trodAll_cons h
   simp only[DataW.weightsEach,List.all_append,WT] at hz
   obtain⟨x,k1,k2⟩:=Pi (base:=base) hts (ht t (by simp)) (hok 0 t v rfl rfl) h1 hz.1
   obtain⟨l1,l2,xs,l3,l4,l5⟩:=yb hts tys vs' ds' q' (fun t h=>ht t (by simp[h])) (fun j t v h1 h2=>hok (j+1) t v (by simpa using h1) (by simpa using h2)) h2 hz.2
   refine⟨by simp[l1],by simp[l2],x::xs,by simp[l3],fun i y hy=>?_,fun i t' y ht' hy=>?_⟩
   ·cases i with
    | zero=>simp only[Xb,WJ] at hy;subst hy;simpa using k2
    | succ i=>simpa using l4 i y (by simpa using hy)
   ·cases i with
    | zero=>
      simp only[Xb,WJ] at hy ht'
      subst hy;subst ht';exact k1
    | succ i=>exact l5 i t' y (by simpa using ht') (by simpa using hy)
theorem nP:∀ (tys:List TypeId) (vs:List Value) (ds:List (DataW H)) (p:List MemPlace),DataW.TrodAll enc P W 0 (fun _=>true) true tys vs ds p->∀ x∈p,x.block<W.heap.size
 | [],vs,ds,p,h=>by
   cases vs<;>cases ds<;>simp[DataW.TrodAll] at h
   subst h;simp
 | t::tys,vs,ds,p,h=>by
   obtain⟨v,vs',d,ds',p',q',rfl,rfl,rfl,⟨m,hm⟩,h2⟩:=trodAll_cons h
   intro x hx
   rcases Xk.1 hx with hx | hx
   ·exact DataW.trod_lt m _ _ _ hm x hx
   ·exact nP tys vs' ds' q' h2 x hx
theorem sL (hlaid:laidOutB P=true){W':World}(hb:Below W.heap.size W W'):∀ (tys:List TypeId) (vs:List Value) (ds:List (DataW H)) (p:List MemPlace),(∀ t∈tys,P.readableRec t=true/\t<P.types.size) ->
  DataW.TrodAll enc P W 0 (fun _=>true) true tys vs ds p->DataW.TrodAll enc P W' 0 (fun b=>decide (b<W.heap.size)) true tys vs ds p
 | [],vs,ds,p,_,h=>by
   cases vs<;>cases ds<;>simp[DataW.TrodAll] at h
   subst h
   exact trodAll_mk0
 | t::tys,vs,ds,p,ht,h=>by
   have hlt:=nP _ _ _ _ h
   obtain⟨v,vs',d,ds',p',q',rfl,rfl,rfl,h1,h2⟩:=trodAll_cons h
   exact trodAll_cons_mk (Below.trod hlaid (ht t (by simp)).1 (ht t (by simp)).2 h1 hb (fun x hx=>hlt x (Xk.2 (.inl hx)))) (sL hlaid hb tys vs' ds' q' (fun t h=>ht t (by simp[h])) h2)
theorem fO:∀ (ts us:List TypeId) (ds gs:List (DataW H)),(DataW.weightsEach P (ts++us) (ds++gs)).all (·<=reachBytes)=true->(DataW.weightsEach P ts ds).all (·<=reachBytes)=true
 | [],_,_,_,_=>by simp[DataW.weightsEach]
 | _::_,_,[],_,_=>by simp[DataW.weightsEach]
 | t::ts,us,d::ds,gs,h=>by
   simp only[List.cons_append,DataW.weightsEach,List.all_append,WT] at h ⊢
   exact⟨h.1,fO ts us ds gs h.2⟩
theorem I8 {f:FuncId}{fn:Func}{s:ChangeSpec}{args:Array Value}{ds gs:List (DataW H)}{before:List MemPlace}{G:Nat->List PV}{tb:TypeId}
  (hs:s.vars=[]) (hlaid:laidOutB P=true) (hread:∀ t∈fn.params.toList,P.readableRec t=true/\t<P.types.size) (hts:Tf P ts=true) (htys:∀ t∈fn.params.toList,t∈ts)
  (hres:fn.resultTypes = #[tb]) (htb:P.underlying tb=some .bool)
  (hfn:∀ ds:List (DataW H),ds.length=fn.params.toList.length->s.fn H ds = { results:=[.lit (.bool true)],args:=ds })
  (hval:∀ (j:Nat) (t:TypeId) (v:Value),fn.params[j]? = some t->args[j]? = some v->Value.okWide P W .any base t v) (hW:DataW.Whole enc P fn.params.toList s.vars false W args.toList ds gs before)
  (hsz:(DataW.weightsEach P (fn.params.toList++s.plain.varTypes P) (ds++gs)).all (·<=reachBytes)=true)
  (hG:dd G W (pO W))
  (hlaw:∀ ps:List PV,ps.length=fn.params.toList.length->(∀ (i:Nat) (t:TypeId) (x:PV),fn.params.toList[i]? = some t->ps[i]? = some x->HasT P t x)->am P G f ps (.bool true)) :
  Calls P f args W fun e W'=>∃ v,e = .returned v/\s.post enc P fn false true false false W args v W':=by
 have hW':=hW
 obtain⟨p,q,hA,hV,rfl,hfz,hnd⟩:=hW
 rw[hs] at hV
 obtain⟨rfl,rfl⟩:=trodVars_none hV
 obtain⟨l1,l2,xs,l3,l4,l5⟩:=yb (base:=base) hts fn.params.toList args.toList ds p htys (fun j t v h1 h2=>hval j t v (by simpa using h1) (by simpa using h2)) hA (fO _ _ _ _ hsz)
 obtain⟨_,hP⟩:=hlaw xs l3 l5
 refine (hP W (pO W) args hG (fun b o h=>h) (by rw[l3,<- l1];simp) (fun i x hx=>by rw[aL];exact l4 i x hx)).mono ?_
 rintro e W' ⟨u,imm',rfl,hb,_,_,_,hu⟩
 cases hu
 refine⟨_,rfl,ds,[],_,[],p,[],hW',?_,?_,?_,hb.frame _,fun h=>by cases h⟩
 ·rw[hres,W7,hfn ds l2]
  exact trodAll_mk1 (shut_bool htb _)
 ·rw[W7,hfn ds l2]
  exact sL hlaid hb _ _ _ _ hread hA
 ·rw[hs,W7,hfn ds l2]
  rfl
end
section
variable {e:List (Nat×AV)}{σ:List (Nat×Blk)}{new:Nat}
theorem yu:kX e σ new .mkmap=some (.mp new,[(new,.mp [])]):=_root_.id rfl
theorem yr (kd:Option IntKind)(co:Bool)(z:PV)(x k:AX):kX e σ new (.mlook kd co z x k)=iu [] (pp kd co z (fun r=>lookB r σ) (evE e x) (evE e k)):=by
 simp only[kX,iu];cases pp kd co z (fun r=>lookB r σ) (evE e x) (evE e k)<;>rfl
theorem Br (kd:Option IntKind)(x k v:AX):kX e σ new (.mset kd x k v)=GG (.pv .undef) (po kd (fun r=>lookB r σ) (evE e x) (evE e k) (evE e v)):=by
 simp only[kX,GG];cases po kd (fun r=>lookB r σ) (evE e x) (evE e k) (evE e v)<;>rfl
def DS (kd:Option IntKind)(co:Bool)(z k:PV):Blk->Option AV
 | .mp l=>if Ak kd k=true then match j2 k l 0 with
   | some (some (_,v))=>some (.pv (if co=true then .tup [v,.bool true] else v))
   | some none=>some (.pv (if co=true then .tup [z,.bool false] else z))
   | none=>none
   else none
 | _=>none
def ML (kd:Option IntKind)(r:Nat)(k p:PV):Blk->Option (List (Nat×Blk))
 | .mp l=>if Ak kd k=true then match j2 k l 0 with
   | some (some (i,_))=>some [(r,.mp (l.set i (k,p)))]
   | some none=>some [(r,.mp (l++[(k,p)]))]
   | none=>none
   else none
 | _=>none
theorem H2 (kd:Option IntKind)(co:Bool)(z:PV)(τ:aE)(r:Nat)(k:PV):pp kd co z τ (.mp r) (.pv k)=DS kd co z k (τ r):=by
 simp only[pp];cases τ r<;>rfl
theorem HZ (kd:Option IntKind)(τ:aE)(r:Nat)(k p:PV):po kd τ (.mp r) (.pv k) (.pv p)=ML kd r k p (τ r):=by
 simp only[po];cases τ r<;>rfl
def mpS (l:List (List UInt8)):List (PV×PV):=l.map fun s=>(.str s,.bool true)
def Km (l:List (List UInt8))(s:List UInt8):List (List UInt8):=if s∈l then l else l++[s]
theorem mE (s:List UInt8):∀ (l:List (List UInt8)) (i:Nat),(s∈l->∃ j,j2 (.str s) (mpS l) i=some (some (i+j,.bool true))/\l[j]? = some s)/\(s∉l->j2 (.str s) (mpS l) i=some none)
 | [],i=>⟨(fun h=>by cases h),fun _=>rfl⟩
 | a::r,i=>by
   have ih:=mE s r (i+1)
   by_cases ha:s=a
   ·subst ha
    refine⟨fun _=>⟨0,?_,rfl⟩,fun h=>absurd Xy h⟩
    simp[mpS,j2,keq]
   ·have hb:(s == a)=false:=by simpa using ha
    have e:j2 (.str s) (mpS (a::r)) i=j2 (.str s) (mpS r) (i+1):=by
     show (match keq (.str s) (.str a) with
      | some true=>some (some (i,PV.bool true))
      | some false=>j2 (.str s) (mpS r) (i+1)
      | none=>none)=_
     simp only[keq,hb]
    rw[e]
    refine⟨fun h=>?_,fun h=>ih.2 fun h'=>h (Xj _ h')⟩
    rcases W9.1 h with h | h
    ·exact absurd h ha
    ·obtain⟨j,h1,h2⟩:=ih.1 h
     exact⟨j+1,by rw[h1,show i+1+j=i+(j+1) by omega],by simpa using h2⟩
theorem z8 (l:List (List UInt8))(s:List UInt8):DS none false (.bool false) (.str s) (.mp (mpS l))=some (.pv (.bool (decide (s∈l)))):=by
 simp only[DS,Ak,if_true]
 by_cases h:s∈l
 ·obtain⟨j,h1,_⟩:=(mE s l 0).1 h
  rw[h1,decide_eq_true h];rfl
 ·rw[(mE s l 0).2 h,decide_eq_false h];rfl
theorem Cg (r:Nat)(l:List (List UInt8))(s:List UInt8):ML none r (.str s) (.bool true) (.mp (mpS l))=some [(r,.mp (mpS (Km l s)))]:=by
 simp only[ML,Ak,if_true]
 unfold Km
 by_cases h:s∈l
 ·obtain⟨j,h1,h2⟩:=(mE s l 0).1 h
  rw[h1,if_pos h]
  simp only[W4]
  have:(mpS l).set j (.str s,.bool true)=mpS l:=by
   apply List.ext_getElem?
   intro i
   rw[List.getElem?_set]
   by_cases hij:j=i
   ·subst hij
    have hl:j<(mpS l).length:=by simp[mpS];exact (WH.1 h2).1
    simp[mpS,(WH.1 h2).1]
    exact (WH.1 h2).2.symm
   ·rw[if_neg hij]
  rw[this]
 ·rw[(mE s l 0).2 h,if_neg h]
  simp[mpS]
theorem Bs (sz len:Nat)(xs:List AX):kX e σ new (.bslf sz len xs)=kM sz len (evL e xs):=_root_.id rfl
theorem s7 (sz len:Nat)(xs:List AX):qB e (.bslf sz len xs)=[]:=_root_.id rfl
theorem uz (sz len:Nat)(xs:List AX):dE (.xop (.bslf sz len xs))=0:=_root_.id rfl
theorem gr {sz:Nat}{cs:List PV}(h1:cs.length=sz)(h2:cs.all PV.one=true):kM sz 1 [.pv (.agg cs)]=some (.pv (.list [.agg cs]),[]):=by
 subst h1
 have h3:([PV.agg cs].all fun p=>p.cells.length == cs.length&&p.cells.all PV.one)=true:=by simp[PV.cells,h2]
 simp only[kM]
 rw[if_pos ⟨rfl,by omega⟩]
 simp only[pvs,AV.toPV,h3,if_true]
theorem IT (r:Nat):(AV.mp r).names=[r]:=_root_.id rfl
def T1:Option Nat->AV
 | some q=>.mp q
 | none=>.any
theorem QW (f:Nat->Option Nat)(r:Nat):(AV.mp r).ren f=T1 (f r):=by simp only[AV.ren,T1]<;>(cases f r<;>rfl)
theorem CB (q:Nat):T1 (some q) = .mp q:=_root_.id rfl
theorem DG (l:List (PV×PV)):(Blk.mp l).names=[]:=_root_.id rfl
theorem Nh (f:Nat->Option Nat)(l:List (PV×PV)):(Blk.mp l).ren f = .mp l:=_root_.id rfl
end
attribute [push_cast] Bs s7 uz yu yr Br H2 HZ z8 Cg IT QW CB DG Nh
open Go.Proofs Go.Lib
section
variable {P:Program}{W:World}
theorem GR {H:Type}{enc:TypeId×Value->H}{w:World}{base:Nat}{sp:Nat->Bool}{held:Bool}{fuel n:Nat}{t e:TypeId}{cs:List Value}{x:DataW H×List MemPlace}(ht:P.underlying t=some (.array n e))
  (h:DataW.trod enc P w base sp held fuel t cs=some x):cs.length=P.cellsOf t:=by
 cases fuel with
 | zero=>simp[DataW.trod] at h
 | succ fuel=>
   simp only[DataW.trod,ht] at h
   split at h
   ·assumption
   ·cases h
structure TabAt (w:World)(g:Nat)(ps:List PV):Prop where
 obj:∃ cs T fz,w.heap[g]? = some (.cells cs T fz)/\cs.size=ps.length
 cell:∀ (o:Nat) (p:PV),ps[o]? = some p->∃ k z,p = .int k z/\w.cell? ⟨g,o,none⟩=some (.int k z)
theorem EH {G:Nat->List PV}(h:∀ g,G g≠[]->TabAt W g (G g)):dd G W (pO W):=by
 refine⟨fun g o p hp=>?_,fun g hg=>(h g hg).obj⟩
 have hne:G g≠[]:=by intro e;rw[e] at hp;simp at hp
 obtain⟨k,z,rfl,hc⟩:=(h g hne).cell o p hp
 exact⟨World.block_lt_of_cell? W _ hc,_,hc,rfl,.int _ _⟩
theorem o9 {n:String}{g:Nat}{t e:TypeId}{m:Nat}{d:DataW Unit}{ps:List PV}(hv:VarReads P W n d)(hg:P.globalNamed n=some g)(hty:(P.globals[g]?).map (·.type)=some t)(ht:P.underlying t=some (.array m e))(hl:P.cellsOf t=ps.length)
  (h:∀ (o:Nat) (p:PV),ps[o]? = some p->∃ k z,p = .int k z/\W.cell? ⟨g,o,none⟩=some (.int k z)):TabAt W g ps:=by
 refine⟨?_,h⟩
 obtain⟨g',t',cs,fuel,p,hg',hty',hvar,hd⟩:=hv
 obtain rfl:=Option.some.inj (hg.symm.trans hg')
 obtain rfl:=Option.some.inj (hty.symm.trans hty')
 have hlen:=GR ht hd
 unfold World.var? at hvar
 rw[hg] at hvar
 simp only[Option.bind_some] at hvar
 split at hvar
 ·rename_i cs' T fz hh
  cases hvar
  exact⟨cs,T,fz,hh,by rw[<- hl,<- hlen];simp⟩
 ·cases hvar
theorem nT {n:String}{g:Nat}{t e:TypeId}{m:Nat}{k:IntKind}{zs:List Int}(hv:VarReads P W n (Lib.tabData k zs))(hg:P.globalNamed n=some g)(hty:(P.globals[g]?).map (·.type)=some t)(ht:P.underlying t=some (.array m e))
  (he:P.underlying e=some (.int k)) (hce:P.cellsOf e=1) (hct:P.cellsOf t=m) (hm:m=zs.length):TabAt W g (zs.map (PV.int k)):=by
 have hv':=hv
 refine o9 hv hg hty ht (by rw[hct,hm];simp) fun o p hp=>?_
 simp only[WW,WI] at hp
 obtain⟨z,hz,rfl⟩:=hp
 refine⟨k,z,rfl,?_⟩
 obtain⟨g',t',cs,fuel,q,hg',hty',hvar,hd⟩:=hv'
 obtain rfl:=Option.some.inj (hg.symm.trans hg')
 obtain rfl:=Option.some.inj (hty.symm.trans hty')
 have hcs:=Lib.cells_of_tab ht he hce hct hd
 rw[World.var?_cell hg hvar o,<- Array.getElem?_toList,hcs]
 simp[hz]
end

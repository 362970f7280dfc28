/- A program logic over the model: part 5 (a proof is built on it; nothing of the statement is said here). -/
import Derived.Lib.Join
import Derived.Lib.ItoaNum
import Derived.Lib.LaidTab
import Derived.Lib.AppendIntMem
import Derived.Lib.Strings
import Derived.Lib.Bytealg
import Derived.Lib.ValidLaws
import Derived.Test.YtbaaokocnegdoaaGreatDoorEnCore4
set_option linter.unusedVariables false
set_option linter.unusedSimpArgs false
open Option.some renaming injEq->Vj
open List renaming take_of_length_le->VC,mem_map->Vy,length_map->Vv,all_eq_true->VM,length_cons->Vq,map_cons->VG,flatMap_cons->Wy,append_nil->VZ,getElem?_eq_some_iff->Vh,getElem?_cons_zero->VP,getElem?_eq_getElem->Vg,cons_append->VF,getD_eq_getElem?_getD->Vm,mem_of_getElem?->Vk,append_assoc->VQ
open Bool renaming and_eq_true->Vr
open Array renaming replicate->Wf,getD_eq_getD_getElem?->Vn
open Nat renaming le_refl->Vw,zero_le->Wv,zero_add->VA,lt_succ_self->Wj
open Prod.mk renaming injEq->Vt
open UInt8 renaming ofNat->VT
namespace Go.Ab
open Go Go.RowKit
theorem Ha (k k':IntKind)(x y:Int):Me (.pv (.int k x)) (.pv (.int k' y))=some (.pv (.int k (min x y))):=by
 simp only[Me,Vj,AV.pv.injEq,PV.int.injEq,true_and]
 split<;>omega
theorem Hb (k k':IntKind)(x y:Int):Mf (.pv (.int k x)) (.pv (.int k' y))=some (.pv (.int k (max x y))):=by
 simp only[Mf,Vj,AV.pv.injEq,PV.int.injEq,true_and]
 split<;>omega
theorem xw (a:Nat)(b:Int):(min (a:Int) b).toNat=min a b.toNat:=by omega
theorem BA {α:Type}(l:List α)(n:Nat):l.take (min l.length n)=l.take n:=by
 rcases Nat.le_total l.length n with h | h
 ·rw[Nat.min_eq_left h,List.take_length,VC h]
 ·rw[Nat.min_eq_right h]
theorem map_take {α β:Type}(f:α->β)(l:List α)(n:Nat):(l.map f).take n=(l.take n).map f:=List.map_take.symm
theorem map_drop {α β:Type}(f:α->β)(l:List α)(n:Nat):(l.map f).drop n=(l.drop n).map f:=List.map_drop.symm
theorem De {α β:Type}(f:α->β):(none:Option α).map f=none:=_root_.id rfl
def fX (mu:Bool)(e sz by_ new:Nat)(σ:aw)(x:AV):Option (List PV)->Option (AV×List (Nat×Blk))
 | some ys=>match mu,x with
   | false,.pv .nils=>match ys with
     | []=>some (.pv .nils,[])
     | y::r=>if pG 0 (r.length+1) by_=true then some (.olist new sz (y::r),[(new,.tok e sz)]) else none
   | false,.olist q s l=>match σ q with
     | .tok e' sz'=>if e'=e/\sz'=sz/\s=sz/\pG l.length ys.length by_=true then some (.olist new sz (l++ys),[(q,.none),(new,.tok e sz)]) else none
     | _=>none
   | true,.pv .nils=>match ys with
     | []=>some (.pv .nils,[])
     | y::r=>if pG 0 (r.length+1) by_=true then some (.row new sz 0 (r.length+1),[(new,.cells e false (bC (y::r)))]) else none
   | true,.row q s off len=>match σ q with
     | .cells e' _ l=>if e'=e/\s=sz/\off=0/\len*sz<=l.length/\pG len ys.length by_=true then some (.row new sz 0 (len+ys.length),[(q,.none),(new,.cells e false (l.take (len*sz)++bC ys))]) else none
     | _=>none
   | _,_=>none
 | none=>none
def Jv (e sz by_ new q s:Nat)(l ys:List PV):Blk->Option (AV×List (Nat×Blk))
 | .tok e' sz'=>if e'=e/\sz'=sz/\s=sz/\pG l.length ys.length by_=true then some (.olist new sz (l++ys),[(q,.none),(new,.tok e sz)]) else none
 | _=>none
def up (e sz by_ new q s off len:Nat)(ys:List PV):Blk->Option (AV×List (Nat×Blk))
 | .cells e' _ l=>if e'=e/\s=sz/\off=0/\len*sz<=l.length/\pG len ys.length by_=true then some (.row new sz 0 (len+ys.length),[(q,.none),(new,.cells e false (l.take (len*sz)++bC ys))]) else none
 | _=>none
theorem yg (mu:Bool)(e sz by_ new:Nat)(σ:aw)(x y:AV):dZ mu e sz by_ new σ x y=fX mu e sz by_ new σ x (bJ σ sz y):=by
 unfold dZ fX
 cases bJ σ sz y<;>rfl
theorem Rm (e sz by_ new:Nat)(σ:aw)(q s:Nat)(l ys:List PV):fX false e sz by_ new σ (.olist q s l) (some ys)=Jv e sz by_ new q s l ys (σ q):=by
 simp only[fX,Jv]
theorem Ju {e sz by_ new q:Nat}{l ys:List PV}(h1:l.length+ys.length<=9223372036854775807)(h2:(l.length+ys.length)*by_<=140737488355328):Jv e sz by_ new q sz l ys (.tok e sz)=some (.olist new sz (l++ys),[(q,.none),(new,.tok e sz)]):=by
 simp[Jv,gT h1 h2]
theorem Js (e sz by_ new:Nat)(σ:aw):fX false e sz by_ new σ (.pv .nils) (some [])=some (.pv .nils,[]):=_root_.id rfl
theorem Jr {e sz by_ new:Nat}{σ:aw}{y:PV}{r:List PV}(h1:r.length+1<=9223372036854775807)(h2:(r.length+1)*by_<=140737488355328):fX false e sz by_ new σ (.pv .nils) (some (y::r))=some (.olist new sz (y::r),[(new,.tok e sz)]):=by
 simp only[fX];rw[if_pos (gT (by omega) (by simpa using h2))]
theorem NS (e sz by_ new:Nat)(σ:aw)(q s off len:Nat)(ys:List PV):fX true e sz by_ new σ (.row q s off len) (some ys)=up e sz by_ new q s off len ys (σ q):=by
 simp only[fX,up]
theorem kP {e sz by_ new q len:Nat}{f:Bool}{l:List AV}{ys:List PV}(h0:len*sz<=l.length)(h1:len+ys.length<=9223372036854775807)(h2:(len+ys.length)*by_<=140737488355328) :
  up e sz by_ new q sz 0 len ys (.cells e f l)=some (.row new sz 0 (len+ys.length),[(q,.none),(new,.cells e false (l.take (len*sz)++bC ys))]):=by
 simp[up,h0,gT h1 h2]
def wu (l:List PV):Bool->Option (List PV)
 | true=>some l
 | false=>none
theorem zO (σ:aw)(sz:Nat)(l:List PV):bJ σ sz (.pv (.list l))=wu l (l.all fun y=>y.cells.length == sz):=by
 simp only[bJ]
 cases l.all (fun y=>y.cells.length == sz)<;>rfl
theorem zP (l:List PV):wu l true=some l:=_root_.id rfl
theorem tZ (σ:aw)(sz r:Nat)(l:List PV):bJ σ sz (.olist r sz l)=some l:=by simp[bJ]
def R4 (e sz new:Nat):Option (List PV)->Option (AV×List (Nat×Blk))
 | some ps=>if ps.all (fun p=>p.cells.length == sz&&p.cells.all PV.one)=true then some (.olist new sz ps,[(new,.tok e sz)]) else none
 | none=>none
theorem TH {e sz len new:Nat}{vs:List AV}(h:vs.length=len)(h2:len<=9223372036854775807):eT false e sz len new vs=R4 e sz new (pvs vs):=by
 simp only[eT,h,h2,true_and,if_true,R4]
 cases pvs vs<;>rfl
def UE (e sz new:Nat)(ps:List PV):Bool->Option (AV×List (Nat×Blk))
 | true=>some (.olist new sz ps,[(new,.tok e sz)])
 | false=>none
theorem Rc (e sz new:Nat)(ps:List PV):UE e sz new ps true=some (.olist new sz ps,[(new,.tok e sz)]):=_root_.id rfl
theorem Fm (e sz new:Nat)(ps:List PV):R4 e sz new (some ps)=UE e sz new ps (ps.all fun p=>p.cells.length == sz&&p.cells.all PV.one):=by
 simp only[R4]
 cases ps.all (fun p=>p.cells.length == sz&&p.cells.all PV.one)<;>rfl
theorem oS (b:Bool):PV.one (.bool b)=true:=_root_.id rfl
theorem tn (k:IntKind)(n:Int):PV.one (.int k n)=true:=_root_.id rfl
theorem tm (s:List UInt8):PV.one (.str s)=true:=_root_.id rfl
theorem HL:PV.one .nils=true:=_root_.id rfl
theorem oR (l:List PV):PV.one (.list l)=true:=_root_.id rfl
theorem Ms (p:PV):AV.one (.pv p)=p.one:=_root_.id rfl
theorem HO (r o:Nat):AV.one (.ptr r o)=true:=_root_.id rfl
theorem HM (r s o n:Nat):AV.one (.row r s o n)=true:=_root_.id rfl
theorem yC (r s:Nat)(l:List PV):AV.one (.olist r s l)=true:=_root_.id rfl
theorem HP (f:Nat)(a b:List AV):AV.one (.clo f a b)=true:=_root_.id rfl
def tq (sz:Nat)(l:List PV)(h:Nat):Option Nat->Option AV
 | some a=>if JU sz l a=true then some (.pv (.list ((l.take h).drop a))) else none
 | none=>none
def Db (sz:Nat)(l:List PV)(lo:Option AV):Option Nat->Option AV
 | some h=>tq sz l h (bh 0 h lo)
 | none=>none
theorem qx (sz:Nat)(l:List PV)(lo hi:Option AV):fI sz (.pv (.list l)) lo hi=Db sz l lo (bh l.length l.length hi):=by
 show Ov sz l lo hi=_
 unfold Ov Db tq
 cases bh l.length l.length hi with
 | none=>rfl
 | some h=>simp only;cases bh 0 h lo<;>rfl
theorem tp (sz:Nat)(l:List PV)(lo:Option AV)(h:Nat):Db sz l lo (some h)=tq sz l h (bh 0 h lo):=_root_.id rfl
theorem yE (sz:Nat)(l:List PV)(h:Nat):tq sz l h (some 0)=some (.pv (.list (l.take h))):=by
 simp[tq,JU]
theorem nQ {sz:Nat}{l:List PV}{h a:Nat}(hs:JU sz l a=true):tq sz l h (some a)=some (.pv (.list ((l.take h).drop a))):=if_pos hs
theorem yD (sz:Nat)(l:List PV)(i:Nat)(y:PV):dO sz l i (some y)=if y.cells.length=sz then some (.pv (.eptr l i 0)) else none:=_root_.id rfl
theorem Jy {α β:Type}(f:α->β)(p:β->Bool)(l:List α):(l.map f).all p=l.all fun x=>p (f x):=by
 rw[List.all_map];rfl
theorem Rn {α:Type}(l:List α):(l.all fun _=>true)=true:=by simp
theorem Rh (n:Nat):(n == n)=true:=by simp
def P8 (sz:Nat)(e:PV):Bool->Option AV
 | true=>some (.pv e)
 | false=>d7 true sz 0 (e.cells.map .pv)
theorem MQ (sz:Nat)(e:PV):P8 sz e true=some (.pv e):=_root_.id rfl
theorem Ig (sz:Nat)(e:PV):ni true sz 0 e=P8 sz e (e.isAgg&&decide (e.cells.length=sz)):=by
 simp only[ni,true_and]
 by_cases h:e.isAgg=true/\e.cells.length=sz
 ·rw[if_pos h,h.1,decide_eq_true h.2];rfl
 ·rw[if_neg h]
  have:(e.isAgg&&decide (e.cells.length=sz))=false:=by
   rw[Bool.eq_false_iff]
   intro hh
   simp only[Vr,decide_eq_true_eq] at hh
   exact h hh
  rw[this];rfl
theorem DT (cs:List PV):(PV.agg cs).isAgg=true:=_root_.id rfl
theorem jX {α:Type}{sz:Nat}{f:α->PV}(hf:∀ x,(f x).cells.length=sz)(l:List α):(bC (l.map f)).length=l.length*sz:=by
 have:=iP (sz:=sz) ((l.map f).map PV.cells) (by
  intro y hy
  simp only[Vy] at hy
  obtain⟨p,⟨s,_,rfl⟩,rfl⟩:=hy
  exact hf s)
 simp only[bC,Vv,List.flatMap_def] at this ⊢
 exact this
def fzO (σ:aw):Option AV->Option (AV×List (Nat×Blk))
 | some v=>(IL σ v).map M7
 | none=>none
theorem Qp (G:Nat->List PV)(σ:aw)(g:Bool)(sz:Nat)(v:AV):Nm G σ (some (g,sz)) v=fzO σ (fu G g sz σ v):=by
 simp only[Nm,fzO];cases fu G g sz σ v<;>rfl
theorem II (σ:aw)(v:AV):fzO σ (some v)=(IL σ v).map M7:=_root_.id rfl
theorem IK (σ:aw)(cs:List AV):IL σ (.agg cs)=(IP σ cs).map fun p=>(.agg p.1,p.2):=_root_.id rfl
theorem M8 (σ:aw)(p:PV):M9 σ (.pv p)=some (p,[]):=_root_.id rfl
theorem IR (σ:aw)(r s n:Nat):M9 σ (.row r s 0 n)=Ql s n r (σ r):=_root_.id rfl
theorem IM (σ:aw):IP σ []=some ([],[]):=_root_.id rfl
theorem Ed (σ:aw)(x:AV)(r:List AV):IP σ (x::r)=R0 (M9 σ x) (IP σ r):=_root_.id rfl
theorem Ee (p:PV)(a:List Nat)(q:List PV)(b:List Nat):R0 (some (p,a)) (some (q,b))=some (p::q,a++b):=_root_.id rfl
theorem M6 (p:PV)(l:List Nat):M7 (p,l)=(.pv p,l.map fun r=>(r,.none)):=_root_.id rfl
theorem IS {α:Type}{sz:Nat}{f:α->PV}(hf:∀ x,∃ cs,f x = .agg cs/\cs.length=sz/\∀ p∈cs,p.one=true)(hsz:2<=sz)(l:List α){n r T:Nat}{b:Bool}(hn:n=l.length) :
  Ql sz n r (.cells T b (bC (l.map f)))=some (.list (l.map f),[r]):=by
 have hlen:=jX (sz:=sz) (f:=f) (fun x=>by obtain⟨cs,h1,h2,_⟩:=hf x;rw[h1];exact h2) l
 subst hn
 have hone:(bC (l.map f)).all AV.one=true:=by
  rw[VM]
  intro x hx
  simp only[bC,Vy,List.mem_flatMap] at hx
  obtain⟨p,⟨q,⟨s,_,rfl⟩,hq⟩,rfl⟩:=hx
  obtain⟨cs,h1,h2,h3⟩:=hf s
  rw[h1] at hq
  exact h3 p hq
 have hpv:pvs (bC (l.map f))=some ((l.map f).flatMap PV.cells):=pvs_map _
 have hch:∀ l:List α,jL sz l.length ((l.map f).flatMap PV.cells)=l.map f:=by
  intro l
  induction l with
  | nil=>rfl
  | cons x r ih=>
    obtain⟨cs,h1,h2,_⟩:=hf x
    simp only[Vq,jL,VG,Wy,h1,ag]
    rw[if_neg (by omega),List.take_left' h2,List.drop_left' h2,ih]
 simp only[Ql]
 rw[if_pos ⟨by omega,by omega,by rw[VC (by omega)];exact hone⟩,VC (by omega),hpv]
 simp[hch]
theorem H3 (p:PV):(AV.pv p).names=[]:=_root_.id rfl
theorem Dm (r o:Nat):(AV.ptr r o).names=[r]:=_root_.id rfl
theorem Dl (r a b c:Nat):(AV.row r a b c).names=[r]:=_root_.id rfl
theorem H4 (r a:Nat)(l:List PV):(AV.olist r a l).names=[r]:=_root_.id rfl
theorem Dn (f:Nat)(fs cs:List AV):(AV.clo f fs cs).names=AV.namesL fs++AV.namesL cs:=by simp only[AV.names]
theorem Do:AV.any.names=[]:=_root_.id rfl
theorem yL:AV.namesL []=[]:=_root_.id rfl
theorem lY (x:AV)(r:List AV):AV.namesL (x::r)=x.names++AV.namesL r:=by simp only[AV.namesL]
theorem lX:∀ l:List PV,AV.namesL (l.map .pv)=[]
 | []=>rfl
 | x::r=>by rw[VG,lY,lX r];rfl
theorem tw (l:List PV):AV.namesL (bC l)=[]:=lX _
theorem qU (T:Nat)(f:Bool)(l:List AV):(Blk.cells T f l).names=AV.namesL l:=_root_.id rfl
theorem yM (e s:Nat):(Blk.tok e s).names=[]:=_root_.id rfl
theorem JA (acc:List Nat):bF acc []=acc:=_root_.id rfl
def N1 (acc:List Nat)(n:Nat):Bool->List Nat
 | true=>acc
 | false=>acc++[n]
theorem j3 (x:Nat):∀ l:List Nat,l.contains x=vP x l
 | []=>rfl
 | y::r=>by
   rw[List.contains_cons,j3 x r,qX]
   by_cases h:y=x
   ·simp[h]
   ·have h':¬ x=y:=fun e=>h e.symm
    simp[h,h']
theorem FB (acc:List Nat)(n:Nat)(r:List Nat):bF acc (n::r)=bF (N1 acc n (vP n acc)) r:=by
 simp only[bF,j3]
 cases vP n acc<;>rfl
theorem NZ (acc:List Nat)(n:Nat):N1 acc n true=acc:=_root_.id rfl
theorem N0 (acc:List Nat)(n:Nat):N1 acc n false=acc++[n]:=_root_.id rfl
def geN (m0:Nat):List Nat->List Nat
 | []=>[]
 | x::r=>if m0<=x then x::geN m0 r else geN m0 r
theorem M2 (m0:Nat):geN m0 []=[]:=_root_.id rfl
theorem wc (m0 x:Nat)(r:List Nat):geN m0 (x::r)=if m0<=x then x::geN m0 r else geN m0 r:=_root_.id rfl
theorem Ec (m0:Nat):∀ l:List Nat,l.filter (fun r=>decide (m0<=r))=geN m0 l
 | []=>rfl
 | x::r=>by rw[List.filter_cons,Ec m0 r,wc];simp
def dV (sto:List (Nat×Blk)):List Nat->List Nat
 | []=>[]
 | r::q=>(lookB r sto).names++dV sto q
theorem rV (sto:List (Nat×Blk)):dV sto []=[]:=_root_.id rfl
theorem i7 (sto:List (Nat×Blk))(r:Nat)(q:List Nat):dV sto (r::q)=(lookB r sto).names++dV sto q:=_root_.id rfl
theorem g9 (sto:List (Nat×Blk)):∀ l:List Nat,(l.flatMap fun r=>(lookB r sto).names)=dV sto l
 | []=>rfl
 | r::q=>by rw[Wy,g9 sto q,i7]
theorem L8 (m0:Nat)(sto:List (Nat×Blk))(acc:List Nat):gI m0 sto 0 acc=acc:=_root_.id rfl
theorem L7 (m0:Nat)(sto:List (Nat×Blk))(k:Nat)(acc:List Nat):gI m0 sto (k+1) acc=gI m0 sto k (bF acc (geN m0 (dV sto acc))):=by
 rw[<- Ec,<- g9];rfl
def fa (e:List (Nat×AV)):List Nat->List Nat
 | []=>[]
 | k::r=>(look k e).names++fa e r
theorem rE (e:List (Nat×AV)):fa e []=[]:=_root_.id rfl
theorem pr (e:List (Nat×AV))(k:Nat)(r:List Nat):fa e (k::r)=(look k e).names++fa e r:=_root_.id rfl
theorem mG (e:List (Nat×AV))(σ:List (Nat×Blk))(n:Nat):∀ l:List Nat,(l.flatMap fun i=>((⟨e,σ,n⟩:St).E i).names)=fa e l
 | []=>rfl
 | k::r=>by rw[Wy,mG e σ n r];rfl
def B3:Nat->Nat->List Nat
 | 0,_=>[]
 | n+1,k=>k::B3 n (k+1)
theorem SE (k:Nat):B3 0 k=[]:=_root_.id rfl
theorem PC (n k:Nat):B3 (n+1) k=k::B3 n (k+1):=_root_.id rfl
theorem B2:∀ n k:Nat,B3 n k=List.range' k n
 | 0,k=>rfl
 | n+1,k=>by rw[PC,B2 n,List.range'_succ]
theorem J4 (n:Nat):List.range n=B3 n 0:=by rw[B2,List.range_eq_range']
theorem Mv (m0:Nat)(keep:List Nat)(e:List (Nat×AV))(σ:List (Nat×Blk))(n:Nat):PU m0 keep ⟨e,σ,n⟩=gI m0 σ σ.length (bF [] (geN m0 (fa e keep++dV σ (B3 m0 0)))):=by
 rw[<- Ec,<- mG e σ n,<- g9,<- J4];rfl
def qT (f:Nat->Option Nat)(e:List (Nat×AV)):List Nat->List (Nat×AV)
 | []=>[]
 | k::r=>(k,(look k e).ren f)::qT f e r
theorem Dg (f:Nat->Option Nat)(e:List (Nat×AV)):qT f e []=[]:=_root_.id rfl
theorem yG (f:Nat->Option Nat)(e:List (Nat×AV))(k:Nat)(r:List Nat):qT f e (k::r)=(k,(look k e).ren f)::qT f e r:=_root_.id rfl
def Df (m0:Nat)(keep:List Nat)(e:List (Nat×AV))(σ:List (Nat×Blk))(os:List Nat):St:=⟨qT (d8 m0 os) e keep,fi m0 (d8 m0 os) σ (B3 m0 0++os) 0,m0+os.length⟩
theorem MA (m0:Nat)(keep:List Nat)(e:List (Nat×AV))(σ:List (Nat×Blk))(n:Nat):norm m0 keep ⟨e,σ,n⟩=Df m0 keep e σ (gI m0 σ σ.length (bF [] (geN m0 (fa e keep++dV σ (B3 m0 0))))):=by
 rw[<- Mv m0 keep e σ n]
 have hE:∀ (f:Nat->Option Nat) (l:List Nat),(l.map fun i=>(i,((⟨e,σ,n⟩:St).E i).ren f))=qT f e l:=by
  intro f l
  induction l with
  | nil=>rfl
  | cons k r ih=>rw[VG,ih];rfl
 simp only[norm,Df,hE,J4]
theorem MC (m0:Nat)(keep:List Nat)(e:List (Nat×AV))(σ:List (Nat×Blk))(x:Nat)(r:List Nat):Df m0 keep e σ (x::r)=⟨qT (d8 m0 (x::r)) e keep,fi m0 (d8 m0 (x::r)) σ (B3 m0 0++(x::r)) 0,m0+(x::r).length⟩:=_root_.id rfl
theorem MB (m0:Nat)(keep:List Nat)(e:List (Nat×AV))(σ:List (Nat×Blk)):Df m0 keep e σ []=⟨qT (d8 m0 []) e keep,fi m0 (d8 m0 []) σ (B3 m0 0) 0,m0⟩:=by
 simp only[Df,VZ];rfl
theorem xT (m0:Nat)(f:Nat->Option Nat)(σ:List (Nat×Blk))(k:Nat):fi m0 f σ [] k=[]:=_root_.id rfl
theorem sN (m0:Nat)(f:Nat->Option Nat)(σ:List (Nat×Blk))(r:Nat)(q:List Nat)(k:Nat):fi m0 f σ (r::q) k=(k,(lookB r σ).ren f)::fi m0 f σ q (k+1):=_root_.id rfl
theorem yK (m0:Nat)(os:List Nat)(r:Nat):d8 m0 os r=if r<m0 then some r else Kl r os m0:=_root_.id rfl
theorem DY (x y:Nat)(r:List Nat)(k:Nat):Kl x (y::r) k=if y=x then some k else Kl x r (k+1):=_root_.id rfl
def SH (o:Nat):Option Nat->AV
 | some q=>.ptr q o
 | none=>.any
def SF (a b c:Nat):Option Nat->AV
 | some q=>.row q a b c
 | none=>.any
def SI (a:Nat)(l:List PV):Option Nat->AV
 | some q=>.olist q a l
 | none=>.pv (.list l)
theorem J7 (f:Nat->Option Nat)(p:PV):(AV.pv p).ren f = .pv p:=by simp only[AV.ren]
theorem L4 (f:Nat->Option Nat):AV.any.ren f = .any:=by simp only[AV.ren]
theorem L2 (f:Nat->Option Nat)(r o:Nat):(AV.ptr r o).ren f=SH o (f r):=by simp only[AV.ren,SH]<;>(cases f r<;>rfl)
theorem L1 (f:Nat->Option Nat)(r a b c:Nat):(AV.row r a b c).ren f=SF a b c (f r):=by simp only[AV.ren,SF]<;>(cases f r<;>rfl)
theorem PI (f:Nat->Option Nat)(r a:Nat)(l:List PV):(AV.olist r a l).ren f=SI a l (f r):=by simp only[AV.ren,SI]<;>(cases f r<;>rfl)
theorem L3 (f:Nat->Option Nat)(g:Nat)(fs cs:List AV):(AV.clo g fs cs).ren f = .clo g (AV.renL f fs) (AV.renL f cs):=by simp only[AV.ren]
theorem B9 (o q:Nat):SH o (some q) = .ptr q o:=_root_.id rfl
theorem B8 (a b c q:Nat):SF a b c (some q) = .row q a b c:=_root_.id rfl
theorem Ca (a:Nat)(l:List PV)(q:Nat):SI a l (some q) = .olist q a l:=_root_.id rfl
theorem G0 (f:Nat->Option Nat):AV.renL f []=[]:=_root_.id rfl
theorem qp (f:Nat->Option Nat)(x:AV)(r:List AV):AV.renL f (x::r)=x.ren f::AV.renL f r:=by simp only[AV.renL]
theorem sO (f:Nat->Option Nat):∀ l:List PV,AV.renL f (l.map .pv)=l.map .pv
 | []=>rfl
 | x::r=>by rw[VG,qp,sO f r,J7]
theorem Cb (f:Nat->Option Nat)(l:List PV):AV.renL f (bC l)=bC l:=sO f _
theorem xU (f:Nat->Option Nat)(T:Nat)(b:Bool)(l:List AV):(Blk.cells T b l).ren f = .cells T b (AV.renL f l):=_root_.id rfl
theorem G1 (f:Nat->Option Nat)(e s:Nat):(Blk.tok e s).ren f = .tok e s:=_root_.id rfl
theorem Cc (f:Nat->Option Nat):Blk.none.ren f = .none:=_root_.id rfl
theorem HU (A:List (Nat×Nat×Nat×Nat))(m0:Nat)(keep:List Nat)(s:St):cR A m0 keep s=norm m0 keep (JC A s):=_root_.id rfl
theorem JB (s:St):JC [] s=s:=_root_.id rfl
theorem FD (k e sz:Nat)(r:List (Nat×Nat×Nat×Nat))(env:List (Nat×AV))(σ:List (Nat×Blk))(n:Nat):JC ((k,0,e,sz)::r) ⟨env,σ,n⟩=JC r (OD k e sz ⟨env,σ,n⟩ (look k env)):=_root_.id rfl
theorem FE (k j e sz:Nat)(r:List (Nat×Nat×Nat×Nat))(env:List (Nat×AV))(σ:List (Nat×Blk))(n:Nat):JC ((k,j+1,e,sz)::r) ⟨env,σ,n⟩=JC r (accP j e sz ⟨env,σ,n⟩ (look k env)):=_root_.id rfl
theorem FH (k e sz:Nat)(env:List (Nat×AV))(σ:List (Nat×Blk))(n:Nat):OD k e sz ⟨env,σ,n⟩ (.pv .nils)=⟨(k,jy n e sz)::env,(n,de e sz)::σ,n+1⟩:=_root_.id rfl
theorem ME {n e sz:Nat}(h:e<1000000):jy n e sz = .olist n sz []:=if_pos h
theorem MD {n e sz:Nat}(h:1000000<=e):jy n e sz = .row n sz 0 0:=if_neg (Nat.not_lt.2 h)
theorem HX {e sz:Nat}(h:e<1000000):de e sz = .tok e sz:=if_pos h
theorem HW {e sz:Nat}(h:1000000<=e):de e sz = .cells (e - 1000000) false []:=if_neg (Nat.not_lt.2 h)
theorem N4 (k e sz r a:Nat)(l:List PV)(s:St):OD k e sz s (.olist r a l)=s:=_root_.id rfl
theorem JE (o e sz r b:Nat)(env:List (Nat×AV))(σ:List (Nat×Blk))(n:Nat):accP o e sz ⟨env,σ,n⟩ (.ptr r b)=accB r (b+o) e sz ⟨env,σ,n⟩ (lookB r σ):=_root_.id rfl
theorem AI (r o e sz T:Nat)(f:Bool)(l:List AV)(s:St):accB r o e sz s (.cells T f l)=OC r T f l o e sz s l[o]?:=_root_.id rfl
theorem FG (r T:Nat)(f:Bool)(l:List AV)(o e sz:Nat)(env:List (Nat×AV))(σ:List (Nat×Blk))(n:Nat):OC r T f l o e sz ⟨env,σ,n⟩ (some (.pv .nils))=⟨env,(r,.cells T f (l.set o (jy n e sz)))::(n,de e sz)::σ,n+1⟩:=_root_.id rfl
theorem JF (r T:Nat)(f:Bool)(l:List AV)(o e sz:Nat)(s:St)(q a b c:Nat):OC r T f l o e sz s (some (.row q a b c))=s:=_root_.id rfl
theorem N3 (r T:Nat)(f:Bool)(l:List AV)(o e sz:Nat)(s:St)(q a:Nat)(k:List PV):OC r T f l o e sz s (some (.olist q a k))=s:=_root_.id rfl
theorem UN {α:Type}(x y:α)(r:List α):(x::r).set 0 y=y::r:=_root_.id rfl
theorem UM {α:Type}(x y:α)(r:List α)(n:Nat):(x::r).set (n+1) y=x::r.set n y:=_root_.id rfl
theorem Sq (e e':List (Nat×AV))(σ σ':List (Nat×Blk))(n n':Nat):(St.mk e σ n=St.mk e' σ' n')=(e=e'/\σ=σ'/\n=n'):=by rw[St.mk.injEq]
theorem QH {a b:Nat}(h:a<b):decide (a<b)=true:=decide_eq_true h
theorem QI {a b:Nat}(h:¬ a<b):decide (a<b)=false:=decide_eq_false h
theorem QJ {a b:Nat}(h:a<=b):decide (a<=b)=true:=decide_eq_true h
theorem QK {a b:Nat}(h:¬ a<=b):decide (a<=b)=false:=decide_eq_false h
theorem aD {α:Type}{l:List α}{m:Nat}{x:α}(h:l[m]? = some x):l.take (m+1)=l.take m++[x]:=by
 obtain⟨h1,h2⟩:=Vh.1 h
 rw[List.take_succ_eq_append_getElem h1,h2]
def Qo (cells:List AV)(off sz:Nat)(r:List (Nat×Nat×AV))(xc:List AV):Bool->Option (List AV)
 | true=>g8 (cells.take off++xc++cells.drop (off+sz)) r
 | false=>none
theorem Nj (cells:List AV)(off sz:Nat)(r:List (Nat×Nat×AV))(xc:List AV):Qo cells off sz r xc true=g8 (cells.take off++xc++cells.drop (off+sz)) r:=_root_.id rfl
theorem Eu (cells:List AV):g8 cells []=some cells:=_root_.id rfl
theorem zx (cells:List AV)(off sz:Nat)(x:AV)(r:List (Nat×Nat×AV)):g8 cells ((off,sz,x)::r)=Qo cells off sz r x.cells (x.known&&decide (x.cells.length=sz)&&decide (off+sz<=cells.length)):=by
 simp only[g8]
 by_cases h:x.known=true/\x.cells.length=sz/\off+sz<=cells.length
 ·rw[if_pos h,h.1,decide_eq_true h.2.1,decide_eq_true h.2.2];rfl
 ·rw[if_neg h]
  have:(x.known&&decide (x.cells.length=sz)&&decide (off+sz<=cells.length))=false:=by
   rw[Bool.eq_false_iff]
   intro hh
   simp only[Vr,decide_eq_true_eq] at hh
   exact h ⟨hh.1.1,hh.1.2,hh.2⟩
  rw[this];rfl
theorem HF (sz off:Nat)(cs:List AV):Mo sz off cs=if off+sz<=cs.length then some (kb ((cs.drop off).take sz)) else none:=_root_.id rfl
section
variable {P:Program}{G:Nat->List PV}
def wZ {ι:Type}(A:List (Nat×Nat×Nat×Nat))(S:ι->St)(Inv:ι->Prop)(μ:ι->Nat)(x:ι)(m0:Nat)(keep:List Nat)(id:Nat)(keepX:List Nat)(fin:ι->Prop)(Q:AExit->St->Prop):AExit->St->Prop
 | .norm,s'=>∃ x',Hd A m0 keep s' (S x')/\Inv x'/\μ x'<μ x
 | .exit i,s'=>if i=id then ∃ x',fin x'/\norm m0 keepX s'=norm m0 keepX (S x') else Q (.exit i) s'
 | .ret,s'=>Q .ret s'
theorem ut {ι:Type}(A:List (Nat×Nat×Nat×Nat))(S:ι->St)(Inv:ι->Prop)(μ:ι->Nat)(x:ι)(m0:Nat)(keep:List Nat)(id:Nat)(keepX:List Nat)(fin:ι->Prop)(Q:AExit->St->Prop)(s:St):wZ A S Inv μ x m0 keep id keepX fin Q .norm s = ∃ x',Hd A m0 keep s (S x')/\Inv x'/\μ x'<μ x:=_root_.id rfl
theorem uu {ι:Type}(A:List (Nat×Nat×Nat×Nat))(S:ι->St)(Inv:ι->Prop)(μ:ι->Nat)(x:ι)(m0:Nat)(keep:List Nat)(id:Nat)(keepX:List Nat)(fin:ι->Prop)(Q:AExit->St->Prop)(i:Nat)(s:St):wZ A S Inv μ x m0 keep id keepX fin Q (.exit i) s=if i=id then (∃ x',fin x'/\norm m0 keepX s=norm m0 keepX (S x')) else Q (.exit i) s:=_root_.id rfl
theorem gP {ι:Type}(A:List (Nat×Nat×Nat×Nat))(ch:ι->List (Nat×AV))(chB:ι->List (Nat×Blk))(Inv:ι->Prop)(μ:ι->Nat)(x0:ι)(keepX:List Nat)(fin:ι->Prop){m0 id:Nat}{keep:List Nat}{b:ACode}{F:St->Prop}{Q:AExit->St->Prop}{s:St}
  (h:∀ e0 σ0 n0,cR A m0 keep s=⟨e0,σ0,n0⟩->StZ ⟨e0,σ0,n0⟩ ⟨ew e0 (ch x0),fw σ0 (chB x0),n0⟩/\Inv x0 /\
   (∀ x,Inv x->vc P G m0 b (wZ A (fun x=>⟨ew e0 (ch x),fw σ0 (chB x),n0⟩) Inv μ x m0 keep id keepX fin Q) ⟨ew e0 (ch x),fw σ0 (chB x),n0⟩) /\
   ∀ x,fin x->∀ s1,norm m0 keepX ⟨ew e0 (ch x),fw σ0 (chB x),n0⟩=s1->F s1):vc P G m0 (.loop keep b) (eJ id (FK F Q)) s:=by
 obtain⟨h1,h2,h3,h4⟩:=h (cR A m0 keep s).env (cR A m0 keep s).sto (cR A m0 keep s).next rfl
 refine⟨fun n s'=>∃ x,s'=⟨ew (cR A m0 keep s).env (ch x),fw (cR A m0 keep s).sto (chB x),(cR A m0 keep s).next⟩/\Inv x/\μ x=n,⟨μ x0,_,Wk.head (A:=A) (keep:=keep) h1,x0,rfl,h2,rfl⟩,?_⟩
 rintro n s' ⟨x,rfl,hx,rfl⟩
 refine cC b (fun e s' hs=>?_) _ (h3 x hx)
 cases e with
 | norm=>
   obtain⟨x',k1,k2,k3⟩:=hs
   exact⟨_,_,k3,k1,x',rfl,k2,rfl⟩
 | exit i=>
   simp only[wZ] at hs
   split at hs
   ·rename_i hi
    obtain⟨x',k1,k2⟩:=hs
    refine⟨norm m0 keepX s',Wk.norm m0 keepX s',?_⟩
    simp only[eJ,if_pos hi,FK]
    exact h4 x' k1 _ k2.symm
   ·rename_i hi
    refine⟨s',Wk.of (Wx.refl s') m0,?_⟩
    simp only[eJ,if_neg hi,FK]
    exact hs
 | ret=>exact hs
end
def Kap.cut (κ:Kap)(k:Nat):Kap:=⟨κ.w,fun r=>if r<k then κ.nm r else none,κ.imm⟩
theorem Kap.cut_ext (κ:Kap)(k:Nat):Ext (κ.cut k) κ:=by
 refine⟨fun _ _ h=>h,fun _ _ _ _ h=>h,fun r d h=>?_,fun _ _ h _=>h⟩
 simp only[Kap.cut] at h
 split at h
 ·exact h
 ·cases h
theorem Kap.cut_none (κ:Kap)(k r:Nat)(h:k<=r):(κ.cut k).nm r=none:=by simp only[Kap.cut];rw[if_neg (by omega)]
def r8 (P:Program)(G:Nat->List PV)(k:Nat)(f:Nat)(args:List AV)(sto:List (Nat×Blk))(next:Nat)(Q:AV->List (Nat×Blk)->Nat->Prop):Prop:=
 b9 P f=true/\∀ (κ:Kap) (vals:Array Value),SRel (cr κ (fun r=>lookB r sto) G) κ (fun r=>lookB r sto)->(∀ r,next<=r->κ.nm r=none)->vals.size=args.length ->
  (∀ (i:Nat) (x:AV),args[i]? = some x->ARel κ x (vals.getD i Go.undef)) ->
  Calls P f vals κ.w fun e w'=>∃ u v κ' sto' next',e = .returned u/\κ'.w=w'/\Ext (κ.cut k) κ'/\Left (cr κ (fun r=>lookB r sto) G) κ.imm κ'/\ARel κ' v u /\
   SRel (cr κ (fun r=>lookB r sto) G) κ' (fun r=>lookB r sto')/\(∀ r,next'<=r->κ'.nm r=none)/\Q v sto' next'
section
variable {P:Program}{G:Nat->List PV}
theorem r8.of_code {muts:List Nat}{k f:Nat}{fn:AFn}{args:List AV}{sto:List (Nat×Blk)}{next:Nat}{R:AV->List (Nat×Blk)->Nat->Prop}(hc:cFn P muts f=some fn)(hn:args.length<=fn.N)
  (hv:vc P G k fn.body (FnK G fn.res R) ⟨dB args,sto,next⟩):r8 P G k f args sto next R:=by
 unfold cFn at hc
 split at hc
 ·rename_i fnc hfn
  split at hc
  ·rename_i co hco
   split at hc
   ·rename_i rs hrs
    split at hc
    ·rename_i hok
     split at hc
     ·rename_i b li hb
      cases hc
      refine⟨hok,fun κ vals hS hf hsz hargs=>?_⟩
      refine callsIn_wide.1 (callsIn_of_wp_marks (n:=0) hfn hco trivial ?_ rfl)
      let c:=cr κ (fun r=>lookB r sto) G
      have hsize:(vals++Wf (fnc.ntmps - vals.size) Go.undef).size=fnc.ntmps:=by
       simp only at hn
       simp only[Array.size_append,Array.size_replicate];omega
      have hR:Rel c (κ.cut k) fnc.ntmps ⟨dB args,sto,next⟩ ⟨vals++Wf (fnc.ntmps - vals.size) Go.undef,[]⟩ κ.w κ:=by
       refine⟨rfl,κ.cut_ext k,hS,⟨rfl,rfl,rfl,Vw _,fun _ _ _=>rfl,fun _ _ h=>.inl h⟩,fun i=>?_,hsize,dF.nil _ _,hf⟩
       show ARel κ (look i ((args.zipIdx 0).map fun p=>(p.2,p.1))) _
       rw[mc,if_pos (Wv _),Nat.sub_zero]
       cases hx:args[i]? with
       | none=>exact .any _
       | some x=>
         have hi:i<vals.size:=by rw[hsz];exact (Vh.1 hx).1
         have:=hargs i x hx
         have e:(vals++Wf (fnc.ntmps - vals.size) Go.undef).getD i Go.undef=vals.getD i Go.undef:=by
          simp only[Vn]
          rw[Array.getElem?_append_left hi]
         rw[e];exact this
      refine Go.wpIn_mono (uG (P:=P) (N:=fnc.ntmps) co c (κ.cut k) k none 0 b [] (jr rs) li (FnK G rs R) _ _ κ.w κ (.inl rfl) (fun r hr=>κ.cut_none k r hr) (Vw _) hb hR hv) ?_
      have fin:∀ (s:St) (κ':Kap) (a:Act) (w:World),Rel c (κ.cut k) fnc.ntmps s a w κ'->aL (fG G s rs) (J5 R s)->∃ v,(results fnc a.tmps).run P w = .ok v w /\
        ∃ u v' κ'' sto' next',Ending.returned v = .returned u/\κ''.w=w/\Ext (κ.cut k) κ''/\Left c κ.imm κ''/\ARel κ'' v' u/\SRel c κ'' (fun r=>lookB r sto')/\(∀ r,next'<=r->κ''.nm r=none)/\R v' sto' next':=by
       intro s κ' a w hR hF
       simp only[aL] at hF
       split at hF
       ·rename_i vs hvs
        obtain⟨us,h1,h2,h3⟩:=lz (P:=P) hR fnc.results.toList rs vs hrs hvs
        have hrun:(results fnc a.tmps).run P w = .ok (if h:us.toArray.size=1 then us.toArray[0] else .tuple us.toArray) w:=by
         rw[nK,Sem.run_bind,Array.mapM_eq_mapM_toList]
         simp only[Sem.run_bind,Sem.run_map]
         rw[h1]
         simp
        refine⟨_,hrun,_,AN vs,κ',s.sto,s.next,rfl,hR.w_eq,hR.ext0,hR.left,?_,hR.rel,hR.fresh,hF⟩
        by_cases hl:vs.length=1
        ·obtain⟨v,rfl⟩:=List.length_eq_one_iff.1 hl
         obtain⟨u,rfl⟩:=List.length_eq_one_iff.1 (h2.trans hl)
         have:=h3 0 v rfl
         exact this
        ·have hul:¬ us.toArray.size=1:=by simpa[h2] using hl
         rw[dif_neg hul]
         have hrv:AN vs=qW vs:=by
          unfold AN
          split
          ·simp at hl
          ·rfl
         rw[hrv]
         exact qV (.tup _ _ (by simpa using h2) (fun i x hx=>by rw[aF];simpa using h3 i x hx))
       ·exact hF.elim
      intro e a w hq
      cases e with
      | normal=>
        obtain⟨s,κ',hR,hF⟩:=hq
        exact iL (Vw _) rfl hR fun w' κ'' hR'=>fin s κ'' ⟨a.tmps,[]⟩ w' hR' hF
      | ret=>
        obtain⟨s,κ',hR,hF⟩:=hq
        exact iL (Vw _) rfl hR fun w' κ'' hR'=>fin s κ'' ⟨a.tmps,[]⟩ w' hR' hF
      | exit id=>
        obtain⟨s,κ',hR,hF⟩:=hq
        exact hF.elim
      | goto l=>exact hq.elim
      | panic ch=>exact hq.elim
      | outgrown=>exact hq.elim
     ·cases hc
    ·cases hc
   ·cases hc
  ·cases hc
 ·cases hc
def cf:List Blk->Nat->List (Nat×Blk)
 | [],_=>[]
 | b::r,k=>(k,b)::cf r (k+1)
theorem nV:∀ (bs:List Blk) (k i:Nat),lookB i (cf bs k)=if k<=i then bs.getD (i - k) .none else .none
 | [],k,i=>by simp[cf,lookB]
 | b::r,k,i=>by
   simp only[cf,lookB]
   by_cases h:k=i
   ·subst h;simp
   ·rw[if_neg h,nV r (k+1) i]
    by_cases hk:k<=i
    ·rw[if_pos (by omega),if_pos hk,show i - k=(i - (k+1))+1 by omega];simp
    ·rw[if_neg (by omega),if_neg hk]
theorem gX (bs:List Blk):(fun r=>lookB r (cf bs 0))=fun r=>bs.getD r .none:=by
 funext r;rw[nV];simp
def bk (P:Program)(G:Nat->List PV)(k f:Nat)(args:List AV)(bs:List Blk)(v:AV)(bs':List Blk):Prop:=
 r8 P G k f args (cf bs 0) bs.length fun v' sto' next'=>v'=v/\sto'=cf bs' 0/\next'=bs'.length
def MU (k:Nat)(v:AV)(bs':List Blk)(v':AV)(sto':List (Nat×Blk))(next':Nat):Prop:=
 Wk k ⟨[(0,v')],sto',next'⟩ ⟨[(0,v)],cf bs' 0,bs'.length⟩
theorem bk.of_lcalls {k f:Nat}{args:List AV}{bs:List Blk}{v:AV}{bs':List Blk}(h:r8 P G k f args (cf bs 0) bs.length (MU k v bs')):bk P G k f args bs v bs':=by
 obtain⟨hcal,h⟩:=h
 refine⟨hcal,fun κ vals hS hf hsz hargs=>(h κ vals hS hf hsz hargs).mono ?_⟩
 rintro e w' ⟨u,v',κ',sto',next',rfl,rfl,he,hL,hv,hS',hf',hw⟩
 obtain⟨κ'',hR⟩:=hw _ (κ.cut k) κ' 1 ⟨#[u],[]⟩ κ'.w (fun r hr=>κ.cut_none k r hr) ⟨rfl,he,hS',hL,fun i=>by
  show ARel κ' (look i [(0,v')]) _
  by_cases hi:0=i
  ·subst hi;simpa[look] using hv
  ·simp only[look,if_neg hi];exact .any _,rfl,dF.nil _ _,hf'⟩
 refine⟨u,v,κ'',_,_,rfl,hR.w_eq,hR.ext0,hR.left,?_,hR.rel,hR.fresh,rfl,rfl,rfl⟩
 have:=hR.env 0
 simpa[St.E,look] using this
theorem bk.intro {muts:List Nat}{k f:Nat}{fn:AFn}{args:List AV}{bs:List Blk}{v:AV}{bs':List Blk}(hc:cFn P muts f=some fn)(hn:args.length<=fn.N)
  (hv:vc P G k fn.body (FnK G fn.res (MU k v bs')) ⟨dB args,cf bs 0,bs.length⟩):bk P G k f args bs v bs':=
 bk.of_lcalls (r8.of_code hc hn hv)
def gIn (next:Nat):List Nat->Nat->Nat
 | [],i=>next+i
 | r::_,0=>r
 | _::q,i+1=>gIn next q i
def gSo (next:Nat)(rs:List Nat)(r:Nat):Option Nat:=some (gIn next rs r)
theorem my (next:Nat):∀ (rs:List Nat) (i:Nat) (r:Nat),rs[i]? = some r->gIn next rs i=r
 | [],i,r,h=>by simp at h
 | x::q,0,r,h=>by simpa[gIn] using h
 | x::q,i+1,r,h=>by simpa[gIn] using my next q i r (by simpa using h)
theorem nZ (next:Nat):∀ (rs:List Nat) (i:Nat),rs.length<=i->gIn next rs i=next+(i - rs.length)
 | [],i,h=>by simp[gIn]
 | x::q,0,h=>by simp at h
 | x::q,i+1,h=>by
   simp only[Vq] at h
   rw[gIn,nZ next q i (by omega)]
   simp
mutual
theorem unren {κ κ':Kap}(hw:κ'.w=κ.w)(hi:κ'.imm=κ.imm){g:Nat->Nat}(hf:∀ r,κ'.nm r=κ.nm (g r)):∀ (x:AV) (v:Value),ARel κ (x.ren fun r=>some (g r)) v->ARel κ' x v
 | .pv p,v,h=>by
   simp only[AV.ren] at h
   cases h with
   | pv _ _ hp=>exact .pv _ _ (by rw[hw,hi];exact hp)
 | .any,v,h=>.any v
 | .ptr r o,v,h=>by
   simp only[AV.ren] at h
   cases h with
   | ptr _ _ b n hn=>exact .ptr _ _ b n (by rw[hf r];exact hn)
 | .row r a b c,v,h=>by
   simp only[AV.ren] at h
   cases h with
   | row _ _ _ _ bb n cap hn h1 h2 h3 h4=>exact .row _ _ _ _ bb n cap (by rw[hf r];exact hn) h1 h2 h3 h4
   | row0 _ _ hn=>exact .row0 _ _ (by rw[hf r];exact hn)
 | .olist r a l,v,h=>by
   simp only[AV.ren] at h
   cases h with
   | olist _ _ _ _ hn hp hs=>exact .olist _ _ _ _ (by rw[hf r];exact hn) (by rw[hw,hi];exact hp) hs
 | .agg cs,v,h=>by
   simp only[AV.ren] at h
   cases h with
   | agg _ vs hl hr=>
     obtain⟨h1,h2⟩:=kY hw hi hf cs vs hr
     exact .agg _ _ (by rw[<- h1];exact hl) h2
 | .tup cs,v,h=>by
   simp only[AV.ren] at h
   cases h with
   | tup _ vs hl hr=>
     obtain⟨h1,h2⟩:=kY hw hi hf cs vs hr
     exact .tup _ _ (by rw[<- h1];exact hl) h2
 | .clo g fs cs,v,h=>by
   simp only[AV.ren] at h
   cases h with
   | clo _ _ _ vs us hl hr hl' hr'=>
     obtain⟨h1,h2⟩:=kY hw hi hf fs vs hr
     obtain⟨h3,h4⟩:=kY hw hi hf cs us hr'
     exact .clo _ _ _ _ _ (by rw[<- h1];exact hl) h2 (by rw[<- h3];exact hl') h4
theorem kY {κ κ':Kap}(hw:κ'.w=κ.w)(hi:κ'.imm=κ.imm){g:Nat->Nat}(hf:∀ r,κ'.nm r=κ.nm (g r)):∀ (xs:List AV) (vs:Array Value),
  (∀ (i:Nat) (x:AV),(AV.renL (fun r=>some (g r)) xs)[i]? = some x->ARel κ x (vs.getD i Go.undef))->(AV.renL (fun r=>some (g r)) xs).length=xs.length/\∀ (i:Nat) (x:AV),xs[i]? = some x->ARel κ' x (vs.getD i Go.undef)
 | [],vs,h=>by simp[AV.renL]
 | x::r,vs,h=>by
   have e:∀ i,(vs.extract 1 vs.size).getD i Go.undef=vs.getD (i+1) Go.undef:=by
    intro i
    simp only[Vn,Array.getElem?_extract]
    by_cases hh:i<min vs.size vs.size - 1
    ·rw[if_pos hh];congr 2;omega
    ·rw[if_neg hh,Array.getElem?_eq_none (by omega)]
   obtain⟨h1,h2⟩:=kY hw hi hf r (vs.extract 1 vs.size) (fun i y hy=>by
    have:=h (i+1) y (by simpa[AV.renL] using hy)
    rw[e];exact this)
   refine⟨by simp[AV.renL,h1],fun i y hy=>?_⟩
   cases i with
   | zero=>
     simp only[VP,Vj] at hy
     subst hy
     exact unren hw hi hf x _ (h 0 _ (by simp[AV.renL]))
   | succ i=>
     simp only[List.getElem?_cons_succ] at hy
     have:=h2 i y hy
     rw[e] at this;exact this
end
theorem fe.unren {κ κ':Kap}(hw:κ'.w=κ.w)(hi:κ'.imm=κ.imm){g:Nat->Nat}(hf:∀ r,κ'.nm r=κ.nm (g r)){r:Nat}{B:Blk}(h:fe κ (g r) (B.ren fun r=>some (g r))):fe κ' r B:=by
 cases B with
 | none=>trivial
 | cells T f l=>
   simp only[Blk.ren] at h
   rcases h with ⟨h1,h2,h3⟩ | ⟨b,n,cs,h1,h2,h3,h4,h5,h6,h7⟩
   ·refine .inl ⟨h1,?_,by rw[hf];exact h3⟩
    cases l with
    | nil=>rfl
    | cons x r=>simp[AV.renL] at h2
   ·obtain⟨q1,q2⟩:=kY hw hi hf l cs h6
    exact .inr ⟨b,n,cs,by rw[hf];exact h1,by rw[hw];exact h2,h3,by rw[<- q1];exact h4,fun hb=>by rw[<- q1];exact h5 hb,q2,by rw[hi];exact h7⟩
 | tok e sz=>
   simp only[Blk.ren] at h
   rcases h with h | ⟨g',n,cap,cur,h1,h2,h3⟩
   ·exact .inl (by rw[hf];exact h)
   ·exact .inr ⟨g',n,cap,cur,by rw[hf];exact h1,by rw[hw];exact h2,by rw[hi];exact h3⟩
 | bts e l=>
   obtain⟨b,n,cs,fz,h1,h2⟩:=h
   exact⟨b,n,cs,fz,by rw[hf];exact h1,by rw[hw,hi];exact h2⟩
theorem fe.ren {κ κ':Kap}(hw:κ'.w=κ.w)(hi:κ'.imm=κ.imm){g:Nat->Nat}(hf:∀ r,κ'.nm (g r)=κ.nm r){r:Nat}{B:Blk}(h:fe κ r B):fe κ' (g r) (B.ren fun r=>some (g r)):=by
 have hf':∀ r r',(fun r=>some (g r)) r=some r'->κ'.nm r'=κ.nm r:=fun r r' h=>by cases h;exact hf r
 cases B with
 | none=>trivial
 | cells T f l=>
   simp only[Blk.ren]
   rcases h with ⟨h1,h2,h3⟩ | ⟨b,n,cs,h1,h2,h3,h4,h5,h6,h7⟩
   ·exact .inl ⟨h1,by rw[h2];simp only[AV.renL],by rw[hf];exact h3⟩
   ·obtain⟨q1,q2⟩:=eR hw hi hf' l cs h6
    exact .inr ⟨b,n,cs,by rw[hf];exact h1,by rw[hw];exact h2,h3,by rw[q1];exact h4,fun hb=>by rw[q1];exact h5 hb,q2,by rw[hi];exact h7⟩
 | tok e sz=>
   simp only[Blk.ren]
   rcases h with h | ⟨g',n,cap,cur,h1,h2,h3⟩
   ·exact .inl (by rw[hf];exact h)
   ·exact .inr ⟨g',n,cap,cur,by rw[hf];exact h1,by rw[hw];exact h2,by rw[hi];exact h3⟩
 | bts e l=>
   obtain⟨b,n,cs,fz,h1,h2⟩:=h
   exact⟨b,n,cs,fz,by rw[hf];exact h1,by rw[hw,hi];exact h2⟩
def pH (f:Nat->Option Nat):List Blk->Nat->(Nat->Nat)->List (Nat×Blk)
 | [],_,_=>[]
 | b::r,i,g=>(g i,b.ren f)::pH f r (i+1) g
def fx:List Nat->List (Nat×Blk)
 | []=>[]
 | r::q=>(r,.none)::fx q
def gN (sto:List (Nat×Blk))(f:Nat->Option Nat):List Nat->List Blk->Prop
 | [],[]=>True
 | r::rs,b::bs=>BlkZ (lookB r sto) (b.ren f)/\gN sto f rs bs
 | _,_=>False
theorem gN.get {sto:List (Nat×Blk)}{f:Nat->Option Nat}:∀ {rs:List Nat} {bs:List Blk},gN sto f rs bs->rs.length=bs.length/\∀ (i r:Nat) (b:Blk),rs[i]? = some r->bs[i]? = some b->BlkZ (lookB r sto) (b.ren f)
 | [],[],h=>⟨rfl,by simp⟩
 | r::rs,b::bs,h=>by
   obtain⟨h1,h2⟩:=h
   obtain⟨h3,h4⟩:=gN.get h2
   refine⟨by simp[h3],fun i q d hq hd=>?_⟩
   cases i with
   | zero=>simp at hq hd;subst hq;subst hd;exact h1
   | succ i=>exact h4 i q d (by simpa using hq) (by simpa using hd)
 | [],_::_,h=>h.elim
 | _::_,[],h=>h.elim
end
section
variable {P:Program}{G:Nat->List PV}
theorem fe.named {κ:Kap}{r:Nat}{B:Blk}(h:fe κ r B)(hB:B≠.none):∃ d,κ.nm r=some d:=by
 cases B with
 | none=>exact absurd rfl hB
 | cells T f l=>
   rcases h with ⟨_,_,h⟩ | ⟨b,n,cs,h,_⟩
   ·exact⟨_,h⟩
   ·exact⟨_,h⟩
 | tok e sz=>
   rcases h with h | ⟨g,n,cap,cur,h,_⟩
   ·exact⟨_,h⟩
   ·exact⟨_,h⟩
 | bts e l=>
   obtain⟨b,n,cs,fz,h,_⟩:=h
   exact⟨_,h⟩
theorem U1 {f:Nat->Option Nat}{b:Blk}:b.ren f≠.none↔b≠.none:=by
 cases b<;>simp[Blk.ren]
theorem M4 {next:Nat}{rs:List Nat}(hnd:rs.Nodup)(hlt:∀ r∈rs,r<next){i j:Nat}(h:gIn next rs i=gIn next rs j):i=j:=by
 by_cases hi:i<rs.length
 ·have ei:=my next rs i _ (Vg hi)
  have hi':=hlt _ (List.getElem_mem hi)
  by_cases hj:j<rs.length
  ·have ej:=my next rs j _ (Vg hj)
   rw[ei,ej] at h
   exact (List.getElem_inj hnd).1 h
  ·have ej:=nZ next rs j (by omega)
   omega
 ·have ei:=nZ next rs i (by omega)
  by_cases hj:j<rs.length
  ·have ej:=my next rs j _ (Vg hj)
   have hj':=hlt _ (List.getElem_mem hj)
   omega
  ·have ej:=nZ next rs j (by omega)
   omega
theorem re {f:Nat->Option Nat}{g:Nat->Nat}(hg:∀ i j,g i=g j->i=j)(rest:List (Nat×Blk))(r:Nat):∀ (bs:List Blk) (k:Nat),
  (∀ i b,bs[i]? = some b->g (k+i)=r->lookB r (pH f bs k g++rest)=b.ren f)/\((∀ i,i<bs.length->g (k+i)≠r)->lookB r (pH f bs k g++rest)=lookB r rest)
 | [],k=>⟨by simp,fun _=>rfl⟩
 | b::q,k=>by
   obtain⟨h1,h2⟩:=re hg rest r q (k+1)
   refine⟨fun i b' hi hr=>?_,fun h=>?_⟩
   ·simp only[pH,VF,lookB]
    cases i with
    | zero=>
      simp only[VP,Vj] at hi
      subst hi
      rw[if_pos (by simpa using hr)]
    | succ i=>
      rw[if_neg (fun e=>by have:=hg _ _ (e.trans hr.symm);omega)]
      exact h1 i b' (by simpa using hi) (by rw[<- hr];congr 1;omega)
   ·simp only[pH,VF,lookB]
    rw[if_neg (by have:=h 0 (by simp);simpa using this)]
    exact h2 fun i hi=>by
     have:=h (i+1) (by simp;omega)
     rwa [show k+(i+1)=k+1+i by omega] at this
theorem nU (rest:List (Nat×Blk))(r:Nat):∀ (l:List Nat),lookB r (fx l++rest)=if r∈l then .none else lookB r rest
 | []=>by simp[fx]
 | x::q=>by
   simp only[fx,VF,lookB,nU rest r q,List.mem_cons]
   by_cases h:x=r
   ·subst h;simp
   ·rw[if_neg h]
    by_cases hq:r∈q
    ·simp[hq]
    ·have:¬ (r=x\/r∈q):=by rintro (e | e);exact h e.symm;exact hq e
     rw[if_neg hq,if_neg this]
theorem bk.frame {k f:Nat}{args0:List AV}{bs:List Blk}{v:AV}{bs':List Blk}(h:bk P G k f args0 bs v bs'){rs:List Nat}{args:List AV}{sto:List (Nat×Blk)}{next:Nat}
  (hargs:AVzL args (AV.renL (gSo next rs) args0)) (hbs:gN sto (gSo next rs) rs bs) (hnd:rs.Nodup) (hlt:∀ r∈rs,r<next) (hk:k<=bs.length) (hk':k<=bs'.length) (hne:∀ b∈bs.take k,b≠.none) :
  ct P G f args sto next fun v' sto' next'=>v'=v.ren (gSo next (rs.take k))/\sto'=pH (gSo next (rs.take k)) bs' 0 (gIn next (rs.take k))++(fx (rs.drop k)++sto)/\next'=next+(bs'.length - k):=by
 obtain⟨hcal,h⟩:=h
 refine⟨hcal,fun κ vals hS hf hsz hvals=>?_⟩
 obtain⟨hrl,hat⟩:=hbs.get
 let κ1:Kap:=⟨κ.w,fun i=>κ.nm (gIn next rs i),κ.imm⟩
 have hσ1:(fun r=>lookB r (cf bs 0))=fun r=>bs.getD r .none:=gX bs
 have hlook:∀ i b,bs[i]? = some b->∃ r,rs[i]? = some r/\gIn next rs i=r/\fe κ r (b.ren (gSo next rs))/\(b≠.none->lookB r sto≠.none):=by
  intro i b hb
  have hi:i<rs.length:=by rw[hrl];exact (Vh.1 hb).1
  have hr:=Vg hi
  obtain⟨q1,q2⟩:=(hat i _ b hr hb).rel (hS.blk rs[i])
  exact⟨rs[i],hr,my next rs i _ hr,q1,fun hb'=>q2 (U1.2 hb')⟩
 have hlive:∀ i,bs.getD i .none≠.none->∃ b,bs[i]? = some b/\b≠.none:=by
  intro i hi
  rw[Vm] at hi
  cases hb:bs[i]? with
  | none=>rw[hb] at hi;exact absurd rfl hi
  | some b=>rw[hb] at hi;exact⟨b,rfl,hi⟩
 have hB1:∀ i b,bs[i]? = some b->fe κ1 i b:=by
  intro i b hb
  obtain⟨r,hr,hgr,hB,_⟩:=hlook i b hb
  exact fe.unren (κ:=κ) (κ':=κ1) rfl rfl (g:=gIn next rs) (fun _=>rfl) (by rw[hgr];exact hB)
 have hl1:∀ b,(cr κ1 (fun r=>lookB r (cf bs 0)) G).lent b->(cr κ (fun r=>lookB r sto) G).lent b:=by
  rintro b ⟨i,d,h1,h2,h3⟩
  simp only[congrFun hσ1 i] at h1
  obtain⟨b',hb,hbn⟩:=hlive i h1
  obtain⟨r,hr,hgr,_,hn⟩:=hlook i b' hb
  exact⟨r,d,hn hbn,by rw[<- hgr];exact h2,h3⟩
 have hm1:∀ b,(cr κ1 (fun r=>lookB r (cf bs 0)) G).mine b->(cr κ (fun r=>lookB r sto) G).mine b:=fun b hb=>hb.elim .inl (fun h=>.inr (hl1 b h))
 have hS1:SRel (cr κ1 (fun r=>lookB r (cf bs 0)) G) κ1 (fun r=>lookB r (cf bs 0)):=by
  refine⟨fun i=>?_,fun i j d d' b h1 h2 hij hd hd' hb=>?_,fun i d b h1 hd hb=>.inr ⟨i,d,h1,hd,hb⟩,hS.immLt,?_⟩
  ·rw[congrFun hσ1 i]
   show fe κ1 i (bs.getD i .none)
   rw[Vm]
   cases hb:bs[i]? with
   | none=>trivial
   | some b=>exact hB1 i b hb
  ·simp only[congrFun hσ1 i] at h1
   simp only[congrFun hσ1 j] at h2
   obtain⟨b1,hb1,hn1⟩:=hlive i h1
   obtain⟨b2,hb2,hn2⟩:=hlive j h2
   obtain⟨r,hr,hgr,_,hn⟩:=hlook i b1 hb1
   obtain⟨r',hr',hgr',_,hn'⟩:=hlook j b2 hb2
   refine hS.apart r r' d d' b (hn hn1) (hn' hn2) (fun e=>hij ?_) (by rw[<- hgr];exact hd) (by rw[<- hgr'];exact hd') hb
   obtain⟨hi,ei⟩:=Vh.1 hr
   obtain⟨hj,ej⟩:=Vh.1 hr'
   exact (List.getElem_inj hnd).1 (ei.trans (e.trans ej.symm))
  ·refine⟨fun g o p hp=>?_,fun g hg=>?_⟩
   ·exact hS.glob.1 g o p hp
   ·obtain⟨h1,h2,h3⟩:=hS.glob.2 g hg
    exact⟨h1,fun hl=>h2 (hl1 g hl),h3⟩
 have hf1:∀ r,bs.length<=r->κ1.nm r=none:=fun r hr=>by
  show κ.nm (gIn next rs r)=none
  rw[nZ next rs r (by omega)]
  exact hf _ (by omega)
 have hlen0:args0.length=args.length:=by
  rw[hargs.length]
  have:∀ (f:Nat->Option Nat) (l:List AV),(AV.renL f l).length=l.length:=by
   intro f l
   induction l with
   | nil=>simp[AV.renL]
   | cons x r ih=>simp[AV.renL,ih]
  rw[this]
 have hv1:∀ (i:Nat) (x:AV),args0[i]? = some x->ARel κ1 x (vals.getD i Go.undef):=
  (kY (κ:=κ) (κ':=κ1) rfl rfl (g:=gIn next rs) (fun _=>rfl) args0 vals (fun i x hx=>by
   obtain⟨y,hy,hyx⟩:=hargs.get i x hx
   exact hyx.rel (hvals i y hy))).2
 refine (h κ1 vals hS1 hf1 (by omega) hv1).mono ?_
 rintro e w' ⟨u,v',κ1',sto',next',rfl,rfl,he,hL,hv,hS',hf',rfl,rfl,rfl⟩
 obtain⟨g,hgdef⟩:∃ g,g=gIn next (rs.take k):=⟨_,rfl⟩
 have htl:(rs.take k).length=k:=by rw[List.length_take];omega
 have hg1:∀ i,i<k->∃ r,rs[i]? = some r/\g i=r/\r<next:=by
  intro i hi
  have hi':i<rs.length:=by omega
  have hr:=Vg hi'
  refine⟨rs[i],hr,?_,hlt _ (List.getElem_mem hi')⟩
  rw[hgdef]
  exact my next _ i _ (by rw[List.getElem?_take,if_pos hi];exact hr)
 have hg2:∀ i,k<=i->g i=next+(i - k):=fun i hi=>by rw[hgdef,nZ next _ i (by omega),htl]
 have hginj:∀ i j,g i=g j->i=j:=fun i j hij=>by
  rw[hgdef] at hij
  exact M4 (hnd.sublist (List.take_sublist _ _)) (fun r hr=>hlt r (List.mem_of_mem_take hr)) hij
 have hso:gSo next (rs.take k)=fun r=>some (g r):=by rw[hgdef];rfl
 rw[hso,<- hgdef]
 let κ':Kap:=⟨κ1'.w,fun r=>if r<next then κ.nm r else κ1'.nm (k+(r - next)),κ1'.imm⟩
 have hnmk:∀ i,i<k->κ1'.nm i=κ1.nm i:=by
  intro i hi
  have hib:i<bs.length:=by omega
  have hb:=Vg hib
  obtain⟨d,hd⟩:=(hB1 i _ hb).named (hne _ (List.mem_take_iff_getElem.2 ⟨i,by omega,rfl⟩))
  rw[hd]
  exact he.nm i d (by simp only[Kap.cut];rw[if_pos hi];exact hd)
 have hnm':∀ i,κ'.nm (g i)=κ1'.nm i:=by
  intro i
  by_cases hi:i<k
  ·obtain⟨r,hr,hgr,hrn⟩:=hg1 i hi
   show (if g i<next then κ.nm (g i) else κ1'.nm (k+(g i - next)))=_
   rw[hgr,if_pos hrn,hnmk i hi]
   show κ.nm r=κ.nm (gIn next rs i)
   rw[my next rs i r hr]
  ·show (if g i<next then κ.nm (g i) else κ1'.nm (k+(g i - next)))=_
   rw[hg2 i (by omega),if_neg (by omega)]
   congr 1;omega
 have hext:Ext κ κ':=⟨fun b o hi=>he.imm b o hi,fun b o v hi hc=>he.cell b o v hi hc,fun r d hd=>by
  have hr:r<next:=by
   rcases Nat.lt_or_ge r next with h | h
   ·exact h
   ·rw[hf r h] at hd;cases hd
  show (if r<next then κ.nm r else _)=_
  rw[if_pos hr];exact hd,fun b o ho hc=>he.obj b o ho hc⟩
 have hout:∀ r d b,lookB r sto≠.none->r∉rs->κ.nm r=some d->d.block=some b->b<κ.w.heap.size/\¬ (cr κ1 (fun r=>lookB r (cf bs 0)) G).lent b:=by
  intro r d b h1 h2 h3 h4
  refine⟨(hS.blk r).lt h1 h3 h4,?_⟩
  rintro⟨i,d',q1,q2,q3⟩
  simp only[congrFun hσ1 i] at q1
  obtain⟨b',hb,hbn⟩:=hlive i q1
  obtain⟨r',hr',hgr,_,hn⟩:=hlook i b' hb
  refine hS.apart r r' d d' b h1 (hn hbn) (fun e=>h2 (e▸Vk hr')) h3 (by rw[<- hgr];exact q2) h4 q3
 have hmem:∀ r,r∈rs->(∃ i,i<bs'.length/\g i=r)\/r∈rs.drop k:=by
  intro r hr
  obtain⟨i,hi⟩:=List.getElem?_of_mem hr
  by_cases hik:i<k
  ·obtain⟨r',hr',hgr,_⟩:=hg1 i hik
   rw[hi] at hr';cases hr'
   exact .inl ⟨i,by omega,hgr⟩
  ·refine .inr (Vk (i:=i - k) ?_)
   rw[List.getElem?_drop,show k+(i - k)=i by omega];exact hi
 have hσ':∀ r,(∃ i b,bs'[i]? = some b/\g i=r/\lookB r (pH (fun r=>some (g r)) bs' 0 g++(fx (rs.drop k)++sto))=b.ren (fun r=>some (g r))) \/
   lookB r (pH (fun r=>some (g r)) bs' 0 g++(fx (rs.drop k)++sto)) = .none\/(r∉rs/\(∀ i,i<bs'.length->g i≠r)/\lookB r (pH (fun r=>some (g r)) bs' 0 g++(fx (rs.drop k)++sto))=lookB r sto):=by
  intro r
  obtain⟨q1,q2⟩:=re (f:=fun r=>some (g r)) hginj (fx (rs.drop k)++sto) r bs' 0
  by_cases hi:∃ i,i<bs'.length/\g i=r
  ·obtain⟨i,hi,hgi⟩:=hi
   exact .inl ⟨i,bs'[i],Vg hi,hgi,q1 i _ (Vg hi) (by rw[VA];exact hgi)⟩
  ·have hni:∀ i,i<bs'.length->g i≠r:=fun i h1 h2=>hi ⟨i,h1,h2⟩
   have e:=q2 (fun i h1=>by rw[VA];exact hni i h1)
   rw[nU] at e
   by_cases hr:r∈rs.drop k
   ·rw[if_pos hr] at e;exact .inr (.inl e)
   ·rw[if_neg hr] at e
    exact .inr (.inr ⟨fun h=>(hmem r h).elim hi hr,hni,e⟩)
 have hlive':∀ i b,bs'[i]? = some b->b.ren (fun r=>some (g r))≠.none->lookB i (cf bs' 0)≠.none:=by
  intro i b hb hbn
  have e2:lookB i (cf bs' 0)=bs'.getD i .none:=congrFun (gX bs') i
  rw[e2,Vm,hb]
  exact U1.1 hbn
 refine⟨u,_,κ',_,_,rfl,rfl,hext,⟨hL.os,hL.tape,hL.output,hL.size,fun b hb hl=>hL.block b hb fun h=>hl (hl1 b h),fun b o hi=>(hL.imm b o hi).imp id (hm1 b)⟩,
  sM (κ:=κ1') (κ':=κ') rfl rfl (fun r r' hr=>by cases hr;exact hnm' r) v' u hv,?_,fun r hr=>?_,rfl,rfl,rfl⟩
 ·refine⟨fun r=>?_,fun r r' d d' b h1 h2 hrr hd hd' hb=>?_,fun r d b h1 hd hb=>?_,hS'.immLt,?_⟩
  ·show fe κ' r (lookB r _)
   rcases hσ' r with ⟨i,b,hb,hgi,e⟩ | e | ⟨hr,hni,e⟩
   ·rw[e,<- hgi]
    refine fe.ren (κ:=κ1') (κ':=κ') rfl rfl hnm' ?_
    have:=hS'.blk i
    have e2:lookB i (cf bs' 0)=bs'.getD i .none:=congrFun (gX bs') i
    simp only[e2,Vm,hb] at this
    exact this
   ·rw[e];trivial
   ·rw[e]
    refine (hS.blk r).keep hext fun hbn d b hd hb=>?_
    obtain⟨q1,q2⟩:=hout r d b hbn hr hd hb
    refine⟨hL.block b q1 q2,fun o ho=>?_⟩
    rcases hL.imm b o ho with h | h | h
    ·exact h
    ·exact absurd q1 (Nat.not_lt.2 h)
    ·exact absurd h q2
  ·have cal:∀ r i b0 d,bs'[i]? = some b0->g i=r->b0.ren (fun r=>some (g r))≠.none->κ'.nm r=some d->lookB i (cf bs' 0)≠.none/\κ1'.nm i=some d:=by
    intro r i b0 d hb0 hgi hbn hd
    exact⟨hlive' i b0 hb0 hbn,by rw[<- hnm' i,hgi];exact hd⟩
   have own:∀ r d,r∉rs->lookB r sto≠.none->κ'.nm r=some d->κ.nm r=some d:=by
    intro r d hr hbn hd
    obtain⟨d',hd'⟩:=(hS.blk r).named hbn
    have:=hext.nm r d' hd'
    rw[this] at hd;cases hd;exact hd'
   have mix:∀ r i b0 d d' b,bs'[i]? = some b0->b0.ren (fun r=>some (g r))≠.none->κ1'.nm i=some d->d.block=some b->lookB i (cf bs' 0)≠.none->r∉rs->lookB r sto≠.none->κ.nm r=some d'->d'.block≠some b:=by
    intro r i b0 d d' b hb0 hbn hd hdb hl hr hrl hd' hdb'
    obtain⟨q1,q2⟩:=hout r d' b hrl hr hd' hdb'
    rcases hS'.mine i d b hl hd hdb with h | h
    ·exact absurd q1 (Nat.not_lt.2 h)
    ·exact q2 h
   rcases hσ' r with ⟨i,b1,hb1,hgi,e⟩ | e | ⟨hr,hni,e⟩
   ·have h1':b1.ren (fun r=>some (g r))≠.none:=by
     intro h0;exact h1 (e.trans h0)
    obtain⟨p1,p2⟩:=cal r i b1 d hb1 hgi h1' hd
    rcases hσ' r' with ⟨j,b2,hb2,hgj,e'⟩ | e' | ⟨hr',hni',e'⟩
    ·have h2':b2.ren (fun r=>some (g r))≠.none:=by
      intro h0;exact h2 (e'.trans h0)
     obtain⟨p3,p4⟩:=cal r' j b2 d' hb2 hgj h2' hd'
     exact hS'.apart i j d d' b p1 p3 (fun hij=>hrr (by rw[<- hgi,<- hgj,hij])) p2 p4 hb
    ·exact absurd e' h2
    ·have h2':lookB r' sto≠.none:=by intro h0;exact h2 (e'.trans h0)
     exact mix r' i b1 d d' b hb1 h1' p2 hb p1 hr' h2' (own r' d' hr' h2' hd')
   ·exact absurd e h1
   ·have h1':lookB r sto≠.none:=by intro h0;exact h1 (e.trans h0)
    have hd0:=own r d hr h1' hd
    rcases hσ' r' with ⟨j,b2,hb2,hgj,e'⟩ | e' | ⟨hr',hni',e'⟩
    ·have h2':b2.ren (fun r=>some (g r))≠.none:=by
      intro h0;exact h2 (e'.trans h0)
     obtain⟨p3,p4⟩:=cal r' j b2 d' hb2 hgj h2' hd'
     intro hb'
     exact mix r j b2 d' d b hb2 h2' p4 hb' p3 hr h1' hd0 hb
    ·exact absurd e' h2
    ·have h2':lookB r' sto≠.none:=by intro h0;exact h2 (e'.trans h0)
     exact hS.apart r r' d d' b h1' h2' hrr hd0 (own r' d' hr' h2' hd') hb
  ·rcases hσ' r with ⟨i,b1,hb1,hgi,e⟩ | e | ⟨hr,hni,e⟩
   ·have h1':b1.ren (fun r=>some (g r))≠.none:=by
     intro h0;exact h1 (e.trans h0)
    refine hm1 b (hS'.mine i d b (hlive' i b1 hb1 h1') (by rw[<- hnm' i,hgi];exact hd) hb)
   ·exact absurd e h1
   ·have h1':lookB r sto≠.none:=by intro h0;exact h1 (e.trans h0)
    obtain⟨d',hd'⟩:=(hS.blk r).named h1'
    have:=hext.nm r d' hd'
    rw[this] at hd;cases hd
    exact .inr ⟨r,d,h1',hd',hb⟩
  ·refine⟨hS'.glob.1,fun g' hg'=>?_⟩
   obtain⟨h1,h2,cs,T,fz,h3,h4⟩:=hS.glob.2 g' hg'
   exact⟨h1,h2,cs,T,fz,(hL.block g' h1 fun h=>h2 (hl1 g' h)).trans h3,h4⟩
 ·show (if r<next then κ.nm r else κ1'.nm (k+(r - next)))=none
  rw[if_neg (by omega)]
  exact hf' _ (by omega)
def vT (k:Nat)(rs:List Nat)(bs bs':List Blk)(next:Nat):Bool:=
 decide (k<=bs.length)&&decide (k<=bs'.length)&&(bs.take k).all (fun b=>match b with | .none=>false | _=>true)&&rs.all (fun r=>decide (r<next))&&decide rs.Nodup
theorem ab.lentK {k f:Nat}{args0:List AV}{bs:List Blk}{v:AV}{bs':List Blk}(h:bk P G k f args0 bs v bs')(rs:List Nat){args:List AV}{env:List (Nat×AV)}{sto:List (Nat×Blk)}{next:Nat}{K:AV->St->Prop}
  (hok:vT k rs bs bs' next=true) (hargs:AVzL args (AV.renL (gSo next rs) args0)) (hbs:gN sto (gSo next rs) rs bs)
  (hK:K (v.ren (gSo next (rs.take k))) ⟨env,pH (gSo next (rs.take k)) bs' 0 (gIn next (rs.take k))++(fx (rs.drop k)++sto),next+(bs'.length - k)⟩):ab P G f args ⟨env,sto,next⟩ K:=by
 simp only[vT,Vr,decide_eq_true_eq,VM] at hok
 obtain⟨⟨⟨⟨h1,h2⟩,h3⟩,h4⟩,h5⟩:=hok
 refine ab.lent (h.frame hargs hbs h5 h4 h1 h2 (fun b hb e=>?_)) ?_
 ·have:=h3 b hb
  subst e;cases this
 ·rintro v' sto' next' ⟨rfl,rfl,rfl⟩
  exact hK
end
theorem EF (k:Nat):cf [] k=[]:=_root_.id rfl
theorem zD (b:Blk)(r:List Blk)(k:Nat):cf (b::r) k=(k,b)::cf r (k+1):=_root_.id rfl
theorem yY (sto:List (Nat×Blk))(f:Nat->Option Nat):gN sto f [] []=True:=_root_.id rfl
theorem tN (sto:List (Nat×Blk))(f:Nat->Option Nat)(r:Nat)(rs:List Nat)(b:Blk)(bs:List Blk):gN sto f (r::rs) (b::bs)=(BlkZ (lookB r sto) (b.ren f)/\gN sto f rs bs):=_root_.id rfl
theorem HJ (f:Nat->Option Nat)(i:Nat)(g:Nat->Nat):pH f [] i g=[]:=_root_.id rfl
theorem C6 (f:Nat->Option Nat)(b:Blk)(r:List Blk)(i:Nat)(g:Nat->Nat):pH f (b::r) i g=(g i,b.ren f)::pH f r (i+1) g:=_root_.id rfl
theorem Dh:fx []=[]:=_root_.id rfl
theorem yH (r:Nat)(q:List Nat):fx (r::q)=(r,.none)::fx q:=_root_.id rfl
theorem Qk (next:Nat)(rs:List Nat)(r:Nat):gSo next rs r=some (gIn next rs r):=_root_.id rfl
theorem M3 (next i:Nat):gIn next [] i=next+i:=_root_.id rfl
theorem S5 (next r:Nat)(q:List Nat):gIn next (r::q) 0=r:=_root_.id rfl
theorem S4 (next r i:Nat)(q:List Nat):gIn next (r::q) (i+1)=gIn next q i:=_root_.id rfl
theorem oL {sz r off n:Nat}{k:IntKind}{h:Int}(h0:0<=h)(h1:h<=n)(hs:0<sz):fI sz (.row r sz off n) none (some (.pv (.int k h)))=some (.row r sz off h.toNat):=by
 simp[fI,bh,h0,h1,hs]
theorem Gm (n:Nat):((n:Int)+1).toNat=n+1:=by omega
theorem Jz (n:Int):n+1 - 1=n:=by omega
def Om:List Nat->List Nat->List Nat
 | [],a=>a
 | x::r,a=>Om r (x::a)
theorem GX (a:List Nat):Om [] a=a:=_root_.id rfl
theorem qo (x:Nat)(r a:List Nat):Om (x::r) a=Om r (x::a):=_root_.id rfl
theorem B4:∀ (l a:List Nat),l.reverse++a=Om l a
 | [],a=>rfl
 | x::r,a=>by rw[qo,<- B4 r (x::a)];simp
theorem DN (l:List (Nat×Blk)):aW l.reverse=Om (aW l) []:=by
 rw[<- B4,VZ];simp[aW]
theorem aC (A:List (Nat×Nat×Nat×Nat)){k:Nat}{v v':AV}{bs':List Blk}{sto':List (Nat×Blk)}{next':Nat}(h:StZ (cR A k [0] ⟨[(0,v')],sto',next'⟩) ⟨[(0,v)],cf bs' 0,bs'.length⟩):MU k v bs' v' sto' next':=Wk.head h
section
variable {P:Program}{G:Nat->List PV}
theorem FU (F:St->Prop)(s:St):Uw F .norm s=F s:=_root_.id rfl
theorem Jl (b:ACode)(Q:AExit->St->Prop)(e:List (Nat×AV))(σ:List (Nat×Blk))(n:Nat):NO (fun m=>vc P G m b) Q ⟨e,σ,n⟩=vc P G n b Q ⟨e,σ,n⟩:=_root_.id rfl
theorem Ht (e:List (Nat×AV)):Hu [] [] e=e:=_root_.id rfl
theorem CL (p:Nat)(ps:List Nat)(x:PV)(xs:List PV)(e:List (Nat×AV)):Hu (p::ps) (x::xs) e=Hu ps xs ((p,.pv x)::e):=_root_.id rfl
def TO {ι:Type}(A:List (Nat×Nat×Nat×Nat))(S:ι->St)(Inv:Nat->ι->Prop)(i m0:Nat)(keep:List Nat)(Q:AExit->St->Prop)(e0:List (Nat×AV)):AExit->St->Prop
 | .norm,s'=>∃ x',Hd A m0 keep ⟨e0,s'.sto,s'.next⟩ (S x')/\Inv (i+1) x'
 | .exit j,s'=>Q (.exit j) ⟨e0,s'.sto,s'.next⟩
 | .ret,s'=>Q .ret ⟨e0,s'.sto,s'.next⟩
theorem FL {ι:Type}(A:List (Nat×Nat×Nat×Nat))(S:ι->St)(Inv:Nat->ι->Prop)(i m0:Nat)(keep:List Nat)(Q:AExit->St->Prop)(e0 e:List (Nat×AV))(σ:List (Nat×Blk))(n:Nat):TO A S Inv i m0 keep Q e0 .norm ⟨e,σ,n⟩ = ∃ x',Hd A m0 keep ⟨e0,σ,n⟩ (S x')/\Inv (i+1) x':=_root_.id rfl
theorem JH {ι:Type}(A:List (Nat×Nat×Nat×Nat))(S:ι->St)(Inv:Nat->ι->Prop)(i m0:Nat)(keep:List Nat)(Q:AExit->St->Prop)(e0 e:List (Nat×AV))(σ:List (Nat×Blk))(n:Nat):TO A S Inv i m0 keep Q e0 .ret ⟨e,σ,n⟩=Q .ret ⟨e0,σ,n⟩:=_root_.id rfl
theorem Qj:∀ (lb:List PV),pvs (lb.map AV.pv)=some lb
 | []=>rfl
 | p::r=>by simp[pvs,AV.toPV,Qj r]
theorem JO {ι:Type}(A:List (Nat×Nat×Nat×Nat))(ch:ι->List (Nat×AV))(chB:ι->List (Nat×Blk))(Inv:Nat->ι->Prop)(x0:ι){gf:Nat}{lb:List PV}{xs:List (List PV)}(hs:TN P G gf lb xs)
  {m0:Nat} {f:AX} {ps keep:List Nat} {a b:ACode} {Q:AExit->St->Prop} {s:St}
  (h:∀ e0 σ0 n0,cR A m0 keep s=⟨e0,σ0,n0⟩->StZ ⟨e0,σ0,n0⟩ ⟨ew e0 (ch x0),fw σ0 (chB x0),n0⟩/\Inv 0 x0/\dE (f.ev (fun i=>look i (ew e0 (ch x0))))=some (gf,[],lb.map AV.pv) /\
   (∀ i x y,xs[i]? = some y->Inv i x->y.length=ps.length/\vc P G n0 a (Uw (NO (fun m=>vc P G m b) (TO A (fun x=>⟨ew e0 (ch x),fw σ0 (chB x),n0⟩) Inv i m0 keep Q (ew e0 (ch x))))) ⟨Hu ps y (ew e0 (ch x)),fw σ0 (chB x),n0⟩) /\
   ∀ x,Inv xs.length x->Q .norm ⟨ew e0 (ch x),fw σ0 (chB x),n0⟩):vc P G m0 (.range f ps keep a b) Q s:=by
 obtain⟨h1,h2,h3,h4,h5⟩:=h (cR A m0 keep s).env (cR A m0 keep s).sto (cR A m0 keep s).next rfl
 let S:ι->St:=fun x=>⟨ew (cR A m0 keep s).env (ch x),fw (cR A m0 keep s).sto (chB x),(cR A m0 keep s).next⟩
 refine⟨fun i t=>∃ x,t=S x/\Inv i x,S x0,aI h1,⟨x0,rfl,h2⟩,?_⟩
 have e:dE (f.ev (S x0).E)=some (gf,[],lb.map AV.pv):=h3
 rw[e]
 refine⟨rfl,lb,xs,Qj lb,hs,?_,?_⟩
 ·rintro i y t hy ⟨x,rfl,hx⟩
  obtain⟨k1,k2⟩:=h4 i x y hy hx
  refine⟨k1,cC a (fun e s hs=>?_) _ k2⟩
  cases e with
  | norm=>
    refine cC b (fun e s hs=>?_) s hs
    cases e with
    | norm=>
      obtain⟨x',q1,q2⟩:=hs
      exact⟨S x',q1,x',rfl,q2⟩
    | exit j=>exact hs
    | ret=>exact hs
  | exit j=>exact hs.elim
  | ret=>exact hs.elim
 ·rintro t ⟨x,rfl,hx⟩
  exact h5 x hx
end
attribute [push_cast] ii uF ji Th Ti Tj Tk Tm Tn DA Ic yV DB Ta Tb I1 I2 Np I4 No I0 Lp BB xJ xI xH sD xF sC Gs BC BD sB sA Gv Gw Mi Gr Gq BF sE sZ Gu Gt xD Ma Mb ya sY CV Mp qC yb sX qA x9 Hc Cu Ct x8 He s7 s8 EY Fp sQ Hq Hf Hj Hh Hg Hp Mh Ho Hi Hk Hl Hm Hn CD CC Cz CA CB Hr CE CF G9 Cr Cy G8 Mg Dd US UR Mk CJ CK yh oO Lk xv Gk Gj Gl Dq l9 tH MJ tD MK tE tF Fd Aq Ao An rO Ap ag Am Fb E9 Ak Al Fc tM yW Cs x7 MS MR xo xm yT Rd H9 Az Dy Ij DK DI DH tO DJ Dw yS tJ tK MN Md xX pS Gz gT Ge Bq Jc Jd Mt HZ H1 H0 H2 Jj Be xq A8 A9 A7 sq EK zX qJ qK HV Hs Qz QA EJ GD GH GG PA Pz Py tI qY q0 oW oX K7 Gb Bf zY t8 Nv tL q9 q8 o8 oZ MI H5 yO DO y9 Nw zW E0 Ag E1 Ai NB NC H8 P4 HT FI FJ JG uC uD AL K3 OZ K5 Nu OX K6 Ga K4 OY HQ SV SW GZ B7 JK Oi L0 PE PF PD Ad B6 xR Hv Qe DS DW ze zc uA uB AK CS yo C2 yy CT yq C3 yz oU Mw PZ PW Mx PY PX My HR Ha Hb xw BA map_take map_drop De yg Rm Ju Js Jr NS kP zO zP tZ TH Rc Fm oS tn tm HL oR Ms HO HM yC HP qx tp yE nQ yD Jy Rn Rh MQ Ig DT Qp II IK M8 IR IM Ed Ee M6 H3 Dm Dl H4 Dn Do yL lY lX tw qU yM JA FB NZ N0 M2 wc rV i7 L8 L7 rE pr SE PC Dg yG MA MC MB xT sN yK DY J7 L4 L2 L1 PI L3 B9 B8 Ca G0 qp sO Cb xU G1 Cc HU JB FD FE FH ME MD HX HW N4 JE AI FG JF N3 UN UM Sq QH QI QJ QK Nj Eu zx HF ut uu Jn Rk Fu I6 EE Fq Re Rg Rf Fs Ft Gy BJ Pa EF zD yY tN HJ C6 Dh yH Qk M3 S5 S4 oL Gm Jz GX qo DN VA Nat.add_zero Vq List.length_nil List.nil_append VF VZ VQ List.getElem?_map Vv List.map_nil VG List.take_succ_cons List.take_zero List.drop_succ_cons List.drop_zero List.take_nil List.drop_nil List.all_cons List.all_nil Bool.and_true Bool.true_and Bool.and_false Bool.false_and Bool.not_true Bool.not_false decide_true decide_false Bool.not_not Int.natCast_add Int.cast_ofNat_Int Int.toNat_natCast Vj and_true true_and ge_iff_le Vw Wv Nat.not_lt_zero and_self
attribute [push_cast] FU Jl Ht CL FL JH
attribute [push_cast high] Int.cast_ofNat_Int
abbrev eI:=Nat->List AV->List (Nat×Blk)->Nat->Option (AV×List (Nat×Blk)×Nat)
def AP (call:eI)(G:Nat->List PV)(s:St)(d:Option Nat):AOp->Option St
 | .t o=>match o.run s.E with
   | some v=>some (s.put d v)
   | none=>none
 | .m o=>match o.run G s.next s.E s.σ with
   | some p=>some ((s.mem p.2).put d p.1)
   | none=>none
 | .call f xs=>match dE (f.ev s.E) with
   | some p=>match call p.1 (p.2.1++xs.map (·.ev s.E)++p.2.2) s.sto s.next with
     | some r=>some ((⟨s.env,r.2.1,r.2.2⟩:St).put d r.1)
     | none=>none
   | none=>none
 | .fz g x=>match Nm G s.σ g (x.ev s.E) with
   | some p=>some ((s.mem p.2).put d p.1)
   | none=>none
def mE (call:eI)(G:Nat->List PV):List AOper->St->Option St
 | [],s=>some s
 | o::r,s=>match ca s o.guard with
   | some true=>match AP call G s o.dst o.op with
     | some s'=>mE call G r s'
     | none=>none
   | some false=>mE call G r (s.put o.dst (.pv .undef))
   | none=>none
def dA (call:eI)(f:Nat)(ps:List PV):Option PV:=
 match call f (ps.map .pv) [] 0 with
 | some r=>r.1.toPV
 | none=>none
def tX (call:eI)(s:St)(d:Option Nat)(f:Nat)(args:List AV):Option (St×List Nat×List Nat):=
 match pvs args with
 | some ps=>match dA call f ps with
   | some r=>some (s.put d (.pv r),[],[])
   | none=>none
 | none=>match call f args s.sto s.next with
   | some r=>some ((⟨s.env,r.2.1,r.2.2⟩:St).put d r.1,fF 2 (aW (r.2.1.take (r.2.1.length - s.sto.length)).reverse) (s.sto.map (·.1)))
   | none=>none
def np (call:eI)(G:Nat->List PV)(s:St)(d:Option Nat):AOp->Option (St×List Nat×List Nat)
 | .t o=>match o.run s.E with
   | some v=>some (s.put d v,[],[])
   | none=>none
 | .m o=>match o.run G s.next s.E s.σ with
   | some p=>some ((s.mem p.2).put d p.1,fF (dP o) (aW p.2) (o.reads s.E))
   | none=>none
 | .call f xs=>match dE (f.ev s.E) with
   | some p=>tX call s d p.1 (p.2.1++xs.map (·.ev s.E)++p.2.2)
   | none=>none
 | .fz _ _=>none
def exD (call:eI)(G:Nat->List PV)(A:List (List Nat)):List AOper->List (List Nat×List Nat)->St->Option St
 | [],T,s=>match okB A T with
   | true=>some s
   | false=>none
 | o::r,T,s=>match ca s o.guard with
   | some true=>match np call G s o.dst o.op with
     | some q=>exD call G A r (T++[q.2]) q.1
     | none=>none
   | some false=>exD call G A r (T++[([],[])]) (s.put o.dst (.pv .undef))
   | none=>none
def exC (call:eI)(G:Nat->List PV):Nat->ACode->St->Option (AExit×St)
 | 0,_,_=>none
 | _+1,.skip,s=>some (.norm,s)
 | _+1,.ops l keep,s=>match mE call G l s with
   | some s'=>some (.norm,clip0 keep s')
   | none=>none
 | _+1,.draw A l l2 keep,s=>match exD call G A l [] s with
   | some s1=>match mE call G l2 s1 with
     | some s'=>some (.norm,clip0 keep s')
     | none=>none
   | none=>none
 | n+1,.seq a b,s=>match exC call G n a s with
   | some (.norm,s')=>exC call G n b s'
   | some (.exit i,s')=>some (.exit i,s')
   | some (.ret,s')=>some (.ret,s')
   | none=>none
 | n+1,.cond x a b,s=>match x.ev s.E with
   | .pv (.bool true)=>exC call G n a s
   | .pv (.bool false)=>exC call G n b s
   | _=>none
 | n+1,.block id b,s=>match exC call G n b s with
   | some (.norm,s')=>some (.norm,s')
   | some (.exit i,s')=>if i=id then some (.norm,s') else some (.exit i,s')
   | some (.ret,s')=>some (.ret,s')
   | none=>none
 | n+1,.loop keep b,s=>match exC call G n b s with
   | some (.norm,s')=>exC call G n (.loop keep b) s'
   | some (.exit i,s')=>some (.exit i,s')
   | some (.ret,s')=>some (.ret,s')
   | none=>none
 | _+1,.range _ _ _ _ _,_=>none
 | _+1,.exit id,s=>some (.exit id,s)
 | _+1,.ret,s=>some (.ret,s)
structure TabRow where
 f:Nat
 muts:List Nat
 fn:AFn
def If (f:Nat):List TabRow->Option AFn
 | []=>none
 | r::q=>if r.f=f then some r.fn else If f q
def yA (G:Nat->List PV)(fn:AFn)(s:St):Option (AV×List (Nat×Blk)×Nat):=
 match fG G s fn.res with
 | some l=>some (AN l,s.sto,s.next)
 | none=>none
def exF (tab:List TabRow)(O:Nat->List PV->Option PV)(G:Nat->List PV)(m:Nat):Nat->eI
 | 0,_,_,_,_=>none
 | n+1,f,args,sto,next=>match (pvs args).bind (O f) with
   | some r=>some (.pv r,sto,next)
   | none=>match If f tab with
     | some fn=>if args.length<=fn.N then match exC (exF tab O G m n) G m fn.body ⟨dB args,sto,next⟩ with
       | some (.norm,s)=>yA G fn s
       | some (.ret,s)=>yA G fn s
       | _=>none
       else none
     | none=>none
section
variable {P:Program}{G:Nat->List PV}
def bz (sto:List (Nat×Blk))(next:Nat)(sto':List (Nat×Blk))(next':Nat):Prop:=(∃ pre,sto'=pre++sto)/\next<=next'
theorem bz.refl (sto:List (Nat×Blk))(next:Nat):bz sto next sto next:=⟨⟨[],rfl⟩,Vw _⟩
theorem bz.trans {a b c:List (Nat×Blk)}{i j k:Nat}(h:bz a i b j)(g:bz b j c k):bz a i c k:=by
 obtain⟨⟨p,rfl⟩,h2⟩:=h
 obtain⟨⟨q,rfl⟩,g2⟩:=g
 exact⟨⟨q++p,by simp⟩,Nat.le_trans h2 g2⟩
theorem oy:∀ (δ l:List (Nat×Blk)),m5 l δ=δ.reverse++l
 | [],l=>rfl
 | p::r,l=>by rw[m5,oy r];simp
theorem bz.put {s:St}{sto':List (Nat×Blk)}{n:Nat}{e:List (Nat×AV)}(h:bz s.sto s.next sto' n)(d:Option Nat)(v:AV):bz s.sto s.next ((⟨e,sto',n⟩:St).put d v).sto ((⟨e,sto',n⟩:St).put d v).next:=by
 cases d<;>exact h
theorem bz.mem (s:St)(δ:List (Nat×Blk))(d:Option Nat)(v:AV):bz s.sto s.next ((s.mem δ).put d v).sto ((s.mem δ).put d v).next:=by
 have:bz s.sto s.next (m5 s.sto δ) (s.next+1):=⟨⟨δ.reverse,oy δ s.sto⟩,Nat.le_succ _⟩
 cases d<;>exact this
theorem bz.put0 (s:St)(d:Option Nat)(v:AV):bz s.sto s.next (s.put d v).sto (s.put d v).next:=by
 cases d<;>exact bz.refl _ _
def fZ (P:Program)(G:Nat->List PV)(call:eI):Prop:=
 ∀ f args sto next v sto' next',call f args sto next=some (v,sto',next')->bz sto next sto' next'/\(
   (∃ ps r,pvs args=some ps/\ae P G f ps r/\v = .pv r/\sto'=sto/\next'=next)\/ct P G f args sto next (fun v' s' n'=>v'=v/\s'=sto'/\n'=next'))
theorem ct.mono {f:Nat}{args:List AV}{sto:List (Nat×Blk)}{next:Nat}{Q Q':AV->List (Nat×Blk)->Nat->Prop}(h:ct P G f args sto next Q)(hq:∀ v s n,Q v s n->Q' v s n):ct P G f args sto next Q':=by
 obtain⟨h1,h2⟩:=h
 refine⟨h1,fun κ vals a1 a2 a3 a4=>(h2 κ vals a1 a2 a3 a4).mono ?_⟩
 rintro e w' ⟨u,v,κ',sto',next',b1,b2,b3,b4,b5,b6,b7,b8⟩
 exact⟨u,v,κ',sto',next',b1,b2,b3,b4,b5,b6,b7,hq _ _ _ b8⟩
theorem vB {call:eI}(hc:fZ P G call){f:Nat}{ps:List PV}{r:PV}(h:dA call f ps=some r):ae P G f ps r:=by
 unfold dA at h
 split at h
 ·rename_i q hq
  obtain⟨v,sto',next'⟩:=q
  rcases (hc f _ _ _ v sto' next' hq).2 with ⟨ps',r',h1,h2,rfl,_,_⟩ | ht
  ·rw[pvs_map] at h1
   cases h1
   simp only[AV.toPV,Vj] at h
   subst h;exact h2
  ·exact ae.of_tcalls (ht.mono (by rintro v' _ _ ⟨rfl,_,_⟩;exact Qf h))
 ·cases h
theorem Nn {call:eI}(hc:fZ P G call){s s':St}{d:Option Nat}{o:AOp}{F:St->Prop}(h:AP call G s d o=some s')(hF:F s'):m7 P G F s d o:=by
 cases o with
 | t o=>
   simp only[AP] at h
   split at h
   ·rename_i v hv
    cases h
    simp only[m7,hv,jx];exact hF
   ·cases h
 | m o=>
   simp only[AP] at h
   split at h
   ·rename_i v hv
    cases h
    simp only[m7,hv,aL];exact hF
   ·cases h
 | fz g x=>
   simp only[AP] at h
   split at h
   ·rename_i v hv
    cases h
    simp only[m7,hv,aL];exact hF
   ·cases h
 | call f xs=>
   simp only[AP] at h
   split at h
   ·rename_i p hp
    split at h
    ·rename_i r hr
     cases h
     obtain⟨v,sto',next'⟩:=r
     simp only[m7,hp,aL,Fe]
     rcases (hc _ _ _ _ v sto' next' hr).2 with ⟨ps,r,h1,h2,rfl,rfl,rfl⟩ | ht
     ·exact ab.pure h2 h1 hF
     ·exact ab.lent ht (by rintro v' s' n' ⟨rfl,rfl,rfl⟩;exact hF)
    ·cases h
   ·cases h
theorem kJ {call:eI}(hc:fZ P G call){F:St->Prop}:∀ (l:List AOper) (s s':St),mE call G l s=some s'->F s'->dG P G l F s
 | [],s,s',h,hF=>by simp only[mE,Vj] at h;subst h;exact hF
 | o::r,s,s',h,hF=>by
   simp only[mE] at h
   simp only[dG]
   split at h
   ·rename_i hw
    rw[hw]
    split at h
    ·rename_i s1 h1
     exact Nn hc h1 (kJ hc r s1 s' h hF)
    ·cases h
   ·rename_i hw
    rw[hw]
    exact kJ hc r _ s' h hF
   ·cases h
theorem og {call:eI}(hc:fZ P G call){A:List (List Nat)}{F:St->Prop}:∀ (l:List AOper) (T:List (List Nat×List Nat)) (s s':St),exD call G A l T s=some s'->F s'->vcD P G A F l T s
 | [],T,s,s',h,hF=>by
   simp only[exD] at h
   split at h
   ·rename_i ho
    cases h
    exact⟨ho,hF⟩
   ·cases h
 | o::r,T,s,s',h,hF=>by
   simp only[exD] at h
   simp only[vcD]
   split at h
   ·rename_i hw
    rw[hw]
    simp only[aL,ua]
    split at h
    ·rename_i q h1
     obtain⟨d,op,g⟩:=o
     simp only at h1 ⊢
     cases op with
     | t o=>
       simp only[np] at h1
       split at h1
       ·rename_i v hv
        cases h1
        simp only[iW,hv,aL,GF]
        exact og hc r _ _ s' h hF
       ·cases h1
     | m o=>
       simp only[np] at h1
       split at h1
       ·rename_i v hv
        cases h1
        simp only[iW,hv,aL,stepM]
        exact og hc r _ _ s' h hF
       ·cases h1
     | fz g x=>simp[np] at h1
     | call f xs=>
       simp only[np] at h1
       split at h1
       ·rename_i p hp
        simp only[iW,hp,aL]
        unfold tX at h1
        split at h1
        ·rename_i ps hps
         split at h1
         ·rename_i v hv
          cases h1
          exact .inl ⟨ps,v,hps,vB hc hv,og hc r _ _ s' h hF⟩
         ·cases h1
        ·rename_i hps
         split at h1
         ·rename_i v hv
          cases h1
          obtain⟨v,sto',next'⟩:=v
          obtain⟨⟨⟨pre,hpre⟩,hle⟩,⟨ps',r',k1,_⟩ | ht⟩:=hc _ _ _ _ v sto' next' hv
          ·rw[hps] at k1;cases k1
          ·have e1:m5 s.sto (sto'.take (sto'.length - s.sto.length)).reverse=sto':=by
            rw[oy,List.reverse_reverse,hpre]
            simp
           refine .inr ⟨v,(sto'.take (sto'.length - s.sto.length)).reverse,next',?_,hle,?_⟩
           ·rw[e1];exact ht
           ·rw[e1];exact og hc r _ _ s' h hF
         ·cases h1
       ·cases h1
    ·cases h
   ·rename_i hw
    rw[hw]
    exact og hc r _ _ s' h hF
   ·cases h
theorem zz {call:eI}(hc:fZ P G call){s s':St}{d:Option Nat}{o:AOp}(h:AP call G s d o=some s'):bz s.sto s.next s'.sto s'.next:=by
 cases o with
 | t o=>
   simp only[AP] at h
   split at h
   ·cases h;exact bz.put0 _ _ _
   ·cases h
 | m o=>
   simp only[AP] at h
   split at h
   ·cases h;exact bz.mem _ _ _ _
   ·cases h
 | fz g x=>
   simp only[AP] at h
   split at h
   ·cases h;exact bz.mem _ _ _ _
   ·cases h
 | call f xs=>
   simp only[AP] at h
   split at h
   ·split at h
    ·rename_i r hr
     cases h
     obtain⟨v,sto',next'⟩:=r
     exact bz.put (hc _ _ _ _ v sto' next' hr).1 _ _
    ·cases h
   ·cases h
theorem e7 {call:eI}(hc:fZ P G call):∀ (l:List AOper) (s s':St),mE call G l s=some s'->bz s.sto s.next s'.sto s'.next
 | [],s,s',h=>by simp only[mE,Vj] at h;subst h;exact bz.refl _ _
 | o::r,s,s',h=>by
   simp only[mE] at h
   split at h
   ·split at h
    ·rename_i s1 h1
     exact (zz hc h1).trans (e7 hc r s1 s' h)
    ·cases h
   ·exact (bz.put0 s _ _).trans (e7 hc r _ s' h)
   ·cases h
theorem tW {call:eI}(hc:fZ P G call){s:St}{d:Option Nat}{o:AOp}{q:St×List Nat×List Nat}(h:np call G s d o=some q):bz s.sto s.next q.1.sto q.1.next:=by
 cases o with
 | t o=>
   simp only[np] at h
   split at h
   ·cases h;exact bz.put0 _ _ _
   ·cases h
 | m o=>
   simp only[np] at h
   split at h
   ·cases h;exact bz.mem _ _ _ _
   ·cases h
 | fz g x=>simp[np] at h
 | call f xs=>
   simp only[np] at h
   split at h
   ·unfold tX at h
    split at h
    ·split at h
     ·cases h;exact bz.put0 _ _ _
     ·cases h
    ·split at h
     ·rename_i r hr
      cases h
      obtain⟨v,sto',next'⟩:=r
      exact bz.put (hc _ _ _ _ v sto' next' hr).1 _ _
     ·cases h
   ·cases h
theorem mF {call:eI}(hc:fZ P G call){A:List (List Nat)}:∀ (l:List AOper) (T:List (List Nat×List Nat)) (s s':St),exD call G A l T s=some s'->bz s.sto s.next s'.sto s'.next
 | [],T,s,s',h=>by
   simp only[exD] at h
   split at h
   ·cases h;exact bz.refl _ _
   ·cases h
 | o::r,T,s,s',h=>by
   simp only[exD] at h
   split at h
   ·split at h
    ·rename_i q h1
     exact (tW hc h1).trans (mF hc r _ _ s' h)
    ·cases h
   ·exact (bz.put0 s _ _).trans (mF hc r _ _ s' h)
   ·cases h
theorem rB {call:eI}(hc:fZ P G call):∀ (n:Nat) (ac:ACode) (s:St) (e:AExit) (s':St),exC call G n ac s=some (e,s')->bz s.sto s.next s'.sto s'.next
 | 0,_,_,_,_,h=>by simp[exC] at h
 | n+1,ac,s,e,s',h=>by
   have ih:=rB hc n
   cases ac with
   | skip=>simp only[exC,Vj,Vt] at h;obtain⟨_,rfl⟩:=h;exact bz.refl _ _
   | exit i=>simp only[exC,Vj,Vt] at h;obtain⟨_,rfl⟩:=h;exact bz.refl _ _
   | ret=>simp only[exC,Vj,Vt] at h;obtain⟨_,rfl⟩:=h;exact bz.refl _ _
   | ops l k=>
     simp only[exC] at h
     split at h
     ·rename_i s1 h1;cases h;exact e7 hc l s s1 h1
     ·cases h
   | draw A l l2 k=>
     simp only[exC] at h
     split at h
     ·rename_i s1 h1
      split at h
      ·rename_i s2 h2;cases h;exact (mF hc l [] s s1 h1).trans (e7 hc l2 s1 s2 h2)
      ·cases h
     ·cases h
   | seq a b=>
     simp only[exC] at h
     split at h
     ·rename_i s1 h1;exact (ih _ _ _ _ h1).trans (ih _ _ _ _ h)
     ·rename_i i s1 h1;cases h;exact ih _ _ _ _ h1
     ·rename_i s1 h1;cases h;exact ih _ _ _ _ h1
     ·cases h
   | cond x a b=>
     simp only[exC] at h
     split at h
     ·exact ih _ _ _ _ h
     ·exact ih _ _ _ _ h
     ·cases h
   | block id b=>
     simp only[exC] at h
     split at h
     ·rename_i s1 h1;cases h;exact ih _ _ _ _ h1
     ·rename_i i s1 h1
      split at h
      ·cases h;exact ih _ _ _ _ h1
      ·cases h;exact ih _ _ _ _ h1
     ·rename_i s1 h1;cases h;exact ih _ _ _ _ h1
     ·cases h
   | loop k b=>
     simp only[exC] at h
     split at h
     ·rename_i s1 h1;exact (ih _ _ _ _ h1).trans (ih _ _ _ _ h)
     ·rename_i i s1 h1;cases h;exact ih _ _ _ _ h1
     ·rename_i s1 h1;cases h;exact ih _ _ _ _ h1
     ·cases h
   | range f ps k a b=>simp only[exC] at h;cases h
def Qq (e:AExit)(s':St):AExit->St->Prop:=fun e1 s1=>e1=e/\s1=s'
theorem rX {call:eI}{G:Nat->List PV}{n:Nat}{s:St}{r:AExit×St}(h:exC call G (n+1) (.ops [⟨none,kk,none⟩] []) s=some r):False:=by
 simp[exC,mE,ca,AP,kk,AX.ev,dE] at h
theorem Qr {call:eI}(hc:fZ P G call){c:Ctx}{κ0:Kap}{N:Nat}{muts rl:List Nat}(hG:c.G=G):∀ (n:Nat) (co:Code) (ac:ACode) (ex:List (Nat×List Nat)) (out li:List Nat) (s:St) (a:Act) (w:World) (κ:Kap) (e:AExit) (s':St),
  bq P muts N rl co ex out=some (ac,li)->exC call G n ac s=some (e,s')->Rel c κ0 N s a w κ->co.wpIn (FR none) 0 P (lift c κ0 N (Qq e s')) a w:=by
 intro n
 induction n using Nat.strongRecOn with
 | _ n ih=>
 intro co ac ex out li s a w κ e s' hcc he hR
 cases n with
 | zero=>simp[exC] at he
 | succ n=>
 cases co with
 | skip=>
   simp only[bq,Vj,Vt] at hcc
   obtain⟨rfl,_⟩:=hcc
   simp only[exC,Vj,Vt] at he
   obtain⟨rfl,rfl⟩:=he
   exact wpIn_skip ⟨_,κ,hR,rfl,rfl⟩
 | exit id=>
   simp only[bq,Vj,Vt] at hcc
   obtain⟨rfl,_⟩:=hcc
   simp only[exC,Vj,Vt] at he
   obtain⟨rfl,rfl⟩:=he
   exact wpIn_exit ⟨_,κ,hR,rfl,rfl⟩
 | ret=>
   simp only[bq,Vj,Vt] at hcc
   obtain⟨rfl,_⟩:=hcc
   simp only[exC,Vj,Vt] at he
   obtain⟨rfl,rfl⟩:=he
   exact wpIn_ret ⟨_,κ,hR,rfl,rfl⟩
 | region id ops d=>
   simp only[bq] at hcc
   split at hcc
   ·rename_i l hl
    cases d with
    | false=>
      simp only[Vj,Vt] at hcc
      obtain⟨rfl,_⟩:=hcc
      simp only[exC] at he
      split at he
      ·rename_i s1 h1
       cases he
       exact wpIn_region_list (eL (F:=fun s=>s=s1) (fun s a w κ hR hF=>by subst hF;exact⟨_,κ,hR.clip0 _,rfl,rfl⟩) ops.toList l s a w κ hl hR (by rw[hG];exact kJ hc l s s1 h1 rfl))
      ·cases he
    | true=>
      simp only at hcc
      split at hcc
      ·rename_i hok
       simp only[Vj,Vt] at hcc
       obtain⟨rfl,_⟩:=hcc
       simp only[exC] at he
       split at he
       ·rename_i s1 h1
        split at he
        ·rename_i s2 h2
         cases he
         exact oh (F:=fun s=>s=s2) hl hok.1 hok.2.1 hok.2.2 hR (by rw[hG];exact og hc _ _ s s1 h1 (kJ hc _ s1 s2 h2 rfl)) (fun s a w κ hR hF=>by subst hF;exact⟨_,κ,hR.clip0 _,rfl,rfl⟩)
        ·cases he
       ·cases he
      ·cases hcc
   ·cases hcc
 | seq x y=>
   simp only[bq] at hcc
   split at hcc
   ·rename_i b' lb hb
    split at hcc
    ·rename_i a' la ha
     simp only[Vj,Vt] at hcc
     obtain⟨rfl,_⟩:=hcc
     simp only[exC] at he
     split at he
     ·rename_i s1 h1
      refine wpIn_seq (Go.wpIn_mono (ih n (Wj n) x a' _ _ _ s a w κ _ _ ha h1 hR) ?_)
      intro e1 a w hq
      cases e1 with
      | normal=>
        obtain⟨s2,κ,hR,_,rfl⟩:=hq
        exact ih n (Wj n) y b' _ _ _ s2 a w κ _ _ hb he hR
      | exit id=>obtain⟨_,_,_,h,_⟩:=hq;cases h
      | ret=>obtain⟨_,_,_,h,_⟩:=hq;cases h
      | goto l=>exact hq.elim
      | panic ch=>exact hq.elim
      | outgrown=>exact hq.elim
     ·rename_i i s1 h1
      cases he
      refine wpIn_seq (Go.wpIn_mono (ih n (Wj n) x a' _ _ _ s a w κ _ _ ha h1 hR) ?_)
      intro e1 a w hq
      cases e1 with
      | normal=>obtain⟨_,_,_,h,_⟩:=hq;cases h
      | exit id=>exact hq
      | ret=>exact hq
      | goto l=>exact hq.elim
      | panic ch=>exact hq.elim
      | outgrown=>exact hq.elim
     ·rename_i s1 h1
      cases he
      refine wpIn_seq (Go.wpIn_mono (ih n (Wj n) x a' _ _ _ s a w κ _ _ ha h1 hR) ?_)
      intro e1 a w hq
      cases e1 with
      | normal=>obtain⟨_,_,_,h,_⟩:=hq;cases h
      | exit id=>exact hq
      | ret=>exact hq
      | goto l=>exact hq.elim
      | panic ch=>exact hq.elim
      | outgrown=>exact hq.elim
     ·cases he
    ·cases hcc
   ·cases hcc
 | cond x y z=>
   simp only[bq] at hcc
   split at hcc
   ·rename_i ax a' la b' lb hx hy hz
    simp only[Vj,Vt] at hcc
    obtain⟨rfl,_⟩:=hcc
    have hrel:=aA (κ:=κ) (E:=s.E) (a:=a) hx (fun i _=>hR.env i)
    simp only[exC] at he
    split at he
    ·rename_i hv
     rw[hv] at hrel
     exact wpIn_cond_true (du hrel) (ih n (Wj n) y a' _ _ _ s a w κ _ _ hy he hR)
    ·rename_i hv
     rw[hv] at hrel
     exact wpIn_cond_false (du hrel) (ih n (Wj n) z b' _ _ _ s a w κ _ _ hz he hR)
    ·cases he
   ·cases hcc
 | block id b=>
   simp only[bq] at hcc
   split at hcc
   ·rename_i b' lb hb
    simp only[Vj,Vt] at hcc
    obtain⟨rfl,_⟩:=hcc
    simp only[exC] at he
    have main:∀ e1 s1,exC call G n b' s=some (e1,s1)->((e1 = .norm/\e = .norm/\s'=s1)\/(∃ i,e1 = .exit i/\s'=s1/\e=if i=id then .norm else .exit i)\/(e1 = .ret/\e = .ret/\s'=s1))->(Code.block id b).wpIn (FR none) 0 P (lift c κ0 N (Qq e s')) a w:=by
     intro e1 s1 h1 hcase
     refine wpIn_block (Go.wpIn_mono (ih n (Wj n) b b' _ _ _ s a w κ _ _ hb h1 hR) ?_)
     intro e2 a w hq
     cases e2 with
     | normal=>
       obtain⟨s2,κ,hR,rfl,rfl⟩:=hq
       rcases hcase with ⟨_,rfl,rfl⟩ | ⟨i,h,_⟩ | ⟨h,_⟩
       ·exact⟨_,κ,hR,rfl,rfl⟩
       ·cases h
       ·cases h
     | ret=>
       obtain⟨s2,κ,hR,rfl,rfl⟩:=hq
       rcases hcase with ⟨h,_⟩ | ⟨i,h,_⟩ | ⟨_,rfl,rfl⟩
       ·cases h
       ·cases h
       ·exact⟨_,κ,hR,rfl,rfl⟩
     | exit i=>
       obtain⟨s2,κ,hR,rfl,rfl⟩:=hq
       rcases hcase with ⟨h,_⟩ | ⟨i',h,rfl,rfl⟩ | ⟨h,_⟩
       ·cases h
       ·cases h
        simp only[Exit.inBlock]
        split
        ·rename_i hid
         exact⟨_,κ,hR,by simp[hid],rfl⟩
        ·rename_i hid
         exact⟨_,κ,hR,by simp[hid],rfl⟩
       ·cases h
     | goto l=>exact hq.elim
     | panic ch=>exact hq.elim
     | outgrown=>exact hq.elim
    split at he
    ·rename_i s1 h1
     cases he
     exact main _ _ h1 (.inl ⟨rfl,rfl,rfl⟩)
    ·rename_i i s1 h1
     split at he
     ·rename_i hid
      cases he
      exact main _ _ h1 (.inr (.inl ⟨i,rfl,rfl,by simp[hid]⟩))
     ·rename_i hid
      cases he
      exact main _ _ h1 (.inr (.inl ⟨i,rfl,rfl,by simp[hid]⟩))
    ·rename_i s1 h1
     cases he
     exact main _ _ h1 (.inr (.inr ⟨rfl,rfl,rfl⟩))
    ·cases he
   ·cases hcc
 | loop b=>
   simp only[bq] at hcc
   split at hcc
   ·rename_i x1 l1 hb1
    split at hcc
    ·rename_i x2 l2 hb2
     split at hcc
     ·rename_i b' l3 hb
      simp only[Vj,Vt] at hcc
      obtain⟨rfl,_⟩:=hcc
      refine kT (fun m a w=>∃ s κ,m<=n+1/\Rel c κ0 N s a w κ/\exC call G m (.loop (pV l2) b') s=some (e,s')) ⟨n+1,s,κ,Vw _,hR,he⟩ fun m a w hJ=>?_
      obtain⟨s,κ,hm,hR,he⟩:=hJ
      cases m with
      | zero=>simp[exC] at he
      | succ m=>
        simp only[exC] at he
        split at he
        ·rename_i s1 h1
         refine Go.wpIn_mono (ih m (by omega) b b' _ _ _ s a w κ _ _ hb h1 hR) ?_
         intro e1 a w hq
         cases e1 with
         | normal=>
           obtain⟨s2,κ,hR,_,rfl⟩:=hq
           exact⟨m,Wj m,_,κ,by omega,hR,he⟩
         | exit id=>obtain⟨_,_,_,h,_⟩:=hq;cases h
         | ret=>obtain⟨_,_,_,h,_⟩:=hq;cases h
         | goto l=>exact hq.elim
         | panic ch=>exact hq.elim
         | outgrown=>exact hq.elim
        ·rename_i i s1 h1
         cases he
         refine Go.wpIn_mono (ih m (by omega) b b' _ _ _ s a w κ _ _ hb h1 hR) ?_
         intro e1 a w hq
         cases e1 with
         | normal=>obtain⟨_,_,_,h,_⟩:=hq;cases h
         | exit id=>exact hq
         | ret=>exact hq
         | goto l=>exact hq.elim
         | panic ch=>exact hq.elim
         | outgrown=>exact hq.elim
        ·rename_i s1 h1
         cases he
         refine Go.wpIn_mono (ih m (by omega) b b' _ _ _ s a w κ _ _ hb h1 hR) ?_
         intro e1 a w hq
         cases e1 with
         | normal=>obtain⟨_,_,_,h,_⟩:=hq;cases h
         | exit id=>exact hq
         | ret=>exact hq
         | goto l=>exact hq.elim
         | panic ch=>exact hq.elim
         | outgrown=>exact hq.elim
        ·cases he
     ·cases hcc
    ·cases hcc
   ·cases hcc
 | rangeFunc f ps x y=>
   simp only[bq] at hcc
   split at hcc
   ·split at hcc
    ·simp only[Vj,Vt] at hcc
     obtain⟨rfl,_⟩:=hcc
     simp only[exC] at he
     cases he
    ·cases hcc
   ·simp only[Vj,Vt] at hcc;obtain⟨rfl,rfl⟩:=hcc;exact (rX he).elim
 | scope b=>simp only[bq,Vj,Vt] at hcc;obtain⟨rfl,rfl⟩:=hcc;exact (rX he).elim
 | label l=>simp only[bq,Vj,Vt] at hcc;obtain⟨rfl,rfl⟩:=hcc;exact (rX he).elim
 | goto l=>simp only[bq,Vj,Vt] at hcc;obtain⟨rfl,rfl⟩:=hcc;exact (rX he).elim
 | refuse y=>simp only[bq,Vj,Vt] at hcc;obtain⟨rfl,rfl⟩:=hcc;exact (rX he).elim
theorem Ie {tab:List TabRow}(ht:∀ r∈tab,cFn P r.muts r.f=some r.fn){f:Nat}{fn:AFn}(h:If f tab=some fn):∃ muts,cFn P muts f=some fn:=by
 induction tab with
 | nil=>cases h
 | cons r q ih=>
   simp only[If] at h
   split at h
   ·rename_i hf
    cases h
    exact⟨r.muts,hf▸ht r (by simp)⟩
   ·exact ih (fun r hr=>ht r (by simp[hr])) h
theorem EB {tab:List TabRow}{O:Nat->List PV->Option PV}{m:Nat}(ht:∀ r∈tab,cFn P r.muts r.f=some r.fn)(hO:∀ f ps r,O f ps=some r->ae P G f ps r):∀ n,fZ P G (exF tab O G m n)
 | 0=>by intro f args sto next v sto' next' h;simp[exF] at h
 | n+1=>by
   intro f args sto next v sto' next' h
   simp only[exF] at h
   split at h
   ·rename_i r hr
    cases h
    simp only[Option.bind_eq_some_iff] at hr
    obtain⟨ps,h1,h2⟩:=hr
    refine⟨bz.refl _ _,?_⟩
    exact .inl ⟨ps,r,h1,hO f ps r h2,rfl,rfl,rfl⟩
   ·split at h
    ·rename_i fn hfn
     obtain⟨muts,hcf⟩:=Ie ht hfn
     split at h
     ·rename_i hl
      have grow:∀ (e:AExit) (s:St),exC (exF tab O G m n) G m fn.body ⟨dB args,sto,next⟩=some (e,s)->yA G fn s=some (v,sto',next')->bz sto next sto' next':=by
       intro e s h1 h2
       have:=rB (EB ht hO n) m fn.body _ e s h1
       unfold yA at h2
       split at h2
       ·cases h2;exact this
       ·cases h2
      have fin:∀ (e:AExit) (s:St),(e = .norm\/e = .ret)->exC (exF tab O G m n) G m fn.body ⟨dB args,sto,next⟩=some (e,s)->yA G fn s=some (v,sto',next')->ct P G f args sto next (fun v' s' n'=>v'=v/\s'=sto'/\n'=next'):=by
       intro e s he h1 h2
       refine ct.of_code hcf hl fun c κ N a w co rl li hG hk hf hb hR=>?_
       refine Go.wpIn_mono (Qr (EB ht hO n) hG m co fn.body _ _ _ _ a w κ e s hb h1 hR) ?_
       have hout:∀ s1,s1=s->aL (fG G s1 fn.res) (J5 (fun v' s' n'=>v'=v/\s'=sto'/\n'=next') s1):=by
        rintro s1 rfl
        unfold yA at h2
        split at h2
        ·rename_i l hl2
         cases h2
         rw[hl2]
         exact⟨rfl,rfl,rfl⟩
        ·cases h2
       intro e1 a w hq
       cases e1 with
       | normal=>
         obtain⟨s1,κ1,hR1,he1,hs1⟩:=hq
         exact⟨s1,κ1,hR1,hout s1 hs1⟩
       | ret=>
         obtain⟨s1,κ1,hR1,he1,hs1⟩:=hq
         exact⟨s1,κ1,hR1,hout s1 hs1⟩
       | exit id=>
         obtain⟨s1,κ1,hR1,he1,hs1⟩:=hq
         rcases he with rfl | rfl<;>cases he1
       | goto l=>exact hq.elim
       | panic ch=>exact hq.elim
       | outgrown=>exact hq.elim
      split at h
      ·rename_i s1 h1;exact⟨grow _ _ h1 h,.inr (fin _ _ (.inl rfl) h1 h)⟩
      ·rename_i s1 h1;exact⟨grow _ _ h1 h,.inr (fin _ _ (.inr rfl) h1 h)⟩
      ·cases h
     ·cases h
    ·cases h
theorem ae.of_ex {tab:List TabRow}{O:Nat->List PV->Option PV}{m n:Nat}{f:Nat}{ps:List PV}{r:PV}(ht:∀ r∈tab,cFn P r.muts r.f=some r.fn)(hO:∀ f ps r,O f ps=some r->ae P G f ps r)
  (h:dA (exF tab O G m n) f ps=some r):ae P G f ps r:=
 vB (EB ht hO n) h
end
open Go.Sort
theorem bM {P:Program}{G:Nat->List PV}{f:Nat}{args:List PV}{r:PV}(hc:b9 P f=true)
  (h:∀ (w:World) (imm:Nat->Nat->Prop) (vals:Array Value),bG G w imm->vals.size=args.length->(∀ (i:Nat) (x:PV),args[i]? = some x->PRel w imm x (vals.getD i Go.undef)) ->
   Calls P f vals w fun e w'=>∃ u,e = .returned u/\Below w.heap.size w w'/\PRel w' imm r u):ae P G f args r:=by
 refine⟨hc,fun w imm vals hG hlt hsz hargs=>(h w imm vals hG hsz hargs).mono ?_⟩
 rintro e w' ⟨u,rfl,hb,hr⟩
 exact⟨u,imm,rfl,hb,fun _ _ h=>h,fun _ _ h=>.inl h,fun b o h=>Nat.lt_of_lt_of_le (hlt b o h) hb.size,hr⟩
theorem lf {w:World}{imm:Nat->Nat->Prop}{l:List UInt8}(h:l.length<=maxLen):PRel w imm (.str l) (.string ⟨l.toArray⟩):=by
 have:=PRel.str (w:=w) (imm:=imm) ⟨l.toArray⟩ (by show l.toArray.size<=maxLen;simpa using h)
 simpa using this
theorem dX {w:World}{imm:Nat->Nat->Prop}{l:List UInt8}{v:Value}(h:PRel w imm (.str l) v):v = .string ⟨l.toArray⟩/\l.length<=maxLen:=by
 cases h with
 | str s hs=>exact⟨by simp,hs⟩
theorem Bh {vals:Array Value}(h:vals.size=1):vals = #[vals.getD 0 Go.undef]:=by
 apply Array.ext
 ·simp[h]
 ·intro i h1 h2
  have:i=0:=by omega
  subst this
  simp[Vn,h]
theorem uH {vals:Array Value}(h:vals.size=2):vals = #[vals.getD 0 Go.undef,vals.getD 1 Go.undef]:=by
 apply Array.ext
 ·simp[h]
 ·intro i h1 h2
  have:i=0\/i=1:=by omega
  rcases this with rfl | rfl<;>simp[Vn,h]
def bT:Nat->Nat->List UInt8
 | 0,_=>[]
 | n+1,k=>if k<10 then [VT (48+k)] else bT n (k / 10)++[VT (48+k % 10)]
def gY (n:Int):List UInt8:=if n<0 then 45::bT 20 n.natAbs else bT 20 n.toNat
theorem mI:∀ (f k:Nat),k<10 ^ f->0<f->bT f k=Lib.decDigits k
 | 0,k,_,h=>absurd h (by simp)
 | f+1,k,hk,_=>by
   rw[bT,Lib.decDigits]
   by_cases h:k<10
   ·simp[h]
   ·rw[if_neg h,dif_neg h]
    have h10:k / 10<10 ^ f:=by
     rw[Nat.pow_succ] at hk
     exact Nat.div_lt_of_lt_mul (by rw[Nat.mul_comm];exact hk)
    rw[mI f (k / 10) h10 (by
     rcases Nat.eq_zero_or_pos f with h0 | h0
     ·subst h0
      simp at hk
      omega
     ·exact h0)]
theorem jJ:∀ (f k:Nat),(bT f k).length<=f
 | 0,k=>by simp[bT]
 | f+1,k=>by
   rw[bT]
   split
   ·simp
   ·have:=jJ f (k / 10)
    simp;omega
theorem vW {n:Int}(h0:-9223372036854775808<=n)(h1:n<=9223372036854775807):gY n=Lib.itoa n:=by
 have e:(10:Nat) ^ 20=100000000000000000000:=by decide
 unfold gY Lib.itoa
 split
 ·rw[mI 20 n.natAbs (by rw[e];omega) (by decide)]
 ·rw[mI 20 n.toNat (by rw[e];omega) (by decide)]
theorem rj (n:Int):(gY n).length<=21:=by
 unfold gY
 split
 ·have:=jJ 20 n.natAbs
  simp;omega
 ·have:=jJ 20 n.toNat
  omega
theorem Gp {P:Program}{G:Nat->List PV}{w:World}{imm:Nat->Nat->Prop}{name:String}{k:IntKind}{zs:List Int}{g:Nat}(hn:P.globalNamed name=some g)(hG:G g=zs.map (PV.int k))(hz:zs≠[])(h:bG G w imm) :
  Lib.TabIs P w name k zs:=by
 obtain⟨cs,T,fz,h1,h2⟩:=h.2 g (by rw[hG];simpa using hz)
 have hcs:cs=(zs.map fun z=>Value.int k z).toArray:=by
  rw[hG] at h2
  simp only[Vv] at h2
  apply Array.ext
  ·simp[h2]
  ·intro i hi hi'
   have hiz:i<zs.length:=by omega
   obtain⟨_,v,h3,_,h4⟩:=h.1 g i (.int k zs[i]) (by rw[hG];simp[hiz])
   have hv:v = .int k zs[i]:=by cases h4;rfl
   have hc:=cell_of_row w g i cs T fz h1
   rw[h3,hv] at hc
   have:=(Array.getElem?_eq_some_iff.1 hc.symm).2
   simp[this]
 unfold Lib.TabIs World.var?
 rw[hn]
 simp only[Option.bind_some,h1]
 rw[hcs]
theorem DQ {P:Program}{G:Nat->List PV}{f g:Nat}{name:String}(hc:b9 P f=true)(hn:P.globalNamed name=some g)(hG:G g=Lib.pow10Tab.map (PV.int .u64))
  (h:∀ (n:Int) (h0:-9223372036854775808<=n) (h1:n<=9223372036854775807) (w:World) (htab:Lib.TabIs P w name .u64 Lib.pow10Tab),
   Calls P f #[.int .i64 n] w fun e w'=>e = .returned (.string ⟨(Lib.itoa n).toArray⟩)/\∃ k os,w'=Sort.grow (w.drewN k) os)
  (n:Int) (h0:-9223372036854775808<=n) (h1:n<=9223372036854775807):ae P G f [.int .i64 n] (.str (gY n)):=by
 refine bM hc fun w imm vals hGl hsz hargs=>?_
 have hv:=Bh hsz
 have h2:=hargs 0 (.int .i64 n) rfl
 have h3:vals.getD 0 Go.undef = .int .i64 n:=by
  generalize vals.getD 0 Go.undef=x at h2
  cases h2;rfl
 rw[hv,h3]
 refine (h n h0 h1 w (Gp hn hG (by
  intro e
  have:=congrArg List.length e
  rw[Lib.pow10Tab_length] at this
  simp at this) hGl)).mono ?_
 rintro e w' ⟨rfl,k,os,rfl⟩
 refine⟨_,rfl,Lib.below_grow _ w (Vw _) k os,?_⟩
 rw[vW h0 h1,<- vW h0 h1]
 refine lf ?_
 have:=rj n
 unfold maxLen;omega
theorem rN {P:Program}{G:Nat->List PV}{f:Nat}(hc:b9 P f=true)
  (h:∀ (a b:ByteArray) (w:World),Calls P f #[.string a,.string b] w fun e w'=>e = .returned (.int .i64 (Lib.compareBytes a.data.toList b.data.toList))/\w'=w) (a b:List UInt8) :
  ae P G f [.str a,.str b] (.int .i64 (Lib.compareBytes a b)):=by
 refine bM hc fun w imm vals hGl hsz hargs=>?_
 have hv:=uH hsz
 obtain⟨ha,_⟩:=dX (hargs 0 (.str a) rfl)
 obtain⟨hb,_⟩:=dX (hargs 1 (.str b) rfl)
 rw[hv,ha,hb]
 refine (h _ _ w).mono ?_
 rintro e w' ⟨rfl,rfl⟩
 refine⟨_,rfl,Below.refl _ _,?_⟩
 simpa using PRel.int (w:=w') (imm:=imm) .i64 (Lib.compareBytes a b)
section
variable {P:Program}{G:Nat->List PV}
theorem dU {F:List (List Nat×List Nat)->St->Prop}{T:List (List Nat×List Nat)}{e:List (Nat×AV)}{σ:List (Nat×Blk)}{next d:Nat}{a b args:List AV}
  {k f:Nat} {args0:List AV} {bs:List Blk} {v:AV} {bs':List Blk} (h:bk P G k f args0 bs v bs') (rs:List Nat)
  (hok:vT k rs bs bs' next=true) (hargs:AVzL (a++args++b) (AV.renL (gSo next rs) args0)) (hbs:gN σ (gSo next rs) rs bs)
  (hk:F (T++[fF 2 (aW (pH (gSo next (rs.take k)) bs' 0 (gIn next (rs.take k))++fx (rs.drop k)).reverse) (σ.map (·.1))])
   ⟨(d,v.ren (gSo next (rs.take k)))::e,pH (gSo next (rs.take k)) bs' 0 (gIn next (rs.take k))++(fx (rs.drop k)++σ),next+(bs'.length - k)⟩):j6 P G F T ⟨e,σ,next⟩ (some d) args (f,a,b):=by
 simp only[vT,Vr,decide_eq_true_eq,VM] at hok
 obtain⟨⟨⟨⟨h1,h2⟩,h3⟩,h4⟩,h5⟩:=hok
 have hf:=h.frame hargs hbs h5 h4 h1 h2 (fun b hb e=>by
  have:=h3 b hb
  subst e;cases this)
 have e:m5 σ (pH (gSo next (rs.take k)) bs' 0 (gIn next (rs.take k))++fx (rs.drop k)).reverse=pH (gSo next (rs.take k)) bs' 0 (gIn next (rs.take k))++(fx (rs.drop k)++σ):=by
  rw[oy,List.reverse_reverse,VQ]
 refine um (δ:=(pH (gSo next (rs.take k)) bs' 0 (gIn next (rs.take k))++fx (rs.drop k)).reverse) (top:=next+(bs'.length - k)) (hf.mono fun v' s n hq=>⟨hq.1,?_,hq.2.2⟩) (by omega) ?_
 ·rw[e];exact hq.2.1
 ·rw[e];exact hk
end
def zw:List AV->List AV
 | []=>[]
 | x::r=>x.cells++zw r
theorem El:zw []=[]:=_root_.id rfl
theorem zu (x:AV)(r:List AV):zw (x::r)=x.cells++zw r:=_root_.id rfl
theorem wl:∀ l:List AV,l.flatMap AV.cells=zw l
 | []=>rfl
 | x::r=>by rw[Wy,wl r];rfl
section
variable {P:Program}{G:Nat->List PV}
theorem QV {b:Bool}(h:b=true):Chk b:=h
theorem TG {e sz len new:Nat}{vs:List AV}(h:Chk (decide (vs.length=len)&&decide (len<=9223372036854775807)&&vs.all (fun v=>v.known&&v.cells.length == sz&&v.cells.all AV.one))):eT true e sz len new vs=some (.row new sz 0 len,[(new,.cells e true (zw vs))]):=by
 have h':=h
 simp only[Chk,Vr,decide_eq_true_eq] at h'
 obtain⟨⟨h1,h2⟩,h3⟩:=h'
 simp only[eT]
 rw[if_pos ⟨h1,h2⟩,if_pos h3,wl]
theorem qD:∀ l:List PV,pvs (l.map .pv)=some l
 | []=>rfl
 | x::r=>by simp[pvs,AV.toPV,qD r]
end
attribute [push_cast] TG El zu
section
variable {α β:Type}
def jP (p:Nat->Bool):Nat->Bool
 | 0=>true
 | n+1=>jP p n&&p n
theorem jb {p:Nat->Bool}:∀ {n:Nat},jP p n=true↔∀ k,k<n->p k=true
 | 0=>by simp[jP]
 | n+1=>by
   rw[jP,Vr,jb]
   constructor
   ·rintro⟨h1,h2⟩ k hk
    rcases Nat.lt_succ_iff_lt_or_eq.1 hk with h | h
    ·exact h1 k h
    ·rw[h];exact h2
   ·exact fun h=>⟨fun k hk=>h k (by omega),h n (by omega)⟩
theorem bd {p:Nat->Bool}{k n:Nat}(h:p k=false)(hk:k<n):jP p n=false:=by
 cases ha:jP p n with
 | false=>rfl
 | true=>rw[jb.1 ha k hk] at h;cases h
theorem bD {l:List α}{m:Nat}{x:α}(h:l[m]? = some x):l.drop m=x::l.drop (m+1):=by
 obtain⟨h1,h2⟩:=Vh.1 h
 rw[List.drop_eq_getElem_cons h1,h2]
theorem pu {l:List α}{m:Nat}(h:¬ m<l.length):l.drop m=[]:=List.drop_eq_nil_of_le (by omega)
theorem ku {l:List α}{m:Nat}(h:¬ m<l.length):l.take m=l:=VC (by omega)
theorem wm {l:List α}{m:Nat}{x:α}{p:α->Bool}(h:l[m]? = some x)(hp:p x=true):(l.drop m).find? p=some x:=by
 rw[bD h,List.find?_cons,hp]
theorem rA {l:List α}{m:Nat}{x:α}{p:α->Bool}(h:l[m]? = some x)(hp:p x=false):(l.drop m).find? p=(l.drop (m+1)).find? p:=by
 rw[bD h,List.find?_cons,hp]
theorem wn {l:List α}{m:Nat}{p:α->Bool}(h:¬ m<l.length):(l.drop m).find? p=none:=by rw[pu h];rfl
theorem NT {l:List α}{m:Nat}{x:α}{p:α->Bool}(h:l[m]? = some x)(hp:p x=true):(l.drop m).any p=true:=by
 rw[bD h,List.any_cons,hp];rfl
theorem Jw {l:List α}{m:Nat}{x:α}{p:α->Bool}(h:l[m]? = some x)(hp:p x=false):(l.drop m).any p=(l.drop (m+1)).any p:=by
 rw[bD h,List.any_cons,hp];rfl
theorem NU {l:List α}{m:Nat}{p:α->Bool}(h:¬ m<l.length):(l.drop m).any p=false:=by rw[pu h];rfl
def fB (p:α->Bool):List α->Nat->Int
 | [],_=>-1
 | x::r,m=>if p x=true then (m:Int) else fB p r (m+1)
theorem fN {l:List α}{m:Nat}{x:α}{p:α->Bool}(h:l[m]? = some x)(hp:p x=true):fB p (l.drop m) m=m:=by
 rw[bD h,fB,if_pos hp]
theorem dR {l:List α}{m:Nat}{x:α}{p:α->Bool}(h:l[m]? = some x)(hp:p x=false):fB p (l.drop m) m=fB p (l.drop (m+1)) (m+1):=by
 rw[bD h,fB,if_neg (by rw[hp];simp)]
theorem fO {l:List α}{m:Nat}{p:α->Bool}(h:¬ m<l.length):fB p (l.drop m) m = -1:=by rw[pu h];rfl
theorem bZ {p:α->Bool}:∀ (l:List α) (m:Nat),(l.find? p=none/\fB p l m = -1)\/∃ (k:Nat) (x:α),l[k]? = some x/\l.find? p=some x/\fB p l m=((m+k:Nat):Int)
 | [],m=>.inl ⟨rfl,rfl⟩
 | x::r,m=>by
   cases hx:p x with
   | true=>exact .inr ⟨0,x,rfl,by rw[List.find?_cons,hx],by rw[fB,if_pos hx];rfl⟩
   | false=>
     rw[List.find?_cons,hx,fB,if_neg (by rw[hx];simp)]
     rcases bZ r (m+1) with ⟨h1,h2⟩ | ⟨k,y,h1,h2,h3⟩
     ·exact .inl ⟨h1,h2⟩
     ·exact .inr ⟨k+1,y,by simpa using h1,h2,by rw[h3];congr 1;omega⟩
theorem iR {p:α->Bool}(l:List α):(l.find? p).isSome=l.any p:=by
 induction l with
 | nil=>rfl
 | cons x r ih=>rw[List.find?_cons,List.any_cons];cases p x<;>simp[ih]
def Ux:Option (List UInt8)->Option AV
 | some l=>some (.pv (.str l))
 | none=>none
def KB (n:Int):Option (List UInt8)->Option (List UInt8)
 | some l=>some (VT n.toNat::l)
 | none=>none
theorem Da (l:List UInt8):Ux (some l)=some (.pv (.str l)):=_root_.id rfl
theorem mS (n:Int)(l:List UInt8):KB n (some l)=some (VT n.toNat::l):=_root_.id rfl
theorem Lh:u8s []=some []:=_root_.id rfl
theorem uN (n:Int)(r:List PV):u8s (.int .u8 n::r)=KB n (u8s r):=by
 simp only[u8s];cases u8s r<;>rfl
theorem pO:∀ l:List UInt8,u8s (l.map fun b=>PV.int .u8 (b.toNat:Int))=some l
 | []=>rfl
 | b::r=>by rw[VG,uN,pO r,mS];simp
theorem Gi (σ:aw)(r:Nat)(l:List PV):iw σ (.olist r 1 l)=Ux (u8s l):=by
 simp only[iw,bJ,if_true];cases u8s l<;>rfl
end
theorem yR (G:Nat->List PV)(e:List (Nat×AV))(σ:List (Nat×Blk))(new:Nat)(x:AX):oY G e σ new (.toStr x)=gO [] (iw (fun r=>lookB r σ) (evE e x)):=by
 simp only[oY];cases iw (fun r=>lookB r σ) (evE e x)<;>rfl
theorem cZ {a b:Int}(h:0<=a):a.tdiv b=a / b:=Int.tdiv_eq_ediv_of_nonneg h
theorem cY {a b:Int}(h:0<=a):a.tmod b=a % b:=Int.tmod_eq_emod_of_nonneg h
def Jk:Option UInt8->Option AV
 | some b=>some (.pv (.int .u8 (b.toNat:Int)))
 | none=>none
theorem am (b:UInt8):Jk (some b)=some (.pv (.int .u8 (b.toNat:Int))):=_root_.id rfl
theorem jt (l:List UInt8)(k:IntKind)(i:Nat):iz (.pv (.str l)) (.pv (.int k (i:Int)))=Jk l[i]?:=by
 simp only[iz,Int.toNat_natCast]
 rw[if_pos (by omega)]
 cases l[i]? <;> rfl
theorem sU (l:List UInt8)(k:IntKind):iz (.pv (.str l)) (.pv (.int k 0))=Jk l[0]?:=jt l k 0
theorem sV (l:List UInt8)(k:IntKind)(i:Nat):iz (.pv (.str l)) (.pv (.int k ((i:Int)+1)))=Jk l[i+1]?:=jt l k (i+1)
attribute [push_cast] am jt sU sV yR cZ cY Da mS Lh uN pO Gi
def sm (p:Nat):List UInt8:=
 if p<128 then [VT p]
 else if p<2048 then [VT (192+p / 64),VT (128+p % 64)]
 else if p<65536 then [VT (224+p / 4096),VT (128+p / 64 % 64),VT (128+p % 64)]
 else [VT (240+p / 262144),VT (128+p / 4096 % 64),VT (128+p / 64 % 64),VT (128+p % 64)]
def ka (p:Nat):Bool:=decide (p<=1114111)&&(decide (p<55296)||decide (57343<p))
def mK (l:List UInt8):Nat×Nat:=
 if l=[] then (0,0) else if Lib.decodeL l=(65533,1) then (0,0) else Lib.decodeL l
def byN (l:List UInt8)(i:Nat):Nat:=(l.getD i 0).toNat
theorem gM {l:List UInt8}{i:Nat}{b:UInt8}(h:l[i]? = some b):byN l i=b.toNat:=by
 rw[byN,Vm,h];rfl
theorem gL (l:List UInt8)(i:Nat):byN l i<256:=UInt8.toNat_lt _
theorem oz {n:Nat}{b:UInt8}(h:n<256):VT n=b↔n=b.toNat:=by
 constructor
 ·rintro rfl;simp[UInt8.toNat_ofNat',Nat.mod_eq_of_lt h]
 ·rintro rfl;exact UInt8.ofNat_toNat
def S6 (p:Nat×Nat):Nat×Nat:=if p=(65533,1) then (0,0) else p
theorem g7:S6 (65533,1)=(0,0):=rfl
theorem Nd {p n:Nat}(h:n≠1):S6 (p,n)=(p,n):=if_neg (by simp[h])
theorem rJ {l:List UInt8}(h:l≠[]):mK l=S6 (Lib.decodeN l.length (byN l 0) (byN l 1) (byN l 2) (byN l 3)):=by
 rw[mK,if_neg h,Lib.decodeL_N];rfl
theorem Tt {l:List UInt8}(h:l≠[])(h0:byN l 0<128):mK l=(byN l 0,1):=by
 rw[rJ h,Lib.decodeN,if_pos h0]
 exact if_neg (by simp;omega)
theorem ER {l:List UInt8}(h:l≠[])(h0:(128<=byN l 0/\byN l 0<192)\/248<=byN l 0):mK l=(0,0):=by
 have hlt:=gL l 0
 rw[rJ h,Lib.decodeN,if_neg (by omega),if_neg (by omega),if_neg (by omega),if_neg (by omega),g7]
theorem Ts {l:List UInt8}(h:l≠[])(h0:192<=byN l 0/\byN l 0<224) :
  mK l=if 1<l.length/\(128<=byN l 1/\byN l 1<192)/\128<=64*(byN l 0 - 192)+(byN l 1 - 128) then (64*(byN l 0 - 192)+(byN l 1 - 128),2) else (0,0):=by
 have hlt:=gL l 1
 rw[rJ h]
 generalize byN l 0=b0 at *
 generalize byN l 1=b1 at *
 generalize byN l 2=b2 at *
 generalize byN l 3=b3 at *
 unfold Lib.decodeN
 rw[if_neg (by omega)]
 by_cases hc:1<l.length/\b1 / 64=2
 ·rw[if_pos ⟨by omega,hc⟩]
  by_cases hp:b0 % 32*64+b1 % 64>=128
  ·rw[if_pos hp,Nd (by omega),if_pos ⟨hc.1,by omega,by omega⟩]
   exact Prod.ext (by simp only;omega) rfl
  ·rw[if_neg hp,g7,if_neg (by omega)]
 ·rw[if_neg (by omega),if_neg (by omega),if_neg (by omega),g7,if_neg (by omega)]
theorem Tq {l:List UInt8}(h:l≠[])(h0:224<=byN l 0/\byN l 0<240) :
  mK l=if 2<l.length/\(128<=byN l 1/\byN l 1<192)/\(128<=byN l 2/\byN l 2<192)/\(2048<=4096*(byN l 0 - 224)+64*(byN l 1 - 128)+(byN l 2 - 128)/\(4096*(byN l 0 - 224)+64*(byN l 1 - 128)+(byN l 2 - 128)<55296\/57343<4096*(byN l 0 - 224)+64*(byN l 1 - 128)+(byN l 2 - 128)))
   then (4096*(byN l 0 - 224)+64*(byN l 1 - 128)+(byN l 2 - 128),3) else (0,0):=by
 have hlt:=gL l 1
 have hlt2:=gL l 2
 rw[rJ h]
 generalize byN l 0=b0 at *
 generalize byN l 1=b1 at *
 generalize byN l 2=b2 at *
 generalize byN l 3=b3 at *
 unfold Lib.decodeN
 rw[if_neg (by omega),if_neg (by omega)]
 by_cases hc:(1<l.length/\b1 / 64=2)/\(2<l.length/\b2 / 64=2)
 ·rw[if_pos ⟨by omega,hc⟩]
  have e:b0 % 16*4096+b1 % 64*64+b2 % 64=4096*(b0 - 224)+64*(b1 - 128)+(b2 - 128):=by omega
  rw[e]
  have hp0:4096*(b0 - 224)+64*(b1 - 128)+(b2 - 128)<=65535:=by omega
  generalize 4096*(b0 - 224)+64*(b1 - 128)+(b2 - 128)=p at *
  by_cases hp:p>=2048/\(p<55296\/(57344<=p/\p<=1114111))
  ·rw[if_pos hp,Nd (by omega),if_pos ⟨hc.2.1,by omega,by omega,by omega⟩]
  ·rw[if_neg hp,g7,if_neg]
   rintro⟨_,_,_,h4,h5⟩
   omega
 ·rw[if_neg (by omega),if_neg (by omega),g7,if_neg (by omega)]
theorem Tp {l:List UInt8}(h:l≠[])(h0:240<=byN l 0/\byN l 0<248) :
  mK l=if 3<l.length/\(128<=byN l 1/\byN l 1<192)/\(128<=byN l 2/\byN l 2<192)/\(128<=byN l 3/\byN l 3<192) /\
    (65536<=262144*(byN l 0 - 240)+4096*(byN l 1 - 128)+64*(byN l 2 - 128)+(byN l 3 - 128)/\262144*(byN l 0 - 240)+4096*(byN l 1 - 128)+64*(byN l 2 - 128)+(byN l 3 - 128)<=1114111)
   then (262144*(byN l 0 - 240)+4096*(byN l 1 - 128)+64*(byN l 2 - 128)+(byN l 3 - 128),4) else (0,0):=by
 have hlt:=gL l 1
 have hlt2:=gL l 2
 have hlt3:=gL l 3
 rw[rJ h]
 generalize byN l 0=b0 at *
 generalize byN l 1=b1 at *
 generalize byN l 2=b2 at *
 generalize byN l 3=b3 at *
 unfold Lib.decodeN
 rw[if_neg (by omega),if_neg (by omega),if_neg (by omega)]
 by_cases hc:(1<l.length/\b1 / 64=2)/\(2<l.length/\b2 / 64=2)/\(3<l.length/\b3 / 64=2)
 ·rw[if_pos ⟨by omega,hc⟩]
  have e:b0 % 8*262144+b1 % 64*4096+b2 % 64*64+b3 % 64=262144*(b0 - 240)+4096*(b1 - 128)+64*(b2 - 128)+(b3 - 128):=by omega
  rw[e]
  generalize 262144*(b0 - 240)+4096*(b1 - 128)+64*(b2 - 128)+(b3 - 128)=p at *
  by_cases hp:p>=65536/\(p<55296\/(57344<=p/\p<=1114111))
  ·rw[if_pos hp,Nd (by omega),if_pos ⟨hc.2.2.1,by omega,by omega,by omega,by omega⟩]
  ·rw[if_neg hp,g7,if_neg]
   rintro⟨_,_,_,_,h4,h5⟩
   omega
 ·rw[if_neg (by omega),g7,if_neg (by omega)]
theorem JS {l:List UInt8}{a b:UInt8}(h0:l[0]? = some a)(h1:l[1]? = some b):l.take 2=[a,b]:=by
 rw[aD h1,aD h0];rfl
theorem JR {l:List UInt8}{a b c:UInt8}(h0:l[0]? = some a)(h1:l[1]? = some b)(h2:l[2]? = some c):l.take 3=[a,b,c]:=by
 rw[aD h2,JS h0 h1];rfl
theorem O9 {l:List UInt8}{a b c d:UInt8}(h0:l[0]? = some a)(h1:l[1]? = some b)(h2:l[2]? = some c)(h3:l[3]? = some d):l.take 4=[a,b,c,d]:=by
 rw[aD h3,JR h0 h1 h2];rfl
theorem Tf {a b:UInt8}(h0:192<=a.toNat/\a.toNat<224)(h1:128<=b.toNat/\b.toNat<192):sm (64*(a.toNat - 192)+(b.toNat - 128))=[a,b]↔128<=64*(a.toNat - 192)+(b.toNat - 128):=by
 unfold sm
 generalize hp:64*(a.toNat - 192)+(b.toNat - 128)=p
 by_cases h:p<128
 ·rw[if_pos h]
  constructor
  ·intro e;simp at e
  ·intro;omega
 ·rw[if_neg h,if_pos (by omega)]
  simp only[List.cons.injEq,and_true]
  rw[oz (by omega),oz (by omega)]
  omega
theorem Te {a b c:UInt8}(h0:224<=a.toNat/\a.toNat<240)(h1:128<=b.toNat/\b.toNat<192)(h2:128<=c.toNat/\c.toNat<192) :
  sm (4096*(a.toNat - 224)+64*(b.toNat - 128)+(c.toNat - 128))=[a,b,c]↔2048<=4096*(a.toNat - 224)+64*(b.toNat - 128)+(c.toNat - 128):=by
 unfold sm
 generalize hp:4096*(a.toNat - 224)+64*(b.toNat - 128)+(c.toNat - 128)=p
 by_cases h:p<128
 ·rw[if_pos h]
  constructor
  ·intro e;simp at e
  ·intro;omega
 ·rw[if_neg h]
  by_cases h':p<2048
  ·rw[if_pos h']
   constructor
   ·intro e;simp at e
   ·intro;omega
  ·rw[if_neg h',if_pos (by omega)]
   simp only[List.cons.injEq,and_true]
   rw[oz (by omega),oz (by omega),oz (by omega)]
   omega
theorem Tc {a b c d:UInt8}(h0:240<=a.toNat/\a.toNat<248)(h1:128<=b.toNat/\b.toNat<192)(h2:128<=c.toNat/\c.toNat<192)(h3:128<=d.toNat/\d.toNat<192)
  (hm:262144*(a.toNat - 240)+4096*(b.toNat - 128)+64*(c.toNat - 128)+(d.toNat - 128)<=1114111) :
  sm (262144*(a.toNat - 240)+4096*(b.toNat - 128)+64*(c.toNat - 128)+(d.toNat - 128))=[a,b,c,d]↔65536<=262144*(a.toNat - 240)+4096*(b.toNat - 128)+64*(c.toNat - 128)+(d.toNat - 128):=by
 unfold sm
 generalize hp:262144*(a.toNat - 240)+4096*(b.toNat - 128)+64*(c.toNat - 128)+(d.toNat - 128)=p at *
 by_cases h:p<128
 ·rw[if_pos h]
  constructor
  ·intro e;simp at e
  ·intro;omega
 ·rw[if_neg h]
  by_cases h':p<2048
  ·rw[if_pos h']
   constructor
   ·intro e;simp at e
   ·intro;omega
  ·rw[if_neg h']
   by_cases h'':p<65536
   ·rw[if_pos h'']
    constructor
    ·intro e;simp at e
    ·intro;omega
   ·rw[if_neg h'']
    simp only[List.cons.injEq,and_true]
    rw[oz (by omega),oz (by omega),oz (by omega),oz (by omega)]
    omega
theorem xu {l:List UInt8}(h:l≠[]):Lib.validD l=if (mK l).2=0 then false else Lib.validD (l.drop (mK l).2):=by
 rw[Lib.validD_step l h,mK,if_neg h]
 have hw:=Lib.decodeL_width l
 by_cases hb:Lib.decodeL l=(65533,1)
 ·rw[if_pos hb,if_pos (by rw[hb];simp),if_pos rfl]
 ·rw[if_neg hb,if_neg (fun hh=>hb (Prod.ext hh.1 hh.2)),if_neg (by omega)]
theorem Kt (l:List UInt8):(mK l).2<=l.length:=by
 unfold mK
 split
 ·simp
 ·split
  ·simp
  ·exact Lib.decodeL_le l ‹_›
section
variable {P:Program}{G:Nat->List PV}
end
theorem Jq {e sz by_ new:Nat}{σ:aw}{y:PV}{r:List PV}(h1:r.length+1<=9223372036854775807)(h2:(r.length+1)*by_<=140737488355328):fX true e sz by_ new σ (.pv .nils) (some (y::r))=some (.row new sz 0 (r.length+1),[(new,.cells e false (bC (y::r)))]):=by
 simp only[fX];rw[if_pos (gT (by omega) (by simpa using h2))]
section
variable (e:List (Nat×AV))(σ:List (Nat×Blk))(new:Nat)
theorem P6 (G:Nat->List PV)(o:XOp):oY G e σ new (.xop o)=nv e σ new o:=_root_.id rfl
theorem Ia (o:XOp):iI e (.xop o)=uE e o:=_root_.id rfl
end
attribute [push_cast] Jq P6 Ia

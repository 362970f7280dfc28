/- A program logic over the model: part 6 (a proof is built on it; nothing of the statement is said here). -/
import Derived.Lib.Join
import Derived.Lib.ItoaNum
import Derived.Lib.LaidTab
import Derived.Lib.AppendIntMem
import Derived.Lib.Strings
import Derived.Lib.Bytealg
import Derived.Lib.ValidLaws
import Derived.ChangeShapes
import Derived.ProofKit
import Derived.OpenShut
import Derived.ShutString
import Derived.ChangeOld
import Derived.Carry
import Derived.WideShapes
import Derived.Deep.DeepHandedRow
import Derived.Lib.LaidU8T
import Derived.Test.YtamoeblcphjbaaaGreatDoorCore5
set_option linter.unusedVariables false
set_option linter.unusedSimpArgs false
namespace Go.Ab
open Go Go.RowKit
theorem Dy (k k':IntKind)(x y:Int):Ic (.pv (.int k x)) (.pv (.int k' y))=some (.pv (.int k (min x y))):=by
 simp only[Ic,Option.some.injEq,AV.pv.injEq,PV.int.injEq,true_and]
 split<;>omega
theorem Dz (k k':IntKind)(x y:Int):Id (.pv (.int k x)) (.pv (.int k' y))=some (.pv (.int k (max x y))):=by
 simp only[Id,Option.some.injEq,AV.pv.injEq,PV.int.injEq,true_and]
 split<;>omega
theorem sU (a:Nat)(b:Int):(min (a:Int) b).toNat=min a b.toNat:=by omega
theorem oK (a:Nat)(b:Int):(min b (a:Int)).toNat=min b.toNat a:=by omega
theorem mf {α:Type}(l:List α)(n:Nat):l.take (min l.length n)=l.take n:=by
 rcases Nat.le_total l.length n with h | h
 ·rw[Nat.min_eq_left h,List.take_length,List.take_of_length_le h]
 ·rw[Nat.min_eq_right h]
theorem w8 {α:Type}(l:List α)(n:Nat):l.take (min n l.length)=l.take n:=by rw[Nat.min_comm,mf]
theorem map_take {α β:Type}(f:α→β)(l:List α)(n:Nat):(l.map f).take n=(l.take n).map f:=List.map_take.symm
theorem map_drop {α β:Type}(f:α→β)(l:List α)(n:Nat):(l.map f).drop n=(l.drop n).map f:=List.map_drop.symm
theorem yY {α β:Type}(f:α→β):(none:Option α).map f=none:=_root_.id rfl
def ey (mu:Bool)(e sz by_ new:Nat)(σ:aq)(x:AV):Option (List PV)→Option (AV×List (Nat×Blk))
 | some ys=>match mu,x with
   | false,.pv .nils=>match ys with
     | []=>some (.pv .nils,[])
     | y::r=>if j4 0 (r.length+1) by_=true then some (.olist new sz (y::r),[(new,.tok e sz)]) else none
   | false,.olist q s l=>match σ q with
     | .tok e' sz'=>if e'=e∧sz'=sz∧s=sz∧j4 l.length ys.length by_=true then some (.olist new sz (l++ys),[(q,.none),(new,.tok e sz)]) else none
     | _=>none
   | true,.pv .nils=>match ys with
     | []=>some (.pv .nils,[])
     | y::r=>if j4 0 (r.length+1) by_=true then some (.row new sz 0 (r.length+1),[(new,.cells e false (bj (y::r)))]) else none
   | true,.row q s off len=>match σ q with
     | .cells e' _ l=>if e'=e∧s=sz∧off=0∧len*sz≤l.length∧j4 len ys.length by_=true then some (.row new sz 0 (len+ys.length),[(q,.none),(new,.cells e false (l.take (len*sz)++bj ys))]) else none
     | _=>none
   | _,_=>none
 | none=>none
def FM (e sz by_ new q s:Nat)(l ys:List PV):Blk→Option (AV×List (Nat×Blk))
 | .tok e' sz'=>if e'=e∧sz'=sz∧s=sz∧j4 l.length ys.length by_=true then some (.olist new sz (l++ys),[(q,.none),(new,.tok e sz)]) else none
 | _=>none
def oh (e sz by_ new q s off len:Nat)(ys:List PV):Blk→Option (AV×List (Nat×Blk))
 | .cells e' _ l=>if e'=e∧s=sz∧off=0∧len*sz≤l.length∧j4 len ys.length by_=true then some (.row new sz 0 (len+ys.length),[(q,.none),(new,.cells e false (l.take (len*sz)++bj ys))]) else none
 | _=>none
theorem tK (mu:Bool)(e sz by_ new:Nat)(σ:aq)(x y:AV):dm mu e sz by_ new σ x y=ey mu e sz by_ new σ x (aY σ sz y):=by
 unfold dm ey
 cases aY σ sz y<;>rfl
theorem No (e sz by_ new:Nat)(σ:aq)(q s:Nat)(l ys:List PV):ey false e sz by_ new σ (.olist q s l) (some ys)=FM e sz by_ new q s l ys (σ q):=by
 simp only[ey,FM]
theorem FL {e sz by_ new q:Nat}{l ys:List PV}(h1:l.length+ys.length≤9223372036854775807)(h2:(l.length+ys.length)*by_≤140737488355328):FM e sz by_ new q sz l ys (.tok e sz)=some (.olist new sz (l++ys),[(q,.none),(new,.tok e sz)]):=by
 simp[FM,eh h1 h2]
theorem FK (e sz by_ new:Nat)(σ:aq):ey false e sz by_ new σ (.pv .nils) (some [])=some (.pv .nils,[]):=_root_.id rfl
theorem FJ {e sz by_ new:Nat}{σ:aq}{y:PV}{r:List PV}(h1:r.length+1≤9223372036854775807)(h2:(r.length+1)*by_≤140737488355328):ey false e sz by_ new σ (.pv .nils) (some (y::r))=some (.olist new sz (y::r),[(new,.tok e sz)]):=by
 simp only[ey];rw[if_pos (eh (by omega) (by simpa using h2))]
theorem JR (e sz by_ new:Nat)(σ:aq)(q s off len:Nat)(ys:List PV):ey true e sz by_ new σ (.row q s off len) (some ys)=oh e sz by_ new q s off len ys (σ q):=by
 simp only[ey,oh]
theorem lL {e sz by_ new q len:Nat}{f:Bool}{l:List AV}{ys:List PV}(h0:len*sz≤l.length)(h1:len+ys.length≤9223372036854775807)(h2:(len+ys.length)*by_≤140737488355328) :
  oh e sz by_ new q sz 0 len ys (.cells e f l)=some (.row new sz 0 (len+ys.length),[(q,.none),(new,.cells e false (l.take (len*sz)++bj ys))]):=by
 simp[oh,h0,eh h1 h2]
theorem vT {e sz by_ new q:Nat}{f:Bool}{l:List AV}{ys:List PV}(h1:ys.length≤9223372036854775807)(h2:ys.length*by_≤140737488355328) :
  oh e sz by_ new q sz 0 0 ys (.cells e f l)=some (.row new sz 0 ys.length,[(q,.none),(new,.cells e false (bj ys))]):=by
 have:=eh (n:=0) (m:=ys.length) (by_:=by_) (by omega) (by simpa using h2)
 simp[oh,this]
def sd (l:List PV):Bool→Option (List PV)
 | true=>some l
 | false=>none
theorem ve (σ:aq)(sz:Nat):aY σ sz (.pv .nils)=some []:=_root_.id rfl
theorem vf (σ:aq)(sz:Nat)(l:List PV):aY σ sz (.pv (.list l))=sd l (l.all fun y=>y.cells.length == sz):=by
 simp only[aY]
 cases l.all (fun y=>y.cells.length == sz)<;>rfl
theorem vg (l:List PV):sd l true=some l:=_root_.id rfl
theorem qn (σ:aq)(sz r:Nat)(l:List PV):aY σ sz (.olist r sz l)=some l:=by simp[aY]
def Nf (e sz new:Nat):Option (List PV)→Option (AV×List (Nat×Blk))
 | some ps=>if ps.all (fun p=>p.cells.length == sz&&p.cells.all PV.one)=true then some (.olist new sz ps,[(new,.tok e sz)]) else none
 | none=>none
theorem PQ {e sz len new:Nat}{vs:List AV}(h:vs.length=len)(h2:len≤9223372036854775807):cN false e sz len new vs=Nf e sz new (pvs vs):=by
 simp only[cN,h,h2,true_and,if_true,Nf]
 cases pvs vs<;>rfl
def QG (e sz new:Nat)(ps:List PV):Bool→Option (AV×List (Nat×Blk))
 | true=>some (.olist new sz ps,[(new,.tok e sz)])
 | false=>none
theorem Nd (e sz new:Nat)(ps:List PV):QG e sz new ps true=some (.olist new sz ps,[(new,.tok e sz)]):=_root_.id rfl
theorem BE (e sz new:Nat)(ps:List PV):Nf e sz new (some ps)=QG e sz new ps (ps.all fun p=>p.cells.length == sz&&p.cells.all PV.one):=by
 simp only[Nf]
 cases ps.all (fun p=>p.cells.length == sz&&p.cells.all PV.one)<;>rfl
theorem BF (e sz new:Nat):Nf e sz new none=none:=_root_.id rfl
theorem Nb {e sz new:Nat}:cN true e sz 0 new []=some (.row new sz 0 0,[(new,.cells e true [])]):=by
 simp[cN]
theorem fF (b:Bool):PV.one (.bool b)=true:=_root_.id rfl
theorem iX (k:IntKind)(n:Int):PV.one (.int k n)=true:=_root_.id rfl
theorem iW (s:List UInt8):PV.one (.str s)=true:=_root_.id rfl
theorem Eb:PV.one .nils=true:=_root_.id rfl
theorem fE (l:List PV):PV.one (.list l)=true:=_root_.id rfl
theorem Iq (p:PV):AV.one (.pv p)=p.one:=_root_.id rfl
theorem Ed (r o:Nat):AV.one (.ptr r o)=true:=_root_.id rfl
theorem Ec (r s o n:Nat):AV.one (.row r s o n)=true:=_root_.id rfl
theorem uc (r s:Nat)(l:List PV):AV.one (.olist r s l)=true:=_root_.id rfl
theorem Ee (f:Nat)(a b:List AV):AV.one (.clo f a b)=true:=_root_.id rfl
def pw (sz:Nat)(l:List PV)(h:Nat):Option Nat→Option AV
 | some a=>if KV sz l a=true then some (.pv (.list ((l.take h).drop a))) else none
 | none=>none
def mS (sz:Nat)(l:List PV)(lo:Option AV):Option Nat→Option AV
 | some h=>pw sz l h (aV 0 h lo)
 | none=>none
theorem mC (sz:Nat)(l:List PV)(lo hi:Option AV):cL sz (.pv (.list l)) lo hi=mS sz l lo (aV l.length l.length hi):=by
 show Gn sz l lo hi=_
 unfold Gn mS pw
 cases aV l.length l.length hi with
 | none=>rfl
 | some h=>simp only;cases aV 0 h lo<;>rfl
theorem kU (sz r s:Nat)(l:List PV)(lo hi:Option AV):cL sz (.olist r s l) lo hi=mS sz l lo (aV l.length l.length hi):=by
 show Gn sz l lo hi=_
 unfold Gn mS pw
 cases aV l.length l.length hi with
 | none=>rfl
 | some h=>simp only;cases aV 0 h lo<;>rfl
theorem pu (sz:Nat)(l:List PV)(lo:Option AV)(h:Nat):mS sz l lo (some h)=pw sz l h (aV 0 h lo):=_root_.id rfl
theorem ue (sz:Nat)(l:List PV)(h:Nat):pw sz l h (some 0)=some (.pv (.list (l.take h))):=by
 simp[pw,KV]
theorem uf {sz:Nat}{l:List PV}{h a:Nat}(hs:KV sz l a=true):pw sz l h (some a)=some (.pv (.list ((l.take h).drop a))):=if_pos hs
theorem ud (sz:Nat)(l:List PV)(i:Nat)(y:PV):eU sz l i (some y)=if y.cells.length=sz then some (.pv (.eptr l i 0)) else none:=_root_.id rfl
theorem FO {α β:Type}(f:α→β)(p:β→Bool)(l:List α):(l.map f).all p=l.all fun x=>p (f x):=by
 rw[List.all_map];rfl
theorem Np {α:Type}(l:List α):(l.all fun _=>true)=true:=by simp
theorem Nk (n:Nat):(n == n)=true:=by simp
def Mw (sz:Nat)(e:PV):Bool→Option AV
 | true=>some (.pv e)
 | false=>cP true sz 0 (e.cells.map .pv)
theorem IS (sz:Nat)(e:PV):Mw sz e true=some (.pv e):=_root_.id rfl
theorem EN (sz:Nat)(e:PV):jP true sz 0 e=Mw sz e (e.isAgg&&decide (e.cells.length=sz)):=by
 simp only[jP,true_and]
 by_cases h:e.isAgg=true∧e.cells.length=sz
 ·rw[if_pos h,h.1,decide_eq_true h.2];rfl
 ·rw[if_neg h]
  have:(e.isAgg&&decide (e.cells.length=sz))=false:=by
   rw[Bool.eq_false_iff]
   intro hh
   simp only[Bool.and_eq_true,decide_eq_true_eq] at hh
   exact h hh
  rw[this];rfl
theorem Ae (cs:List PV):(PV.agg cs).isAgg=true:=_root_.id rfl
theorem gM {α:Type}{sz:Nat}{f:α→PV}(hf:∀ x,(f x).cells.length=sz)(l:List α):(bj (l.map f)).length=l.length*sz:=by
 have:=fN (sz:=sz) ((l.map f).map PV.cells) (by
  intro y hy
  simp only[List.mem_map] at hy
  obtain⟨p,⟨s,_,rfl⟩,rfl⟩:=hy
  exact hf s)
 simp only[bj,List.length_map,List.flatMap_def] at this ⊢
 exact this
def fzO (σ:aq):Option AV→Option (AV×List (Nat×Blk))
 | some v=>(qj σ v).map GF
 | none=>none
theorem MI (G:Nat→List PV)(σ:aq)(v:AV):GH G σ none v=(qj σ v).map GF:=_root_.id rfl
theorem MJ (G:Nat→List PV)(σ:aq)(g:Bool)(sz:Nat)(v:AV):GH G σ (some (g,sz)) v=fzO σ (dL G g sz σ v):=by
 simp only[GH,fzO];cases dL G g sz σ v<;>rfl
theorem E0 (σ:aq)(v:AV):fzO σ (some v)=(qj σ v).map GF:=_root_.id rfl
theorem E2 (σ:aq)(cs:List AV):qj σ (.agg cs)=(Cm σ cs).map fun p=>(.agg p.1,p.2):=_root_.id rfl
theorem Jc (σ:aq)(p:PV):qj σ (.pv p)=some (p,[]):=_root_.id rfl
theorem Jd (σ:aq)(r s:Nat)(l:List PV):qj σ (.olist r s l)=some (.list l,[]):=_root_.id rfl
theorem E1 (σ:aq)(r s n:Nat):qj σ (.row r s 0 n)=Jh s n r (σ r):=_root_.id rfl
theorem Jf (σ:aq)(p:PV):GG σ (.pv p)=some (p,[]):=_root_.id rfl
theorem Jg (σ:aq)(r s:Nat)(l:List PV):GG σ (.olist r s l)=some (.list l,[]):=_root_.id rfl
theorem E5 (σ:aq)(r s n:Nat):GG σ (.row r s 0 n)=Jh s n r (σ r):=_root_.id rfl
theorem E3 (σ:aq):Cm σ []=some ([],[]):=_root_.id rfl
theorem Aw (σ:aq)(x:AV)(r:List AV):Cm σ (x::r)=Ow (GG σ x) (Cm σ r):=_root_.id rfl
theorem Ax (p:PV)(a:List Nat)(q:List PV)(b:List Nat):Ow (some (p,a)) (some (q,b))=some (p::q,a++b):=_root_.id rfl
theorem Je (p:PV)(l:List Nat):GF (p,l)=(.pv p,l.map fun r=>(r,.none)):=_root_.id rfl
theorem E6 {α:Type}{sz:Nat}{f:α→PV}(hf:∀ x,∃ cs,f x = .agg cs∧cs.length=sz∧∀ p∈cs,p.one=true)(hsz:2≤sz)(l:List α){n r T:Nat}{b:Bool}(hn:n=l.length) :
  Jh sz n r (.cells T b (bj (l.map f)))=some (.list (l.map f),[r]):=by
 have hlen:=gM (sz:=sz) (f:=f) (fun x=>by obtain⟨cs,h1,h2,_⟩:=hf x;rw[h1];exact h2) l
 subst hn
 have hone:(bj (l.map f)).all AV.one=true:=by
  rw[List.all_eq_true]
  intro x hx
  simp only[bj,List.mem_map,List.mem_flatMap] at hx
  obtain⟨p,⟨q,⟨s,_,rfl⟩,hq⟩,rfl⟩:=hx
  obtain⟨cs,h1,h2,h3⟩:=hf s
  rw[h1] at hq
  exact h3 p hq
 have hpv:pvs (bj (l.map f))=some ((l.map f).flatMap PV.cells):=pl _
 have hch:∀ l:List α,gy sz l.length ((l.map f).flatMap PV.cells)=l.map f:=by
  intro l
  induction l with
  | nil=>rfl
  | cons x r ih=>
    obtain⟨cs,h1,h2,_⟩:=hf x
    simp only[List.length_cons,gy,List.map_cons,List.flatMap_cons,h1,aZ]
    rw[if_neg (by omega),List.take_left' h2,List.drop_left' h2,ih]
 simp only[Jh]
 rw[if_pos ⟨by omega,by omega,by rw[List.take_of_length_le (by omega)];exact hone⟩,List.take_of_length_le (by omega),hpv]
 simp[hch]
theorem Ez (p:PV):(AV.pv p).names=[]:=_root_.id rfl
theorem zg (r o:Nat):(AV.ptr r o).names=[r]:=_root_.id rfl
theorem zf (r a b c:Nat):(AV.row r a b c).names=[r]:=_root_.id rfl
theorem EA (r a:Nat)(l:List PV):(AV.olist r a l).names=[r]:=_root_.id rfl
theorem zj (cs:List AV):(AV.agg cs).names=AV.namesL cs:=by simp only[AV.names]
theorem ze (cs:List AV):(AV.tup cs).names=AV.namesL cs:=by simp only[AV.names]
theorem zh (f:Nat)(fs cs:List AV):(AV.clo f fs cs).names=AV.namesL fs++AV.namesL cs:=by simp only[AV.names]
theorem zi:AV.any.names=[]:=_root_.id rfl
theorem uo:AV.namesL []=[]:=_root_.id rfl
theorem i6 (x:AV)(r:List AV):AV.namesL (x::r)=x.names++AV.namesL r:=by simp only[AV.namesL]
theorem i1:∀ l:List PV,AV.namesL (l.map .pv)=[]
 | []=>rfl
 | x::r=>by rw[List.map_cons,i6,i1 r];rfl
theorem pA (l:List PV):AV.namesL (bj l)=[]:=i1 _
theorem m8 (T:Nat)(f:Bool)(l:List AV):(Blk.cells T f l).names=AV.namesL l:=_root_.id rfl
theorem up (e s:Nat):(Blk.tok e s).names=[]:=_root_.id rfl
theorem pC:Blk.none.names=[]:=_root_.id rfl
theorem FQ (acc:List Nat):br acc []=acc:=_root_.id rfl
def JV (acc:List Nat)(n:Nat):Bool→List Nat
 | true=>acc
 | false=>acc++[n]
theorem gP (x:Nat):∀ l:List Nat,l.contains x=rE x l
 | []=>rfl
 | y::r=>by
   rw[List.contains_cons,gP x r,ni]
   by_cases h:y=x
   ·simp[h]
   ·have h':¬ x=y:=fun e=>h e.symm
    simp[h,h']
theorem BW (acc:List Nat)(n:Nat)(r:List Nat):br acc (n::r)=br (JV acc n (rE n acc)) r:=by
 simp only[br,gP]
 cases rE n acc<;>rfl
theorem JT (acc:List Nat)(n:Nat):JV acc n true=acc:=_root_.id rfl
theorem JU (acc:List Nat)(n:Nat):JV acc n false=acc++[n]:=_root_.id rfl
def geN (m0:Nat):List Nat→List Nat
 | []=>[]
 | x::r=>if m0≤x then x::geN m0 r else geN m0 r
theorem I5 (m0:Nat):geN m0 []=[]:=_root_.id rfl
theorem rW (m0 x:Nat)(r:List Nat):geN m0 (x::r)=if m0≤x then x::geN m0 r else geN m0 r:=_root_.id rfl
theorem Au (m0:Nat):∀ l:List Nat,l.filter (fun r=>decide (m0≤r))=geN m0 l
 | []=>rfl
 | x::r=>by rw[List.filter_cons,Au m0 r,rW];simp
def df (sto:List (Nat×Blk)):List Nat→List Nat
 | []=>[]
 | r::q=>(lookB r sto).names++df sto q
theorem oa (sto:List (Nat×Blk)):df sto []=[]:=_root_.id rfl
theorem fU (sto:List (Nat×Blk))(r:Nat)(q:List Nat):df sto (r::q)=(lookB r sto).names++df sto q:=_root_.id rfl
theorem fj (sto:List (Nat×Blk)):∀ l:List Nat,(l.flatMap fun r=>(lookB r sto).names)=df sto l
 | []=>rfl
 | r::q=>by rw[List.flatMap_cons,fj sto q,fU]
theorem H7 (m0:Nat)(sto:List (Nat×Blk))(acc:List Nat):eT m0 sto 0 acc=acc:=_root_.id rfl
theorem H6 (m0:Nat)(sto:List (Nat×Blk))(k:Nat)(acc:List Nat):eT m0 sto (k+1) acc=eT m0 sto k (br acc (geN m0 (df sto acc))):=by
 rw[← Au,← fj];rfl
def dP (e:List (Nat×AV)):List Nat→List Nat
 | []=>[]
 | k::r=>(look k e).names++dP e r
theorem nQ (e:List (Nat×AV)):dP e []=[]:=_root_.id rfl
theorem lF (e:List (Nat×AV))(k:Nat)(r:List Nat):dP e (k::r)=(look k e).names++dP e r:=_root_.id rfl
theorem ju (e:List (Nat×AV))(σ:List (Nat×Blk))(n:Nat):∀ l:List Nat,(l.flatMap fun i=>((⟨e,σ,n⟩:St).E i).names)=dP e l
 | []=>rfl
 | k::r=>by rw[List.flatMap_cons,ju e σ n r];rfl
def xG:Nat→Nat→List Nat
 | 0,_=>[]
 | n+1,k=>k::xG n (k+1)
theorem O0 (k:Nat):xG 0 k=[]:=_root_.id rfl
theorem LQ (n k:Nat):xG (n+1) k=k::xG n (k+1):=_root_.id rfl
theorem xF:∀ n k:Nat,xG n k=List.range' k n
 | 0,k=>rfl
 | n+1,k=>by rw[LQ,xF n,List.range'_succ]
theorem Gj (n:Nat):List.range n=xG n 0:=by rw[xF,List.range_eq_range']
theorem It (m0:Nat)(keep:List Nat)(e:List (Nat×AV))(σ:List (Nat×Blk))(n:Nat):Me m0 keep ⟨e,σ,n⟩=eT m0 σ σ.length (br [] (geN m0 (dP e keep++df σ (xG m0 0)))):=by
 rw[← Au,← ju e σ n,← fj,← Gj];rfl
def m7 (f:Nat→Option Nat)(e:List (Nat×AV)):List Nat→List (Nat×AV)
 | []=>[]
 | k::r=>(k,(look k e).ren f)::m7 f e r
theorem za (f:Nat→Option Nat)(e:List (Nat×AV)):m7 f e []=[]:=_root_.id rfl
theorem uj (f:Nat→Option Nat)(e:List (Nat×AV))(k:Nat)(r:List Nat):m7 f e (k::r)=(k,(look k e).ren f)::m7 f e r:=_root_.id rfl
def y9 (m0:Nat)(keep:List Nat)(e:List (Nat×AV))(σ:List (Nat×Blk))(os:List Nat):St:=⟨m7 (dp m0 os) e keep,dW m0 (dp m0 os) σ (xG m0 0++os) 0,m0+os.length⟩
theorem Iz (m0:Nat)(keep:List Nat)(e:List (Nat×AV))(σ:List (Nat×Blk))(n:Nat):norm m0 keep ⟨e,σ,n⟩=y9 m0 keep e σ (eT m0 σ σ.length (br [] (geN m0 (dP e keep++df σ (xG m0 0))))):=by
 rw[← It m0 keep e σ n]
 have hE:∀ (f:Nat→Option Nat) (l:List Nat),(l.map fun i=>(i,((⟨e,σ,n⟩:St).E i).ren f))=m7 f e l:=by
  intro f l
  induction l with
  | nil=>rfl
  | cons k r ih=>rw[List.map_cons,ih];rfl
 simp only[norm,y9,hE,Gj]
theorem IB (m0:Nat)(keep:List Nat)(e:List (Nat×AV))(σ:List (Nat×Blk))(x:Nat)(r:List Nat):y9 m0 keep e σ (x::r)=⟨m7 (dp m0 (x::r)) e keep,dW m0 (dp m0 (x::r)) σ (xG m0 0++(x::r)) 0,m0+(x::r).length⟩:=_root_.id rfl
theorem IA (m0:Nat)(keep:List Nat)(e:List (Nat×AV))(σ:List (Nat×Blk)):y9 m0 keep e σ []=⟨m7 (dp m0 []) e keep,dW m0 (dp m0 []) σ (xG m0 0) 0,m0⟩:=by
 simp only[y9,List.append_nil];rfl
theorem tl (m0:Nat)(f:Nat→Option Nat)(σ:List (Nat×Blk))(k:Nat):dW m0 f σ [] k=[]:=_root_.id rfl
theorem oV (m0:Nat)(f:Nat→Option Nat)(σ:List (Nat×Blk))(r:Nat)(q:List Nat)(k:Nat):dW m0 f σ (r::q) k=(k,(lookB r σ).ren f)::dW m0 f σ q (k+1):=_root_.id rfl
theorem un (m0:Nat)(os:List Nat)(r:Nat):dp m0 os r=if r<m0 then some r else EW r os m0:=_root_.id rfl
theorem EV (x k:Nat):EW x [] k=none:=_root_.id rfl
theorem Ah (x y:Nat)(r:List Nat)(k:Nat):EW x (y::r) k=if y=x then some k else EW x r (k+1):=_root_.id rfl
def O4 (o:Nat):Option Nat→AV
 | some q=>.ptr q o
 | none=>.any
def O3 (a b c:Nat):Option Nat→AV
 | some q=>.row q a b c
 | none=>.any
def O5 (a:Nat)(l:List PV):Option Nat→AV
 | some q=>.olist q a l
 | none=>.pv (.list l)
theorem Gl (f:Nat→Option Nat)(p:PV):(AV.pv p).ren f = .pv p:=by simp only[AV.ren]
theorem H3 (f:Nat→Option Nat):AV.any.ren f = .any:=by simp only[AV.ren]
theorem H1 (f:Nat→Option Nat)(r o:Nat):(AV.ptr r o).ren f=O4 o (f r):=by simp only[AV.ren,O4]<;>(cases f r<;>rfl)
theorem H0 (f:Nat→Option Nat)(r a b c:Nat):(AV.row r a b c).ren f=O3 a b c (f r):=by simp only[AV.ren,O3]<;>(cases f r<;>rfl)
theorem LX (f:Nat→Option Nat)(r a:Nat)(l:List PV):(AV.olist r a l).ren f=O5 a l (f r):=by simp only[AV.ren,O5]<;>(cases f r<;>rfl)
theorem H4 (f:Nat→Option Nat)(cs:List AV):(AV.agg cs).ren f = .agg (AV.renL f cs):=by simp only[AV.ren]
theorem HZ (f:Nat→Option Nat)(cs:List AV):(AV.tup cs).ren f = .tup (AV.renL f cs):=by simp only[AV.ren]
theorem H2 (f:Nat→Option Nat)(g:Nat)(fs cs:List AV):(AV.clo g fs cs).ren f = .clo g (AV.renL f fs) (AV.renL f cs):=by simp only[AV.ren]
theorem xL (o q:Nat):O4 o (some q) = .ptr q o:=_root_.id rfl
theorem xK (a b c q:Nat):O3 a b c (some q) = .row q a b c:=_root_.id rfl
theorem xM (a:Nat)(l:List PV)(q:Nat):O5 a l (some q) = .olist q a l:=_root_.id rfl
theorem Dp (f:Nat→Option Nat):AV.renL f []=[]:=_root_.id rfl
theorem mx (f:Nat→Option Nat)(x:AV)(r:List AV):AV.renL f (x::r)=x.ren f::AV.renL f r:=by simp only[AV.renL]
theorem oW (f:Nat→Option Nat):∀ l:List PV,AV.renL f (l.map .pv)=l.map .pv
 | []=>rfl
 | x::r=>by rw[List.map_cons,mx,oW f r,Gl]
theorem xO (f:Nat→Option Nat)(l:List PV):AV.renL f (bj l)=bj l:=oW f _
theorem tm (f:Nat→Option Nat)(T:Nat)(b:Bool)(l:List AV):(Blk.cells T b l).ren f = .cells T b (AV.renL f l):=_root_.id rfl
theorem Dq (f:Nat→Option Nat)(e s:Nat):(Blk.tok e s).ren f = .tok e s:=_root_.id rfl
theorem xP (f:Nat→Option Nat):Blk.none.ren f = .none:=_root_.id rfl
theorem Ek (A:List (Nat×Nat×Nat×Nat))(m0:Nat)(keep:List Nat)(s:St):dM A m0 keep s=norm m0 keep (FT A s):=_root_.id rfl
theorem FS (s:St):FT [] s=s:=_root_.id rfl
theorem BX (k e sz:Nat)(r:List (Nat×Nat×Nat×Nat))(env:List (Nat×AV))(σ:List (Nat×Blk))(n:Nat):FT ((k,0,e,sz)::r) ⟨env,σ,n⟩=FT r (JY k e sz ⟨env,σ,n⟩ (look k env)):=_root_.id rfl
theorem BY (k j e sz:Nat)(r:List (Nat×Nat×Nat×Nat))(env:List (Nat×AV))(σ:List (Nat×Blk))(n:Nat):FT ((k,j+1,e,sz)::r) ⟨env,σ,n⟩=FT r (Nr j e sz ⟨env,σ,n⟩ (look k env)):=_root_.id rfl
theorem B2 (k e sz:Nat)(env:List (Nat×AV))(σ:List (Nat×Blk))(n:Nat):JY k e sz ⟨env,σ,n⟩ (.pv .nils)=⟨(k,gl n e sz)::env,(n,cz e sz)::σ,n+1⟩:=_root_.id rfl
theorem FX (k e sz r a b c:Nat)(s:St):JY k e sz s (.row r a b c)=s:=_root_.id rfl
theorem ID {n e sz:Nat}(h:e<1000000):gl n e sz = .olist n sz []:=if_pos h
theorem IC {n e sz:Nat}(h:1000000≤e):gl n e sz = .row n sz 0 0:=if_neg (Nat.not_lt.2 h)
theorem En {e sz:Nat}(h:e<1000000):cz e sz = .tok e sz:=if_pos h
theorem Em {e sz:Nat}(h:1000000≤e):cz e sz = .cells (e - 1000000) false []:=if_neg (Nat.not_lt.2 h)
theorem JX (k e sz r a:Nat)(l:List PV)(s:St):JY k e sz s (.olist r a l)=s:=_root_.id rfl
theorem FV (o e sz r b:Nat)(env:List (Nat×AV))(σ:List (Nat×Blk))(n:Nat):Nr o e sz ⟨env,σ,n⟩ (.ptr r b)=JZ r (b+o) e sz ⟨env,σ,n⟩ (lookB r σ):=_root_.id rfl
theorem vW (r o e sz T:Nat)(f:Bool)(l:List AV)(s:St):JZ r o e sz s (.cells T f l)=K5 r T f l o e sz s l[o]?:=_root_.id rfl
theorem B1 (r T:Nat)(f:Bool)(l:List AV)(o e sz:Nat)(env:List (Nat×AV))(σ:List (Nat×Blk))(n:Nat):K5 r T f l o e sz ⟨env,σ,n⟩ (some (.pv .nils))=⟨env,(r,.cells T f (l.set o (gl n e sz)))::(n,cz e sz)::σ,n+1⟩:=_root_.id rfl
theorem FW (r T:Nat)(f:Bool)(l:List AV)(o e sz:Nat)(s:St)(q a b c:Nat):K5 r T f l o e sz s (some (.row q a b c))=s:=_root_.id rfl
theorem JW (r T:Nat)(f:Bool)(l:List AV)(o e sz:Nat)(s:St)(q a:Nat)(k:List PV):K5 r T f l o e sz s (some (.olist q a k))=s:=_root_.id rfl
theorem QM {α:Type}(x y:α)(r:List α):(x::r).set 0 y=y::r:=_root_.id rfl
theorem QL {α:Type}(x y:α)(r:List α)(n:Nat):(x::r).set (n+1) y=x::r.set n y:=_root_.id rfl
theorem ON (e e':List (Nat×AV))(σ σ':List (Nat×Blk))(n n':Nat):(St.mk e σ n=St.mk e' σ' n')=(e=e'∧σ=σ'∧n=n'):=by rw[St.mk.injEq]
theorem MV {a b:Nat}(h:a<b):decide (a<b)=true:=decide_eq_true h
theorem MW {a b:Nat}(h:¬ a<b):decide (a<b)=false:=decide_eq_false h
theorem MX {a b:Nat}(h:a≤b):decide (a≤b)=true:=decide_eq_true h
theorem MY {a b:Nat}(h:¬ a≤b):decide (a≤b)=false:=decide_eq_false h
theorem MZ {a b:Nat}(h:a=b):decide (a=b)=true:=decide_eq_true h
theorem M0 {a b:Nat}(h:¬ a=b):decide (a=b)=false:=decide_eq_false h
theorem bt {α:Type}{l:List α}{m:Nat}{x:α}(h:l[m]? = some x):l.take (m+1)=l.take m++[x]:=by
 obtain⟨h1,h2⟩:=List.getElem?_eq_some_iff.1 h
 rw[List.take_succ_eq_append_getElem h1,h2]
def MH (cells:List AV)(off sz:Nat)(r:List (Nat×Nat×AV))(xc:List AV):Bool→Option (List AV)
 | true=>fg (cells.take off++xc++cells.drop (off+sz)) r
 | false=>none
theorem Jk (cells:List AV)(off sz:Nat)(r:List (Nat×Nat×AV))(xc:List AV):MH cells off sz r xc true=fg (cells.take off++xc++cells.drop (off+sz)) r:=_root_.id rfl
theorem AC (cells:List AV):fg cells []=some cells:=_root_.id rfl
theorem uY (cells:List AV)(off sz:Nat)(x:AV)(r:List (Nat×Nat×AV)):fg cells ((off,sz,x)::r)=MH cells off sz r x.cells (x.known&&decide (x.cells.length=sz)&&decide (off+sz≤cells.length)):=by
 simp only[fg]
 by_cases h:x.known=true∧x.cells.length=sz∧off+sz≤cells.length
 ·rw[if_pos h,h.1,decide_eq_true h.2.1,decide_eq_true h.2.2];rfl
 ·rw[if_neg h]
  have:(x.known&&decide (x.cells.length=sz)&&decide (off+sz≤cells.length))=false:=by
   rw[Bool.eq_false_iff]
   intro hh
   simp only[Bool.and_eq_true,decide_eq_true_eq] at hh
   exact h ⟨hh.1.1,hh.1.2,hh.2⟩
  rw[this];rfl
theorem D4 (sz off:Nat)(cs:List AV):Ma sz off cs=if off+sz≤cs.length then some (gU ((cs.drop off).take sz)) else none:=_root_.id rfl
section
variable {P:Program}{G:Nat→List PV}
def B5 {ι:Type}(A:List (Nat×Nat×Nat×Nat))(S:ι→St)(Inv:ι→Prop)(μ:ι→Nat)(x:ι)(m0:Nat)(keep:List Nat)(id:Nat)(keepX:List Nat)(fin:ι→Prop)(Q:AExit→St→Prop):AExit→St→Prop
 | .norm,s'=>∃ x',Hd A m0 keep s' (S x')∧Inv x'∧μ x'<μ x
 | .exit i,s'=>if i=id then ∃ x',fin x'∧norm m0 keepX s'=norm m0 keepX (S x') else Q (.exit i) s'
 | .ret,s'=>Q .ret s'
theorem qE {ι:Type}(A:List (Nat×Nat×Nat×Nat))(S:ι→St)(Inv:ι→Prop)(μ:ι→Nat)(x:ι)(m0:Nat)(keep:List Nat)(id:Nat)(keepX:List Nat)(fin:ι→Prop)(Q:AExit→St→Prop)(s:St):B5 A S Inv μ x m0 keep id keepX fin Q .norm s = ∃ x',Hd A m0 keep s (S x')∧Inv x'∧μ x'<μ x:=_root_.id rfl
theorem qF {ι:Type}(A:List (Nat×Nat×Nat×Nat))(S:ι→St)(Inv:ι→Prop)(μ:ι→Nat)(x:ι)(m0:Nat)(keep:List Nat)(id:Nat)(keepX:List Nat)(fin:ι→Prop)(Q:AExit→St→Prop)(i:Nat)(s:St):B5 A S Inv μ x m0 keep id keepX fin Q (.exit i) s=if i=id then (∃ x',fin x'∧norm m0 keepX s=norm m0 keepX (S x')) else Q (.exit i) s:=_root_.id rfl
theorem vX {ι:Type}(A:List (Nat×Nat×Nat×Nat))(S:ι→St)(Inv:ι→Prop)(μ:ι→Nat)(x:ι)(m0:Nat)(keep:List Nat)(id:Nat)(keepX:List Nat)(fin:ι→Prop)(Q:AExit→St→Prop)(s:St):B5 A S Inv μ x m0 keep id keepX fin Q .ret s=Q .ret s:=_root_.id rfl
end
end Go.Ab
set_option linter.unusedVariables false
namespace Go.Ab
open Go
theorem AS (k:Nat):bG [] k=[]:=_root_.id rfl
theorem u9 (b:Blk)(r:List Blk)(k:Nat):bG (b::r) k=(k,b)::bG r (k+1):=_root_.id rfl
theorem uO (sto:List (Nat×Blk))(f:Nat→Option Nat):eX sto f [] []=True:=_root_.id rfl
theorem p6 (sto:List (Nat×Blk))(f:Nat→Option Nat)(r:Nat)(rs:List Nat)(b:Blk)(bs:List Blk):eX sto f (r::rs) (b::bs)=(BlkZ (lookB r sto) (b.ren f)∧eX sto f rs bs):=_root_.id rfl
theorem Ea (f:Nat→Option Nat)(i:Nat)(g:Nat→Nat):lW f [] i g=[]:=_root_.id rfl
theorem yP (f:Nat→Option Nat)(b:Blk)(r:List Blk)(i:Nat)(g:Nat→Nat):lW f (b::r) i g=(g i,b.ren f)::lW f r (i+1) g:=_root_.id rfl
theorem zb:d7 []=[]:=_root_.id rfl
theorem ul (r:Nat)(q:List Nat):d7 (r::q)=(r,.none)::d7 q:=_root_.id rfl
theorem MG (next:Nat)(rs:List Nat)(r:Nat):gSo next rs r=some (gIn next rs r):=_root_.id rfl
theorem I6 (next i:Nat):gIn next [] i=next+i:=_root_.id rfl
theorem Ps (next r:Nat)(q:List Nat):gIn next (r::q) 0=r:=_root_.id rfl
theorem Pr (next r i:Nat)(q:List Nat):gIn next (r::q) (i+1)=gIn next q i:=_root_.id rfl
def nR (s sz off len:Nat):Blk→Option (List PV)
 | .cells _ _ l=>if s=1∧sz=1∧off+len≤l.length∧((l.drop off).take len).all AV.one=true then pvs ((l.drop off).take len) else none
 | _=>none
theorem qo (σ:aq)(sz r s off len:Nat):aY σ sz (.row r s off len)=nR s sz off len (σ r):=by
 simp only[aY,nR]
 cases σ r<;>rfl
theorem jH (k:IntKind)(l:List Int):(l.map (PV.int k)).all PV.one=true:=by
 rw[List.all_eq_true];intro x hx;obtain⟨n,_,rfl⟩:=List.mem_map.1 hx;rfl
theorem AZ {T:Nat}{f:Bool}{l:List PV}{n:Nat}(h:n≤l.length)(h1:l.all PV.one=true):nR 1 1 0 n (.cells T f (l.map .pv))=some (l.take n):=by
 have h2:(((l.map AV.pv).drop 0).take n)=(l.take n).map .pv:=by rw[List.drop_zero,List.map_take]
 have h3:((l.take n).map AV.pv).all AV.one=true:=by
  rw[List.all_eq_true] at h1 ⊢
  intro x hx
  obtain⟨y,hy,rfl⟩:=List.mem_map.1 hx
  exact h1 y (List.mem_of_mem_take hy)
 have h4:∀ k:List PV,pvs (k.map .pv)=some k:=by
  intro k
  induction k with
  | nil=>rfl
  | cons a r ih=>simp[pvs,AV.toPV,ih]
 simp only[nR]
 rw[if_pos (by refine⟨trivial,trivial,by simp;omega,by rw[h2];exact h3⟩),h2,h4]
theorem vh {T:Nat}{f:Bool}{k:IntKind}{p:List Int}{n:Nat}(h:n=p.length):nR 1 1 0 n (.cells T f ((p.map (PV.int k)).map .pv))=some (p.map (PV.int k)):=by
 rw[AZ (by simp;omega) (jH k p),List.take_of_length_le (by simp;omega)]
theorem kR {sz r off n:Nat}{k:IntKind}{h:Int}(h0:0≤h)(h1:h≤n)(hs:0<sz):cL sz (.row r sz off n) none (some (.pv (.int k h)))=some (.row r sz off h.toNat):=by
 simp[cL,aV,h0,h1,hs]
theorem CP (n:Nat):((n:Int)+1).toNat=n+1:=by omega
theorem FP (n:Int):n+1 - 1=n:=by omega
def KW:List Nat→List Nat→List Nat
 | [],a=>a
 | x::r,a=>KW r (x::a)
theorem Dm (a:List Nat):KW [] a=a:=_root_.id rfl
theorem mr (x:Nat)(r a:List Nat):KW (x::r) a=KW r (x::a):=_root_.id rfl
theorem xH:∀ (l a:List Nat),l.reverse++a=KW l a
 | [],a=>rfl
 | x::r,a=>by rw[mr,← xH r (x::a)];simp
theorem zU (l:List (Nat×Blk)):aP l.reverse=KW (aP l) []:=by
 rw[← xH,List.append_nil];simp[aP]
theorem Dl (ks rs:List Nat):d6 2 ks rs=(0::ks.map (· + 1),rs.map (· + 1)):=by simp[d6]
theorem ap (A:List (Nat×Nat×Nat×Nat)){k:Nat}{v v':AV}{bs':List Blk}{sto':List (Nat×Blk)}{next':Nat}(h:StZ (dM A k [0] ⟨[(0,v')],sto',next'⟩) ⟨[(0,v)],bG bs' 0,bs'.length⟩):IX k v bs' v' sto' next':=Wk.head h
theorem ab.nilB (r o e sz:Nat){P:Program}{G:Nat→List PV}{f:Nat}{args:List AV}{s:St}{K:AV→St→Prop}(he:(JZ r o e sz s (lookB r s.sto)).env=s.env)(h:ab P G f args (JZ r o e sz s (lookB r s.sto)) K):ab P G f args s K:=
 ab.weak (WkC.of (ww r o e sz s) he args) h
end Go.Ab
set_option linter.unusedVariables false
set_option linter.unusedSimpArgs false
namespace Go.Ab
open Go Go.RowKit
section
variable {P:Program}{G:Nat→List PV}
theorem Ch (F:St→Prop)(s:St):Qt F .norm s=F s:=_root_.id rfl
theorem Fx (b:ACode)(Q:AExit→St→Prop)(e:List (Nat×AV))(σ:List (Nat×Blk))(n:Nat):JM (fun m=>vc P G m b) Q ⟨e,σ,n⟩=vc P G n b Q ⟨e,σ,n⟩:=_root_.id rfl
theorem DX (e:List (Nat×AV)):DY [] [] e=e:=_root_.id rfl
theorem yD (p:Nat)(ps:List Nat)(x:PV)(xs:List PV)(e:List (Nat×AV)):DY (p::ps) (x::xs) e=DY ps xs ((p,.pv x)::e):=_root_.id rfl
def Oz {ι:Type}(A:List (Nat×Nat×Nat×Nat))(S:ι→St)(Inv:Nat→ι→Prop)(i m0:Nat)(keep:List Nat)(Q:AExit→St→Prop)(e0:List (Nat×AV)):AExit→St→Prop
 | .norm,s'=>∃ x',Hd A m0 keep ⟨e0,s'.sto,s'.next⟩ (S x')∧Inv (i+1) x'
 | .exit j,s'=>Q (.exit j) ⟨e0,s'.sto,s'.next⟩
 | .ret,s'=>Q .ret ⟨e0,s'.sto,s'.next⟩
theorem B6 {ι:Type}(A:List (Nat×Nat×Nat×Nat))(S:ι→St)(Inv:Nat→ι→Prop)(i m0:Nat)(keep:List Nat)(Q:AExit→St→Prop)(e0 e:List (Nat×AV))(σ:List (Nat×Blk))(n:Nat):Oz A S Inv i m0 keep Q e0 .norm ⟨e,σ,n⟩ = ∃ x',Hd A m0 keep ⟨e0,σ,n⟩ (S x')∧Inv (i+1) x':=_root_.id rfl
theorem B7 {ι:Type}(A:List (Nat×Nat×Nat×Nat))(S:ι→St)(Inv:Nat→ι→Prop)(i m0:Nat)(keep:List Nat)(Q:AExit→St→Prop)(e0:List (Nat×AV))(j:Nat)(e:List (Nat×AV))(σ:List (Nat×Blk))(n:Nat):Oz A S Inv i m0 keep Q e0 (.exit j) ⟨e,σ,n⟩=Q (.exit j) ⟨e0,σ,n⟩:=_root_.id rfl
theorem F0 {ι:Type}(A:List (Nat×Nat×Nat×Nat))(S:ι→St)(Inv:Nat→ι→Prop)(i m0:Nat)(keep:List Nat)(Q:AExit→St→Prop)(e0 e:List (Nat×AV))(σ:List (Nat×Blk))(n:Nat):Oz A S Inv i m0 keep Q e0 .ret ⟨e,σ,n⟩=Q .ret ⟨e0,σ,n⟩:=_root_.id rfl
theorem MF:∀ (lb:List PV),pvs (lb.map AV.pv)=some lb
 | []=>rfl
 | p::r=>by simp[pvs,AV.toPV,MF r]
theorem Le {ι:Type}(A:List (Nat×Nat×Nat×Nat))(ch:ι→List (Nat×AV))(chB:ι→List (Nat×Blk))(Inv:Nat→ι→Prop)(x0:ι){gf:Nat}{lb:List PV}{xs:List (List PV)}(hs:PU P G gf lb xs)
  {m0:Nat} {f:AX} {ps keep:List Nat} {a b:ACode} {Q:AExit→St→Prop} {s:St}
  (h:∀ e0 σ0 n0,dM A m0 keep s=⟨e0,σ0,n0⟩→StZ ⟨e0,σ0,n0⟩ ⟨fc e0 (ch x0),gi σ0 (chB x0),n0⟩∧Inv 0 x0∧cW (f.ev (fun i=>look i (fc e0 (ch x0))))=some (gf,[],lb.map AV.pv) ∧
   (∀ i x y,xs[i]? = some y→Inv i x→y.length=ps.length∧vc P G n0 a (Qt (JM (fun m=>vc P G m b) (Oz A (fun x=>⟨fc e0 (ch x),gi σ0 (chB x),n0⟩) Inv i m0 keep Q (fc e0 (ch x))))) ⟨DY ps y (fc e0 (ch x)),gi σ0 (chB x),n0⟩) ∧
   ∀ x,Inv xs.length x→Q .norm ⟨fc e0 (ch x),gi σ0 (chB x),n0⟩):vc P G m0 (.range f ps keep a b) Q s:=by
 obtain⟨h1,h2,h3,h4,h5⟩:=h (dM A m0 keep s).env (dM A m0 keep s).sto (dM A m0 keep s).next rfl
 let S:ι→St:=fun x=>⟨fc (dM A m0 keep s).env (ch x),gi (dM A m0 keep s).sto (chB x),(dM A m0 keep s).next⟩
 refine⟨fun i t=>∃ x,t=S x∧Inv i x,S x0,bM h1,⟨x0,rfl,h2⟩,?_⟩
 have e:cW (f.ev (S x0).E)=some (gf,[],lb.map AV.pv):=h3
 rw[e]
 refine⟨rfl,lb,xs,MF lb,hs,?_,?_⟩
 ·rintro i y t hy ⟨x,rfl,hx⟩
  obtain⟨k1,k2⟩:=h4 i x y hy hx
  refine⟨k1,cm a (fun e s hs=>?_) _ k2⟩
  cases e with
  | norm=>
    refine cm b (fun e s hs=>?_) s hs
    cases e with
    | norm=>
      obtain⟨x',q1,q2⟩:=hs
      exact⟨S x',q1,x',rfl,q2⟩
    | exit j=>exact hs
    | ret=>exact hs
  | exit j=>exact hs.elim
  | ret=>exact hs.elim
 ·rintro t ⟨x,rfl,hx⟩
  exact h5 x hx
end
end Go.Ab
namespace Go.Ab
open Go
attribute [push_cast] fm Cw kG Cu Cv Pz PA PB PC PD PE zy
 EK uL zD Pv Px Pw uH uI uJ Fb Fc Jo Fe Jn Fa Hl
 xd tc s8 s7 sZ oO sY oN CU xe xf xg
 oM oL CX CY Ii Ij CT CS ta xi xj yq
 Fk AO Fl Fj BR oP pf s9 CW CV sX H8
 H9 tC pd pc x9 ya In Io mH tD pb mF
 tB DB x6 x5 tA DC pg ph Bc BH oY DR
 DG DK DI DH DQ Ih DF pi DP DJ DL DM
 DN DO yj yi yd ye yf yg yh yp DT ym
 yl yo tH DS yk Dw xX yc tE Du x3 xZ
 xY Dv Ie If yX uw pM QR QQ Il yy yz
 tM rq Hh sR CM CL CO CK CN IM pK pL
 IK pF pG IL pH pI nd Bu vL vH vJ vI
 n7 vK aZ vG Bs Bq vA vD vB vC Bt vF
 vE p5 uM x4 tz tx IU IT sL sJ uE Ng
 EH vM zt ER zQ zJ zO zK p7 zP zq uC
 tG uD pW pX IO Ib tr mj C7 eh CB wV
 Fp Fq Ir Er Ep Ev Eu Ex Ew Fu wD sN
 wA wC wz oH A3 vl qp mQ mR El DU MQ
 MR A2 C9 C8 Db Da LO LN LM pP nl nk
 nu k9 nv uA pT lc ld zp Ha CA wE vm
 qq nS Jz zu nw ny pY uF pZ nA nx lg
 lf II EE ED ur zW uQ JA vk Bi vu Bj
 vw JE JF EG Mq Ej B3 B4 FZ qP qQ v8
 G6 Lg G8 Jy Ld G9 Cz G7 Lf Ef Pk Pl
 Dn xJ F1 J1 HY LS LT LR vo xI tk DZ
 MB Aa Ad I3 I2 Ag uU uT qI qJ vZ yG
 tP yN t8 yH tT yO ua y5 Iv Mi Mf Iw
 Mh Mg Ix Eg Dy Dz sU oK mf w8 map_take map_drop
 yY tK No FL FK FJ JR lL vT ve vf vg
 qn PQ Nd BE BF Nb fF iX iW Eb fE Iq
 Ed Ec uc Ee mC kU pu ue uf ud FO Np
 Nk IS EN Ae MI MJ E0 E2 Jc Jd E1 Jf
 Jg E5 E3 Aw Ax Je Ez zg zf EA zj ze
 zh zi uo i6 i1 pA m8 up pC FQ BW JT
 JU I5 rW oa fU H7 H6 nQ lF O0 LQ za
 uj Iz IB IA tl oV un EV Ah Gl H3 H1
 H0 LX H4 HZ H2 xL xK xM Dp mx oW xO
 tm Dq xP Ek FS BX BY B2 FX ID IC En
 Em JX FV vW B1 FW JW QM QL ON MV MW
 MX MY MZ M0 Jk AC uY D4 qE qF vX FA
 Nm FB FF BO Fm AR BI Nh Nj Ni FD BM
 BL FE BN C0 xm Lp AS u9 uO p6 Ea yP
 zb ul MG I6 Ps Pr qo jH vh kR CP FP
 Dm mr zU Dl Nat.zero_add Nat.add_zero List.length_cons List.length_nil List.nil_append List.cons_append List.append_nil List.append_assoc
 List.getElem?_map List.length_map List.map_nil List.map_cons List.take_succ_cons List.take_zero List.drop_succ_cons List.drop_zero List.take_nil List.drop_nil List.all_cons List.all_nil
 Bool.and_true Bool.true_and Bool.and_false Bool.false_and Bool.not_true Bool.not_false decide_true decide_false Bool.not_not Int.natCast_add Int.cast_ofNat_Int Int.toNat_natCast
 Option.some.injEq and_true true_and ge_iff_le Nat.le_refl Nat.zero_le Nat.not_lt_zero and_self
attribute [push_cast] Ch Fx DX yD B6 B7 F0
attribute [push_cast high] Int.cast_ofNat_Int
end Go.Ab
set_option linter.unusedVariables false
set_option linter.unusedSimpArgs false
namespace Go.Ab
open Go
def uX:List AV→List AV
 | []=>[]
 | x::r=>x.cells++uX r
theorem AA:uX []=[]:=_root_.id rfl
theorem uW (x:AV)(r:List AV):uX (x::r)=x.cells++uX r:=_root_.id rfl
theorem r7:∀ l:List AV,l.flatMap AV.cells=uX l
 | []=>rfl
 | x::r=>by rw[List.flatMap_cons,r7 r];rfl
section
variable {P:Program}{G:Nat→List PV}
theorem M6 {b:Bool}(h:b=true):Chk b:=h
theorem PP {e sz len new:Nat}{vs:List AV}(h:Chk (decide (vs.length=len)&&decide (len≤9223372036854775807)&&vs.all (fun v=>v.known&&v.cells.length == sz&&v.cells.all AV.one))):cN true e sz len new vs=some (.row new sz 0 len,[(new,.cells e true (uX vs))]):=by
 have h':=h
 simp only[Chk,Bool.and_eq_true,decide_eq_true_eq] at h'
 obtain⟨⟨h1,h2⟩,h3⟩:=h'
 simp only[cN]
 rw[if_pos ⟨h1,h2⟩,if_pos h3,r7]
theorem Gs:∀ l:List PV,pvs (l.map .pv)=some l
 | []=>rfl
 | x::r=>by simp[pvs,AV.toPV,Gs r]
end
attribute [push_cast] PP AA uW
end Go.Ab
set_option linter.unusedVariables false
set_option linter.unusedSimpArgs false
namespace Go.Ab
open Go
section
variable {α β:Type}
theorem bx {l:List α}{m:Nat}{x:α}(h:l[m]? = some x):l.drop m=x::l.drop (m+1):=by
 obtain⟨h1,h2⟩:=List.getElem?_eq_some_iff.1 h
 rw[List.drop_eq_getElem_cons h1,h2]
def Md:Option (List UInt8)→Option AV
 | some l=>some (.pv (.str l))
 | none=>none
def GQ (n:Int):Option (List UInt8)→Option (List UInt8)
 | some l=>some (UInt8.ofNat n.toNat::l)
 | none=>none
theorem yU (l:List UInt8):Md (some l)=some (.pv (.str l)):=_root_.id rfl
theorem jy (n:Int)(l:List UInt8):GQ n (some l)=some (UInt8.ofNat n.toNat::l):=_root_.id rfl
theorem Hf:u8s []=some []:=_root_.id rfl
theorem qW (n:Int)(r:List PV):u8s (.int .u8 n::r)=GQ n (u8s r):=by
 simp only[u8s];cases u8s r<;>rfl
theorem fo:∀ l:List UInt8,u8s (l.map fun b=>PV.int .u8 (b.toNat:Int))=some l
 | []=>rfl
 | b::r=>by rw[List.map_cons,qW,fo r,jy];simp
theorem CJ (σ:aq)(r:Nat)(l:List PV):dX σ (.olist r 1 l)=Md (u8s l):=by
 simp only[dX,aY,if_true];cases u8s l<;>rfl
theorem sQ (σ:aq):dX σ (.pv .nils)=some (.pv (.str [])):=_root_.id rfl
theorem CI (σ:aq)(l:List PV):dX σ (.pv (.list l))=Md (u8s l):=by
 simp only[dX,aY]
 cases h:u8s l with
 | none=>by_cases hh:(l.all (fun y=>y.cells.length == 1))=true<;>simp[hh,h,Md]
 | some s=>
   obtain⟨ns,rfl,rfl⟩:=kM h
   rw[if_pos (by simp[PV.cells])]
   simp[h,Md]
end
theorem uB (G:Nat→List PV)(e:List (Nat×AV))(σ:List (Nat×Blk))(new:Nat)(x:AX):jO G e σ new (.toStr x)=cI [] (dX (fun r=>lookB r σ) (evE e x)):=by
 simp only[jO];cases dX (fun r=>lookB r σ) (evE e x)<;>rfl
theorem q0 {a b:Int}(h:0≤a):a.tdiv b=a / b:=Int.tdiv_eq_ediv_of_nonneg h
theorem qX {a b:Int}(h:0≤a):a.tmod b=a % b:=Int.tmod_eq_emod_of_nonneg h
def Fw:Option UInt8→Option AV
 | some b=>some (.pv (.int .u8 (b.toNat:Int)))
 | none=>none
theorem ag (b:UInt8):Fw (some b)=some (.pv (.int .u8 (b.toNat:Int))):=_root_.id rfl
theorem f7 (l:List UInt8)(k:IntKind)(i:Nat):fx (.pv (.str l)) (.pv (.int k (i:Int)))=Fw l[i]?:=by
 simp only[fx,Int.toNat_natCast]
 rw[if_pos (by omega)]
 cases l[i]? <;> rfl
theorem o8 (l:List UInt8)(k:IntKind):fx (.pv (.str l)) (.pv (.int k 0))=Fw l[0]?:=f7 l k 0
theorem o9 (l:List UInt8)(k:IntKind)(i:Nat):fx (.pv (.str l)) (.pv (.int k ((i:Int)+1)))=Fw l[i+1]?:=f7 l k (i+1)
attribute [push_cast] ag f7 o8 o9 uB q0 qX yU jy Hf qW fo CJ sQ CI
end Go.Ab
set_option linter.unusedVariables false
set_option linter.unusedSimpArgs false
namespace Go.Ab
open Go Go.RowKit Go.Sort
theorem bS {P:Program}{G:Nat→List PV}{f:Nat}{args:List PV}{r:PV}(hc:bA P f=true)
  (h:∀ (w:World) (imm:Nat→Nat→Prop) (vals:Array Value),bZ G w imm→vals.size=args.length→(∀ (i:Nat) (x:PV),args[i]? = some x→PRel w imm x (vals.getD i Go.undef)) →
   Calls P f vals w fun e w'=>∃ u,e = .returned u∧Below w.heap.size w w'∧PRel w' imm r u):aw P G f args r:=by
 refine⟨hc,fun w imm vals hG hlt hsz hargs=>(h w imm vals hG hsz hargs).mono ?_⟩
 rintro e w' ⟨u,rfl,hb,hr⟩
 exact⟨u,imm,rfl,hb,fun _ _ h=>h,fun _ _ h=>.inl h,fun b o h=>Nat.lt_of_lt_of_le (hlt b o h) hb.size,hr⟩
theorem cJ {w:World}{imm:Nat→Nat→Prop}{l:List UInt8}(h:l.length≤maxLen):PRel w imm (.str l) (.string ⟨l.toArray⟩):=by
 have:=PRel.str (w:=w) (imm:=imm) ⟨l.toArray⟩ (by show l.toArray.size≤maxLen;simpa using h)
 simpa using this
theorem fY {w:World}{imm:Nat→Nat→Prop}{l:List UInt8}{v:Value}(h:PRel w imm (.str l) v):v = .string ⟨l.toArray⟩∧l.length≤maxLen:=by
 cases h with
 | str s hs=>exact⟨by simp,hs⟩
theorem wG {vals:Array Value}(h:vals.size=1):vals = #[vals.getD 0 Go.undef]:=by
 apply Array.ext
 ·simp[h]
 ·intro i h1 h2
  have:i=0:=by omega
  subst this
  simp[Array.getD_eq_getD_getElem?,h]
theorem qS {vals:Array Value}(h:vals.size=2):vals = #[vals.getD 0 Go.undef,vals.getD 1 Go.undef]:=by
 apply Array.ext
 ·simp[h]
 ·intro i h1 h2
  have:i=0∨i=1:=by omega
  rcases this with rfl | rfl<;>simp[Array.getD_eq_getD_getElem?,h]
def bW:Nat→Nat→List UInt8
 | 0,_=>[]
 | n+1,k=>if k<10 then [UInt8.ofNat (48+k)] else bW n (k / 10)++[UInt8.ofNat (48+k % 10)]
def lk (n:Int):List UInt8:=if n<0 then 45::bW 20 n.natAbs else bW 20 n.toNat
theorem jv:∀ (f k:Nat),k<10 ^ f→0<f→bW f k=Lib.decDigits k
 | 0,k,_,h=>absurd h (by simp)
 | f+1,k,hk,_=>by
   rw[bW,Lib.decDigits]
   by_cases h:k<10
   ·simp[h]
   ·rw[if_neg h,dif_neg h]
    have h10:k / 10<10 ^ f:=by
     rw[Nat.pow_succ] at hk
     exact Nat.div_lt_of_lt_mul (by rw[Nat.mul_comm];exact hk)
    rw[jv f (k / 10) h10 (by
     rcases Nat.eq_zero_or_pos f with h0 | h0
     ·subst h0
      simp at hk
      omega
     ·exact h0)]
theorem gv:∀ (f k:Nat),(bW f k).length≤f
 | 0,k=>by simp[bW]
 | f+1,k=>by
   rw[bW]
   split
   ·simp
   ·have:=gv f (k / 10)
    simp;omega
theorem rO {n:Int}(h0:-9223372036854775808≤n)(h1:n≤9223372036854775807):lk n=Lib.itoa n:=by
 have e:(10:Nat) ^ 20=100000000000000000000:=by decide
 unfold lk Lib.itoa
 split
 ·rw[jv 20 n.natAbs (by rw[e];omega) (by decide)]
 ·rw[jv 20 n.toNat (by rw[e];omega) (by decide)]
theorem z8 (n:Int):(lk n).length≤21:=by
 unfold lk
 split
 ·have:=gv 20 n.natAbs
  simp;omega
 ·have:=gv 20 n.toNat
  omega
theorem CR {P:Program}{G:Nat→List PV}{w:World}{imm:Nat→Nat→Prop}{name:String}{k:IntKind}{zs:List Int}{g:Nat}(hn:P.globalNamed name=some g)(hG:G g=zs.map (PV.int k))(hz:zs≠[])(h:bZ G w imm) :
  Lib.TabIs P w name k zs:=by
 obtain⟨cs,T,fz,h1,h2⟩:=h.2 g (by rw[hG];simpa using hz)
 have hcs:cs=(zs.map fun z=>Value.int k z).toArray:=by
  rw[hG] at h2
  simp only[List.length_map] at h2
  apply Array.ext
  ·simp[h2]
  ·intro i hi hi'
   have hiz:i<zs.length:=by omega
   obtain⟨_,v,h3,_,h4⟩:=h.1 g i (.int k zs[i]) (by rw[hG];simp[hiz])
   have hv:v = .int k zs[i]:=by cases h4;rfl
   have hc:=cell_of_row w g i cs T fz h1
   rw[h3,hv] at hc
   have:=(Array.getElem?_eq_some_iff.1 hc.symm).2
   simp[this]
 unfold Lib.TabIs World.var?
 rw[hn]
 simp only[Option.bind_some,h1]
 rw[hcs]
theorem zZ {P:Program}{G:Nat→List PV}{f g:Nat}{name:String}(hc:bA P f=true)(hn:P.globalNamed name=some g)(hG:G g=Lib.pow10Tab.map (PV.int .u64))
  (h:∀ (n:Int) (h0:-9223372036854775808≤n) (h1:n≤9223372036854775807) (w:World) (htab:Lib.TabIs P w name .u64 Lib.pow10Tab),
   Calls P f #[.int .i64 n] w fun e w'=>e = .returned (.string ⟨(Lib.itoa n).toArray⟩)∧∃ k os,w'=Sort.grow (w.drewN k) os)
  (n:Int) (h0:-9223372036854775808≤n) (h1:n≤9223372036854775807):aw P G f [.int .i64 n] (.str (lk n)):=by
 refine bS hc fun w imm vals hGl hsz hargs=>?_
 have hv:=wG hsz
 have h2:=hargs 0 (.int .i64 n) rfl
 have h3:vals.getD 0 Go.undef = .int .i64 n:=by
  generalize vals.getD 0 Go.undef=x at h2
  cases h2;rfl
 rw[hv,h3]
 refine (h n h0 h1 w (CR hn hG (by
  intro e
  have:=congrArg List.length e
  rw[Lib.pow10Tab_length] at this
  simp at this) hGl)).mono ?_
 rintro e w' ⟨rfl,k,os,rfl⟩
 refine⟨_,rfl,Lib.below_grow _ w (Nat.le_refl _) k os,?_⟩
 rw[rO h0 h1,← rO h0 h1]
 refine cJ ?_
 have:=z8 n
 unfold maxLen;omega
def gX (sep:List UInt8):List (List UInt8)→List UInt8
 | []=>[]
 | [x]=>x
 | x::y::r=>x++sep++gX sep (y::r)
theorem lj (sep:List UInt8):∀ (l:List (List UInt8)),gX sep l=Lib.join l sep
 | []=>rfl
 | [x]=>(Lib.join_one x sep).symm
 | x::y::r=>by
   rw[gX,lj sep (y::r),Lib.join_cons,Lib.join_cons]
   simp[Lib.joinTail]
theorem zY {P:Program}{G:Nat→List PV}{f:Nat}(hc:bA P f=true)
  (h0:∀ (a:Option Addr) (c:Nat) (sep:ByteArray) (w:World),Calls P f #[.slice a 0 c,.string sep] w fun e w'=>e = .returned (.string ⟨#[]⟩)∧w'=w)
  (h:∀ (bk o c:Nat) (xs:List ByteArray) (sep:ByteArray) (w:World) (hcells:∀ (j:Nat) x,xs[j]? = some x→w.cell? ⟨bk,o+j,none⟩=some (.string x)) (hbk:bk<w.heap.size) (hN:xs.length≤140737488355328) (hcap:xs.length≤c) (hlen:(Lib.join (xs.map (·.data.toList)) sep.data.toList).length≤140737488355328),
   Calls P f #[.slice (some ⟨bk,o,none⟩) xs.length c,.string sep] w fun e w'=>e = .returned (.string ⟨(Lib.join (xs.map (·.data.toList)) sep.data.toList).toArray⟩)∧Below w.heap.size w w')
  (l:List (List UInt8)) (sep:List UInt8) (hN:l.length≤140737488355328) (hlen:(gX sep l).length≤140737488355328):aw P G f [.list (l.map .str),.str sep] (.str (gX sep l)):=by
 refine bS hc fun w imm vals hGl hsz hargs=>?_
 have hv:=qS hsz
 have hl:=hargs 0 (.list (l.map .str)) rfl
 obtain⟨hs,hsl⟩:=fY (hargs 1 (.str sep) rfl)
 rw[hv,hs]
 generalize vals.getD 0 Go.undef=u at hl
 generalize hL:l.map PV.str=L at hl
 cases hl with
 | lnil A c hcm=>
   have:l=[]:=by cases l with
    | nil=>rfl
    | cons x r=>simp at hL
   subst this
   refine (h0 A c _ w).mono ?_
   rintro e w' ⟨rfl,rfl⟩
   exact⟨_,rfl,Below.refl _ _,cJ (by simp[gX])⟩
 | list _ b off c sz g k1 k2 k3 k4 k5=>
   have hlen':L.length=l.length:=by rw[← hL];simp
   by_cases hne:l=[]
   ·subst hne
    simp at hL
    subst hL
    refine (h0 _ c _ w).mono ?_
    rintro e w' ⟨rfl,rfl⟩
    exact⟨_,rfl,Below.refl _ _,cJ (by simp[gX])⟩
   ·have hget:∀ (i:Nat) (s:List UInt8),l[i]? = some s→L[i]? = some (.str s):=by
     intro i s hi
     rw[← hL];simp[hi]
    have hpos:0<l.length:=List.length_pos_iff.2 hne
    have hsz1:sz=1:=(k3 0 _ (hget 0 _ (List.getElem?_eq_getElem hpos))).symm
    subst hsz1
    have hcell:∀ (i:Nat) (s:List UInt8),l[i]? = some s→w.cell? ⟨b,off+i,none⟩=some (.string ⟨s.toArray⟩):=by
     intro i s hi
     obtain⟨_,q2,_⟩:=k4 i (.str s) 0 (.str s) (hget i s hi) rfl
     have q3:=k5 i (.str s) 0 (.str s) (hget i s hi) rfl
     rw[(fY q3).1] at q2
     simpa using q2
    have hbk:b<w.heap.size:=World.block_lt_of_cell? w _ (hcell 0 _ (List.getElem?_eq_getElem hpos))
    have hmap:(l.map fun s=>(⟨s.toArray⟩:ByteArray)).map (·.data.toList)=l:=by
     rw[List.map_map]
     have:((fun (x:ByteArray)=>x.data.toList)∘fun (s:List UInt8)=>(⟨s.toArray⟩:ByteArray))=id:=by funext s;simp
     rw[this,List.map_id]
    have:=h b off c (l.map fun s=>⟨s.toArray⟩) ⟨sep.toArray⟩ w (fun j x hx=>by
     simp only[List.getElem?_map,Option.map_eq_some_iff] at hx
     obtain⟨s,hs,rfl⟩:=hx
     exact hcell j s hs) hbk (by simpa using hN) (by simp;omega) (by
     rw[hmap]
     rw[lj] at hlen
     simpa using hlen)
    rw[hmap] at this
    simp only[List.length_map] at this
    rw[hlen']
    refine this.mono ?_
    rintro e w' ⟨rfl,hb⟩
    refine⟨_,rfl,hb,?_⟩
    have e:Lib.join l (⟨sep.toArray⟩:ByteArray).data.toList=gX sep l:=by rw[lj]
    rw[e]
    exact cJ (by unfold maxLen;omega)
theorem nY {P:Program}{G:Nat→List PV}{f:Nat}(hc:bA P f=true)
  (h:∀ (a b:ByteArray) (w:World),Calls P f #[.string a,.string b] w fun e w'=>e = .returned (.int .i64 (Lib.compareBytes a.data.toList b.data.toList))∧w'=w) (a b:List UInt8) :
  aw P G f [.str a,.str b] (.int .i64 (Lib.compareBytes a b)):=by
 refine bS hc fun w imm vals hGl hsz hargs=>?_
 have hv:=qS hsz
 obtain⟨ha,_⟩:=fY (hargs 0 (.str a) rfl)
 obtain⟨hb,_⟩:=fY (hargs 1 (.str b) rfl)
 rw[hv,ha,hb]
 refine (h _ _ w).mono ?_
 rintro e w' ⟨rfl,rfl⟩
 refine⟨_,rfl,Below.refl _ _,?_⟩
 simpa using PRel.int (w:=w') (imm:=imm) .i64 (Lib.compareBytes a b)
end Go.Ab
set_option linter.unusedVariables false
set_option linter.unusedSimpArgs false
namespace Go.Ab
open Go
def decP (l:List UInt8):Nat×Nat:=
 if l=[] then (0,0) else if Lib.decodeL l=(65533,1) then (0,0) else Lib.decodeL l
theorem take_2 {l:List UInt8}{a b:UInt8}(h0:l[0]? = some a)(h1:l[1]? = some b):l.take 2=[a,b]:=by
 rw[bt h1,bt h0];rfl
theorem take_3 {l:List UInt8}{a b c:UInt8}(h0:l[0]? = some a)(h1:l[1]? = some b)(h2:l[2]? = some c):l.take 3=[a,b,c]:=by
 rw[bt h2,take_2 h0 h1];rfl
end Go.Ab
set_option linter.unusedVariables false
set_option linter.unusedSimpArgs false
namespace Go.Ab
open Go
section
variable {P:Program}{G:Nat→List PV}
end
def QC (sz s off:Nat):Blk→Option AV
 | .cells _ f l=>if f=true∧s=sz∧0<sz∧off=0 then some (.pv (.int .i64 ((l.length / sz:Nat):Int))) else none
 | _=>none
theorem DD (sz:Nat)(σ:aq)(r s off len:Nat):DE sz σ (.row r s off len)=QC sz s off (σ r):=by
 simp only[DE,QC];cases σ r<;>rfl
def LU (sz r s off:Nat)(h:Int):Blk→Option AV
 | .cells _ f l=>if f=true∧s=sz∧0<sz∧off=0∧0≤h∧h.toNat*sz≤l.length then some (.row r sz 0 h.toNat) else none
 | _=>none
theorem xV (sz:Nat)(σ:aq)(r s off len:Nat)(k:IntKind)(h:Int):kV sz σ (.row r s off len) (.pv (.int k h))=LU sz r s off h (σ r):=by
 simp only[kV,LU];cases σ r<;>rfl
def Qy (sz s off len:Nat):Blk→Option (Nat×List AV)
 | .cells _ _ l=>if s=sz∧off+len*sz≤l.length then some (len,(l.drop off).take (len*sz)) else none
 | _=>none
theorem Dd (sz:Nat)(σ:aq)(r s off len:Nat):wa sz σ (.row r s off len)=Qy sz s off len (σ r):=by
 cases hh:σ r<;>simp[wa,Qy,hh]
theorem Ht (sz r:Nat)(σ:aq)(l:List PV):wa sz σ (.olist r sz l)=some (l.length,bj l):=by
 simp[wa,aY]
def M3 (sz r s off len:Nat):Blk→Option (Nat×List AV)→Option (AV×List (Nat×Blk))
 | .cells T f l,o=>if s=sz then o.bind (copyB sz r off len T f l) else none
 | _,_=>none
theorem yb (sz:Nat)(σ:aq)(r s off len:Nat)(y:AV):mI sz σ (.row r s off len) y=M3 sz r s off len (σ r) (wa sz σ y):=by
 simp only[mI,M3];cases σ r<;>rfl
def GU (r q:Nat)(k:List PV):Blk→Blk→Option AV
 | .tok _ _,.cells _ f l=>if r≠q∧f=true∧0<l.length∧0<k.length then some (.pv (.bool false)) else none
 | _,_=>none
theorem tL (σ:aq)(r s q sz off len:Nat)(k:List PV):fB σ (.olist r s k) (.row q sz off len)=GU r q k (σ r) (σ q):=by
 simp only[fB,GU];cases σ r<;>cases σ q<;>rfl
def Nn (e sz by_:Nat)(zs:List PV)(new s off len:Nat)(k:Int):Blk→Option (AV×List (Nat×Blk))
 | .cells _ f l=>if f=true∧s=sz∧0<sz∧off=0∧0<k∧l.length<(len+k.toNat)*sz∧zs.length=sz∧zs.all PV.one=true∧j4 len k.toNat by_=true then
    some (.row new sz 0 (len+k.toNat),[(new,.cells e false (l.take (len*sz)++(List.replicate k.toNat zs).flatten.map .pv))]) else none
 | _=>none
theorem yu (e sz by_:Nat)(zs:List PV)(new:Nat)(σ:aq)(r s off len:Nat)(kd:IntKind)(k:Int):mM e sz by_ zs new σ (.row r s off len) (.pv (.int kd k))=Nn e sz by_ zs new s off len k (σ r):=by
 simp only[mM,Nn];cases σ r<;>rfl
theorem FI {e sz by_ new:Nat}{σ:aq}{y:PV}{r:List PV}(h1:r.length+1≤9223372036854775807)(h2:(r.length+1)*by_≤140737488355328):ey true e sz by_ new σ (.pv .nils) (some (y::r))=some (.row new sz 0 (r.length+1),[(new,.cells e false (bj (y::r)))]):=by
 simp only[ey];rw[if_pos (eh (by omega) (by simpa using h2))]
section
variable (e:List (Nat×AV))(σ:List (Nat×Blk))(new:Nat)
theorem Mu (G:Nat→List PV)(o:XOp):jO G e σ new (.xop o)=eD e σ new o:=_root_.id rfl
theorem Ct (sz:Nat)(x:AX):eD e σ new (.cap sz x)=cI [] (DE sz (fun r=>lookB r σ) (evE e x)):=by
 simp only[eD,cI];cases DE sz (fun r=>lookB r σ) (evE e x)<;>rfl
theorem wl (sz:Nat)(x h:AX):eD e σ new (.resl sz x h)=cI [] (kV sz (fun r=>lookB r σ) (evE e x) (evE e h)):=by
 simp only[eD,cI];cases kV sz (fun r=>lookB r σ) (evE e x) (evE e h)<;>rfl
theorem wo (sz:Nat)(x y:AX):eD e σ new (.copy sz x y)=mI sz (fun r=>lookB r σ) (evE e x) (evE e y):=_root_.id rfl
theorem sH (x y:AX):eD e σ new (.apart x y)=cI [] (fB (fun r=>lookB r σ) (evE e x) (evE e y)):=by
 simp only[eD,cI];cases fB (fun r=>lookB r σ) (evE e x) (evE e y)<;>rfl
theorem wq (t sz by_:Nat)(zs:List PV)(x k:AX):eD e σ new (.appz t sz by_ zs x k)=mM t sz by_ zs new (fun r=>lookB r σ) (evE e x) (evE e k):=_root_.id rfl
theorem EI (o:XOp):de e (.xop o)=cw e o:=_root_.id rfl
theorem oE (sz:Nat)(x y:AX):cw e (.copy sz x y)=(evE e x).name++(evE e y).name:=_root_.id rfl
theorem pS (sz:Nat)(x y:AX):aU (.xop (.copy sz x y))=0:=_root_.id rfl
end
attribute [push_cast] FI DD xV Ht Dd yb tL yu Mu Ct wl wo sH wq EI oE pS
end Go.Ab
set_option linter.unusedVariables false
set_option linter.unusedSimpArgs false
namespace Go.Ab
open Go
section
variable {e:List (Nat×AV)}{σ:List (Nat×Blk)}{new:Nat}
theorem aJ (l:List UInt8):(az l).length=l.length:=by simp[az]
theorem km (l:List UInt8):bj (az l)=(az l).map .pv:=by
 unfold bj
 congr 1
 induction l with
 | nil=>rfl
 | cons b r ih=>simp only[az,List.map_cons,List.flatMap_cons,PV.cells] at ih ⊢;rw[ih];rfl
theorem fT (l k:List UInt8):az (l++k)=az l++az k:=by simp[az]
theorem FC (x:AV):AVz x .any=True:=eq_true (.any x)
theorem sE (x:AX):eD e σ new (.noesc x)=some (evE e x,[]):=_root_.id rfl
theorem sB (u n:Nat)(b:Bool)(x:AX):eD e σ new (.ucast u n b x)=cI [] (em u n b (fun r=>lookB r σ) (evE e x)):=by
 simp only[eD,cI];cases em u n b (fun r=>lookB r σ) (evE e x)<;>rfl
def qV (u n:Nat)(back:Bool)(r o:Nat):Blk→Option AV
 | .cells T f l=>match back with
   | false=>if o<l.length then some (.ptr r o) else none
   | true=>if T=u∧o=0∧f=true∧l.length=n then some (.ptr r o) else none
 | _=>none
theorem tq (u n:Nat)(b:Bool)(τ:aq)(r o:Nat):em u n b τ (.ptr r o)=qV u n b r o (τ r):=by
 simp only[em,qV];cases τ r<;>rfl
theorem CD {u n r o T:Nat}{f:Bool}{l:List AV}(h:Chk (decide (o<l.length))):qV u n false r o (.cells T f l)=some (.ptr r o):=if_pos (of_decide_eq_true h)
theorem CC {u n r:Nat}{l:List AV}(h:Chk (decide (l.length=n))):qV u n true r 0 (.cells u true l)=some (.ptr r 0):=if_pos ⟨rfl,rfl,rfl,of_decide_eq_true h⟩
theorem Cs (ng:Bool)(x y:AX):eD e σ new (.peq ng x y)=cI [] (Ia ng (evE e x) (evE e y)):=by
 simp only[eD,cI];cases Ia ng (evE e x) (evE e y)<;>rfl
theorem Dt (ng:Bool)(r o:Nat):Ia ng (.ptr r o) (.ptr r o)=some (.pv (.bool (!ng))):=if_pos ⟨rfl,rfl⟩
theorem wn (ng:Bool)(x y:AX):eD e σ new (.fnil ng x y)=cI [] (mG ng (evE e x) (evE e y)):=by
 simp only[eD,cI];cases mG ng (evE e x) (evE e y)<;>rfl
theorem x8 (ng:Bool)(f:Nat)(a b:List PV):mG ng (.pv (.clo f a b)) (.pv .nilf)=some (.pv (.bool ng)):=_root_.id rfl
theorem x7 (ng:Bool):mG ng (.pv .nilf) (.pv .nilf)=some (.pv (.bool (!ng))):=_root_.id rfl
theorem l6 (x y:AX):eD e σ new (.idxb x y)=cI [] (pa (evE e x) (evE e y)):=by
 simp only[eD,cI];cases pa (evE e x) (evE e y)<;>rfl
theorem mE (s:List UInt8)(c:Int):pa (.pv (.str s)) (.pv (.int .u8 c))=some (.pv (.int .i64 (d8 c.toNat.toUInt8 s 0))):=_root_.id rfl
theorem ws (t by_:Nat)(x y:AX):eD e σ new (.apps t by_ x y)=jM t by_ new (fun r=>lookB r σ) (evE e x) (evE e y):=_root_.id rfl
theorem tJ (t by_:Nat)(τ:aq):jM t by_ new τ (.pv .nils) (.pv (.str []))=some (.pv .nils,[]):=_root_.id rfl
theorem tI {t:Nat}{τ:aq}{c:UInt8}{k:List UInt8}(h:k.length+1≤140737488355328):jM t 1 new τ (.pv .nils) (.pv (.str (c::k)))=some (.row new 1 0 (k.length+1),[(new,.cells t false ((az (c::k)).map .pv))]):=by
 have h1:az (c::k) = .int .u8 (c.toNat:Int)::az k:=_root_.id rfl
 have h2:=eh (n:=0) (m:=(az k).length+1) (by_:=1) (by rw[aJ];omega) (by rw[aJ];omega)
 simp only[jM,GT,h1]
 rw[if_pos h2,← h1,km,aJ]
def FH (t by_ new q s off len:Nat)(k:List UInt8):Blk→Option (AV×List (Nat×Blk))
 | .cells e' _ l=>if e'=t∧s=1∧off=0∧len*1≤l.length∧j4 len (az k).length by_=true then some (.row new 1 0 (len+(az k).length),[(q,.none),(new,.cells t false (l.take (len*1)++bj (az k)))]) else none
 | _=>none
theorem yw (t by_:Nat)(τ:aq)(q s off len:Nat)(k:List UInt8):jM t by_ new τ (.row q s off len) (.pv (.str k))=FH t by_ new q s off len k (τ q):=by
 simp only[jM,GT,FH]
 cases τ q<;>rfl
theorem FG {t q len:Nat}{f:Bool}{l k:List UInt8}(hl:len=l.length)(h:l.length+k.length≤140737488355328) :
  FH t 1 new q 1 0 len k (.cells t f ((az l).map .pv))=some (.row new 1 0 (l.length+k.length),[(q,.none),(new,.cells t false ((az (l++k)).map .pv))]):=by
 subst hl
 have h2:=eh (n:=l.length) (m:=(az k).length) (by_:=1) (by rw[aJ];omega) (by rw[aJ];omega)
 simp only[FH]
 rw[if_pos ⟨trivial,trivial,trivial,by simp[aJ],h2⟩,aJ,km,fT,List.map_append,List.take_of_length_le (by simp[aJ])]
theorem Az (k:IntKind)(n:Int):bj [PV.int k n]=[.pv (.int k n)]:=_root_.id rfl
theorem vU {t new q len:Nat}{f:Bool}{l:List UInt8}{c:UInt8}(hl:len=l.length)(h:l.length+1≤140737488355328) :
  oh t 1 1 new q 1 0 len [.int .u8 (c.toNat:Int)] (.cells t f ((az l).map .pv))=some (.row new 1 0 (l.length+1),[(q,.none),(new,.cells t false ((az (l++[c])).map .pv))]):=by
 subst hl
 rw[lL (by simp[aJ]) (by simp;omega) (by simpa using h),List.take_of_length_le (by simp[aJ]),fT,List.map_append]
 rfl
theorem sC (x:AX):eD e σ new (.sdata x)=cI [] (fw (evE e x)):=by
 simp only[eD,cI];cases fw (evE e x)<;>rfl
theorem tw:fw (.pv .nils)=some (.pv .nilp):=_root_.id rfl
theorem tv (r s off n:Nat):fw (.row r s off (n+1))=some (.ptr r off):=by rw[fw];exact if_pos (Nat.succ_pos n)
theorem wk (t:Nat)(x k:AX):eD e σ new (.ustr t x k)=mB t (fun r=>lookB r σ) (evE e x) (evE e k):=_root_.id rfl
theorem xU (t:Nat)(τ:aq):mB t τ (.pv .nilp) (.pv (.int .i64 0))=some (.pv (.str []),[]):=_root_.id rfl
theorem xT (t:Nat)(τ:aq)(r o:Nat)(k:Int):mB t τ (.ptr r o) (.pv (.int .i64 k))=oI t r o k (τ r):=_root_.id rfl
theorem me:∀ l:List UInt8,u8x (az l)=some l
 | []=>rfl
 | b::r=>by
   have ih:=me r
   have h:az (b::r) = .int .u8 (b.toNat:Int)::az r:=_root_.id rfl
   have hb:=b.toNat_lt
   rw[h,u8x,if_pos ⟨by omega,by omega⟩,ih]
   simp
theorem qU {t r:Nat}{k:Int}{f:Bool}{l:List UInt8}(hk:k=(l.length:Int))(h0:0<l.length)(h1:l.length≤140737488355328):oI t r 0 k (.cells t f ((az l).map .pv))=some (.pv (.str l),[(r,.bts t l)]):=by
 subst hk
 simp only[oI,Int.toNat_natCast]
 rw[if_pos ⟨trivial,trivial,by omega,by simp[aJ],by omega⟩,List.take_of_length_le (by simp[aJ]),Gs,Option.bind_some,me]
 rfl
theorem uq (t:Nat)(l:List UInt8):(Blk.bts t l).names=[]:=_root_.id rfl
theorem Dr (f:Nat→Option Nat)(t:Nat)(l:List UInt8):(Blk.bts t l).ren f = .bts t l:=_root_.id rfl
theorem wK {t r:Nat}{k:Int}{l:List UInt8}(hk:k=(l.length:Int))(h0:0<l.length)(h1:l.length≤140737488355328):oI t r 0 k (.bts t l)=some (.pv (.str l),[(r,.bts t l)]):=by
 subst hk
 simp only[oI]
 rw[if_pos ⟨trivial,trivial,by omega,trivial,by omega⟩]
theorem oG (t b:Nat)(x y:AX):cw e (.apps t b x y)=(evE e x).name:=_root_.id rfl
theorem oA (t:Nat)(x y:AX):cw e (.ustr t x y)=(evE e x).name:=_root_.id rfl
theorem l7 (u n:Nat)(b:Bool)(x:AX):cw e (.ucast u n b x)=(evE e x).name:=_root_.id rfl
theorem l9 (x:AX):cw e (.noesc x)=[]:=_root_.id rfl
theorem sI (g:Bool)(x y:AX):cw e (.peq g x y)=[]:=_root_.id rfl
theorem l8 (x:AX):cw e (.sdata x)=[]:=_root_.id rfl
theorem oD (g:Bool)(x y:AX):cw e (.fnil g x y)=[]:=_root_.id rfl
theorem oC (x y:AX):cw e (.idxb x y)=[]:=_root_.id rfl
theorem pV (t b:Nat)(x y:AX):aU (.xop (.apps t b x y))=1:=_root_.id rfl
theorem pN (t:Nat)(x y:AX):aU (.xop (.ustr t x y))=0:=_root_.id rfl
theorem np (x:AX):aU (.xop (.sdata x))=0:=_root_.id rfl
theorem nj (u n:Nat)(b:Bool)(x:AX):aU (.xop (.ucast u n b x))=0:=_root_.id rfl
theorem nq (x:AX):aU (.xop (.noesc x))=0:=_root_.id rfl
theorem uz (g:Bool)(x y:AX):aU (.xop (.peq g x y))=0:=_root_.id rfl
theorem pR (g:Bool)(x y:AX):aU (.xop (.fnil g x y))=0:=_root_.id rfl
theorem pQ (x y:AX):aU (.xop (.idxb x y))=0:=_root_.id rfl
end
section
variable {P:Program}{G:Nat→List PV}
def oq {ι κ:Type}(S:ι→St)(Inv:ι→Prop)(μ:ι→Nat)(x:ι)(m0:Nat)(keep:List Nat)(id:Nat)(keepX:List Nat)(SX:κ→St)(fin:κ→Prop)(Q:AExit→St→Prop):AExit→St→Prop
 | .norm,s'=>∃ x',Hd [] m0 keep s' (S x')∧Inv x'∧μ x'<μ x
 | .exit i,s'=>if i=id then ∃ y,Hd [] m0 keepX s' (SX y)∧fin y else Q (.exit i) s'
 | .ret,s'=>Q .ret s'
theorem qG {ι κ:Type}(S:ι→St)(Inv:ι→Prop)(μ:ι→Nat)(x:ι)(m0:Nat)(keep:List Nat)(id:Nat)(keepX:List Nat)(SX:κ→St)(fin:κ→Prop)(Q:AExit→St→Prop)(s:St):oq S Inv μ x m0 keep id keepX SX fin Q .norm s = ∃ x',Hd [] m0 keep s (S x')∧Inv x'∧μ x'<μ x:=_root_.id rfl
theorem qH {ι κ:Type}(S:ι→St)(Inv:ι→Prop)(μ:ι→Nat)(x:ι)(m0:Nat)(keep:List Nat)(id:Nat)(keepX:List Nat)(SX:κ→St)(fin:κ→Prop)(Q:AExit→St→Prop)(i:Nat)(s:St):oq S Inv μ x m0 keep id keepX SX fin Q (.exit i) s=if i=id then (∃ y,Hd [] m0 keepX s (SX y)∧fin y) else Q (.exit i) s:=_root_.id rfl
theorem vY {ι κ:Type}(S:ι→St)(Inv:ι→Prop)(μ:ι→Nat)(x:ι)(m0:Nat)(keep:List Nat)(id:Nat)(keepX:List Nat)(SX:κ→St)(fin:κ→Prop)(Q:AExit→St→Prop)(s:St):oq S Inv μ x m0 keep id keepX SX fin Q .ret s=Q .ret s:=_root_.id rfl
theorem Cy {ι κ:Type}(S:ι→St)(Inv:ι→Prop)(μ:ι→Nat)(x0:ι)(keepX:List Nat)(SX:κ→St)(fin:κ→Prop){m0 id:Nat}{keep:List Nat}{b:ACode}{F:St→Prop}{Q:AExit→St→Prop}{s:St}
  (h1:Hd [] m0 keep s (S x0)) (h2:Inv x0) (h3:∀ x,Inv x→vc P G m0 b (oq S Inv μ x m0 keep id keepX SX fin Q) (S x)) (h4:∀ y,fin y→F (SX y)):vc P G m0 (.loop keep b) (eZ id (GX F Q)) s:=by
 refine⟨fun n s'=>∃ x,s'=S x∧Inv x∧μ x=n,⟨μ x0,_,h1,x0,rfl,h2,rfl⟩,?_⟩
 rintro n s' ⟨x,rfl,hx,rfl⟩
 refine cm b (fun e s' hs=>?_) _ (h3 x hx)
 cases e with
 | norm=>
   obtain⟨x',k1,k2,k3⟩:=hs
   exact⟨_,_,k3,k1,x',rfl,k2,rfl⟩
 | exit i=>
   simp only[oq] at hs
   split at hs
   ·rename_i hi
    obtain⟨y,k1,k2⟩:=hs
    refine⟨_,k1,?_⟩
    simp only[eZ,if_pos hi,GX]
    exact h4 y k2
   ·rename_i hi
    refine⟨s',Wk.of (Wx.refl s') m0,?_⟩
    simp only[eZ,if_neg hi,GX]
    exact hs
 | ret=>exact hs
end
attribute [push_cast] qG qH vY FC Az sE sB tq CD CC Cs Dt wn x8 x7 l6 mE
 uq Dr
 ws tJ tI yw sC tw tv wk xU xT oG oA l7 l9 sI l8
 oD oC pV pN np nj nq uz pR pQ
end Go.Ab
set_option linter.unusedVariables false
set_option linter.unusedSimpArgs false
namespace Go.Ab
open Go Go.RowKit
def bU (P:Program)(t:TypeId):Bool:=
 match P.underlying t with
 | some (.struct _) | some (.array _ _)=>true
 | _=>false
def dY (g:Bool)(cs:List PV):PV:=
 match g with
 | true=>.agg cs
 | false=>cs.headD .undef
def Jl (P:Program)(f:Field)(cs:List PV):PV:=dY (bU P f.type) ((cs.drop f.offset).take (P.cellsOf f.type))
inductive HasT (P:Program):TypeId→PV→Prop
 | bool (t:TypeId) (b:Bool):P.underlying t=some .bool→HasT P t (.bool b)
 | int (t:TypeId) (k:IntKind) (n:Int):P.underlying t=some (.int k)→(Lit.int k n).wf=true→HasT P t (.int k n)
 | str (t:TypeId) (s:List UInt8):P.underlying t=some .string→s.length≤140737488351232→HasT P t (.str s)
 | list (t e:TypeId) (l:List PV):P.underlying t=some (.slice e)→l.length≤maxLen→l.length*P.bytesOf e≤140737488351232→(∀ (i:Nat) (x:PV),l[i]? = some x→HasT P e x)→HasT P t (.list l)
 | arr (t e:TypeId) (n:Nat) (cs:List PV):P.underlying t=some (.array n e)→cs.length=P.cellsOf t→(∀ i,i<n→HasT P e (dY (bU P e) ((cs.drop (i*P.cellsOf e)).take (P.cellsOf e))))→HasT P t (.agg cs)
 | agg (t:TypeId) (fs:Array Field) (cs:List PV):P.underlying t=some (.struct fs)→cs.length=P.cellsOf t→(∀ (i:Nat) (f:Field),fs.toList[i]? = some f→HasT P f.type (Jl P f cs))→HasT P t (.agg cs)
def wj (w:World)(imm:Nat→Nat→Prop)(p:PV)(cs:List Value):Prop:=
 p.cells.length=cs.length∧∀ (i:Nat) (x:PV),p.cells[i]? = some x→PRel w imm x (cs.getD i Go.undef)∧(cs.getD i Go.undef).oneCell'=true
def wd (P:Program):List Field→Nat→Option Nat
 | [],o=>some o
 | f::r,o=>if f.offset=o then wd P r (o+P.cellsOf f.type) else none
def Gt (P:Program)(ts:List TypeId)(t:TypeId):Bool:=
 match P.underlying t with
 | some .bool | some (.int _) | some .string=>true
 | some (.slice e)=>ts.contains e&&decide (0<P.cellsOf e)
 | some (.struct fs)=>(match wd P fs.toList 0 with
   | some n=>decide (n=P.cellsOf t)
   | none=>false)&&fs.toList.all fun f=>ts.contains f.type
 | some (.array n e)=>ts.contains e&&decide (n*P.cellsOf e=P.cellsOf t)
 | _=>false
def Ou (P:Program)(ts:List TypeId):Bool:=ts.all fun t=>Gt P ts t
theorem HasT.cell {P:Program}{t:TypeId}{p:PV}(h:HasT P t p):dY (bU P t) p.cells=p:=by
 cases h with
 | bool _ h=>simp[bU,‹P.underlying t=_›,dY,PV.cells]
 | int _ _ h _=>simp[bU,‹P.underlying t=_›,dY,PV.cells]
 | str _ h _=>simp[bU,‹P.underlying t=_›,dY,PV.cells]
 | list _ _ h _ _ _=>simp[bU,‹P.underlying t=_›,dY,PV.cells]
 | arr _ _ _ h _ _=>simp[bU,‹P.underlying t=_›,dY,PV.cells]
 | agg _ _ h _ _=>simp[bU,‹P.underlying t=_›,dY,PV.cells]
theorem zH {P:Program}:∀ (fs:List Field) (o n:Nat),wd P fs o=some n→o≤n∧∀ f∈fs,o≤f.offset
 | [],o,n,h=>by simp only[wd,Option.some.injEq] at h;subst h;simp
 | f::r,o,n,h=>by
   simp only[wd] at h
   split at h
   ·rename_i ho
    obtain⟨h1,h2⟩:=zH r _ n h
    refine⟨by omega,fun g hg=>?_⟩
    rcases List.mem_cons.1 hg with rfl | hg
    ·omega
    ·have:=h2 g hg;omega
   ·cases h
section
variable {H:Type}{enc:TypeId×Value→H}{P:Program}{w:World}{spare:Nat→Bool}{held:Bool}{ts:List TypeId}{imm:Nat→Nat→Prop}
theorem fu {p:PV}{v:Value}(hc:p.cells=[p])(h:PRel w imm p v)(h1:v.oneCell'=true):wj w imm p [v]:=by
 refine⟨by rw[hc];rfl,fun i x hx=>?_⟩
 rw[hc] at hx
 cases i with
 | zero=>simp only[List.getElem?_cons_zero,Option.some.injEq] at hx;subst hx;exact⟨h,h1⟩
 | succ i=>simp at hx
theorem gq {F:Field→Option (DataW H×List MemPlace)}{cs:List Value}{n:Nat}(hcs:cs.length=n)
  (hF:∀ f x,F f=some x→(x.1.weights P f.type).all (·≤reachBytes)=true→f.type∈ts→∃ p,HasT P f.type p∧wj w imm p ((cs.drop f.offset).take (P.cellsOf f.type))):∀ (fs:List Field) (o:Nat) (xs:List (DataW H×List MemPlace)),wd P fs o=some n→(∀ f∈fs,f.type∈ts)→fs.mapM F=some xs→(DataW.weightsEach P (fs.map (·.type)) (xs.map (·.1))).all (·≤reachBytes)=true →
  ∃ ps:List PV,ps.length=n - o∧(∀ (i:Nat) (x:PV),ps[i]? = some x→PRel w imm x (cs.getD (o+i) Go.undef)∧(cs.getD (o+i) Go.undef).oneCell'=true) ∧
    ∀ f∈fs,HasT P f.type (dY (bU P f.type) ((ps.drop (f.offset - o)).take (P.cellsOf f.type)))
 | [],o,xs,hl,_,_,_=>by
   simp only[wd,Option.some.injEq] at hl
   subst hl
   exact⟨[],by simp,by simp,by simp⟩
 | f::r,o,xs,hl,ht,hm,hz=>by
   simp only[wd] at hl
   split at hl
   ·rename_i ho
    simp only[List.mapM_cons,Option.bind_eq_bind,Option.bind_eq_some_iff,Option.pure_def,Option.some.injEq] at hm
    obtain⟨x,hx,xs',hxs,rfl⟩:=hm
    simp only[List.map_cons,DataW.weightsEach,List.all_append,Bool.and_eq_true] at hz
    obtain⟨p,hp,hr1,hr2⟩:=hF f x hx hz.1 (ht f (by simp))
    obtain⟨q1,q2⟩:=zH r _ n hl
    obtain⟨ps,h1,h2,h3⟩:=gq hcs hF r _ xs' hl (fun g hg=>ht g (by simp[hg])) hxs hz.2
    have hpl:p.cells.length=P.cellsOf f.type:=by rw[hr1];simp;omega
    refine⟨p.cells++ps,by simp only[List.length_append];omega,fun i x hx=>?_,fun g hg=>?_⟩
    ·by_cases hi:i<p.cells.length
     ·rw[List.getElem?_append_left hi] at hx
      have:=hr2 i x hx
      have e:((cs.drop f.offset).take (P.cellsOf f.type)).getD i Go.undef=cs.getD (o+i) Go.undef:=by
       simp only[List.getD_eq_getElem?_getD,List.getElem?_take,List.getElem?_drop]
       rw[if_pos (by omega),ho]
      rw[e] at this;exact this
     ·rw[List.getElem?_append_right (by omega)] at hx
      have:=h2 _ x hx
      have e:o+P.cellsOf f.type+(i - p.cells.length)=o+i:=by omega
      rw[e] at this;exact this
    ·rcases List.mem_cons.1 hg with rfl | hg'
     ·have e:((p.cells++ps).drop (g.offset - o)).take (P.cellsOf g.type)=p.cells:=by
       rw[ho,Nat.sub_self,List.drop_zero,← hpl,List.take_left]
      rw[e,hp.cell];exact hp
     ·have:=q2 g hg'
      have e:(p.cells++ps).drop (g.offset - o)=ps.drop (g.offset - (o+P.cellsOf f.type)):=by
       rw[List.drop_append,List.drop_eq_nil_of_le (by omega),List.nil_append]
       congr 1;omega
      rw[e];exact h3 g hg'
   ·cases hl
theorem eG {t:TypeId}{p:PV}{v:Value}(hp:HasT P t p)(h:wj w imm p v.cells.toList)(ha:bU P t=true→∃ cs,v = .agg cs)(ha':bU P t=false→v.cells = #[v]):PRel w imm p v:=by
 have hc:=hp.cell
 cases hg:bU P t with
 | false=>
   rw[hg] at hc
   rw[ha' hg] at h
   obtain⟨h1,h2⟩:=h
   have:p.cells=[p]:=by
    have hl:p.cells.length=1:=by rw[h1];simp
    obtain⟨q,hq⟩:=List.length_eq_one_iff.1 hl
    rw[hq] at hc ⊢
    simp only[dY,List.headD_cons] at hc
    rw[hc]
   have:=(h2 0 p (by rw[this];rfl)).1
   simpa using this
 | true=>
   rw[hg] at hc
   obtain⟨cs,rfl⟩:=ha hg
   obtain⟨h1,h2⟩:=h
   simp only[dY] at hc
   rw[← hc]
   refine .agg _ _ (by simpa[Value.cells] using h1.symm) fun i x hx=>?_
   rw[aA]
   exact (h2 i x hx).1
theorem ik {α β:Type}{f:α→Option β}:∀ {l:List α} {r:List β},l.mapM f=some r→r.length=l.length
 | [],r,h=>by simp at h;subst h;rfl
 | x::l,r,h=>by
   simp only[List.mapM_cons,Option.bind_eq_bind,Option.bind_eq_some_iff,Option.pure_def,Option.some.injEq] at h
   obtain⟨b,hb,r',hr',rfl⟩:=h
   simp[ik hr']
theorem Ft {w:World}{a:Addr}{n:Nat}{v:Value}(h:w.cell? (a.add n)=some v):w.cell? ⟨a.block,a.off+n,none⟩=some v:=by
 obtain⟨b,off,spot⟩:=a
 unfold Addr.add at h
 by_cases hn:n=0
 ·subst hn
  rw[if_pos rfl] at h
  have:=World.cell?_spot h
  simp only at this
  subst this
  exact h
 ·rw[if_neg hn] at h;exact h
theorem BU (a:Addr)(n:Nat):(a.add n).block=a.block:=by unfold Addr.add;split<;>rfl
theorem JS (a:Addr)(n:Nat):(a.add n).off=a.off+n:=by unfold Addr.add;split<;>simp_all
theorem sk {w:World}{a:Addr}{n:Nat}{cs:List Value}(h:w.cells? 0 a n=some cs):cs.length=n∧∀ (j:Nat) (v:Value),cs[j]? = some v→w.cell? (a.add j)=some v:=by
 unfold World.cells? at h
 rw[if_pos (Nat.zero_le _)] at h
 have hl:=ik h
 simp only[List.length_range] at hl
 refine⟨hl,fun j v hv=>?_⟩
 have hj:j<n:=by rw[← hl];exact (List.getElem?_eq_some_iff.1 hv).1
 obtain⟨b,hb,hf⟩:=Lib.mapM_at h j j (by simp[hj])
 rw[hv] at hb;cases hb
 exact hf
theorem ix {e:TypeId}:∀ {l:List (DataW H)},(DataW.weightsAll P e l).all (·≤reachBytes)=true→∀ d∈l,(d.weights P e).all (·≤reachBytes)=true
 | [],_,d,hd=>by cases hd
 | x::r,h,d,hd=>by
   simp only[DataW.weightsAll,List.all_append,Bool.and_eq_true] at h
   rcases List.mem_cons.1 hd with rfl | hd
   ·exact h.1
   ·exact ix h.2 d hd
theorem xu {t e:TypeId}{a:Addr}{len cap:Nat}{R:List Value→Option (DataW H×List MemPlace)}{d:DataW H}{ps:List MemPlace}(hu:P.underlying t=some (.slice e))(hpos:0<P.cellsOf e)
  (hz:(d.weights P t).all (·≤reachBytes)=true) (ih:∀ cs d ps,R cs=some (d,ps)→(d.weights P e).all (·≤reachBytes)=true→∃ p,HasT P e p∧wj w imm p cs) (himm:∀ b o,b<w.heap.size→imm b o)
  (h:(if 0≤a.block∧len≤cap∧cap≤maxLen then
   (List.mapM (fun i=>(w.cells? 0 (a.add (i*P.cellsOf e)) (P.cellsOf e)).bind R) (List.range len)).bind fun elems=>
    Option.map (fun rest=>(DataW.slice (List.map (fun x=>x.fst) elems) (List.map (fun x=>x.fst) rest),MemPlace.row a ((elems.length+rest.length)*P.cellsOf e)++List.flatMap (fun x=>x.snd) (elems++rest)))
     (if spare a.block=true then List.mapM (fun j=>(w.cells? 0 (a.add ((len+j)*P.cellsOf e)) (P.cellsOf e)).bind R) (List.range (cap - len)) else some [])
   else none)=some (d,ps)):∃ p,HasT P t p∧wj w imm p [.slice (some a) len cap]:=by
 split at h
 ·rename_i hh
  obtain⟨_,hlc,hcm⟩:=hh
  simp only[Option.bind_eq_some_iff] at h
  obtain⟨elems,he,hrest⟩:=h
  simp only[Option.map_eq_some_iff,Prod.mk.injEq] at hrest
  obtain⟨rest,_,rfl,_⟩:=hrest
  simp only[DataW.weights,hu,List.all_cons,List.all_append,Bool.and_eq_true,decide_eq_true_eq,List.length_map] at hz
  obtain⟨hz1,hz2,_⟩:=hz
  have hel:elems.length=len:=by rw[ik he];simp
  have hzl:len*P.bytesOf e≤140737488351232:=by
   have h1:elems.length*P.bytesOf e≤(elems.length+rest.length)*P.bytesOf e:=Nat.mul_le_mul_right _ (by omega)
   have h2:(elems.length+rest.length)*P.bytesOf e≤140737488351232:=hz1
   exact Nat.le_trans (by rw[← hel];exact h1) h2
  have hat:∀ i,i<len→∃ cs,w.cells? 0 (a.add (i*P.cellsOf e)) (P.cellsOf e)=some cs∧∃ p,HasT P e p∧wj w imm p cs:=by
   intro i hi
   obtain⟨b,hb,hf⟩:=Lib.mapM_at he i i (by simp[hi])
   simp only[Option.bind_eq_some_iff] at hf
   obtain⟨cs,h1,h2⟩:=hf
   obtain⟨p,h3,h4⟩:=ih cs b.1 b.2 h2 (ix hz2 b.1 (List.mem_map.2 ⟨b,List.mem_of_getElem? hb,rfl⟩))
   exact⟨cs,h1,p,h3,h4⟩
  have hex:∃ l:List PV,l.length=len∧∀ (i:Nat) (x:PV),l[i]? = some x→HasT P e x∧∃ cs,w.cells? 0 (a.add (i*P.cellsOf e)) (P.cellsOf e)=some cs∧wj w imm x cs:=by
   refine⟨(List.range len).map fun i=>if h:i<len then (hat i h).choose_spec.2.choose else .undef,by simp,fun i x hx=>?_⟩
   simp only[List.getElem?_map,Option.map_eq_some_iff] at hx
   obtain⟨j,hj,rfl⟩:=hx
   obtain⟨hlt,hji⟩:=List.getElem?_eq_some_iff.1 hj
   simp at hlt hji
   subst hji
   rw[dif_pos hlt]
   exact⟨(hat i hlt).choose_spec.2.choose_spec.1,_,(hat i hlt).choose_spec.1,(hat i hlt).choose_spec.2.choose_spec.2⟩
  obtain⟨l,hl,hle⟩:=hex
  refine⟨.list l,.list _ _ _ hu (by omega) (by rw[hl];exact hzl) (fun i x hx=>(hle i x hx).1),fu rfl ?_ rfl⟩
  by_cases h0:len=0
  ·have:l=[]:=List.eq_nil_of_length_eq_zero (by omega)
   subst this
   rw[h0]
   exact .lnil _ _ hcm
  ·have hcell:∀ (i:Nat) (x:PV) (j:Nat) (y:PV),l[i]? = some x→x.cells[j]? = some y→∃ v,w.cell? ((a.add (i*P.cellsOf e)).add j)=some v∧w.cell? ⟨a.block,a.off+i*P.cellsOf e+j,none⟩=some v∧PRel w imm y v∧v.oneCell'=true:=by
    intro i x j y hx hy
    obtain⟨_,cs,h1,h2,h3⟩:=hle i x hx
    obtain⟨k1,k2⟩:=sk h1
    have hj:j<cs.length:=by rw[← h2];exact (List.getElem?_eq_some_iff.1 hy).1
    have h4:=h3 j y hy
    have h5:=k2 j _ (List.getElem?_eq_getElem hj)
    refine⟨cs[j],h5,?_,?_⟩
    ·have:=Ft h5
     rw[BU,JS] at this;exact this
    ·simpa[List.getD_eq_getElem?_getD,hj] using h4
   have hlen:∀ (i:Nat) (x:PV),l[i]? = some x→x.cells.length=P.cellsOf e:=by
    intro i x hx
    obtain⟨_,cs,h1,h2,_⟩:=hle i x hx
    rw[h2,(sk h1).1]
   obtain⟨b,off,spot⟩:=a
   have hspot:spot=none:=by
    have hx:=List.getElem?_eq_getElem (show 0<l.length by omega)
    have hy:=List.getElem?_eq_getElem (show 0<(l[0]'(by omega)).cells.length by rw[hlen 0 _ hx];exact hpos)
    obtain⟨v,hv,_⟩:=hcell 0 _ 0 _ hx hy
    have:=World.cell?_spot hv
    simpa[Addr.add] using this
   subst hspot
   have:=PRel.list (w:=w) (imm:=imm) l b off cap (P.cellsOf e) (fun i j=>(w.cell? ⟨b,off+i*P.cellsOf e+j,none⟩).getD Go.undef) (by omega) hcm hlen (fun i x j y hx hy=>by
     obtain⟨v,_,hv,_,h1⟩:=hcell i x j y hx hy
     have hv':w.cell? ⟨b,off+i*P.cellsOf e+j,none⟩=some v:=hv
     have hb:=World.block_lt_of_cell? w _ hv'
     exact⟨himm _ _ hb,by rw[hv'];rfl,by rw[hv'];exact h1⟩) (fun i x j y hx hy=>by
     obtain⟨v,_,hv,h1,_⟩:=hcell i x j y hx hy
     have hv':w.cell? ⟨b,off+i*P.cellsOf e+j,none⟩=some v:=hv
     rw[hv'];exact h1)
   rw[hl] at this
   exact this
 ·cases h
theorem tf {t:TypeId}{fs:Array Field}{cs:List Value}{R:TypeId→List Value→Option (DataW H×List MemPlace)}{d:DataW H}{ps:List MemPlace}(hu:P.underlying t=some (.struct fs))
  (hstep:((match wd P fs.toList 0 with
   | some n=>decide (n=P.cellsOf t)
   | none=>false)&&fs.toList.all fun f=>ts.contains f.type)=true)
  (hz:(d.weights P t).all (·≤reachBytes)=true) (ih:∀ t cs d ps,t∈ts→R t cs=some (d,ps)→(d.weights P t).all (·≤reachBytes)=true→∃ p,HasT P t p∧wj w imm p cs)
  (h:(if cs.length=P.cellsOf t then Option.map (fun xs=>(DataW.agg (List.map (fun x=>x.fst) xs),List.flatMap (fun x=>x.snd) xs)) (List.mapM (fun f=>R f.type (List.take (P.cellsOf f.type) (List.drop f.offset cs))) fs.toList) else none)=some (d,ps)) :
  ∃ p,HasT P t p∧wj w imm p cs:=by
 split at h
 ·rename_i hcs
  simp only[Option.map_eq_some_iff,Prod.mk.injEq] at h
  obtain⟨xs,hxs,rfl,_⟩:=h
  simp only[DataW.weights,hu] at hz
  simp only[Bool.and_eq_true] at hstep
  obtain⟨h1,h2⟩:=hstep
  split at h1
  ·rename_i n hn
   simp only[decide_eq_true_eq] at h1
   subst h1
   obtain⟨qs,k1,k2,k3⟩:=gq (w:=w) (imm:=imm) (P:=P) (ts:=ts) (H:=H) hcs (F:=fun f=>R f.type (List.take (P.cellsOf f.type) (List.drop f.offset cs))) (fun f x hx hz hf=>ih f.type _ x.1 x.2 hf hx hz) fs.toList 0 xs hn (fun f hf=>by simpa using (List.all_eq_true.1 h2) f hf) hxs hz
   refine⟨.agg qs,.agg _ fs _ hu (by omega) (fun i f hf=>?_),by simp only[PV.cells];omega,fun i x hx=>?_⟩
   ·have:=k3 f (List.mem_of_getElem? hf)
    rwa [Nat.sub_zero] at this
   ·have:=k2 i x hx
    rwa [Nat.zero_add] at this
  ·cases h1
 ·cases h
def vR (P:Program)(e:TypeId):Nat→Nat→List Field
 | 0,_=>[]
 | n+1,k=>{ (default:Field) with type:=e,offset:=k*P.cellsOf e }::vR P e n (k+1)
theorem sv (P:Program)(e:TypeId):∀ n k,wd P (vR P e n k) (k*P.cellsOf e)=some ((k+n)*P.cellsOf e)
 | 0,k=>by simp[vR,wd]
 | n+1,k=>by
   rw[vR,wd,if_pos rfl]
   have:=sv P e n (k+1)
   simp only
   rw[show k*P.cellsOf e+P.cellsOf e=(k+1)*P.cellsOf e by rw[Nat.succ_mul],this]
   congr 2;omega
theorem su {P:Program}{e:TypeId}:∀ {n k:Nat} {f:Field},f∈vR P e n k→f.type=e
 | 0,_,_,h=>by cases h
 | n+1,k,f,h=>by
   rcases List.mem_cons.1 h with rfl | h
   ·rfl
   ·exact su h
theorem BQ {P:Program}{e:TypeId}:∀ {n k i:Nat},i<n→∃ f,f∈vR P e n k∧f.type=e∧f.offset=(k+i)*P.cellsOf e
 | 0,_,_,h=>by omega
 | n+1,k,0,_=>⟨_,List.mem_cons_self,rfl,by simp⟩
 | n+1,k,i+1,h=>by
   obtain⟨f,h1,h2,h3⟩:=BQ (P:=P) (e:=e) (n:=n) (k:=k+1) (i:=i) (by omega)
   exact⟨f,List.mem_cons_of_mem _ h1,h2,by rw[h3];congr 1;omega⟩
theorem oe {α:Type}{P:Program}{e:TypeId}{R:TypeId→List Value→Option α}{cs:List Value}:∀ (n k:Nat),(List.range' k n).mapM (fun i=>R e ((cs.drop (i*P.cellsOf e)).take (P.cellsOf e)))=(vR P e n k).mapM (fun f=>R f.type ((cs.drop f.offset).take (P.cellsOf f.type)))
 | 0,k=>by simp[vR]
 | n+1,k=>by
   rw[List.range'_succ,vR,List.mapM_cons,List.mapM_cons,oe n (k+1)]
theorem gS {P:Program}{e:TypeId}:∀ (n k:Nat) (l:List (DataW H)),l.length=n→DataW.weightsEach P ((vR P e n k).map (·.type)) l=DataW.weightsAll P e l
 | 0,k,l,h=>by
   obtain rfl:=List.eq_nil_of_length_eq_zero h
   simp[vR,DataW.weightsEach,DataW.weightsAll]
 | n+1,k,l,h=>by
   cases l with
   | nil=>simp at h
   | cons d r=>
     simp only[vR,List.map_cons,DataW.weightsEach,DataW.weightsAll]
     rw[gS n (k+1) r (by simpa using h)]
theorem JP {t e:TypeId}{n:Nat}{cs:List Value}{R:TypeId→List Value→Option (DataW H×List MemPlace)}{d:DataW H}{ps:List MemPlace}(hu:P.underlying t=some (.array n e))
  (hstep:ts.contains e=true∧n*P.cellsOf e=P.cellsOf t)
  (hz:(d.weights P t).all (·≤reachBytes)=true) (ih:∀ t cs d ps,t∈ts→R t cs=some (d,ps)→(d.weights P t).all (·≤reachBytes)=true→∃ p,HasT P t p∧wj w imm p cs)
  (h:(if cs.length=P.cellsOf t then Option.map (fun xs=>(DataW.agg (List.map (fun x=>x.fst) xs),List.flatMap (fun x=>x.snd) xs)) (List.mapM (fun i=>R e (List.take (P.cellsOf e) (List.drop (i*P.cellsOf e) cs))) (List.range n)) else none)=some (d,ps)) :
  ∃ p,HasT P t p∧wj w imm p cs:=by
 split at h
 ·rename_i hcs
  simp only[Option.map_eq_some_iff,Prod.mk.injEq] at h
  obtain⟨xs,hxs,rfl,_⟩:=h
  have hxl:xs.length=n:=by rw[ik hxs];simp
  rw[List.range_eq_range',oe n 0] at hxs
  simp only[DataW.weights,hu] at hz
  rw[← gS (P:=P) n 0 _ (by simpa using hxl)] at hz
  have hlay:=sv P e n 0
  rw[Nat.zero_mul,Nat.zero_add,hstep.2] at hlay
  obtain⟨qs,k1,k2,k3⟩:=gq (w:=w) (imm:=imm) (P:=P) (ts:=ts) (H:=H) hcs (F:=fun f=>R f.type (List.take (P.cellsOf f.type) (List.drop f.offset cs))) (fun f x hx hz hf=>ih f.type _ x.1 x.2 hf hx hz) (vR P e n 0) 0 xs hlay
   (fun f hf=>by rw[su hf];simpa using hstep.1) hxs hz
  refine⟨.agg qs,.arr _ e n _ hu (by omega) (fun i hi=>?_),by simp only[PV.cells];omega,fun i x hx=>?_⟩
  ·obtain⟨f,hf,h1,h2⟩:=BQ (P:=P) (e:=e) (k:=0) hi
   have:=k3 f hf
   rwa [h1,h2,Nat.sub_zero,Nat.zero_add] at this
  ·have:=k2 i x hx
   rwa [Nat.zero_add] at this
 ·cases h
theorem g9 (hts:Ou P ts=true)(himm:∀ b o,b<w.heap.size→imm b o):∀ (fuel:Nat) (t:TypeId) (cs:List Value) (d:DataW H) (ps:List MemPlace),t∈ts→DataW.trod enc P w 0 spare held fuel t cs=some (d,ps)→(d.weights P t).all (·≤reachBytes)=true→∃ p,HasT P t p∧wj w imm p cs
 | 0,t,cs,d,ps,_,h,_=>by simp[DataW.trod] at h
 | fuel+1,t,cs,d,ps,ht,h,hz=>by
   have hstep:=(List.all_eq_true.1 hts) t ht
   unfold Gt at hstep
   rw[DataW.trod.eq_def] at h
   simp only at h
   cases hu:P.underlying t with
   | none=>rw[hu] at hstep;simp at hstep
   | some u=>
     rw[hu] at hstep h
     cases u with
     | bool=>
       split at h
       all_goals first
        | (rename_i b h1;exact⟨.bool b,.bool _ _ hu,fu rfl (.bool _) rfl⟩)
        | (exfalso;simp_all;done)
        | skip
     | int k=>
       split at h
       all_goals first
        | (rename_i k' k2 n heq
           simp only[Option.some.injEq,TypeDesc.int.injEq] at heq
           subst heq
           split at h
           ·rename_i hh
            obtain⟨rfl,hw⟩:=hh
            exact⟨.int _ n,.int _ _ _ hu hw,fu rfl (.int _ _) rfl⟩
           ·cases h)
        | (exfalso;simp_all;done)
        | skip
     | string=>
       split at h
       all_goals first
        | (rename_i s _
           split at h
           ·rename_i hh
            cases h
            simp only[DataW.weights,List.all_cons,List.all_nil,Bool.and_true,decide_eq_true_eq] at hz
            exact⟨.str s.data.toList,.str _ _ hu hz,fu rfl (.str _ hh) rfl⟩
           ·cases h)
        | (exfalso;simp_all;done)
        | skip
     | slice e=>
       split at h
       all_goals first
        | (exact⟨.list [],.list _ _ _ hu (by simp) (by simp) (by simp),fu rfl (.lnil none 0 (by simp)) rfl⟩)
        | (rename_i e' a len cap heq
           simp only[Option.some.injEq,TypeDesc.slice.injEq] at heq
           subst heq
           simp only[Bool.and_eq_true,decide_eq_true_eq] at hstep
           exact xu hu hstep.2 hz (fun cs d ps h hz=>g9 hts himm fuel _ cs d ps (by simpa using hstep.1) h hz) himm h)
        | (exfalso;simp_all;done)
        | skip
     | struct fs=>
       split at h
       all_goals first
        | (rename_i fs' heq
           simp only[Option.some.injEq,TypeDesc.struct.injEq] at heq
           subst heq
           exact tf hu hstep hz (fun t cs d ps ht h hz=>g9 hts himm fuel t cs d ps ht h hz) h)
        | (exfalso;simp_all;done)
        | skip
     | array n e=>
       simp only[Bool.and_eq_true,decide_eq_true_eq] at hstep
       split at h
       all_goals first
        | (rename_i n' e' heq
           simp only[Option.some.injEq,TypeDesc.array.injEq] at heq
           obtain⟨rfl,rfl⟩:=heq
           exact JP hu hstep hz (fun t cs d ps ht h hz=>g9 hts himm fuel t cs d ps ht h hz) h)
        | (exfalso;simp_all;done)
        | skip
     | _=>simp at hstep
end
end Go.Ab
set_option linter.unusedVariables false
set_option linter.unusedSimpArgs false
namespace Go.Ab
open Go Go.RowKit Go.ChangeShapes Go.WideShapes
section
variable {H:Type}{enc:TypeId×Value→H}{P:Program}{W:World}{ts:List TypeId}{base:Nat}
def lm (W:World):Nat→Nat→Prop:=fun b _=>b<W.heap.size
theorem JQ (hts:Ou P ts=true){t:TypeId}(ht:t∈ts){v:Value}{d:DataW H}{p:List MemPlace}(hok:Value.okWide P W .any base t v)(h:DataW.Trod enc P W 0 (fun _=>true) true t v d p)(hz:(d.weights P t).all (·≤reachBytes)=true) :
  ∃ x,HasT P t x∧PRel W (lm W) x v:=by
 obtain⟨fuel,hf⟩:=h
 obtain⟨x,h1,h2⟩:=g9 (w:=W) (imm:=lm W) hts (fun b o h=>h) fuel t _ d p ht hf hz
 refine⟨x,h1,?_⟩
 cases h1 with
 | bool _ b hu=>obtain⟨b',rfl⟩:=okWide_bool hu hok;exact eG (.bool _ _ hu) h2 (by simp[bU,hu]) (fun _=>rfl)
 | int _ k n hu hw=>obtain⟨b',rfl⟩:=okWide_int hu hok;exact eG (.int _ _ _ hu hw) h2 (by simp[bU,hu]) (fun _=>rfl)
 | str _ s hu hs=>obtain⟨b',rfl⟩:=okWide_string hu hok;exact eG (.str _ _ hu hs) h2 (by simp[bU,hu]) (fun _=>rfl)
 | list _ e l hu hl hl2 hle=>obtain⟨a,len,cap,rfl⟩:=okWide_slice hu hok;exact eG (.list _ _ _ hu hl hl2 hle) h2 (by simp[bU,hu]) (fun _=>rfl)
 | arr _ e n cs hu hl hle=>
   have hok':=hok
   simp only[Value.okWide,hu] at hok'
   obtain⟨cs',rfl,_⟩:=hok'
   exact eG (.arr _ _ _ _ hu hl hle) h2 (fun _=>⟨_,rfl⟩) (by simp[bU,hu])
 | agg _ fs cs hu hl hle=>obtain⟨cs',rfl,_⟩:=okWide_struct hu hok;exact eG (.agg _ _ _ hu hl hle) h2 (fun _=>⟨_,rfl⟩) (by simp[bU,hu])
theorem sw (hts:Ou P ts=true):∀ (tys:List TypeId) (vs:List Value) (ds:List (DataW H)) (p:List MemPlace),(∀ t∈tys,t∈ts)→(∀ (j:Nat) (t:TypeId) (v:Value),tys[j]? = some t→vs[j]? = some v→Value.okWide P W .any base t v) →
  DataW.TrodAll enc P W 0 (fun _=>true) true tys vs ds p→(DataW.weightsEach P tys ds).all (·≤reachBytes)=true→vs.length=tys.length∧ds.length=tys.length∧∃ xs:List PV,xs.length=tys.length∧(∀ (i:Nat) (x:PV),xs[i]? = some x→PRel W (lm W) x (vs.getD i Go.undef))∧(∀ (i:Nat) (t:TypeId) (x:PV),tys[i]? = some t→xs[i]? = some x→HasT P t x)
 | [],vs,ds,p,_,_,h,_=>by
   cases vs<;>cases ds<;>simp[DataW.TrodAll] at h
   exact⟨rfl,rfl,[],rfl,by simp,by simp⟩
 | t::tys,vs,ds,p,ht,hok,h,hz=>by
   obtain⟨v,vs',d,ds',p',q',rfl,rfl,rfl,h1,h2⟩:=trodAll_cons h
   simp only[DataW.weightsEach,List.all_append,Bool.and_eq_true] at hz
   obtain⟨x,k1,k2⟩:=JQ (base:=base) hts (ht t (by simp)) (hok 0 t v rfl rfl) h1 hz.1
   obtain⟨l1,l2,xs,l3,l4,l5⟩:=sw hts tys vs' ds' q' (fun t h=>ht t (by simp[h])) (fun j t v h1 h2=>hok (j+1) t v (by simpa using h1) (by simpa using h2)) h2 hz.2
   refine⟨by simp[l1],by simp[l2],x::xs,by simp[l3],fun i y hy=>?_,fun i t' y ht' hy=>?_⟩
   ·cases i with
    | zero=>simp only[List.getElem?_cons_zero,Option.some.injEq] at hy;subst hy;simpa using k2
    | succ i=>simpa using l4 i y (by simpa using hy)
   ·cases i with
    | zero=>
      simp only[List.getElem?_cons_zero,Option.some.injEq] at hy ht'
      subst hy;subst ht';exact k1
    | succ i=>exact l5 i t' y (by simpa using ht') (by simpa using hy)
theorem jZ:∀ (tys:List TypeId) (vs:List Value) (ds:List (DataW H)) (p:List MemPlace),DataW.TrodAll enc P W 0 (fun _=>true) true tys vs ds p→∀ x∈p,x.block<W.heap.size
 | [],vs,ds,p,h=>by
   cases vs<;>cases ds<;>simp[DataW.TrodAll] at h
   subst h;simp
 | t::tys,vs,ds,p,h=>by
   obtain⟨v,vs',d,ds',p',q',rfl,rfl,rfl,⟨m,hm⟩,h2⟩:=trodAll_cons h
   intro x hx
   rcases List.mem_append.1 hx with hx | hx
   ·exact DataW.trod_lt m _ _ _ hm x hx
   ·exact jZ tys vs' ds' q' h2 x hx
theorem og (hlaid:laidOutB P=true){W':World}(hb:Below W.heap.size W W'):∀ (tys:List TypeId) (vs:List Value) (ds:List (DataW H)) (p:List MemPlace),(∀ t∈tys,P.readableRec t=true∧t<P.types.size) →
  DataW.TrodAll enc P W 0 (fun _=>true) true tys vs ds p→DataW.TrodAll enc P W' 0 (fun b=>decide (b<W.heap.size)) true tys vs ds p
 | [],vs,ds,p,_,h=>by
   cases vs<;>cases ds<;>simp[DataW.TrodAll] at h
   subst h
   exact trodAll_mk0
 | t::tys,vs,ds,p,ht,h=>by
   have hlt:=jZ _ _ _ _ h
   obtain⟨v,vs',d,ds',p',q',rfl,rfl,rfl,h1,h2⟩:=trodAll_cons h
   exact trodAll_cons_mk (Below.trod hlaid (ht t (by simp)).1 (ht t (by simp)).2 h1 hb (fun x hx=>hlt x (List.mem_append.2 (.inl hx)))) (og hlaid hb tys vs' ds' q' (fun t h=>ht t (by simp[h])) h2)
theorem dV:∀ (ts us:List TypeId) (ds gs:List (DataW H)),(DataW.weightsEach P (ts++us) (ds++gs)).all (·≤reachBytes)=true→(DataW.weightsEach P ts ds).all (·≤reachBytes)=true
 | [],_,_,_,_=>by simp[DataW.weightsEach]
 | _::_,_,[],_,_=>by simp[DataW.weightsEach]
 | t::ts,us,d::ds,gs,h=>by
   simp only[List.cons_append,DataW.weightsEach,List.all_append,Bool.and_eq_true] at h ⊢
   exact⟨h.1,dV ts us ds gs h.2⟩
theorem EP {f:FuncId}{fn:Func}{s:ChangeSpec}{args:Array Value}{ds gs:List (DataW H)}{before:List MemPlace}{G:Nat→List PV}{tb:TypeId}
  (hs:s.vars=[]) (hlaid:laidOutB P=true) (hread:∀ t∈fn.params.toList,P.readableRec t=true∧t<P.types.size) (hts:Ou P ts=true) (htys:∀ t∈fn.params.toList,t∈ts)
  (hres:fn.resultTypes = #[tb]) (htb:P.underlying tb=some .bool)
  (hfn:∀ ds:List (DataW H),ds.length=fn.params.toList.length→s.fn H ds = { results:=[.lit (.bool true)],args:=ds })
  (hval:∀ (j:Nat) (t:TypeId) (v:Value),fn.params[j]? = some t→args[j]? = some v→Value.okWide P W .any base t v) (hW:DataW.Whole enc P fn.params.toList s.vars false W args.toList ds gs before)
  (hsz:(DataW.weightsEach P (fn.params.toList++s.plain.varTypes P) (ds++gs)).all (·≤reachBytes)=true)
  (hG:bZ G W (lm W))
  (hlaw:∀ ps:List PV,ps.length=fn.params.toList.length→(∀ (i:Nat) (t:TypeId) (x:PV),fn.params.toList[i]? = some t→ps[i]? = some x→HasT P t x)→aw P G f ps (.bool true)) :
  Calls P f args W fun e W'=>∃ v,e = .returned v∧s.post enc P fn false true false false W args v W':=by
 have hW':=hW
 obtain⟨p,q,hA,hV,rfl,hfz,hnd⟩:=hW
 rw[hs] at hV
 obtain⟨rfl,rfl⟩:=trodVars_none hV
 obtain⟨l1,l2,xs,l3,l4,l5⟩:=sw (base:=base) hts fn.params.toList args.toList ds p htys (fun j t v h1 h2=>hval j t v (by simpa using h1) (by simpa using h2)) hA (dV _ _ _ _ hsz)
 obtain⟨_,hP⟩:=hlaw xs l3 l5
 refine (hP W (lm W) args hG (fun b o h=>h) (by rw[l3,← l1];simp) (fun i x hx=>by rw[aA];exact l4 i x hx)).mono ?_
 rintro e W' ⟨u,imm',rfl,hb,_,_,_,hu⟩
 cases hu
 refine⟨_,rfl,ds,[],_,[],p,[],hW',?_,?_,?_,hb.frame _,fun h=>by cases h⟩
 ·rw[hres,List.append_nil,hfn ds l2]
  exact trodAll_mk1 (shut_bool htb _)
 ·rw[List.append_nil,hfn ds l2]
  exact og hlaid hb _ _ _ _ hread hA
 ·rw[hs,List.append_nil,hfn ds l2]
  rfl
end
end Go.Ab
set_option linter.unusedVariables false
set_option linter.unusedSimpArgs false
namespace Go.Ab
open Go
section
variable {e:List (Nat×AV)}{σ:List (Nat×Blk)}{new:Nat}
theorem sG:eD e σ new .mkmap=some (.mp new,[(new,.mp [])]):=_root_.id rfl
theorem sF (kd:Option IntKind)(co:Bool)(z:PV)(x k:AX):eD e σ new (.mlook kd co z x k)=cI [] (kX kd co z (fun r=>lookB r σ) (evE e x) (evE e k)):=by
 simp only[eD,cI];cases kX kd co z (fun r=>lookB r σ) (evE e x) (evE e k)<;>rfl
theorem wm (kd:Option IntKind)(x k v:AX):eD e σ new (.mset kd x k v)=sK (.pv .undef) (kW kd (fun r=>lookB r σ) (evE e x) (evE e k) (evE e v)):=by
 simp only[eD,sK];cases kW kd (fun r=>lookB r σ) (evE e x) (evE e k) (evE e v)<;>rfl
def zz (kd:Option IntKind)(co:Bool)(z k:PV):Blk→Option AV
 | .mp l=>if uR kd k=true then match go k l 0 with
   | some (some (_,v))=>some (.pv (if co=true then .tup [v,.bool true] else v))
   | some none=>some (.pv (if co=true then .tup [z,.bool false] else z))
   | none=>none
   else none
 | _=>none
def Hv (kd:Option IntKind)(r:Nat)(k p:PV):Blk→Option (List (Nat×Blk))
 | .mp l=>if uR kd k=true then match go k l 0 with
   | some (some (i,_))=>some [(r,.mp (l.set i (k,p)))]
   | some none=>some [(r,.mp (l++[(k,p)]))]
   | none=>none
   else none
 | _=>none
theorem DA (kd:Option IntKind)(co:Bool)(z:PV)(τ:aq)(r:Nat)(k:PV):kX kd co z τ (.mp r) (.pv k)=zz kd co z k (τ r):=by
 simp only[kX];cases τ r<;>rfl
theorem Dx (kd:Option IntKind)(τ:aq)(r:Nat)(k p:PV):kW kd τ (.mp r) (.pv k) (.pv p)=Hv kd r k p (τ r):=by
 simp only[kW];cases τ r<;>rfl
def mpS (l:List (List UInt8)):List (PV×PV):=l.map fun s=>(.str s,.bool true)
def BV (l:List (List UInt8))(s:List UInt8):List (List UInt8):=if s∈l then l else l++[s]
theorem ja (s:List UInt8):∀ (l:List (List UInt8)) (i:Nat),(s∈l→∃ j,go (.str s) (mpS l) i=some (some (i+j,.bool true))∧l[j]? = some s)∧(s∉l→go (.str s) (mpS l) i=some none)
 | [],i=>⟨(fun h=>by cases h),fun _=>rfl⟩
 | a::r,i=>by
   have ih:=ja s r (i+1)
   by_cases ha:s=a
   ·subst ha
    refine⟨fun _=>⟨0,?_,rfl⟩,fun h=>absurd List.mem_cons_self h⟩
    simp[mpS,go,keq]
   ·have hb:(s == a)=false:=by simpa using ha
    have e:go (.str s) (mpS (a::r)) i=go (.str s) (mpS r) (i+1):=by
     show (match keq (.str s) (.str a) with
      | some true=>some (some (i,PV.bool true))
      | some false=>go (.str s) (mpS r) (i+1)
      | none=>none)=_
     simp only[keq,hb]
    rw[e]
    refine⟨fun h=>?_,fun h=>ih.2 fun h'=>h (List.mem_cons_of_mem _ h')⟩
    rcases List.mem_cons.1 h with h | h
    ·exact absurd h ha
    ·obtain⟨j,h1,h2⟩:=ih.1 h
     exact⟨j+1,by rw[h1,show i+1+j=i+(j+1) by omega],by simpa using h2⟩
theorem uK (l:List (List UInt8))(s:List UInt8):zz none false (.bool false) (.str s) (.mp (mpS l))=some (.pv (.bool (decide (s∈l)))):=by
 simp only[zz,uR,if_true]
 by_cases h:s∈l
 ·obtain⟨j,h1,_⟩:=(ja s l 0).1 h
  rw[h1,decide_eq_true h];rfl
 ·rw[(ja s l 0).2 h,decide_eq_false h];rfl
theorem xw (r:Nat)(l:List (List UInt8))(s:List UInt8):Hv none r (.str s) (.bool true) (.mp (mpS l))=some [(r,.mp (mpS (BV l s)))]:=by
 simp only[Hv,uR,if_true]
 unfold BV
 by_cases h:s∈l
 ·obtain⟨j,h1,h2⟩:=(ja s l 0).1 h
  rw[h1,if_pos h]
  simp only[Nat.zero_add]
  have:(mpS l).set j (.str s,.bool true)=mpS l:=by
   apply List.ext_getElem?
   intro i
   rw[List.getElem?_set]
   by_cases hij:j=i
   ·subst hij
    have hl:j<(mpS l).length:=by simp[mpS];exact (List.getElem?_eq_some_iff.1 h2).1
    simp[mpS,(List.getElem?_eq_some_iff.1 h2).1]
    exact (List.getElem?_eq_some_iff.1 h2).2.symm
   ·rw[if_neg hij]
  rw[this]
 ·rw[(ja s l 0).2 h,if_neg h]
  simp[mpS]
theorem wp (sz len:Nat)(xs:List AX):eD e σ new (.bslf sz len xs)=mL sz len (evL e xs):=_root_.id rfl
theorem oF (sz len:Nat)(xs:List AX):cw e (.bslf sz len xs)=[]:=_root_.id rfl
theorem pU (sz len:Nat)(xs:List AX):aU (.xop (.bslf sz len xs))=0:=_root_.id rfl
theorem mK {sz:Nat}{cs:List PV}(h1:cs.length=sz)(h2:cs.all PV.one=true):mL sz 1 [.pv (.agg cs)]=some (.pv (.list [.agg cs]),[]):=by
 subst h1
 have h3:([PV.agg cs].all fun p=>p.cells.length == cs.length&&p.cells.all PV.one)=true:=by simp[PV.cells,h2]
 simp only[mL]
 rw[if_pos ⟨rfl,by omega⟩]
 simp only[pvs,AV.toPV,h3,if_true]
theorem mb:cw e .mkmap=[]:=_root_.id rfl
theorem ma (kd:Option IntKind)(co:Bool)(z:PV)(x k:AX):cw e (.mlook kd co z x k)=(evE e x).name:=_root_.id rfl
theorem oB (kd:Option IntKind)(x k v:AX):cw e (.mset kd x k v)=(evE e x).name:=_root_.id rfl
theorem nt:aU (.xop .mkmap)=1:=_root_.id rfl
theorem nr (kd:Option IntKind)(co:Bool)(z:PV)(x k:AX):aU (.xop (.mlook kd co z x k))=0:=_root_.id rfl
theorem pO (kd:Option IntKind)(x k v:AX):aU (.xop (.mset kd x k v))=0:=_root_.id rfl
theorem IJ (r:Nat):(AV.mp r).name=[r]:=_root_.id rfl
theorem EB (r:Nat):(AV.mp r).names=[r]:=_root_.id rfl
def O7:Option Nat→AV
 | some q=>.mp q
 | none=>.any
theorem LY (f:Nat→Option Nat)(r:Nat):(AV.mp r).ren f=O7 (f r):=by simp only[AV.ren,O7]<;>(cases f r<;>rfl)
theorem xN (q:Nat):O7 (some q) = .mp q:=_root_.id rfl
theorem zk (l:List (PV×PV)):(Blk.mp l).names=[]:=_root_.id rfl
theorem H5 (f:Nat→Option Nat)(l:List (PV×PV)):(Blk.mp l).ren f = .mp l:=_root_.id rfl
end
attribute [push_cast] wp oF pU sG sF wm DA Dx uK xw mb ma oB nt nr pO IJ EB LY xN zk H5
end Go.Ab
set_option linter.unusedVariables false
set_option linter.unusedSimpArgs false
namespace Go.Ab
open Go Go.RowKit Go.Proofs Go.Lib
section
variable {P:Program}{W:World}
theorem CE {H:Type}{enc:TypeId×Value→H}{w:World}{base:Nat}{sp:Nat→Bool}{held:Bool}{fuel n:Nat}{t e:TypeId}{cs:List Value}{x:DataW H×List MemPlace}(ht:P.underlying t=some (.array n e))
  (h:DataW.trod enc P w base sp held fuel t cs=some x):cs.length=P.cellsOf t:=by
 cases fuel with
 | zero=>simp[DataW.trod] at h
 | succ fuel=>
   simp only[DataW.trod,ht] at h
   split at h
   ·assumption
   ·cases h
structure TabAt (w:World)(g:Nat)(ps:List PV):Prop where
 obj:∃ cs T fz,w.heap[g]? = some (.cells cs T fz)∧cs.size=ps.length
 cell:∀ (o:Nat) (p:PV),ps[o]? = some p→∃ k z,p = .int k z∧w.cell? ⟨g,o,none⟩=some (.int k z)
theorem At {G:Nat→List PV}(h:∀ g,G g≠[]→TabAt W g (G g)):bZ G W (lm W):=by
 refine⟨fun g o p hp=>?_,fun g hg=>(h g hg).obj⟩
 have hne:G g≠[]:=by intro e;rw[e] at hp;simp at hp
 obtain⟨k,z,rfl,hc⟩:=(h g hne).cell o p hp
 exact⟨World.block_lt_of_cell? W _ hc,_,hc,rfl,.int _ _⟩
theorem kO {n:String}{g:Nat}{t e:TypeId}{m:Nat}{d:DataW Unit}{ps:List PV}(hv:VarReads P W n d)(hg:P.globalNamed n=some g)(hty:(P.globals[g]?).map (·.type)=some t)(ht:P.underlying t=some (.array m e))(hl:P.cellsOf t=ps.length)
  (h:∀ (o:Nat) (p:PV),ps[o]? = some p→∃ k z,p = .int k z∧W.cell? ⟨g,o,none⟩=some (.int k z)):TabAt W g ps:=by
 refine⟨?_,h⟩
 obtain⟨g',t',cs,fuel,p,hg',hty',hvar,hd⟩:=hv
 obtain rfl:=Option.some.inj (hg.symm.trans hg')
 obtain rfl:=Option.some.inj (hty.symm.trans hty')
 have hlen:=CE ht hd
 unfold World.var? at hvar
 rw[hg] at hvar
 simp only[Option.bind_some] at hvar
 split at hvar
 ·rename_i cs' T fz hh
  cases hvar
  exact⟨cs,T,fz,hh,by rw[← hl,← hlen];simp⟩
 ·cases hvar
theorem j1 {n:String}{g:Nat}{t e:TypeId}{m:Nat}{k:IntKind}{zs:List Int}(hv:VarReads P W n (Lib.tabData k zs))(hg:P.globalNamed n=some g)(hty:(P.globals[g]?).map (·.type)=some t)(ht:P.underlying t=some (.array m e))
  (he:P.underlying e=some (.int k)) (hce:P.cellsOf e=1) (hct:P.cellsOf t=m) (hm:m=zs.length):TabAt W g (zs.map (PV.int k)):=by
 have hv':=hv
 refine kO hv hg hty ht (by rw[hct,hm];simp) fun o p hp=>?_
 simp only[List.getElem?_map,Option.map_eq_some_iff] at hp
 obtain⟨z,hz,rfl⟩:=hp
 refine⟨k,z,rfl,?_⟩
 obtain⟨g',t',cs,fuel,q,hg',hty',hvar,hd⟩:=hv'
 obtain rfl:=Option.some.inj (hg.symm.trans hg')
 obtain rfl:=Option.some.inj (hty.symm.trans hty')
 have hcs:=Lib.cells_of_tab ht he hce hct hd
 rw[World.var?_cell hg hvar o,← Array.getElem?_toList,hcs]
 simp[hz]
end
end Go.Ab

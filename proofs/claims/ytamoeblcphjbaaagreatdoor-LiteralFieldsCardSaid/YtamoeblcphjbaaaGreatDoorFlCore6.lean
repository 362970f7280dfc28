/- A program logic over the model: part 6 (a proof is built on it; nothing of the statement is said here). -/
import Derived.Lib.Join
import Derived.Lib.ItoaNum
import Derived.Lib.LaidTab
import Derived.Lib.AppendIntMem
import Derived.Lib.Strings
import Derived.Lib.Bytealg
import Derived.Lib.ValidLaws
import Derived.ChangeShapes
import Derived.ProofKit
import Derived.OpenShut
import Derived.ShutString
import Derived.ChangeOld
import Derived.Carry
import Derived.WideShapes
import Derived.Deep.DeepHandedRow
import Derived.Lib.LaidU8T
import Derived.Test.YtamoeblcphjbaaaGreatDoorFlCore5
set_option linter.unusedVariables false
set_option linter.unusedSimpArgs false
namespace Go.Ab
open Go Go.RowKit
theorem EX (k k':IntKind)(x y:Int):Js (.pv (.int k x)) (.pv (.int k' y))=some (.pv (.int k (min x y))):=by
 simp only[Js,Option.some.injEq,AV.pv.injEq,PV.int.injEq,true_and]
 split<;>omega
theorem EY (k k':IntKind)(x y:Int):Jt (.pv (.int k x)) (.pv (.int k' y))=some (.pv (.int k (max x y))):=by
 simp only[Jt,Option.some.injEq,AV.pv.injEq,PV.int.injEq,true_and]
 split<;>omega
theorem map_take {α β:Type}(f:α→β)(l:List α)(n:Nat):(l.map f).take n=(l.take n).map f:=List.map_take.symm
theorem map_drop {α β:Type}(f:α→β)(l:List α)(n:Nat):(l.map f).drop n=(l.drop n).map f:=List.map_drop.symm
def ja (mu:Bool)(e sz by_ new:Nat)(σ:aw)(x:AV):Option (List PV)→Option (AV×List (Nat×Blk))
 | some ys=>match mu,x with
   | false,.pv .nils=>match ys with
     | []=>some (.pv .nils,[])
     | y::r=>if mR 0 (r.length+1) by_=true then some (.olist new sz (y::r),[(new,.tok e sz)]) else none
   | false,.olist q s l=>match σ q with
     | .tok e' sz'=>if e'=e∧sz'=sz∧s=sz∧mR l.length ys.length by_=true then some (.olist new sz (l++ys),[(q,.none),(new,.tok e sz)]) else none
     | _=>none
   | true,.pv .nils=>match ys with
     | []=>some (.pv .nils,[])
     | y::r=>if mR 0 (r.length+1) by_=true then some (.row new sz 0 (r.length+1),[(new,.cells e false (bx (y::r)))]) else none
   | true,.row q s off len=>match σ q with
     | .cells e' _ l=>if e'=e∧s=sz∧off=0∧len*sz≤l.length∧mR len ys.length by_=true then some (.row new sz 0 (len+ys.length),[(q,.none),(new,.cells e false (l.take (len*sz)++bx ys))]) else none
     | _=>none
   | _,_=>none
 | none=>none
def G0 (e sz by_ new q s:Nat)(l ys:List PV):Blk→Option (AV×List (Nat×Blk))
 | .tok e' sz'=>if e'=e∧sz'=sz∧s=sz∧mR l.length ys.length by_=true then some (.olist new sz (l++ys),[(q,.none),(new,.tok e sz)]) else none
 | _=>none
def sd (e sz by_ new q s off len:Nat)(ys:List PV):Blk→Option (AV×List (Nat×Blk))
 | .cells e' _ l=>if e'=e∧s=sz∧off=0∧len*sz≤l.length∧mR len ys.length by_=true then some (.row new sz 0 (len+ys.length),[(q,.none),(new,.cells e false (l.take (len*sz)++bx ys))]) else none
 | _=>none
theorem vJ (mu:Bool)(e sz by_ new:Nat)(σ:aw)(x y:AV):dL mu e sz by_ new σ x y=ja mu e sz by_ new σ x (bF σ sz y):=by
 unfold dL ja
 cases bF σ sz y<;>rfl
theorem OD (e sz by_ new:Nat)(σ:aw)(q s:Nat)(l ys:List PV):ja false e sz by_ new σ (.olist q s l) (some ys)=G0 e sz by_ new q s l ys (σ q):=by
 simp only[ja,G0]
theorem GZ {e sz by_ new q:Nat}{l ys:List PV}(h1:l.length+ys.length≤9223372036854775807)(h2:(l.length+ys.length)*by_≤140737488355328):G0 e sz by_ new q sz l ys (.tok e sz)=some (.olist new sz (l++ys),[(q,.none),(new,.tok e sz)]):=by
 simp[G0,ic h1 h2]
theorem K0 (e sz by_ new:Nat)(σ:aw)(q s off len:Nat)(ys:List PV):ja true e sz by_ new σ (.row q s off len) (some ys)=sd e sz by_ new q s off len ys (σ q):=by
 simp only[ja,sd]
theorem jG {e sz by_ new q len:Nat}{f:Bool}{l:List AV}{ys:List PV}(h0:len*sz≤l.length)(h1:len+ys.length≤9223372036854775807)(h2:(len+ys.length)*by_≤140737488355328) :
  sd e sz by_ new q sz 0 len ys (.cells e f l)=some (.row new sz 0 (len+ys.length),[(q,.none),(new,.cells e false (l.take (len*sz)++bx ys))]):=by
 simp[sd,h0,ic h1 h2]
def uu (l:List PV):Bool→Option (List PV)
 | true=>some l
 | false=>none
theorem wM (σ:aw)(sz:Nat)(l:List PV):bF σ sz (.pv (.list l))=uu l (l.all fun y=>y.cells.length == sz):=by
 simp only[bF]
 cases l.all (fun y=>y.cells.length == sz)<;>rfl
theorem wN (l:List PV):uu l true=some l:=_root_.id rfl
theorem rT (σ:aw)(sz r:Nat)(l:List PV):bF σ sz (.olist r sz l)=some l:=by simp[bF]
def Qb (e sz new:Nat):Option (List PV)→Option (AV×List (Nat×Blk))
 | some ps=>if ps.all (fun p=>p.cells.length == sz&&p.cells.all PV.one)=true then some (.olist new sz ps,[(new,.tok e sz)]) else none
 | none=>none
theorem RB {e sz len new:Nat}{vs:List AV}(h:vs.length=len)(h2:len≤9223372036854775807):ey false e sz len new vs=Qb e sz new (pvs vs):=by
 simp only[ey,h,h2,true_and,if_true,Qb]
 cases pvs vs<;>rfl
def Sv (e sz new:Nat)(ps:List PV):Bool→Option (AV×List (Nat×Blk))
 | true=>some (.olist new sz ps,[(new,.tok e sz)])
 | false=>none
theorem Ow (e sz new:Nat)(ps:List PV):Sv e sz new ps true=some (.olist new sz ps,[(new,.tok e sz)]):=_root_.id rfl
theorem CN (e sz new:Nat)(ps:List PV):Qb e sz new (some ps)=Sv e sz new ps (ps.all fun p=>p.cells.length == sz&&p.cells.all PV.one):=by
 simp only[Qb]
 cases ps.all (fun p=>p.cells.length == sz&&p.cells.all PV.one)<;>rfl
theorem mZ (b:Bool):PV.one (.bool b)=true:=_root_.id rfl
theorem rk (k:IntKind)(n:Int):PV.one (.int k n)=true:=_root_.id rfl
theorem rj (s:List UInt8):PV.one (.str s)=true:=_root_.id rfl
theorem Fy:PV.one .nils=true:=_root_.id rfl
theorem mY (l:List PV):PV.one (.list l)=true:=_root_.id rfl
theorem JC (p:PV):AV.one (.pv p)=p.one:=_root_.id rfl
theorem FA (r o:Nat):AV.one (.ptr r o)=true:=_root_.id rfl
theorem Fz (r s o n:Nat):AV.one (.row r s o n)=true:=_root_.id rfl
theorem vZ (r s:Nat)(l:List PV):AV.one (.olist r s l)=true:=_root_.id rfl
theorem v7 (sz:Nat)(l:List PV)(i:Nat)(y:PV):fL sz l i (some y)=if y.cells.length=sz then some (.pv (.eptr l i 0)) else none:=_root_.id rfl
theorem G2 {α β:Type}(f:α→β)(p:β→Bool)(l:List α):(l.map f).all p=l.all fun x=>p (f x):=by
 rw[List.all_map];rfl
theorem OA (n:Nat):(n == n)=true:=by simp
def NL (sz:Nat)(e:PV):Bool→Option AV
 | true=>some (.pv e)
 | false=>di true sz 0 (e.cells.map .pv)
theorem J3 (sz:Nat)(e:PV):NL sz e true=some (.pv e):=_root_.id rfl
theorem F4 (sz:Nat)(e:PV):lz true sz 0 e=NL sz e (e.isAgg&&decide (e.cells.length=sz)):=by
 simp only[lz,true_and]
 by_cases h:e.isAgg=true∧e.cells.length=sz
 ·rw[if_pos h,h.1,decide_eq_true h.2];rfl
 ·rw[if_neg h]
  have:(e.isAgg&&decide (e.cells.length=sz))=false:=by
   rw[Bool.eq_false_iff]
   intro hh
   simp only[Bool.and_eq_true,decide_eq_true_eq] at hh
   exact h hh
  rw[this];rfl
theorem Bq (cs:List PV):(PV.agg cs).isAgg=true:=_root_.id rfl
theorem iX {α:Type}{sz:Nat}{f:α→PV}(hf:∀ x,(f x).cells.length=sz)(l:List α):(bx (l.map f)).length=l.length*sz:=by
 have:=gK (sz:=sz) ((l.map f).map PV.cells) (by
  intro y hy
  simp only[List.mem_map] at hy
  obtain⟨p,⟨s,_,rfl⟩,rfl⟩:=hy
  exact hf s)
 simp only[bx,List.length_map,List.flatMap_def] at this ⊢
 exact this
def fzO (σ:aw):Option AV→Option (AV×List (Nat×Blk))
 | some v=>(Gk σ v).map Kn
 | none=>none
theorem NY (G:Nat→List PV)(σ:aw)(g:Bool)(sz:Nat)(v:AV):Kt G σ (some (g,sz)) v=fzO σ (eS G g sz σ v):=by
 simp only[Kt,fzO];cases eS G g sz σ v<;>rfl
theorem Gi (σ:aw)(v:AV):fzO σ (some v)=(Gk σ v).map Kn:=_root_.id rfl
theorem Gj (σ:aw)(cs:List AV):Gk σ (.agg cs)=(Gm σ cs).map fun p=>(.agg p.1,p.2):=_root_.id rfl
theorem Ko (σ:aw)(p:PV):Kp σ (.pv p)=some (p,[]):=_root_.id rfl
theorem Gp (σ:aw)(r s n:Nat):Kp σ (.row r s 0 n)=NW s n r (σ r):=_root_.id rfl
theorem Gl (σ:aw):Gm σ []=some ([],[]):=_root_.id rfl
theorem BL (σ:aw)(x:AV)(r:List AV):Gm σ (x::r)=P9 (Kp σ x) (Gm σ r):=_root_.id rfl
theorem BM (p:PV)(a:List Nat)(q:List PV)(b:List Nat):P9 (some (p,a)) (some (q,b))=some (p::q,a++b):=_root_.id rfl
theorem Km (p:PV)(l:List Nat):Kn (p,l)=(.pv p,l.map fun r=>(r,.none)):=_root_.id rfl
theorem Gq {α:Type}{sz:Nat}{f:α→PV}(hf:∀ x,∃ cs,f x = .agg cs∧cs.length=sz∧∀ p∈cs,p.one=true)(hsz:2≤sz)(l:List α){n r T:Nat}{b:Bool}(hn:n=l.length) :
  NW sz n r (.cells T b (bx (l.map f)))=some (.list (l.map f),[r]):=by
 have hlen:=iX (sz:=sz) (f:=f) (fun x=>by obtain⟨cs,h1,h2,_⟩:=hf x;rw[h1];exact h2) l
 subst hn
 have hone:(bx (l.map f)).all AV.one=true:=by
  rw[List.all_eq_true]
  intro x hx
  simp only[bx,List.mem_map,List.mem_flatMap] at hx
  obtain⟨p,⟨q,⟨s,_,rfl⟩,hq⟩,rfl⟩:=hx
  obtain⟨cs,h1,h2,h3⟩:=hf s
  rw[h1] at hq
  exact h3 p hq
 have hpv:pvs (bx (l.map f))=some ((l.map f).flatMap PV.cells):=kg _
 have hch:∀ l:List α,iI sz l.length ((l.map f).flatMap PV.cells)=l.map f:=by
  intro l
  induction l with
  | nil=>rfl
  | cons x r ih=>
    obtain⟨cs,h1,h2,_⟩:=hf x
    simp only[List.length_cons,iI,List.map_cons,List.flatMap_cons,h1,b9]
    rw[if_neg (by omega),List.take_left' h2,List.drop_left' h2,ih]
 simp only[NW]
 rw[if_pos ⟨by omega,by omega,by rw[List.take_of_length_le (by omega)];exact hone⟩,List.take_of_length_le (by omega),hpv]
 simp[hch]
theorem FQ (p:PV):(AV.pv p).names=[]:=_root_.id rfl
theorem AO (r o:Nat):(AV.ptr r o).names=[r]:=_root_.id rfl
theorem AN (r a b c:Nat):(AV.row r a b c).names=[r]:=_root_.id rfl
theorem FS (r a:Nat)(l:List PV):(AV.olist r a l).names=[r]:=_root_.id rfl
theorem AP:AV.any.names=[]:=_root_.id rfl
theorem wg:AV.namesL []=[]:=_root_.id rfl
theorem ku (x:AV)(r:List AV):AV.namesL (x::r)=x.names++AV.namesL r:=by simp only[AV.namesL]
theorem kr:∀ l:List PV,AV.namesL (l.map .pv)=[]
 | []=>rfl
 | x::r=>by rw[List.map_cons,ku,kr r];rfl
theorem rr (l:List PV):AV.namesL (bx l)=[]:=kr _
theorem oZ (T:Nat)(f:Bool)(l:List AV):(Blk.cells T f l).names=AV.namesL l:=_root_.id rfl
theorem wh (e s:Nat):(Blk.tok e s).names=[]:=_root_.id rfl
theorem G3 (acc:List Nat):bM acc []=acc:=_root_.id rfl
def K5 (acc:List Nat)(n:Nat):Bool→List Nat
 | true=>acc
 | false=>acc++[n]
theorem i1 (x:Nat):∀ l:List Nat,l.contains x=tH x l
 | []=>rfl
 | y::r=>by
   rw[List.contains_cons,i1 x r,pa]
   by_cases h:y=x
   ·simp[h]
   ·have h':¬ x=y:=fun e=>h e.symm
    simp[h,h']
theorem C8 (acc:List Nat)(n:Nat)(r:List Nat):bM acc (n::r)=bM (K5 acc n (tH n acc)) r:=by
 simp only[bM,i1]
 cases tH n acc<;>rfl
theorem K3 (acc:List Nat)(n:Nat):K5 acc n true=acc:=_root_.id rfl
theorem K4 (acc:List Nat)(n:Nat):K5 acc n false=acc++[n]:=_root_.id rfl
def geN (m0:Nat):List Nat→List Nat
 | []=>[]
 | x::r=>if m0≤x then x::geN m0 r else geN m0 r
theorem Kf (m0:Nat):geN m0 []=[]:=_root_.id rfl
theorem ub (m0 x:Nat)(r:List Nat):geN m0 (x::r)=if m0≤x then x::geN m0 r else geN m0 r:=_root_.id rfl
theorem BJ (m0:Nat):∀ l:List Nat,l.filter (fun r=>decide (m0≤r))=geN m0 l
 | []=>rfl
 | x::r=>by rw[List.filter_cons,BJ m0 r,ub];simp
def dH (sto:List (Nat×Blk)):List Nat→List Nat
 | []=>[]
 | r::q=>(lookB r sto).names++dH sto q
theorem pS (sto:List (Nat×Blk)):dH sto []=[]:=_root_.id rfl
theorem gV (sto:List (Nat×Blk))(r:Nat)(q:List Nat):dH sto (r::q)=(lookB r sto).names++dH sto q:=_root_.id rfl
theorem f9 (sto:List (Nat×Blk)):∀ l:List Nat,(l.flatMap fun r=>(lookB r sto).names)=dH sto l
 | []=>rfl
 | r::q=>by rw[List.flatMap_cons,f9 sto q,gV]
theorem Jo (m0:Nat)(sto:List (Nat×Blk))(acc:List Nat):fJ m0 sto 0 acc=acc:=_root_.id rfl
theorem Jn (m0:Nat)(sto:List (Nat×Blk))(k:Nat)(acc:List Nat):fJ m0 sto (k+1) acc=fJ m0 sto k (bM acc (geN m0 (dH sto acc))):=by
 rw[← BJ,← f9];rfl
def eH (e:List (Nat×AV)):List Nat→List Nat
 | []=>[]
 | k::r=>(look k e).names++eH e r
theorem pE (e:List (Nat×AV)):eH e []=[]:=_root_.id rfl
theorem nx (e:List (Nat×AV))(k:Nat)(r:List Nat):eH e (k::r)=(look k e).names++eH e r:=_root_.id rfl
theorem kX (e:List (Nat×AV))(σ:List (Nat×Blk))(n:Nat):∀ l:List Nat,(l.flatMap fun i=>((⟨e,σ,n⟩:St).E i).names)=eH e l
 | []=>rfl
 | k::r=>by rw[List.flatMap_cons,kX e σ n r];rfl
def zg:Nat→Nat→List Nat
 | 0,_=>[]
 | n+1,k=>k::zg n (k+1)
theorem QI (k:Nat):zg 0 k=[]:=_root_.id rfl
theorem M9 (n k:Nat):zg (n+1) k=k::zg n (k+1):=_root_.id rfl
theorem zf:∀ n k:Nat,zg n k=List.range' k n
 | 0,k=>rfl
 | n+1,k=>by rw[M9,zf n,List.range'_succ]
theorem Hx (n:Nat):List.range n=zg n 0:=by rw[zf,List.range_eq_range']
theorem JF (m0:Nat)(keep:List Nat)(e:List (Nat×AV))(σ:List (Nat×Blk))(n:Nat):Ns m0 keep ⟨e,σ,n⟩=fJ m0 σ σ.length (bM [] (geN m0 (eH e keep++dH σ (zg m0 0)))):=by
 rw[← BJ,← kX e σ n,← f9,← Hx];rfl
def oX (f:Nat→Option Nat)(e:List (Nat×AV)):List Nat→List (Nat×AV)
 | []=>[]
 | k::r=>(k,(look k e).ren f)::oX f e r
theorem AJ (f:Nat→Option Nat)(e:List (Nat×AV)):oX f e []=[]:=_root_.id rfl
theorem wb (f:Nat→Option Nat)(e:List (Nat×AV))(k:Nat)(r:List Nat):oX f e (k::r)=(k,(look k e).ren f)::oX f e r:=_root_.id rfl
def AI (m0:Nat)(keep:List Nat)(e:List (Nat×AV))(σ:List (Nat×Blk))(os:List Nat):St:=⟨oX (dM m0 os) e keep,eQ m0 (dM m0 os) σ (zg m0 0++os) 0,m0+os.length⟩
theorem JM (m0:Nat)(keep:List Nat)(e:List (Nat×AV))(σ:List (Nat×Blk))(n:Nat):norm m0 keep ⟨e,σ,n⟩=AI m0 keep e σ (fJ m0 σ σ.length (bM [] (geN m0 (eH e keep++dH σ (zg m0 0))))):=by
 rw[← JF m0 keep e σ n]
 have hE:∀ (f:Nat→Option Nat) (l:List Nat),(l.map fun i=>(i,((⟨e,σ,n⟩:St).E i).ren f))=oX f e l:=by
  intro f l
  induction l with
  | nil=>rfl
  | cons k r ih=>rw[List.map_cons,ih];rfl
 simp only[norm,AI,hE,Hx]
theorem JO (m0:Nat)(keep:List Nat)(e:List (Nat×AV))(σ:List (Nat×Blk))(x:Nat)(r:List Nat):AI m0 keep e σ (x::r)=⟨oX (dM m0 (x::r)) e keep,eQ m0 (dM m0 (x::r)) σ (zg m0 0++(x::r)) 0,m0+(x::r).length⟩:=_root_.id rfl
theorem JN (m0:Nat)(keep:List Nat)(e:List (Nat×AV))(σ:List (Nat×Blk)):AI m0 keep e σ []=⟨oX (dM m0 []) e keep,eQ m0 (dM m0 []) σ (zg m0 0) 0,m0⟩:=by
 simp only[AI,List.append_nil];rfl
theorem vt (m0:Nat)(f:Nat→Option Nat)(σ:List (Nat×Blk))(k:Nat):eQ m0 f σ [] k=[]:=_root_.id rfl
theorem qL (m0:Nat)(f:Nat→Option Nat)(σ:List (Nat×Blk))(r:Nat)(q:List Nat)(k:Nat):eQ m0 f σ (r::q) k=(k,(lookB r σ).ren f)::eQ m0 f σ q (k+1):=_root_.id rfl
theorem we (m0:Nat)(os:List Nat)(r:Nat):dM m0 os r=if r<m0 then some r else HT r os m0:=_root_.id rfl
theorem Bt (x y:Nat)(r:List Nat)(k:Nat):HT x (y::r) k=if y=x then some k else HT x r (k+1):=_root_.id rfl
def QK (o:Nat):Option Nat→AV
 | some q=>.ptr q o
 | none=>.any
def QJ (a b c:Nat):Option Nat→AV
 | some q=>.row q a b c
 | none=>.any
def QL (a:Nat)(l:List PV):Option Nat→AV
 | some q=>.olist q a l
 | none=>.pv (.list l)
theorem Hz (f:Nat→Option Nat)(p:PV):(AV.pv p).ren f = .pv p:=by simp only[AV.ren]
theorem Jl (f:Nat→Option Nat):AV.any.ren f = .any:=by simp only[AV.ren]
theorem Jk (f:Nat→Option Nat)(r o:Nat):(AV.ptr r o).ren f=QK o (f r):=by simp only[AV.ren,QK]<;>(cases f r<;>rfl)
theorem Jj (f:Nat→Option Nat)(r a b c:Nat):(AV.row r a b c).ren f=QJ a b c (f r):=by simp only[AV.ren,QJ]<;>(cases f r<;>rfl)
theorem Ng (f:Nat→Option Nat)(r a:Nat)(l:List PV):(AV.olist r a l).ren f=QL a l (f r):=by simp only[AV.ren,QL]<;>(cases f r<;>rfl)
theorem zr (o q:Nat):QK o (some q) = .ptr q o:=_root_.id rfl
theorem zq (a b c q:Nat):QJ a b c (some q) = .row q a b c:=_root_.id rfl
theorem zu (a:Nat)(l:List PV)(q:Nat):QL a l (some q) = .olist q a l:=_root_.id rfl
theorem EK (f:Nat→Option Nat):AV.renL f []=[]:=_root_.id rfl
theorem ou (f:Nat→Option Nat)(x:AV)(r:List AV):AV.renL f (x::r)=x.ren f::AV.renL f r:=by simp only[AV.renL]
theorem qM (f:Nat→Option Nat):∀ l:List PV,AV.renL f (l.map .pv)=l.map .pv
 | []=>rfl
 | x::r=>by rw[List.map_cons,ou,qM f r,Hz]
theorem zx (f:Nat→Option Nat)(l:List PV):AV.renL f (bx l)=bx l:=qM f _
theorem vu (f:Nat→Option Nat)(T:Nat)(b:Bool)(l:List AV):(Blk.cells T b l).ren f = .cells T b (AV.renL f l):=_root_.id rfl
theorem EL (f:Nat→Option Nat)(e s:Nat):(Blk.tok e s).ren f = .tok e s:=_root_.id rfl
theorem zy (f:Nat→Option Nat):Blk.none.ren f = .none:=_root_.id rfl
theorem FI (A:List (Nat×Nat×Nat×Nat))(m0:Nat)(keep:List Nat)(s:St):eD A m0 keep s=norm m0 keep (G5 A s):=_root_.id rfl
theorem G4 (s:St):G5 [] s=s:=_root_.id rfl
theorem C9 (k e sz:Nat)(r:List (Nat×Nat×Nat×Nat))(env:List (Nat×AV))(σ:List (Nat×Blk))(n:Nat):G5 ((k,0,e,sz)::r) ⟨env,σ,n⟩=G5 r (Mo k e sz ⟨env,σ,n⟩ (look k env)):=_root_.id rfl
theorem Da (k j e sz:Nat)(r:List (Nat×Nat×Nat×Nat))(env:List (Nat×AV))(σ:List (Nat×Blk))(n:Nat):G5 ((k,j+1,e,sz)::r) ⟨env,σ,n⟩=G5 r (OJ j e sz ⟨env,σ,n⟩ (look k env)):=_root_.id rfl
theorem De (k e sz:Nat)(env:List (Nat×AV))(σ:List (Nat×Blk))(n:Nat):Mo k e sz ⟨env,σ,n⟩ (.pv .nils)=⟨(k,iv n e sz)::env,(n,cW e sz)::σ,n+1⟩:=_root_.id rfl
theorem JQ {n e sz:Nat}(h:e<1000000):iv n e sz = .olist n sz []:=if_pos h
theorem JP {n e sz:Nat}(h:1000000≤e):iv n e sz = .row n sz 0 0:=if_neg (Nat.not_lt.2 h)
theorem FK {e sz:Nat}(h:e<1000000):cW e sz = .tok e sz:=if_pos h
theorem FJ {e sz:Nat}(h:1000000≤e):cW e sz = .cells (e - 1000000) false []:=if_neg (Nat.not_lt.2 h)
theorem K7 (k e sz r a:Nat)(l:List PV)(s:St):Mo k e sz s (.olist r a l)=s:=_root_.id rfl
theorem G7 (o e sz r b:Nat)(env:List (Nat×AV))(σ:List (Nat×Blk))(n:Nat):OJ o e sz ⟨env,σ,n⟩ (.ptr r b)=OK r (b+o) e sz ⟨env,σ,n⟩ (lookB r σ):=_root_.id rfl
theorem xu (r o e sz T:Nat)(f:Bool)(l:List AV)(s:St):OK r o e sz s (.cells T f l)=Mn r T f l o e sz s l[o]?:=_root_.id rfl
theorem Dd (r T:Nat)(f:Bool)(l:List AV)(o e sz:Nat)(env:List (Nat×AV))(σ:List (Nat×Blk))(n:Nat):Mn r T f l o e sz ⟨env,σ,n⟩ (some (.pv .nils))=⟨env,(r,.cells T f (l.set o (iv n e sz)))::(n,cW e sz)::σ,n+1⟩:=_root_.id rfl
theorem G8 (r T:Nat)(f:Bool)(l:List AV)(o e sz:Nat)(s:St)(q a b c:Nat):Mn r T f l o e sz s (some (.row q a b c))=s:=_root_.id rfl
theorem K6 (r T:Nat)(f:Bool)(l:List AV)(o e sz:Nat)(s:St)(q a:Nat)(k:List PV):Mn r T f l o e sz s (some (.olist q a k))=s:=_root_.id rfl
theorem SA {α:Type}(x y:α)(r:List α):(x::r).set 0 y=y::r:=_root_.id rfl
theorem Sz {α:Type}(x y:α)(r:List α)(n:Nat):(x::r).set (n+1) y=x::r.set n y:=_root_.id rfl
theorem Qv (e e':List (Nat×AV))(σ σ':List (Nat×Blk))(n n':Nat):(St.mk e σ n=St.mk e' σ' n')=(e=e'∧σ=σ'∧n=n'):=by rw[St.mk.injEq]
theorem Ob {a b:Nat}(h:a≤b):decide (a≤b)=true:=decide_eq_true h
theorem aP {α:Type}{l:List α}{m:Nat}{x:α}(h:l[m]? = some x):l.take (m+1)=l.take m++[x]:=by
 obtain⟨h1,h2⟩:=List.getElem?_eq_some_iff.1 h
 rw[List.take_succ_eq_append_getElem h1,h2]
def NX (cells:List AV)(off sz:Nat)(r:List (Nat×Nat×AV))(xc:List AV):Bool→Option (List AV)
 | true=>f7 (cells.take off++xc++cells.drop (off+sz)) r
 | false=>none
theorem Ks (cells:List AV)(off sz:Nat)(r:List (Nat×Nat×AV))(xc:List AV):NX cells off sz r xc true=f7 (cells.take off++xc++cells.drop (off+sz)) r:=_root_.id rfl
theorem BS (cells:List AV):f7 cells []=some cells:=_root_.id rfl
theorem wG (cells:List AV)(off sz:Nat)(x:AV)(r:List (Nat×Nat×AV)):f7 cells ((off,sz,x)::r)=NX cells off sz r x.cells (x.known&&decide (x.cells.length=sz)&&decide (off+sz≤cells.length)):=by
 simp only[f7]
 by_cases h:x.known=true∧x.cells.length=sz∧off+sz≤cells.length
 ·rw[if_pos h,h.1,decide_eq_true h.2.1,decide_eq_true h.2.2];rfl
 ·rw[if_neg h]
  have:(x.known&&decide (x.cells.length=sz)&&decide (off+sz≤cells.length))=false:=by
   rw[Bool.eq_false_iff]
   intro hh
   simp only[Bool.and_eq_true,decide_eq_true_eq] at hh
   exact h ⟨hh.1.1,hh.1.2,hh.2⟩
  rw[this];rfl
theorem tw (sz off:Nat)(cs:List AV):Fr sz off cs=if off+sz≤cs.length then some (fe ((cs.drop off).take sz)) else none:=_root_.id rfl
section
variable {P:Program}{G:Nat→List PV}
end
end Go.Ab
namespace Go.Ab
open Go
theorem B8 (k:Nat):bX [] k=[]:=_root_.id rfl
theorem wK (b:Blk)(r:List Blk)(k:Nat):bX (b::r) k=(k,b)::bX r (k+1):=_root_.id rfl
theorem ww (sto:List (Nat×Blk))(f:Nat→Option Nat):fO sto f [] []=True:=_root_.id rfl
theorem rK (sto:List (Nat×Blk))(f:Nat→Option Nat)(r:Nat)(rs:List Nat)(b:Blk)(bs:List Blk):fO sto f (r::rs) (b::bs)=(BlkZ (lookB r sto) (b.ren f)∧fO sto f rs bs):=_root_.id rfl
theorem Fx (f:Nat→Option Nat)(i:Nat)(g:Nat→Nat):nO f [] i g=[]:=_root_.id rfl
theorem Au (f:Nat→Option Nat)(b:Blk)(r:List Blk)(i:Nat)(g:Nat→Nat):nO f (b::r) i g=(g i,b.ren f)::nO f r (i+1) g:=_root_.id rfl
theorem AK:eT []=[]:=_root_.id rfl
theorem wc (r:Nat)(q:List Nat):eT (r::q)=(r,.none)::eT q:=_root_.id rfl
theorem NV (next:Nat)(rs:List Nat)(r:Nat):gSo next rs r=some (gIn next rs r):=_root_.id rfl
theorem Kg (next i:Nat):gIn next [] i=next+i:=_root_.id rfl
theorem Rc (next r:Nat)(q:List Nat):gIn next (r::q) 0=r:=_root_.id rfl
theorem Rb (next r i:Nat)(q:List Nat):gIn next (r::q) (i+1)=gIn next q i:=_root_.id rfl
theorem DU (n:Nat):((n:Int)+1).toNat=n+1:=by omega
def Mb:List Nat→List Nat→List Nat
 | [],a=>a
 | x::r,a=>Mb r (x::a)
theorem EI (a:List Nat):Mb [] a=a:=_root_.id rfl
theorem oo (x:Nat)(r a:List Nat):Mb (x::r) a=Mb r (x::a):=_root_.id rfl
theorem zh:∀ (l a:List Nat),l.reverse++a=Mb l a
 | [],a=>rfl
 | x::r,a=>by rw[oo,← zh r (x::a)];simp
theorem Bg (l:List (Nat×Blk)):aW l.reverse=Mb (aW l) []:=by
 rw[← zh,List.append_nil];simp[aW]
theorem ap (A:List (Nat×Nat×Nat×Nat)){k:Nat}{v v':AV}{bs':List Blk}{sto':List (Nat×Blk)}{next':Nat}(h:StZ (eD A k [0] ⟨[(0,v')],sto',next'⟩) ⟨[(0,v)],bX bs' 0,bs'.length⟩):J9 k v bs' v' sto' next':=Wk.head h
end Go.Ab
namespace Go.Ab
open Go Go.RowKit
section
variable {P:Program}{G:Nat→List PV}
theorem Dr (F:St→Prop)(s:St):Sl F .norm s=F s:=_root_.id rfl
theorem GT (b:ACode)(Q:AExit→St→Prop)(e:List (Nat×AV))(σ:List (Nat×Blk))(n:Nat):KV (fun m=>vc P G m b) Q ⟨e,σ,n⟩=vc P G n b Q ⟨e,σ,n⟩:=_root_.id rfl
theorem Fj (e:List (Nat×AV)):Fk [] [] e=e:=_root_.id rfl
theorem Ak (p:Nat)(ps:List Nat)(x:PV)(xs:List PV)(e:List (Nat×AV)):Fk (p::ps) (x::xs) e=Fk ps xs ((p,.pv x)::e):=_root_.id rfl
def RH {ι:Type}(A:List (Nat×Nat×Nat×Nat))(S:ι→St)(Inv:Nat→ι→Prop)(i m0:Nat)(keep:List Nat)(Q:AExit→St→Prop)(e0:List (Nat×AV)):AExit→St→Prop
 | .norm,s'=>∃ x',Hd A m0 keep ⟨e0,s'.sto,s'.next⟩ (S x')∧Inv (i+1) x'
 | .exit j,s'=>Q (.exit j) ⟨e0,s'.sto,s'.next⟩
 | .ret,s'=>Q .ret ⟨e0,s'.sto,s'.next⟩
theorem Dh {ι:Type}(A:List (Nat×Nat×Nat×Nat))(S:ι→St)(Inv:Nat→ι→Prop)(i m0:Nat)(keep:List Nat)(Q:AExit→St→Prop)(e0 e:List (Nat×AV))(σ:List (Nat×Blk))(n:Nat):RH A S Inv i m0 keep Q e0 .norm ⟨e,σ,n⟩ = ∃ x',Hd A m0 keep ⟨e0,σ,n⟩ (S x')∧Inv (i+1) x':=_root_.id rfl
theorem Hb {ι:Type}(A:List (Nat×Nat×Nat×Nat))(S:ι→St)(Inv:Nat→ι→Prop)(i m0:Nat)(keep:List Nat)(Q:AExit→St→Prop)(e0 e:List (Nat×AV))(σ:List (Nat×Blk))(n:Nat):RH A S Inv i m0 keep Q e0 .ret ⟨e,σ,n⟩=Q .ret ⟨e0,σ,n⟩:=_root_.id rfl
theorem NU:∀ (lb:List PV),pvs (lb.map AV.pv)=some lb
 | []=>rfl
 | p::r=>by simp[pvs,AV.toPV,NU r]
theorem Mx {ι:Type}(A:List (Nat×Nat×Nat×Nat))(ch:ι→List (Nat×AV))(chB:ι→List (Nat×Blk))(Inv:Nat→ι→Prop)(x0:ι){gf:Nat}{lb:List PV}{xs:List (List PV)}(hs:RG P G gf lb xs)
  {m0:Nat} {f:AX} {ps keep:List Nat} {a b:ACode} {Q:AExit→St→Prop} {s:St}
  (h:∀ e0 σ0 n0,eD A m0 keep s=⟨e0,σ0,n0⟩→StZ ⟨e0,σ0,n0⟩ ⟨fX e0 (ch x0),iq σ0 (chB x0),n0⟩∧Inv 0 x0∧dC (f.ev (fun i=>look i (fX e0 (ch x0))))=some (gf,[],lb.map AV.pv) ∧
   (∀ i x y,xs[i]? = some y→Inv i x→y.length=ps.length∧vc P G n0 a (Sl (KV (fun m=>vc P G m b) (RH A (fun x=>⟨fX e0 (ch x),iq σ0 (chB x),n0⟩) Inv i m0 keep Q (fX e0 (ch x))))) ⟨Fk ps y (fX e0 (ch x)),iq σ0 (chB x),n0⟩) ∧
   ∀ x,Inv xs.length x→Q .norm ⟨fX e0 (ch x),iq σ0 (chB x),n0⟩):vc P G m0 (.range f ps keep a b) Q s:=by
 obtain⟨h1,h2,h3,h4,h5⟩:=h (eD A m0 keep s).env (eD A m0 keep s).sto (eD A m0 keep s).next rfl
 let S:ι→St:=fun x=>⟨fX (eD A m0 keep s).env (ch x),iq (eD A m0 keep s).sto (chB x),(eD A m0 keep s).next⟩
 refine⟨fun i t=>∃ x,t=S x∧Inv i x,S x0,bz h1,⟨x0,rfl,h2⟩,?_⟩
 have e:dC (f.ev (S x0).E)=some (gf,[],lb.map AV.pv):=h3
 rw[e]
 refine⟨rfl,lb,xs,NU lb,hs,?_,?_⟩
 ·rintro i y t hy ⟨x,rfl,hx⟩
  obtain⟨k1,k2⟩:=h4 i x y hy hx
  refine⟨k1,cQ a (fun e s hs=>?_) _ k2⟩
  cases e with
  | norm=>
    refine cQ b (fun e s hs=>?_) s hs
    cases e with
    | norm=>
      obtain⟨x',q1,q2⟩:=hs
      exact⟨S x',q1,x',rfl,q2⟩
    | exit j=>exact hs
    | ret=>exact hs
  | exit j=>exact hs.elim
  | ret=>exact hs.elim
 ·rintro t ⟨x,rfl,hx⟩
  exact h5 x hx
end
end Go.Ab
namespace Go.Ab
open Go
attribute [push_cast] gi mB Rj Rk Rl Rm Rn Ro A5
 F1 ws A7 Rg Rh Gx Gy Kw GA Kv Gw IE
 yo vl vk vj qz vi qy Ek yp yq
 qx En Eo Jv Ej Ei yu
 qA qW Em El vh Jp
 Jq vE qV Aq Jz oD vF qU
 vD E0 zZ zY E1 qX qY Co CP qO Fe
 E4 E8 E6 E5 Fd E7 E9 Fa
 Fb Fc Ae Ad Aa Ac Ff
 Af EV zU z8 EU
 Ju AA SF SE Jw Ai Aj
 vK tm IA u7 DT JY rB rC
 JW ry JX rz CD xe xd
 pP b9 xb CB Cz xa CC
 rJ wu zW vC J5 J4 uW uV wo Ox
 FY xg A1 F9 Bf Be rL AZ wn
 rF rG vz n7 sP ic DK yc
 GK JD FM FO FN FP GP xR uY
 xP xQ xO qt Cf wR oL N6
 N7 Ce Et Ew Ev M7 M6 M5 rD pc pb
 pf m5 Iu DJ xS wT
 rU KG pg rH pi ph
 m6 JV FV wj Bh wz KH wQ Cu w7 Cv
 w9 KM KN FX NF FH Df Dg Ha sy sA xy
 Iq Mz Is KF Mw It DI Ir My FB Q4 Q5
 EJ zm Hc La Ji Nb Nc Na wW zj vq Fl
 NQ Bp Bs wE wD sn sq xw Ao
 vN As vW Ap vP At vX AE JH Nw Nt JI
 Nv Nu JJ FC EX EY map_take map_drop
 vJ OD GZ K0 jG wM wN
 rT RB Ow CN mZ rk rj Fy mY JC
 FA Fz vZ v7 G2
 OA J3 F4 Bq NY Gi Gj Ko
 Gp Gl BL BM Km FQ AO AN FS
 AP wg ku kr rr oZ wh G3 C8 K3
 K4 Kf ub pS gV Jo Jn pE nx QI M9 AJ
 wb JM JO JN vt qL we Bt Hz Jl Jk
 Jj Ng zr zq zu EK ou qM zx
 vu EL zy FI G4 C9 Da De JQ JP FK
 FJ K7 G7 xu Dd G8 K6 SA Sz Qv
 Ob Ks BS wG tw GV
 OC CU GG B7 CQ Oy Oz
 CT Er yz MF B8 wK ww rK Fx Au
 AK wc NV Kg Rc Rb DU
 EI oo Bg Nat.zero_add Nat.add_zero List.length_cons List.length_nil List.nil_append List.cons_append List.append_nil List.append_assoc
 List.getElem?_map List.length_map List.map_nil List.map_cons List.take_succ_cons List.take_zero List.drop_succ_cons List.drop_zero List.take_nil List.drop_nil List.all_cons List.all_nil
 Bool.and_true Bool.true_and Bool.and_false Bool.false_and Bool.not_true Bool.not_false decide_true decide_false Bool.not_not Int.natCast_add Int.cast_ofNat_Int Int.toNat_natCast
 Option.some.injEq and_true true_and ge_iff_le Nat.le_refl Nat.zero_le Nat.not_lt_zero and_self
attribute [push_cast] Dr GT Fj Ak Dh Hb
attribute [push_cast high] Int.cast_ofNat_Int
end Go.Ab
namespace Go.Ab
open Go
def Gs:List AV→List AV
 | []=>[]
 | x::r=>x.cells++Gs r
theorem BQ:Gs []=[]:=_root_.id rfl
theorem up:∀ l:List AV,l.flatMap AV.cells=Gs l
 | []=>rfl
 | x::r=>by rw[List.flatMap_cons,up r];rfl
section
variable {P:Program}{G:Nat→List PV}
theorem Og {b:Bool}(h:b=true):Chk b:=h
theorem RA {e sz len new:Nat}{vs:List AV}(h:Chk (decide (vs.length=len)&&decide (len≤9223372036854775807)&&vs.all (fun v=>v.known&&v.cells.length == sz&&v.cells.all AV.one))):ey true e sz len new vs=some (.row new sz 0 len,[(new,.cells e true (Gs vs))]):=by
 have h':=h
 simp only[Chk,Bool.and_eq_true,decide_eq_true_eq] at h'
 obtain⟨⟨h1,h2⟩,h3⟩:=h'
 simp only[ey]
 rw[if_pos ⟨h1,h2⟩,if_pos h3,up]
theorem HF:∀ l:List PV,pvs (l.map .pv)=some l
 | []=>rfl
 | x::r=>by simp[pvs,AV.toPV,HF r]
end
attribute [push_cast] RA BQ
end Go.Ab
namespace Go.Ab
open Go
section
variable {α β:Type}
theorem bw {l:List α}{m:Nat}{x:α}(h:l[m]? = some x):l.drop m=x::l.drop (m+1):=by
 obtain⟨h1,h2⟩:=List.getElem?_eq_some_iff.1 h
 rw[List.drop_eq_getElem_cons h1,h2]
def So:Option (List UInt8)→Option AV
 | some l=>some (.pv (.str l))
 | none=>none
def H6 (n:Int):Option (List UInt8)→Option (List UInt8)
 | some l=>some (UInt8.ofNat n.toNat::l)
 | none=>none
theorem Ay (l:List UInt8):So (some l)=some (.pv (.str l)):=_root_.id rfl
theorem kZ (n:Int)(l:List UInt8):H6 n (some l)=some (UInt8.ofNat n.toNat::l):=_root_.id rfl
theorem Iy:u8s []=some []:=_root_.id rfl
theorem sI (n:Int)(r:List PV):u8s (.int .u8 n::r)=H6 n (u8s r):=by
 simp only[u8s];cases u8s r<;>rfl
theorem gj:∀ l:List UInt8,u8s (l.map fun b=>PV.int .u8 (b.toNat:Int))=some l
 | []=>rfl
 | b::r=>by rw[List.map_cons,sI,gj r,kZ];simp
theorem DS (σ:aw)(r:Nat)(l:List PV):gu σ (.olist r 1 l)=So (u8s l):=by
 simp only[gu,bF,if_true];cases u8s l<;>rfl
end
theorem wm (G:Nat→List PV)(e:List (Nat×AV))(σ:List (Nat×Blk))(new:Nat)(x:AX):nP G e σ new (.toStr x)=fR [] (gu (fun r=>lookB r σ) (evE e x)):=by
 simp only[nP];cases gu (fun r=>lookB r σ) (evE e x)<;>rfl
theorem gl {a b:Int}(h:0≤a):a.tdiv b=a / b:=Int.tdiv_eq_ediv_of_nonneg h
theorem iP {a b:Int}(h:0≤a):a.tmod b=a % b:=Int.tmod_eq_emod_of_nonneg h
def GS:Option UInt8→Option AV
 | some b=>some (.pv (.int .u8 (b.toNat:Int)))
 | none=>none
theorem ag (b:UInt8):GS (some b)=some (.pv (.int .u8 (b.toNat:Int))):=_root_.id rfl
theorem ik (l:List UInt8)(k:IntKind)(i:Nat):gx (.pv (.str l)) (.pv (.int k (i:Int)))=GS l[i]?:=by
 simp only[gx,Int.toNat_natCast]
 rw[if_pos (by omega)]
 cases l[i]? <;> rfl
theorem qR (l:List UInt8)(k:IntKind):gx (.pv (.str l)) (.pv (.int k 0))=GS l[0]?:=ik l k 0
theorem qS (l:List UInt8)(k:IntKind)(i:Nat):gx (.pv (.str l)) (.pv (.int k ((i:Int)+1)))=GS l[i+1]?:=ik l k (i+1)
attribute [push_cast] ag ik qR qS wm gl iP Ay kZ Iy sI gj DS
end Go.Ab
namespace Go.Ab
open Go Go.RowKit Go.Sort
theorem cm {P:Program}{G:Nat→List PV}{f:Nat}{args:List PV}{r:PV}(hc:bS P f=true)
  (h:∀ (w:World) (imm:Nat→Nat→Prop) (vals:Array Value),cy G w imm→vals.size=args.length→(∀ (i:Nat) (x:PV),args[i]? = some x→PRel w imm x (vals.getD i Go.undef)) →
   Calls P f vals w fun e w'=>∃ u,e = .returned u∧Below w.heap.size w w'∧PRel w' imm r u):aq P G f args r:=by
 refine⟨hc,fun w imm vals hG hlt hsz hargs=>(h w imm vals hG hsz hargs).mono ?_⟩
 rintro e w' ⟨u,rfl,hb,hr⟩
 exact⟨u,imm,rfl,hb,fun _ _ h=>h,fun _ _ h=>.inl h,fun b o h=>Nat.lt_of_lt_of_le (hlt b o h) hb.size,hr⟩
theorem df {w:World}{imm:Nat→Nat→Prop}{l:List UInt8}(h:l.length≤maxLen):PRel w imm (.str l) (.string ⟨l.toArray⟩):=by
 have:=PRel.str (w:=w) (imm:=imm) ⟨l.toArray⟩ (by show l.toArray.size≤maxLen;simpa using h)
 simpa using this
theorem g8 {w:World}{imm:Nat→Nat→Prop}{l:List UInt8}{v:Value}(h:PRel w imm (.str l) v):v = .string ⟨l.toArray⟩∧l.length≤maxLen:=by
 cases h with
 | str s hs=>exact⟨by simp,hs⟩
theorem xU {vals:Array Value}(h:vals.size=1):vals = #[vals.getD 0 Go.undef]:=by
 apply Array.ext
 ·simp[h]
 ·intro i h1 h2
  have:i=0:=by omega
  subst this
  simp[Array.getD_eq_getD_getElem?,h]
theorem sD {vals:Array Value}(h:vals.size=2):vals = #[vals.getD 0 Go.undef,vals.getD 1 Go.undef]:=by
 apply Array.ext
 ·simp[h]
 ·intro i h1 h2
  have:i=0∨i=1:=by omega
  rcases this with rfl | rfl<;>simp[Array.getD_eq_getD_getElem?,h]
def bl:Nat→Nat→List UInt8
 | 0,_=>[]
 | n+1,k=>if k<10 then [UInt8.ofNat (48+k)] else bl n (k / 10)++[UInt8.ofNat (48+k % 10)]
def cR (n:Int):List UInt8:=if n<0 then 45::bl 20 n.natAbs else bl 20 n.toNat
theorem fj:∀ (f k:Nat),k<10 ^ f→0<f→bl f k=Lib.decDigits k
 | 0,k,_,h=>absurd h (by simp)
 | f+1,k,hk,_=>by
   rw[bl,Lib.decDigits]
   by_cases h:k<10
   ·simp[h]
   ·rw[if_neg h,dif_neg h]
    have h10:k / 10<10 ^ f:=by
     rw[Nat.pow_succ] at hk
     exact Nat.div_lt_of_lt_mul (by rw[Nat.mul_comm];exact hk)
    rw[fj f (k / 10) h10 (by
     rcases Nat.eq_zero_or_pos f with h0 | h0
     ·subst h0
      simp at hk
      omega
     ·exact h0)]
theorem iE:∀ (f k:Nat),(bl f k).length≤f
 | 0,k=>by simp[bl]
 | f+1,k=>by
   rw[bl]
   split
   ·simp
   ·have:=iE f (k / 10)
    simp;omega
theorem tQ {n:Int}(h0:-9223372036854775808≤n)(h1:n≤9223372036854775807):cR n=Lib.itoa n:=by
 have e:(10:Nat) ^ 20=100000000000000000000:=by decide
 unfold cR Lib.itoa
 split
 ·rw[fj 20 n.natAbs (by rw[e];omega) (by decide)]
 ·rw[fj 20 n.toNat (by rw[e];omega) (by decide)]
theorem kG (n:Int):(cR n).length≤21:=by
 unfold cR
 split
 ·have:=iE 20 n.natAbs
  simp;omega
 ·have:=iE 20 n.toNat
  omega
theorem Eh {P:Program}{G:Nat→List PV}{w:World}{imm:Nat→Nat→Prop}{name:String}{k:IntKind}{zs:List Int}{g:Nat}(hn:P.globalNamed name=some g)(hG:G g=zs.map (PV.int k))(hz:zs≠[])(h:cy G w imm) :
  Lib.TabIs P w name k zs:=by
 obtain⟨cs,T,fz,h1,h2⟩:=h.2 g (by rw[hG];simpa using hz)
 have hcs:cs=(zs.map fun z=>Value.int k z).toArray:=by
  rw[hG] at h2
  simp only[List.length_map] at h2
  apply Array.ext
  ·simp[h2]
  ·intro i hi hi'
   have hiz:i<zs.length:=by omega
   obtain⟨_,v,h3,_,h4⟩:=h.1 g i (.int k zs[i]) (by rw[hG];simp[hiz])
   have hv:v = .int k zs[i]:=by cases h4;rfl
   have hc:=cell_of_row w g i cs T fz h1
   rw[h3,hv] at hc
   have:=(Array.getElem?_eq_some_iff.1 hc.symm).2
   simp[this]
 unfold Lib.TabIs World.var?
 rw[hn]
 simp only[Option.bind_some,h1]
 rw[hcs]
theorem Bk {P:Program}{G:Nat→List PV}{f g:Nat}{name:String}(hc:bS P f=true)(hn:P.globalNamed name=some g)(hG:G g=Lib.pow10Tab.map (PV.int .u64))
  (h:∀ (n:Int) (h0:-9223372036854775808≤n) (h1:n≤9223372036854775807) (w:World) (htab:Lib.TabIs P w name .u64 Lib.pow10Tab),
   Calls P f #[.int .i64 n] w fun e w'=>e = .returned (.string ⟨(Lib.itoa n).toArray⟩)∧∃ k os,w'=Sort.grow (w.drewN k) os)
  (n:Int) (h0:-9223372036854775808≤n) (h1:n≤9223372036854775807):aq P G f [.int .i64 n] (.str (cR n)):=by
 refine cm hc fun w imm vals hGl hsz hargs=>?_
 have hv:=xU hsz
 have h2:=hargs 0 (.int .i64 n) rfl
 have h3:vals.getD 0 Go.undef = .int .i64 n:=by
  generalize vals.getD 0 Go.undef=x at h2
  cases h2;rfl
 rw[hv,h3]
 refine (h n h0 h1 w (Eh hn hG (by
  intro e
  have:=congrArg List.length e
  rw[Lib.pow10Tab_length] at this
  simp at this) hGl)).mono ?_
 rintro e w' ⟨rfl,k,os,rfl⟩
 refine⟨_,rfl,Lib.below_grow _ w (Nat.le_refl _) k os,?_⟩
 rw[tQ h0 h1,← tQ h0 h1]
 refine df ?_
 have:=kG n
 unfold maxLen;omega
def aK (sep:List UInt8):List (List UInt8)→List UInt8
 | []=>[]
 | [x]=>x
 | x::y::r=>x++sep++aK sep (y::r)
theorem m9 (sep:List UInt8):∀ (l:List (List UInt8)),aK sep l=Lib.join l sep
 | []=>rfl
 | [x]=>(Lib.join_one x sep).symm
 | x::y::r=>by
   rw[aK,m9 sep (y::r),Lib.join_cons,Lib.join_cons]
   simp[Lib.joinTail]
theorem Bi {P:Program}{G:Nat→List PV}{f:Nat}(hc:bS P f=true)
  (h0:∀ (a:Option Addr) (c:Nat) (sep:ByteArray) (w:World),Calls P f #[.slice a 0 c,.string sep] w fun e w'=>e = .returned (.string ⟨#[]⟩)∧w'=w)
  (h:∀ (bk o c:Nat) (xs:List ByteArray) (sep:ByteArray) (w:World) (hcells:∀ (j:Nat) x,xs[j]? = some x→w.cell? ⟨bk,o+j,none⟩=some (.string x)) (hbk:bk<w.heap.size) (hN:xs.length≤140737488355328) (hcap:xs.length≤c) (hlen:(Lib.join (xs.map (·.data.toList)) sep.data.toList).length≤140737488355328),
   Calls P f #[.slice (some ⟨bk,o,none⟩) xs.length c,.string sep] w fun e w'=>e = .returned (.string ⟨(Lib.join (xs.map (·.data.toList)) sep.data.toList).toArray⟩)∧Below w.heap.size w w')
  (l:List (List UInt8)) (sep:List UInt8) (hN:l.length≤140737488355328) (hlen:(aK sep l).length≤140737488355328):aq P G f [.list (l.map .str),.str sep] (.str (aK sep l)):=by
 refine cm hc fun w imm vals hGl hsz hargs=>?_
 have hv:=sD hsz
 have hl:=hargs 0 (.list (l.map .str)) rfl
 obtain⟨hs,hsl⟩:=g8 (hargs 1 (.str sep) rfl)
 rw[hv,hs]
 generalize vals.getD 0 Go.undef=u at hl
 generalize hL:l.map PV.str=L at hl
 cases hl with
 | lnil A c hcm=>
   have:l=[]:=by cases l with
    | nil=>rfl
    | cons x r=>simp at hL
   subst this
   refine (h0 A c _ w).mono ?_
   rintro e w' ⟨rfl,rfl⟩
   exact⟨_,rfl,Below.refl _ _,df (by simp[aK])⟩
 | list _ b off c sz g k1 k2 k3 k4 k5=>
   have hlen':L.length=l.length:=by rw[← hL];simp
   by_cases hne:l=[]
   ·subst hne
    simp at hL
    subst hL
    refine (h0 _ c _ w).mono ?_
    rintro e w' ⟨rfl,rfl⟩
    exact⟨_,rfl,Below.refl _ _,df (by simp[aK])⟩
   ·have hget:∀ (i:Nat) (s:List UInt8),l[i]? = some s→L[i]? = some (.str s):=by
     intro i s hi
     rw[← hL];simp[hi]
    have hpos:0<l.length:=List.length_pos_iff.2 hne
    have hsz1:sz=1:=(k3 0 _ (hget 0 _ (List.getElem?_eq_getElem hpos))).symm
    subst hsz1
    have hcell:∀ (i:Nat) (s:List UInt8),l[i]? = some s→w.cell? ⟨b,off+i,none⟩=some (.string ⟨s.toArray⟩):=by
     intro i s hi
     obtain⟨_,q2,_⟩:=k4 i (.str s) 0 (.str s) (hget i s hi) rfl
     have q3:=k5 i (.str s) 0 (.str s) (hget i s hi) rfl
     rw[(g8 q3).1] at q2
     simpa using q2
    have hbk:b<w.heap.size:=World.block_lt_of_cell? w _ (hcell 0 _ (List.getElem?_eq_getElem hpos))
    have hmap:(l.map fun s=>(⟨s.toArray⟩:ByteArray)).map (·.data.toList)=l:=by
     rw[List.map_map]
     have:((fun (x:ByteArray)=>x.data.toList)∘fun (s:List UInt8)=>(⟨s.toArray⟩:ByteArray))=id:=by funext s;simp
     rw[this,List.map_id]
    have:=h b off c (l.map fun s=>⟨s.toArray⟩) ⟨sep.toArray⟩ w (fun j x hx=>by
     simp only[List.getElem?_map,Option.map_eq_some_iff] at hx
     obtain⟨s,hs,rfl⟩:=hx
     exact hcell j s hs) hbk (by simpa using hN) (by simp;omega) (by
     rw[hmap]
     rw[m9] at hlen
     simpa using hlen)
    rw[hmap] at this
    simp only[List.length_map] at this
    rw[hlen']
    refine this.mono ?_
    rintro e w' ⟨rfl,hb⟩
    refine⟨_,rfl,hb,?_⟩
    have e:Lib.join l (⟨sep.toArray⟩:ByteArray).data.toList=aK sep l:=by rw[m9]
    rw[e]
    exact df (by unfold maxLen;omega)
theorem pN {P:Program}{G:Nat→List PV}{f:Nat}(hc:bS P f=true)
  (h:∀ (a b:ByteArray) (w:World),Calls P f #[.string a,.string b] w fun e w'=>e = .returned (.int .i64 (Lib.compareBytes a.data.toList b.data.toList))∧w'=w) (a b:List UInt8) :
  aq P G f [.str a,.str b] (.int .i64 (Lib.compareBytes a b)):=by
 refine cm hc fun w imm vals hGl hsz hargs=>?_
 have hv:=sD hsz
 obtain⟨ha,_⟩:=g8 (hargs 0 (.str a) rfl)
 obtain⟨hb,_⟩:=g8 (hargs 1 (.str b) rfl)
 rw[hv,ha,hb]
 refine (h _ _ w).mono ?_
 rintro e w' ⟨rfl,rfl⟩
 refine⟨_,rfl,Below.refl _ _,?_⟩
 simpa using PRel.int (w:=w') (imm:=imm) .i64 (Lib.compareBytes a b)
end Go.Ab
namespace Go.Ab
open Go
def decP (l:List UInt8):Nat×Nat:=
 if l=[] then (0,0) else if Lib.decodeL l=(65533,1) then (0,0) else Lib.decodeL l
theorem take_2 {l:List UInt8}{a b:UInt8}(h0:l[0]? = some a)(h1:l[1]? = some b):l.take 2=[a,b]:=by
 rw[aP h1,aP h0];rfl
theorem take_3 {l:List UInt8}{a b c:UInt8}(h0:l[0]? = some a)(h1:l[1]? = some b)(h2:l[2]? = some c):l.take 3=[a,b,c]:=by
 rw[aP h2,take_2 h0 h1];rfl
end Go.Ab
namespace Go.Ab
open Go
section
variable {P:Program}{G:Nat→List PV}
end
theorem GY {e sz by_ new:Nat}{σ:aw}{y:PV}{r:List PV}(h1:r.length+1≤9223372036854775807)(h2:(r.length+1)*by_≤140737488355328):ja true e sz by_ new σ (.pv .nils) (some (y::r))=some (.row new sz 0 (r.length+1),[(new,.cells e false (bx (y::r)))]):=by
 simp only[ja];rw[if_pos (ic (by omega) (by simpa using h2))]
section
variable (e:List (Nat×AV))(σ:List (Nat×Blk))(new:Nat)
theorem NJ (G:Nat→List PV)(o:XOp):nP G e σ new (.xop o)=jj e σ new o:=_root_.id rfl
theorem FZ (o:XOp):gC e (.xop o)=nT e o:=_root_.id rfl
end
attribute [push_cast] GY NJ FZ
end Go.Ab
namespace Go.Ab
open Go
section
variable {e:List (Nat×AV)}{σ:List (Nat×Blk)}{new:Nat}
theorem aL (l:List UInt8):(aA l).length=l.length:=by simp[aA]
theorem mg (l:List UInt8):bx (aA l)=(aA l).map .pv:=by
 unfold bx
 congr 1
 induction l with
 | nil=>rfl
 | cons b r ih=>simp only[aA,List.map_cons,List.flatMap_cons,PV.cells] at ih ⊢;rw[ih];rfl
theorem gU (l k:List UInt8):aA (l++k)=aA l++aA k:=by simp[aA]
theorem uS (x:AX):jj e σ new (.noesc x)=some (evE e x,[]):=_root_.id rfl
theorem uP (u n:Nat)(b:Bool)(x:AX):jj e σ new (.ucast u n b x)=fR [] (e9 u n b (fun r=>lookB r σ) (evE e x)):=by
 simp only[jj,fR];cases e9 u n b (fun r=>lookB r σ) (evE e x)<;>rfl
def sG (u n:Nat)(back:Bool)(r o:Nat):Blk→Option AV
 | .cells T f l=>match back with
   | false=>if o<l.length then some (.ptr r o) else none
   | true=>if T=u∧o=0∧f=true∧l.length=n then some (.ptr r o) else none
 | _=>none
theorem vw (u n:Nat)(b:Bool)(τ:aw)(r o:Nat):e9 u n b τ (.ptr r o)=sG u n b r o (τ r):=by
 simp only[e9,sG];cases τ r<;>rfl
theorem DM {u n r o T:Nat}{f:Bool}{l:List AV}(h:Chk (decide (o<l.length))):sG u n false r o (.cells T f l)=some (.ptr r o):=if_pos (of_decide_eq_true h)
theorem DL {u n r:Nat}{l:List AV}(h:Chk (decide (l.length=n))):sG u n true r 0 (.cells u true l)=some (.ptr r 0):=if_pos ⟨rfl,rfl,rfl,of_decide_eq_true h⟩
theorem DE (ng:Bool)(x y:AX):jj e σ new (.peq ng x y)=fR [] (Jr ng (evE e x) (evE e y)):=by
 simp only[jj,fR];cases Jr ng (evE e x) (evE e y)<;>rfl
theorem ET (ng:Bool)(r o:Nat):Jr ng (.ptr r o) (.ptr r o)=some (.pv (.bool (!ng))):=if_pos ⟨rfl,rfl⟩
theorem nR (x y:AX):jj e σ new (.idxb x y)=fR [] (qT (evE e x) (evE e y)):=by
 simp only[jj,fR];cases qT (evE e x) (evE e y)<;>rfl
theorem oC (s:List UInt8)(c:Int):qT (.pv (.str s)) (.pv (.int .u8 c))=some (.pv (.int .i64 (eU c.toNat.toUInt8 s 0))):=_root_.id rfl
theorem xK (t by_:Nat)(x y:AX):jj e σ new (.apps t by_ x y)=lu t by_ new (fun r=>lookB r σ) (evE e x) (evE e y):=_root_.id rfl
theorem vI (t by_:Nat)(τ:aw):lu t by_ new τ (.pv .nils) (.pv (.str []))=some (.pv .nils,[]):=_root_.id rfl
theorem vH {t:Nat}{τ:aw}{c:UInt8}{k:List UInt8}(h:k.length+1≤140737488355328):lu t 1 new τ (.pv .nils) (.pv (.str (c::k)))=some (.row new 1 0 (k.length+1),[(new,.cells t false ((aA (c::k)).map .pv))]):=by
 have h1:aA (c::k) = .int .u8 (c.toNat:Int)::aA k:=_root_.id rfl
 have h2:=ic (n:=0) (m:=(aA k).length+1) (by_:=1) (by rw[aL];omega) (by rw[aL];omega)
 simp only[lu,Ib,h1]
 rw[if_pos h2,← h1,mg,aL]
def GX (t by_ new q s off len:Nat)(k:List UInt8):Blk→Option (AV×List (Nat×Blk))
 | .cells e' _ l=>if e'=t∧s=1∧off=0∧len*1≤l.length∧mR len (aA k).length by_=true then some (.row new 1 0 (len+(aA k).length),[(q,.none),(new,.cells t false (l.take (len*1)++bx (aA k)))]) else none
 | _=>none
theorem Ah (t by_:Nat)(τ:aw)(q s off len:Nat)(k:List UInt8):lu t by_ new τ (.row q s off len) (.pv (.str k))=GX t by_ new q s off len k (τ q):=by
 simp only[lu,Ib,GX]
 cases τ q<;>rfl
theorem GW {t q len:Nat}{f:Bool}{l k:List UInt8}(hl:len=l.length)(h:l.length+k.length≤140737488355328) :
  GX t 1 new q 1 0 len k (.cells t f ((aA l).map .pv))=some (.row new 1 0 (l.length+k.length),[(q,.none),(new,.cells t false ((aA (l++k)).map .pv))]):=by
 subst hl
 have h2:=ic (n:=l.length) (m:=(aA k).length) (by_:=1) (by rw[aL];omega) (by rw[aL];omega)
 simp only[GX]
 rw[if_pos ⟨trivial,trivial,trivial,by simp[aL],h2⟩,aL,mg,gU,List.map_append,List.take_of_length_le (by simp[aL])]
theorem BP (k:IntKind)(n:Int):bx [PV.int k n]=[.pv (.int k n)]:=_root_.id rfl
theorem xq {t new q len:Nat}{f:Bool}{l:List UInt8}{c:UInt8}(hl:len=l.length)(h:l.length+1≤140737488355328) :
  sd t 1 1 new q 1 0 len [.int .u8 (c.toNat:Int)] (.cells t f ((aA l).map .pv))=some (.row new 1 0 (l.length+1),[(q,.none),(new,.cells t false ((aA (l++[c])).map .pv))]):=by
 subst hl
 rw[jG (by simp[aL]) (by simp;omega) (by simpa using h),List.take_of_length_le (by simp[aL]),gU,List.map_append]
 rfl
theorem uQ (x:AX):jj e σ new (.sdata x)=fR [] (gw (evE e x)):=by
 simp only[jj,fR];cases gw (evE e x)<;>rfl
theorem vB:gw (.pv .nils)=some (.pv .nilp):=_root_.id rfl
theorem vA (r s off n:Nat):gw (.row r s off (n+1))=some (.ptr r off):=by rw[gw];exact if_pos (Nat.succ_pos n)
theorem xH (t:Nat)(x k:AX):jj e σ new (.ustr t x k)=oA t (fun r=>lookB r σ) (evE e x) (evE e k):=_root_.id rfl
theorem zI (t:Nat)(τ:aw):oA t τ (.pv .nilp) (.pv (.int .i64 0))=some (.pv (.str []),[]):=_root_.id rfl
theorem zH (t:Nat)(τ:aw)(r o:Nat)(k:Int):oA t τ (.ptr r o) (.pv (.int .i64 k))=qu t r o k (τ r):=_root_.id rfl
theorem nV:∀ l:List UInt8,u8x (aA l)=some l
 | []=>rfl
 | b::r=>by
   have ih:=nV r
   have h:aA (b::r) = .int .u8 (b.toNat:Int)::aA r:=_root_.id rfl
   have hb:=b.toNat_lt
   rw[h,u8x,if_pos ⟨by omega,by omega⟩,ih]
   simp
theorem sF {t r:Nat}{k:Int}{f:Bool}{l:List UInt8}(hk:k=(l.length:Int))(h0:0<l.length)(h1:l.length≤140737488355328):qu t r 0 k (.cells t f ((aA l).map .pv))=some (.pv (.str l),[(r,.bts t l)]):=by
 subst hk
 simp only[qu,Int.toNat_natCast]
 rw[if_pos ⟨trivial,trivial,by omega,by simp[aL],by omega⟩,List.take_of_length_le (by simp[aL]),HF,Option.bind_some,nV]
 rfl
theorem wi (t:Nat)(l:List UInt8):(Blk.bts t l).names=[]:=_root_.id rfl
theorem EM (f:Nat→Option Nat)(t:Nat)(l:List UInt8):(Blk.bts t l).ren f = .bts t l:=_root_.id rfl
theorem xY {t r:Nat}{k:Int}{l:List UInt8}(hk:k=(l.length:Int))(h0:0<l.length)(h1:l.length≤140737488355328):qu t r 0 k (.bts t l)=some (.pv (.str l),[(r,.bts t l)]):=by
 subst hk
 simp only[qu]
 rw[if_pos ⟨trivial,trivial,by omega,trivial,by omega⟩]
theorem nS (x:AX):nT e (.sdata x)=[]:=_root_.id rfl
theorem pd (x:AX):dn (.xop (.sdata x))=0:=_root_.id rfl
end
section
variable {P:Program}{G:Nat→List PV}
def uM {ι κ:Type}(S:ι→St)(Inv:ι→Prop)(μ:ι→Nat)(x:ι)(m0:Nat)(keep:List Nat)(id:Nat)(keepX:List Nat)(SX:κ→St)(fin:κ→Prop)(Q:AExit→St→Prop):AExit→St→Prop
 | .norm,s'=>∃ x',Hd [] m0 keep s' (S x')∧Inv x'∧μ x'<μ x
 | .exit i,s'=>if i=id then ∃ y,Hd [] m0 keepX s' (SX y)∧fin y else Q (.exit i) s'
 | .ret,s'=>Q .ret s'
theorem sk {ι κ:Type}(S:ι→St)(Inv:ι→Prop)(μ:ι→Nat)(x:ι)(m0:Nat)(keep:List Nat)(id:Nat)(keepX:List Nat)(SX:κ→St)(fin:κ→Prop)(Q:AExit→St→Prop)(s:St):uM S Inv μ x m0 keep id keepX SX fin Q .norm s = ∃ x',Hd [] m0 keep s (S x')∧Inv x'∧μ x'<μ x:=_root_.id rfl
theorem sl {ι κ:Type}(S:ι→St)(Inv:ι→Prop)(μ:ι→Nat)(x:ι)(m0:Nat)(keep:List Nat)(id:Nat)(keepX:List Nat)(SX:κ→St)(fin:κ→Prop)(Q:AExit→St→Prop)(i:Nat)(s:St):uM S Inv μ x m0 keep id keepX SX fin Q (.exit i) s=if i=id then (∃ y,Hd [] m0 keepX s (SX y)∧fin y) else Q (.exit i) s:=_root_.id rfl
theorem DH {ι κ:Type}(S:ι→St)(Inv:ι→Prop)(μ:ι→Nat)(x0:ι)(keepX:List Nat)(SX:κ→St)(fin:κ→Prop){m0 id:Nat}{keep:List Nat}{b:ACode}{F:St→Prop}{Q:AExit→St→Prop}{s:St}
  (h1:Hd [] m0 keep s (S x0)) (h2:Inv x0) (h3:∀ x,Inv x→vc P G m0 b (uM S Inv μ x m0 keep id keepX SX fin Q) (S x)) (h4:∀ y,fin y→F (SX y)):vc P G m0 (.loop keep b) (fQ id (Id F Q)) s:=by
 refine⟨fun n s'=>∃ x,s'=S x∧Inv x∧μ x=n,⟨μ x0,_,h1,x0,rfl,h2,rfl⟩,?_⟩
 rintro n s' ⟨x,rfl,hx,rfl⟩
 refine cQ b (fun e s' hs=>?_) _ (h3 x hx)
 cases e with
 | norm=>
   obtain⟨x',k1,k2,k3⟩:=hs
   exact⟨_,_,k3,k1,x',rfl,k2,rfl⟩
 | exit i=>
   simp only[uM] at hs
   split at hs
   ·rename_i hi
    obtain⟨y,k1,k2⟩:=hs
    refine⟨_,k1,?_⟩
    simp only[fQ,if_pos hi,Id]
    exact h4 y k2
   ·rename_i hi
    refine⟨s',Wk.of (Wx.refl s') m0,?_⟩
    simp only[fQ,if_neg hi,Id]
    exact hs
 | ret=>exact hs
end
attribute [push_cast] sk sl BP uS uP vw DM DL DE ET nR oC
 wi EM
 xK vI vH Ah uQ vB vA xH zI zH nS
 pd
end Go.Ab
namespace Go.Ab
open Go Go.RowKit
def bK (P:Program)(t:TypeId):Bool:=
 match P.underlying t with
 | some (.struct _) | some (.array _ _)=>true
 | _=>false
def dG (g:Bool)(cs:List PV):PV:=
 match g with
 | true=>.agg cs
 | false=>cs.headD .undef
def rQ (P:Program)(f:Field)(cs:List PV):PV:=dG (bK P f.type) ((cs.drop f.offset).take (P.cellsOf f.type))
inductive HasT (P:Program):TypeId→PV→Prop
 | bool (t:TypeId) (b:Bool):P.underlying t=some .bool→HasT P t (.bool b)
 | int (t:TypeId) (k:IntKind) (n:Int):P.underlying t=some (.int k)→(Lit.int k n).wf=true→HasT P t (.int k n)
 | str (t:TypeId) (s:List UInt8):P.underlying t=some .string→s.length≤140737488351232→HasT P t (.str s)
 | list (t e:TypeId) (l:List PV):P.underlying t=some (.slice e)→l.length≤maxLen→l.length*P.bytesOf e≤140737488351232→(∀ (i:Nat) (x:PV),l[i]? = some x→HasT P e x)→HasT P t (.list l)
 | arr (t e:TypeId) (n:Nat) (cs:List PV):P.underlying t=some (.array n e)→cs.length=P.cellsOf t→(∀ i,i<n→HasT P e (dG (bK P e) ((cs.drop (i*P.cellsOf e)).take (P.cellsOf e))))→HasT P t (.agg cs)
 | agg (t:TypeId) (fs:Array Field) (cs:List PV):P.underlying t=some (.struct fs)→cs.length=P.cellsOf t→(∀ (i:Nat) (f:Field),fs.toList[i]? = some f→HasT P f.type (rQ P f cs))→HasT P t (.agg cs)
def xF (w:World)(imm:Nat→Nat→Prop)(p:PV)(cs:List Value):Prop:=
 p.cells.length=cs.length∧∀ (i:Nat) (x:PV),p.cells[i]? = some x→PRel w imm x (cs.getD i Go.undef)∧(cs.getD i Go.undef).oneCell'=true
def xB (P:Program):List Field→Nat→Option Nat
 | [],o=>some o
 | f::r,o=>if f.offset=o then xB P r (o+P.cellsOf f.type) else none
def HG (P:Program)(ts:List TypeId)(t:TypeId):Bool:=
 match P.underlying t with
 | some .bool | some (.int _) | some .string=>true
 | some (.slice e)=>ts.contains e&&decide (0<P.cellsOf e)
 | some (.struct fs)=>(match xB P fs.toList 0 with
   | some n=>decide (n=P.cellsOf t)
   | none=>false)&&fs.toList.all fun f=>ts.contains f.type
 | some (.array n e)=>ts.contains e&&decide (n*P.cellsOf e=P.cellsOf t)
 | _=>false
def P6 (P:Program)(ts:List TypeId):Bool:=ts.all fun t=>HG P ts t
theorem HasT.cell {P:Program}{t:TypeId}{p:PV}(h:HasT P t p):dG (bK P t) p.cells=p:=by
 cases h with
 | bool _ h=>simp[bK,‹P.underlying t=_›,dG,PV.cells]
 | int _ _ h _=>simp[bK,‹P.underlying t=_›,dG,PV.cells]
 | str _ h _=>simp[bK,‹P.underlying t=_›,dG,PV.cells]
 | list _ _ h _ _ _=>simp[bK,‹P.underlying t=_›,dG,PV.cells]
 | arr _ _ _ h _ _=>simp[bK,‹P.underlying t=_›,dG,PV.cells]
 | agg _ _ h _ _=>simp[bK,‹P.underlying t=_›,dG,PV.cells]
theorem Bc {P:Program}:∀ (fs:List Field) (o n:Nat),xB P fs o=some n→o≤n∧∀ f∈fs,o≤f.offset
 | [],o,n,h=>by simp only[xB,Option.some.injEq] at h;subst h;simp
 | f::r,o,n,h=>by
   simp only[xB] at h
   split at h
   ·rename_i ho
    obtain⟨h1,h2⟩:=Bc r _ n h
    refine⟨by omega,fun g hg=>?_⟩
    rcases List.mem_cons.1 hg with rfl | hg
    ·omega
    ·have:=h2 g hg;omega
   ·cases h
section
variable {H:Type}{enc:TypeId×Value→H}{P:Program}{w:World}{spare:Nat→Bool}{held:Bool}{ts:List TypeId}{imm:Nat→Nat→Prop}
theorem gr {p:PV}{v:Value}(hc:p.cells=[p])(h:PRel w imm p v)(h1:v.oneCell'=true):xF w imm p [v]:=by
 refine⟨by rw[hc];rfl,fun i x hx=>?_⟩
 rw[hc] at hx
 cases i with
 | zero=>simp only[List.getElem?_cons_zero,Option.some.injEq] at hx;subst hx;exact⟨h,h1⟩
 | succ i=>simp at hx
theorem iB {F:Field→Option (DataW H×List MemPlace)}{cs:List Value}{n:Nat}(hcs:cs.length=n)
  (hF:∀ f x,F f=some x→(x.1.weights P f.type).all (·≤reachBytes)=true→f.type∈ts→∃ p,HasT P f.type p∧xF w imm p ((cs.drop f.offset).take (P.cellsOf f.type))):∀ (fs:List Field) (o:Nat) (xs:List (DataW H×List MemPlace)),xB P fs o=some n→(∀ f∈fs,f.type∈ts)→fs.mapM F=some xs→(DataW.weightsEach P (fs.map (·.type)) (xs.map (·.1))).all (·≤reachBytes)=true →
  ∃ ps:List PV,ps.length=n - o∧(∀ (i:Nat) (x:PV),ps[i]? = some x→PRel w imm x (cs.getD (o+i) Go.undef)∧(cs.getD (o+i) Go.undef).oneCell'=true) ∧
    ∀ f∈fs,HasT P f.type (dG (bK P f.type) ((ps.drop (f.offset - o)).take (P.cellsOf f.type)))
 | [],o,xs,hl,_,_,_=>by
   simp only[xB,Option.some.injEq] at hl
   subst hl
   exact⟨[],by simp,by simp,by simp⟩
 | f::r,o,xs,hl,ht,hm,hz=>by
   simp only[xB] at hl
   split at hl
   ·rename_i ho
    simp only[List.mapM_cons,Option.bind_eq_bind,Option.bind_eq_some_iff,Option.pure_def,Option.some.injEq] at hm
    obtain⟨x,hx,xs',hxs,rfl⟩:=hm
    simp only[List.map_cons,DataW.weightsEach,List.all_append,Bool.and_eq_true] at hz
    obtain⟨p,hp,hr1,hr2⟩:=hF f x hx hz.1 (ht f (by simp))
    obtain⟨q1,q2⟩:=Bc r _ n hl
    obtain⟨ps,h1,h2,h3⟩:=iB hcs hF r _ xs' hl (fun g hg=>ht g (by simp[hg])) hxs hz.2
    have hpl:p.cells.length=P.cellsOf f.type:=by rw[hr1];simp;omega
    refine⟨p.cells++ps,by simp only[List.length_append];omega,fun i x hx=>?_,fun g hg=>?_⟩
    ·by_cases hi:i<p.cells.length
     ·rw[List.getElem?_append_left hi] at hx
      have:=hr2 i x hx
      have e:((cs.drop f.offset).take (P.cellsOf f.type)).getD i Go.undef=cs.getD (o+i) Go.undef:=by
       simp only[List.getD_eq_getElem?_getD,List.getElem?_take,List.getElem?_drop]
       rw[if_pos (by omega),ho]
      rw[e] at this;exact this
     ·rw[List.getElem?_append_right (by omega)] at hx
      have:=h2 _ x hx
      have e:o+P.cellsOf f.type+(i - p.cells.length)=o+i:=by omega
      rw[e] at this;exact this
    ·rcases List.mem_cons.1 hg with rfl | hg'
     ·have e:((p.cells++ps).drop (g.offset - o)).take (P.cellsOf g.type)=p.cells:=by
       rw[ho,Nat.sub_self,List.drop_zero,← hpl,List.take_left]
      rw[e,hp.cell];exact hp
     ·have:=q2 g hg'
      have e:(p.cells++ps).drop (g.offset - o)=ps.drop (g.offset - (o+P.cellsOf f.type)):=by
       rw[List.drop_append,List.drop_eq_nil_of_le (by omega),List.nil_append]
       congr 1;omega
      rw[e];exact h3 g hg'
   ·cases hl
theorem fv {t:TypeId}{p:PV}{v:Value}(hp:HasT P t p)(h:xF w imm p v.cells.toList)(ha:bK P t=true→∃ cs,v = .agg cs)(ha':bK P t=false→v.cells = #[v]):PRel w imm p v:=by
 have hc:=hp.cell
 cases hg:bK P t with
 | false=>
   rw[hg] at hc
   rw[ha' hg] at h
   obtain⟨h1,h2⟩:=h
   have:p.cells=[p]:=by
    have hl:p.cells.length=1:=by rw[h1];simp
    obtain⟨q,hq⟩:=List.length_eq_one_iff.1 hl
    rw[hq] at hc ⊢
    simp only[dG,List.headD_cons] at hc
    rw[hc]
   have:=(h2 0 p (by rw[this];rfl)).1
   simpa using this
 | true=>
   rw[hg] at hc
   obtain⟨cs,rfl⟩:=ha hg
   obtain⟨h1,h2⟩:=h
   simp only[dG] at hc
   rw[← hc]
   refine .agg _ _ (by simpa[Value.cells] using h1.symm) fun i x hx=>?_
   rw[aC]
   exact (h2 i x hx).1
theorem jt {α β:Type}{f:α→Option β}:∀ {l:List α} {r:List β},l.mapM f=some r→r.length=l.length
 | [],r,h=>by simp at h;subst h;rfl
 | x::l,r,h=>by
   simp only[List.mapM_cons,Option.bind_eq_bind,Option.bind_eq_some_iff,Option.pure_def,Option.some.injEq] at h
   obtain⟨b,hb,r',hr',rfl⟩:=h
   simp[jt hr']
theorem GO {w:World}{a:Addr}{n:Nat}{v:Value}(h:w.cell? (a.add n)=some v):w.cell? ⟨a.block,a.off+n,none⟩=some v:=by
 obtain⟨b,off,spot⟩:=a
 unfold Addr.add at h
 by_cases hn:n=0
 ·subst hn
  rw[if_pos rfl] at h
  have:=World.cell?_spot h
  simp only at this
  subst this
  exact h
 ·rw[if_neg hn] at h;exact h
theorem C7 (a:Addr)(n:Nat):(a.add n).block=a.block:=by unfold Addr.add;split<;>rfl
theorem K2 (a:Addr)(n:Nat):(a.add n).off=a.off+n:=by unfold Addr.add;split<;>simp_all
theorem uB {w:World}{a:Addr}{n:Nat}{cs:List Value}(h:w.cells? 0 a n=some cs):cs.length=n∧∀ (j:Nat) (v:Value),cs[j]? = some v→w.cell? (a.add j)=some v:=by
 unfold World.cells? at h
 rw[if_pos (Nat.zero_le _)] at h
 have hl:=jt h
 simp only[List.length_range] at hl
 refine⟨hl,fun j v hv=>?_⟩
 have hj:j<n:=by rw[← hl];exact (List.getElem?_eq_some_iff.1 hv).1
 obtain⟨b,hb,hf⟩:=Lib.mapM_at h j j (by simp[hj])
 rw[hv] at hb;cases hb
 exact hf
theorem jL {e:TypeId}:∀ {l:List (DataW H)},(DataW.weightsAll P e l).all (·≤reachBytes)=true→∀ d∈l,(d.weights P e).all (·≤reachBytes)=true
 | [],_,d,hd=>by cases hd
 | x::r,h,d,hd=>by
   simp only[DataW.weightsAll,List.all_append,Bool.and_eq_true] at h
   rcases List.mem_cons.1 hd with rfl | hd
   ·exact h.1
   ·exact jL h.2 d hd
theorem yQ {t e:TypeId}{a:Addr}{len cap:Nat}{R:List Value→Option (DataW H×List MemPlace)}{d:DataW H}{ps:List MemPlace}(hu:P.underlying t=some (.slice e))(hpos:0<P.cellsOf e)
  (hz:(d.weights P t).all (·≤reachBytes)=true) (ih:∀ cs d ps,R cs=some (d,ps)→(d.weights P e).all (·≤reachBytes)=true→∃ p,HasT P e p∧xF w imm p cs) (himm:∀ b o,b<w.heap.size→imm b o)
  (h:(if 0≤a.block∧len≤cap∧cap≤maxLen then
   (List.mapM (fun i=>(w.cells? 0 (a.add (i*P.cellsOf e)) (P.cellsOf e)).bind R) (List.range len)).bind fun elems=>
    Option.map (fun rest=>(DataW.slice (List.map (fun x=>x.fst) elems) (List.map (fun x=>x.fst) rest),MemPlace.row a ((elems.length+rest.length)*P.cellsOf e)++List.flatMap (fun x=>x.snd) (elems++rest)))
     (if spare a.block=true then List.mapM (fun j=>(w.cells? 0 (a.add ((len+j)*P.cellsOf e)) (P.cellsOf e)).bind R) (List.range (cap - len)) else some [])
   else none)=some (d,ps)):∃ p,HasT P t p∧xF w imm p [.slice (some a) len cap]:=by
 split at h
 ·rename_i hh
  obtain⟨_,hlc,hcm⟩:=hh
  simp only[Option.bind_eq_some_iff] at h
  obtain⟨elems,he,hrest⟩:=h
  simp only[Option.map_eq_some_iff,Prod.mk.injEq] at hrest
  obtain⟨rest,_,rfl,_⟩:=hrest
  simp only[DataW.weights,hu,List.all_cons,List.all_append,Bool.and_eq_true,decide_eq_true_eq,List.length_map] at hz
  obtain⟨hz1,hz2,_⟩:=hz
  have hel:elems.length=len:=by rw[jt he];simp
  have hzl:len*P.bytesOf e≤140737488351232:=by
   have h1:elems.length*P.bytesOf e≤(elems.length+rest.length)*P.bytesOf e:=Nat.mul_le_mul_right _ (by omega)
   have h2:(elems.length+rest.length)*P.bytesOf e≤140737488351232:=hz1
   exact Nat.le_trans (by rw[← hel];exact h1) h2
  have hat:∀ i,i<len→∃ cs,w.cells? 0 (a.add (i*P.cellsOf e)) (P.cellsOf e)=some cs∧∃ p,HasT P e p∧xF w imm p cs:=by
   intro i hi
   obtain⟨b,hb,hf⟩:=Lib.mapM_at he i i (by simp[hi])
   simp only[Option.bind_eq_some_iff] at hf
   obtain⟨cs,h1,h2⟩:=hf
   obtain⟨p,h3,h4⟩:=ih cs b.1 b.2 h2 (jL hz2 b.1 (List.mem_map.2 ⟨b,List.mem_of_getElem? hb,rfl⟩))
   exact⟨cs,h1,p,h3,h4⟩
  have hex:∃ l:List PV,l.length=len∧∀ (i:Nat) (x:PV),l[i]? = some x→HasT P e x∧∃ cs,w.cells? 0 (a.add (i*P.cellsOf e)) (P.cellsOf e)=some cs∧xF w imm x cs:=by
   refine⟨(List.range len).map fun i=>if h:i<len then (hat i h).choose_spec.2.choose else .undef,by simp,fun i x hx=>?_⟩
   simp only[List.getElem?_map,Option.map_eq_some_iff] at hx
   obtain⟨j,hj,rfl⟩:=hx
   obtain⟨hlt,hji⟩:=List.getElem?_eq_some_iff.1 hj
   simp at hlt hji
   subst hji
   rw[dif_pos hlt]
   exact⟨(hat i hlt).choose_spec.2.choose_spec.1,_,(hat i hlt).choose_spec.1,(hat i hlt).choose_spec.2.choose_spec.2⟩
  obtain⟨l,hl,hle⟩:=hex
  refine⟨.list l,.list _ _ _ hu (by omega) (by rw[hl];exact hzl) (fun i x hx=>(hle i x hx).1),gr rfl ?_ rfl⟩
  by_cases h0:len=0
  ·have:l=[]:=List.eq_nil_of_length_eq_zero (by omega)
   subst this
   rw[h0]
   exact .lnil _ _ hcm
  ·have hcell:∀ (i:Nat) (x:PV) (j:Nat) (y:PV),l[i]? = some x→x.cells[j]? = some y→∃ v,w.cell? ((a.add (i*P.cellsOf e)).add j)=some v∧w.cell? ⟨a.block,a.off+i*P.cellsOf e+j,none⟩=some v∧PRel w imm y v∧v.oneCell'=true:=by
    intro i x j y hx hy
    obtain⟨_,cs,h1,h2,h3⟩:=hle i x hx
    obtain⟨k1,k2⟩:=uB h1
    have hj:j<cs.length:=by rw[← h2];exact (List.getElem?_eq_some_iff.1 hy).1
    have h4:=h3 j y hy
    have h5:=k2 j _ (List.getElem?_eq_getElem hj)
    refine⟨cs[j],h5,?_,?_⟩
    ·have:=GO h5
     rw[C7,K2] at this;exact this
    ·simpa[List.getD_eq_getElem?_getD,hj] using h4
   have hlen:∀ (i:Nat) (x:PV),l[i]? = some x→x.cells.length=P.cellsOf e:=by
    intro i x hx
    obtain⟨_,cs,h1,h2,_⟩:=hle i x hx
    rw[h2,(uB h1).1]
   obtain⟨b,off,spot⟩:=a
   have hspot:spot=none:=by
    have hx:=List.getElem?_eq_getElem (show 0<l.length by omega)
    have hy:=List.getElem?_eq_getElem (show 0<(l[0]'(by omega)).cells.length by rw[hlen 0 _ hx];exact hpos)
    obtain⟨v,hv,_⟩:=hcell 0 _ 0 _ hx hy
    have:=World.cell?_spot hv
    simpa[Addr.add] using this
   subst hspot
   have:=PRel.list (w:=w) (imm:=imm) l b off cap (P.cellsOf e) (fun i j=>(w.cell? ⟨b,off+i*P.cellsOf e+j,none⟩).getD Go.undef) (by omega) hcm hlen (fun i x j y hx hy=>by
     obtain⟨v,_,hv,_,h1⟩:=hcell i x j y hx hy
     have hv':w.cell? ⟨b,off+i*P.cellsOf e+j,none⟩=some v:=hv
     have hb:=World.block_lt_of_cell? w _ hv'
     exact⟨himm _ _ hb,by rw[hv'];rfl,by rw[hv'];exact h1⟩) (fun i x j y hx hy=>by
     obtain⟨v,_,hv,h1,_⟩:=hcell i x j y hx hy
     have hv':w.cell? ⟨b,off+i*P.cellsOf e+j,none⟩=some v:=hv
     rw[hv'];exact h1)
   rw[hl] at this
   exact this
 ·cases h
theorem vm {t:TypeId}{fs:Array Field}{cs:List Value}{R:TypeId→List Value→Option (DataW H×List MemPlace)}{d:DataW H}{ps:List MemPlace}(hu:P.underlying t=some (.struct fs))
  (hstep:((match xB P fs.toList 0 with
   | some n=>decide (n=P.cellsOf t)
   | none=>false)&&fs.toList.all fun f=>ts.contains f.type)=true)
  (hz:(d.weights P t).all (·≤reachBytes)=true) (ih:∀ t cs d ps,t∈ts→R t cs=some (d,ps)→(d.weights P t).all (·≤reachBytes)=true→∃ p,HasT P t p∧xF w imm p cs)
  (h:(if cs.length=P.cellsOf t then Option.map (fun xs=>(DataW.agg (List.map (fun x=>x.fst) xs),List.flatMap (fun x=>x.snd) xs)) (List.mapM (fun f=>R f.type (List.take (P.cellsOf f.type) (List.drop f.offset cs))) fs.toList) else none)=some (d,ps)) :
  ∃ p,HasT P t p∧xF w imm p cs:=by
 split at h
 ·rename_i hcs
  simp only[Option.map_eq_some_iff,Prod.mk.injEq] at h
  obtain⟨xs,hxs,rfl,_⟩:=h
  simp only[DataW.weights,hu] at hz
  simp only[Bool.and_eq_true] at hstep
  obtain⟨h1,h2⟩:=hstep
  split at h1
  ·rename_i n hn
   simp only[decide_eq_true_eq] at h1
   subst h1
   obtain⟨qs,k1,k2,k3⟩:=iB (w:=w) (imm:=imm) (P:=P) (ts:=ts) (H:=H) hcs (F:=fun f=>R f.type (List.take (P.cellsOf f.type) (List.drop f.offset cs))) (fun f x hx hz hf=>ih f.type _ x.1 x.2 hf hx hz) fs.toList 0 xs hn (fun f hf=>by simpa using (List.all_eq_true.1 h2) f hf) hxs hz
   refine⟨.agg qs,.agg _ fs _ hu (by omega) (fun i f hf=>?_),by simp only[PV.cells];omega,fun i x hx=>?_⟩
   ·have:=k3 f (List.mem_of_getElem? hf)
    rwa [Nat.sub_zero] at this
   ·have:=k2 i x hx
    rwa [Nat.zero_add] at this
  ·cases h1
 ·cases h
def xo (P:Program)(e:TypeId):Nat→Nat→List Field
 | 0,_=>[]
 | n+1,k=>{ (default:Field) with type:=e,offset:=k*P.cellsOf e }::xo P e n (k+1)
theorem uJ (P:Program)(e:TypeId):∀ n k,xB P (xo P e n k) (k*P.cellsOf e)=some ((k+n)*P.cellsOf e)
 | 0,k=>by simp[xo,xB]
 | n+1,k=>by
   rw[xo,xB,if_pos rfl]
   have:=uJ P e n (k+1)
   simp only
   rw[show k*P.cellsOf e+P.cellsOf e=(k+1)*P.cellsOf e by rw[Nat.succ_mul],this]
   congr 2;omega
theorem uI {P:Program}{e:TypeId}:∀ {n k:Nat} {f:Field},f∈xo P e n k→f.type=e
 | 0,_,_,h=>by cases h
 | n+1,k,f,h=>by
   rcases List.mem_cons.1 h with rfl | h
   ·rfl
   ·exact uI h
theorem CY {P:Program}{e:TypeId}:∀ {n k i:Nat},i<n→∃ f,f∈xo P e n k∧f.type=e∧f.offset=(k+i)*P.cellsOf e
 | 0,_,_,h=>by omega
 | n+1,k,0,_=>⟨_,List.mem_cons_self,rfl,by simp⟩
 | n+1,k,i+1,h=>by
   obtain⟨f,h1,h2,h3⟩:=CY (P:=P) (e:=e) (n:=n) (k:=k+1) (i:=i) (by omega)
   exact⟨f,List.mem_cons_of_mem _ h1,h2,by rw[h3];congr 1;omega⟩
theorem pW {α:Type}{P:Program}{e:TypeId}{R:TypeId→List Value→Option α}{cs:List Value}:∀ (n k:Nat),(List.range' k n).mapM (fun i=>R e ((cs.drop (i*P.cellsOf e)).take (P.cellsOf e)))=(xo P e n k).mapM (fun f=>R f.type ((cs.drop f.offset).take (P.cellsOf f.type)))
 | 0,k=>by simp[xo]
 | n+1,k=>by
   rw[List.range'_succ,xo,List.mapM_cons,List.mapM_cons,pW n (k+1)]
theorem i8 {P:Program}{e:TypeId}:∀ (n k:Nat) (l:List (DataW H)),l.length=n→DataW.weightsEach P ((xo P e n k).map (·.type)) l=DataW.weightsAll P e l
 | 0,k,l,h=>by
   obtain rfl:=List.eq_nil_of_length_eq_zero h
   simp[xo,DataW.weightsEach,DataW.weightsAll]
 | n+1,k,l,h=>by
   cases l with
   | nil=>simp at h
   | cons d r=>
     simp only[xo,List.map_cons,DataW.weightsEach,DataW.weightsAll]
     rw[i8 n (k+1) r (by simpa using h)]
theorem KY {t e:TypeId}{n:Nat}{cs:List Value}{R:TypeId→List Value→Option (DataW H×List MemPlace)}{d:DataW H}{ps:List MemPlace}(hu:P.underlying t=some (.array n e))
  (hstep:ts.contains e=true∧n*P.cellsOf e=P.cellsOf t)
  (hz:(d.weights P t).all (·≤reachBytes)=true) (ih:∀ t cs d ps,t∈ts→R t cs=some (d,ps)→(d.weights P t).all (·≤reachBytes)=true→∃ p,HasT P t p∧xF w imm p cs)
  (h:(if cs.length=P.cellsOf t then Option.map (fun xs=>(DataW.agg (List.map (fun x=>x.fst) xs),List.flatMap (fun x=>x.snd) xs)) (List.mapM (fun i=>R e (List.take (P.cellsOf e) (List.drop (i*P.cellsOf e) cs))) (List.range n)) else none)=some (d,ps)) :
  ∃ p,HasT P t p∧xF w imm p cs:=by
 split at h
 ·rename_i hcs
  simp only[Option.map_eq_some_iff,Prod.mk.injEq] at h
  obtain⟨xs,hxs,rfl,_⟩:=h
  have hxl:xs.length=n:=by rw[jt hxs];simp
  rw[List.range_eq_range',pW n 0] at hxs
  simp only[DataW.weights,hu] at hz
  rw[← i8 (P:=P) n 0 _ (by simpa using hxl)] at hz
  have hlay:=uJ P e n 0
  rw[Nat.zero_mul,Nat.zero_add,hstep.2] at hlay
  obtain⟨qs,k1,k2,k3⟩:=iB (w:=w) (imm:=imm) (P:=P) (ts:=ts) (H:=H) hcs (F:=fun f=>R f.type (List.take (P.cellsOf f.type) (List.drop f.offset cs))) (fun f x hx hz hf=>ih f.type _ x.1 x.2 hf hx hz) (xo P e n 0) 0 xs hlay
   (fun f hf=>by rw[uI hf];simpa using hstep.1) hxs hz
  refine⟨.agg qs,.arr _ e n _ hu (by omega) (fun i hi=>?_),by simp only[PV.cells];omega,fun i x hx=>?_⟩
  ·obtain⟨f,hf,h1,h2⟩:=CY (P:=P) (e:=e) (k:=0) hi
   have:=k3 f hf
   rwa [h1,h2,Nat.sub_zero,Nat.zero_add] at this
  ·have:=k2 i x hx
   rwa [Nat.zero_add] at this
 ·cases h
theorem jk (hts:P6 P ts=true)(himm:∀ b o,b<w.heap.size→imm b o):∀ (fuel:Nat) (t:TypeId) (cs:List Value) (d:DataW H) (ps:List MemPlace),t∈ts→DataW.trod enc P w 0 spare held fuel t cs=some (d,ps)→(d.weights P t).all (·≤reachBytes)=true→∃ p,HasT P t p∧xF w imm p cs
 | 0,t,cs,d,ps,_,h,_=>by simp[DataW.trod] at h
 | fuel+1,t,cs,d,ps,ht,h,hz=>by
   have hstep:=(List.all_eq_true.1 hts) t ht
   unfold HG at hstep
   rw[DataW.trod.eq_def] at h
   simp only at h
   cases hu:P.underlying t with
   | none=>rw[hu] at hstep;simp at hstep
   | some u=>
     rw[hu] at hstep h
     cases u with
     | bool=>
       split at h
       all_goals first
        | (rename_i b h1;exact⟨.bool b,.bool _ _ hu,gr rfl (.bool _) rfl⟩)
        | (exfalso;simp_all;done)
        | skip
     | int k=>
       split at h
       all_goals first
        | (rename_i k' k2 n heq
           simp only[Option.some.injEq,TypeDesc.int.injEq] at heq
           subst heq
           split at h
           ·rename_i hh
            obtain⟨rfl,hw⟩:=hh
            exact⟨.int _ n,.int _ _ _ hu hw,gr rfl (.int _ _) rfl⟩
           ·cases h)
        | (exfalso;simp_all;done)
        | skip
     | string=>
       split at h
       all_goals first
        | (rename_i s _
           split at h
           ·rename_i hh
            cases h
            simp only[DataW.weights,List.all_cons,List.all_nil,Bool.and_true,decide_eq_true_eq] at hz
            exact⟨.str s.data.toList,.str _ _ hu hz,gr rfl (.str _ hh) rfl⟩
           ·cases h)
        | (exfalso;simp_all;done)
        | skip
     | slice e=>
       split at h
       all_goals first
        | (exact⟨.list [],.list _ _ _ hu (by simp) (by simp) (by simp),gr rfl (.lnil none 0 (by simp)) rfl⟩)
        | (rename_i e' a len cap heq
           simp only[Option.some.injEq,TypeDesc.slice.injEq] at heq
           subst heq
           simp only[Bool.and_eq_true,decide_eq_true_eq] at hstep
           exact yQ hu hstep.2 hz (fun cs d ps h hz=>jk hts himm fuel _ cs d ps (by simpa using hstep.1) h hz) himm h)
        | (exfalso;simp_all;done)
        | skip
     | struct fs=>
       split at h
       all_goals first
        | (rename_i fs' heq
           simp only[Option.some.injEq,TypeDesc.struct.injEq] at heq
           subst heq
           exact vm hu hstep hz (fun t cs d ps ht h hz=>jk hts himm fuel t cs d ps ht h hz) h)
        | (exfalso;simp_all;done)
        | skip
     | array n e=>
       simp only[Bool.and_eq_true,decide_eq_true_eq] at hstep
       split at h
       all_goals first
        | (rename_i n' e' heq
           simp only[Option.some.injEq,TypeDesc.array.injEq] at heq
           obtain⟨rfl,rfl⟩:=heq
           exact KY hu hstep hz (fun t cs d ps ht h hz=>jk hts himm fuel t cs d ps ht h hz) h)
        | (exfalso;simp_all;done)
        | skip
     | _=>simp at hstep
end
end Go.Ab
namespace Go.Ab
open Go Go.RowKit Go.ChangeShapes Go.WideShapes
section
variable {H:Type}{enc:TypeId×Value→H}{P:Program}{W:World}{ts:List TypeId}{base:Nat}
def nd (W:World):Nat→Nat→Prop:=fun b _=>b<W.heap.size
theorem KZ (hts:P6 P ts=true){t:TypeId}(ht:t∈ts){v:Value}{d:DataW H}{p:List MemPlace}(hok:Value.okWide P W .any base t v)(h:DataW.Trod enc P W 0 (fun _=>true) true t v d p)(hz:(d.weights P t).all (·≤reachBytes)=true) :
  ∃ x,HasT P t x∧PRel W (nd W) x v:=by
 obtain⟨fuel,hf⟩:=h
 obtain⟨x,h1,h2⟩:=jk (w:=W) (imm:=nd W) hts (fun b o h=>h) fuel t _ d p ht hf hz
 refine⟨x,h1,?_⟩
 cases h1 with
 | bool _ b hu=>obtain⟨b',rfl⟩:=okWide_bool hu hok;exact fv (.bool _ _ hu) h2 (by simp[bK,hu]) (fun _=>rfl)
 | int _ k n hu hw=>obtain⟨b',rfl⟩:=okWide_int hu hok;exact fv (.int _ _ _ hu hw) h2 (by simp[bK,hu]) (fun _=>rfl)
 | str _ s hu hs=>obtain⟨b',rfl⟩:=okWide_string hu hok;exact fv (.str _ _ hu hs) h2 (by simp[bK,hu]) (fun _=>rfl)
 | list _ e l hu hl hl2 hle=>obtain⟨a,len,cap,rfl⟩:=okWide_slice hu hok;exact fv (.list _ _ _ hu hl hl2 hle) h2 (by simp[bK,hu]) (fun _=>rfl)
 | arr _ e n cs hu hl hle=>
   have hok':=hok
   simp only[Value.okWide,hu] at hok'
   obtain⟨cs',rfl,_⟩:=hok'
   exact fv (.arr _ _ _ _ hu hl hle) h2 (fun _=>⟨_,rfl⟩) (by simp[bK,hu])
 | agg _ fs cs hu hl hle=>obtain⟨cs',rfl,_⟩:=okWide_struct hu hok;exact fv (.agg _ _ _ hu hl hle) h2 (fun _=>⟨_,rfl⟩) (by simp[bK,hu])
theorem uK (hts:P6 P ts=true):∀ (tys:List TypeId) (vs:List Value) (ds:List (DataW H)) (p:List MemPlace),(∀ t∈tys,t∈ts)→(∀ (j:Nat) (t:TypeId) (v:Value),tys[j]? = some t→vs[j]? = some v→Value.okWide P W .any base t v) →
  DataW.TrodAll enc P W 0 (fun _=>true) true tys vs ds p→(DataW.weightsEach P tys ds).all (·≤reachBytes)=true→vs.length=tys.length∧ds.length=tys.length∧∃ xs:List PV,xs.length=tys.length∧(∀ (i:Nat) (x:PV),xs[i]? = some x→PRel W (nd W) x (vs.getD i Go.undef))∧(∀ (i:Nat) (t:TypeId) (x:PV),tys[i]? = some t→xs[i]? = some x→HasT P t x)
 | [],vs,ds,p,_,_,h,_=>by
   cases vs<;>cases ds<;>simp[DataW.TrodAll] at h
   exact⟨rfl,rfl,[],rfl,by simp,by simp⟩
 | t::tys,vs,ds,p,ht,hok,h,hz=>by
   obtain⟨v,vs',d,ds',p',q',rfl,rfl,rfl,h1,h2⟩:=trodAll_cons h
   simp only[DataW.weightsEach,List.all_append,Bool.and_eq_true] at hz
   obtain⟨x,k1,k2⟩:=KZ (base:=base) hts (ht t (by simp)) (hok 0 t v rfl rfl) h1 hz.1
   obtain⟨l1,l2,xs,l3,l4,l5⟩:=uK hts tys vs' ds' q' (fun t h=>ht t (by simp[h])) (fun j t v h1 h2=>hok (j+1) t v (by simpa using h1) (by simpa using h2)) h2 hz.2
   refine⟨by simp[l1],by simp[l2],x::xs,by simp[l3],fun i y hy=>?_,fun i t' y ht' hy=>?_⟩
   ·cases i with
    | zero=>simp only[List.getElem?_cons_zero,Option.some.injEq] at hy;subst hy;simpa using k2
    | succ i=>simpa using l4 i y (by simpa using hy)
   ·cases i with
    | zero=>
      simp only[List.getElem?_cons_zero,Option.some.injEq] at hy ht'
      subst hy;subst ht';exact k1
    | succ i=>exact l5 i t' y (by simpa using ht') (by simpa using hy)
theorem lI:∀ (tys:List TypeId) (vs:List Value) (ds:List (DataW H)) (p:List MemPlace),DataW.TrodAll enc P W 0 (fun _=>true) true tys vs ds p→∀ x∈p,x.block<W.heap.size
 | [],vs,ds,p,h=>by
   cases vs<;>cases ds<;>simp[DataW.TrodAll] at h
   subst h;simp
 | t::tys,vs,ds,p,h=>by
   obtain⟨v,vs',d,ds',p',q',rfl,rfl,rfl,⟨m,hm⟩,h2⟩:=trodAll_cons h
   intro x hx
   rcases List.mem_append.1 hx with hx | hx
   ·exact DataW.trod_lt m _ _ _ hm x hx
   ·exact lI tys vs' ds' q' h2 x hx
theorem pX (hlaid:laidOutB P=true){W':World}(hb:Below W.heap.size W W'):∀ (tys:List TypeId) (vs:List Value) (ds:List (DataW H)) (p:List MemPlace),(∀ t∈tys,P.readableRec t=true∧t<P.types.size) →
  DataW.TrodAll enc P W 0 (fun _=>true) true tys vs ds p→DataW.TrodAll enc P W' 0 (fun b=>decide (b<W.heap.size)) true tys vs ds p
 | [],vs,ds,p,_,h=>by
   cases vs<;>cases ds<;>simp[DataW.TrodAll] at h
   subst h
   exact trodAll_mk0
 | t::tys,vs,ds,p,ht,h=>by
   have hlt:=lI _ _ _ _ h
   obtain⟨v,vs',d,ds',p',q',rfl,rfl,rfl,h1,h2⟩:=trodAll_cons h
   exact trodAll_cons_mk (Below.trod hlaid (ht t (by simp)).1 (ht t (by simp)).2 h1 hb (fun x hx=>hlt x (List.mem_append.2 (.inl hx)))) (pX hlaid hb tys vs' ds' q' (fun t h=>ht t (by simp[h])) h2)
theorem eO:∀ (ts us:List TypeId) (ds gs:List (DataW H)),(DataW.weightsEach P (ts++us) (ds++gs)).all (·≤reachBytes)=true→(DataW.weightsEach P ts ds).all (·≤reachBytes)=true
 | [],_,_,_,_=>by simp[DataW.weightsEach]
 | _::_,_,[],_,_=>by simp[DataW.weightsEach]
 | t::ts,us,d::ds,gs,h=>by
   simp only[List.cons_append,DataW.weightsEach,List.all_append,Bool.and_eq_true] at h ⊢
   exact⟨h.1,eO ts us ds gs h.2⟩
theorem F7 {f:FuncId}{fn:Func}{s:ChangeSpec}{args:Array Value}{ds gs:List (DataW H)}{before:List MemPlace}{G:Nat→List PV}{tb:TypeId}
  (hs:s.vars=[]) (hlaid:laidOutB P=true) (hread:∀ t∈fn.params.toList,P.readableRec t=true∧t<P.types.size) (hts:P6 P ts=true) (htys:∀ t∈fn.params.toList,t∈ts)
  (hres:fn.resultTypes = #[tb]) (htb:P.underlying tb=some .bool)
  (hfn:∀ ds:List (DataW H),ds.length=fn.params.toList.length→s.fn H ds = { results:=[.lit (.bool true)],args:=ds })
  (hval:∀ (j:Nat) (t:TypeId) (v:Value),fn.params[j]? = some t→args[j]? = some v→Value.okWide P W .any base t v) (hW:DataW.Whole enc P fn.params.toList s.vars false W args.toList ds gs before)
  (hsz:(DataW.weightsEach P (fn.params.toList++s.plain.varTypes P) (ds++gs)).all (·≤reachBytes)=true)
  (hG:cy G W (nd W))
  (hlaw:∀ ps:List PV,ps.length=fn.params.toList.length→(∀ (i:Nat) (t:TypeId) (x:PV),fn.params.toList[i]? = some t→ps[i]? = some x→HasT P t x)→aq P G f ps (.bool true)) :
  Calls P f args W fun e W'=>∃ v,e = .returned v∧s.post enc P fn false true false false W args v W':=by
 have hW':=hW
 obtain⟨p,q,hA,hV,rfl,hfz,hnd⟩:=hW
 rw[hs] at hV
 obtain⟨rfl,rfl⟩:=trodVars_none hV
 obtain⟨l1,l2,xs,l3,l4,l5⟩:=uK (base:=base) hts fn.params.toList args.toList ds p htys (fun j t v h1 h2=>hval j t v (by simpa using h1) (by simpa using h2)) hA (eO _ _ _ _ hsz)
 obtain⟨_,hP⟩:=hlaw xs l3 l5
 refine (hP W (nd W) args hG (fun b o h=>h) (by rw[l3,← l1];simp) (fun i x hx=>by rw[aC];exact l4 i x hx)).mono ?_
 rintro e W' ⟨u,imm',rfl,hb,_,_,_,hu⟩
 cases hu
 refine⟨_,rfl,ds,[],_,[],p,[],hW',?_,?_,?_,hb.frame _,fun h=>by cases h⟩
 ·rw[hres,List.append_nil,hfn ds l2]
  exact trodAll_mk1 (shut_bool htb _)
 ·rw[List.append_nil,hfn ds l2]
  exact pX hlaid hb _ _ _ _ hread hA
 ·rw[hs,List.append_nil,hfn ds l2]
  rfl
end
end Go.Ab
namespace Go.Ab
open Go
section
variable {e:List (Nat×AV)}{σ:List (Nat×Blk)}{new:Nat}
theorem uU:jj e σ new .mkmap=some (.mp new,[(new,.mp [])]):=_root_.id rfl
theorem uT (kd:Option IntKind)(co:Bool)(z:PV)(x k:AX):jj e σ new (.mlook kd co z x k)=fR [] (mV kd co z (fun r=>lookB r σ) (evE e x) (evE e k)):=by
 simp only[jj,fR];cases mV kd co z (fun r=>lookB r σ) (evE e x) (evE e k)<;>rfl
theorem xI (kd:Option IntKind)(x k v:AX):jj e σ new (.mset kd x k v)=DG (.pv .undef) (mU kd (fun r=>lookB r σ) (evE e x) (evE e k) (evE e v)):=by
 simp only[jj,DG];cases mU kd (fun r=>lookB r σ) (evE e x) (evE e k) (evE e v)<;>rfl
def A6 (kd:Option IntKind)(co:Bool)(z k:PV):Blk→Option AV
 | .mp l=>if wA kd k=true then match ix k l 0 with
   | some (some (_,v))=>some (.pv (if co=true then .tup [v,.bool true] else v))
   | some none=>some (.pv (if co=true then .tup [z,.bool false] else z))
   | none=>none
   else none
 | _=>none
def IO (kd:Option IntKind)(r:Nat)(k p:PV):Blk→Option (List (Nat×Blk))
 | .mp l=>if wA kd k=true then match ix k l 0 with
   | some (some (i,_))=>some [(r,.mp (l.set i (k,p)))]
   | some none=>some [(r,.mp (l++[(k,p)]))]
   | none=>none
   else none
 | _=>none
theorem EZ (kd:Option IntKind)(co:Bool)(z:PV)(τ:aw)(r:Nat)(k:PV):mV kd co z τ (.mp r) (.pv k)=A6 kd co z k (τ r):=by
 simp only[mV];cases τ r<;>rfl
theorem EW (kd:Option IntKind)(τ:aw)(r:Nat)(k p:PV):mU kd τ (.mp r) (.pv k) (.pv p)=IO kd r k p (τ r):=by
 simp only[mU];cases τ r<;>rfl
def mpS (l:List (List UInt8)):List (PV×PV):=l.map fun s=>(.str s,.bool true)
def pZ (l:List (List UInt8))(s:List UInt8):List (List UInt8):=if s∈l then l else l++[s]
theorem kA (s:List UInt8):∀ (l:List (List UInt8)) (i:Nat),(s∈l→∃ j,ix (.str s) (mpS l) i=some (some (i+j,.bool true))∧l[j]? = some s)∧(s∉l→ix (.str s) (mpS l) i=some none)
 | [],i=>⟨(fun h=>by cases h),fun _=>rfl⟩
 | a::r,i=>by
   have ih:=kA s r (i+1)
   by_cases ha:s=a
   ·subst ha
    refine⟨fun _=>⟨0,?_,rfl⟩,fun h=>absurd List.mem_cons_self h⟩
    simp[mpS,ix,keq]
   ·have hb:(s == a)=false:=by simpa using ha
    have e:ix (.str s) (mpS (a::r)) i=ix (.str s) (mpS r) (i+1):=by
     show (match keq (.str s) (.str a) with
      | some true=>some (some (i,PV.bool true))
      | some false=>ix (.str s) (mpS r) (i+1)
      | none=>none)=_
     simp only[keq,hb]
    rw[e]
    refine⟨fun h=>?_,fun h=>ih.2 fun h'=>h (List.mem_cons_of_mem _ h')⟩
    rcases List.mem_cons.1 h with h | h
    ·exact absurd h ha
    ·obtain⟨j,h1,h2⟩:=ih.1 h
     exact⟨j+1,by rw[h1,show i+1+j=i+(j+1) by omega],by simpa using h2⟩
theorem wq (l:List (List UInt8))(s:List UInt8):A6 none false (.bool false) (.str s) (.mp (mpS l))=some (.pv (.bool (decide (s∈l)))):=by
 simp only[A6,wA,if_true]
 by_cases h:s∈l
 ·obtain⟨j,h1,_⟩:=(kA s l 0).1 h
  rw[h1,decide_eq_true h];rfl
 ·rw[(kA s l 0).2 h,decide_eq_false h];rfl
theorem yS (r:Nat)(l:List (List UInt8))(s:List UInt8):IO none r (.str s) (.bool true) (.mp (mpS l))=some [(r,.mp (mpS (pZ l s)))]:=by
 simp only[IO,wA,if_true]
 unfold pZ
 by_cases h:s∈l
 ·obtain⟨j,h1,h2⟩:=(kA s l 0).1 h
  rw[h1,if_pos h]
  simp only[Nat.zero_add]
  have:(mpS l).set j (.str s,.bool true)=mpS l:=by
   apply List.ext_getElem?
   intro i
   rw[List.getElem?_set]
   by_cases hij:j=i
   ·subst hij
    have hl:j<(mpS l).length:=by simp[mpS];exact (List.getElem?_eq_some_iff.1 h2).1
    simp[mpS,(List.getElem?_eq_some_iff.1 h2).1]
    exact (List.getElem?_eq_some_iff.1 h2).2.symm
   ·rw[if_neg hij]
  rw[this]
 ·rw[(kA s l 0).2 h,if_neg h]
  simp[mpS]
theorem xJ (sz len:Nat)(xs:List AX):jj e σ new (.bslf sz len xs)=oG sz len (evL e xs):=_root_.id rfl
theorem qr (sz len:Nat)(xs:List AX):nT e (.bslf sz len xs)=[]:=_root_.id rfl
theorem rE (sz len:Nat)(xs:List AX):dn (.xop (.bslf sz len xs))=0:=_root_.id rfl
theorem oF {sz:Nat}{cs:List PV}(h1:cs.length=sz)(h2:cs.all PV.one=true):oG sz 1 [.pv (.agg cs)]=some (.pv (.list [.agg cs]),[]):=by
 subst h1
 have h3:([PV.agg cs].all fun p=>p.cells.length == cs.length&&p.cells.all PV.one)=true:=by simp[PV.cells,h2]
 simp only[oG]
 rw[if_pos ⟨rfl,by omega⟩]
 simp only[pvs,AV.toPV,h3,if_true]
theorem FT (r:Nat):(AV.mp r).names=[r]:=_root_.id rfl
def QM:Option Nat→AV
 | some q=>.mp q
 | none=>.any
theorem Nh (f:Nat→Option Nat)(r:Nat):(AV.mp r).ren f=QM (f r):=by simp only[AV.ren,QM]<;>(cases f r<;>rfl)
theorem zw (q:Nat):QM (some q) = .mp q:=_root_.id rfl
theorem AQ (l:List (PV×PV)):(Blk.mp l).names=[]:=_root_.id rfl
theorem Jm (f:Nat→Option Nat)(l:List (PV×PV)):(Blk.mp l).ren f = .mp l:=_root_.id rfl
end
attribute [push_cast] xJ qr rE uU uT xI EZ EW wq yS FT Nh zw AQ Jm
end Go.Ab
namespace Go.Ab
open Go Go.RowKit Go.Proofs Go.Lib
section
variable {P:Program}{W:World}
theorem DO {H:Type}{enc:TypeId×Value→H}{w:World}{base:Nat}{sp:Nat→Bool}{held:Bool}{fuel n:Nat}{t e:TypeId}{cs:List Value}{x:DataW H×List MemPlace}(ht:P.underlying t=some (.array n e))
  (h:DataW.trod enc P w base sp held fuel t cs=some x):cs.length=P.cellsOf t:=by
 cases fuel with
 | zero=>simp[DataW.trod] at h
 | succ fuel=>
   simp only[DataW.trod,ht] at h
   split at h
   ·assumption
   ·cases h
structure TabAt (w:World)(g:Nat)(ps:List PV):Prop where
 obj:∃ cs T fz,w.heap[g]? = some (.cells cs T fz)∧cs.size=ps.length
 cell:∀ (o:Nat) (p:PV),ps[o]? = some p→∃ k z,p = .int k z∧w.cell? ⟨g,o,none⟩=some (.int k z)
theorem BI {G:Nat→List PV}(h:∀ g,G g≠[]→TabAt W g (G g)):cy G W (nd W):=by
 refine⟨fun g o p hp=>?_,fun g hg=>(h g hg).obj⟩
 have hne:G g≠[]:=by intro e;rw[e] at hp;simp at hp
 obtain⟨k,z,rfl,hc⟩:=(h g hne).cell o p hp
 exact⟨World.block_lt_of_cell? W _ hc,_,hc,rfl,.int _ _⟩
theorem mI {n:String}{g:Nat}{t e:TypeId}{m:Nat}{d:DataW Unit}{ps:List PV}(hv:VarReads P W n d)(hg:P.globalNamed n=some g)(hty:(P.globals[g]?).map (·.type)=some t)(ht:P.underlying t=some (.array m e))(hl:P.cellsOf t=ps.length)
  (h:∀ (o:Nat) (p:PV),ps[o]? = some p→∃ k z,p = .int k z∧W.cell? ⟨g,o,none⟩=some (.int k z)):TabAt W g ps:=by
 refine⟨?_,h⟩
 obtain⟨g',t',cs,fuel,p,hg',hty',hvar,hd⟩:=hv
 obtain rfl:=Option.some.inj (hg.symm.trans hg')
 obtain rfl:=Option.some.inj (hty.symm.trans hty')
 have hlen:=DO ht hd
 unfold World.var? at hvar
 rw[hg] at hvar
 simp only[Option.bind_some] at hvar
 split at hvar
 ·rename_i cs' T fz hh
  cases hvar
  exact⟨cs,T,fz,hh,by rw[← hl,← hlen];simp⟩
 ·cases hvar
theorem lL {n:String}{g:Nat}{t e:TypeId}{m:Nat}{k:IntKind}{zs:List Int}(hv:VarReads P W n (Lib.tabData k zs))(hg:P.globalNamed n=some g)(hty:(P.globals[g]?).map (·.type)=some t)(ht:P.underlying t=some (.array m e))
  (he:P.underlying e=some (.int k)) (hce:P.cellsOf e=1) (hct:P.cellsOf t=m) (hm:m=zs.length):TabAt W g (zs.map (PV.int k)):=by
 have hv':=hv
 refine mI hv hg hty ht (by rw[hct,hm];simp) fun o p hp=>?_
 simp only[List.getElem?_map,Option.map_eq_some_iff] at hp
 obtain⟨z,hz,rfl⟩:=hp
 refine⟨k,z,rfl,?_⟩
 obtain⟨g',t',cs,fuel,q,hg',hty',hvar,hd⟩:=hv'
 obtain rfl:=Option.some.inj (hg.symm.trans hg')
 obtain rfl:=Option.some.inj (hty.symm.trans hty')
 have hcs:=Lib.cells_of_tab ht he hce hct hd
 rw[World.var?_cell hg hvar o,← Array.getElem?_toList,hcs]
 simp[hz]
end
end Go.Ab

/- A program logic over the model: part 6 (a proof is built on it; nothing of the statement is said here). -/
import Derived.Lib.Join
import Derived.Lib.ItoaNum
import Derived.Lib.LaidTab
import Derived.Lib.AppendIntMem
import Derived.Lib.Strings
import Derived.Lib.Bytealg
import Derived.Lib.ValidLaws
import Derived.ChangeShapes
import Derived.ProofKit
import Derived.OpenShut
import Derived.ShutString
import Derived.ChangeOld
import Derived.Carry
import Derived.WideShapes
import Derived.Deep.DeepHandedRow
import Derived.Lib.LaidU8T
import Derived.Test.YtamoeblcphjbaaaGreatDoorCore5
set_option linter.unusedVariables false
set_option linter.unusedSimpArgs false
namespace Go.Ab
open Go Go.RowKit
theorem yk (k k':IntKind)(x y:Int):CW (.pv (.int k x)) (.pv (.int k' y))=some (.pv (.int k (min x y))):=by
 simp only[CW,Option.some.injEq,AV.pv.injEq,PV.int.injEq,true_and]
 split<;>omega
theorem yl (k k':IntKind)(x y:Int):CX (.pv (.int k x)) (.pv (.int k' y))=some (.pv (.int k (max x y))):=by
 simp only[CX,Option.some.injEq,AV.pv.injEq,PV.int.injEq,true_and]
 split<;>omega
theorem map_drop {α β:Type}(f:α→β)(l:List α)(n:Nat):(l.map f).drop n=(l.drop n).map f:=List.map_drop.symm
def fQ (mu:Bool)(e sz by_ new:Nat)(σ:aw)(x:AV):Option (List PV)→Option (AV×List (Nat×Blk))
 | some ys=>match mu,x with
   | false,.pv .nils=>match ys with
     | []=>some (.pv .nils,[])
     | y::r=>if jF 0 (r.length+1) by_=true then some (.olist new sz (y::r),[(new,.tok e sz)]) else none
   | false,.olist q s l=>match σ q with
     | .tok e' sz'=>if e'=e∧sz'=sz∧s=sz∧jF l.length ys.length by_=true then some (.olist new sz (l++ys),[(q,.none),(new,.tok e sz)]) else none
     | _=>none
   | true,.pv .nils=>match ys with
     | []=>some (.pv .nils,[])
     | y::r=>if jF 0 (r.length+1) by_=true then some (.row new sz 0 (r.length+1),[(new,.cells e false (dm (y::r)))]) else none
   | true,.row q s off len=>match σ q with
     | .cells e' _ l=>if e'=e∧s=sz∧off=0∧len*sz≤l.length∧jF len ys.length by_=true then some (.row new sz 0 (len+ys.length),[(q,.none),(new,.cells e false (l.take (len*sz)++dm ys))]) else none
     | _=>none
   | _,_=>none
 | none=>none
def AG (e sz by_ new q s:Nat)(l ys:List PV):Blk→Option (AV×List (Nat×Blk))
 | .tok e' sz'=>if e'=e∧sz'=sz∧s=sz∧jF l.length ys.length by_=true then some (.olist new sz (l++ys),[(q,.none),(new,.tok e sz)]) else none
 | _=>none
def wu (e sz by_ new q s off len:Nat)(ys:List PV):Blk→Option (AV×List (Nat×Blk))
 | .cells e' _ l=>if e'=e∧s=sz∧off=0∧len*sz≤l.length∧jF len ys.length by_=true then some (.row new sz 0 (len+ys.length),[(q,.none),(new,.cells e false (l.take (len*sz)++dm ys))]) else none
 | _=>none
theorem p9 (mu:Bool)(e sz by_ new:Nat)(σ:aw)(x y:AV):cz mu e sz by_ new σ x y=fQ mu e sz by_ new σ x (bu σ sz y):=by
 unfold cz fQ
 cases bu σ sz y<;>rfl
theorem G1 (e sz by_ new:Nat)(σ:aw)(q s:Nat)(l ys:List PV):fQ false e sz by_ new σ (.olist q s l) (some ys)=AG e sz by_ new q s l ys (σ q):=by
 simp only[fQ,AG]
theorem AF {e sz by_ new q:Nat}{l ys:List PV}(h1:l.length+ys.length≤9223372036854775807)(h2:(l.length+ys.length)*by_≤140737488355328):AG e sz by_ new q sz l ys (.tok e sz)=some (.olist new sz (l++ys),[(q,.none),(new,.tok e sz)]):=by
 simp[AG,fh h1 h2]
theorem Em (e sz by_ new:Nat)(σ:aw)(q s off len:Nat)(ys:List PV):fQ true e sz by_ new σ (.row q s off len) (some ys)=wu e sz by_ new q s off len ys (σ q):=by
 simp only[fQ,wu]
theorem pi {e sz by_ new q len:Nat}{f:Bool}{l:List AV}{ys:List PV}(h0:len*sz≤l.length)(h1:len+ys.length≤9223372036854775807)(h2:(len+ys.length)*by_≤140737488355328) :
  wu e sz by_ new q sz 0 len ys (.cells e f l)=some (.row new sz 0 (len+ys.length),[(q,.none),(new,.cells e false (l.take (len*sz)++dm ys))]):=by
 simp[wu,h0,fh h1 h2]
theorem np (σ:aw)(sz r:Nat)(l:List PV):bu σ sz (.olist r sz l)=some l:=by simp[bu]
def Ie (e sz new:Nat):Option (List PV)→Option (AV×List (Nat×Blk))
 | some ps=>if ps.all (fun p=>p.cells.length == sz&&p.cells.all PV.one)=true then some (.olist new sz ps,[(new,.tok e sz)]) else none
 | none=>none
theorem Jh {e sz len new:Nat}{vs:List AV}(h:vs.length=len)(h2:len≤9223372036854775807):er false e sz len new vs=Ie e sz new (pvs vs):=by
 simp only[er,h,h2,true_and,if_true,Ie]
 cases pvs vs<;>rfl
def JZ (e sz new:Nat)(ps:List PV):Bool→Option (AV×List (Nat×Blk))
 | true=>some (.olist new sz ps,[(new,.tok e sz)])
 | false=>none
theorem GU (e sz new:Nat)(ps:List PV):JZ e sz new ps true=some (.olist new sz ps,[(new,.tok e sz)]):=_root_.id rfl
theorem wk (e sz new:Nat)(ps:List PV):Ie e sz new (some ps)=JZ e sz new ps (ps.all fun p=>p.cells.length == sz&&p.cells.all PV.one):=by
 simp only[Ie]
 cases ps.all (fun p=>p.cells.length == sz&&p.cells.all PV.one)<;>rfl
theorem ot (b:Bool):PV.one (.bool b)=true:=_root_.id rfl
theorem ub (k:IntKind)(n:Int):PV.one (.int k n)=true:=_root_.id rfl
theorem ua (s:List UInt8):PV.one (.str s)=true:=_root_.id rfl
theorem y7:PV.one .nils=true:=_root_.id rfl
theorem oq (l:List PV):PV.one (.list l)=true:=_root_.id rfl
theorem Db (p:PV):AV.one (.pv p)=p.one:=_root_.id rfl
theorem y9 (r o:Nat):AV.one (.ptr r o)=true:=_root_.id rfl
theorem y8 (r s o n:Nat):AV.one (.row r s o n)=true:=_root_.id rfl
theorem qw (sz:Nat)(l:List PV)(i:Nat)(y:PV):kY sz l i (some y)=if y.cells.length=sz then some (.pv (.eptr l i 0)) else none:=_root_.id rfl
theorem GX (n:Nat):(n == n)=true:=by simp
def Ga (sz:Nat)(e:PV):Bool→Option AV
 | true=>some (.pv e)
 | false=>cI true sz 0 (e.cells.map .pv)
theorem Dz (sz:Nat)(e:PV):Ga sz e true=some (.pv e):=_root_.id rfl
theorem zJ (sz:Nat)(e:PV):iJ true sz 0 e=Ga sz e (e.isAgg&&decide (e.cells.length=sz)):=by
 simp only[iJ,true_and]
 by_cases h:e.isAgg=true∧e.cells.length=sz
 ·rw[if_pos h,h.1,decide_eq_true h.2];rfl
 ·rw[if_neg h]
  have:(e.isAgg&&decide (e.cells.length=sz))=false:=by
   rw[Bool.eq_false_iff]
   intro hh
   simp only[Bool.and_eq_true,decide_eq_true_eq] at hh
   exact h hh
  rw[this];rfl
theorem vf (cs:List PV):(PV.agg cs).isAgg=true:=_root_.id rfl
theorem zu (p:PV):(AV.pv p).names=[]:=_root_.id rfl
theorem uB (r o:Nat):(AV.ptr r o).names=[r]:=_root_.id rfl
theorem uA (r a b c:Nat):(AV.row r a b c).names=[r]:=_root_.id rfl
theorem zw (r a:Nat)(l:List PV):(AV.olist r a l).names=[r]:=_root_.id rfl
theorem uC:AV.any.names=[]:=_root_.id rfl
theorem qB:AV.namesL []=[]:=_root_.id rfl
theorem gU (x:AV)(r:List AV):AV.namesL (x::r)=x.names++AV.namesL r:=by simp only[AV.namesL]
theorem lh:∀ l:List PV,AV.namesL (l.map .pv)=[]
 | []=>rfl
 | x::r=>by rw[List.map_cons,gU,lh r];rfl
theorem lj (T:Nat)(f:Bool)(l:List AV):(Blk.cells T f l).names=AV.namesL l:=_root_.id rfl
theorem qC (e s:Nat):(Blk.tok e s).names=[]:=_root_.id rfl
theorem AI (acc:List Nat):bi acc []=acc:=_root_.id rfl
def Er (acc:List Nat)(n:Nat):Bool→List Nat
 | true=>acc
 | false=>acc++[n]
theorem fN (x:Nat):∀ l:List Nat,l.contains x=oA x l
 | []=>rfl
 | y::r=>by
   rw[List.contains_cons,fN x r,ln]
   by_cases h:y=x
   ·simp[h]
   ·have h':¬ x=y:=fun e=>h e.symm
    simp[h,h']
theorem ww (acc:List Nat)(n:Nat)(r:List Nat):bi acc (n::r)=bi (Er acc n (oA n acc)) r:=by
 simp only[bi,fN]
 cases oA n acc<;>rfl
theorem Eo (acc:List Nat)(n:Nat):Er acc n true=acc:=_root_.id rfl
theorem Ep (acc:List Nat)(n:Nat):Er acc n false=acc++[n]:=_root_.id rfl
def geN (m0:Nat):List Nat→List Nat
 | []=>[]
 | x::r=>if m0≤x then x::geN m0 r else geN m0 r
theorem DN (m0:Nat):geN m0 []=[]:=_root_.id rfl
theorem oO (m0 x:Nat)(r:List Nat):geN m0 (x::r)=if m0≤x then x::geN m0 r else geN m0 r:=_root_.id rfl
theorem vp (m0:Nat):∀ l:List Nat,l.filter (fun r=>decide (m0≤r))=geN m0 l
 | []=>rfl
 | x::r=>by rw[List.filter_cons,vp m0 r,oO];simp
def cy (sto:List (Nat×Blk)):List Nat→List Nat
 | []=>[]
 | r::q=>(lookB r sto).names++cy sto q
theorem lY (sto:List (Nat×Blk)):cy sto []=[]:=_root_.id rfl
theorem fa (sto:List (Nat×Blk))(r:Nat)(q:List Nat):cy sto (r::q)=(lookB r sto).names++cy sto q:=_root_.id rfl
theorem eD (sto:List (Nat×Blk)):∀ l:List Nat,(l.flatMap fun r=>(lookB r sto).names)=cy sto l
 | []=>rfl
 | r::q=>by rw[List.flatMap_cons,eD sto q,fa]
theorem CS (m0:Nat)(sto:List (Nat×Blk))(acc:List Nat):ed m0 sto 0 acc=acc:=_root_.id rfl
theorem CR (m0:Nat)(sto:List (Nat×Blk))(k:Nat)(acc:List Nat):ed m0 sto (k+1) acc=ed m0 sto k (bi acc (geN m0 (cy sto acc))):=by
 rw[← vp,← eD];rfl
def dc (e:List (Nat×AV)):List Nat→List Nat
 | []=>[]
 | k::r=>(look k e).names++dc e r
theorem lM (e:List (Nat×AV)):dc e []=[]:=_root_.id rfl
theorem jZ (e:List (Nat×AV))(k:Nat)(r:List Nat):dc e (k::r)=(look k e).names++dc e r:=_root_.id rfl
theorem io (e:List (Nat×AV))(σ:List (Nat×Blk))(n:Nat):∀ l:List Nat,(l.flatMap fun i=>((⟨e,σ,n⟩:St).E i).names)=dc e l
 | []=>rfl
 | k::r=>by rw[List.flatMap_cons,io e σ n r];rfl
def s8:Nat→Nat→List Nat
 | 0,_=>[]
 | n+1,k=>k::s8 n (k+1)
theorem IB (k:Nat):s8 0 k=[]:=_root_.id rfl
theorem Fz (n k:Nat):s8 (n+1) k=k::s8 n (k+1):=_root_.id rfl
theorem s7:∀ n k:Nat,s8 n k=List.range' k n
 | 0,k=>rfl
 | n+1,k=>by rw[Fz,s7 n,List.range'_succ]
theorem Bc (n:Nat):List.range n=s8 n 0:=by rw[s7,List.range_eq_range']
theorem De (m0:Nat)(keep:List Nat)(e:List (Nat×AV))(σ:List (Nat×Blk))(n:Nat):FS m0 keep ⟨e,σ,n⟩=ed m0 σ σ.length (bi [] (geN m0 (dc e keep++cy σ (s8 m0 0)))):=by
 rw[← vp,← io e σ n,← eD,← Bc];rfl
def lf (f:Nat→Option Nat)(e:List (Nat×AV)):List Nat→List (Nat×AV)
 | []=>[]
 | k::r=>(k,(look k e).ren f)::lf f e r
theorem uq (f:Nat→Option Nat)(e:List (Nat×AV)):lf f e []=[]:=_root_.id rfl
theorem qy (f:Nat→Option Nat)(e:List (Nat×AV))(k:Nat)(r:List Nat):lf f e (k::r)=(k,(look k e).ren f)::lf f e r:=_root_.id rfl
def up (m0:Nat)(keep:List Nat)(e:List (Nat×AV))(σ:List (Nat×Blk))(os:List Nat):St:=⟨lf (cB m0 os) e keep,dj m0 (cB m0 os) σ (s8 m0 0++os) 0,m0+os.length⟩
theorem Dj (m0:Nat)(keep:List Nat)(e:List (Nat×AV))(σ:List (Nat×Blk))(n:Nat):norm m0 keep ⟨e,σ,n⟩=up m0 keep e σ (ed m0 σ σ.length (bi [] (geN m0 (dc e keep++cy σ (s8 m0 0))))):=by
 rw[← De m0 keep e σ n]
 have hE:∀ (f:Nat→Option Nat) (l:List Nat),(l.map fun i=>(i,((⟨e,σ,n⟩:St).E i).ren f))=lf f e l:=by
  intro f l
  induction l with
  | nil=>rfl
  | cons k r ih=>rw[List.map_cons,ih];rfl
 simp only[norm,up,hE,Bc]
theorem Dl (m0:Nat)(keep:List Nat)(e:List (Nat×AV))(σ:List (Nat×Blk))(x:Nat)(r:List Nat):up m0 keep e σ (x::r)=⟨lf (cB m0 (x::r)) e keep,dj m0 (cB m0 (x::r)) σ (s8 m0 0++(x::r)) 0,m0+(x::r).length⟩:=_root_.id rfl
theorem Dk (m0:Nat)(keep:List Nat)(e:List (Nat×AV))(σ:List (Nat×Blk)):up m0 keep e σ []=⟨lf (cB m0 []) e keep,dj m0 (cB m0 []) σ (s8 m0 0) 0,m0⟩:=by
 simp only[up,List.append_nil];rfl
theorem pR (m0:Nat)(f:Nat→Option Nat)(σ:List (Nat×Blk))(k:Nat):dj m0 f σ [] k=[]:=_root_.id rfl
theorem mC (m0:Nat)(f:Nat→Option Nat)(σ:List (Nat×Blk))(r:Nat)(q:List Nat)(k:Nat):dj m0 f σ (r::q) k=(k,(lookB r σ).ren f)::dj m0 f σ q (k+1):=_root_.id rfl
theorem qA (m0:Nat)(os:List Nat)(r:Nat):cB m0 os r=if r<m0 then some r else Bv r os m0:=_root_.id rfl
theorem vi (x y:Nat)(r:List Nat)(k:Nat):Bv x (y::r) k=if y=x then some k else Bv x r (k+1):=_root_.id rfl
def ID (o:Nat):Option Nat→AV
 | some q=>.ptr q o
 | none=>.any
def IC (a b c:Nat):Option Nat→AV
 | some q=>.row q a b c
 | none=>.any
def IE (a:Nat)(l:List PV):Option Nat→AV
 | some q=>.olist q a l
 | none=>.pv (.list l)
theorem Be (f:Nat→Option Nat)(p:PV):(AV.pv p).ren f = .pv p:=by simp only[AV.ren]
theorem CQ (f:Nat→Option Nat):AV.any.ren f = .any:=by simp only[AV.ren]
theorem CP (f:Nat→Option Nat)(r o:Nat):(AV.ptr r o).ren f=ID o (f r):=by simp only[AV.ren,ID]<;>(cases f r<;>rfl)
theorem CO (f:Nat→Option Nat)(r a b c:Nat):(AV.row r a b c).ren f=IC a b c (f r):=by simp only[AV.ren,IC]<;>(cases f r<;>rfl)
theorem FF (f:Nat→Option Nat)(r a:Nat)(l:List PV):(AV.olist r a l).ren f=IE a l (f r):=by simp only[AV.ren,IE]<;>(cases f r<;>rfl)
theorem tf (o q:Nat):ID o (some q) = .ptr q o:=_root_.id rfl
theorem tc (a b c q:Nat):IC a b c (some q) = .row q a b c:=_root_.id rfl
theorem tg (a:Nat)(l:List PV)(q:Nat):IE a l (some q) = .olist q a l:=_root_.id rfl
theorem x6 (f:Nat→Option Nat):AV.renL f []=[]:=_root_.id rfl
theorem kJ (f:Nat→Option Nat)(x:AV)(r:List AV):AV.renL f (x::r)=x.ren f::AV.renL f r:=by simp only[AV.renL]
theorem th (f:Nat→Option Nat):∀ l:List PV,AV.renL f (l.map .pv)=l.map .pv
 | []=>rfl
 | x::r=>by rw[List.map_cons,kJ,th f r,Be]
theorem pS (f:Nat→Option Nat)(T:Nat)(b:Bool)(l:List AV):(Blk.cells T b l).ren f = .cells T b (AV.renL f l):=_root_.id rfl
theorem x7 (f:Nat→Option Nat)(e s:Nat):(Blk.tok e s).ren f = .tok e s:=_root_.id rfl
theorem zf (A:List (Nat×Nat×Nat×Nat))(m0:Nat)(keep:List Nat)(s:St):c7 A m0 keep s=norm m0 keep (Et A s):=_root_.id rfl
theorem AJ (s:St):Et [] s=s:=_root_.id rfl
theorem wy (k e sz:Nat)(r:List (Nat×Nat×Nat×Nat))(env:List (Nat×AV))(σ:List (Nat×Blk))(n:Nat):Et ((k,0,e,sz)::r) ⟨env,σ,n⟩=Et r (EX k e sz ⟨env,σ,n⟩ (look k env)):=_root_.id rfl
theorem wA (k e sz:Nat)(env:List (Nat×AV))(σ:List (Nat×Blk))(n:Nat):EX k e sz ⟨env,σ,n⟩ (.pv .nils)=⟨(k,gT n e sz)::env,(n,cr e sz)::σ,n+1⟩:=_root_.id rfl
theorem Dm {n e sz:Nat}(h:e<1000000):gT n e sz = .olist n sz []:=if_pos h
theorem zg {e sz:Nat}(h:e<1000000):cr e sz = .tok e sz:=if_pos h
theorem Eu (k e sz r a:Nat)(l:List PV)(s:St):EX k e sz s (.olist r a l)=s:=_root_.id rfl
theorem Io (e e':List (Nat×AV))(σ σ':List (Nat×Blk))(n n':Nat):(St.mk e σ n=St.mk e' σ' n')=(e=e'∧σ=σ'∧n=n'):=by rw[St.mk.injEq]
theorem aQ {α:Type}{l:List α}{m:Nat}{x:α}(h:l[m]? = some x):l.take (m+1)=l.take m++[x]:=by
 obtain⟨h1,h2⟩:=List.getElem?_eq_some_iff.1 h
 rw[List.take_succ_eq_append_getElem h1,h2]
def Gp (cells:List AV)(off sz:Nat)(r:List (Nat×Nat×AV))(xc:List AV):Bool→Option (List AV)
 | true=>eB (cells.take off++xc++cells.drop (off+sz)) r
 | false=>none
theorem DT (cells:List AV)(off sz:Nat)(r:List (Nat×Nat×AV))(xc:List AV):Gp cells off sz r xc true=eB (cells.take off++xc++cells.drop (off+sz)) r:=_root_.id rfl
theorem vw (cells:List AV):eB cells []=some cells:=_root_.id rfl
theorem qU (cells:List AV)(off sz:Nat)(x:AV)(r:List (Nat×Nat×AV)):eB cells ((off,sz,x)::r)=Gp cells off sz r x.cells (x.known&&decide (x.cells.length=sz)&&decide (off+sz≤cells.length)):=by
 simp only[eB]
 by_cases h:x.known=true∧x.cells.length=sz∧off+sz≤cells.length
 ·rw[if_pos h,h.1,decide_eq_true h.2.1,decide_eq_true h.2.2];rfl
 ·rw[if_neg h]
  have:(x.known&&decide (x.cells.length=sz)&&decide (off+sz≤cells.length))=false:=by
   rw[Bool.eq_false_iff]
   intro hh
   simp only[Bool.and_eq_true,decide_eq_true_eq] at hh
   exact h ⟨hh.1.1,hh.1.2,hh.2⟩
  rw[this];rfl
theorem y3 (sz off:Nat)(cs:List AV):FO sz off cs=if off+sz≤cs.length then some (fT ((cs.drop off).take sz)) else none:=_root_.id rfl
section
variable {P:Program}{G:Nat→List PV}
end
end Go.Ab
namespace Go.Ab
open Go
theorem vI (k:Nat):bT [] k=[]:=_root_.id rfl
theorem qY (b:Blk)(r:List Blk)(k:Nat):bT (b::r) k=(k,b)::bT r (k+1):=_root_.id rfl
theorem qO (sto:List (Nat×Blk))(f:Nat→Option Nat):fc sto f [] []=True:=_root_.id rfl
theorem nd (sto:List (Nat×Blk))(f:Nat→Option Nat)(r:Nat)(rs:List Nat)(b:Blk)(bs:List Blk):fc sto f (r::rs) (b::bs)=(BlkZ (lookB r sto) (b.ren f)∧fc sto f rs bs):=_root_.id rfl
theorem y6 (f:Nat→Option Nat)(i:Nat)(g:Nat→Nat):qv f [] i g=[]:=_root_.id rfl
theorem tZ (f:Nat→Option Nat)(b:Blk)(r:List Blk)(i:Nat)(g:Nat→Nat):qv f (b::r) i g=(g i,b.ren f)::qv f r (i+1) g:=_root_.id rfl
theorem ur:fq []=[]:=_root_.id rfl
theorem qz (r:Nat)(q:List Nat):fq (r::q)=(r,.none)::fq q:=_root_.id rfl
theorem Gl (next:Nat)(rs:List Nat)(r:Nat):gSo next rs r=some (gIn next rs r):=_root_.id rfl
theorem DO (next i:Nat):gIn next [] i=next+i:=_root_.id rfl
theorem IY (next r:Nat)(q:List Nat):gIn next (r::q) 0=r:=_root_.id rfl
theorem IX (next r i:Nat)(q:List Nat):gIn next (r::q) (i+1)=gIn next q i:=_root_.id rfl
theorem xe (n:Nat):((n:Int)+1).toNat=n+1:=by omega
theorem dB (A:List (Nat×Nat×Nat×Nat)){k:Nat}{v v':AV}{bs':List Blk}{sto':List (Nat×Blk)}{next':Nat}(h:StZ (c7 A k [0] ⟨[(0,v')],sto',next'⟩) ⟨[(0,v)],bT bs' 0,bs'.length⟩):DE k v bs' v' sto' next':=Wk.head h
end Go.Ab
namespace Go.Ab
open Go Go.RowKit
section
variable {P:Program}{G:Nat→List PV}
theorem wH (F:St→Prop)(s:St):JK F .norm s=F s:=_root_.id rfl
theorem AA (b:ACode)(Q:AExit→St→Prop)(e:List (Nat×AV))(σ:List (Nat×Blk))(n:Nat):Ej (fun m=>vc P G m b) Q ⟨e,σ,n⟩=vc P G n b Q ⟨e,σ,n⟩:=_root_.id rfl
theorem yS (e:List (Nat×AV)):yU [] [] e=e:=_root_.id rfl
theorem tQ (p:Nat)(ps:List Nat)(x:PV)(xs:List PV)(e:List (Nat×AV)):yU (p::ps) (x::xs) e=yU ps xs ((p,.pv x)::e):=_root_.id rfl
def Jr {ι:Type}(A:List (Nat×Nat×Nat×Nat))(S:ι→St)(Inv:Nat→ι→Prop)(i m0:Nat)(keep:List Nat)(Q:AExit→St→Prop)(e0:List (Nat×AV)):AExit→St→Prop
 | .norm,s'=>∃ x',Hd A m0 keep ⟨e0,s'.sto,s'.next⟩ (S x')∧Inv (i+1) x'
 | .exit j,s'=>Q (.exit j) ⟨e0,s'.sto,s'.next⟩
 | .ret,s'=>Q .ret ⟨e0,s'.sto,s'.next⟩
theorem wF {ι:Type}(A:List (Nat×Nat×Nat×Nat))(S:ι→St)(Inv:Nat→ι→Prop)(i m0:Nat)(keep:List Nat)(Q:AExit→St→Prop)(e0 e:List (Nat×AV))(σ:List (Nat×Blk))(n:Nat):Jr A S Inv i m0 keep Q e0 .norm ⟨e,σ,n⟩ = ∃ x',Hd A m0 keep ⟨e0,σ,n⟩ (S x')∧Inv (i+1) x':=_root_.id rfl
theorem AM {ι:Type}(A:List (Nat×Nat×Nat×Nat))(S:ι→St)(Inv:Nat→ι→Prop)(i m0:Nat)(keep:List Nat)(Q:AExit→St→Prop)(e0 e:List (Nat×AV))(σ:List (Nat×Blk))(n:Nat):Jr A S Inv i m0 keep Q e0 .ret ⟨e,σ,n⟩=Q .ret ⟨e0,σ,n⟩:=_root_.id rfl
theorem Gj:∀ (lb:List PV),pvs (lb.map AV.pv)=some lb
 | []=>rfl
 | p::r=>by simp[pvs,AV.toPV,Gj r]
theorem E2 {ι:Type}(A:List (Nat×Nat×Nat×Nat))(ch:ι→List (Nat×AV))(chB:ι→List (Nat×Blk))(Inv:Nat→ι→Prop)(x0:ι){gf:Nat}{lb:List PV}{xs:List (List PV)}(hs:Jq P G gf lb xs)
  {m0:Nat} {f:AX} {ps keep:List Nat} {a b:ACode} {Q:AExit→St→Prop} {s:St}
  (h:∀ e0 σ0 n0,c7 A m0 keep s=⟨e0,σ0,n0⟩→StZ ⟨e0,σ0,n0⟩ ⟨eu e0 (ch x0),fm σ0 (chB x0),n0⟩∧Inv 0 x0∧cn (f.ev (fun i=>look i (eu e0 (ch x0))))=some (gf,[],lb.map AV.pv) ∧
   (∀ i x y,xs[i]? = some y→Inv i x→y.length=ps.length∧vc P G n0 a (JK (Ej (fun m=>vc P G m b) (Jr A (fun x=>⟨eu e0 (ch x),fm σ0 (chB x),n0⟩) Inv i m0 keep Q (eu e0 (ch x))))) ⟨yU ps y (eu e0 (ch x)),fm σ0 (chB x),n0⟩) ∧
   ∀ x,Inv xs.length x→Q .norm ⟨eu e0 (ch x),fm σ0 (chB x),n0⟩):vc P G m0 (.range f ps keep a b) Q s:=by
 obtain⟨h1,h2,h3,h4,h5⟩:=h (c7 A m0 keep s).env (c7 A m0 keep s).sto (c7 A m0 keep s).next rfl
 let S:ι→St:=fun x=>⟨eu (c7 A m0 keep s).env (ch x),fm (c7 A m0 keep s).sto (chB x),(c7 A m0 keep s).next⟩
 refine⟨fun i t=>∃ x,t=S x∧Inv i x,S x0,bX h1,⟨x0,rfl,h2⟩,?_⟩
 have e:cn (f.ev (S x0).E)=some (gf,[],lb.map AV.pv):=h3
 rw[e]
 refine⟨rfl,lb,xs,Gj lb,hs,?_,?_⟩
 ·rintro i y t hy ⟨x,rfl,hx⟩
  obtain⟨k1,k2⟩:=h4 i x y hy hx
  refine⟨k1,bQ a (fun e s hs=>?_) _ k2⟩
  cases e with
  | norm=>
    refine bQ b (fun e s hs=>?_) s hs
    cases e with
    | norm=>
      obtain⟨x',q1,q2⟩:=hs
      exact⟨S x',q1,x',rfl,q2⟩
    | exit j=>exact hs
    | ret=>exact hs
  | exit j=>exact hs.elim
  | ret=>exact hs.elim
 ·rintro t ⟨x,rfl,hx⟩
  exact h5 x hx
end
end Go.Ab
namespace Go.Ab
open Go
attribute [push_cast] wU BW I4 I5 I6 I7 I8 I9 uN
 zG qL uO I1 I2 Ak Al DW An DV Aj Cb
 su pG pF pE mr pD mq xJ sv sw
 mo xM xN C0 xI xH sy
 xL xK pC CT
 CU pZ mI C9 Da kP p5 mH
 ym tE tD yo mJ mK vS wl mE yJ
 yw yD yy yx yI yz yE yF
 yG yH tJ tI tH tL yK
 tK yj tz tG yh
 CY uh J7 J6 C7 tP
 oh B8 Dv m5
 Dt mY Du mZ wa rt rr
 cf v7 vZ rq v8
 na qM tC pY DB DA pr pq qJ GV
 zD ru uJ zW uW uV uH qI
 m7 m8 pV ky xP fh w7 sk
 Av Dc zj zq zm zr Az rV pw
 rS rT rR ml vN q9 kX GC
 GD vM xQ xS Fx Fw m6 lp
 jM B1 wY rW rc
 nq D4 lu m9
 jN Dq zx qE uX qQ D5 q8 vW rm vX
 rp D8 D9 zz F3 ze wD wE AL nK nL rC
 BX E4 BZ E1 B0 wX BY E3 za IQ IR
 x5 ta AN Ex CN FB FC FA ri s9 pQ yW
 Ge vd vh qS qR nI nJ rB tU
 qj tX qr tV ql tY qt uj Df FT Dg
 FV FU Dh zb yk yl map_drop
 p9 G1 AF Em pi
 np Jh GU wk ot ub ua y7 oq Db
 y9 y8 qw
 GX Dz zJ vf
 zu uB uA zw
 uC qB gU lh lj qC AI ww Eo
 Ep DN oO lY fa CS CR lM jZ IB Fz uq
 qy Dj Dl Dk pR mC qA vi Be CQ CP
 CO FF tf tc tg x6 kJ th
 pS x7 zf AJ wy wA Dm zg
 Eu Io
 DT vw qU y3 AB
 G0 As vH wm GW
 wo xO sC Fa vI qY qO nd y6 tZ
 ur qz Gl DO IY IX xe
 Nat.zero_add Nat.add_zero List.length_cons List.length_nil List.nil_append List.cons_append List.append_nil List.append_assoc
 List.getElem?_map List.length_map List.map_nil List.map_cons List.take_succ_cons List.take_zero List.drop_succ_cons List.drop_zero List.take_nil List.drop_nil List.all_cons List.all_nil
 Bool.and_true Bool.true_and Bool.and_false Bool.false_and Bool.not_true Bool.not_false decide_true decide_false Bool.not_not Int.natCast_add Int.cast_ofNat_Int Int.toNat_natCast
 Option.some.injEq and_true true_and ge_iff_le Nat.le_refl Nat.zero_le Nat.not_lt_zero and_self
attribute [push_cast] wH AA yS tQ wF AM
attribute [push_cast high] Int.cast_ofNat_Int
end Go.Ab
namespace Go.Ab
open Go
section
variable {P:Program}{G:Nat→List PV}
theorem GI {b:Bool}(h:b=true):Chk b:=h
theorem Bg:∀ l:List PV,pvs (l.map .pv)=some l
 | []=>rfl
 | x::r=>by simp[pvs,AV.toPV,Bg r]
end
end Go.Ab
namespace Go.Ab
open Go
section
variable {α β:Type}
theorem dG {l:List α}{m:Nat}{x:α}(h:l[m]? = some x):l.drop m=x::l.drop (m+1):=by
 obtain⟨h1,h2⟩:=List.getElem?_eq_some_iff.1 h
 rw[List.drop_eq_getElem_cons h1,h2]
def JP:Option (List UInt8)→Option AV
 | some l=>some (.pv (.str l))
 | none=>none
def BD (n:Int):Option (List UInt8)→Option (List UInt8)
 | some l=>some (UInt8.ofNat n.toNat::l)
 | none=>none
theorem ue (l:List UInt8):JP (some l)=some (.pv (.str l)):=_root_.id rfl
theorem iq (n:Int)(l:List UInt8):BD n (some l)=some (UInt8.ofNat n.toNat::l):=_root_.id rfl
theorem B5:u8s []=some []:=_root_.id rfl
theorem nR (n:Int)(r:List PV):u8s (.int .u8 n::r)=BD n (u8s r):=by
 simp only[u8s];cases u8s r<;>rfl
theorem eG:∀ l:List UInt8,u8s (l.map fun b=>PV.int .u8 (b.toNat:Int))=some l
 | []=>rfl
 | b::r=>by rw[List.map_cons,nR,eG r,iq];simp
theorem xd (σ:aw)(r:Nat)(l:List PV):eM σ (.olist r 1 l)=JP (u8s l):=by
 simp only[eM,bu,if_true];cases u8s l<;>rfl
end
theorem qH (G:Nat→List PV)(e:List (Nat×AV))(σ:List (Nat×Blk))(new:Nat)(x:AX):kh G e σ new (.toStr x)=ju [] (eM (fun r=>lookB r σ) (evE e x)):=by
 simp only[kh];cases eM (fun r=>lookB r σ) (evE e x)<;>rfl
theorem eI {a b:Int}(h:0≤a):a.tdiv b=a / b:=Int.tdiv_eq_ediv_of_nonneg h
theorem fG {a b:Int}(h:0≤a):a.tmod b=a % b:=Int.tmod_eq_emod_of_nonneg h
def Ei:Option UInt8→Option AV
 | some b=>some (.pv (.int .u8 (b.toNat:Int)))
 | none=>none
theorem dU (b:UInt8):Ei (some b)=some (.pv (.int .u8 (b.toNat:Int))):=_root_.id rfl
theorem iV (l:List UInt8)(k:IntKind)(i:Nat):fH (.pv (.str l)) (.pv (.int k (i:Int)))=Ei l[i]?:=by
 simp only[fH,Int.toNat_natCast]
 rw[if_pos (by omega)]
 cases l[i]? <;> rfl
theorem mG (l:List UInt8)(k:IntKind):fH (.pv (.str l)) (.pv (.int k 0))=Ei l[0]?:=iV l k 0
attribute [push_cast] dU iV mG qH eI fG ue iq B5 nR eG xd
end Go.Ab
namespace Go.Ab
open Go Go.RowKit Go.Sort
theorem bC {P:Program}{G:Nat→List PV}{f:Nat}{args:List PV}{r:PV}(hc:bp P f=true)
  (h:∀ (w:World) (imm:Nat→Nat→Prop) (vals:Array Value),bH G w imm→vals.size=args.length→(∀ (i:Nat) (x:PV),args[i]? = some x→PRel w imm x (vals.getD i Go.undef)) →
   Calls P f vals w fun e w'=>∃ u,e = .returned u∧Below w.heap.size w w'∧PRel w' imm r u):aq P G f args r:=by
 refine⟨hc,fun w imm vals hG hlt hsz hargs=>(h w imm vals hG hsz hargs).mono ?_⟩
 rintro e w' ⟨u,rfl,hb,hr⟩
 exact⟨u,imm,rfl,hb,fun _ _ h=>h,fun _ _ h=>.inl h,fun b o h=>Nat.lt_of_lt_of_le (hlt b o h) hb.size,hr⟩
theorem bZ {w:World}{imm:Nat→Nat→Prop}{l:List UInt8}(h:l.length≤maxLen):PRel w imm (.str l) (.string ⟨l.toArray⟩):=by
 have:=PRel.str (w:=w) (imm:=imm) ⟨l.toArray⟩ (by show l.toArray.size≤maxLen;simpa using h)
 simpa using this
theorem gx {w:World}{imm:Nat→Nat→Prop}{l:List UInt8}{v:Value}(h:PRel w imm (.str l) v):v = .string ⟨l.toArray⟩∧l.length≤maxLen:=by
 cases h with
 | str s hs=>exact⟨by simp,hs⟩
theorem AS {vals:Array Value}(h:vals.size=1):vals = #[vals.getD 0 Go.undef]:=by
 apply Array.ext
 ·simp[h]
 ·intro i h1 h2
  have:i=0:=by omega
  subst this
  simp[Array.getD_eq_getD_getElem?,h]
theorem rX {vals:Array Value}(h:vals.size=2):vals = #[vals.getD 0 Go.undef,vals.getD 1 Go.undef]:=by
 apply Array.ext
 ·simp[h]
 ·intro i h1 h2
  have:i=0∨i=1:=by omega
  rcases this with rfl | rfl<;>simp[Array.getD_eq_getD_getElem?,h]
def aS:Nat→Nat→List UInt8
 | 0,_=>[]
 | n+1,k=>if k<10 then [UInt8.ofNat (48+k)] else aS n (k / 10)++[UInt8.ofNat (48+k % 10)]
def bS (n:Int):List UInt8:=if n<0 then 45::aS 20 n.natAbs else aS 20 n.toNat
theorem dH:∀ (f k:Nat),k<10 ^ f→0<f→aS f k=Lib.decDigits k
 | 0,k,_,h=>absurd h (by simp)
 | f+1,k,hk,_=>by
   rw[aS,Lib.decDigits]
   by_cases h:k<10
   ·simp[h]
   ·rw[if_neg h,dif_neg h]
    have h10:k / 10<10 ^ f:=by
     rw[Nat.pow_succ] at hk
     exact Nat.div_lt_of_lt_mul (by rw[Nat.mul_comm];exact hk)
    rw[dH f (k / 10) h10 (by
     rcases Nat.eq_zero_or_pos f with h0 | h0
     ·subst h0
      simp at hk
      omega
     ·exact h0)]
theorem fy:∀ (f k:Nat),(aS f k).length≤f
 | 0,k=>by simp[aS]
 | f+1,k=>by
   rw[aS]
   split
   ·simp
   ·have:=fy f (k / 10)
    simp;omega
theorem oI {n:Int}(h0:-9223372036854775808≤n)(h1:n≤9223372036854775807):bS n=Lib.itoa n:=by
 have e:(10:Nat) ^ 20=100000000000000000000:=by decide
 unfold bS Lib.itoa
 split
 ·rw[dH 20 n.natAbs (by rw[e];omega) (by decide)]
 ·rw[dH 20 n.toNat (by rw[e];omega) (by decide)]
theorem g9 (n:Int):(bS n).length≤21:=by
 unfold bS
 split
 ·have:=fy 20 n.natAbs
  simp;omega
 ·have:=fy 20 n.toNat
  omega
theorem xG {P:Program}{G:Nat→List PV}{w:World}{imm:Nat→Nat→Prop}{name:String}{k:IntKind}{zs:List Int}{g:Nat}(hn:P.globalNamed name=some g)(hG:G g=zs.map (PV.int k))(hz:zs≠[])(h:bH G w imm) :
  Lib.TabIs P w name k zs:=by
 obtain⟨cs,T,fz,h1,h2⟩:=h.2 g (by rw[hG];simpa using hz)
 have hcs:cs=(zs.map fun z=>Value.int k z).toArray:=by
  rw[hG] at h2
  simp only[List.length_map] at h2
  apply Array.ext
  ·simp[h2]
  ·intro i hi hi'
   have hiz:i<zs.length:=by omega
   obtain⟨_,v,h3,_,h4⟩:=h.1 g i (.int k zs[i]) (by rw[hG];simp[hiz])
   have hv:v = .int k zs[i]:=by cases h4;rfl
   have hc:=cell_of_row w g i cs T fz h1
   rw[h3,hv] at hc
   have:=(Array.getElem?_eq_some_iff.1 hc.symm).2
   simp[this]
 unfold Lib.TabIs World.var?
 rw[hn]
 simp only[Option.bind_some,h1]
 rw[hcs]
theorem u6 {P:Program}{G:Nat→List PV}{f g:Nat}{name:String}(hc:bp P f=true)(hn:P.globalNamed name=some g)(hG:G g=Lib.pow10Tab.map (PV.int .u64))
  (h:∀ (n:Int) (h0:-9223372036854775808≤n) (h1:n≤9223372036854775807) (w:World) (htab:Lib.TabIs P w name .u64 Lib.pow10Tab),
   Calls P f #[.int .i64 n] w fun e w'=>e = .returned (.string ⟨(Lib.itoa n).toArray⟩)∧∃ k os,w'=Sort.grow (w.drewN k) os)
  (n:Int) (h0:-9223372036854775808≤n) (h1:n≤9223372036854775807):aq P G f [.int .i64 n] (.str (bS n)):=by
 refine bC hc fun w imm vals hGl hsz hargs=>?_
 have hv:=AS hsz
 have h2:=hargs 0 (.int .i64 n) rfl
 have h3:vals.getD 0 Go.undef = .int .i64 n:=by
  generalize vals.getD 0 Go.undef=x at h2
  cases h2;rfl
 rw[hv,h3]
 refine (h n h0 h1 w (xG hn hG (by
  intro e
  have:=congrArg List.length e
  rw[Lib.pow10Tab_length] at this
  simp at this) hGl)).mono ?_
 rintro e w' ⟨rfl,k,os,rfl⟩
 refine⟨_,rfl,Lib.below_grow _ w (Nat.le_refl _) k os,?_⟩
 rw[oI h0 h1,← oI h0 h1]
 refine bZ ?_
 have:=g9 n
 unfold maxLen;omega
def aE (sep:List UInt8):List (List UInt8)→List UInt8
 | []=>[]
 | [x]=>x
 | x::y::r=>x++sep++aE sep (y::r)
theorem jP (sep:List UInt8):∀ (l:List (List UInt8)),aE sep l=Lib.join l sep
 | []=>rfl
 | [x]=>(Lib.join_one x sep).symm
 | x::y::r=>by
   rw[aE,jP sep (y::r),Lib.join_cons,Lib.join_cons]
   simp[Lib.joinTail]
theorem uY {P:Program}{G:Nat→List PV}{f:Nat}(hc:bp P f=true)
  (h0:∀ (a:Option Addr) (c:Nat) (sep:ByteArray) (w:World),Calls P f #[.slice a 0 c,.string sep] w fun e w'=>e = .returned (.string ⟨#[]⟩)∧w'=w)
  (h:∀ (bk o c:Nat) (xs:List ByteArray) (sep:ByteArray) (w:World) (hcells:∀ (j:Nat) x,xs[j]? = some x→w.cell? ⟨bk,o+j,none⟩=some (.string x)) (hbk:bk<w.heap.size) (hN:xs.length≤140737488355328) (hcap:xs.length≤c) (hlen:(Lib.join (xs.map (·.data.toList)) sep.data.toList).length≤140737488355328),
   Calls P f #[.slice (some ⟨bk,o,none⟩) xs.length c,.string sep] w fun e w'=>e = .returned (.string ⟨(Lib.join (xs.map (·.data.toList)) sep.data.toList).toArray⟩)∧Below w.heap.size w w')
  (l:List (List UInt8)) (sep:List UInt8) (hN:l.length≤140737488355328) (hlen:(aE sep l).length≤140737488355328):aq P G f [.list (l.map .str),.str sep] (.str (aE sep l)):=by
 refine bC hc fun w imm vals hGl hsz hargs=>?_
 have hv:=rX hsz
 have hl:=hargs 0 (.list (l.map .str)) rfl
 obtain⟨hs,hsl⟩:=gx (hargs 1 (.str sep) rfl)
 rw[hv,hs]
 generalize vals.getD 0 Go.undef=u at hl
 generalize hL:l.map PV.str=L at hl
 cases hl with
 | lnil A c hcm=>
   have:l=[]:=by cases l with
    | nil=>rfl
    | cons x r=>simp at hL
   subst this
   refine (h0 A c _ w).mono ?_
   rintro e w' ⟨rfl,rfl⟩
   exact⟨_,rfl,Below.refl _ _,bZ (by simp[aE])⟩
 | list _ b off c sz g k1 k2 k3 k4 k5=>
   have hlen':L.length=l.length:=by rw[← hL];simp
   by_cases hne:l=[]
   ·subst hne
    simp at hL
    subst hL
    refine (h0 _ c _ w).mono ?_
    rintro e w' ⟨rfl,rfl⟩
    exact⟨_,rfl,Below.refl _ _,bZ (by simp[aE])⟩
   ·have hget:∀ (i:Nat) (s:List UInt8),l[i]? = some s→L[i]? = some (.str s):=by
     intro i s hi
     rw[← hL];simp[hi]
    have hpos:0<l.length:=List.length_pos_iff.2 hne
    have hsz1:sz=1:=(k3 0 _ (hget 0 _ (List.getElem?_eq_getElem hpos))).symm
    subst hsz1
    have hcell:∀ (i:Nat) (s:List UInt8),l[i]? = some s→w.cell? ⟨b,off+i,none⟩=some (.string ⟨s.toArray⟩):=by
     intro i s hi
     obtain⟨_,q2,_⟩:=k4 i (.str s) 0 (.str s) (hget i s hi) rfl
     have q3:=k5 i (.str s) 0 (.str s) (hget i s hi) rfl
     rw[(gx q3).1] at q2
     simpa using q2
    have hbk:b<w.heap.size:=World.block_lt_of_cell? w _ (hcell 0 _ (List.getElem?_eq_getElem hpos))
    have hmap:(l.map fun s=>(⟨s.toArray⟩:ByteArray)).map (·.data.toList)=l:=by
     rw[List.map_map]
     have:((fun (x:ByteArray)=>x.data.toList)∘fun (s:List UInt8)=>(⟨s.toArray⟩:ByteArray))=id:=by funext s;simp
     rw[this,List.map_id]
    have:=h b off c (l.map fun s=>⟨s.toArray⟩) ⟨sep.toArray⟩ w (fun j x hx=>by
     simp only[List.getElem?_map,Option.map_eq_some_iff] at hx
     obtain⟨s,hs,rfl⟩:=hx
     exact hcell j s hs) hbk (by simpa using hN) (by simp;omega) (by
     rw[hmap]
     rw[jP] at hlen
     simpa using hlen)
    rw[hmap] at this
    simp only[List.length_map] at this
    rw[hlen']
    refine this.mono ?_
    rintro e w' ⟨rfl,hb⟩
    refine⟨_,rfl,hb,?_⟩
    have e:Lib.join l (⟨sep.toArray⟩:ByteArray).data.toList=aE sep l:=by rw[jP]
    rw[e]
    exact bZ (by unfold maxLen;omega)
theorem lT {P:Program}{G:Nat→List PV}{f:Nat}(hc:bp P f=true)
  (h:∀ (a b:ByteArray) (w:World),Calls P f #[.string a,.string b] w fun e w'=>e = .returned (.int .i64 (Lib.compareBytes a.data.toList b.data.toList))∧w'=w) (a b:List UInt8) :
  aq P G f [.str a,.str b] (.int .i64 (Lib.compareBytes a b)):=by
 refine bC hc fun w imm vals hGl hsz hargs=>?_
 have hv:=rX hsz
 obtain⟨ha,_⟩:=gx (hargs 0 (.str a) rfl)
 obtain⟨hb,_⟩:=gx (hargs 1 (.str b) rfl)
 rw[hv,ha,hb]
 refine (h _ _ w).mono ?_
 rintro e w' ⟨rfl,rfl⟩
 refine⟨_,rfl,Below.refl _ _,?_⟩
 simpa using PRel.int (w:=w') (imm:=imm) .i64 (Lib.compareBytes a b)
end Go.Ab
namespace Go.Ab
open Go
def decP (l:List UInt8):Nat×Nat:=
 if l=[] then (0,0) else if Lib.decodeL l=(65533,1) then (0,0) else Lib.decodeL l
theorem take_2 {l:List UInt8}{a b:UInt8}(h0:l[0]? = some a)(h1:l[1]? = some b):l.take 2=[a,b]:=by
 rw[aQ h1,aQ h0];rfl
theorem take_3 {l:List UInt8}{a b c:UInt8}(h0:l[0]? = some a)(h1:l[1]? = some b)(h2:l[2]? = some c):l.take 3=[a,b,c]:=by
 rw[aQ h2,take_2 h0 h1];rfl
end Go.Ab
namespace Go.Ab
open Go
section
variable {P:Program}{G:Nat→List PV}
end
theorem AE {e sz by_ new:Nat}{σ:aw}{y:PV}{r:List PV}(h1:r.length+1≤9223372036854775807)(h2:(r.length+1)*by_≤140737488355328):fQ true e sz by_ new σ (.pv .nils) (some (y::r))=some (.row new sz 0 (r.length+1),[(new,.cells e false (dm (y::r)))]):=by
 simp only[fQ];rw[if_pos (fh (by omega) (by simpa using h2))]
section
variable (e:List (Nat×AV))(σ:List (Nat×Blk))(new:Nat)
theorem F8 (G:Nat→List PV)(o:XOp):kh G e σ new (.xop o)=nM e σ new o:=_root_.id rfl
theorem zE (o:XOp):gX e (.xop o)=nN e o:=_root_.id rfl
end
attribute [push_cast] AE F8 zE
end Go.Ab
namespace Go.Ab
open Go
section
variable {e:List (Nat×AV)}{σ:List (Nat×Blk)}{new:Nat}
theorem aF (l:List UInt8):(ap l).length=l.length:=by simp[ap]
theorem jf (l:List UInt8):dm (ap l)=(ap l).map .pv:=by
 unfold dm
 congr 1
 induction l with
 | nil=>rfl
 | cons b r ih=>simp only[ap,List.map_cons,List.flatMap_cons,PV.cells] at ih ⊢;rw[ih];rfl
theorem e9 (l k:List UInt8):ap (l++k)=ap l++ap k:=by simp[ap]
theorem pp (x:AX):nM e σ new (.noesc x)=some (evE e x,[]):=_root_.id rfl
theorem pm (u n:Nat)(b:Bool)(x:AX):nM e σ new (.ucast u n b x)=ju [] (dy u n b (fun r=>lookB r σ) (evE e x)):=by
 simp only[nM,ju];cases dy u n b (fun r=>lookB r σ) (evE e x)<;>rfl
def nP (u n:Nat)(back:Bool)(r o:Nat):Blk→Option AV
 | .cells T f l=>match back with
   | false=>if o<l.length then some (.ptr r o) else none
   | true=>if T=u∧o=0∧f=true∧l.length=n then some (.ptr r o) else none
 | _=>none
theorem pU (u n:Nat)(b:Bool)(τ:aw)(r o:Nat):dy u n b τ (.ptr r o)=nP u n b r o (τ r):=by
 simp only[dy,nP];cases τ r<;>rfl
theorem w9 {u n r o T:Nat}{f:Bool}{l:List AV}(h:Chk (decide (o<l.length))):nP u n false r o (.cells T f l)=some (.ptr r o):=if_pos (of_decide_eq_true h)
theorem w8 {u n r:Nat}{l:List AV}(h:Chk (decide (l.length=n))):nP u n true r 0 (.cells u true l)=some (.ptr r 0):=if_pos ⟨rfl,rfl,rfl,of_decide_eq_true h⟩
theorem wT (ng:Bool)(x y:AX):nM e σ new (.peq ng x y)=ju [] (CV ng (evE e x) (evE e y)):=by
 simp only[nM,ju];cases CV ng (evE e x) (evE e y)<;>rfl
theorem yg (ng:Bool)(r o:Nat):CV ng (.ptr r o) (.ptr r o)=some (.pv (.bool (!ng))):=if_pos ⟨rfl,rfl⟩
theorem rN (t by_:Nat)(x y:AX):nM e σ new (.apps t by_ x y)=iH t by_ new (fun r=>lookB r σ) (evE e x) (evE e y):=_root_.id rfl
theorem p8 (t by_:Nat)(τ:aw):iH t by_ new τ (.pv .nils) (.pv (.str []))=some (.pv .nils,[]):=_root_.id rfl
theorem p7 {t:Nat}{τ:aw}{c:UInt8}{k:List UInt8}(h:k.length+1≤140737488355328):iH t 1 new τ (.pv .nils) (.pv (.str (c::k)))=some (.row new 1 0 (k.length+1),[(new,.cells t false ((ap (c::k)).map .pv))]):=by
 have h1:ap (c::k) = .int .u8 (c.toNat:Int)::ap k:=_root_.id rfl
 have h2:=fh (n:=0) (m:=(ap k).length+1) (by_:=1) (by rw[aF];omega) (by rw[aF];omega)
 simp only[iH,BJ,h1]
 rw[if_pos h2,← h1,jf,aF]
def AD (t by_ new q s off len:Nat)(k:List UInt8):Blk→Option (AV×List (Nat×Blk))
 | .cells e' _ l=>if e'=t∧s=1∧off=0∧len*1≤l.length∧jF len (ap k).length by_=true then some (.row new 1 0 (len+(ap k).length),[(q,.none),(new,.cells t false (l.take (len*1)++dm (ap k)))]) else none
 | _=>none
theorem tN (t by_:Nat)(τ:aw)(q s off len:Nat)(k:List UInt8):iH t by_ new τ (.row q s off len) (.pv (.str k))=AD t by_ new q s off len k (τ q):=by
 simp only[iH,BJ,AD]
 cases τ q<;>rfl
theorem AC {t q len:Nat}{f:Bool}{l k:List UInt8}(hl:len=l.length)(h:l.length+k.length≤140737488355328) :
  AD t 1 new q 1 0 len k (.cells t f ((ap l).map .pv))=some (.row new 1 0 (l.length+k.length),[(q,.none),(new,.cells t false ((ap (l++k)).map .pv))]):=by
 subst hl
 have h2:=fh (n:=l.length) (m:=(ap k).length) (by_:=1) (by rw[aF];omega) (by rw[aF];omega)
 simp only[AD]
 rw[if_pos ⟨trivial,trivial,trivial,by simp[aF],h2⟩,aF,jf,e9,List.map_append,List.take_of_length_le (by simp[aF])]
theorem vt (k:IntKind)(n:Int):dm [PV.int k n]=[.pv (.int k n)]:=_root_.id rfl
theorem rA {t new q len:Nat}{f:Bool}{l:List UInt8}{c:UInt8}(hl:len=l.length)(h:l.length+1≤140737488355328) :
  wu t 1 1 new q 1 0 len [.int .u8 (c.toNat:Int)] (.cells t f ((ap l).map .pv))=some (.row new 1 0 (l.length+1),[(q,.none),(new,.cells t false ((ap (l++[c])).map .pv))]):=by
 subst hl
 rw[pi (by simp[aF]) (by simp;omega) (by simpa using h),List.take_of_length_le (by simp[aF]),e9,List.map_append]
 rfl
theorem pn (x:AX):nM e σ new (.sdata x)=ju [] (eO (evE e x)):=by
 simp only[nM,ju];cases eO (evE e x)<;>rfl
theorem pX:eO (.pv .nils)=some (.pv .nilp):=_root_.id rfl
theorem pW (r s off n:Nat):eO (.row r s off (n+1))=some (.ptr r off):=by rw[eO];exact if_pos (Nat.succ_pos n)
theorem rM (t:Nat)(x k:AX):nM e σ new (.ustr t x k)=kO t (fun r=>lookB r σ) (evE e x) (evE e k):=_root_.id rfl
theorem tr (t:Nat)(τ:aw):kO t τ (.pv .nilp) (.pv (.int .i64 0))=some (.pv (.str []),[]):=_root_.id rfl
theorem tq (t:Nat)(τ:aw)(r o:Nat)(k:Int):kO t τ (.ptr r o) (.pv (.int .i64 k))=r4 t r o k (τ r):=_root_.id rfl
theorem ko:∀ l:List UInt8,u8x (ap l)=some l
 | []=>rfl
 | b::r=>by
   have ih:=ko r
   have h:ap (b::r) = .int .u8 (b.toNat:Int)::ap r:=_root_.id rfl
   have hb:=b.toNat_lt
   rw[h,u8x,if_pos ⟨by omega,by omega⟩,ih]
   simp
theorem wZ {t r:Nat}{k:Int}{f:Bool}{l:List UInt8}(hk:k=(l.length:Int))(h0:0<l.length)(h1:l.length≤140737488355328):r4 t r 0 k (.cells t f ((ap l).map .pv))=some (.pv (.str l),[(r,.bts t l)]):=by
 subst hk
 simp only[r4,Int.toNat_natCast]
 rw[if_pos ⟨trivial,trivial,by omega,by simp[aF],by omega⟩,List.take_of_length_le (by simp[aF]),Bg,Option.bind_some,ko]
 rfl
theorem qD (t:Nat)(l:List UInt8):(Blk.bts t l).names=[]:=_root_.id rfl
theorem x8 (f:Nat→Option Nat)(t:Nat)(l:List UInt8):(Blk.bts t l).ren f = .bts t l:=_root_.id rfl
theorem km (x:AX):nN e (.sdata x)=[]:=_root_.id rfl
theorem lr (x:AX):dk (.xop (.sdata x))=0:=_root_.id rfl
end
section
variable {P:Program}{G:Nat→List PV}
def pj {ι κ:Type}(S:ι→St)(Inv:ι→Prop)(μ:ι→Nat)(x:ι)(m0:Nat)(keep:List Nat)(id:Nat)(keepX:List Nat)(SX:κ→St)(fin:κ→Prop)(Q:AExit→St→Prop):AExit→St→Prop
 | .norm,s'=>∃ x',Hd [] m0 keep s' (S x')∧Inv x'∧μ x'<μ x
 | .exit i,s'=>if i=id then ∃ y,Hd [] m0 keepX s' (SX y)∧fin y else Q (.exit i) s'
 | .ret,s'=>Q .ret s'
theorem nG {ι κ:Type}(S:ι→St)(Inv:ι→Prop)(μ:ι→Nat)(x:ι)(m0:Nat)(keep:List Nat)(id:Nat)(keepX:List Nat)(SX:κ→St)(fin:κ→Prop)(Q:AExit→St→Prop)(s:St):pj S Inv μ x m0 keep id keepX SX fin Q .norm s = ∃ x',Hd [] m0 keep s (S x')∧Inv x'∧μ x'<μ x:=_root_.id rfl
theorem nH {ι κ:Type}(S:ι→St)(Inv:ι→Prop)(μ:ι→Nat)(x:ι)(m0:Nat)(keep:List Nat)(id:Nat)(keepX:List Nat)(SX:κ→St)(fin:κ→Prop)(Q:AExit→St→Prop)(i:Nat)(s:St):pj S Inv μ x m0 keep id keepX SX fin Q (.exit i) s=if i=id then (∃ y,Hd [] m0 keepX s (SX y)∧fin y) else Q (.exit i) s:=_root_.id rfl
theorem wW {ι κ:Type}(S:ι→St)(Inv:ι→Prop)(μ:ι→Nat)(x0:ι)(keepX:List Nat)(SX:κ→St)(fin:κ→Prop){m0 id:Nat}{keep:List Nat}{b:ACode}{F:St→Prop}{Q:AExit→St→Prop}{s:St}
  (h1:Hd [] m0 keep s (S x0)) (h2:Inv x0) (h3:∀ x,Inv x→vc P G m0 b (pj S Inv μ x m0 keep id keepX SX fin Q) (S x)) (h4:∀ y,fin y→F (SX y)):vc P G m0 (.loop keep b) (eh id (BK F Q)) s:=by
 refine⟨fun n s'=>∃ x,s'=S x∧Inv x∧μ x=n,⟨μ x0,_,h1,x0,rfl,h2,rfl⟩,?_⟩
 rintro n s' ⟨x,rfl,hx,rfl⟩
 refine bQ b (fun e s' hs=>?_) _ (h3 x hx)
 cases e with
 | norm=>
   obtain⟨x',k1,k2,k3⟩:=hs
   exact⟨_,_,k3,k1,x',rfl,k2,rfl⟩
 | exit i=>
   simp only[pj] at hs
   split at hs
   ·rename_i hi
    obtain⟨y,k1,k2⟩:=hs
    refine⟨_,k1,?_⟩
    simp only[eh,if_pos hi,BK]
    exact h4 y k2
   ·rename_i hi
    refine⟨s',Wk.of (Wx.refl s') m0,?_⟩
    simp only[eh,if_neg hi,BK]
    exact hs
 | ret=>exact hs
end
attribute [push_cast] nG nH vt pp pm pU w9 w8 wT yg
 qD x8
 rN p8 p7 tN pn pX pW rM tr tq km
 lr
end Go.Ab
namespace Go.Ab
open Go Go.RowKit
def bf (P:Program)(t:TypeId):Bool:=
 match P.underlying t with
 | some (.struct _) | some (.array _ _)=>true
 | _=>false
def cx (g:Bool)(cs:List PV):PV:=
 match g with
 | true=>.agg cs
 | false=>cs.headD .undef
def nj (P:Program)(f:Field)(cs:List PV):PV:=cx (bf P f.type) ((cs.drop f.offset).take (P.cellsOf f.type))
inductive HasT (P:Program):TypeId→PV→Prop
 | bool (t:TypeId) (b:Bool):P.underlying t=some .bool→HasT P t (.bool b)
 | int (t:TypeId) (k:IntKind) (n:Int):P.underlying t=some (.int k)→(Lit.int k n).wf=true→HasT P t (.int k n)
 | str (t:TypeId) (s:List UInt8):P.underlying t=some .string→s.length≤140737488351232→HasT P t (.str s)
 | list (t e:TypeId) (l:List PV):P.underlying t=some (.slice e)→l.length≤maxLen→l.length*P.bytesOf e≤140737488351232→(∀ (i:Nat) (x:PV),l[i]? = some x→HasT P e x)→HasT P t (.list l)
 | arr (t e:TypeId) (n:Nat) (cs:List PV):P.underlying t=some (.array n e)→cs.length=P.cellsOf t→(∀ i,i<n→HasT P e (cx (bf P e) ((cs.drop (i*P.cellsOf e)).take (P.cellsOf e))))→HasT P t (.agg cs)
 | agg (t:TypeId) (fs:Array Field) (cs:List PV):P.underlying t=some (.struct fs)→cs.length=P.cellsOf t→(∀ (i:Nat) (f:Field),fs.toList[i]? = some f→HasT P f.type (nj P f cs))→HasT P t (.agg cs)
def rK (w:World)(imm:Nat→Nat→Prop)(p:PV)(cs:List Value):Prop:=
 p.cells.length=cs.length∧∀ (i:Nat) (x:PV),p.cells[i]? = some x→PRel w imm x (cs.getD i Go.undef)∧(cs.getD i Go.undef).oneCell'=true
def rG (P:Program):List Field→Nat→Option Nat
 | [],o=>some o
 | f::r,o=>if f.offset=o then rG P r (o+P.cellsOf f.type) else none
def Bi (P:Program)(ts:List TypeId)(t:TypeId):Bool:=
 match P.underlying t with
 | some .bool | some (.int _) | some .string=>true
 | some (.slice e)=>ts.contains e&&decide (0<P.cellsOf e)
 | some (.struct fs)=>(match rG P fs.toList 0 with
   | some n=>decide (n=P.cellsOf t)
   | none=>false)&&fs.toList.all fun f=>ts.contains f.type
 | some (.array n e)=>ts.contains e&&decide (n*P.cellsOf e=P.cellsOf t)
 | _=>false
def H5 (P:Program)(ts:List TypeId):Bool:=ts.all fun t=>Bi P ts t
theorem HasT.cell {P:Program}{t:TypeId}{p:PV}(h:HasT P t p):cx (bf P t) p.cells=p:=by
 cases h with
 | bool _ h=>simp[bf,‹P.underlying t=_›,cx,PV.cells]
 | int _ _ h _=>simp[bf,‹P.underlying t=_›,cx,PV.cells]
 | str _ h _=>simp[bf,‹P.underlying t=_›,cx,PV.cells]
 | list _ _ h _ _ _=>simp[bf,‹P.underlying t=_›,cx,PV.cells]
 | arr _ _ _ h _ _=>simp[bf,‹P.underlying t=_›,cx,PV.cells]
 | agg _ _ h _ _=>simp[bf,‹P.underlying t=_›,cx,PV.cells]
theorem uT {P:Program}:∀ (fs:List Field) (o n:Nat),rG P fs o=some n→o≤n∧∀ f∈fs,o≤f.offset
 | [],o,n,h=>by simp only[rG,Option.some.injEq] at h;subst h;simp
 | f::r,o,n,h=>by
   simp only[rG] at h
   split at h
   ·rename_i ho
    obtain⟨h1,h2⟩:=uT r _ n h
    refine⟨by omega,fun g hg=>?_⟩
    rcases List.mem_cons.1 hg with rfl | hg
    ·omega
    ·have:=h2 g hg;omega
   ·cases h
section
variable {H:Type}{enc:TypeId×Value→H}{P:Program}{w:World}{spare:Nat→Bool}{held:Bool}{ts:List TypeId}{imm:Nat→Nat→Prop}
theorem eL {p:PV}{v:Value}(hc:p.cells=[p])(h:PRel w imm p v)(h1:v.oneCell'=true):rK w imm p [v]:=by
 refine⟨by rw[hc];rfl,fun i x hx=>?_⟩
 rw[hc] at hx
 cases i with
 | zero=>simp only[List.getElem?_cons_zero,Option.some.injEq] at hx;subst hx;exact⟨h,h1⟩
 | succ i=>simp at hx
theorem fw {F:Field→Option (DataW H×List MemPlace)}{cs:List Value}{n:Nat}(hcs:cs.length=n)
  (hF:∀ f x,F f=some x→(x.1.weights P f.type).all (·≤reachBytes)=true→f.type∈ts→∃ p,HasT P f.type p∧rK w imm p ((cs.drop f.offset).take (P.cellsOf f.type))):∀ (fs:List Field) (o:Nat) (xs:List (DataW H×List MemPlace)),rG P fs o=some n→(∀ f∈fs,f.type∈ts)→fs.mapM F=some xs→(DataW.weightsEach P (fs.map (·.type)) (xs.map (·.1))).all (·≤reachBytes)=true →
  ∃ ps:List PV,ps.length=n - o∧(∀ (i:Nat) (x:PV),ps[i]? = some x→PRel w imm x (cs.getD (o+i) Go.undef)∧(cs.getD (o+i) Go.undef).oneCell'=true) ∧
    ∀ f∈fs,HasT P f.type (cx (bf P f.type) ((ps.drop (f.offset - o)).take (P.cellsOf f.type)))
 | [],o,xs,hl,_,_,_=>by
   simp only[rG,Option.some.injEq] at hl
   subst hl
   exact⟨[],by simp,by simp,by simp⟩
 | f::r,o,xs,hl,ht,hm,hz=>by
   simp only[rG] at hl
   split at hl
   ·rename_i ho
    simp only[List.mapM_cons,Option.bind_eq_bind,Option.bind_eq_some_iff,Option.pure_def,Option.some.injEq] at hm
    obtain⟨x,hx,xs',hxs,rfl⟩:=hm
    simp only[List.map_cons,DataW.weightsEach,List.all_append,Bool.and_eq_true] at hz
    obtain⟨p,hp,hr1,hr2⟩:=hF f x hx hz.1 (ht f (by simp))
    obtain⟨q1,q2⟩:=uT r _ n hl
    obtain⟨ps,h1,h2,h3⟩:=fw hcs hF r _ xs' hl (fun g hg=>ht g (by simp[hg])) hxs hz.2
    have hpl:p.cells.length=P.cellsOf f.type:=by rw[hr1];simp;omega
    refine⟨p.cells++ps,by simp only[List.length_append];omega,fun i x hx=>?_,fun g hg=>?_⟩
    ·by_cases hi:i<p.cells.length
     ·rw[List.getElem?_append_left hi] at hx
      have:=hr2 i x hx
      have e:((cs.drop f.offset).take (P.cellsOf f.type)).getD i Go.undef=cs.getD (o+i) Go.undef:=by
       simp only[List.getD_eq_getElem?_getD,List.getElem?_take,List.getElem?_drop]
       rw[if_pos (by omega),ho]
      rw[e] at this;exact this
     ·rw[List.getElem?_append_right (by omega)] at hx
      have:=h2 _ x hx
      have e:o+P.cellsOf f.type+(i - p.cells.length)=o+i:=by omega
      rw[e] at this;exact this
    ·rcases List.mem_cons.1 hg with rfl | hg'
     ·have e:((p.cells++ps).drop (g.offset - o)).take (P.cellsOf g.type)=p.cells:=by
       rw[ho,Nat.sub_self,List.drop_zero,← hpl,List.take_left]
      rw[e,hp.cell];exact hp
     ·have:=q2 g hg'
      have e:(p.cells++ps).drop (g.offset - o)=ps.drop (g.offset - (o+P.cellsOf f.type)):=by
       rw[List.drop_append,List.drop_eq_nil_of_le (by omega),List.nil_append]
       congr 1;omega
      rw[e];exact h3 g hg'
   ·cases hl
theorem dN {t:TypeId}{p:PV}{v:Value}(hp:HasT P t p)(h:rK w imm p v.cells.toList)(ha:bf P t=true→∃ cs,v = .agg cs)(ha':bf P t=false→v.cells = #[v]):PRel w imm p v:=by
 have hc:=hp.cell
 cases hg:bf P t with
 | false=>
   rw[hg] at hc
   rw[ha' hg] at h
   obtain⟨h1,h2⟩:=h
   have:p.cells=[p]:=by
    have hl:p.cells.length=1:=by rw[h1];simp
    obtain⟨q,hq⟩:=List.length_eq_one_iff.1 hl
    rw[hq] at hc ⊢
    simp only[cx,List.headD_cons] at hc
    rw[hc]
   have:=(h2 0 p (by rw[this];rfl)).1
   simpa using this
 | true=>
   rw[hg] at hc
   obtain⟨cs,rfl⟩:=ha hg
   obtain⟨h1,h2⟩:=h
   simp only[cx] at hc
   rw[← hc]
   refine .agg _ _ (by simpa[Value.cells] using h1.symm) fun i x hx=>?_
   rw[au]
   exact (h2 i x hx).1
theorem ga {α β:Type}{f:α→Option β}:∀ {l:List α} {r:List β},l.mapM f=some r→r.length=l.length
 | [],r,h=>by simp at h;subst h;rfl
 | x::l,r,h=>by
   simp only[List.mapM_cons,Option.bind_eq_bind,Option.bind_eq_some_iff,Option.pure_def,Option.some.injEq] at h
   obtain⟨b,hb,r',hr',rfl⟩:=h
   simp[ga hr']
theorem Ay {w:World}{a:Addr}{n:Nat}{v:Value}(h:w.cell? (a.add n)=some v):w.cell? ⟨a.block,a.off+n,none⟩=some v:=by
 obtain⟨b,off,spot⟩:=a
 unfold Addr.add at h
 by_cases hn:n=0
 ·subst hn
  rw[if_pos rfl] at h
  have:=World.cell?_spot h
  simp only at this
  subst this
  exact h
 ·rw[if_neg hn] at h;exact h
theorem wv (a:Addr)(n:Nat):(a.add n).block=a.block:=by unfold Addr.add;split<;>rfl
theorem En (a:Addr)(n:Nat):(a.add n).off=a.off+n:=by unfold Addr.add;split<;>simp_all
theorem o8 {w:World}{a:Addr}{n:Nat}{cs:List Value}(h:w.cells? 0 a n=some cs):cs.length=n∧∀ (j:Nat) (v:Value),cs[j]? = some v→w.cell? (a.add j)=some v:=by
 unfold World.cells? at h
 rw[if_pos (Nat.zero_le _)] at h
 have hl:=ga h
 simp only[List.length_range] at hl
 refine⟨hl,fun j v hv=>?_⟩
 have hj:j<n:=by rw[← hl];exact (List.getElem?_eq_some_iff.1 hv).1
 obtain⟨b,hb,hf⟩:=Lib.mapM_at h j j (by simp[hj])
 rw[hv] at hb;cases hb
 exact hf
theorem gp {e:TypeId}:∀ {l:List (DataW H)},(DataW.weightsAll P e l).all (·≤reachBytes)=true→∀ d∈l,(d.weights P e).all (·≤reachBytes)=true
 | [],_,d,hd=>by cases hd
 | x::r,h,d,hd=>by
   simp only[DataW.weightsAll,List.all_append,Bool.and_eq_true] at h
   rcases List.mem_cons.1 hd with rfl | hd
   ·exact h.1
   ·exact gp h.2 d hd
theorem sL {t e:TypeId}{a:Addr}{len cap:Nat}{R:List Value→Option (DataW H×List MemPlace)}{d:DataW H}{ps:List MemPlace}(hu:P.underlying t=some (.slice e))(hpos:0<P.cellsOf e)
  (hz:(d.weights P t).all (·≤reachBytes)=true) (ih:∀ cs d ps,R cs=some (d,ps)→(d.weights P e).all (·≤reachBytes)=true→∃ p,HasT P e p∧rK w imm p cs) (himm:∀ b o,b<w.heap.size→imm b o)
  (h:(if 0≤a.block∧len≤cap∧cap≤maxLen then
   (List.mapM (fun i=>(w.cells? 0 (a.add (i*P.cellsOf e)) (P.cellsOf e)).bind R) (List.range len)).bind fun elems=>
    Option.map (fun rest=>(DataW.slice (List.map (fun x=>x.fst) elems) (List.map (fun x=>x.fst) rest),MemPlace.row a ((elems.length+rest.length)*P.cellsOf e)++List.flatMap (fun x=>x.snd) (elems++rest)))
     (if spare a.block=true then List.mapM (fun j=>(w.cells? 0 (a.add ((len+j)*P.cellsOf e)) (P.cellsOf e)).bind R) (List.range (cap - len)) else some [])
   else none)=some (d,ps)):∃ p,HasT P t p∧rK w imm p [.slice (some a) len cap]:=by
 split at h
 ·rename_i hh
  obtain⟨_,hlc,hcm⟩:=hh
  simp only[Option.bind_eq_some_iff] at h
  obtain⟨elems,he,hrest⟩:=h
  simp only[Option.map_eq_some_iff,Prod.mk.injEq] at hrest
  obtain⟨rest,_,rfl,_⟩:=hrest
  simp only[DataW.weights,hu,List.all_cons,List.all_append,Bool.and_eq_true,decide_eq_true_eq,List.length_map] at hz
  obtain⟨hz1,hz2,_⟩:=hz
  have hel:elems.length=len:=by rw[ga he];simp
  have hzl:len*P.bytesOf e≤140737488351232:=by
   have h1:elems.length*P.bytesOf e≤(elems.length+rest.length)*P.bytesOf e:=Nat.mul_le_mul_right _ (by omega)
   have h2:(elems.length+rest.length)*P.bytesOf e≤140737488351232:=hz1
   exact Nat.le_trans (by rw[← hel];exact h1) h2
  have hat:∀ i,i<len→∃ cs,w.cells? 0 (a.add (i*P.cellsOf e)) (P.cellsOf e)=some cs∧∃ p,HasT P e p∧rK w imm p cs:=by
   intro i hi
   obtain⟨b,hb,hf⟩:=Lib.mapM_at he i i (by simp[hi])
   simp only[Option.bind_eq_some_iff] at hf
   obtain⟨cs,h1,h2⟩:=hf
   obtain⟨p,h3,h4⟩:=ih cs b.1 b.2 h2 (gp hz2 b.1 (List.mem_map.2 ⟨b,List.mem_of_getElem? hb,rfl⟩))
   exact⟨cs,h1,p,h3,h4⟩
  have hex:∃ l:List PV,l.length=len∧∀ (i:Nat) (x:PV),l[i]? = some x→HasT P e x∧∃ cs,w.cells? 0 (a.add (i*P.cellsOf e)) (P.cellsOf e)=some cs∧rK w imm x cs:=by
   refine⟨(List.range len).map fun i=>if h:i<len then (hat i h).choose_spec.2.choose else .undef,by simp,fun i x hx=>?_⟩
   simp only[List.getElem?_map,Option.map_eq_some_iff] at hx
   obtain⟨j,hj,rfl⟩:=hx
   obtain⟨hlt,hji⟩:=List.getElem?_eq_some_iff.1 hj
   simp at hlt hji
   subst hji
   rw[dif_pos hlt]
   exact⟨(hat i hlt).choose_spec.2.choose_spec.1,_,(hat i hlt).choose_spec.1,(hat i hlt).choose_spec.2.choose_spec.2⟩
  obtain⟨l,hl,hle⟩:=hex
  refine⟨.list l,.list _ _ _ hu (by omega) (by rw[hl];exact hzl) (fun i x hx=>(hle i x hx).1),eL rfl ?_ rfl⟩
  by_cases h0:len=0
  ·have:l=[]:=List.eq_nil_of_length_eq_zero (by omega)
   subst this
   rw[h0]
   exact .lnil _ _ hcm
  ·have hcell:∀ (i:Nat) (x:PV) (j:Nat) (y:PV),l[i]? = some x→x.cells[j]? = some y→∃ v,w.cell? ((a.add (i*P.cellsOf e)).add j)=some v∧w.cell? ⟨a.block,a.off+i*P.cellsOf e+j,none⟩=some v∧PRel w imm y v∧v.oneCell'=true:=by
    intro i x j y hx hy
    obtain⟨_,cs,h1,h2,h3⟩:=hle i x hx
    obtain⟨k1,k2⟩:=o8 h1
    have hj:j<cs.length:=by rw[← h2];exact (List.getElem?_eq_some_iff.1 hy).1
    have h4:=h3 j y hy
    have h5:=k2 j _ (List.getElem?_eq_getElem hj)
    refine⟨cs[j],h5,?_,?_⟩
    ·have:=Ay h5
     rw[wv,En] at this;exact this
    ·simpa[List.getD_eq_getElem?_getD,hj] using h4
   have hlen:∀ (i:Nat) (x:PV),l[i]? = some x→x.cells.length=P.cellsOf e:=by
    intro i x hx
    obtain⟨_,cs,h1,h2,_⟩:=hle i x hx
    rw[h2,(o8 h1).1]
   obtain⟨b,off,spot⟩:=a
   have hspot:spot=none:=by
    have hx:=List.getElem?_eq_getElem (show 0<l.length by omega)
    have hy:=List.getElem?_eq_getElem (show 0<(l[0]'(by omega)).cells.length by rw[hlen 0 _ hx];exact hpos)
    obtain⟨v,hv,_⟩:=hcell 0 _ 0 _ hx hy
    have:=World.cell?_spot hv
    simpa[Addr.add] using this
   subst hspot
   have:=PRel.list (w:=w) (imm:=imm) l b off cap (P.cellsOf e) (fun i j=>(w.cell? ⟨b,off+i*P.cellsOf e+j,none⟩).getD Go.undef) (by omega) hcm hlen (fun i x j y hx hy=>by
     obtain⟨v,_,hv,_,h1⟩:=hcell i x j y hx hy
     have hv':w.cell? ⟨b,off+i*P.cellsOf e+j,none⟩=some v:=hv
     have hb:=World.block_lt_of_cell? w _ hv'
     exact⟨himm _ _ hb,by rw[hv'];rfl,by rw[hv'];exact h1⟩) (fun i x j y hx hy=>by
     obtain⟨v,_,hv,h1,_⟩:=hcell i x j y hx hy
     have hv':w.cell? ⟨b,off+i*P.cellsOf e+j,none⟩=some v:=hv
     rw[hv'];exact h1)
   rw[hl] at this
   exact this
 ·cases h
theorem pH {t:TypeId}{fs:Array Field}{cs:List Value}{R:TypeId→List Value→Option (DataW H×List MemPlace)}{d:DataW H}{ps:List MemPlace}(hu:P.underlying t=some (.struct fs))
  (hstep:((match rG P fs.toList 0 with
   | some n=>decide (n=P.cellsOf t)
   | none=>false)&&fs.toList.all fun f=>ts.contains f.type)=true)
  (hz:(d.weights P t).all (·≤reachBytes)=true) (ih:∀ t cs d ps,t∈ts→R t cs=some (d,ps)→(d.weights P t).all (·≤reachBytes)=true→∃ p,HasT P t p∧rK w imm p cs)
  (h:(if cs.length=P.cellsOf t then Option.map (fun xs=>(DataW.agg (List.map (fun x=>x.fst) xs),List.flatMap (fun x=>x.snd) xs)) (List.mapM (fun f=>R f.type (List.take (P.cellsOf f.type) (List.drop f.offset cs))) fs.toList) else none)=some (d,ps)) :
  ∃ p,HasT P t p∧rK w imm p cs:=by
 split at h
 ·rename_i hcs
  simp only[Option.map_eq_some_iff,Prod.mk.injEq] at h
  obtain⟨xs,hxs,rfl,_⟩:=h
  simp only[DataW.weights,hu] at hz
  simp only[Bool.and_eq_true] at hstep
  obtain⟨h1,h2⟩:=hstep
  split at h1
  ·rename_i n hn
   simp only[decide_eq_true_eq] at h1
   subst h1
   obtain⟨qs,k1,k2,k3⟩:=fw (w:=w) (imm:=imm) (P:=P) (ts:=ts) (H:=H) hcs (F:=fun f=>R f.type (List.take (P.cellsOf f.type) (List.drop f.offset cs))) (fun f x hx hz hf=>ih f.type _ x.1 x.2 hf hx hz) fs.toList 0 xs hn (fun f hf=>by simpa using (List.all_eq_true.1 h2) f hf) hxs hz
   refine⟨.agg qs,.agg _ fs _ hu (by omega) (fun i f hf=>?_),by simp only[PV.cells];omega,fun i x hx=>?_⟩
   ·have:=k3 f (List.mem_of_getElem? hf)
    rwa [Nat.sub_zero] at this
   ·have:=k2 i x hx
    rwa [Nat.zero_add] at this
  ·cases h1
 ·cases h
def rz (P:Program)(e:TypeId):Nat→Nat→List Field
 | 0,_=>[]
 | n+1,k=>{ (default:Field) with type:=e,offset:=k*P.cellsOf e }::rz P e n (k+1)
theorem pg (P:Program)(e:TypeId):∀ n k,rG P (rz P e n k) (k*P.cellsOf e)=some ((k+n)*P.cellsOf e)
 | 0,k=>by simp[rz,rG]
 | n+1,k=>by
   rw[rz,rG,if_pos rfl]
   have:=pg P e n (k+1)
   simp only
   rw[show k*P.cellsOf e+P.cellsOf e=(k+1)*P.cellsOf e by rw[Nat.succ_mul],this]
   congr 2;omega
theorem pf {P:Program}{e:TypeId}:∀ {n k:Nat} {f:Field},f∈rz P e n k→f.type=e
 | 0,_,_,h=>by cases h
 | n+1,k,f,h=>by
   rcases List.mem_cons.1 h with rfl | h
   ·rfl
   ·exact pf h
theorem ws {P:Program}{e:TypeId}:∀ {n k i:Nat},i<n→∃ f,f∈rz P e n k∧f.type=e∧f.offset=(k+i)*P.cellsOf e
 | 0,_,_,h=>by omega
 | n+1,k,0,_=>⟨_,List.mem_cons_self,rfl,by simp⟩
 | n+1,k,i+1,h=>by
   obtain⟨f,h1,h2,h3⟩:=ws (P:=P) (e:=e) (n:=n) (k:=k+1) (i:=i) (by omega)
   exact⟨f,List.mem_cons_of_mem _ h1,h2,by rw[h3];congr 1;omega⟩
theorem l9 {α:Type}{P:Program}{e:TypeId}{R:TypeId→List Value→Option α}{cs:List Value}:∀ (n k:Nat),(List.range' k n).mapM (fun i=>R e ((cs.drop (i*P.cellsOf e)).take (P.cellsOf e)))=(rz P e n k).mapM (fun f=>R f.type ((cs.drop f.offset).take (P.cellsOf f.type)))
 | 0,k=>by simp[rz]
 | n+1,k=>by
   rw[List.range'_succ,rz,List.mapM_cons,List.mapM_cons,l9 n (k+1)]
theorem fP {P:Program}{e:TypeId}:∀ (n k:Nat) (l:List (DataW H)),l.length=n→DataW.weightsEach P ((rz P e n k).map (·.type)) l=DataW.weightsAll P e l
 | 0,k,l,h=>by
   obtain rfl:=List.eq_nil_of_length_eq_zero h
   simp[rz,DataW.weightsEach,DataW.weightsAll]
 | n+1,k,l,h=>by
   cases l with
   | nil=>simp at h
   | cons d r=>
     simp only[rz,List.map_cons,DataW.weightsEach,DataW.weightsAll]
     rw[fP n (k+1) r (by simpa using h)]
theorem Ek {t e:TypeId}{n:Nat}{cs:List Value}{R:TypeId→List Value→Option (DataW H×List MemPlace)}{d:DataW H}{ps:List MemPlace}(hu:P.underlying t=some (.array n e))
  (hstep:ts.contains e=true∧n*P.cellsOf e=P.cellsOf t)
  (hz:(d.weights P t).all (·≤reachBytes)=true) (ih:∀ t cs d ps,t∈ts→R t cs=some (d,ps)→(d.weights P t).all (·≤reachBytes)=true→∃ p,HasT P t p∧rK w imm p cs)
  (h:(if cs.length=P.cellsOf t then Option.map (fun xs=>(DataW.agg (List.map (fun x=>x.fst) xs),List.flatMap (fun x=>x.snd) xs)) (List.mapM (fun i=>R e (List.take (P.cellsOf e) (List.drop (i*P.cellsOf e) cs))) (List.range n)) else none)=some (d,ps)) :
  ∃ p,HasT P t p∧rK w imm p cs:=by
 split at h
 ·rename_i hcs
  simp only[Option.map_eq_some_iff,Prod.mk.injEq] at h
  obtain⟨xs,hxs,rfl,_⟩:=h
  have hxl:xs.length=n:=by rw[ga hxs];simp
  rw[List.range_eq_range',l9 n 0] at hxs
  simp only[DataW.weights,hu] at hz
  rw[← fP (P:=P) n 0 _ (by simpa using hxl)] at hz
  have hlay:=pg P e n 0
  rw[Nat.zero_mul,Nat.zero_add,hstep.2] at hlay
  obtain⟨qs,k1,k2,k3⟩:=fw (w:=w) (imm:=imm) (P:=P) (ts:=ts) (H:=H) hcs (F:=fun f=>R f.type (List.take (P.cellsOf f.type) (List.drop f.offset cs))) (fun f x hx hz hf=>ih f.type _ x.1 x.2 hf hx hz) (rz P e n 0) 0 xs hlay
   (fun f hf=>by rw[pf hf];simpa using hstep.1) hxs hz
  refine⟨.agg qs,.arr _ e n _ hu (by omega) (fun i hi=>?_),by simp only[PV.cells];omega,fun i x hx=>?_⟩
  ·obtain⟨f,hf,h1,h2⟩:=ws (P:=P) (e:=e) (k:=0) hi
   have:=k3 f hf
   rwa [h1,h2,Nat.sub_zero,Nat.zero_add] at this
  ·have:=k2 i x hx
   rwa [Nat.zero_add] at this
 ·cases h
theorem fY (hts:H5 P ts=true)(himm:∀ b o,b<w.heap.size→imm b o):∀ (fuel:Nat) (t:TypeId) (cs:List Value) (d:DataW H) (ps:List MemPlace),t∈ts→DataW.trod enc P w 0 spare held fuel t cs=some (d,ps)→(d.weights P t).all (·≤reachBytes)=true→∃ p,HasT P t p∧rK w imm p cs
 | 0,t,cs,d,ps,_,h,_=>by simp[DataW.trod] at h
 | fuel+1,t,cs,d,ps,ht,h,hz=>by
   have hstep:=(List.all_eq_true.1 hts) t ht
   unfold Bi at hstep
   rw[DataW.trod.eq_def] at h
   simp only at h
   cases hu:P.underlying t with
   | none=>rw[hu] at hstep;simp at hstep
   | some u=>
     rw[hu] at hstep h
     cases u with
     | bool=>
       split at h
       all_goals first
        | (rename_i b h1;exact⟨.bool b,.bool _ _ hu,eL rfl (.bool _) rfl⟩)
        | (exfalso;simp_all;done)
        | skip
     | int k=>
       split at h
       all_goals first
        | (rename_i k' k2 n heq
           simp only[Option.some.injEq,TypeDesc.int.injEq] at heq
           subst heq
           split at h
           ·rename_i hh
            obtain⟨rfl,hw⟩:=hh
            exact⟨.int _ n,.int _ _ _ hu hw,eL rfl (.int _ _) rfl⟩
           ·cases h)
        | (exfalso;simp_all;done)
        | skip
     | string=>
       split at h
       all_goals first
        | (rename_i s _
           split at h
           ·rename_i hh
            cases h
            simp only[DataW.weights,List.all_cons,List.all_nil,Bool.and_true,decide_eq_true_eq] at hz
            exact⟨.str s.data.toList,.str _ _ hu hz,eL rfl (.str _ hh) rfl⟩
           ·cases h)
        | (exfalso;simp_all;done)
        | skip
     | slice e=>
       split at h
       all_goals first
        | (exact⟨.list [],.list _ _ _ hu (by simp) (by simp) (by simp),eL rfl (.lnil none 0 (by simp)) rfl⟩)
        | (rename_i e' a len cap heq
           simp only[Option.some.injEq,TypeDesc.slice.injEq] at heq
           subst heq
           simp only[Bool.and_eq_true,decide_eq_true_eq] at hstep
           exact sL hu hstep.2 hz (fun cs d ps h hz=>fY hts himm fuel _ cs d ps (by simpa using hstep.1) h hz) himm h)
        | (exfalso;simp_all;done)
        | skip
     | struct fs=>
       split at h
       all_goals first
        | (rename_i fs' heq
           simp only[Option.some.injEq,TypeDesc.struct.injEq] at heq
           subst heq
           exact pH hu hstep hz (fun t cs d ps ht h hz=>fY hts himm fuel t cs d ps ht h hz) h)
        | (exfalso;simp_all;done)
        | skip
     | array n e=>
       simp only[Bool.and_eq_true,decide_eq_true_eq] at hstep
       split at h
       all_goals first
        | (rename_i n' e' heq
           simp only[Option.some.injEq,TypeDesc.array.injEq] at heq
           obtain⟨rfl,rfl⟩:=heq
           exact Ek hu hstep hz (fun t cs d ps ht h hz=>fY hts himm fuel t cs d ps ht h hz) h)
        | (exfalso;simp_all;done)
        | skip
     | _=>simp at hstep
end
end Go.Ab
namespace Go.Ab
open Go Go.RowKit Go.ChangeShapes Go.WideShapes
section
variable {H:Type}{enc:TypeId×Value→H}{P:Program}{W:World}{ts:List TypeId}{base:Nat}
def jR (W:World):Nat→Nat→Prop:=fun b _=>b<W.heap.size
theorem El (hts:H5 P ts=true){t:TypeId}(ht:t∈ts){v:Value}{d:DataW H}{p:List MemPlace}(hok:Value.okWide P W .any base t v)(h:DataW.Trod enc P W 0 (fun _=>true) true t v d p)(hz:(d.weights P t).all (·≤reachBytes)=true) :
  ∃ x,HasT P t x∧PRel W (jR W) x v:=by
 obtain⟨fuel,hf⟩:=h
 obtain⟨x,h1,h2⟩:=fY (w:=W) (imm:=jR W) hts (fun b o h=>h) fuel t _ d p ht hf hz
 refine⟨x,h1,?_⟩
 cases h1 with
 | bool _ b hu=>obtain⟨b',rfl⟩:=okWide_bool hu hok;exact dN (.bool _ _ hu) h2 (by simp[bf,hu]) (fun _=>rfl)
 | int _ k n hu hw=>obtain⟨b',rfl⟩:=okWide_int hu hok;exact dN (.int _ _ _ hu hw) h2 (by simp[bf,hu]) (fun _=>rfl)
 | str _ s hu hs=>obtain⟨b',rfl⟩:=okWide_string hu hok;exact dN (.str _ _ hu hs) h2 (by simp[bf,hu]) (fun _=>rfl)
 | list _ e l hu hl hl2 hle=>obtain⟨a,len,cap,rfl⟩:=okWide_slice hu hok;exact dN (.list _ _ _ hu hl hl2 hle) h2 (by simp[bf,hu]) (fun _=>rfl)
 | arr _ e n cs hu hl hle=>
   have hok':=hok
   simp only[Value.okWide,hu] at hok'
   obtain⟨cs',rfl,_⟩:=hok'
   exact dN (.arr _ _ _ _ hu hl hle) h2 (fun _=>⟨_,rfl⟩) (by simp[bf,hu])
 | agg _ fs cs hu hl hle=>obtain⟨cs',rfl,_⟩:=okWide_struct hu hok;exact dN (.agg _ _ _ hu hl hle) h2 (fun _=>⟨_,rfl⟩) (by simp[bf,hu])
theorem ph (hts:H5 P ts=true):∀ (tys:List TypeId) (vs:List Value) (ds:List (DataW H)) (p:List MemPlace),(∀ t∈tys,t∈ts)→(∀ (j:Nat) (t:TypeId) (v:Value),tys[j]? = some t→vs[j]? = some v→Value.okWide P W .any base t v) →
  DataW.TrodAll enc P W 0 (fun _=>true) true tys vs ds p→(DataW.weightsEach P tys ds).all (·≤reachBytes)=true→vs.length=tys.length∧ds.length=tys.length∧∃ xs:List PV,xs.length=tys.length∧(∀ (i:Nat) (x:PV),xs[i]? = some x→PRel W (jR W) x (vs.getD i Go.undef))∧(∀ (i:Nat) (t:TypeId) (x:PV),tys[i]? = some t→xs[i]? = some x→HasT P t x)
 | [],vs,ds,p,_,_,h,_=>by
   cases vs<;>cases ds<;>simp[DataW.TrodAll] at h
   exact⟨rfl,rfl,[],rfl,by simp,by simp⟩
 | t::tys,vs,ds,p,ht,hok,h,hz=>by
   obtain⟨v,vs',d,ds',p',q',rfl,rfl,rfl,h1,h2⟩:=trodAll_cons h
   simp only[DataW.weightsEach,List.all_append,Bool.and_eq_true] at hz
   obtain⟨x,k1,k2⟩:=El (base:=base) hts (ht t (by simp)) (hok 0 t v rfl rfl) h1 hz.1
   obtain⟨l1,l2,xs,l3,l4,l5⟩:=ph hts tys vs' ds' q' (fun t h=>ht t (by simp[h])) (fun j t v h1 h2=>hok (j+1) t v (by simpa using h1) (by simpa using h2)) h2 hz.2
   refine⟨by simp[l1],by simp[l2],x::xs,by simp[l3],fun i y hy=>?_,fun i t' y ht' hy=>?_⟩
   ·cases i with
    | zero=>simp only[List.getElem?_cons_zero,Option.some.injEq] at hy;subst hy;simpa using k2
    | succ i=>simpa using l4 i y (by simpa using hy)
   ·cases i with
    | zero=>
      simp only[List.getElem?_cons_zero,Option.some.injEq] at hy ht'
      subst hy;subst ht';exact k1
    | succ i=>exact l5 i t' y (by simpa using ht') (by simpa using hy)
theorem iP:∀ (tys:List TypeId) (vs:List Value) (ds:List (DataW H)) (p:List MemPlace),DataW.TrodAll enc P W 0 (fun _=>true) true tys vs ds p→∀ x∈p,x.block<W.heap.size
 | [],vs,ds,p,h=>by
   cases vs<;>cases ds<;>simp[DataW.TrodAll] at h
   subst h;simp
 | t::tys,vs,ds,p,h=>by
   obtain⟨v,vs',d,ds',p',q',rfl,rfl,rfl,⟨m,hm⟩,h2⟩:=trodAll_cons h
   intro x hx
   rcases List.mem_append.1 hx with hx | hx
   ·exact DataW.trod_lt m _ _ _ hm x hx
   ·exact iP tys vs' ds' q' h2 x hx
theorem ma (hlaid:laidOutB P=true){W':World}(hb:Below W.heap.size W W'):∀ (tys:List TypeId) (vs:List Value) (ds:List (DataW H)) (p:List MemPlace),(∀ t∈tys,P.readableRec t=true∧t<P.types.size) →
  DataW.TrodAll enc P W 0 (fun _=>true) true tys vs ds p→DataW.TrodAll enc P W' 0 (fun b=>decide (b<W.heap.size)) true tys vs ds p
 | [],vs,ds,p,_,h=>by
   cases vs<;>cases ds<;>simp[DataW.TrodAll] at h
   subst h
   exact trodAll_mk0
 | t::tys,vs,ds,p,ht,h=>by
   have hlt:=iP _ _ _ _ h
   obtain⟨v,vs',d,ds',p',q',rfl,rfl,rfl,h1,h2⟩:=trodAll_cons h
   exact trodAll_cons_mk (Below.trod hlaid (ht t (by simp)).1 (ht t (by simp)).2 h1 hb (fun x hx=>hlt x (List.mem_append.2 (.inl hx)))) (ma hlaid hb tys vs' ds' q' (fun t h=>ht t (by simp[h])) h2)
theorem di:∀ (ts us:List TypeId) (ds gs:List (DataW H)),(DataW.weightsEach P (ts++us) (ds++gs)).all (·≤reachBytes)=true→(DataW.weightsEach P ts ds).all (·≤reachBytes)=true
 | [],_,_,_,_=>by simp[DataW.weightsEach]
 | _::_,_,[],_,_=>by simp[DataW.weightsEach]
 | t::ts,us,d::ds,gs,h=>by
   simp only[List.cons_append,DataW.weightsEach,List.all_append,Bool.and_eq_true] at h ⊢
   exact⟨h.1,di ts us ds gs h.2⟩
theorem zP {f:FuncId}{fn:Func}{s:ChangeSpec}{args:Array Value}{ds gs:List (DataW H)}{before:List MemPlace}{G:Nat→List PV}{tb:TypeId}
  (hs:s.vars=[]) (hlaid:laidOutB P=true) (hread:∀ t∈fn.params.toList,P.readableRec t=true∧t<P.types.size) (hts:H5 P ts=true) (htys:∀ t∈fn.params.toList,t∈ts)
  (hres:fn.resultTypes = #[tb]) (htb:P.underlying tb=some .bool)
  (hfn:∀ ds:List (DataW H),ds.length=fn.params.toList.length→s.fn H ds = { results:=[.lit (.bool true)],args:=ds })
  (hval:∀ (j:Nat) (t:TypeId) (v:Value),fn.params[j]? = some t→args[j]? = some v→Value.okWide P W .any base t v) (hW:DataW.Whole enc P fn.params.toList s.vars false W args.toList ds gs before)
  (hsz:(DataW.weightsEach P (fn.params.toList++s.plain.varTypes P) (ds++gs)).all (·≤reachBytes)=true)
  (hG:bH G W (jR W))
  (hlaw:∀ ps:List PV,ps.length=fn.params.toList.length→(∀ (i:Nat) (t:TypeId) (x:PV),fn.params.toList[i]? = some t→ps[i]? = some x→HasT P t x)→aq P G f ps (.bool true)) :
  Calls P f args W fun e W'=>∃ v,e = .returned v∧s.post enc P fn false true false false W args v W':=by
 have hW':=hW
 obtain⟨p,q,hA,hV,rfl,hfz,hnd⟩:=hW
 rw[hs] at hV
 obtain⟨rfl,rfl⟩:=trodVars_none hV
 obtain⟨l1,l2,xs,l3,l4,l5⟩:=ph (base:=base) hts fn.params.toList args.toList ds p htys (fun j t v h1 h2=>hval j t v (by simpa using h1) (by simpa using h2)) hA (di _ _ _ _ hsz)
 obtain⟨_,hP⟩:=hlaw xs l3 l5
 refine (hP W (jR W) args hG (fun b o h=>h) (by rw[l3,← l1];simp) (fun i x hx=>by rw[au];exact l4 i x hx)).mono ?_
 rintro e W' ⟨u,imm',rfl,hb,_,_,_,hu⟩
 cases hu
 refine⟨_,rfl,ds,[],_,[],p,[],hW',?_,?_,?_,hb.frame _,fun h=>by cases h⟩
 ·rw[hres,List.append_nil,hfn ds l2]
  exact trodAll_mk1 (shut_bool htb _)
 ·rw[List.append_nil,hfn ds l2]
  exact ma hlaid hb _ _ _ _ hread hA
 ·rw[hs,List.append_nil,hfn ds l2]
  rfl
end
end Go.Ab
namespace Go.Ab
open Go
section
variable {e:List (Nat×AV)}{σ:List (Nat×Blk)}{new:Nat}
def G6 (l:List (List UInt8))(s:List UInt8):List (List UInt8):=if s∈l then l else l++[s]
end
end Go.Ab
namespace Go.Ab
open Go Go.RowKit Go.Proofs Go.Lib
section
variable {P:Program}{W:World}
theorem xb {H:Type}{enc:TypeId×Value→H}{w:World}{base:Nat}{sp:Nat→Bool}{held:Bool}{fuel n:Nat}{t e:TypeId}{cs:List Value}{x:DataW H×List MemPlace}(ht:P.underlying t=some (.array n e))
  (h:DataW.trod enc P w base sp held fuel t cs=some x):cs.length=P.cellsOf t:=by
 cases fuel with
 | zero=>simp[DataW.trod] at h
 | succ fuel=>
   simp only[DataW.trod,ht] at h
   split at h
   ·assumption
   ·cases h
structure TabAt (w:World)(g:Nat)(ps:List PV):Prop where
 obj:∃ cs T fz,w.heap[g]? = some (.cells cs T fz)∧cs.size=ps.length
 cell:∀ (o:Nat) (p:PV),ps[o]? = some p→∃ k z,p = .int k z∧w.cell? ⟨g,o,none⟩=some (.int k z)
theorem vo {G:Nat→List PV}(h:∀ g,G g≠[]→TabAt W g (G g)):bH G W (jR W):=by
 refine⟨fun g o p hp=>?_,fun g hg=>(h g hg).obj⟩
 have hne:G g≠[]:=by intro e;rw[e] at hp;simp at hp
 obtain⟨k,z,rfl,hc⟩:=(h g hne).cell o p hp
 exact⟨World.block_lt_of_cell? W _ hc,_,hc,rfl,.int _ _⟩
theorem jz {n:String}{g:Nat}{t e:TypeId}{m:Nat}{d:DataW Unit}{ps:List PV}(hv:VarReads P W n d)(hg:P.globalNamed n=some g)(hty:(P.globals[g]?).map (·.type)=some t)(ht:P.underlying t=some (.array m e))(hl:P.cellsOf t=ps.length)
  (h:∀ (o:Nat) (p:PV),ps[o]? = some p→∃ k z,p = .int k z∧W.cell? ⟨g,o,none⟩=some (.int k z)):TabAt W g ps:=by
 refine⟨?_,h⟩
 obtain⟨g',t',cs,fuel,p,hg',hty',hvar,hd⟩:=hv
 obtain rfl:=Option.some.inj (hg.symm.trans hg')
 obtain rfl:=Option.some.inj (hty.symm.trans hty')
 have hlen:=xb ht hd
 unfold World.var? at hvar
 rw[hg] at hvar
 simp only[Option.bind_some] at hvar
 split at hvar
 ·rename_i cs' T fz hh
  cases hvar
  exact⟨cs,T,fz,hh,by rw[← hl,← hlen];simp⟩
 ·cases hvar
theorem iQ {n:String}{g:Nat}{t e:TypeId}{m:Nat}{k:IntKind}{zs:List Int}(hv:VarReads P W n (Lib.tabData k zs))(hg:P.globalNamed n=some g)(hty:(P.globals[g]?).map (·.type)=some t)(ht:P.underlying t=some (.array m e))
  (he:P.underlying e=some (.int k)) (hce:P.cellsOf e=1) (hct:P.cellsOf t=m) (hm:m=zs.length):TabAt W g (zs.map (PV.int k)):=by
 have hv':=hv
 refine jz hv hg hty ht (by rw[hct,hm];simp) fun o p hp=>?_
 simp only[List.getElem?_map,Option.map_eq_some_iff] at hp
 obtain⟨z,hz,rfl⟩:=hp
 refine⟨k,z,rfl,?_⟩
 obtain⟨g',t',cs,fuel,q,hg',hty',hvar,hd⟩:=hv'
 obtain rfl:=Option.some.inj (hg.symm.trans hg')
 obtain rfl:=Option.some.inj (hty.symm.trans hty')
 have hcs:=Lib.cells_of_tab ht he hce hct hd
 rw[World.var?_cell hg hvar o,← Array.getElem?_toList,hcs]
 simp[hz]
end
end Go.Ab

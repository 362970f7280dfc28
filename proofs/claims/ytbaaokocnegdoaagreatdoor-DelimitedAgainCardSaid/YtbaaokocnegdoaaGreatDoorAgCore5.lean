/- A program logic over the model: part 5 (a proof is built on it; nothing of the statement is said here). -/
import Derived.Lib.Join
import Derived.Lib.ItoaNum
import Derived.Lib.LaidTab
import Derived.Lib.AppendIntMem
import Derived.Lib.Strings
import Derived.Lib.Bytealg
import Derived.Lib.ValidLaws
import Derived.Test.YtbaaokocnegdoaaGreatDoorAgCore4
set_option linter.unusedVariables false
set_option linter.unusedSimpArgs false
namespace Go.Ab
open Go Go.RowKit
theorem GV (k k':IntKind)(x y:Int):L1 (.pv (.int k x)) (.pv (.int k' y))=some (.pv (.int k (min x y))):=by
 simp only[L1,Option.some.injEq,AV.pv.injEq,PV.int.injEq,true_and]
 split<;>omega
theorem GW (k k':IntKind)(x y:Int):L2 (.pv (.int k x)) (.pv (.int k' y))=some (.pv (.int k (max x y))):=by
 simp only[L2,Option.some.injEq,AV.pv.injEq,PV.int.injEq,true_and]
 split<;>omega
theorem wE (a:Nat)(b:Int):(min (a:Int) b).toNat=min a b.toNat:=by omega
theorem rK (a:Nat)(b:Int):(min b (a:Int)).toNat=min b.toNat a:=by omega
theorem oU {α:Type}(l:List α)(n:Nat):l.take (min l.length n)=l.take n:=by
 rcases Nat.le_total l.length n with h | h
 ·rw[Nat.min_eq_left h,List.take_length,List.take_of_length_le h]
 ·rw[Nat.min_eq_right h]
theorem Bg {α:Type}(l:List α)(n:Nat):l.take (min n l.length)=l.take n:=by rw[Nat.min_comm,oU]
theorem map_take {α β:Type}(f:α->β)(l:List α)(n:Nat):(l.map f).take n=(l.take n).map f:=List.map_take.symm
theorem map_drop {α β:Type}(f:α->β)(l:List α)(n:Nat):(l.map f).drop n=(l.drop n).map f:=List.map_drop.symm
theorem CS {α β:Type}(f:α->β):(none:Option α).map f=none:=_root_.id rfl
def fi (mu:Bool)(e sz by_ new:Nat)(σ:am)(x:AV):Option (List PV)->Option (AV×List (Nat×Blk))
 | some ys=>match mu,x with
   | false,.pv .nils=>match ys with
     | []=>some (.pv .nils,[])
     | y::r=>if oG 0 (r.length+1) by_=true then some (.olist new sz (y::r),[(new,.tok e sz)]) else none
   | false,.olist q s l=>match σ q with
     | .tok e' sz'=>if e'=e/\sz'=sz/\s=sz/\oG l.length ys.length by_=true then some (.olist new sz (l++ys),[(q,.none),(new,.tok e sz)]) else none
     | _=>none
   | true,.pv .nils=>match ys with
     | []=>some (.pv .nils,[])
     | y::r=>if oG 0 (r.length+1) by_=true then some (.row new sz 0 (r.length+1),[(new,.cells e false (bp (y::r)))]) else none
   | true,.row q s off len=>match σ q with
     | .cells e' _ l=>if e'=e/\s=sz/\off=0/\len*sz<=l.length/\oG len ys.length by_=true then some (.row new sz 0 (len+ys.length),[(q,.none),(new,.cells e false (l.take (len*sz)++bp ys))]) else none
     | _=>none
   | _,_=>none
 | none=>none
def Jl (e sz by_ new q s:Nat)(l ys:List PV):Blk->Option (AV×List (Nat×Blk))
 | .tok e' sz'=>if e'=e/\sz'=sz/\s=sz/\oG l.length ys.length by_=true then some (.olist new sz (l++ys),[(q,.none),(new,.tok e sz)]) else none
 | _=>none
def re (e sz by_ new q s off len:Nat)(ys:List PV):Blk->Option (AV×List (Nat×Blk))
 | .cells e' _ l=>if e'=e/\s=sz/\off=0/\len*sz<=l.length/\oG len ys.length by_=true then some (.row new sz 0 (len+ys.length),[(q,.none),(new,.cells e false (l.take (len*sz)++bp ys))]) else none
 | _=>none
theorem xv (mu:Bool)(e sz by_ new:Nat)(σ:am)(x y:AV):dy mu e sz by_ new σ x y=fi mu e sz by_ new σ x (bc σ sz y):=by
 unfold dy fi
 cases bc σ sz y<;>rfl
theorem QV (e sz by_ new:Nat)(σ:am)(q s:Nat)(l ys:List PV):fi false e sz by_ new σ (.olist q s l) (some ys)=Jl e sz by_ new q s l ys (σ q):=by
 simp only[fi,Jl]
theorem Jk {e sz by_ new q:Nat}{l ys:List PV}(h1:l.length+ys.length<=9223372036854775807)(h2:(l.length+ys.length)*by_<=140737488355328):Jl e sz by_ new q sz l ys (.tok e sz)=some (.olist new sz (l++ys),[(q,.none),(new,.tok e sz)]):=by
 simp[Jl,e8 h1 h2]
theorem Jj (e sz by_ new:Nat)(σ:am):fi false e sz by_ new σ (.pv .nils) (some [])=some (.pv .nils,[]):=_root_.id rfl
theorem Ji {e sz by_ new:Nat}{σ:am}{y:PV}{r:List PV}(h1:r.length+1<=9223372036854775807)(h2:(r.length+1)*by_<=140737488355328):fi false e sz by_ new σ (.pv .nils) (some (y::r))=some (.olist new sz (y::r),[(new,.tok e sz)]):=by
 simp only[fi];rw[if_pos (e8 (by omega) (by simpa using h2))]
theorem NI (e sz by_ new:Nat)(σ:am)(q s off len:Nat)(ys:List PV):fi true e sz by_ new σ (.row q s off len) (some ys)=re e sz by_ new q s off len ys (σ q):=by
 simp only[fi,re]
theorem oA {e sz by_ new q len:Nat}{f:Bool}{l:List AV}{ys:List PV}(h0:len*sz<=l.length)(h1:len+ys.length<=9223372036854775807)(h2:(len+ys.length)*by_<=140737488355328) :
  re e sz by_ new q sz 0 len ys (.cells e f l)=some (.row new sz 0 (len+ys.length),[(q,.none),(new,.cells e false (l.take (len*sz)++bp ys))]):=by
 simp[re,h0,e8 h1 h2]
theorem As {e sz by_ new q:Nat}{f:Bool}{l:List AV}{ys:List PV}(h1:ys.length<=9223372036854775807)(h2:ys.length*by_<=140737488355328) :
  re e sz by_ new q sz 0 0 ys (.cells e f l)=some (.row new sz 0 ys.length,[(q,.none),(new,.cells e false (bp ys))]):=by
 have:=e8 (n:=0) (m:=ys.length) (by_:=by_) (by omega) (by simpa using h2)
 simp[re,this]
def vL (l:List PV):Bool->Option (List PV)
 | true=>some l
 | false=>none
theorem za (σ:am)(sz:Nat):bc σ sz (.pv .nils)=some []:=_root_.id rfl
theorem zb (σ:am)(sz:Nat)(l:List PV):bc σ sz (.pv (.list l))=vL l (l.all fun y=>y.cells.length == sz):=by
 simp only[bc]
 cases l.all (fun y=>y.cells.length == sz)<;>rfl
theorem zc (l:List PV):vL l true=some l:=_root_.id rfl
theorem tH (σ:am)(sz r:Nat)(l:List PV):bc σ sz (.olist r sz l)=some l:=by simp[bc]
def QL (e sz new:Nat):Option (List PV)->Option (AV×List (Nat×Blk))
 | some ps=>if ps.all (fun p=>p.cells.length == sz&&p.cells.all PV.one)=true then some (.olist new sz ps,[(new,.tok e sz)]) else none
 | none=>none
theorem S3 {e sz len new:Nat}{vs:List AV}(h:vs.length=len)(h2:len<=9223372036854775807):cS false e sz len new vs=QL e sz new (pvs vs):=by
 simp only[cS,h,h2,true_and,if_true,QL]
 cases pvs vs<;>rfl
def TK (e sz new:Nat)(ps:List PV):Bool->Option (AV×List (Nat×Blk))
 | true=>some (.olist new sz ps,[(new,.tok e sz)])
 | false=>none
theorem QK (e sz new:Nat)(ps:List PV):TK e sz new ps true=some (.olist new sz ps,[(new,.tok e sz)]):=_root_.id rfl
theorem E1 (e sz new:Nat)(ps:List PV):QL e sz new (some ps)=TK e sz new ps (ps.all fun p=>p.cells.length == sz&&p.cells.all PV.one):=by
 simp only[QL]
 cases ps.all (fun p=>p.cells.length == sz&&p.cells.all PV.one)<;>rfl
theorem E2 (e sz new:Nat):QL e sz new none=none:=_root_.id rfl
theorem QJ {e sz new:Nat}:cS true e sz 0 new []=some (.row new sz 0 0,[(new,.cells e true [])]):=by
 simp[cS]
theorem fw (b:Bool):PV.one (.bool b)=true:=_root_.id rfl
theorem iJ (k:IntKind)(n:Int):PV.one (.int k n)=true:=_root_.id rfl
theorem iI (s:List UInt8):PV.one (.str s)=true:=_root_.id rfl
theorem Hv:PV.one .nils=true:=_root_.id rfl
theorem fv (l:List PV):PV.one (.list l)=true:=_root_.id rfl
theorem Mi (p:PV):AV.one (.pv p)=p.one:=_root_.id rfl
theorem Hy (r o:Nat):AV.one (.ptr r o)=true:=_root_.id rfl
theorem Hw (r s o n:Nat):AV.one (.row r s o n)=true:=_root_.id rfl
theorem xN (r s:Nat)(l:List PV):AV.one (.olist r s l)=true:=_root_.id rfl
theorem Hz (f:Nat)(a b:List AV):AV.one (.clo f a b)=true:=_root_.id rfl
def pI (sz:Nat)(l:List PV)(h:Nat):Option Nat->Option AV
 | some a=>if JN sz l a=true then some (.pv (.list ((l.take h).drop a))) else none
 | none=>none
def pH (sz:Nat)(l:List PV)(lo:Option AV):Option Nat->Option AV
 | some h=>pI sz l h (a8 0 h lo)
 | none=>none
theorem pq (sz:Nat)(l:List PV)(lo hi:Option AV):ep sz (.pv (.list l)) lo hi=pH sz l lo (a8 l.length l.length hi):=by
 show J4 sz l lo hi=_
 unfold J4 pH pI
 cases a8 l.length l.length hi with
 | none=>rfl
 | some h=>simp only;cases a8 0 h lo<;>rfl
theorem nO (sz r s:Nat)(l:List PV)(lo hi:Option AV):ep sz (.olist r s l) lo hi=pH sz l lo (a8 l.length l.length hi):=by
 show J4 sz l lo hi=_
 unfold J4 pH pI
 cases a8 l.length l.length hi with
 | none=>rfl
 | some h=>simp only;cases a8 0 h lo<;>rfl
theorem sH (sz:Nat)(l:List PV)(lo:Option AV)(h:Nat):pH sz l lo (some h)=pI sz l h (a8 0 h lo):=_root_.id rfl
theorem xP (sz:Nat)(l:List PV)(h:Nat):pI sz l h (some 0)=some (.pv (.list (l.take h))):=by
 simp[pI,JN]
theorem mR {sz:Nat}{l:List PV}{h a:Nat}(hs:JN sz l a=true):pI sz l h (some a)=some (.pv (.list ((l.take h).drop a))):=if_pos hs
theorem xO (sz:Nat)(l:List PV)(i:Nat)(y:PV):fR sz l i (some y)=if y.cells.length=sz then some (.pv (.eptr l i 0)) else none:=_root_.id rfl
theorem Jp {α β:Type}(f:α->β)(p:β->Bool)(l:List α):(l.map f).all p=l.all fun x=>p (f x):=by
 rw[List.all_map];rfl
theorem QW {α:Type}(l:List α):(l.all fun _=>true)=true:=by simp
theorem QQ (n:Nat):(n == n)=true:=by simp
def PG (sz:Nat)(e:PV):Bool->Option AV
 | true=>some (.pv e)
 | false=>cW true sz 0 (e.cells.map .pv)
theorem MD (sz:Nat)(e:PV):PG sz e true=some (.pv e):=_root_.id rfl
theorem H8 (sz:Nat)(e:PV):mh true sz 0 e=PG sz e (e.isAgg&&decide (e.cells.length=sz)):=by
 simp only[mh,true_and]
 by_cases h:e.isAgg=true/\e.cells.length=sz
 ·rw[if_pos h,h.1,decide_eq_true h.2];rfl
 ·rw[if_neg h]
  have:(e.isAgg&&decide (e.cells.length=sz))=false:=by
   rw[Bool.eq_false_iff]
   intro hh
   simp only[Bool.and_eq_true,decide_eq_true_eq] at hh
   exact h hh
  rw[this];rfl
theorem DG (cs:List PV):(PV.agg cs).isAgg=true:=_root_.id rfl
theorem jo {α:Type}{sz:Nat}{f:α->PV}(hf:∀ x,(f x).cells.length=sz)(l:List α):(bp (l.map f)).length=l.length*sz:=by
 have:=gT (sz:=sz) ((l.map f).map PV.cells) (by
  intro y hy
  simp only[List.mem_map] at hy
  obtain⟨p,⟨s,_,rfl⟩,rfl⟩:=hy
  exact hf s)
 simp only[bp,List.length_map,List.flatMap_def] at this ⊢
 exact this
def fzO (σ:am):Option AV->Option (AV×List (Nat×Blk))
 | some v=>(tB σ v).map Ki
 | none=>none
theorem PU (G:Nat->List PV)(σ:am)(v:AV):Kl G σ none v=(tB σ v).map Ki:=_root_.id rfl
theorem PW (G:Nat->List PV)(σ:am)(g:Bool)(sz:Nat)(v:AV):Kl G σ (some (g,sz)) v=fzO σ (eq G g sz σ v):=by
 simp only[Kl,fzO];cases eq G g sz σ v<;>rfl
theorem IA (σ:am)(v:AV):fzO σ (some v)=(tB σ v).map Ki:=_root_.id rfl
theorem IC (σ:am)(cs:List AV):tB σ (.agg cs)=(FG σ cs).map fun p=>(.agg p.1,p.2):=_root_.id rfl
theorem MX (σ:am)(p:PV):tB σ (.pv p)=some (p,[]):=_root_.id rfl
theorem MY (σ:am)(r s:Nat)(l:List PV):tB σ (.olist r s l)=some (.list l,[]):=_root_.id rfl
theorem IB (σ:am)(r s n:Nat):tB σ (.row r s 0 n)=M2 s n r (σ r):=_root_.id rfl
theorem M0 (σ:am)(p:PV):Kj σ (.pv p)=some (p,[]):=_root_.id rfl
theorem M1 (σ:am)(r s:Nat)(l:List PV):Kj σ (.olist r s l)=some (.list l,[]):=_root_.id rfl
theorem IF (σ:am)(r s n:Nat):Kj σ (.row r s 0 n)=M2 s n r (σ r):=_root_.id rfl
theorem ID (σ:am):FG σ []=some ([],[]):=_root_.id rfl
theorem DX (σ:am)(x:AV)(r:List AV):FG σ (x::r)=RA (Kj σ x) (FG σ r):=_root_.id rfl
theorem DY (p:PV)(a:List Nat)(q:List PV)(b:List Nat):RA (some (p,a)) (some (q,b))=some (p::q,a++b):=_root_.id rfl
theorem MZ (p:PV)(l:List Nat):Ki (p,l)=(.pv p,l.map fun r=>(r,.none)):=_root_.id rfl
theorem IG {α:Type}{sz:Nat}{f:α->PV}(hf:∀ x,∃ cs,f x = .agg cs/\cs.length=sz/\∀ p∈cs,p.one=true)(hsz:2<=sz)(l:List α){n r T:Nat}{b:Bool}(hn:n=l.length) :
  M2 sz n r (.cells T b (bp (l.map f)))=some (.list (l.map f),[r]):=by
 have hlen:=jo (sz:=sz) (f:=f) (fun x=>by obtain⟨cs,h1,h2,_⟩:=hf x;rw[h1];exact h2) l
 subst hn
 have hone:(bp (l.map f)).all AV.one=true:=by
  rw[List.all_eq_true]
  intro x hx
  simp only[bp,List.mem_map,List.mem_flatMap] at hx
  obtain⟨p,⟨q,⟨s,_,rfl⟩,hq⟩,rfl⟩:=hx
  obtain⟨cs,h1,h2,h3⟩:=hf s
  rw[h1] at hq
  exact h3 p hq
 have hpv:pvs (bp (l.map f))=some ((l.map f).flatMap PV.cells):=pvs_map _
 have hch:∀ l:List α,iY sz l.length ((l.map f).flatMap PV.cells)=l.map f:=by
  intro l
  induction l with
  | nil=>rfl
  | cons x r ih=>
    obtain⟨cs,h1,h2,_⟩:=hf x
    simp only[List.length_cons,iY,List.map_cons,List.flatMap_cons,h1,ak]
    rw[if_neg (by omega),List.take_left' h2,List.drop_left' h2,ih]
 simp only[M2]
 rw[if_pos ⟨by omega,by omega,by rw[List.take_of_length_le (by omega)];exact hone⟩,List.take_of_length_le (by omega),hpv]
 simp[hch]
theorem HV (p:PV):(AV.pv p).names=[]:=_root_.id rfl
theorem C2 (r o:Nat):(AV.ptr r o).names=[r]:=_root_.id rfl
theorem C1 (r a b c:Nat):(AV.row r a b c).names=[r]:=_root_.id rfl
theorem HW (r a:Nat)(l:List PV):(AV.olist r a l).names=[r]:=_root_.id rfl
theorem C6 (cs:List AV):(AV.agg cs).names=AV.namesL cs:=by simp only[AV.names]
theorem C0 (cs:List AV):(AV.tup cs).names=AV.namesL cs:=by simp only[AV.names]
theorem C4 (f:Nat)(fs cs:List AV):(AV.clo f fs cs).names=AV.namesL fs++AV.namesL cs:=by simp only[AV.names]
theorem C5:AV.any.names=[]:=_root_.id rfl
theorem xW:AV.namesL []=[]:=_root_.id rfl
theorem kV (x:AV)(r:List AV):AV.namesL (x::r)=x.names++AV.namesL r:=by simp only[AV.namesL]
theorem kU:∀ l:List PV,AV.namesL (l.map .pv)=[]
 | []=>rfl
 | x::r=>by rw[List.map_cons,kV,kU r];rfl
theorem sM (l:List PV):AV.namesL (bp l)=[]:=kU _
theorem pR (T:Nat)(f:Bool)(l:List AV):(Blk.cells T f l).names=AV.namesL l:=_root_.id rfl
theorem xX (e s:Nat):(Blk.tok e s).names=[]:=_root_.id rfl
theorem sO:Blk.none.names=[]:=_root_.id rfl
theorem Jr (acc:List Nat):br acc []=acc:=_root_.id rfl
def NQ (acc:List Nat)(n:Nat):Bool->List Nat
 | true=>acc
 | false=>acc++[n]
theorem js (x:Nat):∀ l:List Nat,l.contains x=uZ x l
 | []=>rfl
 | y::r=>by
   rw[List.contains_cons,js x r,pW]
   by_cases h:y=x
   ·simp[h]
   ·have h':¬ x=y:=fun e=>h e.symm
    simp[h,h']
theorem Fh (acc:List Nat)(n:Nat)(r:List Nat):br acc (n::r)=br (NQ acc n (uZ n acc)) r:=by
 simp only[br,js]
 cases uZ n acc<;>rfl
theorem NO (acc:List Nat)(n:Nat):NQ acc n true=acc:=_root_.id rfl
theorem NP (acc:List Nat)(n:Nat):NQ acc n false=acc++[n]:=_root_.id rfl
def geN (m0:Nat):List Nat->List Nat
 | []=>[]
 | x::r=>if m0<=x then x::geN m0 r else geN m0 r
theorem MT (m0:Nat):geN m0 []=[]:=_root_.id rfl
theorem vz (m0 x:Nat)(r:List Nat):geN m0 (x::r)=if m0<=x then x::geN m0 r else geN m0 r:=_root_.id rfl
theorem DW (m0:Nat):∀ l:List Nat,l.filter (fun r=>decide (m0<=r))=geN m0 l
 | []=>rfl
 | x::r=>by rw[List.filter_cons,DW m0 r,vz];simp
def dv (sto:List (Nat×Blk)):List Nat->List Nat
 | []=>[]
 | r::q=>(lookB r sto).names++dv sto q
theorem qZ (sto:List (Nat×Blk)):dv sto []=[]:=_root_.id rfl
theorem ic (sto:List (Nat×Blk))(r:Nat)(q:List Nat):dv sto (r::q)=(lookB r sto).names++dv sto q:=_root_.id rfl
theorem gn (sto:List (Nat×Blk)):∀ l:List Nat,(l.flatMap fun r=>(lookB r sto).names)=dv sto l
 | []=>rfl
 | r::q=>by rw[List.flatMap_cons,gn sto q,ic]
theorem LV (m0:Nat)(sto:List (Nat×Blk))(acc:List Nat):fQ m0 sto 0 acc=acc:=_root_.id rfl
theorem LU (m0:Nat)(sto:List (Nat×Blk))(k:Nat)(acc:List Nat):fQ m0 sto (k+1) acc=fQ m0 sto k (br acc (geN m0 (dv sto acc))):=by
 rw[<- DW,<- gn];rfl
def eD (e:List (Nat×AV)):List Nat->List Nat
 | []=>[]
 | k::r=>(look k e).names++eD e r
theorem qG (e:List (Nat×AV)):eD e []=[]:=_root_.id rfl
theorem om (e:List (Nat×AV))(k:Nat)(r:List Nat):eD e (k::r)=(look k e).names++eD e r:=_root_.id rfl
theorem lG (e:List (Nat×AV))(σ:List (Nat×Blk))(n:Nat):∀ l:List Nat,(l.flatMap fun i=>((⟨e,σ,n⟩:St).E i).names)=eD e l
 | []=>rfl
 | k::r=>by rw[List.flatMap_cons,lG e σ n r];rfl
def BH:Nat->Nat->List Nat
 | 0,_=>[]
 | n+1,k=>k::BH n (k+1)
theorem R7 (k:Nat):BH 0 k=[]:=_root_.id rfl
theorem Pb (n k:Nat):BH (n+1) k=k::BH n (k+1):=_root_.id rfl
theorem BG:∀ n k:Nat,BH n k=List.range' k n
 | 0,k=>rfl
 | n+1,k=>by rw[Pb,BG n,List.range'_succ]
theorem JW (n:Nat):List.range n=BH n 0:=by rw[BG,List.range_eq_range']
theorem Ml (m0:Nat)(keep:List Nat)(e:List (Nat×AV))(σ:List (Nat×Blk))(n:Nat):Pt m0 keep ⟨e,σ,n⟩=fQ m0 σ σ.length (br [] (geN m0 (eD e keep++dv σ (BH m0 0)))):=by
 rw[<- DW,<- lG e σ n,<- gn,<- JW];rfl
def pQ (f:Nat->Option Nat)(e:List (Nat×AV)):List Nat->List (Nat×AV)
 | []=>[]
 | k::r=>(k,(look k e).ren f)::pQ f e r
theorem CV (f:Nat->Option Nat)(e:List (Nat×AV)):pQ f e []=[]:=_root_.id rfl
theorem xR (f:Nat->Option Nat)(e:List (Nat×AV))(k:Nat)(r:List Nat):pQ f e (k::r)=(k,(look k e).ren f)::pQ f e r:=_root_.id rfl
def CU (m0:Nat)(keep:List Nat)(e:List (Nat×AV))(σ:List (Nat×Blk))(os:List Nat):St:=⟨pQ (dA m0 os) e keep,eK m0 (dA m0 os) σ (BH m0 0++os) 0,m0+os.length⟩
theorem Mp (m0:Nat)(keep:List Nat)(e:List (Nat×AV))(σ:List (Nat×Blk))(n:Nat):norm m0 keep ⟨e,σ,n⟩=CU m0 keep e σ (fQ m0 σ σ.length (br [] (geN m0 (eD e keep++dv σ (BH m0 0))))):=by
 rw[<- Ml m0 keep e σ n]
 have hE:∀ (f:Nat->Option Nat) (l:List Nat),(l.map fun i=>(i,((⟨e,σ,n⟩:St).E i).ren f))=pQ f e l:=by
  intro f l
  induction l with
  | nil=>rfl
  | cons k r ih=>rw[List.map_cons,ih];rfl
 simp only[norm,CU,hE,JW]
theorem Mr (m0:Nat)(keep:List Nat)(e:List (Nat×AV))(σ:List (Nat×Blk))(x:Nat)(r:List Nat):CU m0 keep e σ (x::r)=⟨pQ (dA m0 (x::r)) e keep,eK m0 (dA m0 (x::r)) σ (BH m0 0++(x::r)) 0,m0+(x::r).length⟩:=_root_.id rfl
theorem Mq (m0:Nat)(keep:List Nat)(e:List (Nat×AV))(σ:List (Nat×Blk)):CU m0 keep e σ []=⟨pQ (dA m0 []) e keep,eK m0 (dA m0 []) σ (BH m0 0) 0,m0⟩:=by
 simp only[CU,List.append_nil];rfl
theorem wX (m0:Nat)(f:Nat->Option Nat)(σ:List (Nat×Blk))(k:Nat):eK m0 f σ [] k=[]:=_root_.id rfl
theorem rZ (m0:Nat)(f:Nat->Option Nat)(σ:List (Nat×Blk))(r:Nat)(q:List Nat)(k:Nat):eK m0 f σ (r::q) k=(k,(lookB r σ).ren f)::eK m0 f σ q (k+1):=_root_.id rfl
theorem xV (m0:Nat)(os:List Nat)(r:Nat):dA m0 os r=if r<m0 then some r else Io r os m0:=_root_.id rfl
theorem In (x k:Nat):Io x [] k=none:=_root_.id rfl
theorem DL (x y:Nat)(r:List Nat)(k:Nat):Io x (y::r) k=if y=x then some k else Io x r (k+1):=_root_.id rfl
def R9 (o:Nat):Option Nat->AV
 | some q=>.ptr q o
 | none=>.any
def R8 (a b c:Nat):Option Nat->AV
 | some q=>.row q a b c
 | none=>.any
def Sa (a:Nat)(l:List PV):Option Nat->AV
 | some q=>.olist q a l
 | none=>.pv (.list l)
theorem JZ (f:Nat->Option Nat)(p:PV):(AV.pv p).ren f = .pv p:=by simp only[AV.ren]
theorem LR (f:Nat->Option Nat):AV.any.ren f = .any:=by simp only[AV.ren]
theorem LP (f:Nat->Option Nat)(r o:Nat):(AV.ptr r o).ren f=R9 o (f r):=by simp only[AV.ren,R9]<;>(cases f r<;>rfl)
theorem LO (f:Nat->Option Nat)(r a b c:Nat):(AV.row r a b c).ren f=R8 a b c (f r):=by simp only[AV.ren,R8]<;>(cases f r<;>rfl)
theorem Pg (f:Nat->Option Nat)(r a:Nat)(l:List PV):(AV.olist r a l).ren f=Sa a l (f r):=by simp only[AV.ren,Sa]<;>(cases f r<;>rfl)
theorem LS (f:Nat->Option Nat)(cs:List AV):(AV.agg cs).ren f = .agg (AV.renL f cs):=by simp only[AV.ren]
theorem LN (f:Nat->Option Nat)(cs:List AV):(AV.tup cs).ren f = .tup (AV.renL f cs):=by simp only[AV.ren]
theorem LQ (f:Nat->Option Nat)(g:Nat)(fs cs:List AV):(AV.clo g fs cs).ren f = .clo g (AV.renL f fs) (AV.renL f cs):=by simp only[AV.ren]
theorem BM (o q:Nat):R9 o (some q) = .ptr q o:=_root_.id rfl
theorem BL (a b c q:Nat):R8 a b c (some q) = .row q a b c:=_root_.id rfl
theorem BN (a:Nat)(l:List PV)(q:Nat):Sa a l (some q) = .olist q a l:=_root_.id rfl
theorem GI (f:Nat->Option Nat):AV.renL f []=[]:=_root_.id rfl
theorem pk (f:Nat->Option Nat)(x:AV)(r:List AV):AV.renL f (x::r)=x.ren f::AV.renL f r:=by simp only[AV.renL]
theorem r3 (f:Nat->Option Nat):∀ l:List PV,AV.renL f (l.map .pv)=l.map .pv
 | []=>rfl
 | x::r=>by rw[List.map_cons,pk,r3 f r,JZ]
theorem BO (f:Nat->Option Nat)(l:List PV):AV.renL f (bp l)=bp l:=r3 f _
theorem wY (f:Nat->Option Nat)(T:Nat)(b:Bool)(l:List AV):(Blk.cells T b l).ren f = .cells T b (AV.renL f l):=_root_.id rfl
theorem GJ (f:Nat->Option Nat)(e s:Nat):(Blk.tok e s).ren f = .tok e s:=_root_.id rfl
theorem BP (f:Nat->Option Nat):Blk.none.ren f = .none:=_root_.id rfl
theorem HG (A:List (Nat×Nat×Nat×Nat))(m0:Nat)(keep:List Nat)(s:St):ct A m0 keep s=norm m0 keep (Jt A s):=_root_.id rfl
theorem Js (s:St):Jt [] s=s:=_root_.id rfl
theorem Fj (k e sz:Nat)(r:List (Nat×Nat×Nat×Nat))(env:List (Nat×AV))(σ:List (Nat×Blk))(n:Nat):Jt ((k,0,e,sz)::r) ⟨env,σ,n⟩=Jt r (NU k e sz ⟨env,σ,n⟩ (look k env)):=_root_.id rfl
theorem Fk (k j e sz:Nat)(r:List (Nat×Nat×Nat×Nat))(env:List (Nat×AV))(σ:List (Nat×Blk))(n:Nat):Jt ((k,j+1,e,sz)::r) ⟨env,σ,n⟩=Jt r (accP j e sz ⟨env,σ,n⟩ (look k env)):=_root_.id rfl
theorem Fo (k e sz:Nat)(env:List (Nat×AV))(σ:List (Nat×Blk))(n:Nat):NU k e sz ⟨env,σ,n⟩ (.pv .nils)=⟨(k,iL n e sz)::env,(n,cx e sz)::σ,n+1⟩:=_root_.id rfl
theorem Jy (k e sz r a b c:Nat)(s:St):NU k e sz s (.row r a b c)=s:=_root_.id rfl
theorem Mt {n e sz:Nat}(h:e<1000000):iL n e sz = .olist n sz []:=if_pos h
theorem Ms {n e sz:Nat}(h:1000000<=e):iL n e sz = .row n sz 0 0:=if_neg (Nat.not_lt.2 h)
theorem HJ {e sz:Nat}(h:e<1000000):cx e sz = .tok e sz:=if_pos h
theorem HI {e sz:Nat}(h:1000000<=e):cx e sz = .cells (e - 1000000) false []:=if_neg (Nat.not_lt.2 h)
theorem NT (k e sz r a:Nat)(l:List PV)(s:St):NU k e sz s (.olist r a l)=s:=_root_.id rfl
theorem Jv (o e sz r b:Nat)(env:List (Nat×AV))(σ:List (Nat×Blk))(n:Nat):accP o e sz ⟨env,σ,n⟩ (.ptr r b)=accB r (b+o) e sz ⟨env,σ,n⟩ (lookB r σ):=_root_.id rfl
theorem Au (r o e sz T:Nat)(f:Bool)(l:List AV)(s:St):accB r o e sz s (.cells T f l)=Ok r T f l o e sz s l[o]?:=_root_.id rfl
theorem Fm (r T:Nat)(f:Bool)(l:List AV)(o e sz:Nat)(env:List (Nat×AV))(σ:List (Nat×Blk))(n:Nat):Ok r T f l o e sz ⟨env,σ,n⟩ (some (.pv .nils))=⟨env,(r,.cells T f (l.set o (iL n e sz)))::(n,cx e sz)::σ,n+1⟩:=_root_.id rfl
theorem Jw (r T:Nat)(f:Bool)(l:List AV)(o e sz:Nat)(s:St)(q a b c:Nat):Ok r T f l o e sz s (some (.row q a b c))=s:=_root_.id rfl
theorem NS (r T:Nat)(f:Bool)(l:List AV)(o e sz:Nat)(s:St)(q a:Nat)(k:List PV):Ok r T f l o e sz s (some (.olist q a k))=s:=_root_.id rfl
theorem TS {α:Type}(x y:α)(r:List α):(x::r).set 0 y=y::r:=_root_.id rfl
theorem TR {α:Type}(x y:α)(r:List α)(n:Nat):(x::r).set (n+1) y=x::r.set n y:=_root_.id rfl
theorem RS (e e':List (Nat×AV))(σ σ':List (Nat×Blk))(n n':Nat):(St.mk e σ n=St.mk e' σ' n')=(e=e'/\σ=σ'/\n=n'):=by rw[St.mk.injEq]
theorem Qe {a b:Nat}(h:a<b):decide (a<b)=true:=decide_eq_true h
theorem Qf {a b:Nat}(h:¬ a<b):decide (a<b)=false:=decide_eq_false h
theorem Qg {a b:Nat}(h:a<=b):decide (a<=b)=true:=decide_eq_true h
theorem Qh {a b:Nat}(h:¬ a<=b):decide (a<=b)=false:=decide_eq_false h
theorem Qi {a b:Nat}(h:a=b):decide (a=b)=true:=decide_eq_true h
theorem Qj {a b:Nat}(h:¬ a=b):decide (a=b)=false:=decide_eq_false h
theorem aG {α:Type}{l:List α}{m:Nat}{x:α}(h:l[m]? = some x):l.take (m+1)=l.take m++[x]:=by
 obtain⟨h1,h2⟩:=List.getElem?_eq_some_iff.1 h
 rw[List.take_succ_eq_append_getElem h1,h2]
def PT (cells:List AV)(off sz:Nat)(r:List (Nat×Nat×AV))(xc:List AV):Bool->Option (List AV)
 | true=>gm (cells.take off++xc++cells.drop (off+sz)) r
 | false=>none
theorem Nb (cells:List AV)(off sz:Nat)(r:List (Nat×Nat×AV))(xc:List AV):PT cells off sz r xc true=gm (cells.take off++xc++cells.drop (off+sz)) r:=_root_.id rfl
theorem Ea (cells:List AV):gm cells []=some cells:=_root_.id rfl
theorem yQ (cells:List AV)(off sz:Nat)(x:AV)(r:List (Nat×Nat×AV)):gm cells ((off,sz,x)::r)=PT cells off sz r x.cells (x.known&&decide (x.cells.length=sz)&&decide (off+sz<=cells.length)):=by
 simp only[gm]
 by_cases h:x.known=true/\x.cells.length=sz/\off+sz<=cells.length
 ·rw[if_pos h,h.1,decide_eq_true h.2.1,decide_eq_true h.2.2];rfl
 ·rw[if_neg h]
  have:(x.known&&decide (x.cells.length=sz)&&decide (off+sz<=cells.length))=false:=by
   rw[Bool.eq_false_iff]
   intro hh
   simp only[Bool.and_eq_true,decide_eq_true_eq] at hh
   exact h ⟨hh.1.1,hh.1.2,hh.2⟩
  rw[this];rfl
theorem Hq (sz off:Nat)(cs:List AV):Pm sz off cs=if off+sz<=cs.length then some (jA ((cs.drop off).take sz)) else none:=_root_.id rfl
section
variable {P:Program}{G:Nat->List PV}
def rk {ι:Type}(A:List (Nat×Nat×Nat×Nat))(S:ι->St)(Inv:ι->Prop)(μ:ι->Nat)(x:ι)(m0:Nat)(keep:List Nat)(id:Nat)(keepX:List Nat)(fin:ι->Prop)(Q:AExit->St->Prop):AExit->St->Prop
 | .norm,s'=>∃ x',Hd A m0 keep s' (S x')/\Inv x'/\μ x'<μ x
 | .exit i,s'=>if i=id then ∃ x',fin x'/\norm m0 keepX s'=norm m0 keepX (S x') else Q (.exit i) s'
 | .ret,s'=>Q .ret s'
theorem tZ {ι:Type}(A:List (Nat×Nat×Nat×Nat))(S:ι->St)(Inv:ι->Prop)(μ:ι->Nat)(x:ι)(m0:Nat)(keep:List Nat)(id:Nat)(keepX:List Nat)(fin:ι->Prop)(Q:AExit->St->Prop)(s:St):rk A S Inv μ x m0 keep id keepX fin Q .norm s = ∃ x',Hd A m0 keep s (S x')/\Inv x'/\μ x'<μ x:=_root_.id rfl
theorem t8 {ι:Type}(A:List (Nat×Nat×Nat×Nat))(S:ι->St)(Inv:ι->Prop)(μ:ι->Nat)(x:ι)(m0:Nat)(keep:List Nat)(id:Nat)(keepX:List Nat)(fin:ι->Prop)(Q:AExit->St->Prop)(i:Nat)(s:St):rk A S Inv μ x m0 keep id keepX fin Q (.exit i) s=if i=id then (∃ x',fin x'/\norm m0 keepX s=norm m0 keepX (S x')) else Q (.exit i) s:=_root_.id rfl
theorem Av {ι:Type}(A:List (Nat×Nat×Nat×Nat))(S:ι->St)(Inv:ι->Prop)(μ:ι->Nat)(x:ι)(m0:Nat)(keep:List Nat)(id:Nat)(keepX:List Nat)(fin:ι->Prop)(Q:AExit->St->Prop)(s:St):rk A S Inv μ x m0 keep id keepX fin Q .ret s=Q .ret s:=_root_.id rfl
theorem iu {ι:Type}(A:List (Nat×Nat×Nat×Nat))(ch:ι->List (Nat×AV))(chB:ι->List (Nat×Blk))(Inv:ι->Prop)(μ:ι->Nat)(x0:ι)(keepX:List Nat)(fin:ι->Prop){m0 id:Nat}{keep:List Nat}{b:ACode}{F:St->Prop}{Q:AExit->St->Prop}{s:St}
  (h:∀ e0 σ0 n0,ct A m0 keep s=⟨e0,σ0,n0⟩->StZ ⟨e0,σ0,n0⟩ ⟨dM e0 (ch x0),eU σ0 (chB x0),n0⟩/\Inv x0 /\
   (∀ x,Inv x->vc P G m0 b (rk A (fun x=>⟨dM e0 (ch x),eU σ0 (chB x),n0⟩) Inv μ x m0 keep id keepX fin Q) ⟨dM e0 (ch x),eU σ0 (chB x),n0⟩) /\
   ∀ x,fin x->∀ s1,norm m0 keepX ⟨dM e0 (ch x),eU σ0 (chB x),n0⟩=s1->F s1):vc P G m0 (.loop keep b) (d6 id (Fr F Q)) s:=by
 obtain⟨h1,h2,h3,h4⟩:=h (ct A m0 keep s).env (ct A m0 keep s).sto (ct A m0 keep s).next rfl
 refine⟨fun n s'=>∃ x,s'=⟨dM (ct A m0 keep s).env (ch x),eU (ct A m0 keep s).sto (chB x),(ct A m0 keep s).next⟩/\Inv x/\μ x=n,⟨μ x0,_,Wk.head (A:=A) (keep:=keep) h1,x0,rfl,h2,rfl⟩,?_⟩
 rintro n s' ⟨x,rfl,hx,rfl⟩
 refine cb b (fun e s' hs=>?_) _ (h3 x hx)
 cases e with
 | norm=>
   obtain⟨x',k1,k2,k3⟩:=hs
   exact⟨_,_,k3,k1,x',rfl,k2,rfl⟩
 | exit i=>
   simp only[rk] at hs
   split at hs
   ·rename_i hi
    obtain⟨x',k1,k2⟩:=hs
    refine⟨norm m0 keepX s',Wk.norm m0 keepX s',?_⟩
    simp only[d6,if_pos hi,Fr]
    exact h4 x' k1 _ k2.symm
   ·rename_i hi
    refine⟨s',Wk.of (Wx.refl s') m0,?_⟩
    simp only[d6,if_neg hi,Fr]
    exact hs
 | ret=>exact hs
end
def Kap.cut (κ:Kap)(k:Nat):Kap:=⟨κ.w,fun r=>if r<k then κ.nm r else none,κ.imm⟩
theorem Kap.cut_ext (κ:Kap)(k:Nat):Ext (κ.cut k) κ:=by
 refine⟨fun _ _ h=>h,fun _ _ _ _ h=>h,fun r d h=>?_,fun _ _ h _=>h⟩
 simp only[Kap.cut] at h
 split at h
 ·exact h
 ·cases h
theorem Kap.cut_none (κ:Kap)(k r:Nat)(h:k<=r):(κ.cut k).nm r=none:=by simp only[Kap.cut];rw[if_neg (by omega)]
def rn (P:Program)(G:Nat->List PV)(k:Nat)(f:Nat)(args:List AV)(sto:List (Nat×Blk))(next:Nat)(Q:AV->List (Nat×Blk)->Nat->Prop):Prop:=
 bJ P f=true/\∀ (κ:Kap) (vals:Array Value),SRel (bU κ (fun r=>lookB r sto) G) κ (fun r=>lookB r sto)->(∀ r,next<=r->κ.nm r=none)->vals.size=args.length ->
  (∀ (i:Nat) (x:AV),args[i]? = some x->ARel κ x (vals.getD i Go.undef)) ->
  Calls P f vals κ.w fun e w'=>∃ u v κ' sto' next',e = .returned u/\κ'.w=w'/\Ext (κ.cut k) κ'/\Left (bU κ (fun r=>lookB r sto) G) κ.imm κ'/\ARel κ' v u /\
   SRel (bU κ (fun r=>lookB r sto) G) κ' (fun r=>lookB r sto')/\(∀ r,next'<=r->κ'.nm r=none)/\Q v sto' next'
section
variable {P:Program}{G:Nat->List PV}
theorem rn.of_code {muts:List Nat}{k f:Nat}{fn:AFn}{args:List AV}{sto:List (Nat×Blk)}{next:Nat}{R:AV->List (Nat×Blk)->Nat->Prop}(hc:cFn P muts f=some fn)(hn:args.length<=fn.N)
  (hv:vc P G k fn.body (FnK G fn.res R) ⟨cY args,sto,next⟩):rn P G k f args sto next R:=by
 unfold cFn at hc
 split at hc
 ·rename_i fnc hfn
  split at hc
  ·rename_i co hco
   split at hc
   ·rename_i rs hrs
    split at hc
    ·rename_i hok
     split at hc
     ·rename_i b li hb
      cases hc
      refine⟨hok,fun κ vals hS hf hsz hargs=>?_⟩
      refine callsIn_wide.1 (callsIn_of_wp_marks (n:=0) hfn hco trivial ?_ rfl)
      let c:=bU κ (fun r=>lookB r sto) G
      have hsize:(vals++Array.replicate (fnc.ntmps - vals.size) Go.undef).size=fnc.ntmps:=by
       simp only at hn
       simp only[Array.size_append,Array.size_replicate];omega
      have hR:Rel c (κ.cut k) fnc.ntmps ⟨cY args,sto,next⟩ ⟨vals++Array.replicate (fnc.ntmps - vals.size) Go.undef,[]⟩ κ.w κ:=by
       refine⟨rfl,κ.cut_ext k,hS,⟨rfl,rfl,rfl,Nat.le_refl _,fun _ _ _=>rfl,fun _ _ h=>.inl h⟩,fun i=>?_,hsize,dh.nil _ _,hf⟩
       show ARel κ (look i ((args.zipIdx 0).map fun p=>(p.2,p.1))) _
       rw[k8,if_pos (Nat.zero_le _),Nat.sub_zero]
       cases hx:args[i]? with
       | none=>exact .any _
       | some x=>
         have hi:i<vals.size:=by rw[hsz];exact (List.getElem?_eq_some_iff.1 hx).1
         have:=hargs i x hx
         have e:(vals++Array.replicate (fnc.ntmps - vals.size) Go.undef).getD i Go.undef=vals.getD i Go.undef:=by
          simp only[Array.getD_eq_getD_getElem?]
          rw[Array.getElem?_append_left hi]
         rw[e];exact this
      refine Go.wpIn_mono (uh (P:=P) (N:=fnc.ntmps) co c (κ.cut k) k none 0 b [] (iB rs) li (FnK G rs R) _ _ κ.w κ (.inl rfl) (fun r hr=>κ.cut_none k r hr) (Nat.le_refl _) hb hR hv) ?_
      have fin:∀ (s:St) (κ':Kap) (a:Act) (w:World),Rel c (κ.cut k) fnc.ntmps s a w κ'->aI (e9 G s rs) (JX R s)->∃ v,(results fnc a.tmps).run P w = .ok v w /\
        ∃ u v' κ'' sto' next',Ending.returned v = .returned u/\κ''.w=w/\Ext (κ.cut k) κ''/\Left c κ.imm κ''/\ARel κ'' v' u/\SRel c κ'' (fun r=>lookB r sto')/\(∀ r,next'<=r->κ''.nm r=none)/\R v' sto' next':=by
       intro s κ' a w hR hF
       simp only[aI] at hF
       split at hF
       ·rename_i vs hvs
        obtain⟨us,h1,h2,h3⟩:=kw (P:=P) hR fnc.results.toList rs vs hrs hvs
        have hrun:(results fnc a.tmps).run P w = .ok (if h:us.toArray.size=1 then us.toArray[0] else .tuple us.toArray) w:=by
         rw[mK,Sem.run_bind,Array.mapM_eq_mapM_toList]
         simp only[Sem.run_bind,Sem.run_map]
         rw[h1]
         simp
        refine⟨_,hrun,_,AA vs,κ',s.sto,s.next,rfl,hR.w_eq,hR.ext0,hR.left,?_,hR.rel,hR.fresh,hF⟩
        by_cases hl:vs.length=1
        ·obtain⟨v,rfl⟩:=List.length_eq_one_iff.1 hl
         obtain⟨u,rfl⟩:=List.length_eq_one_iff.1 (h2.trans hl)
         have:=h3 0 v rfl
         exact this
        ·have hul:¬ us.toArray.size=1:=by simpa[h2] using hl
         rw[dif_neg hul]
         have hrv:AA vs=pT vs:=by
          unfold AA
          split
          ·simp at hl
          ·rfl
         rw[hrv]
         exact pS (.tup _ _ (by simpa using h2) (fun i x hx=>by rw[aD];simpa using h3 i x hx))
       ·exact hF.elim
      intro e a w hq
      cases e with
      | normal=>
        obtain⟨s,κ',hR,hF⟩:=hq
        exact gO (Nat.le_refl _) rfl hR fun w' κ'' hR'=>fin s κ'' ⟨a.tmps,[]⟩ w' hR' hF
      | ret=>
        obtain⟨s,κ',hR,hF⟩:=hq
        exact gO (Nat.le_refl _) rfl hR fun w' κ'' hR'=>fin s κ'' ⟨a.tmps,[]⟩ w' hR' hF
      | exit id=>
        obtain⟨s,κ',hR,hF⟩:=hq
        exact hF.elim
      | goto l=>exact hq.elim
      | panic ch=>exact hq.elim
      | outgrown=>exact hq.elim
     ·cases hc
    ·cases hc
   ·cases hc
  ·cases hc
 ·cases hc
def bN:List Blk->Nat->List (Nat×Blk)
 | [],_=>[]
 | b::r,k=>(k,b)::bN r (k+1)
theorem mW:∀ (bs:List Blk) (k i:Nat),lookB i (bN bs k)=if k<=i then bs.getD (i - k) .none else .none
 | [],k,i=>by simp[bN,lookB]
 | b::r,k,i=>by
   simp only[bN,lookB]
   by_cases h:k=i
   ·subst h;simp
   ·rw[if_neg h,mW r (k+1) i]
    by_cases hk:k<=i
    ·rw[if_pos (by omega),if_pos hk,show i - k=(i - (k+1))+1 by omega];simp
    ·rw[if_neg (by omega),if_neg hk]
theorem gh (bs:List Blk):(fun r=>lookB r (bN bs 0))=fun r=>bs.getD r .none:=by
 funext r;rw[mW];simp
def bk (P:Program)(G:Nat->List PV)(k f:Nat)(args:List AV)(bs:List Blk)(v:AV)(bs':List Blk):Prop:=
 rn P G k f args (bN bs 0) bs.length fun v' sto' next'=>v'=v/\sto'=bN bs' 0/\next'=bs'.length
def MH (k:Nat)(v:AV)(bs':List Blk)(v':AV)(sto':List (Nat×Blk))(next':Nat):Prop:=
 Wk k ⟨[(0,v')],sto',next'⟩ ⟨[(0,v)],bN bs' 0,bs'.length⟩
theorem bk.of_lcalls {k f:Nat}{args:List AV}{bs:List Blk}{v:AV}{bs':List Blk}(h:rn P G k f args (bN bs 0) bs.length (MH k v bs')):bk P G k f args bs v bs':=by
 obtain⟨hcal,h⟩:=h
 refine⟨hcal,fun κ vals hS hf hsz hargs=>(h κ vals hS hf hsz hargs).mono ?_⟩
 rintro e w' ⟨u,v',κ',sto',next',rfl,rfl,he,hL,hv,hS',hf',hw⟩
 obtain⟨κ'',hR⟩:=hw _ (κ.cut k) κ' 1 ⟨#[u],[]⟩ κ'.w (fun r hr=>κ.cut_none k r hr) ⟨rfl,he,hS',hL,fun i=>by
  show ARel κ' (look i [(0,v')]) _
  by_cases hi:0=i
  ·subst hi;simpa[look] using hv
  ·simp only[look,if_neg hi];exact .any _,rfl,dh.nil _ _,hf'⟩
 refine⟨u,v,κ'',_,_,rfl,hR.w_eq,hR.ext0,hR.left,?_,hR.rel,hR.fresh,rfl,rfl,rfl⟩
 have:=hR.env 0
 simpa[St.E,look] using this
theorem bk.intro {muts:List Nat}{k f:Nat}{fn:AFn}{args:List AV}{bs:List Blk}{v:AV}{bs':List Blk}(hc:cFn P muts f=some fn)(hn:args.length<=fn.N)
  (hv:vc P G k fn.body (FnK G fn.res (MH k v bs')) ⟨cY args,bN bs 0,bs.length⟩):bk P G k f args bs v bs':=
 bk.of_lcalls (rn.of_code hc hn hv)
def gIn (next:Nat):List Nat->Nat->Nat
 | [],i=>next+i
 | r::_,0=>r
 | _::q,i+1=>gIn next q i
def gSo (next:Nat)(rs:List Nat)(r:Nat):Option Nat:=some (gIn next rs r)
theorem lr (next:Nat):∀ (rs:List Nat) (i:Nat) (r:Nat),rs[i]? = some r->gIn next rs i=r
 | [],i,r,h=>by simp at h
 | x::q,0,r,h=>by simpa[gIn] using h
 | x::q,i+1,r,h=>by simpa[gIn] using lr next q i r (by simpa using h)
theorem mY (next:Nat):∀ (rs:List Nat) (i:Nat),rs.length<=i->gIn next rs i=next+(i - rs.length)
 | [],i,h=>by simp[gIn]
 | x::q,0,h=>by simp at h
 | x::q,i+1,h=>by
   simp only[List.length_cons] at h
   rw[gIn,mY next q i (by omega)]
   simp
mutual
theorem unren {κ κ':Kap}(hw:κ'.w=κ.w)(hi:κ'.imm=κ.imm){g:Nat->Nat}(hf:∀ r,κ'.nm r=κ.nm (g r)):∀ (x:AV) (v:Value),ARel κ (x.ren fun r=>some (g r)) v->ARel κ' x v
 | .pv p,v,h=>by
   simp only[AV.ren] at h
   cases h with
   | pv _ _ hp=>exact .pv _ _ (by rw[hw,hi];exact hp)
 | .any,v,h=>.any v
 | .ptr r o,v,h=>by
   simp only[AV.ren] at h
   cases h with
   | ptr _ _ b n hn=>exact .ptr _ _ b n (by rw[hf r];exact hn)
 | .row r a b c,v,h=>by
   simp only[AV.ren] at h
   cases h with
   | row _ _ _ _ bb n cap hn h1 h2 h3 h4=>exact .row _ _ _ _ bb n cap (by rw[hf r];exact hn) h1 h2 h3 h4
   | row0 _ _ hn=>exact .row0 _ _ (by rw[hf r];exact hn)
 | .olist r a l,v,h=>by
   simp only[AV.ren] at h
   cases h with
   | olist _ _ _ _ hn hp hs=>exact .olist _ _ _ _ (by rw[hf r];exact hn) (by rw[hw,hi];exact hp) hs
 | .agg cs,v,h=>by
   simp only[AV.ren] at h
   cases h with
   | agg _ vs hl hr=>
     obtain⟨h1,h2⟩:=ka hw hi hf cs vs hr
     exact .agg _ _ (by rw[<- h1];exact hl) h2
 | .tup cs,v,h=>by
   simp only[AV.ren] at h
   cases h with
   | tup _ vs hl hr=>
     obtain⟨h1,h2⟩:=ka hw hi hf cs vs hr
     exact .tup _ _ (by rw[<- h1];exact hl) h2
 | .clo g fs cs,v,h=>by
   simp only[AV.ren] at h
   cases h with
   | clo _ _ _ vs us hl hr hl' hr'=>
     obtain⟨h1,h2⟩:=ka hw hi hf fs vs hr
     obtain⟨h3,h4⟩:=ka hw hi hf cs us hr'
     exact .clo _ _ _ _ _ (by rw[<- h1];exact hl) h2 (by rw[<- h3];exact hl') h4
theorem ka {κ κ':Kap}(hw:κ'.w=κ.w)(hi:κ'.imm=κ.imm){g:Nat->Nat}(hf:∀ r,κ'.nm r=κ.nm (g r)):∀ (xs:List AV) (vs:Array Value),
  (∀ (i:Nat) (x:AV),(AV.renL (fun r=>some (g r)) xs)[i]? = some x->ARel κ x (vs.getD i Go.undef))->(AV.renL (fun r=>some (g r)) xs).length=xs.length/\∀ (i:Nat) (x:AV),xs[i]? = some x->ARel κ' x (vs.getD i Go.undef)
 | [],vs,h=>by simp[AV.renL]
 | x::r,vs,h=>by
   have e:∀ i,(vs.extract 1 vs.size).getD i Go.undef=vs.getD (i+1) Go.undef:=by
    intro i
    simp only[Array.getD_eq_getD_getElem?,Array.getElem?_extract]
    by_cases hh:i<min vs.size vs.size - 1
    ·rw[if_pos hh];congr 2;omega
    ·rw[if_neg hh,Array.getElem?_eq_none (by omega)]
   obtain⟨h1,h2⟩:=ka hw hi hf r (vs.extract 1 vs.size) (fun i y hy=>by
    have:=h (i+1) y (by simpa[AV.renL] using hy)
    rw[e];exact this)
   refine⟨by simp[AV.renL,h1],fun i y hy=>?_⟩
   cases i with
   | zero=>
     simp only[List.getElem?_cons_zero,Option.some.injEq] at hy
     subst hy
     exact unren hw hi hf x _ (h 0 _ (by simp[AV.renL]))
   | succ i=>
     simp only[List.getElem?_cons_succ] at hy
     have:=h2 i y hy
     rw[e] at this;exact this
end
theorem eF.unren {κ κ':Kap}(hw:κ'.w=κ.w)(hi:κ'.imm=κ.imm){g:Nat->Nat}(hf:∀ r,κ'.nm r=κ.nm (g r)){r:Nat}{B:Blk}(h:eF κ (g r) (B.ren fun r=>some (g r))):eF κ' r B:=by
 cases B with
 | none=>trivial
 | cells T f l=>
   simp only[Blk.ren] at h
   rcases h with ⟨h1,h2,h3⟩ | ⟨b,n,cs,h1,h2,h3,h4,h5,h6,h7⟩
   ·refine .inl ⟨h1,?_,by rw[hf];exact h3⟩
    cases l with
    | nil=>rfl
    | cons x r=>simp[AV.renL] at h2
   ·obtain⟨q1,q2⟩:=ka hw hi hf l cs h6
    exact .inr ⟨b,n,cs,by rw[hf];exact h1,by rw[hw];exact h2,h3,by rw[<- q1];exact h4,fun hb=>by rw[<- q1];exact h5 hb,q2,by rw[hi];exact h7⟩
 | tok e sz=>
   simp only[Blk.ren] at h
   rcases h with h | ⟨g',n,cap,cur,h1,h2,h3⟩
   ·exact .inl (by rw[hf];exact h)
   ·exact .inr ⟨g',n,cap,cur,by rw[hf];exact h1,by rw[hw];exact h2,by rw[hi];exact h3⟩
 | bts e l=>
   obtain⟨b,n,cs,fz,h1,h2⟩:=h
   exact⟨b,n,cs,fz,by rw[hf];exact h1,by rw[hw,hi];exact h2⟩
theorem eF.ren {κ κ':Kap}(hw:κ'.w=κ.w)(hi:κ'.imm=κ.imm){g:Nat->Nat}(hf:∀ r,κ'.nm (g r)=κ.nm r){r:Nat}{B:Blk}(h:eF κ r B):eF κ' (g r) (B.ren fun r=>some (g r)):=by
 have hf':∀ r r',(fun r=>some (g r)) r=some r'->κ'.nm r'=κ.nm r:=fun r r' h=>by cases h;exact hf r
 cases B with
 | none=>trivial
 | cells T f l=>
   simp only[Blk.ren]
   rcases h with ⟨h1,h2,h3⟩ | ⟨b,n,cs,h1,h2,h3,h4,h5,h6,h7⟩
   ·exact .inl ⟨h1,by rw[h2];simp only[AV.renL],by rw[hf];exact h3⟩
   ·obtain⟨q1,q2⟩:=en hw hi hf' l cs h6
    exact .inr ⟨b,n,cs,by rw[hf];exact h1,by rw[hw];exact h2,h3,by rw[q1];exact h4,fun hb=>by rw[q1];exact h5 hb,q2,by rw[hi];exact h7⟩
 | tok e sz=>
   simp only[Blk.ren]
   rcases h with h | ⟨g',n,cap,cur,h1,h2,h3⟩
   ·exact .inl (by rw[hf];exact h)
   ·exact .inr ⟨g',n,cap,cur,by rw[hf];exact h1,by rw[hw];exact h2,by rw[hi];exact h3⟩
 | bts e l=>
   obtain⟨b,n,cs,fz,h1,h2⟩:=h
   exact⟨b,n,cs,fz,by rw[hf];exact h1,by rw[hw,hi];exact h2⟩
def oI (f:Nat->Option Nat):List Blk->Nat->(Nat->Nat)->List (Nat×Blk)
 | [],_,_=>[]
 | b::r,i,g=>(g i,b.ren f)::oI f r (i+1) g
def eV:List Nat->List (Nat×Blk)
 | []=>[]
 | r::q=>(r,.none)::eV q
def fW (sto:List (Nat×Blk))(f:Nat->Option Nat):List Nat->List Blk->Prop
 | [],[]=>True
 | r::rs,b::bs=>BlkZ (lookB r sto) (b.ren f)/\fW sto f rs bs
 | _,_=>False
theorem fW.get {sto:List (Nat×Blk)}{f:Nat->Option Nat}:∀ {rs:List Nat} {bs:List Blk},fW sto f rs bs->rs.length=bs.length/\∀ (i r:Nat) (b:Blk),rs[i]? = some r->bs[i]? = some b->BlkZ (lookB r sto) (b.ren f)
 | [],[],h=>⟨rfl,by simp⟩
 | r::rs,b::bs,h=>by
   obtain⟨h1,h2⟩:=h
   obtain⟨h3,h4⟩:=fW.get h2
   refine⟨by simp[h3],fun i q d hq hd=>?_⟩
   cases i with
   | zero=>simp at hq hd;subst hq;subst hd;exact h1
   | succ i=>exact h4 i q d (by simpa using hq) (by simpa using hd)
 | [],_::_,h=>h.elim
 | _::_,[],h=>h.elim
end
section
variable {P:Program}{G:Nat->List PV}
theorem eF.named {κ:Kap}{r:Nat}{B:Blk}(h:eF κ r B)(hB:B≠.none):∃ d,κ.nm r=some d:=by
 cases B with
 | none=>exact absurd rfl hB
 | cells T f l=>
   rcases h with ⟨_,_,h⟩ | ⟨b,n,cs,h,_⟩
   ·exact⟨_,h⟩
   ·exact⟨_,h⟩
 | tok e sz=>
   rcases h with h | ⟨g,n,cap,cur,h,_⟩
   ·exact⟨_,h⟩
   ·exact⟨_,h⟩
 | bts e l=>
   obtain⟨b,n,cs,fz,h,_⟩:=h
   exact⟨_,h⟩
theorem Blk.ren_ne {f:Nat->Option Nat}{b:Blk}:b.ren f≠.none↔b≠.none:=by
 cases b<;>simp[Blk.ren]
theorem MV {next:Nat}{rs:List Nat}(hnd:rs.Nodup)(hlt:∀ r∈rs,r<next){i j:Nat}(h:gIn next rs i=gIn next rs j):i=j:=by
 by_cases hi:i<rs.length
 ·have ei:=lr next rs i _ (List.getElem?_eq_getElem hi)
  have hi':=hlt _ (List.getElem_mem hi)
  by_cases hj:j<rs.length
  ·have ej:=lr next rs j _ (List.getElem?_eq_getElem hj)
   rw[ei,ej] at h
   exact (List.getElem_inj hnd).1 h
  ·have ej:=mY next rs j (by omega)
   omega
 ·have ei:=mY next rs i (by omega)
  by_cases hj:j<rs.length
  ·have ej:=lr next rs j _ (List.getElem?_eq_getElem hj)
   have hj':=hlt _ (List.getElem_mem hj)
   omega
  ·have ej:=mY next rs j (by omega)
   omega
theorem qk {f:Nat->Option Nat}{g:Nat->Nat}(hg:∀ i j,g i=g j->i=j)(rest:List (Nat×Blk))(r:Nat):∀ (bs:List Blk) (k:Nat),
  (∀ i b,bs[i]? = some b->g (k+i)=r->lookB r (oI f bs k g++rest)=b.ren f)/\((∀ i,i<bs.length->g (k+i)≠r)->lookB r (oI f bs k g++rest)=lookB r rest)
 | [],k=>⟨by simp,fun _=>rfl⟩
 | b::q,k=>by
   obtain⟨h1,h2⟩:=qk hg rest r q (k+1)
   refine⟨fun i b' hi hr=>?_,fun h=>?_⟩
   ·simp only[oI,List.cons_append,lookB]
    cases i with
    | zero=>
      simp only[List.getElem?_cons_zero,Option.some.injEq] at hi
      subst hi
      rw[if_pos (by simpa using hr)]
    | succ i=>
      rw[if_neg (fun e=>by have:=hg _ _ (e.trans hr.symm);omega)]
      exact h1 i b' (by simpa using hi) (by rw[<- hr];congr 1;omega)
   ·simp only[oI,List.cons_append,lookB]
    rw[if_neg (by have:=h 0 (by simp);simpa using this)]
    exact h2 fun i hi=>by
     have:=h (i+1) (by simp;omega)
     rwa [show k+(i+1)=k+1+i by omega] at this
theorem mV (rest:List (Nat×Blk))(r:Nat):∀ (l:List Nat),lookB r (eV l++rest)=if r∈l then .none else lookB r rest
 | []=>by simp[eV]
 | x::q=>by
   simp only[eV,List.cons_append,lookB,mV rest r q,List.mem_cons]
   by_cases h:x=r
   ·subst h;simp
   ·rw[if_neg h]
    by_cases hq:r∈q
    ·simp[hq]
    ·have:¬ (r=x\/r∈q):=by rintro (e | e);exact h e.symm;exact hq e
     rw[if_neg hq,if_neg this]
theorem bk.frame {k f:Nat}{args0:List AV}{bs:List Blk}{v:AV}{bs':List Blk}(h:bk P G k f args0 bs v bs'){rs:List Nat}{args:List AV}{sto:List (Nat×Blk)}{next:Nat}
  (hargs:AVzL args (AV.renL (gSo next rs) args0)) (hbs:fW sto (gSo next rs) rs bs) (hnd:rs.Nodup) (hlt:∀ r∈rs,r<next) (hk:k<=bs.length) (hk':k<=bs'.length) (hne:∀ b∈bs.take k,b≠.none) :
  bV P G f args sto next fun v' sto' next'=>v'=v.ren (gSo next (rs.take k))/\sto'=oI (gSo next (rs.take k)) bs' 0 (gIn next (rs.take k))++(eV (rs.drop k)++sto)/\next'=next+(bs'.length - k):=by
 obtain⟨hcal,h⟩:=h
 refine⟨hcal,fun κ vals hS hf hsz hvals=>?_⟩
 obtain⟨hrl,hat⟩:=hbs.get
 let κ1:Kap:=⟨κ.w,fun i=>κ.nm (gIn next rs i),κ.imm⟩
 have hσ1:(fun r=>lookB r (bN bs 0))=fun r=>bs.getD r .none:=gh bs
 have hlook:∀ i b,bs[i]? = some b->∃ r,rs[i]? = some r/\gIn next rs i=r/\eF κ r (b.ren (gSo next rs))/\(b≠.none->lookB r sto≠.none):=by
  intro i b hb
  have hi:i<rs.length:=by rw[hrl];exact (List.getElem?_eq_some_iff.1 hb).1
  have hr:=List.getElem?_eq_getElem hi
  obtain⟨q1,q2⟩:=(hat i _ b hr hb).rel (hS.blk rs[i])
  exact⟨rs[i],hr,lr next rs i _ hr,q1,fun hb'=>q2 (Blk.ren_ne.2 hb')⟩
 have hlive:∀ i,bs.getD i .none≠.none->∃ b,bs[i]? = some b/\b≠.none:=by
  intro i hi
  rw[List.getD_eq_getElem?_getD] at hi
  cases hb:bs[i]? with
  | none=>rw[hb] at hi;exact absurd rfl hi
  | some b=>rw[hb] at hi;exact⟨b,rfl,hi⟩
 have hB1:∀ i b,bs[i]? = some b->eF κ1 i b:=by
  intro i b hb
  obtain⟨r,hr,hgr,hB,_⟩:=hlook i b hb
  exact eF.unren (κ:=κ) (κ':=κ1) rfl rfl (g:=gIn next rs) (fun _=>rfl) (by rw[hgr];exact hB)
 have hl1:∀ b,(bU κ1 (fun r=>lookB r (bN bs 0)) G).lent b->(bU κ (fun r=>lookB r sto) G).lent b:=by
  rintro b ⟨i,d,h1,h2,h3⟩
  simp only[congrFun hσ1 i] at h1
  obtain⟨b',hb,hbn⟩:=hlive i h1
  obtain⟨r,hr,hgr,_,hn⟩:=hlook i b' hb
  exact⟨r,d,hn hbn,by rw[<- hgr];exact h2,h3⟩
 have hm1:∀ b,(bU κ1 (fun r=>lookB r (bN bs 0)) G).mine b->(bU κ (fun r=>lookB r sto) G).mine b:=fun b hb=>hb.elim .inl (fun h=>.inr (hl1 b h))
 have hS1:SRel (bU κ1 (fun r=>lookB r (bN bs 0)) G) κ1 (fun r=>lookB r (bN bs 0)):=by
  refine⟨fun i=>?_,fun i j d d' b h1 h2 hij hd hd' hb=>?_,fun i d b h1 hd hb=>.inr ⟨i,d,h1,hd,hb⟩,hS.immLt,?_⟩
  ·rw[congrFun hσ1 i]
   show eF κ1 i (bs.getD i .none)
   rw[List.getD_eq_getElem?_getD]
   cases hb:bs[i]? with
   | none=>trivial
   | some b=>exact hB1 i b hb
  ·simp only[congrFun hσ1 i] at h1
   simp only[congrFun hσ1 j] at h2
   obtain⟨b1,hb1,hn1⟩:=hlive i h1
   obtain⟨b2,hb2,hn2⟩:=hlive j h2
   obtain⟨r,hr,hgr,_,hn⟩:=hlook i b1 hb1
   obtain⟨r',hr',hgr',_,hn'⟩:=hlook j b2 hb2
   refine hS.apart r r' d d' b (hn hn1) (hn' hn2) (fun e=>hij ?_) (by rw[<- hgr];exact hd) (by rw[<- hgr'];exact hd') hb
   obtain⟨hi,ei⟩:=List.getElem?_eq_some_iff.1 hr
   obtain⟨hj,ej⟩:=List.getElem?_eq_some_iff.1 hr'
   exact (List.getElem_inj hnd).1 (ei.trans (e.trans ej.symm))
  ·refine⟨fun g o p hp=>?_,fun g hg=>?_⟩
   ·exact hS.glob.1 g o p hp
   ·obtain⟨h1,h2,h3⟩:=hS.glob.2 g hg
    exact⟨h1,fun hl=>h2 (hl1 g hl),h3⟩
 have hf1:∀ r,bs.length<=r->κ1.nm r=none:=fun r hr=>by
  show κ.nm (gIn next rs r)=none
  rw[mY next rs r (by omega)]
  exact hf _ (by omega)
 have hlen0:args0.length=args.length:=by
  rw[hargs.length]
  have:∀ (f:Nat->Option Nat) (l:List AV),(AV.renL f l).length=l.length:=by
   intro f l
   induction l with
   | nil=>simp[AV.renL]
   | cons x r ih=>simp[AV.renL,ih]
  rw[this]
 have hv1:∀ (i:Nat) (x:AV),args0[i]? = some x->ARel κ1 x (vals.getD i Go.undef):=
  (ka (κ:=κ) (κ':=κ1) rfl rfl (g:=gIn next rs) (fun _=>rfl) args0 vals (fun i x hx=>by
   obtain⟨y,hy,hyx⟩:=hargs.get i x hx
   exact hyx.rel (hvals i y hy))).2
 refine (h κ1 vals hS1 hf1 (by omega) hv1).mono ?_
 rintro e w' ⟨u,v',κ1',sto',next',rfl,rfl,he,hL,hv,hS',hf',rfl,rfl,rfl⟩
 obtain⟨g,hgdef⟩:∃ g,g=gIn next (rs.take k):=⟨_,rfl⟩
 have htl:(rs.take k).length=k:=by rw[List.length_take];omega
 have hg1:∀ i,i<k->∃ r,rs[i]? = some r/\g i=r/\r<next:=by
  intro i hi
  have hi':i<rs.length:=by omega
  have hr:=List.getElem?_eq_getElem hi'
  refine⟨rs[i],hr,?_,hlt _ (List.getElem_mem hi')⟩
  rw[hgdef]
  exact lr next _ i _ (by rw[List.getElem?_take,if_pos hi];exact hr)
 have hg2:∀ i,k<=i->g i=next+(i - k):=fun i hi=>by rw[hgdef,mY next _ i (by omega),htl]
 have hginj:∀ i j,g i=g j->i=j:=fun i j hij=>by
  rw[hgdef] at hij
  exact MV (hnd.sublist (List.take_sublist _ _)) (fun r hr=>hlt r (List.mem_of_mem_take hr)) hij
 have hso:gSo next (rs.take k)=fun r=>some (g r):=by rw[hgdef];rfl
 rw[hso,<- hgdef]
 let κ':Kap:=⟨κ1'.w,fun r=>if r<next then κ.nm r else κ1'.nm (k+(r - next)),κ1'.imm⟩
 have hnmk:∀ i,i<k->κ1'.nm i=κ1.nm i:=by
  intro i hi
  have hib:i<bs.length:=by omega
  have hb:=List.getElem?_eq_getElem hib
  obtain⟨d,hd⟩:=(hB1 i _ hb).named (hne _ (List.mem_take_iff_getElem.2 ⟨i,by omega,rfl⟩))
  rw[hd]
  exact he.nm i d (by simp only[Kap.cut];rw[if_pos hi];exact hd)
 have hnm':∀ i,κ'.nm (g i)=κ1'.nm i:=by
  intro i
  by_cases hi:i<k
  ·obtain⟨r,hr,hgr,hrn⟩:=hg1 i hi
   show (if g i<next then κ.nm (g i) else κ1'.nm (k+(g i - next)))=_
   rw[hgr,if_pos hrn,hnmk i hi]
   show κ.nm r=κ.nm (gIn next rs i)
   rw[lr next rs i r hr]
  ·show (if g i<next then κ.nm (g i) else κ1'.nm (k+(g i - next)))=_
   rw[hg2 i (by omega),if_neg (by omega)]
   congr 1;omega
 have hext:Ext κ κ':=⟨fun b o hi=>he.imm b o hi,fun b o v hi hc=>he.cell b o v hi hc,fun r d hd=>by
  have hr:r<next:=by
   rcases Nat.lt_or_ge r next with h | h
   ·exact h
   ·rw[hf r h] at hd;cases hd
  show (if r<next then κ.nm r else _)=_
  rw[if_pos hr];exact hd,fun b o ho hc=>he.obj b o ho hc⟩
 have hout:∀ r d b,lookB r sto≠.none->r∉rs->κ.nm r=some d->d.block=some b->b<κ.w.heap.size/\¬ (bU κ1 (fun r=>lookB r (bN bs 0)) G).lent b:=by
  intro r d b h1 h2 h3 h4
  refine⟨(hS.blk r).lt h1 h3 h4,?_⟩
  rintro⟨i,d',q1,q2,q3⟩
  simp only[congrFun hσ1 i] at q1
  obtain⟨b',hb,hbn⟩:=hlive i q1
  obtain⟨r',hr',hgr,_,hn⟩:=hlook i b' hb
  refine hS.apart r r' d d' b h1 (hn hbn) (fun e=>h2 (e▸List.mem_of_getElem? hr')) h3 (by rw[<- hgr];exact q2) h4 q3
 have hmem:∀ r,r∈rs->(∃ i,i<bs'.length/\g i=r)\/r∈rs.drop k:=by
  intro r hr
  obtain⟨i,hi⟩:=List.getElem?_of_mem hr
  by_cases hik:i<k
  ·obtain⟨r',hr',hgr,_⟩:=hg1 i hik
   rw[hi] at hr';cases hr'
   exact .inl ⟨i,by omega,hgr⟩
  ·refine .inr (List.mem_of_getElem? (i:=i - k) ?_)
   rw[List.getElem?_drop,show k+(i - k)=i by omega];exact hi
 have hσ':∀ r,(∃ i b,bs'[i]? = some b/\g i=r/\lookB r (oI (fun r=>some (g r)) bs' 0 g++(eV (rs.drop k)++sto))=b.ren (fun r=>some (g r))) \/
   lookB r (oI (fun r=>some (g r)) bs' 0 g++(eV (rs.drop k)++sto)) = .none\/(r∉rs/\(∀ i,i<bs'.length->g i≠r)/\lookB r (oI (fun r=>some (g r)) bs' 0 g++(eV (rs.drop k)++sto))=lookB r sto):=by
  intro r
  obtain⟨q1,q2⟩:=qk (f:=fun r=>some (g r)) hginj (eV (rs.drop k)++sto) r bs' 0
  by_cases hi:∃ i,i<bs'.length/\g i=r
  ·obtain⟨i,hi,hgi⟩:=hi
   exact .inl ⟨i,bs'[i],List.getElem?_eq_getElem hi,hgi,q1 i _ (List.getElem?_eq_getElem hi) (by rw[Nat.zero_add];exact hgi)⟩
  ·have hni:∀ i,i<bs'.length->g i≠r:=fun i h1 h2=>hi ⟨i,h1,h2⟩
   have e:=q2 (fun i h1=>by rw[Nat.zero_add];exact hni i h1)
   rw[mV] at e
   by_cases hr:r∈rs.drop k
   ·rw[if_pos hr] at e;exact .inr (.inl e)
   ·rw[if_neg hr] at e
    exact .inr (.inr ⟨fun h=>(hmem r h).elim hi hr,hni,e⟩)
 have hlive':∀ i b,bs'[i]? = some b->b.ren (fun r=>some (g r))≠.none->lookB i (bN bs' 0)≠.none:=by
  intro i b hb hbn
  have e2:lookB i (bN bs' 0)=bs'.getD i .none:=congrFun (gh bs') i
  rw[e2,List.getD_eq_getElem?_getD,hb]
  exact Blk.ren_ne.1 hbn
 refine⟨u,_,κ',_,_,rfl,rfl,hext,⟨hL.os,hL.tape,hL.output,hL.size,fun b hb hl=>hL.block b hb fun h=>hl (hl1 b h),fun b o hi=>(hL.imm b o hi).imp id (hm1 b)⟩,
  rY (κ:=κ1') (κ':=κ') rfl rfl (fun r r' hr=>by cases hr;exact hnm' r) v' u hv,?_,fun r hr=>?_,rfl,rfl,rfl⟩
 ·refine⟨fun r=>?_,fun r r' d d' b h1 h2 hrr hd hd' hb=>?_,fun r d b h1 hd hb=>?_,hS'.immLt,?_⟩
  ·show eF κ' r (lookB r _)
   rcases hσ' r with ⟨i,b,hb,hgi,e⟩ | e | ⟨hr,hni,e⟩
   ·rw[e,<- hgi]
    refine eF.ren (κ:=κ1') (κ':=κ') rfl rfl hnm' ?_
    have:=hS'.blk i
    have e2:lookB i (bN bs' 0)=bs'.getD i .none:=congrFun (gh bs') i
    simp only[e2,List.getD_eq_getElem?_getD,hb] at this
    exact this
   ·rw[e];trivial
   ·rw[e]
    refine (hS.blk r).keep hext fun hbn d b hd hb=>?_
    obtain⟨q1,q2⟩:=hout r d b hbn hr hd hb
    refine⟨hL.block b q1 q2,fun o ho=>?_⟩
    rcases hL.imm b o ho with h | h | h
    ·exact h
    ·exact absurd q1 (Nat.not_lt.2 h)
    ·exact absurd h q2
  ·have cal:∀ r i b0 d,bs'[i]? = some b0->g i=r->b0.ren (fun r=>some (g r))≠.none->κ'.nm r=some d->lookB i (bN bs' 0)≠.none/\κ1'.nm i=some d:=by
    intro r i b0 d hb0 hgi hbn hd
    exact⟨hlive' i b0 hb0 hbn,by rw[<- hnm' i,hgi];exact hd⟩
   have own:∀ r d,r∉rs->lookB r sto≠.none->κ'.nm r=some d->κ.nm r=some d:=by
    intro r d hr hbn hd
    obtain⟨d',hd'⟩:=(hS.blk r).named hbn
    have:=hext.nm r d' hd'
    rw[this] at hd;cases hd;exact hd'
   have mix:∀ r i b0 d d' b,bs'[i]? = some b0->b0.ren (fun r=>some (g r))≠.none->κ1'.nm i=some d->d.block=some b->lookB i (bN bs' 0)≠.none->r∉rs->lookB r sto≠.none->κ.nm r=some d'->d'.block≠some b:=by
    intro r i b0 d d' b hb0 hbn hd hdb hl hr hrl hd' hdb'
    obtain⟨q1,q2⟩:=hout r d' b hrl hr hd' hdb'
    rcases hS'.mine i d b hl hd hdb with h | h
    ·exact absurd q1 (Nat.not_lt.2 h)
    ·exact q2 h
   rcases hσ' r with ⟨i,b1,hb1,hgi,e⟩ | e | ⟨hr,hni,e⟩
   ·have h1':b1.ren (fun r=>some (g r))≠.none:=by
     intro h0;exact h1 (e.trans h0)
    obtain⟨p1,p2⟩:=cal r i b1 d hb1 hgi h1' hd
    rcases hσ' r' with ⟨j,b2,hb2,hgj,e'⟩ | e' | ⟨hr',hni',e'⟩
    ·have h2':b2.ren (fun r=>some (g r))≠.none:=by
      intro h0;exact h2 (e'.trans h0)
     obtain⟨p3,p4⟩:=cal r' j b2 d' hb2 hgj h2' hd'
     exact hS'.apart i j d d' b p1 p3 (fun hij=>hrr (by rw[<- hgi,<- hgj,hij])) p2 p4 hb
    ·exact absurd e' h2
    ·have h2':lookB r' sto≠.none:=by intro h0;exact h2 (e'.trans h0)
     exact mix r' i b1 d d' b hb1 h1' p2 hb p1 hr' h2' (own r' d' hr' h2' hd')
   ·exact absurd e h1
   ·have h1':lookB r sto≠.none:=by intro h0;exact h1 (e.trans h0)
    have hd0:=own r d hr h1' hd
    rcases hσ' r' with ⟨j,b2,hb2,hgj,e'⟩ | e' | ⟨hr',hni',e'⟩
    ·have h2':b2.ren (fun r=>some (g r))≠.none:=by
      intro h0;exact h2 (e'.trans h0)
     obtain⟨p3,p4⟩:=cal r' j b2 d' hb2 hgj h2' hd'
     intro hb'
     exact mix r j b2 d' d b hb2 h2' p4 hb' p3 hr h1' hd0 hb
    ·exact absurd e' h2
    ·have h2':lookB r' sto≠.none:=by intro h0;exact h2 (e'.trans h0)
     exact hS.apart r r' d d' b h1' h2' hrr hd0 (own r' d' hr' h2' hd') hb
  ·rcases hσ' r with ⟨i,b1,hb1,hgi,e⟩ | e | ⟨hr,hni,e⟩
   ·have h1':b1.ren (fun r=>some (g r))≠.none:=by
     intro h0;exact h1 (e.trans h0)
    refine hm1 b (hS'.mine i d b (hlive' i b1 hb1 h1') (by rw[<- hnm' i,hgi];exact hd) hb)
   ·exact absurd e h1
   ·have h1':lookB r sto≠.none:=by intro h0;exact h1 (e.trans h0)
    obtain⟨d',hd'⟩:=(hS.blk r).named h1'
    have:=hext.nm r d' hd'
    rw[this] at hd;cases hd
    exact .inr ⟨r,d,h1',hd',hb⟩
  ·refine⟨hS'.glob.1,fun g' hg'=>?_⟩
   obtain⟨h1,h2,cs,T,fz,h3,h4⟩:=hS.glob.2 g' hg'
   exact⟨h1,h2,cs,T,fz,(hL.block g' h1 fun h=>h2 (hl1 g' h)).trans h3,h4⟩
 ·show (if r<next then κ.nm r else κ1'.nm (k+(r - next)))=none
  rw[if_neg (by omega)]
  exact hf' _ (by omega)
def vg (k:Nat)(rs:List Nat)(bs bs':List Blk)(next:Nat):Bool:=
 decide (k<=bs.length)&&decide (k<=bs'.length)&&(bs.take k).all (fun b=>match b with | .none=>false | _=>true)&&rs.all (fun r=>decide (r<next))&&decide rs.Nodup
theorem ab.lentK {k f:Nat}{args0:List AV}{bs:List Blk}{v:AV}{bs':List Blk}(h:bk P G k f args0 bs v bs')(rs:List Nat){args:List AV}{env:List (Nat×AV)}{sto:List (Nat×Blk)}{next:Nat}{K:AV->St->Prop}
  (hok:vg k rs bs bs' next=true) (hargs:AVzL args (AV.renL (gSo next rs) args0)) (hbs:fW sto (gSo next rs) rs bs)
  (hK:K (v.ren (gSo next (rs.take k))) ⟨env,oI (gSo next (rs.take k)) bs' 0 (gIn next (rs.take k))++(eV (rs.drop k)++sto),next+(bs'.length - k)⟩):ab P G f args ⟨env,sto,next⟩ K:=by
 simp only[vg,Bool.and_eq_true,decide_eq_true_eq,List.all_eq_true] at hok
 obtain⟨⟨⟨⟨h1,h2⟩,h3⟩,h4⟩,h5⟩:=hok
 refine ab.lent (h.frame hargs hbs h5 h4 h1 h2 (fun b hb e=>?_)) ?_
 ·have:=h3 b hb
  subst e;cases this
 ·rintro v' sto' next' ⟨rfl,rfl,rfl⟩
  exact hK
theorem ab.weak {f:Nat}{args args':List AV}{s s':St}{K:AV->St->Prop}(hw:WkC s args s' args')(h:ab P G f args' s' K):ab P G f args s K:=by
 obtain⟨s2,args2,hw2,h2⟩:=h
 refine⟨s2,args2,⟨hw2.1.trans hw.1,hw2.2.1.trans hw.2.1,fun c κ0 κ N a w vals hR hv=>?_⟩,?_⟩
 ·obtain⟨κ1,h3,h4⟩:=hw.2.2 c κ0 κ N a w vals hR hv
  exact hw2.2.2 c κ0 κ1 N a w vals h3 h4
 ·rcases h2 with ⟨ps,r,k1,k2,k3⟩ | ⟨Q,k1,k2⟩
  ·exact .inl ⟨ps,r,k1,k2,k3⟩
  ·refine .inr ⟨Q,k1,fun v sto' next' hq=>?_⟩
   have:=k2 v sto' next' hq
   rw[hw.2.1] at this
   exact this
end
theorem Ej (k:Nat):bN [] k=[]:=_root_.id rfl
theorem yX (b:Blk)(r:List Blk)(k:Nat):bN (b::r) k=(k,b)::bN r (k+1):=_root_.id rfl
theorem yw (sto:List (Nat×Blk))(f:Nat->Option Nat):fW sto f [] []=True:=_root_.id rfl
theorem tp (sto:List (Nat×Blk))(f:Nat->Option Nat)(r:Nat)(rs:List Nat)(b:Blk)(bs:List Blk):fW sto f (r::rs) (b::bs)=(BlkZ (lookB r sto) (b.ren f)/\fW sto f rs bs):=_root_.id rfl
theorem Hu (f:Nat->Option Nat)(i:Nat)(g:Nat->Nat):oI f [] i g=[]:=_root_.id rfl
theorem CL (f:Nat->Option Nat)(b:Blk)(r:List Blk)(i:Nat)(g:Nat->Nat):oI f (b::r) i g=(g i,b.ren f)::oI f r (i+1) g:=_root_.id rfl
theorem CW:eV []=[]:=_root_.id rfl
theorem xS (r:Nat)(q:List Nat):eV (r::q)=(r,.none)::eV q:=_root_.id rfl
theorem PQ (next:Nat)(rs:List Nat)(r:Nat):gSo next rs r=some (gIn next rs r):=_root_.id rfl
theorem MU (next i:Nat):gIn next [] i=next+i:=_root_.id rfl
theorem Sr (next r:Nat)(q:List Nat):gIn next (r::q) 0=r:=_root_.id rfl
theorem Sq (next r i:Nat)(q:List Nat):gIn next (r::q) (i+1)=gIn next q i:=_root_.id rfl
def qH (s sz off len:Nat):Blk->Option (List PV)
 | .cells _ _ l=>if s=1/\sz=1/\off+len<=l.length/\((l.drop off).take len).all AV.one=true then pvs ((l.drop off).take len) else none
 | _=>none
theorem tI (σ:am)(sz r s off len:Nat):bc σ sz (.row r s off len)=qH s sz off len (σ r):=by
 simp only[bc,qH]
 cases σ r<;>rfl
theorem lX (k:IntKind)(l:List Int):(l.map (PV.int k)).all PV.one=true:=by
 rw[List.all_eq_true];intro x hx;obtain⟨n,_,rfl⟩:=List.mem_map.1 hx;rfl
theorem El {T:Nat}{f:Bool}{l:List PV}{n:Nat}(h:n<=l.length)(h1:l.all PV.one=true):qH 1 1 0 n (.cells T f (l.map .pv))=some (l.take n):=by
 have h2:(((l.map AV.pv).drop 0).take n)=(l.take n).map .pv:=by rw[List.drop_zero,List.map_take]
 have h3:((l.take n).map AV.pv).all AV.one=true:=by
  rw[List.all_eq_true] at h1 ⊢
  intro x hx
  obtain⟨y,hy,rfl⟩:=List.mem_map.1 hx
  exact h1 y (List.mem_of_mem_take hy)
 have h4:∀ k:List PV,pvs (k.map .pv)=some k:=by
  intro k
  induction k with
  | nil=>rfl
  | cons a r ih=>simp[pvs,AV.toPV,ih]
 simp only[qH]
 rw[if_pos (by refine⟨trivial,trivial,by simp;omega,by rw[h2];exact h3⟩),h2,h4]
theorem ze {T:Nat}{f:Bool}{k:IntKind}{p:List Int}{n:Nat}(h:n=p.length):qH 1 1 0 n (.cells T f ((p.map (PV.int k)).map .pv))=some (p.map (PV.int k)):=by
 rw[El (by simp;omega) (lX k p),List.take_of_length_le (by simp;omega)]
theorem nN {sz r off n:Nat}{k:IntKind}{h:Int}(h0:0<=h)(h1:h<=n)(hs:0<sz):ep sz (.row r sz off n) none (some (.pv (.int k h)))=some (.row r sz off h.toNat):=by
 simp[ep,a8,h0,h1,hs]
theorem F9 (n:Nat):((n:Int)+1).toNat=n+1:=by omega
theorem Jq (n:Int):n+1 - 1=n:=by omega
def N8:List Nat->List Nat->List Nat
 | [],a=>a
 | x::r,a=>N8 r (x::a)
theorem GG (a:List Nat):N8 [] a=a:=_root_.id rfl
theorem pj (x:Nat)(r a:List Nat):N8 (x::r) a=N8 r (x::a):=_root_.id rfl
theorem BI:∀ (l a:List Nat),l.reverse++a=N8 l a
 | [],a=>rfl
 | x::r,a=>by rw[pj,<- BI r (x::a)];simp
theorem Dy (l:List (Nat×Blk)):aQ l.reverse=N8 (aQ l) []:=by
 rw[<- BI,List.append_nil];simp[aQ]
theorem GF (ks rs:List Nat):eS 2 ks rs=(0::ks.map (· + 1),rs.map (· + 1)):=by simp[eS]
theorem aA (A:List (Nat×Nat×Nat×Nat)){k:Nat}{v v':AV}{bs':List Blk}{sto':List (Nat×Blk)}{next':Nat}(h:StZ (ct A k [0] ⟨[(0,v')],sto',next'⟩) ⟨[(0,v)],bN bs' 0,bs'.length⟩):MH k v bs' v' sto' next':=Wk.head h
theorem ab.nilB (r o e sz:Nat){P:Program}{G:Nat->List PV}{f:Nat}{args:List AV}{s:St}{K:AV->St->Prop}(he:(accB r o e sz s (lookB r s.sto)).env=s.env)(h:ab P G f args (accB r o e sz s (lookB r s.sto)) K):ab P G f args s K:=
 ab.weak (WkC.of (AQ r o e sz s) he args) h
section
variable {P:Program}{G:Nat->List PV}
theorem FB (F:St->Prop)(s:St):TD F .norm s=F s:=_root_.id rfl
theorem I8 (b:ACode)(Q:AExit->St->Prop)(e:List (Nat×AV))(σ:List (Nat×Blk))(n:Nat):NE (fun m=>vc P G m b) Q ⟨e,σ,n⟩=vc P G n b Q ⟨e,σ,n⟩:=_root_.id rfl
theorem Hh (e:List (Nat×AV)):Hi [] [] e=e:=_root_.id rfl
theorem Cw (p:Nat)(ps:List Nat)(x:PV)(xs:List PV)(e:List (Nat×AV)):Hi (p::ps) (x::xs) e=Hi ps xs ((p,.pv x)::e):=_root_.id rfl
def RC {ι:Type}(A:List (Nat×Nat×Nat×Nat))(S:ι->St)(Inv:Nat->ι->Prop)(i m0:Nat)(keep:List Nat)(Q:AExit->St->Prop)(e0:List (Nat×AV)):AExit->St->Prop
 | .norm,s'=>∃ x',Hd A m0 keep ⟨e0,s'.sto,s'.next⟩ (S x')/\Inv (i+1) x'
 | .exit j,s'=>Q (.exit j) ⟨e0,s'.sto,s'.next⟩
 | .ret,s'=>Q .ret ⟨e0,s'.sto,s'.next⟩
theorem Fs {ι:Type}(A:List (Nat×Nat×Nat×Nat))(S:ι->St)(Inv:Nat->ι->Prop)(i m0:Nat)(keep:List Nat)(Q:AExit->St->Prop)(e0 e:List (Nat×AV))(σ:List (Nat×Blk))(n:Nat):RC A S Inv i m0 keep Q e0 .norm ⟨e,σ,n⟩ = ∃ x',Hd A m0 keep ⟨e0,σ,n⟩ (S x')/\Inv (i+1) x':=_root_.id rfl
theorem Ft {ι:Type}(A:List (Nat×Nat×Nat×Nat))(S:ι->St)(Inv:Nat->ι->Prop)(i m0:Nat)(keep:List Nat)(Q:AExit->St->Prop)(e0:List (Nat×AV))(j:Nat)(e:List (Nat×AV))(σ:List (Nat×Blk))(n:Nat):RC A S Inv i m0 keep Q e0 (.exit j) ⟨e,σ,n⟩=Q (.exit j) ⟨e0,σ,n⟩:=_root_.id rfl
theorem JA {ι:Type}(A:List (Nat×Nat×Nat×Nat))(S:ι->St)(Inv:Nat->ι->Prop)(i m0:Nat)(keep:List Nat)(Q:AExit->St->Prop)(e0 e:List (Nat×AV))(σ:List (Nat×Blk))(n:Nat):RC A S Inv i m0 keep Q e0 .ret ⟨e,σ,n⟩=Q .ret ⟨e0,σ,n⟩:=_root_.id rfl
theorem PP:∀ (lb:List PV),pvs (lb.map AV.pv)=some lb
 | []=>rfl
 | p::r=>by simp[pvs,AV.toPV,PP r]
theorem JH {ι:Type}(A:List (Nat×Nat×Nat×Nat))(ch:ι->List (Nat×AV))(chB:ι->List (Nat×Blk))(Inv:Nat->ι->Prop)(x0:ι){gf:Nat}{lb:List PV}{xs:List (List PV)}(hs:S8 P G gf lb xs)
  {m0:Nat} {f:AX} {ps keep:List Nat} {a b:ACode} {Q:AExit->St->Prop} {s:St}
  (h:∀ e0 σ0 n0,ct A m0 keep s=⟨e0,σ0,n0⟩->StZ ⟨e0,σ0,n0⟩ ⟨dM e0 (ch x0),eU σ0 (chB x0),n0⟩/\Inv 0 x0/\dg (f.ev (fun i=>look i (dM e0 (ch x0))))=some (gf,[],lb.map AV.pv) /\
   (∀ i x y,xs[i]? = some y->Inv i x->y.length=ps.length/\vc P G n0 a (TD (NE (fun m=>vc P G m b) (RC A (fun x=>⟨dM e0 (ch x),eU σ0 (chB x),n0⟩) Inv i m0 keep Q (dM e0 (ch x))))) ⟨Hi ps y (dM e0 (ch x)),eU σ0 (chB x),n0⟩) /\
   ∀ x,Inv xs.length x->Q .norm ⟨dM e0 (ch x),eU σ0 (chB x),n0⟩):vc P G m0 (.range f ps keep a b) Q s:=by
 obtain⟨h1,h2,h3,h4,h5⟩:=h (ct A m0 keep s).env (ct A m0 keep s).sto (ct A m0 keep s).next rfl
 let S:ι->St:=fun x=>⟨dM (ct A m0 keep s).env (ch x),eU (ct A m0 keep s).sto (chB x),(ct A m0 keep s).next⟩
 refine⟨fun i t=>∃ x,t=S x/\Inv i x,S x0,aR h1,⟨x0,rfl,h2⟩,?_⟩
 have e:dg (f.ev (S x0).E)=some (gf,[],lb.map AV.pv):=h3
 rw[e]
 refine⟨rfl,lb,xs,PP lb,hs,?_,?_⟩
 ·rintro i y t hy ⟨x,rfl,hx⟩
  obtain⟨k1,k2⟩:=h4 i x y hy hx
  refine⟨k1,cb a (fun e s hs=>?_) _ k2⟩
  cases e with
  | norm=>
    refine cb b (fun e s hs=>?_) s hs
    cases e with
    | norm=>
      obtain⟨x',q1,q2⟩:=hs
      exact⟨S x',q1,x',rfl,q2⟩
    | exit j=>exact hs
    | ret=>exact hs
  | exit j=>exact hs.elim
  | ret=>exact hs.elim
 ·rintro t ⟨x,rfl,hx⟩
  exact h5 x hx
end
attribute [push_cast] jJ ug j4 FL FM SG SH SI SJ SK SL Dk H5 yp Dl Sy SA Sz yj ym yo IR IS Ng IU Nf IQ Lb Bh wO wN wM wL rP wK rO Ge Bi Bj rN rM Gh Gi L7 L8 Gd Gc Bl rQ sn Gg Gf wJ LX LY xj sm sl Cc Cd Md Me py xm sk pw xh GX B9 B8 xg GY sq sr ED E3 r7 Hb G0 G4 G2 G1 Ha L6 GZ su G9 G3 G5 G6 G7 G8 Cl Ck Cf Cg Ch Ci Cj Cq He Co Cn Cp xp Hc Cm GU B3 Ce GR B6 B5 B4 GS L3 L4 CR x9 s7 TX TW L9 Cu Cv xw nR K9 wD F6 F5 F8 F4 F7 Mx sY sZ Mv sT sU Mw sV sW pU ES Ad z7 Aa z8 qT Ac ak zZ EQ EO zJ zU zO zP ER zY zW tn yq B7 xe xd MF ME wy ww ye QM H2 Al Dg Ib Dw Dr Du Dt tq Dv De yd tj tk MA L0 w9 oW Gl e8 FV A8 I0 I1 Mj HO HM HR HQ HT HS I6 AZ wA AU AW AS rF Ep zj tJ pF pG HH Hf P5 P6 Eo Gq Gp Gs Gr O9 O8 O7 ta pZ pY p7 yb tg nT nU Dd KX FQ A0 zm tK qI Nl Dh p8 tl yg tm qj p9 nX nW Mu HY HX xZ Dz yD Nm zh EG zF EH zH Nr Ns H1 PC HF Fp Fq Jz ue uf Ay KT Oz KV Nk Ox KW FP KU Oy HC Sh Si GH BK JD N5 LM Pd Pe Pc zz BJ wU Hj PL DD DF MP MO DJ yG yF uc ud Ax CB xz CI xI CC xC CJ xJ sI Mm Px Pu Mn Pw Pv Mo HD GV GW wE rK oU Bg map_take map_drop CS xv QV Jk Jj Ji NI oA As za zb zc tH S3 QK E1 E2 QJ fw iJ iI Hv fv Mi Hy Hw xN Hz pq nO sH xP mR xO Jp QW QQ MD H8 DG PU PW IA IC MX MY IB M0 M1 IF ID DX DY MZ HV C2 C1 HW C6 C0 C4 C5 xW kV kU sM pR xX sO Jr Fh NO NP MT vz qZ ic LV LU qG om R7 Pb CV xR Mp Mr Mq wX rZ xV In DL JZ LR LP LO Pg LS LN LQ BM BL BN GI pk r3 BO wY GJ BP HG Js Fj Fk Fo Jy Mt Ms HJ HI NT Jv Au Fm Jw NS TS TR RS Qe Qf Qg Qh Qi Qj Nb Ea yQ Hq tZ t8 Av Ja QT Jb Jf E9 IW Ei E4 QN QP QO Jd E7 E6 Je E8 Gk Bq OJ Ej yX yw tp Hu CL CW xS PQ MU Sr Sq tI lX ze nN F9 Jq GG pj Dy GF Nat.zero_add Nat.add_zero List.length_cons List.length_nil List.nil_append List.cons_append List.append_nil List.append_assoc List.getElem?_map List.length_map List.map_nil List.map_cons List.take_succ_cons List.take_zero List.drop_succ_cons List.drop_zero List.take_nil List.drop_nil List.all_cons List.all_nil Bool.and_true Bool.true_and Bool.and_false Bool.false_and Bool.not_true Bool.not_false decide_true decide_false Bool.not_not Int.natCast_add Int.cast_ofNat_Int Int.toNat_natCast Option.some.injEq and_true true_and ge_iff_le Nat.le_refl Nat.zero_le Nat.not_lt_zero and_self
attribute [push_cast] FB I8 Hh Cw Fs Ft JA
attribute [push_cast high] Int.cast_ofNat_Int
abbrev dZ:=Nat->List AV->List (Nat×Blk)->Nat->Option (AV×List (Nat×Blk)×Nat)
def AC (call:dZ)(G:Nat->List PV)(s:St)(d:Option Nat):AOp->Option St
 | .t o=>match o.run s.E with
   | some v=>some (s.put d v)
   | none=>none
 | .m o=>match o.run G s.next s.E s.σ with
   | some p=>some ((s.mem p.2).put d p.1)
   | none=>none
 | .call f xs=>match dg (f.ev s.E) with
   | some p=>match call p.1 (p.2.1++xs.map (·.ev s.E)++p.2.2) s.sto s.next with
     | some r=>some ((⟨s.env,r.2.1,r.2.2⟩:St).put d r.1)
     | none=>none
   | none=>none
 | .fz g x=>match Kl G s.σ g (x.ev s.E) with
   | some p=>some ((s.mem p.2).put d p.1)
   | none=>none
def lE (call:dZ)(G:Nat->List PV):List AOper->St->Option St
 | [],s=>some s
 | o::r,s=>match bK s o.guard with
   | some true=>match AC call G s o.dst o.op with
     | some s'=>lE call G r s'
     | none=>none
   | some false=>lE call G r (s.put o.dst (.pv .undef))
   | none=>none
def cU (call:dZ)(f:Nat)(ps:List PV):Option PV:=
 match call f (ps.map .pv) [] 0 with
 | some r=>r.1.toPV
 | none=>none
def tG (call:dZ)(s:St)(d:Option Nat)(f:Nat)(args:List AV):Option (St×List Nat×List Nat):=
 match pvs args with
 | some ps=>match cU call f ps with
   | some r=>some (s.put d (.pv r),[],[])
   | none=>none
 | none=>match call f args s.sto s.next with
   | some r=>some ((⟨s.env,r.2.1,r.2.2⟩:St).put d r.1,eS 2 (aQ (r.2.1.take (r.2.1.length - s.sto.length)).reverse) (s.sto.map (·.1)))
   | none=>none
def ml (call:dZ)(G:Nat->List PV)(s:St)(d:Option Nat):AOp->Option (St×List Nat×List Nat)
 | .t o=>match o.run s.E with
   | some v=>some (s.put d v,[],[])
   | none=>none
 | .m o=>match o.run G s.next s.E s.σ with
   | some p=>some ((s.mem p.2).put d p.1,eS (bl o) (aQ p.2) (o.reads s.E))
   | none=>none
 | .call f xs=>match dg (f.ev s.E) with
   | some p=>tG call s d p.1 (p.2.1++xs.map (·.ev s.E)++p.2.2)
   | none=>none
 | .fz _ _=>none
def exD (call:dZ)(G:Nat->List PV)(A:List (List Nat)):List AOper->List (List Nat×List Nat)->St->Option St
 | [],T,s=>match okB A T with
   | true=>some s
   | false=>none
 | o::r,T,s=>match bK s o.guard with
   | some true=>match ml call G s o.dst o.op with
     | some q=>exD call G A r (T++[q.2]) q.1
     | none=>none
   | some false=>exD call G A r (T++[([],[])]) (s.put o.dst (.pv .undef))
   | none=>none
def exC (call:dZ)(G:Nat->List PV):Nat->ACode->St->Option (AExit×St)
 | 0,_,_=>none
 | _+1,.skip,s=>some (.norm,s)
 | _+1,.ops l keep,s=>match lE call G l s with
   | some s'=>some (.norm,clip0 keep s')
   | none=>none
 | _+1,.draw A l l2 keep,s=>match exD call G A l [] s with
   | some s1=>match lE call G l2 s1 with
     | some s'=>some (.norm,clip0 keep s')
     | none=>none
   | none=>none
 | n+1,.seq a b,s=>match exC call G n a s with
   | some (.norm,s')=>exC call G n b s'
   | some (.exit i,s')=>some (.exit i,s')
   | some (.ret,s')=>some (.ret,s')
   | none=>none
 | n+1,.cond x a b,s=>match x.ev s.E with
   | .pv (.bool true)=>exC call G n a s
   | .pv (.bool false)=>exC call G n b s
   | _=>none
 | n+1,.block id b,s=>match exC call G n b s with
   | some (.norm,s')=>some (.norm,s')
   | some (.exit i,s')=>if i=id then some (.norm,s') else some (.exit i,s')
   | some (.ret,s')=>some (.ret,s')
   | none=>none
 | n+1,.loop keep b,s=>match exC call G n b s with
   | some (.norm,s')=>exC call G n (.loop keep b) s'
   | some (.exit i,s')=>some (.exit i,s')
   | some (.ret,s')=>some (.ret,s')
   | none=>none
 | _+1,.range _ _ _ _ _,_=>none
 | _+1,.exit id,s=>some (.exit id,s)
 | _+1,.ret,s=>some (.ret,s)
structure TabRow where
 f:Nat
 muts:List Nat
 fn:AFn
def H7 (f:Nat):List TabRow->Option AFn
 | []=>none
 | r::q=>if r.f=f then some r.fn else H7 f q
def xK (G:Nat->List PV)(fn:AFn)(s:St):Option (AV×List (Nat×Blk)×Nat):=
 match e9 G s fn.res with
 | some l=>some (AA l,s.sto,s.next)
 | none=>none
def exF (tab:List TabRow)(O:Nat->List PV->Option PV)(G:Nat->List PV)(m:Nat):Nat->dZ
 | 0,_,_,_,_=>none
 | n+1,f,args,sto,next=>match (pvs args).bind (O f) with
   | some r=>some (.pv r,sto,next)
   | none=>match H7 f tab with
     | some fn=>if args.length<=fn.N then match exC (exF tab O G m n) G m fn.body ⟨cY args,sto,next⟩ with
       | some (.norm,s)=>xK G fn s
       | some (.ret,s)=>xK G fn s
       | _=>none
       else none
     | none=>none
section
variable {P:Program}{G:Nat->List PV}
def bm (sto:List (Nat×Blk))(next:Nat)(sto':List (Nat×Blk))(next':Nat):Prop:=(∃ pre,sto'=pre++sto)/\next<=next'
theorem bm.refl (sto:List (Nat×Blk))(next:Nat):bm sto next sto next:=⟨⟨[],rfl⟩,Nat.le_refl _⟩
theorem bm.trans {a b c:List (Nat×Blk)}{i j k:Nat}(h:bm a i b j)(g:bm b j c k):bm a i c k:=by
 obtain⟨⟨p,rfl⟩,h2⟩:=h
 obtain⟨⟨q,rfl⟩,g2⟩:=g
 exact⟨⟨q++p,by simp⟩,Nat.le_trans h2 g2⟩
theorem ny:∀ (δ l:List (Nat×Blk)),l9 l δ=δ.reverse++l
 | [],l=>rfl
 | p::r,l=>by rw[l9,ny r];simp
theorem bm.put {s:St}{sto':List (Nat×Blk)}{n:Nat}{e:List (Nat×AV)}(h:bm s.sto s.next sto' n)(d:Option Nat)(v:AV):bm s.sto s.next ((⟨e,sto',n⟩:St).put d v).sto ((⟨e,sto',n⟩:St).put d v).next:=by
 cases d<;>exact h
theorem bm.mem (s:St)(δ:List (Nat×Blk))(d:Option Nat)(v:AV):bm s.sto s.next ((s.mem δ).put d v).sto ((s.mem δ).put d v).next:=by
 have:bm s.sto s.next (l9 s.sto δ) (s.next+1):=⟨⟨δ.reverse,ny δ s.sto⟩,Nat.le_succ _⟩
 cases d<;>exact this
theorem bm.put0 (s:St)(d:Option Nat)(v:AV):bm s.sto s.next (s.put d v).sto (s.put d v).next:=by
 cases d<;>exact bm.refl _ _
def fl (P:Program)(G:Nat->List PV)(call:dZ):Prop:=
 ∀ f args sto next v sto' next',call f args sto next=some (v,sto',next')->bm sto next sto' next'/\(
   (∃ ps r,pvs args=some ps/\ae P G f ps r/\v = .pv r/\sto'=sto/\next'=next)\/bV P G f args sto next (fun v' s' n'=>v'=v/\s'=sto'/\n'=next'))
theorem bV.mono {f:Nat}{args:List AV}{sto:List (Nat×Blk)}{next:Nat}{Q Q':AV->List (Nat×Blk)->Nat->Prop}(h:bV P G f args sto next Q)(hq:∀ v s n,Q v s n->Q' v s n):bV P G f args sto next Q':=by
 obtain⟨h1,h2⟩:=h
 refine⟨h1,fun κ vals a1 a2 a3 a4=>(h2 κ vals a1 a2 a3 a4).mono ?_⟩
 rintro e w' ⟨u,v,κ',sto',next',b1,b2,b3,b4,b5,b6,b7,b8⟩
 exact⟨u,v,κ',sto',next',b1,b2,b3,b4,b5,b6,b7,hq _ _ _ b8⟩
theorem uN {call:dZ}(hc:fl P G call){f:Nat}{ps:List PV}{r:PV}(h:cU call f ps=some r):ae P G f ps r:=by
 unfold cU at h
 split at h
 ·rename_i q hq
  obtain⟨v,sto',next'⟩:=q
  rcases (hc f _ _ _ v sto' next' hq).2 with ⟨ps',r',h1,h2,rfl,_,_⟩ | ht
  ·rw[pvs_map] at h1
   cases h1
   simp only[AV.toPV,Option.some.injEq] at h
   subst h;exact h2
  ·exact ae.of_tcalls (ht.mono (by rintro v' _ _ ⟨rfl,_,_⟩;exact PM h))
 ·cases h
theorem Nd {call:dZ}(hc:fl P G call){s s':St}{d:Option Nat}{o:AOp}{F:St->Prop}(h:AC call G s d o=some s')(hF:F s'):mb P G F s d o:=by
 cases o with
 | t o=>
   simp only[AC] at h
   split at h
   ·rename_i v hv
    cases h
    simp only[mb,hv,iK];exact hF
   ·cases h
 | m o=>
   simp only[AC] at h
   split at h
   ·rename_i v hv
    cases h
    simp only[mb,hv,aI];exact hF
   ·cases h
 | fz g x=>
   simp only[AC] at h
   split at h
   ·rename_i v hv
    cases h
    simp only[mb,hv,aI];exact hF
   ·cases h
 | call f xs=>
   simp only[AC] at h
   split at h
   ·rename_i p hp
    split at h
    ·rename_i r hr
     cases h
     obtain⟨v,sto',next'⟩:=r
     simp only[mb,hp,aI,ET]
     rcases (hc _ _ _ _ v sto' next' hr).2 with ⟨ps,r,h1,h2,rfl,rfl,rfl⟩ | ht
     ·exact ab.pure h2 h1 hF
     ·exact ab.lent ht (by rintro v' s' n' ⟨rfl,rfl,rfl⟩;exact hF)
    ·cases h
   ·cases h
theorem jY {call:dZ}(hc:fl P G call){F:St->Prop}:∀ (l:List AOper) (s s':St),lE call G l s=some s'->F s'->di P G l F s
 | [],s,s',h,hF=>by simp only[lE,Option.some.injEq] at h;subst h;exact hF
 | o::r,s,s',h,hF=>by
   simp only[lE] at h
   simp only[di]
   split at h
   ·rename_i hw
    rw[hw]
    split at h
    ·rename_i s1 h1
     exact Nd hc h1 (jY hc r s1 s' h hF)
    ·cases h
   ·rename_i hw
    rw[hw]
    exact jY hc r _ s' h hF
   ·cases h
theorem nc {call:dZ}(hc:fl P G call){A:List (List Nat)}{F:St->Prop}:∀ (l:List AOper) (T:List (List Nat×List Nat)) (s s':St),exD call G A l T s=some s'->F s'->vcD P G A F l T s
 | [],T,s,s',h,hF=>by
   simp only[exD] at h
   split at h
   ·rename_i ho
    cases h
    exact⟨ho,hF⟩
   ·cases h
 | o::r,T,s,s',h,hF=>by
   simp only[exD] at h
   simp only[vcD]
   split at h
   ·rename_i hw
    rw[hw]
    simp only[aI,qJ]
    split at h
    ·rename_i q h1
     obtain⟨d,op,g⟩:=o
     simp only at h1 ⊢
     cases op with
     | t o=>
       simp only[ml] at h1
       split at h1
       ·rename_i v hv
        cases h1
        simp only[gZ,hv,aI,Br]
        exact nc hc r _ _ s' h hF
       ·cases h1
     | m o=>
       simp only[ml] at h1
       split at h1
       ·rename_i v hv
        cases h1
        simp only[gZ,hv,aI,stepM]
        exact nc hc r _ _ s' h hF
       ·cases h1
     | fz g x=>simp[ml] at h1
     | call f xs=>
       simp only[ml] at h1
       split at h1
       ·rename_i p hp
        simp only[gZ,hp,aI]
        unfold tG at h1
        split at h1
        ·rename_i ps hps
         split at h1
         ·rename_i v hv
          cases h1
          exact .inl ⟨ps,v,hps,uN hc hv,nc hc r _ _ s' h hF⟩
         ·cases h1
        ·rename_i hps
         split at h1
         ·rename_i v hv
          cases h1
          obtain⟨v,sto',next'⟩:=v
          obtain⟨⟨⟨pre,hpre⟩,hle⟩,⟨ps',r',k1,_⟩ | ht⟩:=hc _ _ _ _ v sto' next' hv
          ·rw[hps] at k1;cases k1
          ·have e1:l9 s.sto (sto'.take (sto'.length - s.sto.length)).reverse=sto':=by
            rw[ny,List.reverse_reverse,hpre]
            simp
           refine .inr ⟨v,(sto'.take (sto'.length - s.sto.length)).reverse,next',?_,hle,?_⟩
           ·rw[e1];exact ht
           ·rw[e1];exact nc hc r _ _ s' h hF
         ·cases h1
       ·cases h1
    ·cases h
   ·rename_i hw
    rw[hw]
    exact nc hc r _ _ s' h hF
   ·cases h
theorem yS {call:dZ}(hc:fl P G call){s s':St}{d:Option Nat}{o:AOp}(h:AC call G s d o=some s'):bm s.sto s.next s'.sto s'.next:=by
 cases o with
 | t o=>
   simp only[AC] at h
   split at h
   ·cases h;exact bm.put0 _ _ _
   ·cases h
 | m o=>
   simp only[AC] at h
   split at h
   ·cases h;exact bm.mem _ _ _ _
   ·cases h
 | fz g x=>
   simp only[AC] at h
   split at h
   ·cases h;exact bm.mem _ _ _ _
   ·cases h
 | call f xs=>
   simp only[AC] at h
   split at h
   ·split at h
    ·rename_i r hr
     cases h
     obtain⟨v,sto',next'⟩:=r
     exact bm.put (hc _ _ _ _ v sto' next' hr).1 _ _
    ·cases h
   ·cases h
theorem eC {call:dZ}(hc:fl P G call):∀ (l:List AOper) (s s':St),lE call G l s=some s'->bm s.sto s.next s'.sto s'.next
 | [],s,s',h=>by simp only[lE,Option.some.injEq] at h;subst h;exact bm.refl _ _
 | o::r,s,s',h=>by
   simp only[lE] at h
   split at h
   ·split at h
    ·rename_i s1 h1
     exact (yS hc h1).trans (eC hc r s1 s' h)
    ·cases h
   ·exact (bm.put0 s _ _).trans (eC hc r _ s' h)
   ·cases h
theorem tF {call:dZ}(hc:fl P G call){s:St}{d:Option Nat}{o:AOp}{q:St×List Nat×List Nat}(h:ml call G s d o=some q):bm s.sto s.next q.1.sto q.1.next:=by
 cases o with
 | t o=>
   simp only[ml] at h
   split at h
   ·cases h;exact bm.put0 _ _ _
   ·cases h
 | m o=>
   simp only[ml] at h
   split at h
   ·cases h;exact bm.mem _ _ _ _
   ·cases h
 | fz g x=>simp[ml] at h
 | call f xs=>
   simp only[ml] at h
   split at h
   ·unfold tG at h
    split at h
    ·split at h
     ·cases h;exact bm.put0 _ _ _
     ·cases h
    ·split at h
     ·rename_i r hr
      cases h
      obtain⟨v,sto',next'⟩:=r
      exact bm.put (hc _ _ _ _ v sto' next' hr).1 _ _
     ·cases h
   ·cases h
theorem lF {call:dZ}(hc:fl P G call){A:List (List Nat)}:∀ (l:List AOper) (T:List (List Nat×List Nat)) (s s':St),exD call G A l T s=some s'->bm s.sto s.next s'.sto s'.next
 | [],T,s,s',h=>by
   simp only[exD] at h
   split at h
   ·cases h;exact bm.refl _ _
   ·cases h
 | o::r,T,s,s',h=>by
   simp only[exD] at h
   split at h
   ·split at h
    ·rename_i q h1
     exact (tF hc h1).trans (lF hc r _ _ s' h)
    ·cases h
   ·exact (bm.put0 s _ _).trans (lF hc r _ _ s' h)
   ·cases h
theorem qD {call:dZ}(hc:fl P G call):∀ (n:Nat) (ac:ACode) (s:St) (e:AExit) (s':St),exC call G n ac s=some (e,s')->bm s.sto s.next s'.sto s'.next
 | 0,_,_,_,_,h=>by simp[exC] at h
 | n+1,ac,s,e,s',h=>by
   have ih:=qD hc n
   cases ac with
   | skip=>simp only[exC,Option.some.injEq,Prod.mk.injEq] at h;obtain⟨_,rfl⟩:=h;exact bm.refl _ _
   | exit i=>simp only[exC,Option.some.injEq,Prod.mk.injEq] at h;obtain⟨_,rfl⟩:=h;exact bm.refl _ _
   | ret=>simp only[exC,Option.some.injEq,Prod.mk.injEq] at h;obtain⟨_,rfl⟩:=h;exact bm.refl _ _
   | ops l k=>
     simp only[exC] at h
     split at h
     ·rename_i s1 h1;cases h;exact eC hc l s s1 h1
     ·cases h
   | draw A l l2 k=>
     simp only[exC] at h
     split at h
     ·rename_i s1 h1
      split at h
      ·rename_i s2 h2;cases h;exact (lF hc l [] s s1 h1).trans (eC hc l2 s1 s2 h2)
      ·cases h
     ·cases h
   | seq a b=>
     simp only[exC] at h
     split at h
     ·rename_i s1 h1;exact (ih _ _ _ _ h1).trans (ih _ _ _ _ h)
     ·rename_i i s1 h1;cases h;exact ih _ _ _ _ h1
     ·rename_i s1 h1;cases h;exact ih _ _ _ _ h1
     ·cases h
   | cond x a b=>
     simp only[exC] at h
     split at h
     ·exact ih _ _ _ _ h
     ·exact ih _ _ _ _ h
     ·cases h
   | block id b=>
     simp only[exC] at h
     split at h
     ·rename_i s1 h1;cases h;exact ih _ _ _ _ h1
     ·rename_i i s1 h1
      split at h
      ·cases h;exact ih _ _ _ _ h1
      ·cases h;exact ih _ _ _ _ h1
     ·rename_i s1 h1;cases h;exact ih _ _ _ _ h1
     ·cases h
   | loop k b=>
     simp only[exC] at h
     split at h
     ·rename_i s1 h1;exact (ih _ _ _ _ h1).trans (ih _ _ _ _ h)
     ·rename_i i s1 h1;cases h;exact ih _ _ _ _ h1
     ·rename_i s1 h1;cases h;exact ih _ _ _ _ h1
     ·cases h
   | range f ps k a b=>simp only[exC] at h;cases h
def PX (e:AExit)(s':St):AExit->St->Prop:=fun e1 s1=>e1=e/\s1=s'
theorem q8 {call:dZ}{G:Nat->List PV}{n:Nat}{s:St}{r:AExit×St}(h:exC call G (n+1) (.ops [⟨none,jG,none⟩] []) s=some r):False:=by
 simp[exC,lE,bK,AC,jG,AX.ev,dg] at h
theorem PY {call:dZ}(hc:fl P G call){c:Ctx}{κ0:Kap}{N:Nat}{muts rl:List Nat}(hG:c.G=G):∀ (n:Nat) (co:Code) (ac:ACode) (ex:List (Nat×List Nat)) (out li:List Nat) (s:St) (a:Act) (w:World) (κ:Kap) (e:AExit) (s':St),
  bi P muts N rl co ex out=some (ac,li)->exC call G n ac s=some (e,s')->Rel c κ0 N s a w κ->co.wpIn (FR none) 0 P (lift c κ0 N (PX e s')) a w:=by
 intro n
 induction n using Nat.strongRecOn with
 | _ n ih=>
 intro co ac ex out li s a w κ e s' hcc he hR
 cases n with
 | zero=>simp[exC] at he
 | succ n=>
 cases co with
 | skip=>
   simp only[bi,Option.some.injEq,Prod.mk.injEq] at hcc
   obtain⟨rfl,_⟩:=hcc
   simp only[exC,Option.some.injEq,Prod.mk.injEq] at he
   obtain⟨rfl,rfl⟩:=he
   exact wpIn_skip ⟨_,κ,hR,rfl,rfl⟩
 | exit id=>
   simp only[bi,Option.some.injEq,Prod.mk.injEq] at hcc
   obtain⟨rfl,_⟩:=hcc
   simp only[exC,Option.some.injEq,Prod.mk.injEq] at he
   obtain⟨rfl,rfl⟩:=he
   exact wpIn_exit ⟨_,κ,hR,rfl,rfl⟩
 | ret=>
   simp only[bi,Option.some.injEq,Prod.mk.injEq] at hcc
   obtain⟨rfl,_⟩:=hcc
   simp only[exC,Option.some.injEq,Prod.mk.injEq] at he
   obtain⟨rfl,rfl⟩:=he
   exact wpIn_ret ⟨_,κ,hR,rfl,rfl⟩
 | region id ops d=>
   simp only[bi] at hcc
   split at hcc
   ·rename_i l hl
    cases d with
    | false=>
      simp only[Option.some.injEq,Prod.mk.injEq] at hcc
      obtain⟨rfl,_⟩:=hcc
      simp only[exC] at he
      split at he
      ·rename_i s1 h1
       cases he
       exact wpIn_region_list (d8 (F:=fun s=>s=s1) (fun s a w κ hR hF=>by subst hF;exact⟨_,κ,hR.clip0 _,rfl,rfl⟩) ops.toList l s a w κ hl hR (by rw[hG];exact jY hc l s s1 h1 rfl))
      ·cases he
    | true=>
      simp only at hcc
      split at hcc
      ·rename_i hok
       simp only[Option.some.injEq,Prod.mk.injEq] at hcc
       obtain⟨rfl,_⟩:=hcc
       simp only[exC] at he
       split at he
       ·rename_i s1 h1
        split at he
        ·rename_i s2 h2
         cases he
         exact nh (F:=fun s=>s=s2) hl hok.1 hok.2.1 hok.2.2 hR (by rw[hG];exact nc hc _ _ s s1 h1 (jY hc _ s1 s2 h2 rfl)) (fun s a w κ hR hF=>by subst hF;exact⟨_,κ,hR.clip0 _,rfl,rfl⟩)
        ·cases he
       ·cases he
      ·cases hcc
   ·cases hcc
 | seq x y=>
   simp only[bi] at hcc
   split at hcc
   ·rename_i b' lb hb
    split at hcc
    ·rename_i a' la ha
     simp only[Option.some.injEq,Prod.mk.injEq] at hcc
     obtain⟨rfl,_⟩:=hcc
     simp only[exC] at he
     split at he
     ·rename_i s1 h1
      refine wpIn_seq (Go.wpIn_mono (ih n (Nat.lt_succ_self n) x a' _ _ _ s a w κ _ _ ha h1 hR) ?_)
      intro e1 a w hq
      cases e1 with
      | normal=>
        obtain⟨s2,κ,hR,_,rfl⟩:=hq
        exact ih n (Nat.lt_succ_self n) y b' _ _ _ s2 a w κ _ _ hb he hR
      | exit id=>obtain⟨_,_,_,h,_⟩:=hq;cases h
      | ret=>obtain⟨_,_,_,h,_⟩:=hq;cases h
      | goto l=>exact hq.elim
      | panic ch=>exact hq.elim
      | outgrown=>exact hq.elim
     ·rename_i i s1 h1
      cases he
      refine wpIn_seq (Go.wpIn_mono (ih n (Nat.lt_succ_self n) x a' _ _ _ s a w κ _ _ ha h1 hR) ?_)
      intro e1 a w hq
      cases e1 with
      | normal=>obtain⟨_,_,_,h,_⟩:=hq;cases h
      | exit id=>exact hq
      | ret=>exact hq
      | goto l=>exact hq.elim
      | panic ch=>exact hq.elim
      | outgrown=>exact hq.elim
     ·rename_i s1 h1
      cases he
      refine wpIn_seq (Go.wpIn_mono (ih n (Nat.lt_succ_self n) x a' _ _ _ s a w κ _ _ ha h1 hR) ?_)
      intro e1 a w hq
      cases e1 with
      | normal=>obtain⟨_,_,_,h,_⟩:=hq;cases h
      | exit id=>exact hq
      | ret=>exact hq
      | goto l=>exact hq.elim
      | panic ch=>exact hq.elim
      | outgrown=>exact hq.elim
     ·cases he
    ·cases hcc
   ·cases hcc
 | cond x y z=>
   simp only[bi] at hcc
   split at hcc
   ·rename_i ax a' la b' lb hx hy hz
    simp only[Option.some.injEq,Prod.mk.injEq] at hcc
    obtain⟨rfl,_⟩:=hcc
    have hrel:=aw (κ:=κ) (E:=s.E) (a:=a) hx (fun i _=>hR.env i)
    simp only[exC] at he
    split at he
    ·rename_i hv
     rw[hv] at hrel
     exact wpIn_cond_true (cJ hrel) (ih n (Nat.lt_succ_self n) y a' _ _ _ s a w κ _ _ hy he hR)
    ·rename_i hv
     rw[hv] at hrel
     exact wpIn_cond_false (cJ hrel) (ih n (Nat.lt_succ_self n) z b' _ _ _ s a w κ _ _ hz he hR)
    ·cases he
   ·cases hcc
 | block id b=>
   simp only[bi] at hcc
   split at hcc
   ·rename_i b' lb hb
    simp only[Option.some.injEq,Prod.mk.injEq] at hcc
    obtain⟨rfl,_⟩:=hcc
    simp only[exC] at he
    have main:∀ e1 s1,exC call G n b' s=some (e1,s1)->((e1 = .norm/\e = .norm/\s'=s1)\/(∃ i,e1 = .exit i/\s'=s1/\e=if i=id then .norm else .exit i)\/(e1 = .ret/\e = .ret/\s'=s1))->(Code.block id b).wpIn (FR none) 0 P (lift c κ0 N (PX e s')) a w:=by
     intro e1 s1 h1 hcase
     refine wpIn_block (Go.wpIn_mono (ih n (Nat.lt_succ_self n) b b' _ _ _ s a w κ _ _ hb h1 hR) ?_)
     intro e2 a w hq
     cases e2 with
     | normal=>
       obtain⟨s2,κ,hR,rfl,rfl⟩:=hq
       rcases hcase with ⟨_,rfl,rfl⟩ | ⟨i,h,_⟩ | ⟨h,_⟩
       ·exact⟨_,κ,hR,rfl,rfl⟩
       ·cases h
       ·cases h
     | ret=>
       obtain⟨s2,κ,hR,rfl,rfl⟩:=hq
       rcases hcase with ⟨h,_⟩ | ⟨i,h,_⟩ | ⟨_,rfl,rfl⟩
       ·cases h
       ·cases h
       ·exact⟨_,κ,hR,rfl,rfl⟩
     | exit i=>
       obtain⟨s2,κ,hR,rfl,rfl⟩:=hq
       rcases hcase with ⟨h,_⟩ | ⟨i',h,rfl,rfl⟩ | ⟨h,_⟩
       ·cases h
       ·cases h
        simp only[Exit.inBlock]
        split
        ·rename_i hid
         exact⟨_,κ,hR,by simp[hid],rfl⟩
        ·rename_i hid
         exact⟨_,κ,hR,by simp[hid],rfl⟩
       ·cases h
     | goto l=>exact hq.elim
     | panic ch=>exact hq.elim
     | outgrown=>exact hq.elim
    split at he
    ·rename_i s1 h1
     cases he
     exact main _ _ h1 (.inl ⟨rfl,rfl,rfl⟩)
    ·rename_i i s1 h1
     split at he
     ·rename_i hid
      cases he
      exact main _ _ h1 (.inr (.inl ⟨i,rfl,rfl,by simp[hid]⟩))
     ·rename_i hid
      cases he
      exact main _ _ h1 (.inr (.inl ⟨i,rfl,rfl,by simp[hid]⟩))
    ·rename_i s1 h1
     cases he
     exact main _ _ h1 (.inr (.inr ⟨rfl,rfl,rfl⟩))
    ·cases he
   ·cases hcc
 | loop b=>
   simp only[bi] at hcc
   split at hcc
   ·rename_i x1 l1 hb1
    split at hcc
    ·rename_i x2 l2 hb2
     split at hcc
     ·rename_i b' l3 hb
      simp only[Option.some.injEq,Prod.mk.injEq] at hcc
      obtain⟨rfl,_⟩:=hcc
      refine j6 (fun m a w=>∃ s κ,m<=n+1/\Rel c κ0 N s a w κ/\exC call G m (.loop (oY l2) b') s=some (e,s')) ⟨n+1,s,κ,Nat.le_refl _,hR,he⟩ fun m a w hJ=>?_
      obtain⟨s,κ,hm,hR,he⟩:=hJ
      cases m with
      | zero=>simp[exC] at he
      | succ m=>
        simp only[exC] at he
        split at he
        ·rename_i s1 h1
         refine Go.wpIn_mono (ih m (by omega) b b' _ _ _ s a w κ _ _ hb h1 hR) ?_
         intro e1 a w hq
         cases e1 with
         | normal=>
           obtain⟨s2,κ,hR,_,rfl⟩:=hq
           exact⟨m,Nat.lt_succ_self m,_,κ,by omega,hR,he⟩
         | exit id=>obtain⟨_,_,_,h,_⟩:=hq;cases h
         | ret=>obtain⟨_,_,_,h,_⟩:=hq;cases h
         | goto l=>exact hq.elim
         | panic ch=>exact hq.elim
         | outgrown=>exact hq.elim
        ·rename_i i s1 h1
         cases he
         refine Go.wpIn_mono (ih m (by omega) b b' _ _ _ s a w κ _ _ hb h1 hR) ?_
         intro e1 a w hq
         cases e1 with
         | normal=>obtain⟨_,_,_,h,_⟩:=hq;cases h
         | exit id=>exact hq
         | ret=>exact hq
         | goto l=>exact hq.elim
         | panic ch=>exact hq.elim
         | outgrown=>exact hq.elim
        ·rename_i s1 h1
         cases he
         refine Go.wpIn_mono (ih m (by omega) b b' _ _ _ s a w κ _ _ hb h1 hR) ?_
         intro e1 a w hq
         cases e1 with
         | normal=>obtain⟨_,_,_,h,_⟩:=hq;cases h
         | exit id=>exact hq
         | ret=>exact hq
         | goto l=>exact hq.elim
         | panic ch=>exact hq.elim
         | outgrown=>exact hq.elim
        ·cases he
     ·cases hcc
    ·cases hcc
   ·cases hcc
 | rangeFunc f ps x y=>
   simp only[bi] at hcc
   split at hcc
   ·split at hcc
    ·simp only[Option.some.injEq,Prod.mk.injEq] at hcc
     obtain⟨rfl,_⟩:=hcc
     simp only[exC] at he
     cases he
    ·cases hcc
   ·simp only[Option.some.injEq,Prod.mk.injEq] at hcc;obtain⟨rfl,rfl⟩:=hcc;exact (q8 he).elim
 | scope b=>simp only[bi,Option.some.injEq,Prod.mk.injEq] at hcc;obtain⟨rfl,rfl⟩:=hcc;exact (q8 he).elim
 | label l=>simp only[bi,Option.some.injEq,Prod.mk.injEq] at hcc;obtain⟨rfl,rfl⟩:=hcc;exact (q8 he).elim
 | goto l=>simp only[bi,Option.some.injEq,Prod.mk.injEq] at hcc;obtain⟨rfl,rfl⟩:=hcc;exact (q8 he).elim
 | refuse y=>simp only[bi,Option.some.injEq,Prod.mk.injEq] at hcc;obtain⟨rfl,rfl⟩:=hcc;exact (q8 he).elim
theorem H6 {tab:List TabRow}(ht:∀ r∈tab,cFn P r.muts r.f=some r.fn){f:Nat}{fn:AFn}(h:H7 f tab=some fn):∃ muts,cFn P muts f=some fn:=by
 induction tab with
 | nil=>cases h
 | cons r q ih=>
   simp only[H7] at h
   split at h
   ·rename_i hf
    cases h
    exact⟨r.muts,hf▸ht r (by simp)⟩
   ·exact ih (fun r hr=>ht r (by simp[hr])) h
theorem Ef {tab:List TabRow}{O:Nat->List PV->Option PV}{m:Nat}(ht:∀ r∈tab,cFn P r.muts r.f=some r.fn)(hO:∀ f ps r,O f ps=some r->ae P G f ps r):∀ n,fl P G (exF tab O G m n)
 | 0=>by intro f args sto next v sto' next' h;simp[exF] at h
 | n+1=>by
   intro f args sto next v sto' next' h
   simp only[exF] at h
   split at h
   ·rename_i r hr
    cases h
    simp only[Option.bind_eq_some_iff] at hr
    obtain⟨ps,h1,h2⟩:=hr
    refine⟨bm.refl _ _,?_⟩
    exact .inl ⟨ps,r,h1,hO f ps r h2,rfl,rfl,rfl⟩
   ·split at h
    ·rename_i fn hfn
     obtain⟨muts,hcf⟩:=H6 ht hfn
     split at h
     ·rename_i hl
      have grow:∀ (e:AExit) (s:St),exC (exF tab O G m n) G m fn.body ⟨cY args,sto,next⟩=some (e,s)->xK G fn s=some (v,sto',next')->bm sto next sto' next':=by
       intro e s h1 h2
       have:=qD (Ef ht hO n) m fn.body _ e s h1
       unfold xK at h2
       split at h2
       ·cases h2;exact this
       ·cases h2
      have fin:∀ (e:AExit) (s:St),(e = .norm\/e = .ret)->exC (exF tab O G m n) G m fn.body ⟨cY args,sto,next⟩=some (e,s)->xK G fn s=some (v,sto',next')->bV P G f args sto next (fun v' s' n'=>v'=v/\s'=sto'/\n'=next'):=by
       intro e s he h1 h2
       refine bV.of_code hcf hl fun c κ N a w co rl li hG hk hf hb hR=>?_
       refine Go.wpIn_mono (PY (Ef ht hO n) hG m co fn.body _ _ _ _ a w κ e s hb h1 hR) ?_
       have hout:∀ s1,s1=s->aI (e9 G s1 fn.res) (JX (fun v' s' n'=>v'=v/\s'=sto'/\n'=next') s1):=by
        rintro s1 rfl
        unfold xK at h2
        split at h2
        ·rename_i l hl2
         cases h2
         rw[hl2]
         exact⟨rfl,rfl,rfl⟩
        ·cases h2
       intro e1 a w hq
       cases e1 with
       | normal=>
         obtain⟨s1,κ1,hR1,he1,hs1⟩:=hq
         exact⟨s1,κ1,hR1,hout s1 hs1⟩
       | ret=>
         obtain⟨s1,κ1,hR1,he1,hs1⟩:=hq
         exact⟨s1,κ1,hR1,hout s1 hs1⟩
       | exit id=>
         obtain⟨s1,κ1,hR1,he1,hs1⟩:=hq
         rcases he with rfl | rfl<;>cases he1
       | goto l=>exact hq.elim
       | panic ch=>exact hq.elim
       | outgrown=>exact hq.elim
      split at h
      ·rename_i s1 h1;exact⟨grow _ _ h1 h,.inr (fin _ _ (.inl rfl) h1 h)⟩
      ·rename_i s1 h1;exact⟨grow _ _ h1 h,.inr (fin _ _ (.inr rfl) h1 h)⟩
      ·cases h
     ·cases h
    ·cases h
theorem ae.of_ex {tab:List TabRow}{O:Nat->List PV->Option PV}{m n:Nat}{f:Nat}{ps:List PV}{r:PV}(ht:∀ r∈tab,cFn P r.muts r.f=some r.fn)(hO:∀ f ps r,O f ps=some r->ae P G f ps r)
  (h:cU (exF tab O G m n) f ps=some r):ae P G f ps r:=
 uN (Ef ht hO n) h
end
open Go.Sort
theorem bx {P:Program}{G:Nat->List PV}{f:Nat}{args:List PV}{r:PV}(hc:bJ P f=true)
  (h:∀ (w:World) (imm:Nat->Nat->Prop) (vals:Array Value),bt G w imm->vals.size=args.length->(∀ (i:Nat) (x:PV),args[i]? = some x->PRel w imm x (vals.getD i Go.undef)) ->
   Calls P f vals w fun e w'=>∃ u,e = .returned u/\Below w.heap.size w w'/\PRel w' imm r u):ae P G f args r:=by
 refine⟨hc,fun w imm vals hG hlt hsz hargs=>(h w imm vals hG hsz hargs).mono ?_⟩
 rintro e w' ⟨u,rfl,hb,hr⟩
 exact⟨u,imm,rfl,hb,fun _ _ h=>h,fun _ _ h=>.inl h,fun b o h=>Nat.lt_of_lt_of_le (hlt b o h) hb.size,hr⟩
theorem kh {w:World}{imm:Nat->Nat->Prop}{l:List UInt8}(h:l.length<=maxLen):PRel w imm (.str l) (.string ⟨l.toArray⟩):=by
 have:=PRel.str (w:=w) (imm:=imm) ⟨l.toArray⟩ (by show l.toArray.size<=maxLen;simpa using h)
 simpa using this
theorem dx {w:World}{imm:Nat->Nat->Prop}{l:List UInt8}{v:Value}(h:PRel w imm (.str l) v):v = .string ⟨l.toArray⟩/\l.length<=maxLen:=by
 cases h with
 | str s hs=>exact⟨by simp,hs⟩
theorem A2 {vals:Array Value}(h:vals.size=1):vals = #[vals.getD 0 Go.undef]:=by
 apply Array.ext
 ·simp[h]
 ·intro i h1 h2
  have:i=0:=by omega
  subst this
  simp[Array.getD_eq_getD_getElem?,h]
theorem uj {vals:Array Value}(h:vals.size=2):vals = #[vals.getD 0 Go.undef,vals.getD 1 Go.undef]:=by
 apply Array.ext
 ·simp[h]
 ·intro i h1 h2
  have:i=0\/i=1:=by omega
  rcases this with rfl | rfl<;>simp[Array.getD_eq_getD_getElem?,h]
def bS:Nat->Nat->List UInt8
 | 0,_=>[]
 | n+1,k=>if k<10 then [UInt8.ofNat (48+k)] else bS n (k / 10)++[UInt8.ofNat (48+k % 10)]
def gi (n:Int):List UInt8:=if n<0 then 45::bS 20 n.natAbs else bS 20 n.toNat
theorem lJ:∀ (f k:Nat),k<10 ^ f->0<f->bS f k=Lib.decDigits k
 | 0,k,_,h=>absurd h (by simp)
 | f+1,k,hk,_=>by
   rw[bS,Lib.decDigits]
   by_cases h:k<10
   ·simp[h]
   ·rw[if_neg h,dif_neg h]
    have h10:k / 10<10 ^ f:=by
     rw[Nat.pow_succ] at hk
     exact Nat.div_lt_of_lt_mul (by rw[Nat.mul_comm];exact hk)
    rw[lJ f (k / 10) h10 (by
     rcases Nat.eq_zero_or_pos f with h0 | h0
     ·subst h0
      simp at hk
      omega
     ·exact h0)]
theorem iV:∀ (f k:Nat),(bS f k).length<=f
 | 0,k=>by simp[bS]
 | f+1,k=>by
   rw[bS]
   split
   ·simp
   ·have:=iV f (k / 10)
    simp;omega
theorem vj {n:Int}(h0:-9223372036854775808<=n)(h1:n<=9223372036854775807):gi n=Lib.itoa n:=by
 have e:(10:Nat) ^ 20=100000000000000000000:=by decide
 unfold gi Lib.itoa
 split
 ·rw[lJ 20 n.natAbs (by rw[e];omega) (by decide)]
 ·rw[lJ 20 n.toNat (by rw[e];omega) (by decide)]
theorem qo (n:Int):(gi n).length<=21:=by
 unfold gi
 split
 ·have:=iV 20 n.natAbs
  simp;omega
 ·have:=iV 20 n.toNat
  omega
theorem Gb {P:Program}{G:Nat->List PV}{w:World}{imm:Nat->Nat->Prop}{name:String}{k:IntKind}{zs:List Int}{g:Nat}(hn:P.globalNamed name=some g)(hG:G g=zs.map (PV.int k))(hz:zs≠[])(h:bt G w imm) :
  Lib.TabIs P w name k zs:=by
 obtain⟨cs,T,fz,h1,h2⟩:=h.2 g (by rw[hG];simpa using hz)
 have hcs:cs=(zs.map fun z=>Value.int k z).toArray:=by
  rw[hG] at h2
  simp only[List.length_map] at h2
  apply Array.ext
  ·simp[h2]
  ·intro i hi hi'
   have hiz:i<zs.length:=by omega
   obtain⟨_,v,h3,_,h4⟩:=h.1 g i (.int k zs[i]) (by rw[hG];simp[hiz])
   have hv:v = .int k zs[i]:=by cases h4;rfl
   have hc:=cell_of_row w g i cs T fz h1
   rw[h3,hv] at hc
   have:=(Array.getElem?_eq_some_iff.1 hc.symm).2
   simp[this]
 unfold Lib.TabIs World.var?
 rw[hn]
 simp only[Option.bind_some,h1]
 rw[hcs]
theorem DB {P:Program}{G:Nat->List PV}{f g:Nat}{name:String}(hc:bJ P f=true)(hn:P.globalNamed name=some g)(hG:G g=Lib.pow10Tab.map (PV.int .u64))
  (h:∀ (n:Int) (h0:-9223372036854775808<=n) (h1:n<=9223372036854775807) (w:World) (htab:Lib.TabIs P w name .u64 Lib.pow10Tab),
   Calls P f #[.int .i64 n] w fun e w'=>e = .returned (.string ⟨(Lib.itoa n).toArray⟩)/\∃ k os,w'=Sort.grow (w.drewN k) os)
  (n:Int) (h0:-9223372036854775808<=n) (h1:n<=9223372036854775807):ae P G f [.int .i64 n] (.str (gi n)):=by
 refine bx hc fun w imm vals hGl hsz hargs=>?_
 have hv:=A2 hsz
 have h2:=hargs 0 (.int .i64 n) rfl
 have h3:vals.getD 0 Go.undef = .int .i64 n:=by
  generalize vals.getD 0 Go.undef=x at h2
  cases h2;rfl
 rw[hv,h3]
 refine (h n h0 h1 w (Gb hn hG (by
  intro e
  have:=congrArg List.length e
  rw[Lib.pow10Tab_length] at this
  simp at this) hGl)).mono ?_
 rintro e w' ⟨rfl,k,os,rfl⟩
 refine⟨_,rfl,Lib.below_grow _ w (Nat.le_refl _) k os,?_⟩
 rw[vj h0 h1,<- vj h0 h1]
 refine kh ?_
 have:=qo n
 unfold maxLen;omega
theorem qS {P:Program}{G:Nat->List PV}{f:Nat}(hc:bJ P f=true)
  (h:∀ (a b:ByteArray) (w:World),Calls P f #[.string a,.string b] w fun e w'=>e = .returned (.int .i64 (Lib.compareBytes a.data.toList b.data.toList))/\w'=w) (a b:List UInt8) :
  ae P G f [.str a,.str b] (.int .i64 (Lib.compareBytes a b)):=by
 refine bx hc fun w imm vals hGl hsz hargs=>?_
 have hv:=uj hsz
 obtain⟨ha,_⟩:=dx (hargs 0 (.str a) rfl)
 obtain⟨hb,_⟩:=dx (hargs 1 (.str b) rfl)
 rw[hv,ha,hb]
 refine (h _ _ w).mono ?_
 rintro e w' ⟨rfl,rfl⟩
 refine⟨_,rfl,Below.refl _ _,?_⟩
 simpa using PRel.int (w:=w') (imm:=imm) .i64 (Lib.compareBytes a b)
section
variable {P:Program}{G:Nat->List PV}
theorem du {F:List (List Nat×List Nat)->St->Prop}{T:List (List Nat×List Nat)}{e:List (Nat×AV)}{σ:List (Nat×Blk)}{next d:Nat}{a b args:List AV}
  {k f:Nat} {args0:List AV} {bs:List Blk} {v:AV} {bs':List Blk} (h:bk P G k f args0 bs v bs') (rs:List Nat)
  (hok:vg k rs bs bs' next=true) (hargs:AVzL (a++args++b) (AV.renL (gSo next rs) args0)) (hbs:fW σ (gSo next rs) rs bs)
  (hk:F (T++[eS 2 (aQ (oI (gSo next (rs.take k)) bs' 0 (gIn next (rs.take k))++eV (rs.drop k)).reverse) (σ.map (·.1))])
   ⟨(d,v.ren (gSo next (rs.take k)))::e,oI (gSo next (rs.take k)) bs' 0 (gIn next (rs.take k))++(eV (rs.drop k)++σ),next+(bs'.length - k)⟩):jv P G F T ⟨e,σ,next⟩ (some d) args (f,a,b):=by
 simp only[vg,Bool.and_eq_true,decide_eq_true_eq,List.all_eq_true] at hok
 obtain⟨⟨⟨⟨h1,h2⟩,h3⟩,h4⟩,h5⟩:=hok
 have hf:=h.frame hargs hbs h5 h4 h1 h2 (fun b hb e=>by
  have:=h3 b hb
  subst e;cases this)
 have e:l9 σ (oI (gSo next (rs.take k)) bs' 0 (gIn next (rs.take k))++eV (rs.drop k)).reverse=oI (gSo next (rs.take k)) bs' 0 (gIn next (rs.take k))++(eV (rs.drop k)++σ):=by
  rw[ny,List.reverse_reverse,List.append_assoc]
 refine tU (δ:=(oI (gSo next (rs.take k)) bs' 0 (gIn next (rs.take k))++eV (rs.drop k)).reverse) (top:=next+(bs'.length - k)) (hf.mono fun v' s n hq=>⟨hq.1,?_,hq.2.2⟩) (by omega) ?_
 ·rw[e];exact hq.2.1
 ·rw[e];exact hk
end
def yP:List AV->List AV
 | []=>[]
 | x::r=>x.cells++yP r
theorem D4:yP []=[]:=_root_.id rfl
theorem yO (x:AV)(r:List AV):yP (x::r)=x.cells++yP r:=_root_.id rfl
theorem vG:∀ l:List AV,l.flatMap AV.cells=yP l
 | []=>rfl
 | x::r=>by rw[List.flatMap_cons,vG r];rfl
section
variable {P:Program}{G:Nat->List PV}
theorem Qu {b:Bool}(h:b=true):Chk b:=h
theorem S2 {e sz len new:Nat}{vs:List AV}(h:Chk (decide (vs.length=len)&&decide (len<=9223372036854775807)&&vs.all (fun v=>v.known&&v.cells.length == sz&&v.cells.all AV.one))):cS true e sz len new vs=some (.row new sz 0 len,[(new,.cells e true (yP vs))]):=by
 have h':=h
 simp only[Chk,Bool.and_eq_true,decide_eq_true_eq] at h'
 obtain⟨⟨h1,h2⟩,h3⟩:=h'
 simp only[cS]
 rw[if_pos ⟨h1,h2⟩,if_pos h3,vG]
theorem pA:∀ l:List PV,pvs (l.map .pv)=some l
 | []=>rfl
 | x::r=>by simp[pvs,AV.toPV,pA r]
end
attribute [push_cast] S2 D4 yO
section
variable {α β:Type}
def ja (p:Nat->Bool):Nat->Bool
 | 0=>true
 | n+1=>ja p n&&p n
theorem fG {p:Nat->Bool}:∀ {n:Nat},ja p n=true↔∀ k,k<n->p k=true
 | 0=>by simp[ja]
 | n+1=>by
   rw[ja,Bool.and_eq_true,fG]
   constructor
   ·rintro⟨h1,h2⟩ k hk
    rcases Nat.lt_succ_iff_lt_or_eq.1 hk with h | h
    ·exact h1 k h
    ·rw[h];exact h2
   ·exact fun h=>⟨fun k hk=>h k (by omega),h n (by omega)⟩
theorem ba {p:Nat->Bool}{k n:Nat}(h:p k=false)(hk:k<n):ja p n=false:=by
 cases ha:ja p n with
 | false=>rfl
 | true=>rw[fG.1 ha k hk] at h;cases h
theorem bO {l:List α}{m:Nat}{x:α}(h:l[m]? = some x):l.drop m=x::l.drop (m+1):=by
 obtain⟨h1,h2⟩:=List.getElem?_eq_some_iff.1 h
 rw[List.drop_eq_getElem_cons h1,h2]
theorem oo {l:List α}{m:Nat}(h:¬ m<l.length):l.drop m=[]:=List.drop_eq_nil_of_le (by omega)
theorem jO {l:List α}{m:Nat}(h:¬ m<l.length):l.take m=l:=List.take_of_length_le (by omega)
theorem vH {l:List α}{m:Nat}{x:α}{p:α->Bool}(h:l[m]? = some x)(hp:p x=true):(l.drop m).find? p=some x:=by
 rw[bO h,List.find?_cons,hp]
theorem qA {l:List α}{m:Nat}{x:α}{p:α->Bool}(h:l[m]? = some x)(hp:p x=false):(l.drop m).find? p=(l.drop (m+1)).find? p:=by
 rw[bO h,List.find?_cons,hp]
theorem vI {l:List α}{m:Nat}{p:α->Bool}(h:¬ m<l.length):(l.drop m).find? p=none:=by rw[oo h];rfl
theorem NJ {l:List α}{m:Nat}{x:α}{p:α->Bool}(h:l[m]? = some x)(hp:p x=true):(l.drop m).any p=true:=by
 rw[bO h,List.any_cons,hp];rfl
theorem Jm {l:List α}{m:Nat}{x:α}{p:α->Bool}(h:l[m]? = some x)(hp:p x=false):(l.drop m).any p=(l.drop (m+1)).any p:=by
 rw[bO h,List.any_cons,hp];rfl
theorem NK {l:List α}{m:Nat}{p:α->Bool}(h:¬ m<l.length):(l.drop m).any p=false:=by rw[oo h];rfl
def gq (p:α->Bool):List α->Nat->Int
 | [],_=>-1
 | x::r,m=>if p x=true then (m:Int) else gq p r (m+1)
theorem iR {l:List α}{m:Nat}{x:α}{p:α->Bool}(h:l[m]? = some x)(hp:p x=true):gq p (l.drop m) m=m:=by
 rw[bO h,gq,if_pos hp]
theorem fB {l:List α}{m:Nat}{x:α}{p:α->Bool}(h:l[m]? = some x)(hp:p x=false):gq p (l.drop m) m=gq p (l.drop (m+1)) (m+1):=by
 rw[bO h,gq,if_neg (by rw[hp];simp)]
theorem iS {l:List α}{m:Nat}{p:α->Bool}(h:¬ m<l.length):gq p (l.drop m) m = -1:=by rw[oo h];rfl
theorem cG {p:α->Bool}:∀ (l:List α) (m:Nat),(l.find? p=none/\gq p l m = -1)\/∃ (k:Nat) (x:α),l[k]? = some x/\l.find? p=some x/\gq p l m=((m+k:Nat):Int)
 | [],m=>.inl ⟨rfl,rfl⟩
 | x::r,m=>by
   cases hx:p x with
   | true=>exact .inr ⟨0,x,rfl,by rw[List.find?_cons,hx],by rw[gq,if_pos hx];rfl⟩
   | false=>
     rw[List.find?_cons,hx,gq,if_neg (by rw[hx];simp)]
     rcases cG r (m+1) with ⟨h1,h2⟩ | ⟨k,y,h1,h2,h3⟩
     ·exact .inl ⟨h1,h2⟩
     ·exact .inr ⟨k+1,y,by simpa using h1,h2,by rw[h3];congr 1;omega⟩
theorem gV {p:α->Bool}(l:List α):(l.find? p).isSome=l.any p:=by
 induction l with
 | nil=>rfl
 | cons x r ih=>rw[List.find?_cons,List.any_cons];cases p x<;>simp[ih]
def Ps:Option (List UInt8)->Option AV
 | some l=>some (.pv (.str l))
 | none=>none
def Kw (n:Int):Option (List UInt8)->Option (List UInt8)
 | some l=>some (UInt8.ofNat n.toNat::l)
 | none=>none
theorem CP (l:List UInt8):Ps (some l)=some (.pv (.str l)):=_root_.id rfl
theorem lS (n:Int)(l:List UInt8):Kw n (some l)=some (UInt8.ofNat n.toNat::l):=_root_.id rfl
theorem K7:u8s []=some []:=_root_.id rfl
theorem un (n:Int)(r:List PV):u8s (.int .u8 n::r)=Kw n (u8s r):=by
 simp only[u8s];cases u8s r<;>rfl
theorem oS:∀ l:List UInt8,u8s (l.map fun b=>PV.int .u8 (b.toNat:Int))=some l
 | []=>rfl
 | b::r=>by rw[List.map_cons,un,oS r,lS];simp
theorem F3 (σ:am)(r:Nat)(l:List PV):eL σ (.olist r 1 l)=Ps (u8s l):=by
 simp only[eL,bc,if_true];cases u8s l<;>rfl
theorem wC (σ:am):eL σ (.pv .nils)=some (.pv (.str [])):=_root_.id rfl
theorem F0 (σ:am)(l:List PV):eL σ (.pv (.list l))=Ps (u8s l):=by
 simp only[eL,bc]
 cases h:u8s l with
 | none=>by_cases hh:(l.all (fun y=>y.cells.length == 1))=true<;>simp[hh,h,Ps]
 | some s=>
   obtain⟨ns,rfl,rfl⟩:=nA h
   rw[if_pos (by simp[PV.cells])]
   simp[h,Ps]
end
theorem yc (G:Nat->List PV)(e:List (Nat×AV))(σ:List (Nat×Blk))(new:Nat)(x:AX):nV G e σ new (.toStr x)=fX [] (eL (fun r=>lookB r σ) (evE e x)):=by
 simp only[nV];cases eL (fun r=>lookB r σ) (evE e x)<;>rfl
theorem gy {a b:Int}(h:0<=a):a.tdiv b=a / b:=Int.tdiv_eq_ediv_of_nonneg h
theorem gx {a b:Int}(h:0<=a):a.tmod b=a % b:=Int.tmod_eq_emod_of_nonneg h
def I7:Option UInt8->Option AV
 | some b=>some (.pv (.int .u8 (b.toNat:Int)))
 | none=>none
theorem aq (b:UInt8):I7 (some b)=some (.pv (.int .u8 (b.toNat:Int))):=_root_.id rfl
theorem iD (l:List UInt8)(k:IntKind)(i:Nat):gH (.pv (.str l)) (.pv (.int k (i:Int)))=I7 l[i]?:=by
 simp only[gH,Int.toNat_natCast]
 rw[if_pos (by omega)]
 cases l[i]? <;> rfl
theorem sd (l:List UInt8)(k:IntKind):gH (.pv (.str l)) (.pv (.int k 0))=I7 l[0]?:=iD l k 0
theorem sf (l:List UInt8)(k:IntKind)(i:Nat):gH (.pv (.str l)) (.pv (.int k ((i:Int)+1)))=I7 l[i+1]?:=iD l k (i+1)
attribute [push_cast] aq iD sd sf yc gy gx CP lS K7 un oS F3 wC F0
def ry (p:Nat):List UInt8:=
 if p<128 then [UInt8.ofNat p]
 else if p<2048 then [UInt8.ofNat (192+p / 64),UInt8.ofNat (128+p % 64)]
 else if p<65536 then [UInt8.ofNat (224+p / 4096),UInt8.ofNat (128+p / 64 % 64),UInt8.ofNat (128+p % 64)]
 else [UInt8.ofNat (240+p / 262144),UInt8.ofNat (128+p / 4096 % 64),UInt8.ofNat (128+p / 64 % 64),UInt8.ofNat (128+p % 64)]
def jz (p:Nat):Bool:=decide (p<=1114111)&&(decide (p<55296)||decide (57343<p))
def lM (l:List UInt8):Nat×Nat:=
 if l=[] then (0,0) else if Lib.decodeL l=(65533,1) then (0,0) else Lib.decodeL l
def byN (l:List UInt8)(i:Nat):Nat:=(l.getD i 0).toNat
theorem fV {l:List UInt8}{i:Nat}{b:UInt8}(h:l[i]? = some b):byN l i=b.toNat:=by
 rw[byN,List.getD_eq_getElem?_getD,h];rfl
theorem fU (l:List UInt8)(i:Nat):byN l i<256:=UInt8.toNat_lt _
theorem nB {n:Nat}{b:UInt8}(h:n<256):UInt8.ofNat n=b↔n=b.toNat:=by
 constructor
 ·rintro rfl;simp[UInt8.toNat_ofNat',Nat.mod_eq_of_lt h]
 ·rintro rfl;exact UInt8.ofNat_toNat
def Ss (p:Nat×Nat):Nat×Nat:=if p=(65533,1) then (0,0) else p
theorem gl:Ss (65533,1)=(0,0):=rfl
theorem M6 {p n:Nat}(h:n≠1):Ss (p,n)=(p,n):=if_neg (by simp[h])
theorem qN {l:List UInt8}(h:l≠[]):lM l=Ss (Lib.decodeN l.length (byN l 0) (byN l 1) (byN l 2) (byN l 3)):=by
 rw[lM,if_neg h,Lib.decodeL_N];rfl
theorem SP {l:List UInt8}(h:l≠[])(h0:byN l 0<128):lM l=(byN l 0,1):=by
 rw[qN h,Lib.decodeN,if_pos h0]
 exact if_neg (by simp;omega)
theorem Ex {l:List UInt8}(h:l≠[])(h0:(128<=byN l 0/\byN l 0<192)\/248<=byN l 0):lM l=(0,0):=by
 have hlt:=fU l 0
 rw[qN h,Lib.decodeN,if_neg (by omega),if_neg (by omega),if_neg (by omega),if_neg (by omega),gl]
theorem SO {l:List UInt8}(h:l≠[])(h0:192<=byN l 0/\byN l 0<224) :
  lM l=if 1<l.length/\(128<=byN l 1/\byN l 1<192)/\128<=64*(byN l 0 - 192)+(byN l 1 - 128) then (64*(byN l 0 - 192)+(byN l 1 - 128),2) else (0,0):=by
 have hlt:=fU l 1
 rw[qN h]
 generalize byN l 0=b0 at *
 generalize byN l 1=b1 at *
 generalize byN l 2=b2 at *
 generalize byN l 3=b3 at *
 unfold Lib.decodeN
 rw[if_neg (by omega)]
 by_cases hc:1<l.length/\b1 / 64=2
 ·rw[if_pos ⟨by omega,hc⟩]
  by_cases hp:b0 % 32*64+b1 % 64>=128
  ·rw[if_pos hp,M6 (by omega),if_pos ⟨hc.1,by omega,by omega⟩]
   exact Prod.ext (by simp only;omega) rfl
  ·rw[if_neg hp,gl,if_neg (by omega)]
 ·rw[if_neg (by omega),if_neg (by omega),if_neg (by omega),gl,if_neg (by omega)]
theorem SN {l:List UInt8}(h:l≠[])(h0:224<=byN l 0/\byN l 0<240) :
  lM l=if 2<l.length/\(128<=byN l 1/\byN l 1<192)/\(128<=byN l 2/\byN l 2<192)/\(2048<=4096*(byN l 0 - 224)+64*(byN l 1 - 128)+(byN l 2 - 128)/\(4096*(byN l 0 - 224)+64*(byN l 1 - 128)+(byN l 2 - 128)<55296\/57343<4096*(byN l 0 - 224)+64*(byN l 1 - 128)+(byN l 2 - 128)))
   then (4096*(byN l 0 - 224)+64*(byN l 1 - 128)+(byN l 2 - 128),3) else (0,0):=by
 have hlt:=fU l 1
 have hlt2:=fU l 2
 rw[qN h]
 generalize byN l 0=b0 at *
 generalize byN l 1=b1 at *
 generalize byN l 2=b2 at *
 generalize byN l 3=b3 at *
 unfold Lib.decodeN
 rw[if_neg (by omega),if_neg (by omega)]
 by_cases hc:(1<l.length/\b1 / 64=2)/\(2<l.length/\b2 / 64=2)
 ·rw[if_pos ⟨by omega,hc⟩]
  have e:b0 % 16*4096+b1 % 64*64+b2 % 64=4096*(b0 - 224)+64*(b1 - 128)+(b2 - 128):=by omega
  rw[e]
  have hp0:4096*(b0 - 224)+64*(b1 - 128)+(b2 - 128)<=65535:=by omega
  generalize 4096*(b0 - 224)+64*(b1 - 128)+(b2 - 128)=p at *
  by_cases hp:p>=2048/\(p<55296\/(57344<=p/\p<=1114111))
  ·rw[if_pos hp,M6 (by omega),if_pos ⟨hc.2.1,by omega,by omega,by omega⟩]
  ·rw[if_neg hp,gl,if_neg]
   rintro⟨_,_,_,h4,h5⟩
   omega
 ·rw[if_neg (by omega),if_neg (by omega),gl,if_neg (by omega)]
theorem SM {l:List UInt8}(h:l≠[])(h0:240<=byN l 0/\byN l 0<248) :
  lM l=if 3<l.length/\(128<=byN l 1/\byN l 1<192)/\(128<=byN l 2/\byN l 2<192)/\(128<=byN l 3/\byN l 3<192) /\
    (65536<=262144*(byN l 0 - 240)+4096*(byN l 1 - 128)+64*(byN l 2 - 128)+(byN l 3 - 128)/\262144*(byN l 0 - 240)+4096*(byN l 1 - 128)+64*(byN l 2 - 128)+(byN l 3 - 128)<=1114111)
   then (262144*(byN l 0 - 240)+4096*(byN l 1 - 128)+64*(byN l 2 - 128)+(byN l 3 - 128),4) else (0,0):=by
 have hlt:=fU l 1
 have hlt2:=fU l 2
 have hlt3:=fU l 3
 rw[qN h]
 generalize byN l 0=b0 at *
 generalize byN l 1=b1 at *
 generalize byN l 2=b2 at *
 generalize byN l 3=b3 at *
 unfold Lib.decodeN
 rw[if_neg (by omega),if_neg (by omega),if_neg (by omega)]
 by_cases hc:(1<l.length/\b1 / 64=2)/\(2<l.length/\b2 / 64=2)/\(3<l.length/\b3 / 64=2)
 ·rw[if_pos ⟨by omega,hc⟩]
  have e:b0 % 8*262144+b1 % 64*4096+b2 % 64*64+b3 % 64=262144*(b0 - 240)+4096*(b1 - 128)+64*(b2 - 128)+(b3 - 128):=by omega
  rw[e]
  generalize 262144*(b0 - 240)+4096*(b1 - 128)+64*(b2 - 128)+(b3 - 128)=p at *
  by_cases hp:p>=65536/\(p<55296\/(57344<=p/\p<=1114111))
  ·rw[if_pos hp,M6 (by omega),if_pos ⟨hc.2.2.1,by omega,by omega,by omega,by omega⟩]
  ·rw[if_neg hp,gl,if_neg]
   rintro⟨_,_,_,_,h4,h5⟩
   omega
 ·rw[if_neg (by omega),gl,if_neg (by omega)]
theorem JL {l:List UInt8}{a b:UInt8}(h0:l[0]? = some a)(h1:l[1]? = some b):l.take 2=[a,b]:=by
 rw[aG h1,aG h0];rfl
theorem JK {l:List UInt8}{a b c:UInt8}(h0:l[0]? = some a)(h1:l[1]? = some b)(h2:l[2]? = some c):l.take 3=[a,b,c]:=by
 rw[aG h2,JL h0 h1];rfl
theorem OH {l:List UInt8}{a b c d:UInt8}(h0:l[0]? = some a)(h1:l[1]? = some b)(h2:l[2]? = some c)(h3:l[3]? = some d):l.take 4=[a,b,c,d]:=by
 rw[aG h3,JK h0 h1 h2];rfl
theorem SE {a b:UInt8}(h0:192<=a.toNat/\a.toNat<224)(h1:128<=b.toNat/\b.toNat<192):ry (64*(a.toNat - 192)+(b.toNat - 128))=[a,b]↔128<=64*(a.toNat - 192)+(b.toNat - 128):=by
 unfold ry
 generalize hp:64*(a.toNat - 192)+(b.toNat - 128)=p
 by_cases h:p<128
 ·rw[if_pos h]
  constructor
  ·intro e;simp at e
  ·intro;omega
 ·rw[if_neg h,if_pos (by omega)]
  simp only[List.cons.injEq,and_true]
  rw[nB (by omega),nB (by omega)]
  omega
theorem SD {a b c:UInt8}(h0:224<=a.toNat/\a.toNat<240)(h1:128<=b.toNat/\b.toNat<192)(h2:128<=c.toNat/\c.toNat<192) :
  ry (4096*(a.toNat - 224)+64*(b.toNat - 128)+(c.toNat - 128))=[a,b,c]↔2048<=4096*(a.toNat - 224)+64*(b.toNat - 128)+(c.toNat - 128):=by
 unfold ry
 generalize hp:4096*(a.toNat - 224)+64*(b.toNat - 128)+(c.toNat - 128)=p
 by_cases h:p<128
 ·rw[if_pos h]
  constructor
  ·intro e;simp at e
  ·intro;omega
 ·rw[if_neg h]
  by_cases h':p<2048
  ·rw[if_pos h']
   constructor
   ·intro e;simp at e
   ·intro;omega
  ·rw[if_neg h',if_pos (by omega)]
   simp only[List.cons.injEq,and_true]
   rw[nB (by omega),nB (by omega),nB (by omega)]
   omega
theorem SC {a b c d:UInt8}(h0:240<=a.toNat/\a.toNat<248)(h1:128<=b.toNat/\b.toNat<192)(h2:128<=c.toNat/\c.toNat<192)(h3:128<=d.toNat/\d.toNat<192)
  (hm:262144*(a.toNat - 240)+4096*(b.toNat - 128)+64*(c.toNat - 128)+(d.toNat - 128)<=1114111) :
  ry (262144*(a.toNat - 240)+4096*(b.toNat - 128)+64*(c.toNat - 128)+(d.toNat - 128))=[a,b,c,d]↔65536<=262144*(a.toNat - 240)+4096*(b.toNat - 128)+64*(c.toNat - 128)+(d.toNat - 128):=by
 unfold ry
 generalize hp:262144*(a.toNat - 240)+4096*(b.toNat - 128)+64*(c.toNat - 128)+(d.toNat - 128)=p at *
 by_cases h:p<128
 ·rw[if_pos h]
  constructor
  ·intro e;simp at e
  ·intro;omega
 ·rw[if_neg h]
  by_cases h':p<2048
  ·rw[if_pos h']
   constructor
   ·intro e;simp at e
   ·intro;omega
  ·rw[if_neg h']
   by_cases h'':p<65536
   ·rw[if_pos h'']
    constructor
    ·intro e;simp at e
    ·intro;omega
   ·rw[if_neg h'']
    simp only[List.cons.injEq,and_true]
    rw[nB (by omega),nB (by omega),nB (by omega),nB (by omega)]
    omega
theorem wB {l:List UInt8}(h:l≠[]):Lib.validD l=if (lM l).2=0 then false else Lib.validD (l.drop (lM l).2):=by
 rw[Lib.validD_step l h,lM,if_neg h]
 have hw:=Lib.decodeL_width l
 by_cases hb:Lib.decodeL l=(65533,1)
 ·rw[if_pos hb,if_pos (by rw[hb];simp),if_pos rfl]
 ·rw[if_neg hb,if_neg (fun hh=>hb (Prod.ext hh.1 hh.2)),if_neg (by omega)]
theorem Kq (l:List UInt8):(lM l).2<=l.length:=by
 unfold lM
 split
 ·simp
 ·split
  ·simp
  ·exact Lib.decodeL_le l ‹_›
section
variable {P:Program}{G:Nat->List PV}
end
theorem Jh {e sz by_ new:Nat}{σ:am}{y:PV}{r:List PV}(h1:r.length+1<=9223372036854775807)(h2:(r.length+1)*by_<=140737488355328):fi true e sz by_ new σ (.pv .nils) (some (y::r))=some (.row new sz 0 (r.length+1),[(new,.cells e false (bp (y::r)))]):=by
 simp only[fi];rw[if_pos (e8 (by omega) (by simpa using h2))]
section
variable (e:List (Nat×AV))(σ:List (Nat×Blk))(new:Nat)
theorem PE (G:Nat->List PV)(o:XOp):nV G e σ new (.xop o)=mw e σ new o:=_root_.id rfl
theorem H3 (o:XOp):dT e (.xop o)=eY e o:=_root_.id rfl
end
attribute [push_cast] Jh PE H3
end Go.Ab

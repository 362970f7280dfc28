/- A program logic over the model: part 5 (a proof is built on it; nothing of the statement is said here). -/
import Derived.Lib.Join
import Derived.Lib.ItoaNum
import Derived.Lib.LaidTab
import Derived.Lib.AppendIntMem
import Derived.Lib.Strings
import Derived.Lib.Bytealg
import Derived.Lib.ValidLaws
import Derived.Test.YtbaaokocnegdoaaGreatDoorDeCore4
set_option linter.unusedVariables false
set_option linter.unusedSimpArgs false
namespace Go.Ab
open Go Go.RowKit
theorem Hh (k k':IntKind)(x y:Int):My (.pv (.int k x)) (.pv (.int k' y))=some (.pv (.int k (min x y))):=by
 simp only[My,Option.some.injEq,AV.pv.injEq,PV.int.injEq,true_and]
 split<;>omega
theorem Hi (k k':IntKind)(x y:Int):Mz (.pv (.int k x)) (.pv (.int k' y))=some (.pv (.int k (max x y))):=by
 simp only[Mz,Option.some.injEq,AV.pv.injEq,PV.int.injEq,true_and]
 split<;>omega
theorem wz (a:Nat)(b:Int):(min (a:Int) b).toNat=min a b.toNat:=by omega
theorem rJ (a:Nat)(b:Int):(min b (a:Int)).toNat=min b.toNat a:=by omega
theorem oW {α:Type}(l:List α)(n:Nat):l.take (min l.length n)=l.take n:=by
 rcases Nat.le_total l.length n with h | h
 ·rw[Nat.min_eq_left h,List.take_length,List.take_of_length_le h]
 ·rw[Nat.min_eq_right h]
theorem A7 {α:Type}(l:List α)(n:Nat):l.take (min n l.length)=l.take n:=by rw[Nat.min_comm,oW]
theorem map_take {α β:Type}(f:α->β)(l:List α)(n:Nat):(l.map f).take n=(l.take n).map f:=List.map_take.symm
theorem map_drop {α β:Type}(f:α->β)(l:List α)(n:Nat):(l.map f).drop n=(l.drop n).map f:=List.map_drop.symm
theorem CS {α β:Type}(f:α->β):(none:Option α).map f=none:=_root_.id rfl
def fD (mu:Bool)(e sz by_ new:Nat)(σ:au)(x:AV):Option (List PV)->Option (AV×List (Nat×Blk))
 | some ys=>match mu,x with
   | false,.pv .nils=>match ys with
     | []=>some (.pv .nils,[])
     | y::r=>if oI 0 (r.length+1) by_=true then some (.olist new sz (y::r),[(new,.tok e sz)]) else none
   | false,.olist q s l=>match σ q with
     | .tok e' sz'=>if e'=e/\sz'=sz/\s=sz/\oI l.length ys.length by_=true then some (.olist new sz (l++ys),[(q,.none),(new,.tok e sz)]) else none
     | _=>none
   | true,.pv .nils=>match ys with
     | []=>some (.pv .nils,[])
     | y::r=>if oI 0 (r.length+1) by_=true then some (.row new sz 0 (r.length+1),[(new,.cells e false (bA (y::r)))]) else none
   | true,.row q s off len=>match σ q with
     | .cells e' _ l=>if e'=e/\s=sz/\off=0/\len*sz<=l.length/\oI len ys.length by_=true then some (.row new sz 0 (len+ys.length),[(q,.none),(new,.cells e false (l.take (len*sz)++bA ys))]) else none
     | _=>none
   | _,_=>none
 | none=>none
def JO (e sz by_ new q s:Nat)(l ys:List PV):Blk->Option (AV×List (Nat×Blk))
 | .tok e' sz'=>if e'=e/\sz'=sz/\s=sz/\oI l.length ys.length by_=true then some (.olist new sz (l++ys),[(q,.none),(new,.tok e sz)]) else none
 | _=>none
def oC (e sz by_ new q s off len:Nat)(ys:List PV):Blk->Option (AV×List (Nat×Blk))
 | .cells e' _ l=>if e'=e/\s=sz/\off=0/\len*sz<=l.length/\oI len ys.length by_=true then some (.row new sz 0 (len+ys.length),[(q,.none),(new,.cells e false (l.take (len*sz)++bA ys))]) else none
 | _=>none
theorem xj (mu:Bool)(e sz by_ new:Nat)(σ:au)(x y:AV):dM mu e sz by_ new σ x y=fD mu e sz by_ new σ x (bh σ sz y):=by
 unfold dM fD
 cases bh σ sz y<;>rfl
theorem Ry (e sz by_ new:Nat)(σ:au)(q s:Nat)(l ys:List PV):fD false e sz by_ new σ (.olist q s l) (some ys)=JO e sz by_ new q s l ys (σ q):=by
 simp only[fD,JO]
theorem JN {e sz by_ new q:Nat}{l ys:List PV}(h1:l.length+ys.length<=9223372036854775807)(h2:(l.length+ys.length)*by_<=140737488355328):JO e sz by_ new q sz l ys (.tok e sz)=some (.olist new sz (l++ys),[(q,.none),(new,.tok e sz)]):=by
 simp[JO,ff h1 h2]
theorem JL (e sz by_ new:Nat)(σ:au):fD false e sz by_ new σ (.pv .nils) (some [])=some (.pv .nils,[]):=_root_.id rfl
theorem JK {e sz by_ new:Nat}{σ:au}{y:PV}{r:List PV}(h1:r.length+1<=9223372036854775807)(h2:(r.length+1)*by_<=140737488355328):fD false e sz by_ new σ (.pv .nils) (some (y::r))=some (.olist new sz (y::r),[(new,.tok e sz)]):=by
 simp only[fD];rw[if_pos (ff (by omega) (by simpa using h2))]
theorem N8 (e sz by_ new:Nat)(σ:au)(q s off len:Nat)(ys:List PV):fD true e sz by_ new σ (.row q s off len) (some ys)=oC e sz by_ new q s off len ys (σ q):=by
 simp only[fD,oC]
theorem j5 {e sz by_ new q len:Nat}{f:Bool}{l:List AV}{ys:List PV}(h0:len*sz<=l.length)(h1:len+ys.length<=9223372036854775807)(h2:(len+ys.length)*by_<=140737488355328) :
  oC e sz by_ new q sz 0 len ys (.cells e f l)=some (.row new sz 0 (len+ys.length),[(q,.none),(new,.cells e false (l.take (len*sz)++bA ys))]):=by
 simp[oC,h0,ff h1 h2]
theorem Ad {e sz by_ new q:Nat}{f:Bool}{l:List AV}{ys:List PV}(h1:ys.length<=9223372036854775807)(h2:ys.length*by_<=140737488355328) :
  oC e sz by_ new q sz 0 0 ys (.cells e f l)=some (.row new sz 0 ys.length,[(q,.none),(new,.cells e false (bA ys))]):=by
 have:=ff (n:=0) (m:=ys.length) (by_:=by_) (by omega) (by simpa using h2)
 simp[oC,this]
def vw (l:List PV):Bool->Option (List PV)
 | true=>some l
 | false=>none
theorem yO (σ:au)(sz:Nat):bh σ sz (.pv .nils)=some []:=_root_.id rfl
theorem yP (σ:au)(sz:Nat)(l:List PV):bh σ sz (.pv (.list l))=vw l (l.all fun y=>y.cells.length == sz):=by
 simp only[bh]
 cases l.all (fun y=>y.cells.length == sz)<;>rfl
theorem yQ (l:List PV):vw l true=some l:=_root_.id rfl
theorem tw (σ:au)(sz r:Nat)(l:List PV):bh σ sz (.olist r sz l)=some l:=by simp[bh]
def Rp (e sz new:Nat):Option (List PV)->Option (AV×List (Nat×Blk))
 | some ps=>if ps.all (fun p=>p.cells.length == sz&&p.cells.all PV.one)=true then some (.olist new sz ps,[(new,.tok e sz)]) else none
 | none=>none
theorem TD {e sz len new:Nat}{vs:List AV}(h:vs.length=len)(h2:len<=9223372036854775807):dn false e sz len new vs=Rp e sz new (pvs vs):=by
 simp only[dn,h,h2,true_and,if_true,Rp]
 cases pvs vs<;>rfl
def Uv (e sz new:Nat)(ps:List PV):Bool->Option (AV×List (Nat×Blk))
 | true=>some (.olist new sz ps,[(new,.tok e sz)])
 | false=>none
theorem Ro (e sz new:Nat)(ps:List PV):Uv e sz new ps true=some (.olist new sz ps,[(new,.tok e sz)]):=_root_.id rfl
theorem Fa (e sz new:Nat)(ps:List PV):Rp e sz new (some ps)=Uv e sz new ps (ps.all fun p=>p.cells.length == sz&&p.cells.all PV.one):=by
 simp only[Rp]
 cases ps.all (fun p=>p.cells.length == sz&&p.cells.all PV.one)<;>rfl
theorem Fb (e sz new:Nat):Rp e sz new none=none:=_root_.id rfl
theorem Rn {e sz new:Nat}:dn true e sz 0 new []=some (.row new sz 0 0,[(new,.cells e true [])]):=by
 simp[dn]
theorem fM (b:Bool):PV.one (.bool b)=true:=_root_.id rfl
theorem iS (k:IntKind)(n:Int):PV.one (.int k n)=true:=_root_.id rfl
theorem iR (s:List UInt8):PV.one (.str s)=true:=_root_.id rfl
theorem HU:PV.one .nils=true:=_root_.id rfl
theorem fL (l:List PV):PV.one (.list l)=true:=_root_.id rfl
theorem MP (p:PV):AV.one (.pv p)=p.one:=_root_.id rfl
theorem HW (r o:Nat):AV.one (.ptr r o)=true:=_root_.id rfl
theorem HV (r s o n:Nat):AV.one (.row r s o n)=true:=_root_.id rfl
theorem xD (r s:Nat)(l:List PV):AV.one (.olist r s l)=true:=_root_.id rfl
theorem HX (f:Nat)(a b:List AV):AV.one (.clo f a b)=true:=_root_.id rfl
def pO (sz:Nat)(l:List PV)(h:Nat):Option Nat->Option AV
 | some a=>if Ke sz l a=true then some (.pv (.list ((l.take h).drop a))) else none
 | none=>none
def pN (sz:Nat)(l:List PV)(lo:Option AV):Option Nat->Option AV
 | some h=>pO sz l h (aZ 0 h lo)
 | none=>none
theorem pw (sz:Nat)(l:List PV)(lo hi:Option AV):ew sz (.pv (.list l)) lo hi=pN sz l lo (aZ l.length l.length hi):=by
 show Kq sz l lo hi=_
 unfold Kq pN pO
 cases aZ l.length l.length hi with
 | none=>rfl
 | some h=>simp only;cases aZ 0 h lo<;>rfl
theorem nR (sz r s:Nat)(l:List PV)(lo hi:Option AV):ew sz (.olist r s l) lo hi=pN sz l lo (aZ l.length l.length hi):=by
 show Kq sz l lo hi=_
 unfold Kq pN pO
 cases aZ l.length l.length hi with
 | none=>rfl
 | some h=>simp only;cases aZ 0 h lo<;>rfl
theorem sF (sz:Nat)(l:List PV)(lo:Option AV)(h:Nat):pN sz l lo (some h)=pO sz l h (aZ 0 h lo):=_root_.id rfl
theorem xH (sz:Nat)(l:List PV)(h:Nat):pO sz l h (some 0)=some (.pv (.list (l.take h))):=by
 simp[pO,Ke]
theorem mW {sz:Nat}{l:List PV}{h a:Nat}(hs:Ke sz l a=true):pO sz l h (some a)=some (.pv (.list ((l.take h).drop a))):=if_pos hs
theorem xF (sz:Nat)(l:List PV)(i:Nat)(y:PV):dE sz l i (some y)=if y.cells.length=sz then some (.pv (.eptr l i 0)) else none:=_root_.id rfl
theorem JQ {α β:Type}(f:α->β)(p:β->Bool)(l:List α):(l.map f).all p=l.all fun x=>p (f x):=by
 rw[List.all_map];rfl
theorem Rz {α:Type}(l:List α):(l.all fun _=>true)=true:=by simp
theorem Ru (n:Nat):(n == n)=true:=by simp
def Qn (sz:Nat)(e:PV):Bool->Option AV
 | true=>some (.pv e)
 | false=>cR true sz 0 (e.cells.map .pv)
theorem M8 (sz:Nat)(e:PV):Qn sz e true=some (.pv e):=_root_.id rfl
theorem Iu (sz:Nat)(e:PV):mm true sz 0 e=Qn sz e (e.isAgg&&decide (e.cells.length=sz)):=by
 simp only[mm,true_and]
 by_cases h:e.isAgg=true/\e.cells.length=sz
 ·rw[if_pos h,h.1,decide_eq_true h.2];rfl
 ·rw[if_neg h]
  have:(e.isAgg&&decide (e.cells.length=sz))=false:=by
   rw[Bool.eq_false_iff]
   intro hh
   simp only[Bool.and_eq_true,decide_eq_true_eq] at hh
   exact h hh
  rw[this];rfl
theorem DH (cs:List PV):(PV.agg cs).isAgg=true:=_root_.id rfl
theorem jr {α:Type}{sz:Nat}{f:α->PV}(hf:∀ x,(f x).cells.length=sz)(l:List α):(bA (l.map f)).length=l.length*sz:=by
 have:=ik (sz:=sz) ((l.map f).map PV.cells) (by
  intro y hy
  simp only[List.mem_map] at hy
  obtain⟨p,⟨s,_,rfl⟩,rfl⟩:=hy
  exact hf s)
 simp only[bA,List.length_map,List.flatMap_def] at this ⊢
 exact this
def fzO (σ:au):Option AV->Option (AV×List (Nat×Blk))
 | some v=>(tm σ v).map KC
 | none=>none
theorem QB (G:Nat->List PV)(σ:au)(v:AV):KE G σ none v=(tm σ v).map KC:=_root_.id rfl
theorem QC (G:Nat->List PV)(σ:au)(g:Bool)(sz:Nat)(v:AV):KE G σ (some (g,sz)) v=fzO σ (ey G g sz σ v):=by
 simp only[KE,fzO];cases ey G g sz σ v<;>rfl
theorem I1 (σ:au)(v:AV):fzO σ (some v)=(tm σ v).map KC:=_root_.id rfl
theorem I3 (σ:au)(cs:List AV):tm σ (.agg cs)=(FS σ cs).map fun p=>(.agg p.1,p.2):=_root_.id rfl
theorem Nq (σ:au)(p:PV):tm σ (.pv p)=some (p,[]):=_root_.id rfl
theorem Nr (σ:au)(r s:Nat)(l:List PV):tm σ (.olist r s l)=some (.list l,[]):=_root_.id rfl
theorem I2 (σ:au)(r s n:Nat):tm σ (.row r s 0 n)=Nv s n r (σ r):=_root_.id rfl
theorem Nt (σ:au)(p:PV):KD σ (.pv p)=some (p,[]):=_root_.id rfl
theorem Nu (σ:au)(r s:Nat)(l:List PV):KD σ (.olist r s l)=some (.list l,[]):=_root_.id rfl
theorem I6 (σ:au)(r s n:Nat):KD σ (.row r s 0 n)=Nv s n r (σ r):=_root_.id rfl
theorem I4 (σ:au):FS σ []=some ([],[]):=_root_.id rfl
theorem D4 (σ:au)(x:AV)(r:List AV):FS σ (x::r)=R9 (KD σ x) (FS σ r):=_root_.id rfl
theorem D5 (p:PV)(a:List Nat)(q:List PV)(b:List Nat):R9 (some (p,a)) (some (q,b))=some (p::q,a++b):=_root_.id rfl
theorem Ns (p:PV)(l:List Nat):KC (p,l)=(.pv p,l.map fun r=>(r,.none)):=_root_.id rfl
theorem I7 {α:Type}{sz:Nat}{f:α->PV}(hf:∀ x,∃ cs,f x = .agg cs/\cs.length=sz/\∀ p∈cs,p.one=true)(hsz:2<=sz)(l:List α){n r T:Nat}{b:Bool}(hn:n=l.length) :
  Nv sz n r (.cells T b (bA (l.map f)))=some (.list (l.map f),[r]):=by
 have hlen:=jr (sz:=sz) (f:=f) (fun x=>by obtain⟨cs,h1,h2,_⟩:=hf x;rw[h1];exact h2) l
 subst hn
 have hone:(bA (l.map f)).all AV.one=true:=by
  rw[List.all_eq_true]
  intro x hx
  simp only[bA,List.mem_map,List.mem_flatMap] at hx
  obtain⟨p,⟨q,⟨s,_,rfl⟩,hq⟩,rfl⟩:=hx
  obtain⟨cs,h1,h2,h3⟩:=hf s
  rw[h1] at hq
  exact h3 p hq
 have hpv:pvs (bA (l.map f))=some ((l.map f).flatMap PV.cells):=pvs_map _
 have hch:∀ l:List α,je sz l.length ((l.map f).flatMap PV.cells)=l.map f:=by
  intro l
  induction l with
  | nil=>rfl
  | cons x r ih=>
    obtain⟨cs,h1,h2,_⟩:=hf x
    simp only[List.length_cons,je,List.map_cons,List.flatMap_cons,h1,ag]
    rw[if_neg (by omega),List.take_left' h2,List.drop_left' h2,ih]
 simp only[Nv]
 rw[if_pos ⟨by omega,by omega,by rw[List.take_of_length_le (by omega)];exact hone⟩,List.take_of_length_le (by omega),hpv]
 simp[hch]
theorem Ih (p:PV):(AV.pv p).names=[]:=_root_.id rfl
theorem C1 (r o:Nat):(AV.ptr r o).names=[r]:=_root_.id rfl
theorem C0 (r a b c:Nat):(AV.row r a b c).names=[r]:=_root_.id rfl
theorem Ii (r a:Nat)(l:List PV):(AV.olist r a l).names=[r]:=_root_.id rfl
theorem C4 (cs:List AV):(AV.agg cs).names=AV.namesL cs:=by simp only[AV.names]
theorem CZ (cs:List AV):(AV.tup cs).names=AV.namesL cs:=by simp only[AV.names]
theorem C2 (f:Nat)(fs cs:List AV):(AV.clo f fs cs).names=AV.namesL fs++AV.namesL cs:=by simp only[AV.names]
theorem C3:AV.any.names=[]:=_root_.id rfl
theorem xN:AV.namesL []=[]:=_root_.id rfl
theorem kY (x:AV)(r:List AV):AV.namesL (x::r)=x.names++AV.namesL r:=by simp only[AV.namesL]
theorem kX:∀ l:List PV,AV.namesL (l.map .pv)=[]
 | []=>rfl
 | x::r=>by rw[List.map_cons,kY,kX r];rfl
theorem sI (l:List PV):AV.namesL (bA l)=[]:=kX _
theorem pY (T:Nat)(f:Bool)(l:List AV):(Blk.cells T f l).names=AV.namesL l:=_root_.id rfl
theorem xO (e s:Nat):(Blk.tok e s).names=[]:=_root_.id rfl
theorem sJ:Blk.none.names=[]:=_root_.id rfl
theorem JS (acc:List Nat):bE acc []=acc:=_root_.id rfl
def Oh (acc:List Nat)(n:Nat):Bool->List Nat
 | true=>acc
 | false=>acc++[n]
theorem jx (x:Nat):∀ l:List Nat,l.contains x=uM x l
 | []=>rfl
 | y::r=>by
   rw[List.contains_cons,jx x r,qj]
   by_cases h:y=x
   ·simp[h]
   ·have h':¬ x=y:=fun e=>h e.symm
    simp[h,h']
theorem Fs (acc:List Nat)(n:Nat)(r:List Nat):bE acc (n::r)=bE (Oh acc n (uM n acc)) r:=by
 simp only[bE,jx]
 cases uM n acc<;>rfl
theorem Of (acc:List Nat)(n:Nat):Oh acc n true=acc:=_root_.id rfl
theorem Og (acc:List Nat)(n:Nat):Oh acc n false=acc++[n]:=_root_.id rfl
def geN (m0:Nat):List Nat->List Nat
 | []=>[]
 | x::r=>if m0<=x then x::geN m0 r else geN m0 r
theorem Nm (m0:Nat):geN m0 []=[]:=_root_.id rfl
theorem u9 (m0 x:Nat)(r:List Nat):geN m0 (x::r)=if m0<=x then x::geN m0 r else geN m0 r:=_root_.id rfl
theorem D3 (m0:Nat):∀ l:List Nat,l.filter (fun r=>decide (m0<=r))=geN m0 l
 | []=>rfl
 | x::r=>by rw[List.filter_cons,D3 m0 r,u9];simp
def dJ (sto:List (Nat×Blk)):List Nat->List Nat
 | []=>[]
 | r::q=>(lookB r sto).names++dJ sto q
theorem rc (sto:List (Nat×Blk)):dJ sto []=[]:=_root_.id rfl
theorem iz (sto:List (Nat×Blk))(r:Nat)(q:List Nat):dJ sto (r::q)=(lookB r sto).names++dJ sto q:=_root_.id rfl
theorem gD (sto:List (Nat×Blk)):∀ l:List Nat,(l.flatMap fun r=>(lookB r sto).names)=dJ sto l
 | []=>rfl
 | r::q=>by rw[List.flatMap_cons,gD sto q,iz]
theorem Mj (m0:Nat)(sto:List (Nat×Blk))(acc:List Nat):gi m0 sto 0 acc=acc:=_root_.id rfl
theorem Mi (m0:Nat)(sto:List (Nat×Blk))(k:Nat)(acc:List Nat):gi m0 sto (k+1) acc=gi m0 sto k (bE acc (geN m0 (dJ sto acc))):=by
 rw[<- D3,<- gD];rfl
def eF (e:List (Nat×AV)):List Nat->List Nat
 | []=>[]
 | k::r=>(look k e).names++eF e r
theorem qO (e:List (Nat×AV)):eF e []=[]:=_root_.id rfl
theorem ow (e:List (Nat×AV))(k:Nat)(r:List Nat):eF e (k::r)=(look k e).names++eF e r:=_root_.id rfl
theorem lK (e:List (Nat×AV))(σ:List (Nat×Blk))(n:Nat):∀ l:List Nat,(l.flatMap fun i=>((⟨e,σ,n⟩:St).E i).names)=eF e l
 | []=>rfl
 | k::r=>by rw[List.flatMap_cons,lK e σ n r];rfl
def BB:Nat->Nat->List Nat
 | 0,_=>[]
 | n+1,k=>k::BB n (k+1)
theorem SL (k:Nat):BB 0 k=[]:=_root_.id rfl
theorem PN (n k:Nat):BB (n+1) k=k::BB n (k+1):=_root_.id rfl
theorem BA:∀ n k:Nat,BB n k=List.range' k n
 | 0,k=>rfl
 | n+1,k=>by rw[PN,BA n,List.range'_succ]
theorem Km (n:Nat):List.range n=BB n 0:=by rw[BA,List.range_eq_range']
theorem MS (m0:Nat)(keep:List Nat)(e:List (Nat×AV))(σ:List (Nat×Blk))(n:Nat):Qa m0 keep ⟨e,σ,n⟩=gi m0 σ σ.length (bE [] (geN m0 (eF e keep++dJ σ (BB m0 0)))):=by
 rw[<- D3,<- lK e σ n,<- gD,<- Km];rfl
def pX (f:Nat->Option Nat)(e:List (Nat×AV)):List Nat->List (Nat×AV)
 | []=>[]
 | k::r=>(k,(look k e).ren f)::pX f e r
theorem CU (f:Nat->Option Nat)(e:List (Nat×AV)):pX f e []=[]:=_root_.id rfl
theorem xJ (f:Nat->Option Nat)(e:List (Nat×AV))(k:Nat)(r:List Nat):pX f e (k::r)=(k,(look k e).ren f)::pX f e r:=_root_.id rfl
def CT (m0:Nat)(keep:List Nat)(e:List (Nat×AV))(σ:List (Nat×Blk))(os:List Nat):St:=⟨pX (dO m0 os) e keep,eK m0 (dO m0 os) σ (BB m0 0++os) 0,m0+os.length⟩
theorem MX (m0:Nat)(keep:List Nat)(e:List (Nat×AV))(σ:List (Nat×Blk))(n:Nat):norm m0 keep ⟨e,σ,n⟩=CT m0 keep e σ (gi m0 σ σ.length (bE [] (geN m0 (eF e keep++dJ σ (BB m0 0))))):=by
 rw[<- MS m0 keep e σ n]
 have hE:∀ (f:Nat->Option Nat) (l:List Nat),(l.map fun i=>(i,((⟨e,σ,n⟩:St).E i).ren f))=pX f e l:=by
  intro f l
  induction l with
  | nil=>rfl
  | cons k r ih=>rw[List.map_cons,ih];rfl
 simp only[norm,CT,hE,Km]
theorem MZ (m0:Nat)(keep:List Nat)(e:List (Nat×AV))(σ:List (Nat×Blk))(x:Nat)(r:List Nat):CT m0 keep e σ (x::r)=⟨pX (dO m0 (x::r)) e keep,eK m0 (dO m0 (x::r)) σ (BB m0 0++(x::r)) 0,m0+(x::r).length⟩:=_root_.id rfl
theorem MY (m0:Nat)(keep:List Nat)(e:List (Nat×AV))(σ:List (Nat×Blk)):CT m0 keep e σ []=⟨pX (dO m0 []) e keep,eK m0 (dO m0 []) σ (BB m0 0) 0,m0⟩:=by
 simp only[CT,List.append_nil];rfl
theorem wQ (m0:Nat)(f:Nat->Option Nat)(σ:List (Nat×Blk))(k:Nat):eK m0 f σ [] k=[]:=_root_.id rfl
theorem r4 (m0:Nat)(f:Nat->Option Nat)(σ:List (Nat×Blk))(r:Nat)(q:List Nat)(k:Nat):eK m0 f σ (r::q) k=(k,(lookB r σ).ren f)::eK m0 f σ q (k+1):=_root_.id rfl
theorem xM (m0:Nat)(os:List Nat)(r:Nat):dO m0 os r=if r<m0 then some r else IL r os m0:=_root_.id rfl
theorem IK (x k:Nat):IL x [] k=none:=_root_.id rfl
theorem DN (x y:Nat)(r:List Nat)(k:Nat):IL x (y::r) k=if y=x then some k else IL x r (k+1):=_root_.id rfl
def SN (o:Nat):Option Nat->AV
 | some q=>.ptr q o
 | none=>.any
def SM (a b c:Nat):Option Nat->AV
 | some q=>.row q a b c
 | none=>.any
def SO (a:Nat)(l:List PV):Option Nat->AV
 | some q=>.olist q a l
 | none=>.pv (.list l)
theorem Ko (f:Nat->Option Nat)(p:PV):(AV.pv p).ren f = .pv p:=by simp only[AV.ren]
theorem Me (f:Nat->Option Nat):AV.any.ren f = .any:=by simp only[AV.ren]
theorem Mc (f:Nat->Option Nat)(r o:Nat):(AV.ptr r o).ren f=SN o (f r):=by simp only[AV.ren,SN]<;>(cases f r<;>rfl)
theorem Mb (f:Nat->Option Nat)(r a b c:Nat):(AV.row r a b c).ren f=SM a b c (f r):=by simp only[AV.ren,SM]<;>(cases f r<;>rfl)
theorem PU (f:Nat->Option Nat)(r a:Nat)(l:List PV):(AV.olist r a l).ren f=SO a l (f r):=by simp only[AV.ren,SO]<;>(cases f r<;>rfl)
theorem Mf (f:Nat->Option Nat)(cs:List AV):(AV.agg cs).ren f = .agg (AV.renL f cs):=by simp only[AV.ren]
theorem Ma (f:Nat->Option Nat)(cs:List AV):(AV.tup cs).ren f = .tup (AV.renL f cs):=by simp only[AV.ren]
theorem Md (f:Nat->Option Nat)(g:Nat)(fs cs:List AV):(AV.clo g fs cs).ren f = .clo g (AV.renL f fs) (AV.renL f cs):=by simp only[AV.ren]
theorem BI (o q:Nat):SN o (some q) = .ptr q o:=_root_.id rfl
theorem BH (a b c q:Nat):SM a b c (some q) = .row q a b c:=_root_.id rfl
theorem BJ (a:Nat)(l:List PV)(q:Nat):SO a l (some q) = .olist q a l:=_root_.id rfl
theorem G2 (f:Nat->Option Nat):AV.renL f []=[]:=_root_.id rfl
theorem pm (f:Nat->Option Nat)(x:AV)(r:List AV):AV.renL f (x::r)=x.ren f::AV.renL f r:=by simp only[AV.renL]
theorem r5 (f:Nat->Option Nat):∀ l:List PV,AV.renL f (l.map .pv)=l.map .pv
 | []=>rfl
 | x::r=>by rw[List.map_cons,pm,r5 f r,Ko]
theorem BK (f:Nat->Option Nat)(l:List PV):AV.renL f (bA l)=bA l:=r5 f _
theorem wR (f:Nat->Option Nat)(T:Nat)(b:Bool)(l:List AV):(Blk.cells T b l).ren f = .cells T b (AV.renL f l):=_root_.id rfl
theorem G3 (f:Nat->Option Nat)(e s:Nat):(Blk.tok e s).ren f = .tok e s:=_root_.id rfl
theorem BL (f:Nat->Option Nat):Blk.none.ren f = .none:=_root_.id rfl
theorem H2 (A:List (Nat×Nat×Nat×Nat))(m0:Nat)(keep:List Nat)(s:St):cC A m0 keep s=norm m0 keep (JU A s):=_root_.id rfl
theorem JT (s:St):JU [] s=s:=_root_.id rfl
theorem Ft (k e sz:Nat)(r:List (Nat×Nat×Nat×Nat))(env:List (Nat×AV))(σ:List (Nat×Blk))(n:Nat):JU ((k,0,e,sz)::r) ⟨env,σ,n⟩=JU r (Om k e sz ⟨env,σ,n⟩ (look k env)):=_root_.id rfl
theorem Fu (k j e sz:Nat)(r:List (Nat×Nat×Nat×Nat))(env:List (Nat×AV))(σ:List (Nat×Blk))(n:Nat):JU ((k,j+1,e,sz)::r) ⟨env,σ,n⟩=JU r (accP j e sz ⟨env,σ,n⟩ (look k env)):=_root_.id rfl
theorem Fx (k e sz:Nat)(env:List (Nat×AV))(σ:List (Nat×Blk))(n:Nat):Om k e sz ⟨env,σ,n⟩ (.pv .nils)=⟨(k,iU n e sz)::env,(n,cI e sz)::σ,n+1⟩:=_root_.id rfl
theorem JY (k e sz r a b c:Nat)(s:St):Om k e sz s (.row r a b c)=s:=_root_.id rfl
theorem M1 {n e sz:Nat}(h:e<1000000):iU n e sz = .olist n sz []:=if_pos h
theorem M0 {n e sz:Nat}(h:1000000<=e):iU n e sz = .row n sz 0 0:=if_neg (Nat.not_lt.2 h)
theorem H5 {e sz:Nat}(h:e<1000000):cI e sz = .tok e sz:=if_pos h
theorem H4 {e sz:Nat}(h:1000000<=e):cI e sz = .cells (e - 1000000) false []:=if_neg (Nat.not_lt.2 h)
theorem Ol (k e sz r a:Nat)(l:List PV)(s:St):Om k e sz s (.olist r a l)=s:=_root_.id rfl
theorem JW (o e sz r b:Nat)(env:List (Nat×AV))(σ:List (Nat×Blk))(n:Nat):accP o e sz ⟨env,σ,n⟩ (.ptr r b)=accB r (b+o) e sz ⟨env,σ,n⟩ (lookB r σ):=_root_.id rfl
theorem Ah (r o e sz T:Nat)(f:Bool)(l:List AV)(s:St):accB r o e sz s (.cells T f l)=OT r T f l o e sz s l[o]?:=_root_.id rfl
theorem Fw (r T:Nat)(f:Bool)(l:List AV)(o e sz:Nat)(env:List (Nat×AV))(σ:List (Nat×Blk))(n:Nat):OT r T f l o e sz ⟨env,σ,n⟩ (some (.pv .nils))=⟨env,(r,.cells T f (l.set o (iU n e sz)))::(n,cI e sz)::σ,n+1⟩:=_root_.id rfl
theorem JX (r T:Nat)(f:Bool)(l:List AV)(o e sz:Nat)(s:St)(q a b c:Nat):OT r T f l o e sz s (some (.row q a b c))=s:=_root_.id rfl
theorem Ok (r T:Nat)(f:Bool)(l:List AV)(o e sz:Nat)(s:St)(q a:Nat)(k:List PV):OT r T f l o e sz s (some (.olist q a k))=s:=_root_.id rfl
theorem UB {α:Type}(x y:α)(r:List α):(x::r).set 0 y=y::r:=_root_.id rfl
theorem UA {α:Type}(x y:α)(r:List α)(n:Nat):(x::r).set (n+1) y=x::r.set n y:=_root_.id rfl
theorem Sy (e e':List (Nat×AV))(σ σ':List (Nat×Blk))(n n':Nat):(St.mk e σ n=St.mk e' σ' n')=(e=e'/\σ=σ'/\n=n'):=by rw[St.mk.injEq]
theorem QT {a b:Nat}(h:a<b):decide (a<b)=true:=decide_eq_true h
theorem QU {a b:Nat}(h:¬ a<b):decide (a<b)=false:=decide_eq_false h
theorem QV {a b:Nat}(h:a<=b):decide (a<=b)=true:=decide_eq_true h
theorem QW {a b:Nat}(h:¬ a<=b):decide (a<=b)=false:=decide_eq_false h
theorem QX {a b:Nat}(h:a=b):decide (a=b)=true:=decide_eq_true h
theorem QY {a b:Nat}(h:¬ a=b):decide (a=b)=false:=decide_eq_false h
theorem aD {α:Type}{l:List α}{m:Nat}{x:α}(h:l[m]? = some x):l.take (m+1)=l.take m++[x]:=by
 obtain⟨h1,h2⟩:=List.getElem?_eq_some_iff.1 h
 rw[List.take_succ_eq_append_getElem h1,h2]
def Qz (cells:List AV)(off sz:Nat)(r:List (Nat×Nat×AV))(xc:List AV):Bool->Option (List AV)
 | true=>gA (cells.take off++xc++cells.drop (off+sz)) r
 | false=>none
theorem NI (cells:List AV)(off sz:Nat)(r:List (Nat×Nat×AV))(xc:List AV):Qz cells off sz r xc true=gA (cells.take off++xc++cells.drop (off+sz)) r:=_root_.id rfl
theorem Ec (cells:List AV):gA cells []=some cells:=_root_.id rfl
theorem yF (cells:List AV)(off sz:Nat)(x:AV)(r:List (Nat×Nat×AV)):gA cells ((off,sz,x)::r)=Qz cells off sz r x.cells (x.known&&decide (x.cells.length=sz)&&decide (off+sz<=cells.length)):=by
 simp only[gA]
 by_cases h:x.known=true/\x.cells.length=sz/\off+sz<=cells.length
 ·rw[if_pos h,h.1,decide_eq_true h.2.1,decide_eq_true h.2.2];rfl
 ·rw[if_neg h]
  have:(x.known&&decide (x.cells.length=sz)&&decide (off+sz<=cells.length))=false:=by
   rw[Bool.eq_false_iff]
   intro hh
   simp only[Bool.and_eq_true,decide_eq_true_eq] at hh
   exact h ⟨hh.1.1,hh.1.2,hh.2⟩
  rw[this];rfl
theorem HP (sz off:Nat)(cs:List AV):MK sz off cs=if off+sz<=cs.length then some (jE ((cs.drop off).take sz)) else none:=_root_.id rfl
section
variable {P:Program}{G:Nat->List PV}
def rp {ι:Type}(A:List (Nat×Nat×Nat×Nat))(S:ι->St)(Inv:ι->Prop)(μ:ι->Nat)(x:ι)(m0:Nat)(keep:List Nat)(id:Nat)(keepX:List Nat)(fin:ι->Prop)(Q:AExit->St->Prop):AExit->St->Prop
 | .norm,s'=>∃ x',Hd A m0 keep s' (S x')/\Inv x'/\μ x'<μ x
 | .exit i,s'=>if i=id then ∃ x',fin x'/\norm m0 keepX s'=norm m0 keepX (S x') else Q (.exit i) s'
 | .ret,s'=>Q .ret s'
theorem tQ {ι:Type}(A:List (Nat×Nat×Nat×Nat))(S:ι->St)(Inv:ι->Prop)(μ:ι->Nat)(x:ι)(m0:Nat)(keep:List Nat)(id:Nat)(keepX:List Nat)(fin:ι->Prop)(Q:AExit->St->Prop)(s:St):rp A S Inv μ x m0 keep id keepX fin Q .norm s = ∃ x',Hd A m0 keep s (S x')/\Inv x'/\μ x'<μ x:=_root_.id rfl
theorem tR {ι:Type}(A:List (Nat×Nat×Nat×Nat))(S:ι->St)(Inv:ι->Prop)(μ:ι->Nat)(x:ι)(m0:Nat)(keep:List Nat)(id:Nat)(keepX:List Nat)(fin:ι->Prop)(Q:AExit->St->Prop)(i:Nat)(s:St):rp A S Inv μ x m0 keep id keepX fin Q (.exit i) s=if i=id then (∃ x',fin x'/\norm m0 keepX s=norm m0 keepX (S x')) else Q (.exit i) s:=_root_.id rfl
theorem Ai {ι:Type}(A:List (Nat×Nat×Nat×Nat))(S:ι->St)(Inv:ι->Prop)(μ:ι->Nat)(x:ι)(m0:Nat)(keep:List Nat)(id:Nat)(keepX:List Nat)(fin:ι->Prop)(Q:AExit->St->Prop)(s:St):rp A S Inv μ x m0 keep id keepX fin Q .ret s=Q .ret s:=_root_.id rfl
theorem iF {ι:Type}(A:List (Nat×Nat×Nat×Nat))(ch:ι->List (Nat×AV))(chB:ι->List (Nat×Blk))(Inv:ι->Prop)(μ:ι->Nat)(x0:ι)(keepX:List Nat)(fin:ι->Prop){m0 id:Nat}{keep:List Nat}{b:ACode}{F:St->Prop}{Q:AExit->St->Prop}{s:St}
  (h:∀ e0 σ0 n0,cC A m0 keep s=⟨e0,σ0,n0⟩->StZ ⟨e0,σ0,n0⟩ ⟨dW e0 (ch x0),eU σ0 (chB x0),n0⟩/\Inv x0 /\
   (∀ x,Inv x->vc P G m0 b (rp A (fun x=>⟨dW e0 (ch x),eU σ0 (chB x),n0⟩) Inv μ x m0 keep id keepX fin Q) ⟨dW e0 (ch x),eU σ0 (chB x),n0⟩) /\
   ∀ x,fin x->∀ s1,norm m0 keepX ⟨dW e0 (ch x),eU σ0 (chB x),n0⟩=s1->F s1):vc P G m0 (.loop keep b) (d9 id (FA F Q)) s:=by
 obtain⟨h1,h2,h3,h4⟩:=h (cC A m0 keep s).env (cC A m0 keep s).sto (cC A m0 keep s).next rfl
 refine⟨fun n s'=>∃ x,s'=⟨dW (cC A m0 keep s).env (ch x),eU (cC A m0 keep s).sto (chB x),(cC A m0 keep s).next⟩/\Inv x/\μ x=n,⟨μ x0,_,Wk.head (A:=A) (keep:=keep) h1,x0,rfl,h2,rfl⟩,?_⟩
 rintro n s' ⟨x,rfl,hx,rfl⟩
 refine cq b (fun e s' hs=>?_) _ (h3 x hx)
 cases e with
 | norm=>
   obtain⟨x',k1,k2,k3⟩:=hs
   exact⟨_,_,k3,k1,x',rfl,k2,rfl⟩
 | exit i=>
   simp only[rp] at hs
   split at hs
   ·rename_i hi
    obtain⟨x',k1,k2⟩:=hs
    refine⟨norm m0 keepX s',Wk.norm m0 keepX s',?_⟩
    simp only[d9,if_pos hi,FA]
    exact h4 x' k1 _ k2.symm
   ·rename_i hi
    refine⟨s',Wk.of (Wx.refl s') m0,?_⟩
    simp only[d9,if_neg hi,FA]
    exact hs
 | ret=>exact hs
end
def Kap.cut (κ:Kap)(k:Nat):Kap:=⟨κ.w,fun r=>if r<k then κ.nm r else none,κ.imm⟩
theorem Kap.cut_ext (κ:Kap)(k:Nat):Ext (κ.cut k) κ:=by
 refine⟨fun _ _ h=>h,fun _ _ _ _ h=>h,fun r d h=>?_,fun _ _ h _=>h⟩
 simp only[Kap.cut] at h
 split at h
 ·exact h
 ·cases h
theorem Kap.cut_none (κ:Kap)(k r:Nat)(h:k<=r):(κ.cut k).nm r=none:=by simp only[Kap.cut];rw[if_neg (by omega)]
def rr (P:Program)(G:Nat->List PV)(k:Nat)(f:Nat)(args:List AV)(sto:List (Nat×Blk))(next:Nat)(Q:AV->List (Nat×Blk)->Nat->Prop):Prop:=
 bS P f=true/\∀ (κ:Kap) (vals:Array Value),SRel (cl κ (fun r=>lookB r sto) G) κ (fun r=>lookB r sto)->(∀ r,next<=r->κ.nm r=none)->vals.size=args.length ->
  (∀ (i:Nat) (x:AV),args[i]? = some x->ARel κ x (vals.getD i Go.undef)) ->
  Calls P f vals κ.w fun e w'=>∃ u v κ' sto' next',e = .returned u/\κ'.w=w'/\Ext (κ.cut k) κ'/\Left (cl κ (fun r=>lookB r sto) G) κ.imm κ'/\ARel κ' v u /\
   SRel (cl κ (fun r=>lookB r sto) G) κ' (fun r=>lookB r sto')/\(∀ r,next'<=r->κ'.nm r=none)/\Q v sto' next'
section
variable {P:Program}{G:Nat->List PV}
theorem rr.of_code {muts:List Nat}{k f:Nat}{fn:AFn}{args:List AV}{sto:List (Nat×Blk)}{next:Nat}{R:AV->List (Nat×Blk)->Nat->Prop}(hc:cFn P muts f=some fn)(hn:args.length<=fn.N)
  (hv:vc P G k fn.body (FnK G fn.res R) ⟨du args,sto,next⟩):rr P G k f args sto next R:=by
 unfold cFn at hc
 split at hc
 ·rename_i fnc hfn
  split at hc
  ·rename_i co hco
   split at hc
   ·rename_i rs hrs
    split at hc
    ·rename_i hok
     split at hc
     ·rename_i b li hb
      cases hc
      refine⟨hok,fun κ vals hS hf hsz hargs=>?_⟩
      refine callsIn_wide.1 (callsIn_of_wp_marks (n:=0) hfn hco trivial ?_ rfl)
      let c:=cl κ (fun r=>lookB r sto) G
      have hsize:(vals++Array.replicate (fnc.ntmps - vals.size) Go.undef).size=fnc.ntmps:=by
       simp only at hn
       simp only[Array.size_append,Array.size_replicate];omega
      have hR:Rel c (κ.cut k) fnc.ntmps ⟨du args,sto,next⟩ ⟨vals++Array.replicate (fnc.ntmps - vals.size) Go.undef,[]⟩ κ.w κ:=by
       refine⟨rfl,κ.cut_ext k,hS,⟨rfl,rfl,rfl,Nat.le_refl _,fun _ _ _=>rfl,fun _ _ h=>.inl h⟩,fun i=>?_,hsize,dx.nil _ _,hf⟩
       show ARel κ (look i ((args.zipIdx 0).map fun p=>(p.2,p.1))) _
       rw[lg,if_pos (Nat.zero_le _),Nat.sub_zero]
       cases hx:args[i]? with
       | none=>exact .any _
       | some x=>
         have hi:i<vals.size:=by rw[hsz];exact (List.getElem?_eq_some_iff.1 hx).1
         have:=hargs i x hx
         have e:(vals++Array.replicate (fnc.ntmps - vals.size) Go.undef).getD i Go.undef=vals.getD i Go.undef:=by
          simp only[Array.getD_eq_getD_getElem?]
          rw[Array.getElem?_append_left hi]
         rw[e];exact this
      refine Go.wpIn_mono (tY (P:=P) (N:=fnc.ntmps) co c (κ.cut k) k none 0 b [] (iL rs) li (FnK G rs R) _ _ κ.w κ (.inl rfl) (fun r hr=>κ.cut_none k r hr) (Nat.le_refl _) hb hR hv) ?_
      have fin:∀ (s:St) (κ':Kap) (a:Act) (w:World),Rel c (κ.cut k) fnc.ntmps s a w κ'->aJ (fg G s rs) (Kn R s)->∃ v,(results fnc a.tmps).run P w = .ok v w /\
        ∃ u v' κ'' sto' next',Ending.returned v = .returned u/\κ''.w=w/\Ext (κ.cut k) κ''/\Left c κ.imm κ''/\ARel κ'' v' u/\SRel c κ'' (fun r=>lookB r sto')/\(∀ r,next'<=r->κ''.nm r=none)/\R v' sto' next':=by
       intro s κ' a w hR hF
       simp only[aJ] at hF
       split at hF
       ·rename_i vs hvs
        obtain⟨us,h1,h2,h3⟩:=kA (P:=P) hR fnc.results.toList rs vs hrs hvs
        have hrun:(results fnc a.tmps).run P w = .ok (if h:us.toArray.size=1 then us.toArray[0] else .tuple us.toArray) w:=by
         rw[mR,Sem.run_bind,Array.mapM_eq_mapM_toList]
         simp only[Sem.run_bind,Sem.run_map]
         rw[h1]
         simp
        refine⟨_,hrun,_,An vs,κ',s.sto,s.next,rfl,hR.w_eq,hR.ext0,hR.left,?_,hR.rel,hR.fresh,hF⟩
        by_cases hl:vs.length=1
        ·obtain⟨v,rfl⟩:=List.length_eq_one_iff.1 hl
         obtain⟨u,rfl⟩:=List.length_eq_one_iff.1 (h2.trans hl)
         have:=h3 0 v rfl
         exact this
        ·have hul:¬ us.toArray.size=1:=by simpa[h2] using hl
         rw[dif_neg hul]
         have hrv:An vs=p5 vs:=by
          unfold An
          split
          ·simp at hl
          ·rfl
         rw[hrv]
         exact pZ (.tup _ _ (by simpa using h2) (fun i x hx=>by rw[aC];simpa using h3 i x hx))
       ·exact hF.elim
      intro e a w hq
      cases e with
      | normal=>
        obtain⟨s,κ',hR,hF⟩:=hq
        exact ib (Nat.le_refl _) rfl hR fun w' κ'' hR'=>fin s κ'' ⟨a.tmps,[]⟩ w' hR' hF
      | ret=>
        obtain⟨s,κ',hR,hF⟩:=hq
        exact ib (Nat.le_refl _) rfl hR fun w' κ'' hR'=>fin s κ'' ⟨a.tmps,[]⟩ w' hR' hF
      | exit id=>
        obtain⟨s,κ',hR,hF⟩:=hq
        exact hF.elim
      | goto l=>exact hq.elim
      | panic ch=>exact hq.elim
      | outgrown=>exact hq.elim
     ·cases hc
    ·cases hc
   ·cases hc
  ·cases hc
 ·cases hc
def bW:List Blk->Nat->List (Nat×Blk)
 | [],_=>[]
 | b::r,k=>(k,b)::bW r (k+1)
theorem mZ:∀ (bs:List Blk) (k i:Nat),lookB i (bW bs k)=if k<=i then bs.getD (i - k) .none else .none
 | [],k,i=>by simp[bW,lookB]
 | b::r,k,i=>by
   simp only[bW,lookB]
   by_cases h:k=i
   ·subst h;simp
   ·rw[if_neg h,mZ r (k+1) i]
    by_cases hk:k<=i
    ·rw[if_pos (by omega),if_pos hk,show i - k=(i - (k+1))+1 by omega];simp
    ·rw[if_neg (by omega),if_neg hk]
theorem gw (bs:List Blk):(fun r=>lookB r (bW bs 0))=fun r=>bs.getD r .none:=by
 funext r;rw[mZ];simp
def bF (P:Program)(G:Nat->List PV)(k f:Nat)(args:List AV)(bs:List Blk)(v:AV)(bs':List Blk):Prop:=
 rr P G k f args (bW bs 0) bs.length fun v' sto' next'=>v'=v/\sto'=bW bs' 0/\next'=bs'.length
def Nc (k:Nat)(v:AV)(bs':List Blk)(v':AV)(sto':List (Nat×Blk))(next':Nat):Prop:=
 Wk k ⟨[(0,v')],sto',next'⟩ ⟨[(0,v)],bW bs' 0,bs'.length⟩
theorem bF.of_lcalls {k f:Nat}{args:List AV}{bs:List Blk}{v:AV}{bs':List Blk}(h:rr P G k f args (bW bs 0) bs.length (Nc k v bs')):bF P G k f args bs v bs':=by
 obtain⟨hcal,h⟩:=h
 refine⟨hcal,fun κ vals hS hf hsz hargs=>(h κ vals hS hf hsz hargs).mono ?_⟩
 rintro e w' ⟨u,v',κ',sto',next',rfl,rfl,he,hL,hv,hS',hf',hw⟩
 obtain⟨κ'',hR⟩:=hw _ (κ.cut k) κ' 1 ⟨#[u],[]⟩ κ'.w (fun r hr=>κ.cut_none k r hr) ⟨rfl,he,hS',hL,fun i=>by
  show ARel κ' (look i [(0,v')]) _
  by_cases hi:0=i
  ·subst hi;simpa[look] using hv
  ·simp only[look,if_neg hi];exact .any _,rfl,dx.nil _ _,hf'⟩
 refine⟨u,v,κ'',_,_,rfl,hR.w_eq,hR.ext0,hR.left,?_,hR.rel,hR.fresh,rfl,rfl,rfl⟩
 have:=hR.env 0
 simpa[St.E,look] using this
theorem bF.intro {muts:List Nat}{k f:Nat}{fn:AFn}{args:List AV}{bs:List Blk}{v:AV}{bs':List Blk}(hc:cFn P muts f=some fn)(hn:args.length<=fn.N)
  (hv:vc P G k fn.body (FnK G fn.res (Nc k v bs')) ⟨du args,bW bs 0,bs.length⟩):bF P G k f args bs v bs':=
 bF.of_lcalls (rr.of_code hc hn hv)
def gIn (next:Nat):List Nat->Nat->Nat
 | [],i=>next+i
 | r::_,0=>r
 | _::q,i+1=>gIn next q i
def gSo (next:Nat)(rs:List Nat)(r:Nat):Option Nat:=some (gIn next rs r)
theorem lB (next:Nat):∀ (rs:List Nat) (i:Nat) (r:Nat),rs[i]? = some r->gIn next rs i=r
 | [],i,r,h=>by simp at h
 | x::q,0,r,h=>by simpa[gIn] using h
 | x::q,i+1,r,h=>by simpa[gIn] using lB next q i r (by simpa using h)
theorem m7 (next:Nat):∀ (rs:List Nat) (i:Nat),rs.length<=i->gIn next rs i=next+(i - rs.length)
 | [],i,h=>by simp[gIn]
 | x::q,0,h=>by simp at h
 | x::q,i+1,h=>by
   simp only[List.length_cons] at h
   rw[gIn,m7 next q i (by omega)]
   simp
mutual
theorem unren {κ κ':Kap}(hw:κ'.w=κ.w)(hi:κ'.imm=κ.imm){g:Nat->Nat}(hf:∀ r,κ'.nm r=κ.nm (g r)):∀ (x:AV) (v:Value),ARel κ (x.ren fun r=>some (g r)) v->ARel κ' x v
 | .pv p,v,h=>by
   simp only[AV.ren] at h
   cases h with
   | pv _ _ hp=>exact .pv _ _ (by rw[hw,hi];exact hp)
 | .any,v,h=>.any v
 | .ptr r o,v,h=>by
   simp only[AV.ren] at h
   cases h with
   | ptr _ _ b n hn=>exact .ptr _ _ b n (by rw[hf r];exact hn)
 | .row r a b c,v,h=>by
   simp only[AV.ren] at h
   cases h with
   | row _ _ _ _ bb n cap hn h1 h2 h3 h4=>exact .row _ _ _ _ bb n cap (by rw[hf r];exact hn) h1 h2 h3 h4
   | row0 _ _ hn=>exact .row0 _ _ (by rw[hf r];exact hn)
 | .olist r a l,v,h=>by
   simp only[AV.ren] at h
   cases h with
   | olist _ _ _ _ hn hp hs=>exact .olist _ _ _ _ (by rw[hf r];exact hn) (by rw[hw,hi];exact hp) hs
 | .agg cs,v,h=>by
   simp only[AV.ren] at h
   cases h with
   | agg _ vs hl hr=>
     obtain⟨h1,h2⟩:=kf hw hi hf cs vs hr
     exact .agg _ _ (by rw[<- h1];exact hl) h2
 | .tup cs,v,h=>by
   simp only[AV.ren] at h
   cases h with
   | tup _ vs hl hr=>
     obtain⟨h1,h2⟩:=kf hw hi hf cs vs hr
     exact .tup _ _ (by rw[<- h1];exact hl) h2
 | .clo g fs cs,v,h=>by
   simp only[AV.ren] at h
   cases h with
   | clo _ _ _ vs us hl hr hl' hr'=>
     obtain⟨h1,h2⟩:=kf hw hi hf fs vs hr
     obtain⟨h3,h4⟩:=kf hw hi hf cs us hr'
     exact .clo _ _ _ _ _ (by rw[<- h1];exact hl) h2 (by rw[<- h3];exact hl') h4
theorem kf {κ κ':Kap}(hw:κ'.w=κ.w)(hi:κ'.imm=κ.imm){g:Nat->Nat}(hf:∀ r,κ'.nm r=κ.nm (g r)):∀ (xs:List AV) (vs:Array Value),
  (∀ (i:Nat) (x:AV),(AV.renL (fun r=>some (g r)) xs)[i]? = some x->ARel κ x (vs.getD i Go.undef))->(AV.renL (fun r=>some (g r)) xs).length=xs.length/\∀ (i:Nat) (x:AV),xs[i]? = some x->ARel κ' x (vs.getD i Go.undef)
 | [],vs,h=>by simp[AV.renL]
 | x::r,vs,h=>by
   have e:∀ i,(vs.extract 1 vs.size).getD i Go.undef=vs.getD (i+1) Go.undef:=by
    intro i
    simp only[Array.getD_eq_getD_getElem?,Array.getElem?_extract]
    by_cases hh:i<min vs.size vs.size - 1
    ·rw[if_pos hh];congr 2;omega
    ·rw[if_neg hh,Array.getElem?_eq_none (by omega)]
   obtain⟨h1,h2⟩:=kf hw hi hf r (vs.extract 1 vs.size) (fun i y hy=>by
    have:=h (i+1) y (by simpa[AV.renL] using hy)
    rw[e];exact this)
   refine⟨by simp[AV.renL,h1],fun i y hy=>?_⟩
   cases i with
   | zero=>
     simp only[List.getElem?_cons_zero,Option.some.injEq] at hy
     subst hy
     exact unren hw hi hf x _ (h 0 _ (by simp[AV.renL]))
   | succ i=>
     simp only[List.getElem?_cons_succ] at hy
     have:=h2 i y hy
     rw[e] at this;exact this
end
theorem eH.unren {κ κ':Kap}(hw:κ'.w=κ.w)(hi:κ'.imm=κ.imm){g:Nat->Nat}(hf:∀ r,κ'.nm r=κ.nm (g r)){r:Nat}{B:Blk}(h:eH κ (g r) (B.ren fun r=>some (g r))):eH κ' r B:=by
 cases B with
 | none=>trivial
 | cells T f l=>
   simp only[Blk.ren] at h
   rcases h with ⟨h1,h2,h3⟩ | ⟨b,n,cs,h1,h2,h3,h4,h5,h6,h7⟩
   ·refine .inl ⟨h1,?_,by rw[hf];exact h3⟩
    cases l with
    | nil=>rfl
    | cons x r=>simp[AV.renL] at h2
   ·obtain⟨q1,q2⟩:=kf hw hi hf l cs h6
    exact .inr ⟨b,n,cs,by rw[hf];exact h1,by rw[hw];exact h2,h3,by rw[<- q1];exact h4,fun hb=>by rw[<- q1];exact h5 hb,q2,by rw[hi];exact h7⟩
 | tok e sz=>
   simp only[Blk.ren] at h
   rcases h with h | ⟨g',n,cap,cur,h1,h2,h3⟩
   ·exact .inl (by rw[hf];exact h)
   ·exact .inr ⟨g',n,cap,cur,by rw[hf];exact h1,by rw[hw];exact h2,by rw[hi];exact h3⟩
 | bts e l=>
   obtain⟨b,n,cs,fz,h1,h2⟩:=h
   exact⟨b,n,cs,fz,by rw[hf];exact h1,by rw[hw,hi];exact h2⟩
theorem eH.ren {κ κ':Kap}(hw:κ'.w=κ.w)(hi:κ'.imm=κ.imm){g:Nat->Nat}(hf:∀ r,κ'.nm (g r)=κ.nm r){r:Nat}{B:Blk}(h:eH κ r B):eH κ' (g r) (B.ren fun r=>some (g r)):=by
 have hf':∀ r r',(fun r=>some (g r)) r=some r'->κ'.nm r'=κ.nm r:=fun r r' h=>by cases h;exact hf r
 cases B with
 | none=>trivial
 | cells T f l=>
   simp only[Blk.ren]
   rcases h with ⟨h1,h2,h3⟩ | ⟨b,n,cs,h1,h2,h3,h4,h5,h6,h7⟩
   ·exact .inl ⟨h1,by rw[h2];simp only[AV.renL],by rw[hf];exact h3⟩
   ·obtain⟨q1,q2⟩:=eu hw hi hf' l cs h6
    exact .inr ⟨b,n,cs,by rw[hf];exact h1,by rw[hw];exact h2,h3,by rw[q1];exact h4,fun hb=>by rw[q1];exact h5 hb,q2,by rw[hi];exact h7⟩
 | tok e sz=>
   simp only[Blk.ren]
   rcases h with h | ⟨g',n,cap,cur,h1,h2,h3⟩
   ·exact .inl (by rw[hf];exact h)
   ·exact .inr ⟨g',n,cap,cur,by rw[hf];exact h1,by rw[hw];exact h2,by rw[hi];exact h3⟩
 | bts e l=>
   obtain⟨b,n,cs,fz,h1,h2⟩:=h
   exact⟨b,n,cs,fz,by rw[hf];exact h1,by rw[hw,hi];exact h2⟩
def oL (f:Nat->Option Nat):List Blk->Nat->(Nat->Nat)->List (Nat×Blk)
 | [],_,_=>[]
 | b::r,i,g=>(g i,b.ren f)::oL f r (i+1) g
def eV:List Nat->List (Nat×Blk)
 | []=>[]
 | r::q=>(r,.none)::eV q
def gp (sto:List (Nat×Blk))(f:Nat->Option Nat):List Nat->List Blk->Prop
 | [],[]=>True
 | r::rs,b::bs=>BlkZ (lookB r sto) (b.ren f)/\gp sto f rs bs
 | _,_=>False
theorem gp.get {sto:List (Nat×Blk)}{f:Nat->Option Nat}:∀ {rs:List Nat} {bs:List Blk},gp sto f rs bs->rs.length=bs.length/\∀ (i r:Nat) (b:Blk),rs[i]? = some r->bs[i]? = some b->BlkZ (lookB r sto) (b.ren f)
 | [],[],h=>⟨rfl,by simp⟩
 | r::rs,b::bs,h=>by
   obtain⟨h1,h2⟩:=h
   obtain⟨h3,h4⟩:=gp.get h2
   refine⟨by simp[h3],fun i q d hq hd=>?_⟩
   cases i with
   | zero=>simp at hq hd;subst hq;subst hd;exact h1
   | succ i=>exact h4 i q d (by simpa using hq) (by simpa using hd)
 | [],_::_,h=>h.elim
 | _::_,[],h=>h.elim
end
section
variable {P:Program}{G:Nat->List PV}
theorem eH.named {κ:Kap}{r:Nat}{B:Blk}(h:eH κ r B)(hB:B≠.none):∃ d,κ.nm r=some d:=by
 cases B with
 | none=>exact absurd rfl hB
 | cells T f l=>
   rcases h with ⟨_,_,h⟩ | ⟨b,n,cs,h,_⟩
   ·exact⟨_,h⟩
   ·exact⟨_,h⟩
 | tok e sz=>
   rcases h with h | ⟨g,n,cap,cur,h,_⟩
   ·exact⟨_,h⟩
   ·exact⟨_,h⟩
 | bts e l=>
   obtain⟨b,n,cs,fz,h,_⟩:=h
   exact⟨_,h⟩
theorem Blk.ren_ne {f:Nat->Option Nat}{b:Blk}:b.ren f≠.none↔b≠.none:=by
 cases b<;>simp[Blk.ren]
theorem No {next:Nat}{rs:List Nat}(hnd:rs.Nodup)(hlt:∀ r∈rs,r<next){i j:Nat}(h:gIn next rs i=gIn next rs j):i=j:=by
 by_cases hi:i<rs.length
 ·have ei:=lB next rs i _ (List.getElem?_eq_getElem hi)
  have hi':=hlt _ (List.getElem_mem hi)
  by_cases hj:j<rs.length
  ·have ej:=lB next rs j _ (List.getElem?_eq_getElem hj)
   rw[ei,ej] at h
   exact (List.getElem_inj hnd).1 h
  ·have ej:=m7 next rs j (by omega)
   omega
 ·have ei:=m7 next rs i (by omega)
  by_cases hj:j<rs.length
  ·have ej:=lB next rs j _ (List.getElem?_eq_getElem hj)
   have hj':=hlt _ (List.getElem_mem hj)
   omega
  ·have ej:=m7 next rs j (by omega)
   omega
theorem qy {f:Nat->Option Nat}{g:Nat->Nat}(hg:∀ i j,g i=g j->i=j)(rest:List (Nat×Blk))(r:Nat):∀ (bs:List Blk) (k:Nat),
  (∀ i b,bs[i]? = some b->g (k+i)=r->lookB r (oL f bs k g++rest)=b.ren f)/\((∀ i,i<bs.length->g (k+i)≠r)->lookB r (oL f bs k g++rest)=lookB r rest)
 | [],k=>⟨by simp,fun _=>rfl⟩
 | b::q,k=>by
   obtain⟨h1,h2⟩:=qy hg rest r q (k+1)
   refine⟨fun i b' hi hr=>?_,fun h=>?_⟩
   ·simp only[oL,List.cons_append,lookB]
    cases i with
    | zero=>
      simp only[List.getElem?_cons_zero,Option.some.injEq] at hi
      subst hi
      rw[if_pos (by simpa using hr)]
    | succ i=>
      rw[if_neg (fun e=>by have:=hg _ _ (e.trans hr.symm);omega)]
      exact h1 i b' (by simpa using hi) (by rw[<- hr];congr 1;omega)
   ·simp only[oL,List.cons_append,lookB]
    rw[if_neg (by have:=h 0 (by simp);simpa using this)]
    exact h2 fun i hi=>by
     have:=h (i+1) (by simp;omega)
     rwa [show k+(i+1)=k+1+i by omega] at this
theorem mY (rest:List (Nat×Blk))(r:Nat):∀ (l:List Nat),lookB r (eV l++rest)=if r∈l then .none else lookB r rest
 | []=>by simp[eV]
 | x::q=>by
   simp only[eV,List.cons_append,lookB,mY rest r q,List.mem_cons]
   by_cases h:x=r
   ·subst h;simp
   ·rw[if_neg h]
    by_cases hq:r∈q
    ·simp[hq]
    ·have:¬ (r=x\/r∈q):=by rintro (e | e);exact h e.symm;exact hq e
     rw[if_neg hq,if_neg this]
theorem bF.frame {k f:Nat}{args0:List AV}{bs:List Blk}{v:AV}{bs':List Blk}(h:bF P G k f args0 bs v bs'){rs:List Nat}{args:List AV}{sto:List (Nat×Blk)}{next:Nat}
  (hargs:AVzL args (AV.renL (gSo next rs) args0)) (hbs:gp sto (gSo next rs) rs bs) (hnd:rs.Nodup) (hlt:∀ r∈rs,r<next) (hk:k<=bs.length) (hk':k<=bs'.length) (hne:∀ b∈bs.take k,b≠.none) :
  cm P G f args sto next fun v' sto' next'=>v'=v.ren (gSo next (rs.take k))/\sto'=oL (gSo next (rs.take k)) bs' 0 (gIn next (rs.take k))++(eV (rs.drop k)++sto)/\next'=next+(bs'.length - k):=by
 obtain⟨hcal,h⟩:=h
 refine⟨hcal,fun κ vals hS hf hsz hvals=>?_⟩
 obtain⟨hrl,hat⟩:=hbs.get
 let κ1:Kap:=⟨κ.w,fun i=>κ.nm (gIn next rs i),κ.imm⟩
 have hσ1:(fun r=>lookB r (bW bs 0))=fun r=>bs.getD r .none:=gw bs
 have hlook:∀ i b,bs[i]? = some b->∃ r,rs[i]? = some r/\gIn next rs i=r/\eH κ r (b.ren (gSo next rs))/\(b≠.none->lookB r sto≠.none):=by
  intro i b hb
  have hi:i<rs.length:=by rw[hrl];exact (List.getElem?_eq_some_iff.1 hb).1
  have hr:=List.getElem?_eq_getElem hi
  obtain⟨q1,q2⟩:=(hat i _ b hr hb).rel (hS.blk rs[i])
  exact⟨rs[i],hr,lB next rs i _ hr,q1,fun hb'=>q2 (Blk.ren_ne.2 hb')⟩
 have hlive:∀ i,bs.getD i .none≠.none->∃ b,bs[i]? = some b/\b≠.none:=by
  intro i hi
  rw[List.getD_eq_getElem?_getD] at hi
  cases hb:bs[i]? with
  | none=>rw[hb] at hi;exact absurd rfl hi
  | some b=>rw[hb] at hi;exact⟨b,rfl,hi⟩
 have hB1:∀ i b,bs[i]? = some b->eH κ1 i b:=by
  intro i b hb
  obtain⟨r,hr,hgr,hB,_⟩:=hlook i b hb
  exact eH.unren (κ:=κ) (κ':=κ1) rfl rfl (g:=gIn next rs) (fun _=>rfl) (by rw[hgr];exact hB)
 have hl1:∀ b,(cl κ1 (fun r=>lookB r (bW bs 0)) G).lent b->(cl κ (fun r=>lookB r sto) G).lent b:=by
  rintro b ⟨i,d,h1,h2,h3⟩
  simp only[congrFun hσ1 i] at h1
  obtain⟨b',hb,hbn⟩:=hlive i h1
  obtain⟨r,hr,hgr,_,hn⟩:=hlook i b' hb
  exact⟨r,d,hn hbn,by rw[<- hgr];exact h2,h3⟩
 have hm1:∀ b,(cl κ1 (fun r=>lookB r (bW bs 0)) G).mine b->(cl κ (fun r=>lookB r sto) G).mine b:=fun b hb=>hb.elim .inl (fun h=>.inr (hl1 b h))
 have hS1:SRel (cl κ1 (fun r=>lookB r (bW bs 0)) G) κ1 (fun r=>lookB r (bW bs 0)):=by
  refine⟨fun i=>?_,fun i j d d' b h1 h2 hij hd hd' hb=>?_,fun i d b h1 hd hb=>.inr ⟨i,d,h1,hd,hb⟩,hS.immLt,?_⟩
  ·rw[congrFun hσ1 i]
   show eH κ1 i (bs.getD i .none)
   rw[List.getD_eq_getElem?_getD]
   cases hb:bs[i]? with
   | none=>trivial
   | some b=>exact hB1 i b hb
  ·simp only[congrFun hσ1 i] at h1
   simp only[congrFun hσ1 j] at h2
   obtain⟨b1,hb1,hn1⟩:=hlive i h1
   obtain⟨b2,hb2,hn2⟩:=hlive j h2
   obtain⟨r,hr,hgr,_,hn⟩:=hlook i b1 hb1
   obtain⟨r',hr',hgr',_,hn'⟩:=hlook j b2 hb2
   refine hS.apart r r' d d' b (hn hn1) (hn' hn2) (fun e=>hij ?_) (by rw[<- hgr];exact hd) (by rw[<- hgr'];exact hd') hb
   obtain⟨hi,ei⟩:=List.getElem?_eq_some_iff.1 hr
   obtain⟨hj,ej⟩:=List.getElem?_eq_some_iff.1 hr'
   exact (List.getElem_inj hnd).1 (ei.trans (e.trans ej.symm))
  ·refine⟨fun g o p hp=>?_,fun g hg=>?_⟩
   ·exact hS.glob.1 g o p hp
   ·obtain⟨h1,h2,h3⟩:=hS.glob.2 g hg
    exact⟨h1,fun hl=>h2 (hl1 g hl),h3⟩
 have hf1:∀ r,bs.length<=r->κ1.nm r=none:=fun r hr=>by
  show κ.nm (gIn next rs r)=none
  rw[m7 next rs r (by omega)]
  exact hf _ (by omega)
 have hlen0:args0.length=args.length:=by
  rw[hargs.length]
  have:∀ (f:Nat->Option Nat) (l:List AV),(AV.renL f l).length=l.length:=by
   intro f l
   induction l with
   | nil=>simp[AV.renL]
   | cons x r ih=>simp[AV.renL,ih]
  rw[this]
 have hv1:∀ (i:Nat) (x:AV),args0[i]? = some x->ARel κ1 x (vals.getD i Go.undef):=
  (kf (κ:=κ) (κ':=κ1) rfl rfl (g:=gIn next rs) (fun _=>rfl) args0 vals (fun i x hx=>by
   obtain⟨y,hy,hyx⟩:=hargs.get i x hx
   exact hyx.rel (hvals i y hy))).2
 refine (h κ1 vals hS1 hf1 (by omega) hv1).mono ?_
 rintro e w' ⟨u,v',κ1',sto',next',rfl,rfl,he,hL,hv,hS',hf',rfl,rfl,rfl⟩
 obtain⟨g,hgdef⟩:∃ g,g=gIn next (rs.take k):=⟨_,rfl⟩
 have htl:(rs.take k).length=k:=by rw[List.length_take];omega
 have hg1:∀ i,i<k->∃ r,rs[i]? = some r/\g i=r/\r<next:=by
  intro i hi
  have hi':i<rs.length:=by omega
  have hr:=List.getElem?_eq_getElem hi'
  refine⟨rs[i],hr,?_,hlt _ (List.getElem_mem hi')⟩
  rw[hgdef]
  exact lB next _ i _ (by rw[List.getElem?_take,if_pos hi];exact hr)
 have hg2:∀ i,k<=i->g i=next+(i - k):=fun i hi=>by rw[hgdef,m7 next _ i (by omega),htl]
 have hginj:∀ i j,g i=g j->i=j:=fun i j hij=>by
  rw[hgdef] at hij
  exact No (hnd.sublist (List.take_sublist _ _)) (fun r hr=>hlt r (List.mem_of_mem_take hr)) hij
 have hso:gSo next (rs.take k)=fun r=>some (g r):=by rw[hgdef];rfl
 rw[hso,<- hgdef]
 let κ':Kap:=⟨κ1'.w,fun r=>if r<next then κ.nm r else κ1'.nm (k+(r - next)),κ1'.imm⟩
 have hnmk:∀ i,i<k->κ1'.nm i=κ1.nm i:=by
  intro i hi
  have hib:i<bs.length:=by omega
  have hb:=List.getElem?_eq_getElem hib
  obtain⟨d,hd⟩:=(hB1 i _ hb).named (hne _ (List.mem_take_iff_getElem.2 ⟨i,by omega,rfl⟩))
  rw[hd]
  exact he.nm i d (by simp only[Kap.cut];rw[if_pos hi];exact hd)
 have hnm':∀ i,κ'.nm (g i)=κ1'.nm i:=by
  intro i
  by_cases hi:i<k
  ·obtain⟨r,hr,hgr,hrn⟩:=hg1 i hi
   show (if g i<next then κ.nm (g i) else κ1'.nm (k+(g i - next)))=_
   rw[hgr,if_pos hrn,hnmk i hi]
   show κ.nm r=κ.nm (gIn next rs i)
   rw[lB next rs i r hr]
  ·show (if g i<next then κ.nm (g i) else κ1'.nm (k+(g i - next)))=_
   rw[hg2 i (by omega),if_neg (by omega)]
   congr 1;omega
 have hext:Ext κ κ':=⟨fun b o hi=>he.imm b o hi,fun b o v hi hc=>he.cell b o v hi hc,fun r d hd=>by
  have hr:r<next:=by
   rcases Nat.lt_or_ge r next with h | h
   ·exact h
   ·rw[hf r h] at hd;cases hd
  show (if r<next then κ.nm r else _)=_
  rw[if_pos hr];exact hd,fun b o ho hc=>he.obj b o ho hc⟩
 have hout:∀ r d b,lookB r sto≠.none->r∉rs->κ.nm r=some d->d.block=some b->b<κ.w.heap.size/\¬ (cl κ1 (fun r=>lookB r (bW bs 0)) G).lent b:=by
  intro r d b h1 h2 h3 h4
  refine⟨(hS.blk r).lt h1 h3 h4,?_⟩
  rintro⟨i,d',q1,q2,q3⟩
  simp only[congrFun hσ1 i] at q1
  obtain⟨b',hb,hbn⟩:=hlive i q1
  obtain⟨r',hr',hgr,_,hn⟩:=hlook i b' hb
  refine hS.apart r r' d d' b h1 (hn hbn) (fun e=>h2 (e▸List.mem_of_getElem? hr')) h3 (by rw[<- hgr];exact q2) h4 q3
 have hmem:∀ r,r∈rs->(∃ i,i<bs'.length/\g i=r)\/r∈rs.drop k:=by
  intro r hr
  obtain⟨i,hi⟩:=List.getElem?_of_mem hr
  by_cases hik:i<k
  ·obtain⟨r',hr',hgr,_⟩:=hg1 i hik
   rw[hi] at hr';cases hr'
   exact .inl ⟨i,by omega,hgr⟩
  ·refine .inr (List.mem_of_getElem? (i:=i - k) ?_)
   rw[List.getElem?_drop,show k+(i - k)=i by omega];exact hi
 have hσ':∀ r,(∃ i b,bs'[i]? = some b/\g i=r/\lookB r (oL (fun r=>some (g r)) bs' 0 g++(eV (rs.drop k)++sto))=b.ren (fun r=>some (g r))) \/
   lookB r (oL (fun r=>some (g r)) bs' 0 g++(eV (rs.drop k)++sto)) = .none\/(r∉rs/\(∀ i,i<bs'.length->g i≠r)/\lookB r (oL (fun r=>some (g r)) bs' 0 g++(eV (rs.drop k)++sto))=lookB r sto):=by
  intro r
  obtain⟨q1,q2⟩:=qy (f:=fun r=>some (g r)) hginj (eV (rs.drop k)++sto) r bs' 0
  by_cases hi:∃ i,i<bs'.length/\g i=r
  ·obtain⟨i,hi,hgi⟩:=hi
   exact .inl ⟨i,bs'[i],List.getElem?_eq_getElem hi,hgi,q1 i _ (List.getElem?_eq_getElem hi) (by rw[Nat.zero_add];exact hgi)⟩
  ·have hni:∀ i,i<bs'.length->g i≠r:=fun i h1 h2=>hi ⟨i,h1,h2⟩
   have e:=q2 (fun i h1=>by rw[Nat.zero_add];exact hni i h1)
   rw[mY] at e
   by_cases hr:r∈rs.drop k
   ·rw[if_pos hr] at e;exact .inr (.inl e)
   ·rw[if_neg hr] at e
    exact .inr (.inr ⟨fun h=>(hmem r h).elim hi hr,hni,e⟩)
 have hlive':∀ i b,bs'[i]? = some b->b.ren (fun r=>some (g r))≠.none->lookB i (bW bs' 0)≠.none:=by
  intro i b hb hbn
  have e2:lookB i (bW bs' 0)=bs'.getD i .none:=congrFun (gw bs') i
  rw[e2,List.getD_eq_getElem?_getD,hb]
  exact Blk.ren_ne.1 hbn
 refine⟨u,_,κ',_,_,rfl,rfl,hext,⟨hL.os,hL.tape,hL.output,hL.size,fun b hb hl=>hL.block b hb fun h=>hl (hl1 b h),fun b o hi=>(hL.imm b o hi).imp id (hm1 b)⟩,
  r3 (κ:=κ1') (κ':=κ') rfl rfl (fun r r' hr=>by cases hr;exact hnm' r) v' u hv,?_,fun r hr=>?_,rfl,rfl,rfl⟩
 ·refine⟨fun r=>?_,fun r r' d d' b h1 h2 hrr hd hd' hb=>?_,fun r d b h1 hd hb=>?_,hS'.immLt,?_⟩
  ·show eH κ' r (lookB r _)
   rcases hσ' r with ⟨i,b,hb,hgi,e⟩ | e | ⟨hr,hni,e⟩
   ·rw[e,<- hgi]
    refine eH.ren (κ:=κ1') (κ':=κ') rfl rfl hnm' ?_
    have:=hS'.blk i
    have e2:lookB i (bW bs' 0)=bs'.getD i .none:=congrFun (gw bs') i
    simp only[e2,List.getD_eq_getElem?_getD,hb] at this
    exact this
   ·rw[e];trivial
   ·rw[e]
    refine (hS.blk r).keep hext fun hbn d b hd hb=>?_
    obtain⟨q1,q2⟩:=hout r d b hbn hr hd hb
    refine⟨hL.block b q1 q2,fun o ho=>?_⟩
    rcases hL.imm b o ho with h | h | h
    ·exact h
    ·exact absurd q1 (Nat.not_lt.2 h)
    ·exact absurd h q2
  ·have cal:∀ r i b0 d,bs'[i]? = some b0->g i=r->b0.ren (fun r=>some (g r))≠.none->κ'.nm r=some d->lookB i (bW bs' 0)≠.none/\κ1'.nm i=some d:=by
    intro r i b0 d hb0 hgi hbn hd
    exact⟨hlive' i b0 hb0 hbn,by rw[<- hnm' i,hgi];exact hd⟩
   have own:∀ r d,r∉rs->lookB r sto≠.none->κ'.nm r=some d->κ.nm r=some d:=by
    intro r d hr hbn hd
    obtain⟨d',hd'⟩:=(hS.blk r).named hbn
    have:=hext.nm r d' hd'
    rw[this] at hd;cases hd;exact hd'
   have mix:∀ r i b0 d d' b,bs'[i]? = some b0->b0.ren (fun r=>some (g r))≠.none->κ1'.nm i=some d->d.block=some b->lookB i (bW bs' 0)≠.none->r∉rs->lookB r sto≠.none->κ.nm r=some d'->d'.block≠some b:=by
    intro r i b0 d d' b hb0 hbn hd hdb hl hr hrl hd' hdb'
    obtain⟨q1,q2⟩:=hout r d' b hrl hr hd' hdb'
    rcases hS'.mine i d b hl hd hdb with h | h
    ·exact absurd q1 (Nat.not_lt.2 h)
    ·exact q2 h
   rcases hσ' r with ⟨i,b1,hb1,hgi,e⟩ | e | ⟨hr,hni,e⟩
   ·have h1':b1.ren (fun r=>some (g r))≠.none:=by
     intro h0;exact h1 (e.trans h0)
    obtain⟨p1,p2⟩:=cal r i b1 d hb1 hgi h1' hd
    rcases hσ' r' with ⟨j,b2,hb2,hgj,e'⟩ | e' | ⟨hr',hni',e'⟩
    ·have h2':b2.ren (fun r=>some (g r))≠.none:=by
      intro h0;exact h2 (e'.trans h0)
     obtain⟨p3,p4⟩:=cal r' j b2 d' hb2 hgj h2' hd'
     exact hS'.apart i j d d' b p1 p3 (fun hij=>hrr (by rw[<- hgi,<- hgj,hij])) p2 p4 hb
    ·exact absurd e' h2
    ·have h2':lookB r' sto≠.none:=by intro h0;exact h2 (e'.trans h0)
     exact mix r' i b1 d d' b hb1 h1' p2 hb p1 hr' h2' (own r' d' hr' h2' hd')
   ·exact absurd e h1
   ·have h1':lookB r sto≠.none:=by intro h0;exact h1 (e.trans h0)
    have hd0:=own r d hr h1' hd
    rcases hσ' r' with ⟨j,b2,hb2,hgj,e'⟩ | e' | ⟨hr',hni',e'⟩
    ·have h2':b2.ren (fun r=>some (g r))≠.none:=by
      intro h0;exact h2 (e'.trans h0)
     obtain⟨p3,p4⟩:=cal r' j b2 d' hb2 hgj h2' hd'
     intro hb'
     exact mix r j b2 d' d b hb2 h2' p4 hb' p3 hr h1' hd0 hb
    ·exact absurd e' h2
    ·have h2':lookB r' sto≠.none:=by intro h0;exact h2 (e'.trans h0)
     exact hS.apart r r' d d' b h1' h2' hrr hd0 (own r' d' hr' h2' hd') hb
  ·rcases hσ' r with ⟨i,b1,hb1,hgi,e⟩ | e | ⟨hr,hni,e⟩
   ·have h1':b1.ren (fun r=>some (g r))≠.none:=by
     intro h0;exact h1 (e.trans h0)
    refine hm1 b (hS'.mine i d b (hlive' i b1 hb1 h1') (by rw[<- hnm' i,hgi];exact hd) hb)
   ·exact absurd e h1
   ·have h1':lookB r sto≠.none:=by intro h0;exact h1 (e.trans h0)
    obtain⟨d',hd'⟩:=(hS.blk r).named h1'
    have:=hext.nm r d' hd'
    rw[this] at hd;cases hd
    exact .inr ⟨r,d,h1',hd',hb⟩
  ·refine⟨hS'.glob.1,fun g' hg'=>?_⟩
   obtain⟨h1,h2,cs,T,fz,h3,h4⟩:=hS.glob.2 g' hg'
   exact⟨h1,h2,cs,T,fz,(hL.block g' h1 fun h=>h2 (hl1 g' h)).trans h3,h4⟩
 ·show (if r<next then κ.nm r else κ1'.nm (k+(r - next)))=none
  rw[if_neg (by omega)]
  exact hf' _ (by omega)
def uQ (k:Nat)(rs:List Nat)(bs bs':List Blk)(next:Nat):Bool:=
 decide (k<=bs.length)&&decide (k<=bs'.length)&&(bs.take k).all (fun b=>match b with | .none=>false | _=>true)&&rs.all (fun r=>decide (r<next))&&decide rs.Nodup
theorem ab.lentK {k f:Nat}{args0:List AV}{bs:List Blk}{v:AV}{bs':List Blk}(h:bF P G k f args0 bs v bs')(rs:List Nat){args:List AV}{env:List (Nat×AV)}{sto:List (Nat×Blk)}{next:Nat}{K:AV->St->Prop}
  (hok:uQ k rs bs bs' next=true) (hargs:AVzL args (AV.renL (gSo next rs) args0)) (hbs:gp sto (gSo next rs) rs bs)
  (hK:K (v.ren (gSo next (rs.take k))) ⟨env,oL (gSo next (rs.take k)) bs' 0 (gIn next (rs.take k))++(eV (rs.drop k)++sto),next+(bs'.length - k)⟩):ab P G f args ⟨env,sto,next⟩ K:=by
 simp only[uQ,Bool.and_eq_true,decide_eq_true_eq,List.all_eq_true] at hok
 obtain⟨⟨⟨⟨h1,h2⟩,h3⟩,h4⟩,h5⟩:=hok
 refine ab.lent (h.frame hargs hbs h5 h4 h1 h2 (fun b hb e=>?_)) ?_
 ·have:=h3 b hb
  subst e;cases this
 ·rintro v' sto' next' ⟨rfl,rfl,rfl⟩
  exact hK
theorem ab.weak {f:Nat}{args args':List AV}{s s':St}{K:AV->St->Prop}(hw:WkC s args s' args')(h:ab P G f args' s' K):ab P G f args s K:=by
 obtain⟨s2,args2,hw2,h2⟩:=h
 refine⟨s2,args2,⟨hw2.1.trans hw.1,hw2.2.1.trans hw.2.1,fun c κ0 κ N a w vals hR hv=>?_⟩,?_⟩
 ·obtain⟨κ1,h3,h4⟩:=hw.2.2 c κ0 κ N a w vals hR hv
  exact hw2.2.2 c κ0 κ1 N a w vals h3 h4
 ·rcases h2 with ⟨ps,r,k1,k2,k3⟩ | ⟨Q,k1,k2⟩
  ·exact .inl ⟨ps,r,k1,k2,k3⟩
  ·refine .inr ⟨Q,k1,fun v sto' next' hq=>?_⟩
   have:=k2 v sto' next' hq
   rw[hw.2.1] at this
   exact this
end
theorem En (k:Nat):bW [] k=[]:=_root_.id rfl
theorem yK (b:Blk)(r:List Blk)(k:Nat):bW (b::r) k=(k,b)::bW r (k+1):=_root_.id rfl
theorem ym (sto:List (Nat×Blk))(f:Nat->Option Nat):gp sto f [] []=True:=_root_.id rfl
theorem th (sto:List (Nat×Blk))(f:Nat->Option Nat)(r:Nat)(rs:List Nat)(b:Blk)(bs:List Blk):gp sto f (r::rs) (b::bs)=(BlkZ (lookB r sto) (b.ren f)/\gp sto f rs bs):=_root_.id rfl
theorem HT (f:Nat->Option Nat)(i:Nat)(g:Nat->Nat):oL f [] i g=[]:=_root_.id rfl
theorem CK (f:Nat->Option Nat)(b:Blk)(r:List Blk)(i:Nat)(g:Nat->Nat):oL f (b::r) i g=(g i,b.ren f)::oL f r (i+1) g:=_root_.id rfl
theorem CV:eV []=[]:=_root_.id rfl
theorem xK (r:Nat)(q:List Nat):eV (r::q)=(r,.none)::eV q:=_root_.id rfl
theorem Qx (next:Nat)(rs:List Nat)(r:Nat):gSo next rs r=some (gIn next rs r):=_root_.id rfl
theorem Nn (next i:Nat):gIn next [] i=next+i:=_root_.id rfl
theorem S5 (next r:Nat)(q:List Nat):gIn next (r::q) 0=r:=_root_.id rfl
theorem S4 (next r i:Nat)(q:List Nat):gIn next (r::q) (i+1)=gIn next q i:=_root_.id rfl
def qP (s sz off len:Nat):Blk->Option (List PV)
 | .cells _ _ l=>if s=1/\sz=1/\off+len<=l.length/\((l.drop off).take len).all AV.one=true then pvs ((l.drop off).take len) else none
 | _=>none
theorem tz (σ:au)(sz r s off len:Nat):bh σ sz (.row r s off len)=qP s sz off len (σ r):=by
 simp only[bh,qP]
 cases σ r<;>rfl
theorem lV (k:IntKind)(l:List Int):(l.map (PV.int k)).all PV.one=true:=by
 rw[List.all_eq_true];intro x hx;obtain⟨n,_,rfl⟩:=List.mem_map.1 hx;rfl
theorem Ep {T:Nat}{f:Bool}{l:List PV}{n:Nat}(h:n<=l.length)(h1:l.all PV.one=true):qP 1 1 0 n (.cells T f (l.map .pv))=some (l.take n):=by
 have h2:(((l.map AV.pv).drop 0).take n)=(l.take n).map .pv:=by rw[List.drop_zero,List.map_take]
 have h3:((l.take n).map AV.pv).all AV.one=true:=by
  rw[List.all_eq_true] at h1 ⊢
  intro x hx
  obtain⟨y,hy,rfl⟩:=List.mem_map.1 hx
  exact h1 y (List.mem_of_mem_take hy)
 have h4:∀ k:List PV,pvs (k.map .pv)=some k:=by
  intro k
  induction k with
  | nil=>rfl
  | cons a r ih=>simp[pvs,AV.toPV,ih]
 simp only[qP]
 rw[if_pos (by refine⟨trivial,trivial,by simp;omega,by rw[h2];exact h3⟩),h2,h4]
theorem yR {T:Nat}{f:Bool}{k:IntKind}{p:List Int}{n:Nat}(h:n=p.length):qP 1 1 0 n (.cells T f ((p.map (PV.int k)).map .pv))=some (p.map (PV.int k)):=by
 rw[Ep (by simp;omega) (lV k p),List.take_of_length_le (by simp;omega)]
theorem nO {sz r off n:Nat}{k:IntKind}{h:Int}(h0:0<=h)(h1:h<=n)(hs:0<sz):ew sz (.row r sz off n) none (some (.pv (.int k h)))=some (.row r sz off h.toNat):=by
 simp[ew,aZ,h0,h1,hs]
theorem Gl (n:Nat):((n:Int)+1).toNat=n+1:=by omega
theorem JR (n:Int):n+1 - 1=n:=by omega
def OI:List Nat->List Nat->List Nat
 | [],a=>a
 | x::r,a=>OI r (x::a)
theorem GY (a:List Nat):OI [] a=a:=_root_.id rfl
theorem pl (x:Nat)(r a:List Nat):OI (x::r) a=OI r (x::a):=_root_.id rfl
theorem BC:∀ (l a:List Nat),l.reverse++a=OI l a
 | [],a=>rfl
 | x::r,a=>by rw[pl,<- BC r (x::a)];simp
theorem Dy (l:List (Nat×Blk)):aU l.reverse=OI (aU l) []:=by
 rw[<- BC,List.append_nil];simp[aU]
theorem GX (ks rs:List Nat):eS 2 ks rs=(0::ks.map (· + 1),rs.map (· + 1)):=by simp[eS]
theorem aE (A:List (Nat×Nat×Nat×Nat)){k:Nat}{v v':AV}{bs':List Blk}{sto':List (Nat×Blk)}{next':Nat}(h:StZ (cC A k [0] ⟨[(0,v')],sto',next'⟩) ⟨[(0,v)],bW bs' 0,bs'.length⟩):Nc k v bs' v' sto' next':=Wk.head h
theorem ab.nilB (r o e sz:Nat){P:Program}{G:Nat->List PV}{f:Nat}{args:List AV}{s:St}{K:AV->St->Prop}(he:(accB r o e sz s (lookB r s.sto)).env=s.env)(h:ab P G f args (accB r o e sz s (lookB r s.sto)) K):ab P G f args s K:=
 ab.weak (WkC.of (AB r o e sz s) he args) h
section
variable {P:Program}{G:Nat->List PV}
theorem FK (F:St->Prop)(s:St):Ul F .norm s=F s:=_root_.id rfl
theorem Jy (b:ACode)(Q:AExit->St->Prop)(e:List (Nat×AV))(σ:List (Nat×Blk))(n:Nat):N4 (fun m=>vc P G m b) Q ⟨e,σ,n⟩=vc P G n b Q ⟨e,σ,n⟩:=_root_.id rfl
theorem HC (e:List (Nat×AV)):HD [] [] e=e:=_root_.id rfl
theorem Cn (p:Nat)(ps:List Nat)(x:PV)(xs:List PV)(e:List (Nat×AV)):HD (p::ps) (x::xs) e=HD ps xs ((p,.pv x)::e):=_root_.id rfl
def Sb {ι:Type}(A:List (Nat×Nat×Nat×Nat))(S:ι->St)(Inv:Nat->ι->Prop)(i m0:Nat)(keep:List Nat)(Q:AExit->St->Prop)(e0:List (Nat×AV)):AExit->St->Prop
 | .norm,s'=>∃ x',Hd A m0 keep ⟨e0,s'.sto,s'.next⟩ (S x')/\Inv (i+1) x'
 | .exit j,s'=>Q (.exit j) ⟨e0,s'.sto,s'.next⟩
 | .ret,s'=>Q .ret ⟨e0,s'.sto,s'.next⟩
theorem FB {ι:Type}(A:List (Nat×Nat×Nat×Nat))(S:ι->St)(Inv:Nat->ι->Prop)(i m0:Nat)(keep:List Nat)(Q:AExit->St->Prop)(e0 e:List (Nat×AV))(σ:List (Nat×Blk))(n:Nat):Sb A S Inv i m0 keep Q e0 .norm ⟨e,σ,n⟩ = ∃ x',Hd A m0 keep ⟨e0,σ,n⟩ (S x')/\Inv (i+1) x':=_root_.id rfl
theorem FC {ι:Type}(A:List (Nat×Nat×Nat×Nat))(S:ι->St)(Inv:Nat->ι->Prop)(i m0:Nat)(keep:List Nat)(Q:AExit->St->Prop)(e0:List (Nat×AV))(j:Nat)(e:List (Nat×AV))(σ:List (Nat×Blk))(n:Nat):Sb A S Inv i m0 keep Q e0 (.exit j) ⟨e,σ,n⟩=Q (.exit j) ⟨e0,σ,n⟩:=_root_.id rfl
theorem J0 {ι:Type}(A:List (Nat×Nat×Nat×Nat))(S:ι->St)(Inv:Nat->ι->Prop)(i m0:Nat)(keep:List Nat)(Q:AExit->St->Prop)(e0 e:List (Nat×AV))(σ:List (Nat×Blk))(n:Nat):Sb A S Inv i m0 keep Q e0 .ret ⟨e,σ,n⟩=Q .ret ⟨e0,σ,n⟩:=_root_.id rfl
theorem Qw:∀ (lb:List PV),pvs (lb.map AV.pv)=some lb
 | []=>rfl
 | p::r=>by simp[pvs,AV.toPV,Qw r]
theorem J9 {ι:Type}(A:List (Nat×Nat×Nat×Nat))(ch:ι->List (Nat×AV))(chB:ι->List (Nat×Blk))(Inv:Nat->ι->Prop)(x0:ι){gf:Nat}{lb:List PV}{xs:List (List PV)}(hs:TJ P G gf lb xs)
  {m0:Nat} {f:AX} {ps keep:List Nat} {a b:ACode} {Q:AExit->St->Prop} {s:St}
  (h:∀ e0 σ0 n0,cC A m0 keep s=⟨e0,σ0,n0⟩->StZ ⟨e0,σ0,n0⟩ ⟨dW e0 (ch x0),eU σ0 (chB x0),n0⟩/\Inv 0 x0/\dw (f.ev (fun i=>look i (dW e0 (ch x0))))=some (gf,[],lb.map AV.pv) /\
   (∀ i x y,xs[i]? = some y->Inv i x->y.length=ps.length/\vc P G n0 a (Ul (N4 (fun m=>vc P G m b) (Sb A (fun x=>⟨dW e0 (ch x),eU σ0 (chB x),n0⟩) Inv i m0 keep Q (dW e0 (ch x))))) ⟨HD ps y (dW e0 (ch x)),eU σ0 (chB x),n0⟩) /\
   ∀ x,Inv xs.length x->Q .norm ⟨dW e0 (ch x),eU σ0 (chB x),n0⟩):vc P G m0 (.range f ps keep a b) Q s:=by
 obtain⟨h1,h2,h3,h4,h5⟩:=h (cC A m0 keep s).env (cC A m0 keep s).sto (cC A m0 keep s).next rfl
 let S:ι->St:=fun x=>⟨dW (cC A m0 keep s).env (ch x),eU (cC A m0 keep s).sto (chB x),(cC A m0 keep s).next⟩
 refine⟨fun i t=>∃ x,t=S x/\Inv i x,S x0,aK h1,⟨x0,rfl,h2⟩,?_⟩
 have e:dw (f.ev (S x0).E)=some (gf,[],lb.map AV.pv):=h3
 rw[e]
 refine⟨rfl,lb,xs,Qw lb,hs,?_,?_⟩
 ·rintro i y t hy ⟨x,rfl,hx⟩
  obtain⟨k1,k2⟩:=h4 i x y hy hx
  refine⟨k1,cq a (fun e s hs=>?_) _ k2⟩
  cases e with
  | norm=>
    refine cq b (fun e s hs=>?_) s hs
    cases e with
    | norm=>
      obtain⟨x',q1,q2⟩:=hs
      exact⟨S x',q1,x',rfl,q2⟩
    | exit j=>exact hs
    | ret=>exact hs
  | exit j=>exact hs.elim
  | ret=>exact hs.elim
 ·rintro t ⟨x,rfl,hx⟩
  exact h5 x hx
end
attribute [push_cast] cP F1 j7 FZ F0 Tg Th Ti Tj Tk Tl Dj Ir yg Dk S9 Tb Ta yc yd ye Jg Jh NL Jj NK Jf Lx A8 wK wJ wI wH rO wG rN Gs A9 Ba rM rL Gv Gw ME MF Gr Gq Bc rP sn Gu Gt wF Mu Mv w9 sm sl B2 B3 Cy ML pC xa sk pA w8 Hj BZ BY wZ Hk sq sr EL Fd r7 Hx Hm Hq Ho Hn Hw MD Hl su Hv Hp Hr Hs Ht Hu Cc Cb B6 B7 B8 B9 Ca Ch Hz Cf Ce Cg xe Hy Cd Hg BT B5 He BW BV BU Hf MA MB CR xW sV UI UH MG Cl Cm xm nT Ls wy Gi Gh Gk Gg Gj C7 ld sU M3 sO sP M4 sQ sR p6 E0 zU zI zO zJ qY zP ag zH EY EW zy zE zz zD EZ zG zF tg yh BX wY wX Na M9 wp wo x8 Rq Io zY Df Ix Dv Dq Dt Dr tj Du Dd x7 s9 ta M5 Mx wU o8 Gz ff Ga AY Jr Js MQ H8 H7 Ib Ia Ie Ic Jv AJ wu AD AE AC rF Ev yX tA pL pM H3 HA QM QN Eu GF GD GH GG PL PK PJ sX qp qo qu xY s7 n7 n8 Dc Li F6 AK yY tB qQ NQ Dg qv tc x9 tf qx qw ob oa M2 Ik Ij xQ Dz yq NR yW EN zr EO zw NS NT In Qi H1 Fy Fz JZ tW tX Al Le Pf Lg NP Pd Lh F5 Lf Pe HY SW SY G0 BG J4 OD L9 PP PQ PO zj BF wP HF Qr DE DG Nj Ni DK yv yu tU tV Ak Cv xq CF xz Cw xv CG xA nY MT Qe Qb MU Qd Qc MV HZ Hh Hi wz rJ oW A7 map_take map_drop CS xj Ry JN JL JK N8 j5 Ad yO yP yQ tw TD Ro Fa Fb Rn fM iS iR HU fL MP HW HV xD HX pw nR sF xH mW xF JQ Rz Ru M8 Iu DH QB QC I1 I3 Nq Nr I2 Nt Nu I6 I4 D4 D5 Ns Ih C1 C0 Ii C4 CZ C2 C3 xN kY kX sI pY xO sJ JS Fs Of Og Nm u9 rc iz Mj Mi qO ow SL PN CU xJ MX MZ MY wQ r4 xM IK DN Ko Me Mc Mb PU Mf Ma Md BI BH BJ G2 pm r5 BK wR G3 BL H2 JT Ft Fu Fx JY M1 M0 H5 H4 Ol JW Ah Fw JX Ok UB UA Sy QT QU QV QW QX QY NI Ec yF HP tQ tR Ai JB Rw JC JG Fk Jl Em Fe Rr Rt Rs JE Fi Fh JF Fj Gy Bg Pm En yK ym th HT CK CV xK Qx Nn S5 S4 tz lV yR nO Gl JR GY pl Dy GX Nat.zero_add Nat.add_zero List.length_cons List.length_nil List.nil_append List.cons_append List.append_nil List.append_assoc List.getElem?_map List.length_map List.map_nil List.map_cons List.take_succ_cons List.take_zero List.drop_succ_cons List.drop_zero List.take_nil List.drop_nil List.all_cons List.all_nil Bool.and_true Bool.true_and Bool.and_false Bool.false_and Bool.not_true Bool.not_false decide_true decide_false Bool.not_not Int.natCast_add Int.cast_ofNat_Int Int.toNat_natCast Option.some.injEq and_true true_and ge_iff_le Nat.le_refl Nat.zero_le Nat.not_lt_zero and_self
attribute [push_cast] FK Jy HC Cn FB FC J0
attribute [push_cast high] Int.cast_ofNat_Int
abbrev d8:=Nat->List AV->List (Nat×Blk)->Nat->Option (AV×List (Nat×Blk)×Nat)
def Ap (call:d8)(G:Nat->List PV)(s:St)(d:Option Nat):AOp->Option St
 | .t o=>match o.run s.E with
   | some v=>some (s.put d v)
   | none=>none
 | .m o=>match o.run G s.next s.E s.σ with
   | some p=>some ((s.mem p.2).put d p.1)
   | none=>none
 | .call f xs=>match dw (f.ev s.E) with
   | some p=>match call p.1 (p.2.1++xs.map (·.ev s.E)++p.2.2) s.sto s.next with
     | some r=>some ((⟨s.env,r.2.1,r.2.2⟩:St).put d r.1)
     | none=>none
   | none=>none
 | .fz g x=>match KE G s.σ g (x.ev s.E) with
   | some p=>some ((s.mem p.2).put d p.1)
   | none=>none
def lI (call:d8)(G:Nat->List PV):List AOper->St->Option St
 | [],s=>some s
 | o::r,s=>match bT s o.guard with
   | some true=>match Ap call G s o.dst o.op with
     | some s'=>lI call G r s'
     | none=>none
   | some false=>lI call G r (s.put o.dst (.pv .undef))
   | none=>none
def dt (call:d8)(f:Nat)(ps:List PV):Option PV:=
 match call f (ps.map .pv) [] 0 with
 | some r=>r.1.toPV
 | none=>none
def tv (call:d8)(s:St)(d:Option Nat)(f:Nat)(args:List AV):Option (St×List Nat×List Nat):=
 match pvs args with
 | some ps=>match dt call f ps with
   | some r=>some (s.put d (.pv r),[],[])
   | none=>none
 | none=>match call f args s.sto s.next with
   | some r=>some ((⟨s.env,r.2.1,r.2.2⟩:St).put d r.1,eS 2 (aU (r.2.1.take (r.2.1.length - s.sto.length)).reverse) (s.sto.map (·.1)))
   | none=>none
def mr (call:d8)(G:Nat->List PV)(s:St)(d:Option Nat):AOp->Option (St×List Nat×List Nat)
 | .t o=>match o.run s.E with
   | some v=>some (s.put d v,[],[])
   | none=>none
 | .m o=>match o.run G s.next s.E s.σ with
   | some p=>some ((s.mem p.2).put d p.1,eS (bw o) (aU p.2) (o.reads s.E))
   | none=>none
 | .call f xs=>match dw (f.ev s.E) with
   | some p=>tv call s d p.1 (p.2.1++xs.map (·.ev s.E)++p.2.2)
   | none=>none
 | .fz _ _=>none
def exD (call:d8)(G:Nat->List PV)(A:List (List Nat)):List AOper->List (List Nat×List Nat)->St->Option St
 | [],T,s=>match okB A T with
   | true=>some s
   | false=>none
 | o::r,T,s=>match bT s o.guard with
   | some true=>match mr call G s o.dst o.op with
     | some q=>exD call G A r (T++[q.2]) q.1
     | none=>none
   | some false=>exD call G A r (T++[([],[])]) (s.put o.dst (.pv .undef))
   | none=>none
def exC (call:d8)(G:Nat->List PV):Nat->ACode->St->Option (AExit×St)
 | 0,_,_=>none
 | _+1,.skip,s=>some (.norm,s)
 | _+1,.ops l keep,s=>match lI call G l s with
   | some s'=>some (.norm,clip0 keep s')
   | none=>none
 | _+1,.draw A l l2 keep,s=>match exD call G A l [] s with
   | some s1=>match lI call G l2 s1 with
     | some s'=>some (.norm,clip0 keep s')
     | none=>none
   | none=>none
 | n+1,.seq a b,s=>match exC call G n a s with
   | some (.norm,s')=>exC call G n b s'
   | some (.exit i,s')=>some (.exit i,s')
   | some (.ret,s')=>some (.ret,s')
   | none=>none
 | n+1,.cond x a b,s=>match x.ev s.E with
   | .pv (.bool true)=>exC call G n a s
   | .pv (.bool false)=>exC call G n b s
   | _=>none
 | n+1,.block id b,s=>match exC call G n b s with
   | some (.norm,s')=>some (.norm,s')
   | some (.exit i,s')=>if i=id then some (.norm,s') else some (.exit i,s')
   | some (.ret,s')=>some (.ret,s')
   | none=>none
 | n+1,.loop keep b,s=>match exC call G n b s with
   | some (.norm,s')=>exC call G n (.loop keep b) s'
   | some (.exit i,s')=>some (.exit i,s')
   | some (.ret,s')=>some (.ret,s')
   | none=>none
 | _+1,.range _ _ _ _ _,_=>none
 | _+1,.exit id,s=>some (.exit id,s)
 | _+1,.ret,s=>some (.ret,s)
structure TabRow where
 f:Nat
 muts:List Nat
 fn:AFn
def It (f:Nat):List TabRow->Option AFn
 | []=>none
 | r::q=>if r.f=f then some r.fn else It f q
def xC (G:Nat->List PV)(fn:AFn)(s:St):Option (AV×List (Nat×Blk)×Nat):=
 match fg G s fn.res with
 | some l=>some (An l,s.sto,s.next)
 | none=>none
def exF (tab:List TabRow)(O:Nat->List PV->Option PV)(G:Nat->List PV)(m:Nat):Nat->d8
 | 0,_,_,_,_=>none
 | n+1,f,args,sto,next=>match (pvs args).bind (O f) with
   | some r=>some (.pv r,sto,next)
   | none=>match It f tab with
     | some fn=>if args.length<=fn.N then match exC (exF tab O G m n) G m fn.body ⟨du args,sto,next⟩ with
       | some (.norm,s)=>xC G fn s
       | some (.ret,s)=>xC G fn s
       | _=>none
       else none
     | none=>none
section
variable {P:Program}{G:Nat->List PV}
def bz (sto:List (Nat×Blk))(next:Nat)(sto':List (Nat×Blk))(next':Nat):Prop:=(∃ pre,sto'=pre++sto)/\next<=next'
theorem bz.refl (sto:List (Nat×Blk))(next:Nat):bz sto next sto next:=⟨⟨[],rfl⟩,Nat.le_refl _⟩
theorem bz.trans {a b c:List (Nat×Blk)}{i j k:Nat}(h:bz a i b j)(g:bz b j c k):bz a i c k:=by
 obtain⟨⟨p,rfl⟩,h2⟩:=h
 obtain⟨⟨q,rfl⟩,g2⟩:=g
 exact⟨⟨q++p,by simp⟩,Nat.le_trans h2 g2⟩
theorem nB:∀ (δ l:List (Nat×Blk)),l8 l δ=δ.reverse++l
 | [],l=>rfl
 | p::r,l=>by rw[l8,nB r];simp
theorem bz.put {s:St}{sto':List (Nat×Blk)}{n:Nat}{e:List (Nat×AV)}(h:bz s.sto s.next sto' n)(d:Option Nat)(v:AV):bz s.sto s.next ((⟨e,sto',n⟩:St).put d v).sto ((⟨e,sto',n⟩:St).put d v).next:=by
 cases d<;>exact h
theorem bz.mem (s:St)(δ:List (Nat×Blk))(d:Option Nat)(v:AV):bz s.sto s.next ((s.mem δ).put d v).sto ((s.mem δ).put d v).next:=by
 have:bz s.sto s.next (l8 s.sto δ) (s.next+1):=⟨⟨δ.reverse,nB δ s.sto⟩,Nat.le_succ _⟩
 cases d<;>exact this
theorem bz.put0 (s:St)(d:Option Nat)(v:AV):bz s.sto s.next (s.put d v).sto (s.put d v).next:=by
 cases d<;>exact bz.refl _ _
def fF (P:Program)(G:Nat->List PV)(call:d8):Prop:=
 ∀ f args sto next v sto' next',call f args sto next=some (v,sto',next')->bz sto next sto' next'/\(
   (∃ ps r,pvs args=some ps/\ak P G f ps r/\v = .pv r/\sto'=sto/\next'=next)\/cm P G f args sto next (fun v' s' n'=>v'=v/\s'=sto'/\n'=next'))
theorem cm.mono {f:Nat}{args:List AV}{sto:List (Nat×Blk)}{next:Nat}{Q Q':AV->List (Nat×Blk)->Nat->Prop}(h:cm P G f args sto next Q)(hq:∀ v s n,Q v s n->Q' v s n):cm P G f args sto next Q':=by
 obtain⟨h1,h2⟩:=h
 refine⟨h1,fun κ vals a1 a2 a3 a4=>(h2 κ vals a1 a2 a3 a4).mono ?_⟩
 rintro e w' ⟨u,v,κ',sto',next',b1,b2,b3,b4,b5,b6,b7,b8⟩
 exact⟨u,v,κ',sto',next',b1,b2,b3,b4,b5,b6,b7,hq _ _ _ b8⟩
theorem uA {call:d8}(hc:fF P G call){f:Nat}{ps:List PV}{r:PV}(h:dt call f ps=some r):ak P G f ps r:=by
 unfold dt at h
 split at h
 ·rename_i q hq
  obtain⟨v,sto',next'⟩:=q
  rcases (hc f _ _ _ v sto' next' hq).2 with ⟨ps',r',h1,h2,rfl,_,_⟩ | ht
  ·rw[pvs_map] at h1
   cases h1
   simp only[AV.toPV,Option.some.injEq] at h
   subst h;exact h2
  ·exact ak.of_tcalls (ht.mono (by rintro v' _ _ ⟨rfl,_,_⟩;exact Qs h))
 ·cases h
theorem NJ {call:d8}(hc:fF P G call){s s':St}{d:Option Nat}{o:AOp}{F:St->Prop}(h:Ap call G s d o=some s')(hF:F s'):l9 P G F s d o:=by
 cases o with
 | t o=>
   simp only[Ap] at h
   split at h
   ·rename_i v hv
    cases h
    simp only[l9,hv,iT];exact hF
   ·cases h
 | m o=>
   simp only[Ap] at h
   split at h
   ·rename_i v hv
    cases h
    simp only[l9,hv,aJ];exact hF
   ·cases h
 | fz g x=>
   simp only[Ap] at h
   split at h
   ·rename_i v hv
    cases h
    simp only[l9,hv,aJ];exact hF
   ·cases h
 | call f xs=>
   simp only[Ap] at h
   split at h
   ·rename_i p hp
    split at h
    ·rename_i r hr
     cases h
     obtain⟨v,sto',next'⟩:=r
     simp only[l9,hp,aJ,E2]
     rcases (hc _ _ _ _ v sto' next' hr).2 with ⟨ps,r,h1,h2,rfl,rfl,rfl⟩ | ht
     ·exact ab.pure h2 h1 hF
     ·exact ab.lent ht (by rintro v' s' n' ⟨rfl,rfl,rfl⟩;exact hF)
    ·cases h
   ·cases h
theorem jX {call:d8}(hc:fF P G call){F:St->Prop}:∀ (l:List AOper) (s s':St),lI call G l s=some s'->F s'->dy P G l F s
 | [],s,s',h,hF=>by simp only[lI,Option.some.injEq] at h;subst h;exact hF
 | o::r,s,s',h,hF=>by
   simp only[lI] at h
   simp only[dy]
   split at h
   ·rename_i hw
    rw[hw]
    split at h
    ·rename_i s1 h1
     exact NJ hc h1 (jX hc r s1 s' h hF)
    ·cases h
   ·rename_i hw
    rw[hw]
    exact jX hc r _ s' h hF
   ·cases h
theorem nl {call:d8}(hc:fF P G call){A:List (List Nat)}{F:St->Prop}:∀ (l:List AOper) (T:List (List Nat×List Nat)) (s s':St),exD call G A l T s=some s'->F s'->vcD P G A F l T s
 | [],T,s,s',h,hF=>by
   simp only[exD] at h
   split at h
   ·rename_i ho
    cases h
    exact⟨ho,hF⟩
   ·cases h
 | o::r,T,s,s',h,hF=>by
   simp only[exD] at h
   simp only[vcD]
   split at h
   ·rename_i hw
    rw[hw]
    simp only[aJ,qR]
    split at h
    ·rename_i q h1
     obtain⟨d,op,g⟩:=o
     simp only at h1 ⊢
     cases op with
     | t o=>
       simp only[mr] at h1
       split at h1
       ·rename_i v hv
        cases h1
        simp only[iv,hv,aJ,Bh]
        exact nl hc r _ _ s' h hF
       ·cases h1
     | m o=>
       simp only[mr] at h1
       split at h1
       ·rename_i v hv
        cases h1
        simp only[iv,hv,aJ,stepM]
        exact nl hc r _ _ s' h hF
       ·cases h1
     | fz g x=>simp[mr] at h1
     | call f xs=>
       simp only[mr] at h1
       split at h1
       ·rename_i p hp
        simp only[iv,hp,aJ]
        unfold tv at h1
        split at h1
        ·rename_i ps hps
         split at h1
         ·rename_i v hv
          cases h1
          exact .inl ⟨ps,v,hps,uA hc hv,nl hc r _ _ s' h hF⟩
         ·cases h1
        ·rename_i hps
         split at h1
         ·rename_i v hv
          cases h1
          obtain⟨v,sto',next'⟩:=v
          obtain⟨⟨⟨pre,hpre⟩,hle⟩,⟨ps',r',k1,_⟩ | ht⟩:=hc _ _ _ _ v sto' next' hv
          ·rw[hps] at k1;cases k1
          ·have e1:l8 s.sto (sto'.take (sto'.length - s.sto.length)).reverse=sto':=by
            rw[nB,List.reverse_reverse,hpre]
            simp
           refine .inr ⟨v,(sto'.take (sto'.length - s.sto.length)).reverse,next',?_,hle,?_⟩
           ·rw[e1];exact ht
           ·rw[e1];exact nl hc r _ _ s' h hF
         ·cases h1
       ·cases h1
    ·cases h
   ·rename_i hw
    rw[hw]
    exact nl hc r _ _ s' h hF
   ·cases h
theorem yH {call:d8}(hc:fF P G call){s s':St}{d:Option Nat}{o:AOp}(h:Ap call G s d o=some s'):bz s.sto s.next s'.sto s'.next:=by
 cases o with
 | t o=>
   simp only[Ap] at h
   split at h
   ·cases h;exact bz.put0 _ _ _
   ·cases h
 | m o=>
   simp only[Ap] at h
   split at h
   ·cases h;exact bz.mem _ _ _ _
   ·cases h
 | fz g x=>
   simp only[Ap] at h
   split at h
   ·cases h;exact bz.mem _ _ _ _
   ·cases h
 | call f xs=>
   simp only[Ap] at h
   split at h
   ·split at h
    ·rename_i r hr
     cases h
     obtain⟨v,sto',next'⟩:=r
     exact bz.put (hc _ _ _ _ v sto' next' hr).1 _ _
    ·cases h
   ·cases h
theorem eE {call:d8}(hc:fF P G call):∀ (l:List AOper) (s s':St),lI call G l s=some s'->bz s.sto s.next s'.sto s'.next
 | [],s,s',h=>by simp only[lI,Option.some.injEq] at h;subst h;exact bz.refl _ _
 | o::r,s,s',h=>by
   simp only[lI] at h
   split at h
   ·split at h
    ·rename_i s1 h1
     exact (yH hc h1).trans (eE hc r s1 s' h)
    ·cases h
   ·exact (bz.put0 s _ _).trans (eE hc r _ s' h)
   ·cases h
theorem tr {call:d8}(hc:fF P G call){s:St}{d:Option Nat}{o:AOp}{q:St×List Nat×List Nat}(h:mr call G s d o=some q):bz s.sto s.next q.1.sto q.1.next:=by
 cases o with
 | t o=>
   simp only[mr] at h
   split at h
   ·cases h;exact bz.put0 _ _ _
   ·cases h
 | m o=>
   simp only[mr] at h
   split at h
   ·cases h;exact bz.mem _ _ _ _
   ·cases h
 | fz g x=>simp[mr] at h
 | call f xs=>
   simp only[mr] at h
   split at h
   ·unfold tv at h
    split at h
    ·split at h
     ·cases h;exact bz.put0 _ _ _
     ·cases h
    ·split at h
     ·rename_i r hr
      cases h
      obtain⟨v,sto',next'⟩:=r
      exact bz.put (hc _ _ _ _ v sto' next' hr).1 _ _
     ·cases h
   ·cases h
theorem lJ {call:d8}(hc:fF P G call){A:List (List Nat)}:∀ (l:List AOper) (T:List (List Nat×List Nat)) (s s':St),exD call G A l T s=some s'->bz s.sto s.next s'.sto s'.next
 | [],T,s,s',h=>by
   simp only[exD] at h
   split at h
   ·cases h;exact bz.refl _ _
   ·cases h
 | o::r,T,s,s',h=>by
   simp only[exD] at h
   split at h
   ·split at h
    ·rename_i q h1
     exact (tr hc h1).trans (lJ hc r _ _ s' h)
    ·cases h
   ·exact (bz.put0 s _ _).trans (lJ hc r _ _ s' h)
   ·cases h
theorem qL {call:d8}(hc:fF P G call):∀ (n:Nat) (ac:ACode) (s:St) (e:AExit) (s':St),exC call G n ac s=some (e,s')->bz s.sto s.next s'.sto s'.next
 | 0,_,_,_,_,h=>by simp[exC] at h
 | n+1,ac,s,e,s',h=>by
   have ih:=qL hc n
   cases ac with
   | skip=>simp only[exC,Option.some.injEq,Prod.mk.injEq] at h;obtain⟨_,rfl⟩:=h;exact bz.refl _ _
   | exit i=>simp only[exC,Option.some.injEq,Prod.mk.injEq] at h;obtain⟨_,rfl⟩:=h;exact bz.refl _ _
   | ret=>simp only[exC,Option.some.injEq,Prod.mk.injEq] at h;obtain⟨_,rfl⟩:=h;exact bz.refl _ _
   | ops l k=>
     simp only[exC] at h
     split at h
     ·rename_i s1 h1;cases h;exact eE hc l s s1 h1
     ·cases h
   | draw A l l2 k=>
     simp only[exC] at h
     split at h
     ·rename_i s1 h1
      split at h
      ·rename_i s2 h2;cases h;exact (lJ hc l [] s s1 h1).trans (eE hc l2 s1 s2 h2)
      ·cases h
     ·cases h
   | seq a b=>
     simp only[exC] at h
     split at h
     ·rename_i s1 h1;exact (ih _ _ _ _ h1).trans (ih _ _ _ _ h)
     ·rename_i i s1 h1;cases h;exact ih _ _ _ _ h1
     ·rename_i s1 h1;cases h;exact ih _ _ _ _ h1
     ·cases h
   | cond x a b=>
     simp only[exC] at h
     split at h
     ·exact ih _ _ _ _ h
     ·exact ih _ _ _ _ h
     ·cases h
   | block id b=>
     simp only[exC] at h
     split at h
     ·rename_i s1 h1;cases h;exact ih _ _ _ _ h1
     ·rename_i i s1 h1
      split at h
      ·cases h;exact ih _ _ _ _ h1
      ·cases h;exact ih _ _ _ _ h1
     ·rename_i s1 h1;cases h;exact ih _ _ _ _ h1
     ·cases h
   | loop k b=>
     simp only[exC] at h
     split at h
     ·rename_i s1 h1;exact (ih _ _ _ _ h1).trans (ih _ _ _ _ h)
     ·rename_i i s1 h1;cases h;exact ih _ _ _ _ h1
     ·rename_i s1 h1;cases h;exact ih _ _ _ _ h1
     ·cases h
   | range f ps k a b=>simp only[exC] at h;cases h
def QD (e:AExit)(s':St):AExit->St->Prop:=fun e1 s1=>e1=e/\s1=s'
theorem rg {call:d8}{G:Nat->List PV}{n:Nat}{s:St}{r:AExit×St}(h:exC call G (n+1) (.ops [⟨none,jK,none⟩] []) s=some r):False:=by
 simp[exC,lI,bT,Ap,jK,AX.ev,dw] at h
theorem QE {call:d8}(hc:fF P G call){c:Ctx}{κ0:Kap}{N:Nat}{muts rl:List Nat}(hG:c.G=G):∀ (n:Nat) (co:Code) (ac:ACode) (ex:List (Nat×List Nat)) (out li:List Nat) (s:St) (a:Act) (w:World) (κ:Kap) (e:AExit) (s':St),
  bn P muts N rl co ex out=some (ac,li)->exC call G n ac s=some (e,s')->Rel c κ0 N s a w κ->co.wpIn (FR none) 0 P (lift c κ0 N (QD e s')) a w:=by
 intro n
 induction n using Nat.strongRecOn with
 | _ n ih=>
 intro co ac ex out li s a w κ e s' hcc he hR
 cases n with
 | zero=>simp[exC] at he
 | succ n=>
 cases co with
 | skip=>
   simp only[bn,Option.some.injEq,Prod.mk.injEq] at hcc
   obtain⟨rfl,_⟩:=hcc
   simp only[exC,Option.some.injEq,Prod.mk.injEq] at he
   obtain⟨rfl,rfl⟩:=he
   exact wpIn_skip ⟨_,κ,hR,rfl,rfl⟩
 | exit id=>
   simp only[bn,Option.some.injEq,Prod.mk.injEq] at hcc
   obtain⟨rfl,_⟩:=hcc
   simp only[exC,Option.some.injEq,Prod.mk.injEq] at he
   obtain⟨rfl,rfl⟩:=he
   exact wpIn_exit ⟨_,κ,hR,rfl,rfl⟩
 | ret=>
   simp only[bn,Option.some.injEq,Prod.mk.injEq] at hcc
   obtain⟨rfl,_⟩:=hcc
   simp only[exC,Option.some.injEq,Prod.mk.injEq] at he
   obtain⟨rfl,rfl⟩:=he
   exact wpIn_ret ⟨_,κ,hR,rfl,rfl⟩
 | region id ops d=>
   simp only[bn] at hcc
   split at hcc
   ·rename_i l hl
    cases d with
    | false=>
      simp only[Option.some.injEq,Prod.mk.injEq] at hcc
      obtain⟨rfl,_⟩:=hcc
      simp only[exC] at he
      split at he
      ·rename_i s1 h1
       cases he
       exact wpIn_region_list (ed (F:=fun s=>s=s1) (fun s a w κ hR hF=>by subst hF;exact⟨_,κ,hR.clip0 _,rfl,rfl⟩) ops.toList l s a w κ hl hR (by rw[hG];exact jX hc l s s1 h1 rfl))
      ·cases he
    | true=>
      simp only at hcc
      split at hcc
      ·rename_i hok
       simp only[Option.some.injEq,Prod.mk.injEq] at hcc
       obtain⟨rfl,_⟩:=hcc
       simp only[exC] at he
       split at he
       ·rename_i s1 h1
        split at he
        ·rename_i s2 h2
         cases he
         exact np (F:=fun s=>s=s2) hl hok.1 hok.2.1 hok.2.2 hR (by rw[hG];exact nl hc _ _ s s1 h1 (jX hc _ s1 s2 h2 rfl)) (fun s a w κ hR hF=>by subst hF;exact⟨_,κ,hR.clip0 _,rfl,rfl⟩)
        ·cases he
       ·cases he
      ·cases hcc
   ·cases hcc
 | seq x y=>
   simp only[bn] at hcc
   split at hcc
   ·rename_i b' lb hb
    split at hcc
    ·rename_i a' la ha
     simp only[Option.some.injEq,Prod.mk.injEq] at hcc
     obtain⟨rfl,_⟩:=hcc
     simp only[exC] at he
     split at he
     ·rename_i s1 h1
      refine wpIn_seq (Go.wpIn_mono (ih n (Nat.lt_succ_self n) x a' _ _ _ s a w κ _ _ ha h1 hR) ?_)
      intro e1 a w hq
      cases e1 with
      | normal=>
        obtain⟨s2,κ,hR,_,rfl⟩:=hq
        exact ih n (Nat.lt_succ_self n) y b' _ _ _ s2 a w κ _ _ hb he hR
      | exit id=>obtain⟨_,_,_,h,_⟩:=hq;cases h
      | ret=>obtain⟨_,_,_,h,_⟩:=hq;cases h
      | goto l=>exact hq.elim
      | panic ch=>exact hq.elim
      | outgrown=>exact hq.elim
     ·rename_i i s1 h1
      cases he
      refine wpIn_seq (Go.wpIn_mono (ih n (Nat.lt_succ_self n) x a' _ _ _ s a w κ _ _ ha h1 hR) ?_)
      intro e1 a w hq
      cases e1 with
      | normal=>obtain⟨_,_,_,h,_⟩:=hq;cases h
      | exit id=>exact hq
      | ret=>exact hq
      | goto l=>exact hq.elim
      | panic ch=>exact hq.elim
      | outgrown=>exact hq.elim
     ·rename_i s1 h1
      cases he
      refine wpIn_seq (Go.wpIn_mono (ih n (Nat.lt_succ_self n) x a' _ _ _ s a w κ _ _ ha h1 hR) ?_)
      intro e1 a w hq
      cases e1 with
      | normal=>obtain⟨_,_,_,h,_⟩:=hq;cases h
      | exit id=>exact hq
      | ret=>exact hq
      | goto l=>exact hq.elim
      | panic ch=>exact hq.elim
      | outgrown=>exact hq.elim
     ·cases he
    ·cases hcc
   ·cases hcc
 | cond x y z=>
   simp only[bn] at hcc
   split at hcc
   ·rename_i ax a' la b' lb hx hy hz
    simp only[Option.some.injEq,Prod.mk.injEq] at hcc
    obtain⟨rfl,_⟩:=hcc
    have hrel:=aA (κ:=κ) (E:=s.E) (a:=a) hx (fun i _=>hR.env i)
    simp only[exC] at he
    split at he
    ·rename_i hv
     rw[hv] at hrel
     exact wpIn_cond_true (de hrel) (ih n (Nat.lt_succ_self n) y a' _ _ _ s a w κ _ _ hy he hR)
    ·rename_i hv
     rw[hv] at hrel
     exact wpIn_cond_false (de hrel) (ih n (Nat.lt_succ_self n) z b' _ _ _ s a w κ _ _ hz he hR)
    ·cases he
   ·cases hcc
 | block id b=>
   simp only[bn] at hcc
   split at hcc
   ·rename_i b' lb hb
    simp only[Option.some.injEq,Prod.mk.injEq] at hcc
    obtain⟨rfl,_⟩:=hcc
    simp only[exC] at he
    have main:∀ e1 s1,exC call G n b' s=some (e1,s1)->((e1 = .norm/\e = .norm/\s'=s1)\/(∃ i,e1 = .exit i/\s'=s1/\e=if i=id then .norm else .exit i)\/(e1 = .ret/\e = .ret/\s'=s1))->(Code.block id b).wpIn (FR none) 0 P (lift c κ0 N (QD e s')) a w:=by
     intro e1 s1 h1 hcase
     refine wpIn_block (Go.wpIn_mono (ih n (Nat.lt_succ_self n) b b' _ _ _ s a w κ _ _ hb h1 hR) ?_)
     intro e2 a w hq
     cases e2 with
     | normal=>
       obtain⟨s2,κ,hR,rfl,rfl⟩:=hq
       rcases hcase with ⟨_,rfl,rfl⟩ | ⟨i,h,_⟩ | ⟨h,_⟩
       ·exact⟨_,κ,hR,rfl,rfl⟩
       ·cases h
       ·cases h
     | ret=>
       obtain⟨s2,κ,hR,rfl,rfl⟩:=hq
       rcases hcase with ⟨h,_⟩ | ⟨i,h,_⟩ | ⟨_,rfl,rfl⟩
       ·cases h
       ·cases h
       ·exact⟨_,κ,hR,rfl,rfl⟩
     | exit i=>
       obtain⟨s2,κ,hR,rfl,rfl⟩:=hq
       rcases hcase with ⟨h,_⟩ | ⟨i',h,rfl,rfl⟩ | ⟨h,_⟩
       ·cases h
       ·cases h
        simp only[Exit.inBlock]
        split
        ·rename_i hid
         exact⟨_,κ,hR,by simp[hid],rfl⟩
        ·rename_i hid
         exact⟨_,κ,hR,by simp[hid],rfl⟩
       ·cases h
     | goto l=>exact hq.elim
     | panic ch=>exact hq.elim
     | outgrown=>exact hq.elim
    split at he
    ·rename_i s1 h1
     cases he
     exact main _ _ h1 (.inl ⟨rfl,rfl,rfl⟩)
    ·rename_i i s1 h1
     split at he
     ·rename_i hid
      cases he
      exact main _ _ h1 (.inr (.inl ⟨i,rfl,rfl,by simp[hid]⟩))
     ·rename_i hid
      cases he
      exact main _ _ h1 (.inr (.inl ⟨i,rfl,rfl,by simp[hid]⟩))
    ·rename_i s1 h1
     cases he
     exact main _ _ h1 (.inr (.inr ⟨rfl,rfl,rfl⟩))
    ·cases he
   ·cases hcc
 | loop b=>
   simp only[bn] at hcc
   split at hcc
   ·rename_i x1 l1 hb1
    split at hcc
    ·rename_i x2 l2 hb2
     split at hcc
     ·rename_i b' l3 hb
      simp only[Option.some.injEq,Prod.mk.injEq] at hcc
      obtain⟨rfl,_⟩:=hcc
      refine j9 (fun m a w=>∃ s κ,m<=n+1/\Rel c κ0 N s a w κ/\exC call G m (.loop (o9 l2) b') s=some (e,s')) ⟨n+1,s,κ,Nat.le_refl _,hR,he⟩ fun m a w hJ=>?_
      obtain⟨s,κ,hm,hR,he⟩:=hJ
      cases m with
      | zero=>simp[exC] at he
      | succ m=>
        simp only[exC] at he
        split at he
        ·rename_i s1 h1
         refine Go.wpIn_mono (ih m (by omega) b b' _ _ _ s a w κ _ _ hb h1 hR) ?_
         intro e1 a w hq
         cases e1 with
         | normal=>
           obtain⟨s2,κ,hR,_,rfl⟩:=hq
           exact⟨m,Nat.lt_succ_self m,_,κ,by omega,hR,he⟩
         | exit id=>obtain⟨_,_,_,h,_⟩:=hq;cases h
         | ret=>obtain⟨_,_,_,h,_⟩:=hq;cases h
         | goto l=>exact hq.elim
         | panic ch=>exact hq.elim
         | outgrown=>exact hq.elim
        ·rename_i i s1 h1
         cases he
         refine Go.wpIn_mono (ih m (by omega) b b' _ _ _ s a w κ _ _ hb h1 hR) ?_
         intro e1 a w hq
         cases e1 with
         | normal=>obtain⟨_,_,_,h,_⟩:=hq;cases h
         | exit id=>exact hq
         | ret=>exact hq
         | goto l=>exact hq.elim
         | panic ch=>exact hq.elim
         | outgrown=>exact hq.elim
        ·rename_i s1 h1
         cases he
         refine Go.wpIn_mono (ih m (by omega) b b' _ _ _ s a w κ _ _ hb h1 hR) ?_
         intro e1 a w hq
         cases e1 with
         | normal=>obtain⟨_,_,_,h,_⟩:=hq;cases h
         | exit id=>exact hq
         | ret=>exact hq
         | goto l=>exact hq.elim
         | panic ch=>exact hq.elim
         | outgrown=>exact hq.elim
        ·cases he
     ·cases hcc
    ·cases hcc
   ·cases hcc
 | rangeFunc f ps x y=>
   simp only[bn] at hcc
   split at hcc
   ·split at hcc
    ·simp only[Option.some.injEq,Prod.mk.injEq] at hcc
     obtain⟨rfl,_⟩:=hcc
     simp only[exC] at he
     cases he
    ·cases hcc
   ·simp only[Option.some.injEq,Prod.mk.injEq] at hcc;obtain⟨rfl,rfl⟩:=hcc;exact (rg he).elim
 | scope b=>simp only[bn,Option.some.injEq,Prod.mk.injEq] at hcc;obtain⟨rfl,rfl⟩:=hcc;exact (rg he).elim
 | label l=>simp only[bn,Option.some.injEq,Prod.mk.injEq] at hcc;obtain⟨rfl,rfl⟩:=hcc;exact (rg he).elim
 | goto l=>simp only[bn,Option.some.injEq,Prod.mk.injEq] at hcc;obtain⟨rfl,rfl⟩:=hcc;exact (rg he).elim
 | refuse y=>simp only[bn,Option.some.injEq,Prod.mk.injEq] at hcc;obtain⟨rfl,rfl⟩:=hcc;exact (rg he).elim
theorem Is {tab:List TabRow}(ht:∀ r∈tab,cFn P r.muts r.f=some r.fn){f:Nat}{fn:AFn}(h:It f tab=some fn):∃ muts,cFn P muts f=some fn:=by
 induction tab with
 | nil=>cases h
 | cons r q ih=>
   simp only[It] at h
   split at h
   ·rename_i hf
    cases h
    exact⟨r.muts,hf▸ht r (by simp)⟩
   ·exact ih (fun r hr=>ht r (by simp[hr])) h
theorem Ej {tab:List TabRow}{O:Nat->List PV->Option PV}{m:Nat}(ht:∀ r∈tab,cFn P r.muts r.f=some r.fn)(hO:∀ f ps r,O f ps=some r->ak P G f ps r):∀ n,fF P G (exF tab O G m n)
 | 0=>by intro f args sto next v sto' next' h;simp[exF] at h
 | n+1=>by
   intro f args sto next v sto' next' h
   simp only[exF] at h
   split at h
   ·rename_i r hr
    cases h
    simp only[Option.bind_eq_some_iff] at hr
    obtain⟨ps,h1,h2⟩:=hr
    refine⟨bz.refl _ _,?_⟩
    exact .inl ⟨ps,r,h1,hO f ps r h2,rfl,rfl,rfl⟩
   ·split at h
    ·rename_i fn hfn
     obtain⟨muts,hcf⟩:=Is ht hfn
     split at h
     ·rename_i hl
      have grow:∀ (e:AExit) (s:St),exC (exF tab O G m n) G m fn.body ⟨du args,sto,next⟩=some (e,s)->xC G fn s=some (v,sto',next')->bz sto next sto' next':=by
       intro e s h1 h2
       have:=qL (Ej ht hO n) m fn.body _ e s h1
       unfold xC at h2
       split at h2
       ·cases h2;exact this
       ·cases h2
      have fin:∀ (e:AExit) (s:St),(e = .norm\/e = .ret)->exC (exF tab O G m n) G m fn.body ⟨du args,sto,next⟩=some (e,s)->xC G fn s=some (v,sto',next')->cm P G f args sto next (fun v' s' n'=>v'=v/\s'=sto'/\n'=next'):=by
       intro e s he h1 h2
       refine cm.of_code hcf hl fun c κ N a w co rl li hG hk hf hb hR=>?_
       refine Go.wpIn_mono (QE (Ej ht hO n) hG m co fn.body _ _ _ _ a w κ e s hb h1 hR) ?_
       have hout:∀ s1,s1=s->aJ (fg G s1 fn.res) (Kn (fun v' s' n'=>v'=v/\s'=sto'/\n'=next') s1):=by
        rintro s1 rfl
        unfold xC at h2
        split at h2
        ·rename_i l hl2
         cases h2
         rw[hl2]
         exact⟨rfl,rfl,rfl⟩
        ·cases h2
       intro e1 a w hq
       cases e1 with
       | normal=>
         obtain⟨s1,κ1,hR1,he1,hs1⟩:=hq
         exact⟨s1,κ1,hR1,hout s1 hs1⟩
       | ret=>
         obtain⟨s1,κ1,hR1,he1,hs1⟩:=hq
         exact⟨s1,κ1,hR1,hout s1 hs1⟩
       | exit id=>
         obtain⟨s1,κ1,hR1,he1,hs1⟩:=hq
         rcases he with rfl | rfl<;>cases he1
       | goto l=>exact hq.elim
       | panic ch=>exact hq.elim
       | outgrown=>exact hq.elim
      split at h
      ·rename_i s1 h1;exact⟨grow _ _ h1 h,.inr (fin _ _ (.inl rfl) h1 h)⟩
      ·rename_i s1 h1;exact⟨grow _ _ h1 h,.inr (fin _ _ (.inr rfl) h1 h)⟩
      ·cases h
     ·cases h
    ·cases h
theorem ak.of_ex {tab:List TabRow}{O:Nat->List PV->Option PV}{m n:Nat}{f:Nat}{ps:List PV}{r:PV}(ht:∀ r∈tab,cFn P r.muts r.f=some r.fn)(hO:∀ f ps r,O f ps=some r->ak P G f ps r)
  (h:dt (exF tab O G m n) f ps=some r):ak P G f ps r:=
 uA (Ej ht hO n) h
end
open Go.Sort
theorem cQ {P:Program}{G:Nat->List PV}{f:Nat}{args:List PV}{r:PV}(hc:bS P f=true)
  (h:∀ (w:World) (imm:Nat->Nat->Prop) (vals:Array Value),bM G w imm->vals.size=args.length->(∀ (i:Nat) (x:PV),args[i]? = some x->PRel w imm x (vals.getD i Go.undef)) ->
   Calls P f vals w fun e w'=>∃ u,e = .returned u/\Below w.heap.size w w'/\PRel w' imm r u):ak P G f args r:=by
 refine⟨hc,fun w imm vals hG hlt hsz hargs=>(h w imm vals hG hsz hargs).mono ?_⟩
 rintro e w' ⟨u,rfl,hb,hr⟩
 exact⟨u,imm,rfl,hb,fun _ _ h=>h,fun _ _ h=>.inl h,fun b o h=>Nat.lt_of_lt_of_le (hlt b o h) hb.size,hr⟩
theorem rR {w:World}{imm:Nat->Nat->Prop}{l:List UInt8}(h:l.length<=maxLen):PRel w imm (.str l) (.string ⟨l.toArray⟩):=by
 have:=PRel.str (w:=w) (imm:=imm) ⟨l.toArray⟩ (by show l.toArray.size<=maxLen;simpa using h)
 simpa using this
theorem km {w:World}{imm:Nat->Nat->Prop}{l:List UInt8}{v:Value}(h:PRel w imm (.str l) v):v = .string ⟨l.toArray⟩/\l.length<=maxLen:=by
 cases h with
 | str s hs=>exact⟨by simp,hs⟩
theorem AO {vals:Array Value}(h:vals.size=1):vals = #[vals.getD 0 Go.undef]:=by
 apply Array.ext
 ·simp[h]
 ·intro i h1 h2
  have:i=0:=by omega
  subst this
  simp[Array.getD_eq_getD_getElem?,h]
theorem AN {vals:Array Value}(h:vals.size=2):vals = #[vals.getD 0 Go.undef,vals.getD 1 Go.undef]:=by
 apply Array.ext
 ·simp[h]
 ·intro i h1 h2
  have:i=0\/i=1:=by omega
  rcases this with rfl | rfl<;>simp[Array.getD_eq_getD_getElem?,h]
def bP:Nat->Nat->List UInt8
 | 0,_=>[]
 | n+1,k=>if k<10 then [UInt8.ofNat (48+k)] else bP n (k / 10)++[UInt8.ofNat (48+k % 10)]
def mp (n:Int):List UInt8:=if n<0 then 45::bP 20 n.natAbs else bP 20 n.toNat
theorem lN:∀ (f k:Nat),k<10 ^ f->0<f->bP f k=Lib.decDigits k
 | 0,k,_,h=>absurd h (by simp)
 | f+1,k,hk,_=>by
   rw[bP,Lib.decDigits]
   by_cases h:k<10
   ·simp[h]
   ·rw[if_neg h,dif_neg h]
    have h10:k / 10<10 ^ f:=by
     rw[Nat.pow_succ] at hk
     exact Nat.div_lt_of_lt_mul (by rw[Nat.mul_comm];exact hk)
    rw[lN f (k / 10) h10 (by
     rcases Nat.eq_zero_or_pos f with h0 | h0
     ·subst h0
      simp at hk
      omega
     ·exact h0)]
theorem jc:∀ (f k:Nat),(bP f k).length<=f
 | 0,k=>by simp[bP]
 | f+1,k=>by
   rw[bP]
   split
   ·simp
   ·have:=jc f (k / 10)
    simp;omega
theorem uT {n:Int}(h0:-9223372036854775808<=n)(h1:n<=9223372036854775807):mp n=Lib.itoa n:=by
 have e:(10:Nat) ^ 20=100000000000000000000:=by decide
 unfold mp Lib.itoa
 split
 ·rw[lN 20 n.natAbs (by rw[e];omega) (by decide)]
 ·rw[lN 20 n.toNat (by rw[e];omega) (by decide)]
theorem DC (n:Int):(mp n).length<=21:=by
 unfold mp
 split
 ·have:=jc 20 n.natAbs
  simp;omega
 ·have:=jc 20 n.toNat
  omega
theorem Gp {P:Program}{G:Nat->List PV}{w:World}{imm:Nat->Nat->Prop}{name:String}{k:IntKind}{zs:List Int}{g:Nat}(hn:P.globalNamed name=some g)(hG:G g=zs.map (PV.int k))(hz:zs≠[])(h:bM G w imm) :
  Lib.TabIs P w name k zs:=by
 obtain⟨cs,T,fz,h1,h2⟩:=h.2 g (by rw[hG];simpa using hz)
 have hcs:cs=(zs.map fun z=>Value.int k z).toArray:=by
  rw[hG] at h2
  simp only[List.length_map] at h2
  apply Array.ext
  ·simp[h2]
  ·intro i hi hi'
   have hiz:i<zs.length:=by omega
   obtain⟨_,v,h3,_,h4⟩:=h.1 g i (.int k zs[i]) (by rw[hG];simp[hiz])
   have hv:v = .int k zs[i]:=by cases h4;rfl
   have hc:=cell_of_row w g i cs T fz h1
   rw[h3,hv] at hc
   have:=(Array.getElem?_eq_some_iff.1 hc.symm).2
   simp[this]
 unfold Lib.TabIs World.var?
 rw[hn]
 simp only[Option.bind_some,h1]
 rw[hcs]
theorem DA {P:Program}{G:Nat->List PV}{f g:Nat}{name:String}(hc:bS P f=true)(hn:P.globalNamed name=some g)(hG:G g=Lib.pow10Tab.map (PV.int .u64))
  (h:∀ (n:Int) (h0:-9223372036854775808<=n) (h1:n<=9223372036854775807) (w:World) (htab:Lib.TabIs P w name .u64 Lib.pow10Tab),
   Calls P f #[.int .i64 n] w fun e w'=>e = .returned (.string ⟨(Lib.itoa n).toArray⟩)/\∃ k os,w'=Sort.grow (w.drewN k) os)
  (n:Int) (h0:-9223372036854775808<=n) (h1:n<=9223372036854775807):ak P G f [.int .i64 n] (.str (mp n)):=by
 refine cQ hc fun w imm vals hGl hsz hargs=>?_
 have hv:=AO hsz
 have h2:=hargs 0 (.int .i64 n) rfl
 have h3:vals.getD 0 Go.undef = .int .i64 n:=by
  generalize vals.getD 0 Go.undef=x at h2
  cases h2;rfl
 rw[hv,h3]
 refine (h n h0 h1 w (Gp hn hG (by
  intro e
  have:=congrArg List.length e
  rw[Lib.pow10Tab_length] at this
  simp at this) hGl)).mono ?_
 rintro e w' ⟨rfl,k,os,rfl⟩
 refine⟨_,rfl,Lib.below_grow _ w (Nat.le_refl _) k os,?_⟩
 rw[uT h0 h1,<- uT h0 h1]
 refine rR ?_
 have:=DC n
 unfold maxLen;omega
theorem qX {P:Program}{G:Nat->List PV}{f:Nat}(hc:bS P f=true)
  (h:∀ (a b:ByteArray) (w:World),Calls P f #[.string a,.string b] w fun e w'=>e = .returned (.int .i64 (Lib.compareBytes a.data.toList b.data.toList))/\w'=w) (a b:List UInt8) :
  ak P G f [.str a,.str b] (.int .i64 (Lib.compareBytes a b)):=by
 refine cQ hc fun w imm vals hGl hsz hargs=>?_
 have hv:=AN hsz
 obtain⟨ha,_⟩:=km (hargs 0 (.str a) rfl)
 obtain⟨hb,_⟩:=km (hargs 1 (.str b) rfl)
 rw[hv,ha,hb]
 refine (h _ _ w).mono ?_
 rintro e w' ⟨rfl,rfl⟩
 refine⟨_,rfl,Below.refl _ _,?_⟩
 simpa using PRel.int (w:=w') (imm:=imm) .i64 (Lib.compareBytes a b)
section
variable {P:Program}{G:Nat->List PV}
theorem dH {F:List (List Nat×List Nat)->St->Prop}{T:List (List Nat×List Nat)}{e:List (Nat×AV)}{σ:List (Nat×Blk)}{next d:Nat}{a b args:List AV}
  {k f:Nat} {args0:List AV} {bs:List Blk} {v:AV} {bs':List Blk} (h:bF P G k f args0 bs v bs') (rs:List Nat)
  (hok:uQ k rs bs bs' next=true) (hargs:AVzL (a++args++b) (AV.renL (gSo next rs) args0)) (hbs:gp σ (gSo next rs) rs bs)
  (hk:F (T++[eS 2 (aU (oL (gSo next (rs.take k)) bs' 0 (gIn next (rs.take k))++eV (rs.drop k)).reverse) (σ.map (·.1))])
   ⟨(d,v.ren (gSo next (rs.take k)))::e,oL (gSo next (rs.take k)) bs' 0 (gIn next (rs.take k))++(eV (rs.drop k)++σ),next+(bs'.length - k)⟩):jz P G F T ⟨e,σ,next⟩ (some d) args (f,a,b):=by
 simp only[uQ,Bool.and_eq_true,decide_eq_true_eq,List.all_eq_true] at hok
 obtain⟨⟨⟨⟨h1,h2⟩,h3⟩,h4⟩,h5⟩:=hok
 have hf:=h.frame hargs hbs h5 h4 h1 h2 (fun b hb e=>by
  have:=h3 b hb
  subst e;cases this)
 have e:l8 σ (oL (gSo next (rs.take k)) bs' 0 (gIn next (rs.take k))++eV (rs.drop k)).reverse=oL (gSo next (rs.take k)) bs' 0 (gIn next (rs.take k))++(eV (rs.drop k)++σ):=by
  rw[nB,List.reverse_reverse,List.append_assoc]
 refine tL (δ:=(oL (gSo next (rs.take k)) bs' 0 (gIn next (rs.take k))++eV (rs.drop k)).reverse) (top:=next+(bs'.length - k)) (hf.mono fun v' s n hq=>⟨hq.1,?_,hq.2.2⟩) (by omega) ?_
 ·rw[e];exact hq.2.1
 ·rw[e];exact hk
end
def yE:List AV->List AV
 | []=>[]
 | x::r=>x.cells++yE r
theorem Ea:yE []=[]:=_root_.id rfl
theorem yD (x:AV)(r:List AV):yE (x::r)=x.cells++yE r:=_root_.id rfl
theorem vo:∀ l:List AV,l.flatMap AV.cells=yE l
 | []=>rfl
 | x::r=>by rw[List.flatMap_cons,vo r];rfl
section
variable {P:Program}{G:Nat->List PV}
theorem Q9 {b:Bool}(h:b=true):Chk b:=h
theorem TC {e sz len new:Nat}{vs:List AV}(h:Chk (decide (vs.length=len)&&decide (len<=9223372036854775807)&&vs.all (fun v=>v.known&&v.cells.length == sz&&v.cells.all AV.one))):dn true e sz len new vs=some (.row new sz 0 len,[(new,.cells e true (yE vs))]):=by
 have h':=h
 simp only[Chk,Bool.and_eq_true,decide_eq_true_eq] at h'
 obtain⟨⟨h1,h2⟩,h3⟩:=h'
 simp only[dn]
 rw[if_pos ⟨h1,h2⟩,if_pos h3,vo]
theorem pD:∀ l:List PV,pvs (l.map .pv)=some l
 | []=>rfl
 | x::r=>by simp[pvs,AV.toPV,pD r]
end
attribute [push_cast] TC Ea yD
section
variable {α β:Type}
def jh (p:Nat->Bool):Nat->Bool
 | 0=>true
 | n+1=>jh p n&&p n
theorem j6 {p:Nat->Bool}:∀ {n:Nat},jh p n=true↔∀ k,k<n->p k=true
 | 0=>by simp[jh]
 | n+1=>by
   rw[jh,Bool.and_eq_true,j6]
   constructor
   ·rintro⟨h1,h2⟩ k hk
    rcases Nat.lt_succ_iff_lt_or_eq.1 hk with h | h
    ·exact h1 k h
    ·rw[h];exact h2
   ·exact fun h=>⟨fun k hk=>h k (by omega),h n (by omega)⟩
theorem bd {p:Nat->Bool}{k n:Nat}(h:p k=false)(hk:k<n):jh p n=false:=by
 cases ha:jh p n with
 | false=>rfl
 | true=>rw[j6.1 ha k hk] at h;cases h
theorem ba {l:List α}{m:Nat}{x:α}(h:l[m]? = some x):l.drop m=x::l.drop (m+1):=by
 obtain⟨h1,h2⟩:=List.getElem?_eq_some_iff.1 h
 rw[List.drop_eq_getElem_cons h1,h2]
theorem vz {l:List α}{m:Nat}(h:¬ m<l.length):l.drop m=[]:=List.drop_eq_nil_of_le (by omega)
theorem N9 {l:List α}{m:Nat}{x:α}{p:α->Bool}(h:l[m]? = some x)(hp:p x=true):(l.drop m).any p=true:=by
 rw[ba h,List.any_cons,hp];rfl
theorem JP {l:List α}{m:Nat}{x:α}{p:α->Bool}(h:l[m]? = some x)(hp:p x=false):(l.drop m).any p=(l.drop (m+1)).any p:=by
 rw[ba h,List.any_cons,hp];rfl
theorem Oa {l:List α}{m:Nat}{p:α->Bool}(h:¬ m<l.length):(l.drop m).any p=false:=by rw[vz h];rfl
def eZ (p:α->Bool):List α->Nat->Int
 | [],_=>-1
 | x::r,m=>if p x=true then (m:Int) else eZ p r (m+1)
theorem fq {l:List α}{m:Nat}{x:α}{p:α->Bool}(h:l[m]? = some x)(hp:p x=true):eZ p (l.drop m) m=m:=by
 rw[ba h,eZ,if_pos hp]
theorem dG {l:List α}{m:Nat}{x:α}{p:α->Bool}(h:l[m]? = some x)(hp:p x=false):eZ p (l.drop m) m=eZ p (l.drop (m+1)) (m+1):=by
 rw[ba h,eZ,if_neg (by rw[hp];simp)]
theorem ft {l:List α}{m:Nat}{p:α->Bool}(h:¬ m<l.length):eZ p (l.drop m) m = -1:=by rw[vz h];rfl
theorem ck {p:α->Bool}:∀ (l:List α) (m:Nat),(l.find? p=none/\eZ p l m = -1)\/∃ (k:Nat) (x:α),l[k]? = some x/\l.find? p=some x/\eZ p l m=((m+k:Nat):Int)
 | [],m=>.inl ⟨rfl,rfl⟩
 | x::r,m=>by
   cases hx:p x with
   | true=>exact .inr ⟨0,x,rfl,by rw[List.find?_cons,hx],by rw[eZ,if_pos hx];rfl⟩
   | false=>
     rw[List.find?_cons,hx,eZ,if_neg (by rw[hx];simp)]
     rcases ck r (m+1) with ⟨h1,h2⟩ | ⟨k,y,h1,h2,h3⟩
     ·exact .inl ⟨h1,h2⟩
     ·exact .inr ⟨k+1,y,by simpa using h1,h2,by rw[h3];congr 1;omega⟩
theorem io {p:α->Bool}(l:List α):(l.find? p).isSome=l.any p:=by
 induction l with
 | nil=>rfl
 | cons x r ih=>rw[List.find?_cons,List.any_cons];cases p x<;>simp[ih]
def P9:Option (List UInt8)->Option AV
 | some l=>some (.pv (.str l))
 | none=>none
def KP (n:Int):Option (List UInt8)->Option (List UInt8)
 | some l=>some (UInt8.ofNat n.toNat::l)
 | none=>none
theorem CP (l:List UInt8):P9 (some l)=some (.pv (.str l)):=_root_.id rfl
theorem lQ (n:Int)(l:List UInt8):KP n (some l)=some (UInt8.ofNat n.toNat::l):=_root_.id rfl
theorem Lp:u8s []=some []:=_root_.id rfl
theorem ub (n:Int)(r:List PV):u8s (.int .u8 n::r)=KP n (u8s r):=by
 simp only[u8s];cases u8s r<;>rfl
theorem kg:∀ l:List UInt8,u8s (l.map fun b=>PV.int .u8 (b.toNat:Int))=some l
 | []=>rfl
 | b::r=>by rw[List.map_cons,ub,kg r,lQ];simp
theorem Gf (σ:au)(r:Nat)(l:List PV):eL σ (.olist r 1 l)=P9 (u8s l):=by
 simp only[eL,bh,if_true];cases u8s l<;>rfl
theorem ww (σ:au):eL σ (.pv .nils)=some (.pv (.str [])):=_root_.id rfl
theorem Ge (σ:au)(l:List PV):eL σ (.pv (.list l))=P9 (u8s l):=by
 simp only[eL,bh]
 cases h:u8s l with
 | none=>by_cases hh:(l.all (fun y=>y.cells.length == 1))=true<;>simp[hh,h,P9]
 | some s=>
   obtain⟨ns,rfl,rfl⟩:=nC h
   rw[if_pos (by simp[PV.cells])]
   simp[h,P9]
end
theorem xZ (G:Nat->List PV)(e:List (Nat×AV))(σ:List (Nat×Blk))(new:Nat)(x:AX):n9 G e σ new (.toStr x)=gq [] (eL (fun r=>lookB r σ) (evE e x)):=by
 simp only[n9];cases eL (fun r=>lookB r σ) (evE e x)<;>rfl
theorem gK {a b:Int}(h:0<=a):a.tdiv b=a / b:=Int.tdiv_eq_ediv_of_nonneg h
theorem fc {a b:Int}(h:0<=a):a.tmod b=a % b:=Int.tmod_eq_emod_of_nonneg h
def Jw:Option UInt8->Option AV
 | some b=>some (.pv (.int .u8 (b.toNat:Int)))
 | none=>none
theorem am (b:UInt8):Jw (some b)=some (.pv (.int .u8 (b.toNat:Int))):=_root_.id rfl
theorem iN (l:List UInt8)(k:IntKind)(i:Nat):gV (.pv (.str l)) (.pv (.int k (i:Int)))=Jw l[i]?:=by
 simp only[gV,Int.toNat_natCast]
 rw[if_pos (by omega)]
 cases l[i]? <;> rfl
theorem sd (l:List UInt8)(k:IntKind):gV (.pv (.str l)) (.pv (.int k 0))=Jw l[0]?:=iN l k 0
theorem sf (l:List UInt8)(k:IntKind)(i:Nat):gV (.pv (.str l)) (.pv (.int k ((i:Int)+1)))=Jw l[i+1]?:=iN l k (i+1)
attribute [push_cast] am iN sd sf xZ gK fc CP lQ Lp ub kg Gf ww Ge
def ry (p:Nat):List UInt8:=
 if p<128 then [UInt8.ofNat p]
 else if p<2048 then [UInt8.ofNat (192+p / 64),UInt8.ofNat (128+p % 64)]
 else if p<65536 then [UInt8.ofNat (224+p / 4096),UInt8.ofNat (128+p / 64 % 64),UInt8.ofNat (128+p % 64)]
 else [UInt8.ofNat (240+p / 262144),UInt8.ofNat (128+p / 4096 % 64),UInt8.ofNat (128+p / 64 % 64),UInt8.ofNat (128+p % 64)]
def jD (p:Nat):Bool:=decide (p<=1114111)&&(decide (p<55296)||decide (57343<p))
def lO (l:List UInt8):Nat×Nat:=
 if l=[] then (0,0) else if Lib.decodeL l=(65533,1) then (0,0) else Lib.decodeL l
def byN (l:List UInt8)(i:Nat):Nat:=(l.getD i 0).toNat
theorem go {l:List UInt8}{i:Nat}{b:UInt8}(h:l[i]? = some b):byN l i=b.toNat:=by
 rw[byN,List.getD_eq_getElem?_getD,h];rfl
theorem gm (l:List UInt8)(i:Nat):byN l i<256:=UInt8.toNat_lt _
theorem nD {n:Nat}{b:UInt8}(h:n<256):UInt8.ofNat n=b↔n=b.toNat:=by
 constructor
 ·rintro rfl;simp[UInt8.toNat_ofNat',Nat.mod_eq_of_lt h]
 ·rintro rfl;exact UInt8.ofNat_toNat
def S6 (p:Nat×Nat):Nat×Nat:=if p=(65533,1) then (0,0) else p
theorem gz:S6 (65533,1)=(0,0):=rfl
theorem NA {p n:Nat}(h:n≠1):S6 (p,n)=(p,n):=if_neg (by simp[h])
theorem qU {l:List UInt8}(h:l≠[]):lO l=S6 (Lib.decodeN l.length (byN l 0) (byN l 1) (byN l 2) (byN l 3)):=by
 rw[lO,if_neg h,Lib.decodeL_N];rfl
theorem Tp {l:List UInt8}(h:l≠[])(h0:byN l 0<128):lO l=(byN l 0,1):=by
 rw[qU h,Lib.decodeN,if_pos h0]
 exact if_neg (by simp;omega)
theorem EC {l:List UInt8}(h:l≠[])(h0:(128<=byN l 0/\byN l 0<192)\/248<=byN l 0):lO l=(0,0):=by
 have hlt:=gm l 0
 rw[qU h,Lib.decodeN,if_neg (by omega),if_neg (by omega),if_neg (by omega),if_neg (by omega),gz]
theorem To {l:List UInt8}(h:l≠[])(h0:192<=byN l 0/\byN l 0<224) :
  lO l=if 1<l.length/\(128<=byN l 1/\byN l 1<192)/\128<=64*(byN l 0 - 192)+(byN l 1 - 128) then (64*(byN l 0 - 192)+(byN l 1 - 128),2) else (0,0):=by
 have hlt:=gm l 1
 rw[qU h]
 generalize byN l 0=b0 at *
 generalize byN l 1=b1 at *
 generalize byN l 2=b2 at *
 generalize byN l 3=b3 at *
 unfold Lib.decodeN
 rw[if_neg (by omega)]
 by_cases hc:1<l.length/\b1 / 64=2
 ·rw[if_pos ⟨by omega,hc⟩]
  by_cases hp:b0 % 32*64+b1 % 64>=128
  ·rw[if_pos hp,NA (by omega),if_pos ⟨hc.1,by omega,by omega⟩]
   exact Prod.ext (by simp only;omega) rfl
  ·rw[if_neg hp,gz,if_neg (by omega)]
 ·rw[if_neg (by omega),if_neg (by omega),if_neg (by omega),gz,if_neg (by omega)]
theorem Tn {l:List UInt8}(h:l≠[])(h0:224<=byN l 0/\byN l 0<240) :
  lO l=if 2<l.length/\(128<=byN l 1/\byN l 1<192)/\(128<=byN l 2/\byN l 2<192)/\(2048<=4096*(byN l 0 - 224)+64*(byN l 1 - 128)+(byN l 2 - 128)/\(4096*(byN l 0 - 224)+64*(byN l 1 - 128)+(byN l 2 - 128)<55296\/57343<4096*(byN l 0 - 224)+64*(byN l 1 - 128)+(byN l 2 - 128)))
   then (4096*(byN l 0 - 224)+64*(byN l 1 - 128)+(byN l 2 - 128),3) else (0,0):=by
 have hlt:=gm l 1
 have hlt2:=gm l 2
 rw[qU h]
 generalize byN l 0=b0 at *
 generalize byN l 1=b1 at *
 generalize byN l 2=b2 at *
 generalize byN l 3=b3 at *
 unfold Lib.decodeN
 rw[if_neg (by omega),if_neg (by omega)]
 by_cases hc:(1<l.length/\b1 / 64=2)/\(2<l.length/\b2 / 64=2)
 ·rw[if_pos ⟨by omega,hc⟩]
  have e:b0 % 16*4096+b1 % 64*64+b2 % 64=4096*(b0 - 224)+64*(b1 - 128)+(b2 - 128):=by omega
  rw[e]
  have hp0:4096*(b0 - 224)+64*(b1 - 128)+(b2 - 128)<=65535:=by omega
  generalize 4096*(b0 - 224)+64*(b1 - 128)+(b2 - 128)=p at *
  by_cases hp:p>=2048/\(p<55296\/(57344<=p/\p<=1114111))
  ·rw[if_pos hp,NA (by omega),if_pos ⟨hc.2.1,by omega,by omega,by omega⟩]
  ·rw[if_neg hp,gz,if_neg]
   rintro⟨_,_,_,h4,h5⟩
   omega
 ·rw[if_neg (by omega),if_neg (by omega),gz,if_neg (by omega)]
theorem Tm {l:List UInt8}(h:l≠[])(h0:240<=byN l 0/\byN l 0<248) :
  lO l=if 3<l.length/\(128<=byN l 1/\byN l 1<192)/\(128<=byN l 2/\byN l 2<192)/\(128<=byN l 3/\byN l 3<192) /\
    (65536<=262144*(byN l 0 - 240)+4096*(byN l 1 - 128)+64*(byN l 2 - 128)+(byN l 3 - 128)/\262144*(byN l 0 - 240)+4096*(byN l 1 - 128)+64*(byN l 2 - 128)+(byN l 3 - 128)<=1114111)
   then (262144*(byN l 0 - 240)+4096*(byN l 1 - 128)+64*(byN l 2 - 128)+(byN l 3 - 128),4) else (0,0):=by
 have hlt:=gm l 1
 have hlt2:=gm l 2
 have hlt3:=gm l 3
 rw[qU h]
 generalize byN l 0=b0 at *
 generalize byN l 1=b1 at *
 generalize byN l 2=b2 at *
 generalize byN l 3=b3 at *
 unfold Lib.decodeN
 rw[if_neg (by omega),if_neg (by omega),if_neg (by omega)]
 by_cases hc:(1<l.length/\b1 / 64=2)/\(2<l.length/\b2 / 64=2)/\(3<l.length/\b3 / 64=2)
 ·rw[if_pos ⟨by omega,hc⟩]
  have e:b0 % 8*262144+b1 % 64*4096+b2 % 64*64+b3 % 64=262144*(b0 - 240)+4096*(b1 - 128)+64*(b2 - 128)+(b3 - 128):=by omega
  rw[e]
  generalize 262144*(b0 - 240)+4096*(b1 - 128)+64*(b2 - 128)+(b3 - 128)=p at *
  by_cases hp:p>=65536/\(p<55296\/(57344<=p/\p<=1114111))
  ·rw[if_pos hp,NA (by omega),if_pos ⟨hc.2.2.1,by omega,by omega,by omega,by omega⟩]
  ·rw[if_neg hp,gz,if_neg]
   rintro⟨_,_,_,_,h4,h5⟩
   omega
 ·rw[if_neg (by omega),gz,if_neg (by omega)]
theorem Kc {l:List UInt8}{a b:UInt8}(h0:l[0]? = some a)(h1:l[1]? = some b):l.take 2=[a,b]:=by
 rw[aD h1,aD h0];rfl
theorem Kb {l:List UInt8}{a b c:UInt8}(h0:l[0]? = some a)(h1:l[1]? = some b)(h2:l[2]? = some c):l.take 3=[a,b,c]:=by
 rw[aD h2,Kc h0 h1];rfl
theorem Pj {l:List UInt8}{a b c d:UInt8}(h0:l[0]? = some a)(h1:l[1]? = some b)(h2:l[2]? = some c)(h3:l[3]? = some d):l.take 4=[a,b,c,d]:=by
 rw[aD h3,Kb h0 h1 h2];rfl
theorem Te {a b:UInt8}(h0:192<=a.toNat/\a.toNat<224)(h1:128<=b.toNat/\b.toNat<192):ry (64*(a.toNat - 192)+(b.toNat - 128))=[a,b]↔128<=64*(a.toNat - 192)+(b.toNat - 128):=by
 unfold ry
 generalize hp:64*(a.toNat - 192)+(b.toNat - 128)=p
 by_cases h:p<128
 ·rw[if_pos h]
  constructor
  ·intro e;simp at e
  ·intro;omega
 ·rw[if_neg h,if_pos (by omega)]
  simp only[List.cons.injEq,and_true]
  rw[nD (by omega),nD (by omega)]
  omega
theorem Td {a b c:UInt8}(h0:224<=a.toNat/\a.toNat<240)(h1:128<=b.toNat/\b.toNat<192)(h2:128<=c.toNat/\c.toNat<192) :
  ry (4096*(a.toNat - 224)+64*(b.toNat - 128)+(c.toNat - 128))=[a,b,c]↔2048<=4096*(a.toNat - 224)+64*(b.toNat - 128)+(c.toNat - 128):=by
 unfold ry
 generalize hp:4096*(a.toNat - 224)+64*(b.toNat - 128)+(c.toNat - 128)=p
 by_cases h:p<128
 ·rw[if_pos h]
  constructor
  ·intro e;simp at e
  ·intro;omega
 ·rw[if_neg h]
  by_cases h':p<2048
  ·rw[if_pos h']
   constructor
   ·intro e;simp at e
   ·intro;omega
  ·rw[if_neg h',if_pos (by omega)]
   simp only[List.cons.injEq,and_true]
   rw[nD (by omega),nD (by omega),nD (by omega)]
   omega
theorem Tc {a b c d:UInt8}(h0:240<=a.toNat/\a.toNat<248)(h1:128<=b.toNat/\b.toNat<192)(h2:128<=c.toNat/\c.toNat<192)(h3:128<=d.toNat/\d.toNat<192)
  (hm:262144*(a.toNat - 240)+4096*(b.toNat - 128)+64*(c.toNat - 128)+(d.toNat - 128)<=1114111) :
  ry (262144*(a.toNat - 240)+4096*(b.toNat - 128)+64*(c.toNat - 128)+(d.toNat - 128))=[a,b,c,d]↔65536<=262144*(a.toNat - 240)+4096*(b.toNat - 128)+64*(c.toNat - 128)+(d.toNat - 128):=by
 unfold ry
 generalize hp:262144*(a.toNat - 240)+4096*(b.toNat - 128)+64*(c.toNat - 128)+(d.toNat - 128)=p at *
 by_cases h:p<128
 ·rw[if_pos h]
  constructor
  ·intro e;simp at e
  ·intro;omega
 ·rw[if_neg h]
  by_cases h':p<2048
  ·rw[if_pos h']
   constructor
   ·intro e;simp at e
   ·intro;omega
  ·rw[if_neg h']
   by_cases h'':p<65536
   ·rw[if_pos h'']
    constructor
    ·intro e;simp at e
    ·intro;omega
   ·rw[if_neg h'']
    simp only[List.cons.injEq,and_true]
    rw[nD (by omega),nD (by omega),nD (by omega),nD (by omega)]
    omega
theorem wv {l:List UInt8}(h:l≠[]):Lib.validD l=if (lO l).2=0 then false else Lib.validD (l.drop (lO l).2):=by
 rw[Lib.validD_step l h,lO,if_neg h]
 have hw:=Lib.decodeL_width l
 by_cases hb:Lib.decodeL l=(65533,1)
 ·rw[if_pos hb,if_pos (by rw[hb];simp),if_pos rfl]
 ·rw[if_neg hb,if_neg (fun hh=>hb (Prod.ext hh.1 hh.2)),if_neg (by omega)]
theorem KK (l:List UInt8):(lO l).2<=l.length:=by
 unfold lO
 split
 ·simp
 ·split
  ·simp
  ·exact Lib.decodeL_le l ‹_›
section
variable {P:Program}{G:Nat->List PV}
end
theorem JJ {e sz by_ new:Nat}{σ:au}{y:PV}{r:List PV}(h1:r.length+1<=9223372036854775807)(h2:(r.length+1)*by_<=140737488355328):fD true e sz by_ new σ (.pv .nils) (some (y::r))=some (.row new sz 0 (r.length+1),[(new,.cells e false (bA (y::r)))]):=by
 simp only[fD];rw[if_pos (ff (by omega) (by simpa using h2))]
section
variable (e:List (Nat×AV))(σ:List (Nat×Blk))(new:Nat)
theorem Ql (G:Nat->List PV)(o:XOp):n9 G e σ new (.xop o)=mB e σ new o:=_root_.id rfl
theorem Ip (o:XOp):dY e (.xop o)=e7 e o:=_root_.id rfl
end
attribute [push_cast] JJ Ql Ip
end Go.Ab

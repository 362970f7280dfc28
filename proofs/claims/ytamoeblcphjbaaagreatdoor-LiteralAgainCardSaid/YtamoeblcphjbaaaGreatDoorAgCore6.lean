/- A program logic over the model: part 6 (a proof is built on it; nothing of the statement is said here). -/
import Derived.Lib.Join
import Derived.Lib.ItoaNum
import Derived.Lib.LaidTab
import Derived.Lib.AppendIntMem
import Derived.Lib.Strings
import Derived.Lib.Bytealg
import Derived.Lib.ValidLaws
import Derived.ChangeShapes
import Derived.ProofKit
import Derived.OpenShut
import Derived.ShutString
import Derived.ChangeOld
import Derived.Carry
import Derived.WideShapes
import Derived.Deep.DeepHandedRow
import Derived.Lib.LaidU8T
import Derived.Test.YtamoeblcphjbaaaGreatDoorAgCore5
set_option linter.unusedVariables false
set_option linter.unusedSimpArgs false
namespace Go.Ab
open Go Go.RowKit
theorem Ei (k k':IntKind)(x y:Int):IL (.pv (.int k x)) (.pv (.int k' y))=some (.pv (.int k (min x y))):=by
 simp only[IL,Option.some.injEq,AV.pv.injEq,PV.int.injEq,true_and]
 split<;>omega
theorem Ej (k k':IntKind)(x y:Int):IM (.pv (.int k x)) (.pv (.int k' y))=some (.pv (.int k (max x y))):=by
 simp only[IM,Option.some.injEq,AV.pv.injEq,PV.int.injEq,true_and]
 split<;>omega
theorem map_drop {α β:Type}(f:α→β)(l:List α)(n:Nat):(l.map f).drop n=(l.drop n).map f:=List.map_drop.symm
def jh (mu:Bool)(e sz by_ new:Nat)(σ:aw)(x:AV):Option (List PV)→Option (AV×List (Nat×Blk))
 | some ys=>match mu,x with
   | false,.pv .nils=>match ys with
     | []=>some (.pv .nils,[])
     | y::r=>if mL 0 (r.length+1) by_=true then some (.olist new sz (y::r),[(new,.tok e sz)]) else none
   | false,.olist q s l=>match σ q with
     | .tok e' sz'=>if e'=e∧sz'=sz∧s=sz∧mL l.length ys.length by_=true then some (.olist new sz (l++ys),[(q,.none),(new,.tok e sz)]) else none
     | _=>none
   | true,.pv .nils=>match ys with
     | []=>some (.pv .nils,[])
     | y::r=>if mL 0 (r.length+1) by_=true then some (.row new sz 0 (r.length+1),[(new,.cells e false (bE (y::r)))]) else none
   | true,.row q s off len=>match σ q with
     | .cells e' _ l=>if e'=e∧s=sz∧off=0∧len*sz≤l.length∧mL len ys.length by_=true then some (.row new sz 0 (len+ys.length),[(q,.none),(new,.cells e false (l.take (len*sz)++bE ys))]) else none
     | _=>none
   | _,_=>none
 | none=>none
def Gk (e sz by_ new q s:Nat)(l ys:List PV):Blk→Option (AV×List (Nat×Blk))
 | .tok e' sz'=>if e'=e∧sz'=sz∧s=sz∧mL l.length ys.length by_=true then some (.olist new sz (l++ys),[(q,.none),(new,.tok e sz)]) else none
 | _=>none
def wQ (e sz by_ new q s off len:Nat)(ys:List PV):Blk→Option (AV×List (Nat×Blk))
 | .cells e' _ l=>if e'=e∧s=sz∧off=0∧len*sz≤l.length∧mL len ys.length by_=true then some (.row new sz 0 (len+ys.length),[(q,.none),(new,.cells e false (l.take (len*sz)++bE ys))]) else none
 | _=>none
theorem vi (mu:Bool)(e sz by_ new:Nat)(σ:aw)(x y:AV):dO mu e sz by_ new σ x y=jh mu e sz by_ new σ x (bF σ sz y):=by
 unfold dO jh
 cases bF σ sz y<;>rfl
theorem NO (e sz by_ new:Nat)(σ:aw)(q s:Nat)(l ys:List PV):jh false e sz by_ new σ (.olist q s l) (some ys)=Gk e sz by_ new q s l ys (σ q):=by
 simp only[jh,Gk]
theorem Gj {e sz by_ new q:Nat}{l ys:List PV}(h1:l.length+ys.length≤9223372036854775807)(h2:(l.length+ys.length)*by_≤140737488355328):Gk e sz by_ new q sz l ys (.tok e sz)=some (.olist new sz (l++ys),[(q,.none),(new,.tok e sz)]):=by
 simp[Gk,ir h1 h2]
theorem Km (e sz by_ new:Nat)(σ:aw)(q s off len:Nat)(ys:List PV):jh true e sz by_ new σ (.row q s off len) (some ys)=wQ e sz by_ new q s off len ys (σ q):=by
 simp only[jh,wQ]
theorem nA {e sz by_ new q len:Nat}{f:Bool}{l:List AV}{ys:List PV}(h0:len*sz≤l.length)(h1:len+ys.length≤9223372036854775807)(h2:(len+ys.length)*by_≤140737488355328) :
  wQ e sz by_ new q sz 0 len ys (.cells e f l)=some (.row new sz 0 (len+ys.length),[(q,.none),(new,.cells e false (l.take (len*sz)++bE ys))]):=by
 simp[wQ,h0,ir h1 h2]
def tP (l:List PV):Bool→Option (List PV)
 | true=>some l
 | false=>none
theorem wl (σ:aw)(sz:Nat)(l:List PV):bF σ sz (.pv (.list l))=tP l (l.all fun y=>y.cells.length == sz):=by
 simp only[bF]
 cases l.all (fun y=>y.cells.length == sz)<;>rfl
theorem wm (l:List PV):tP l true=some l:=_root_.id rfl
theorem rJ (σ:aw)(sz r:Nat)(l:List PV):bF σ sz (.olist r sz l)=some l:=by simp[bF]
def Pi (e sz new:Nat):Option (List PV)→Option (AV×List (Nat×Blk))
 | some ps=>if ps.all (fun p=>p.cells.length == sz&&p.cells.all PV.one)=true then some (.olist new sz ps,[(new,.tok e sz)]) else none
 | none=>none
theorem QH {e sz len new:Nat}{vs:List AV}(h:vs.length=len)(h2:len≤9223372036854775807):f8 false e sz len new vs=Pi e sz new (pvs vs):=by
 simp only[f8,h,h2,true_and,if_true,Pi]
 cases pvs vs<;>rfl
def RA (e sz new:Nat)(ps:List PV):Bool→Option (AV×List (Nat×Blk))
 | true=>some (.olist new sz ps,[(new,.tok e sz)])
 | false=>none
theorem NH (e sz new:Nat)(ps:List PV):RA e sz new ps true=some (.olist new sz ps,[(new,.tok e sz)]):=_root_.id rfl
theorem Ce (e sz new:Nat)(ps:List PV):Pi e sz new (some ps)=RA e sz new ps (ps.all fun p=>p.cells.length == sz&&p.cells.all PV.one):=by
 simp only[Pi]
 cases ps.all (fun p=>p.cells.length == sz&&p.cells.all PV.one)<;>rfl
theorem sZ (b:Bool):PV.one (.bool b)=true:=_root_.id rfl
theorem zH (k:IntKind)(n:Int):PV.one (.int k n)=true:=_root_.id rfl
theorem zG (s:List UInt8):PV.one (.str s)=true:=_root_.id rfl
theorem EU:PV.one .nils=true:=_root_.id rfl
theorem sY (l:List PV):PV.one (.list l)=true:=_root_.id rfl
theorem IV (p:PV):AV.one (.pv p)=p.one:=_root_.id rfl
theorem EW (r o:Nat):AV.one (.ptr r o)=true:=_root_.id rfl
theorem EV (r s o n:Nat):AV.one (.row r s o n)=true:=_root_.id rfl
theorem vB (r s:Nat)(l:List PV):AV.one (.olist r s l)=true:=_root_.id rfl
theorem vC (sz:Nat)(l:List PV)(i:Nat)(y:PV):fP sz l i (some y)=if y.cells.length=sz then some (.pv (.eptr l i 0)) else none:=_root_.id rfl
theorem NL (n:Nat):(n == n)=true:=by simp
def M2 (sz:Nat)(e:PV):Bool→Option AV
 | true=>some (.pv e)
 | false=>d8 true sz 0 (e.cells.map .pv)
theorem Jn (sz:Nat)(e:PV):M2 sz e true=some (.pv e):=_root_.id rfl
theorem Fq (sz:Nat)(e:PV):lB true sz 0 e=M2 sz e (e.isAgg&&decide (e.cells.length=sz)):=by
 simp only[lB,true_and]
 by_cases h:e.isAgg=true∧e.cells.length=sz
 ·rw[if_pos h,h.1,decide_eq_true h.2];rfl
 ·rw[if_neg h]
  have:(e.isAgg&&decide (e.cells.length=sz))=false:=by
   rw[Bool.eq_false_iff]
   intro hh
   simp only[Bool.and_eq_true,decide_eq_true_eq] at hh
   exact h hh
  rw[this];rfl
theorem AQ (cs:List PV):(PV.agg cs).isAgg=true:=_root_.id rfl
theorem ja {α:Type}{sz:Nat}{f:α→PV}(hf:∀ x,(f x).cells.length=sz)(l:List α):(bE (l.map f)).length=l.length*sz:=by
 have:=gX (sz:=sz) ((l.map f).map PV.cells) (by
  intro y hy
  simp only[List.mem_map] at hy
  obtain⟨p,⟨s,_,rfl⟩,rfl⟩:=hy
  exact hf s)
 simp only[bE,List.length_map,List.flatMap_def] at this ⊢
 exact this
def fzO (σ:aw):Option AV→Option (AV×List (Nat×Blk))
 | some v=>(FG σ v).map JG
 | none=>none
theorem Ni (G:Nat→List PV)(σ:aw)(g:Bool)(sz:Nat)(v:AV):JN G σ (some (g,sz)) v=fzO σ (e6 G g sz σ v):=by
 simp only[JN,fzO];cases e6 G g sz σ v<;>rfl
theorem FE (σ:aw)(v:AV):fzO σ (some v)=(FG σ v).map JG:=_root_.id rfl
theorem FF (σ:aw)(cs:List AV):FG σ (.agg cs)=(FI σ cs).map fun p=>(.agg p.1,p.2):=_root_.id rfl
theorem JH (σ:aw)(p:PV):JI σ (.pv p)=some (p,[]):=_root_.id rfl
theorem FK (σ:aw)(r s n:Nat):JI σ (.row r s 0 n)=Ng s n r (σ r):=_root_.id rfl
theorem FH (σ:aw):FI σ []=some ([],[]):=_root_.id rfl
theorem Bb (σ:aw)(x:AV)(r:List AV):FI σ (x::r)=Pg (JI σ x) (FI σ r):=_root_.id rfl
theorem Bc (p:PV)(a:List Nat)(q:List PV)(b:List Nat):Pg (some (p,a)) (some (q,b))=some (p::q,a++b):=_root_.id rfl
theorem JF (p:PV)(l:List Nat):JG (p,l)=(.pv p,l.map fun r=>(r,.none)):=_root_.id rfl
theorem FL {α:Type}{sz:Nat}{f:α→PV}(hf:∀ x,∃ cs,f x = .agg cs∧cs.length=sz∧∀ p∈cs,p.one=true)(hsz:2≤sz)(l:List α){n r T:Nat}{b:Bool}(hn:n=l.length) :
  Ng sz n r (.cells T b (bE (l.map f)))=some (.list (l.map f),[r]):=by
 have hlen:=ja (sz:=sz) (f:=f) (fun x=>by obtain⟨cs,h1,h2,_⟩:=hf x;rw[h1];exact h2) l
 subst hn
 have hone:(bE (l.map f)).all AV.one=true:=by
  rw[List.all_eq_true]
  intro x hx
  simp only[bE,List.mem_map,List.mem_flatMap] at hx
  obtain⟨p,⟨q,⟨s,_,rfl⟩,hq⟩,rfl⟩:=hx
  obtain⟨cs,h1,h2,h3⟩:=hf s
  rw[h1] at hq
  exact h3 p hq
 have hpv:pvs (bE (l.map f))=some ((l.map f).flatMap PV.cells):=qS _
 have hch:∀ l:List α,iR sz l.length ((l.map f).flatMap PV.cells)=l.map f:=by
  intro l
  induction l with
  | nil=>rfl
  | cons x r ih=>
    obtain⟨cs,h1,h2,_⟩:=hf x
    simp only[List.length_cons,iR,List.map_cons,List.flatMap_cons,h1,cZ]
    rw[if_neg (by omega),List.take_left' h2,List.drop_left' h2,ih]
 simp only[Ng]
 rw[if_pos ⟨by omega,by omega,by rw[List.take_of_length_le (by omega)];exact hone⟩,List.take_of_length_le (by omega),hpv]
 simp[hch]
theorem Fc (p:PV):(AV.pv p).names=[]:=_root_.id rfl
theorem Ai (r o:Nat):(AV.ptr r o).names=[r]:=_root_.id rfl
theorem Ah (r a b c:Nat):(AV.row r a b c).names=[r]:=_root_.id rfl
theorem Fd (r a:Nat)(l:List PV):(AV.olist r a l).names=[r]:=_root_.id rfl
theorem Aj:AV.any.names=[]:=_root_.id rfl
theorem vJ:AV.namesL []=[]:=_root_.id rfl
theorem kz (x:AV)(r:List AV):AV.namesL (x::r)=x.names++AV.namesL r:=by simp only[AV.namesL]
theorem ky:∀ l:List PV,AV.namesL (l.map .pv)=[]
 | []=>rfl
 | x::r=>by rw[List.map_cons,kz,ky r];rfl
theorem rh (l:List PV):AV.namesL (bE l)=[]:=ky _
theorem oR (T:Nat)(f:Bool)(l:List AV):(Blk.cells T f l).names=AV.namesL l:=_root_.id rfl
theorem vK (e s:Nat):(Blk.tok e s).names=[]:=_root_.id rfl
theorem Gn (acc:List Nat):bM acc []=acc:=_root_.id rfl
def Kq (acc:List Nat)(n:Nat):Bool→List Nat
 | true=>acc
 | false=>acc++[n]
theorem jd (x:Nat):∀ l:List Nat,l.contains x=tj x l
 | []=>rfl
 | y::r=>by
   rw[List.contains_cons,jd x r,oW]
   by_cases h:y=x
   ·simp[h]
   ·have h':¬ x=y:=fun e=>h e.symm
    simp[h,h']
theorem Cs (acc:List Nat)(n:Nat)(r:List Nat):bM acc (n::r)=bM (Kq acc n (tj n acc)) r:=by
 simp only[bM,jd]
 cases tj n acc<;>rfl
theorem Ko (acc:List Nat)(n:Nat):Kq acc n true=acc:=_root_.id rfl
theorem Kp (acc:List Nat)(n:Nat):Kq acc n false=acc++[n]:=_root_.id rfl
def geN (m0:Nat):List Nat→List Nat
 | []=>[]
 | x::r=>if m0≤x then x::geN m0 r else geN m0 r
theorem Jy (m0:Nat):geN m0 []=[]:=_root_.id rfl
theorem tF (m0 x:Nat)(r:List Nat):geN m0 (x::r)=if m0≤x then x::geN m0 r else geN m0 r:=_root_.id rfl
theorem A9 (m0:Nat):∀ l:List Nat,l.filter (fun r=>decide (m0≤r))=geN m0 l
 | []=>rfl
 | x::r=>by rw[List.filter_cons,A9 m0 r,tF];simp
def dK (sto:List (Nat×Blk)):List Nat→List Nat
 | []=>[]
 | r::q=>(lookB r sto).names++dK sto q
theorem pO (sto:List (Nat×Blk)):dK sto []=[]:=_root_.id rfl
theorem ib (sto:List (Nat×Blk))(r:Nat)(q:List Nat):dK sto (r::q)=(lookB r sto).names++dK sto q:=_root_.id rfl
theorem gp (sto:List (Nat×Blk)):∀ l:List Nat,(l.flatMap fun r=>(lookB r sto).names)=dK sto l
 | []=>rfl
 | r::q=>by rw[List.flatMap_cons,gp sto q,ib]
theorem IH (m0:Nat)(sto:List (Nat×Blk))(acc:List Nat):fN m0 sto 0 acc=acc:=_root_.id rfl
theorem IG (m0:Nat)(sto:List (Nat×Blk))(k:Nat)(acc:List Nat):fN m0 sto (k+1) acc=fN m0 sto k (bM acc (geN m0 (dK sto acc))):=by
 rw[← A9,← gp];rfl
def eK (e:List (Nat×AV)):List Nat→List Nat
 | []=>[]
 | k::r=>(look k e).names++eK e r
theorem px (e:List (Nat×AV)):eK e []=[]:=_root_.id rfl
theorem nl (e:List (Nat×AV))(k:Nat)(r:List Nat):eK e (k::r)=(look k e).names++eK e r:=_root_.id rfl
theorem k9 (e:List (Nat×AV))(σ:List (Nat×Blk))(n:Nat):∀ l:List Nat,(l.flatMap fun i=>((⟨e,σ,n⟩:St).E i).names)=eK e l
 | []=>rfl
 | k::r=>by rw[List.flatMap_cons,k9 e σ n r];rfl
def yF:Nat→Nat→List Nat
 | 0,_=>[]
 | n+1,k=>k::yF n (k+1)
theorem PR (k:Nat):yF 0 k=[]:=_root_.id rfl
theorem Ms (n k:Nat):yF (n+1) k=k::yF n (k+1):=_root_.id rfl
theorem yE:∀ n k:Nat,yF n k=List.range' k n
 | 0,k=>rfl
 | n+1,k=>by rw[Ms,yE n,List.range'_succ]
theorem GS (n:Nat):List.range n=yF n 0:=by rw[yE,List.range_eq_range']
theorem IY (m0:Nat)(keep:List Nat)(e:List (Nat×AV))(σ:List (Nat×Blk))(n:Nat):MK m0 keep ⟨e,σ,n⟩=fN m0 σ σ.length (bM [] (geN m0 (eK e keep++dK σ (yF m0 0)))):=by
 rw[← A9,← k9 e σ n,← gp,← GS];rfl
def oP (f:Nat→Option Nat)(e:List (Nat×AV)):List Nat→List (Nat×AV)
 | []=>[]
 | k::r=>(k,(look k e).ren f)::oP f e r
theorem Ad (f:Nat→Option Nat)(e:List (Nat×AV)):oP f e []=[]:=_root_.id rfl
theorem vF (f:Nat→Option Nat)(e:List (Nat×AV))(k:Nat)(r:List Nat):oP f e (k::r)=(k,(look k e).ren f)::oP f e r:=_root_.id rfl
def Ac (m0:Nat)(keep:List Nat)(e:List (Nat×AV))(σ:List (Nat×Blk))(os:List Nat):St:=⟨oP (dP m0 os) e keep,eU m0 (dP m0 os) σ (yF m0 0++os) 0,m0+os.length⟩
theorem I6 (m0:Nat)(keep:List Nat)(e:List (Nat×AV))(σ:List (Nat×Blk))(n:Nat):norm m0 keep ⟨e,σ,n⟩=Ac m0 keep e σ (fN m0 σ σ.length (bM [] (geN m0 (eK e keep++dK σ (yF m0 0))))):=by
 rw[← IY m0 keep e σ n]
 have hE:∀ (f:Nat→Option Nat) (l:List Nat),(l.map fun i=>(i,((⟨e,σ,n⟩:St).E i).ren f))=oP f e l:=by
  intro f l
  induction l with
  | nil=>rfl
  | cons k r ih=>rw[List.map_cons,ih];rfl
 simp only[norm,Ac,hE,GS]
theorem I8 (m0:Nat)(keep:List Nat)(e:List (Nat×AV))(σ:List (Nat×Blk))(x:Nat)(r:List Nat):Ac m0 keep e σ (x::r)=⟨oP (dP m0 (x::r)) e keep,eU m0 (dP m0 (x::r)) σ (yF m0 0++(x::r)) 0,m0+(x::r).length⟩:=_root_.id rfl
theorem I7 (m0:Nat)(keep:List Nat)(e:List (Nat×AV))(σ:List (Nat×Blk)):Ac m0 keep e σ []=⟨oP (dP m0 []) e keep,eU m0 (dP m0 []) σ (yF m0 0) 0,m0⟩:=by
 simp only[Ac,List.append_nil];rfl
theorem uV (m0:Nat)(f:Nat→Option Nat)(σ:List (Nat×Blk))(k:Nat):eU m0 f σ [] k=[]:=_root_.id rfl
theorem qD (m0:Nat)(f:Nat→Option Nat)(σ:List (Nat×Blk))(r:Nat)(q:List Nat)(k:Nat):eU m0 f σ (r::q) k=(k,(lookB r σ).ren f)::eU m0 f σ q (k+1):=_root_.id rfl
theorem vI (m0:Nat)(os:List Nat)(r:Nat):dP m0 os r=if r<m0 then some r else Hg r os m0:=_root_.id rfl
theorem AU (x y:Nat)(r:List Nat)(k:Nat):Hg x (y::r) k=if y=x then some k else Hg x r (k+1):=_root_.id rfl
def PT (o:Nat):Option Nat→AV
 | some q=>.ptr q o
 | none=>.any
def PS (a b c:Nat):Option Nat→AV
 | some q=>.row q a b c
 | none=>.any
def PU (a:Nat)(l:List PV):Option Nat→AV
 | some q=>.olist q a l
 | none=>.pv (.list l)
theorem GU (f:Nat→Option Nat)(p:PV):(AV.pv p).ren f = .pv p:=by simp only[AV.ren]
theorem IE (f:Nat→Option Nat):AV.any.ren f = .any:=by simp only[AV.ren]
theorem ID (f:Nat→Option Nat)(r o:Nat):(AV.ptr r o).ren f=PT o (f r):=by simp only[AV.ren,PT]<;>(cases f r<;>rfl)
theorem IC (f:Nat→Option Nat)(r a b c:Nat):(AV.row r a b c).ren f=PS a b c (f r):=by simp only[AV.ren,PS]<;>(cases f r<;>rfl)
theorem My (f:Nat→Option Nat)(r a:Nat)(l:List PV):(AV.olist r a l).ren f=PU a l (f r):=by simp only[AV.ren,PU]<;>(cases f r<;>rfl)
theorem yK (o q:Nat):PT o (some q) = .ptr q o:=_root_.id rfl
theorem yJ (a b c q:Nat):PS a b c (some q) = .row q a b c:=_root_.id rfl
theorem yN (a:Nat)(l:List PV)(q:Nat):PU a l (some q) = .olist q a l:=_root_.id rfl
theorem D5 (f:Nat→Option Nat):AV.renL f []=[]:=_root_.id rfl
theorem oj (f:Nat→Option Nat)(x:AV)(r:List AV):AV.renL f (x::r)=x.ren f::AV.renL f r:=by simp only[AV.renL]
theorem qE (f:Nat→Option Nat):∀ l:List PV,AV.renL f (l.map .pv)=l.map .pv
 | []=>rfl
 | x::r=>by rw[List.map_cons,oj,qE f r,GU]
theorem yP (f:Nat→Option Nat)(l:List PV):AV.renL f (bE l)=bE l:=qE f _
theorem uW (f:Nat→Option Nat)(T:Nat)(b:Bool)(l:List AV):(Blk.cells T b l).ren f = .cells T b (AV.renL f l):=_root_.id rfl
theorem D6 (f:Nat→Option Nat)(e s:Nat):(Blk.tok e s).ren f = .tok e s:=_root_.id rfl
theorem yQ (f:Nat→Option Nat):Blk.none.ren f = .none:=_root_.id rfl
theorem E4 (A:List (Nat×Nat×Nat×Nat))(m0:Nat)(keep:List Nat)(s:St):eG A m0 keep s=norm m0 keep (Gq A s):=_root_.id rfl
theorem Gp (s:St):Gq [] s=s:=_root_.id rfl
theorem Ct (k e sz:Nat)(r:List (Nat×Nat×Nat×Nat))(env:List (Nat×AV))(σ:List (Nat×Blk))(n:Nat):Gq ((k,0,e,sz)::r) ⟨env,σ,n⟩=Gq r (LD k e sz ⟨env,σ,n⟩ (look k env)):=_root_.id rfl
theorem Cu (k j e sz:Nat)(r:List (Nat×Nat×Nat×Nat))(env:List (Nat×AV))(σ:List (Nat×Blk))(n:Nat):Gq ((k,j+1,e,sz)::r) ⟨env,σ,n⟩=Gq r (NQ j e sz ⟨env,σ,n⟩ (look k env)):=_root_.id rfl
theorem Cy (k e sz:Nat)(env:List (Nat×AV))(σ:List (Nat×Blk))(n:Nat):LD k e sz ⟨env,σ,n⟩ (.pv .nils)=⟨(k,iD n e sz)::env,(n,de e sz)::σ,n+1⟩:=_root_.id rfl
theorem Ja {n e sz:Nat}(h:e<1000000):iD n e sz = .olist n sz []:=if_pos h
theorem I9 {n e sz:Nat}(h:1000000≤e):iD n e sz = .row n sz 0 0:=if_neg (Nat.not_lt.2 h)
theorem E6 {e sz:Nat}(h:e<1000000):de e sz = .tok e sz:=if_pos h
theorem E5 {e sz:Nat}(h:1000000≤e):de e sz = .cells (e - 1000000) false []:=if_neg (Nat.not_lt.2 h)
theorem Ks (k e sz r a:Nat)(l:List PV)(s:St):LD k e sz s (.olist r a l)=s:=_root_.id rfl
theorem Gs (o e sz r b:Nat)(env:List (Nat×AV))(σ:List (Nat×Blk))(n:Nat):NQ o e sz ⟨env,σ,n⟩ (.ptr r b)=NR r (b+o) e sz ⟨env,σ,n⟩ (lookB r σ):=_root_.id rfl
theorem wU (r o e sz T:Nat)(f:Bool)(l:List AV)(s:St):NR r o e sz s (.cells T f l)=LC r T f l o e sz s l[o]?:=_root_.id rfl
theorem Cx (r T:Nat)(f:Bool)(l:List AV)(o e sz:Nat)(env:List (Nat×AV))(σ:List (Nat×Blk))(n:Nat):LC r T f l o e sz ⟨env,σ,n⟩ (some (.pv .nils))=⟨env,(r,.cells T f (l.set o (iD n e sz)))::(n,de e sz)::σ,n+1⟩:=_root_.id rfl
theorem Gt (r T:Nat)(f:Bool)(l:List AV)(o e sz:Nat)(s:St)(q a b c:Nat):LC r T f l o e sz s (some (.row q a b c))=s:=_root_.id rfl
theorem Kr (r T:Nat)(f:Bool)(l:List AV)(o e sz:Nat)(s:St)(q a:Nat)(k:List PV):LC r T f l o e sz s (some (.olist q a k))=s:=_root_.id rfl
theorem RF {α:Type}(x y:α)(r:List α):(x::r).set 0 y=y::r:=_root_.id rfl
theorem RE {α:Type}(x y:α)(r:List α)(n:Nat):(x::r).set (n+1) y=x::r.set n y:=_root_.id rfl
theorem PE (e e':List (Nat×AV))(σ σ':List (Nat×Blk))(n n':Nat):(St.mk e σ n=St.mk e' σ' n')=(e=e'∧σ=σ'∧n=n'):=by rw[St.mk.injEq]
theorem bh {α:Type}{l:List α}{m:Nat}{x:α}(h:l[m]? = some x):l.take (m+1)=l.take m++[x]:=by
 obtain⟨h1,h2⟩:=List.getElem?_eq_some_iff.1 h
 rw[List.take_succ_eq_append_getElem h1,h2]
def Nh (cells:List AV)(off sz:Nat)(r:List (Nat×Nat×AV))(xc:List AV):Bool→Option (List AV)
 | true=>gj (cells.take off++xc++cells.drop (off+sz)) r
 | false=>none
theorem JL (cells:List AV)(off sz:Nat)(r:List (Nat×Nat×AV))(xc:List AV):Nh cells off sz r xc true=gj (cells.take off++xc++cells.drop (off+sz)) r:=_root_.id rfl
theorem Bg (cells:List AV):gj cells []=some cells:=_root_.id rfl
theorem wd (cells:List AV)(off sz:Nat)(x:AV)(r:List (Nat×Nat×AV)):gj cells ((off,sz,x)::r)=Nh cells off sz r x.cells (x.known&&decide (x.cells.length=sz)&&decide (off+sz≤cells.length)):=by
 simp only[gj]
 by_cases h:x.known=true∧x.cells.length=sz∧off+sz≤cells.length
 ·rw[if_pos h,h.1,decide_eq_true h.2.1,decide_eq_true h.2.2];rfl
 ·rw[if_neg h]
  have:(x.known&&decide (x.cells.length=sz)&&decide (off+sz≤cells.length))=false:=by
   rw[Bool.eq_false_iff]
   intro hh
   simp only[Bool.and_eq_true,decide_eq_true_eq] at hh
   exact h ⟨hh.1.1,hh.1.2,hh.2⟩
  rw[this];rfl
theorem EN (sz off:Nat)(cs:List AV):MH sz off cs=if off+sz≤cs.length then some (jl ((cs.drop off).take sz)) else none:=_root_.id rfl
section
variable {P:Program}{G:Nat→List PV}
end
end Go.Ab
namespace Go.Ab
open Go
theorem Bz (k:Nat):ca [] k=[]:=_root_.id rfl
theorem wj (b:Blk)(r:List Blk)(k:Nat):ca (b::r) k=(k,b)::ca r (k+1):=_root_.id rfl
theorem vX (sto:List (Nat×Blk))(f:Nat→Option Nat):fS sto f [] []=True:=_root_.id rfl
theorem rC (sto:List (Nat×Blk))(f:Nat→Option Nat)(r:Nat)(rs:List Nat)(b:Blk)(bs:List Blk):fS sto f (r::rs) (b::bs)=(BlkZ (lookB r sto) (b.ren f)∧fS sto f rs bs):=_root_.id rfl
theorem ET (f:Nat→Option Nat)(i:Nat)(g:Nat→Nat):nK f [] i g=[]:=_root_.id rfl
theorem zE (f:Nat→Option Nat)(b:Blk)(r:List Blk)(i:Nat)(g:Nat→Nat):nK f (b::r) i g=(g i,b.ren f)::nK f r (i+1) g:=_root_.id rfl
theorem Ae:e7 []=[]:=_root_.id rfl
theorem vG (r:Nat)(q:List Nat):e7 (r::q)=(r,.none)::e7 q:=_root_.id rfl
theorem Nf (next:Nat)(rs:List Nat)(r:Nat):gSo next rs r=some (gIn next rs r):=_root_.id rfl
theorem Jz (next i:Nat):gIn next [] i=next+i:=_root_.id rfl
theorem Qk (next r:Nat)(q:List Nat):gIn next (r::q) 0=r:=_root_.id rfl
theorem Qj (next r i:Nat)(q:List Nat):gIn next (r::q) (i+1)=gIn next q i:=_root_.id rfl
theorem Dj (n:Nat):((n:Int)+1).toNat=n+1:=by omega
def Lp:List Nat→List Nat→List Nat
 | [],a=>a
 | x::r,a=>Lp r (x::a)
theorem D3 (a:List Nat):Lp [] a=a:=_root_.id rfl
theorem oe (x:Nat)(r a:List Nat):Lp (x::r) a=Lp r (x::a):=_root_.id rfl
theorem yG:∀ (l a:List Nat),l.reverse++a=Lp l a
 | [],a=>rfl
 | x::r,a=>by rw[oe,← yG r (x::a)];simp
theorem AI (l:List (Nat×Blk)):aW l.reverse=Lp (aW l) []:=by
 rw[← yG,List.append_nil];simp[aW]
theorem ap (A:List (Nat×Nat×Nat×Nat)){k:Nat}{v v':AV}{bs':List Blk}{sto':List (Nat×Blk)}{next':Nat}(h:StZ (eG A k [0] ⟨[(0,v')],sto',next'⟩) ⟨[(0,v)],ca bs' 0,bs'.length⟩):Js k v bs' v' sto' next':=Wk.head h
end Go.Ab
namespace Go.Ab
open Go Go.RowKit
section
variable {P:Program}{G:Nat→List PV}
theorem CM (F:St→Prop)(s:St):Rn F .norm s=F s:=_root_.id rfl
theorem Gd (b:ACode)(Q:AExit→St→Prop)(e:List (Nat×AV))(σ:List (Nat×Blk))(n:Nat):Kh (fun m=>vc P G m b) Q ⟨e,σ,n⟩=vc P G n b Q ⟨e,σ,n⟩:=_root_.id rfl
theorem EG (e:List (Nat×AV)):EH [] [] e=e:=_root_.id rfl
theorem zm (p:Nat)(ps:List Nat)(x:PV)(xs:List PV)(e:List (Nat×AV)):EH (p::ps) (x::xs) e=EH ps xs ((p,.pv x)::e):=_root_.id rfl
def QM {ι:Type}(A:List (Nat×Nat×Nat×Nat))(S:ι→St)(Inv:Nat→ι→Prop)(i m0:Nat)(keep:List Nat)(Q:AExit→St→Prop)(e0:List (Nat×AV)):AExit→St→Prop
 | .norm,s'=>∃ x',Hd A m0 keep ⟨e0,s'.sto,s'.next⟩ (S x')∧Inv (i+1) x'
 | .exit j,s'=>Q (.exit j) ⟨e0,s'.sto,s'.next⟩
 | .ret,s'=>Q .ret ⟨e0,s'.sto,s'.next⟩
theorem CC {ι:Type}(A:List (Nat×Nat×Nat×Nat))(S:ι→St)(Inv:Nat→ι→Prop)(i m0:Nat)(keep:List Nat)(Q:AExit→St→Prop)(e0 e:List (Nat×AV))(σ:List (Nat×Blk))(n:Nat):QM A S Inv i m0 keep Q e0 .norm ⟨e,σ,n⟩ = ∃ x',Hd A m0 keep ⟨e0,σ,n⟩ (S x')∧Inv (i+1) x':=_root_.id rfl
theorem Gv {ι:Type}(A:List (Nat×Nat×Nat×Nat))(S:ι→St)(Inv:Nat→ι→Prop)(i m0:Nat)(keep:List Nat)(Q:AExit→St→Prop)(e0 e:List (Nat×AV))(σ:List (Nat×Blk))(n:Nat):QM A S Inv i m0 keep Q e0 .ret ⟨e,σ,n⟩=Q .ret ⟨e0,σ,n⟩:=_root_.id rfl
theorem Nd:∀ (lb:List PV),pvs (lb.map AV.pv)=some lb
 | []=>rfl
 | p::r=>by simp[pvs,AV.toPV,Nd r]
theorem LM {ι:Type}(A:List (Nat×Nat×Nat×Nat))(ch:ι→List (Nat×AV))(chB:ι→List (Nat×Blk))(Inv:Nat→ι→Prop)(x0:ι){gf:Nat}{lb:List PV}{xs:List (List PV)}(hs:QL P G gf lb xs)
  {m0:Nat} {f:AX} {ps keep:List Nat} {a b:ACode} {Q:AExit→St→Prop} {s:St}
  (h:∀ e0 σ0 n0,eG A m0 keep s=⟨e0,σ0,n0⟩→StZ ⟨e0,σ0,n0⟩ ⟨f9 e0 (ch x0),iA σ0 (chB x0),n0⟩∧Inv 0 x0∧dD (f.ev (fun i=>look i (f9 e0 (ch x0))))=some (gf,[],lb.map AV.pv) ∧
   (∀ i x y,xs[i]? = some y→Inv i x→y.length=ps.length∧vc P G n0 a (Rn (Kh (fun m=>vc P G m b) (QM A (fun x=>⟨f9 e0 (ch x),iA σ0 (chB x),n0⟩) Inv i m0 keep Q (f9 e0 (ch x))))) ⟨EH ps y (f9 e0 (ch x)),iA σ0 (chB x),n0⟩) ∧
   ∀ x,Inv xs.length x→Q .norm ⟨f9 e0 (ch x),iA σ0 (chB x),n0⟩):vc P G m0 (.range f ps keep a b) Q s:=by
 obtain⟨h1,h2,h3,h4,h5⟩:=h (eG A m0 keep s).env (eG A m0 keep s).sto (eG A m0 keep s).next rfl
 let S:ι→St:=fun x=>⟨f9 (eG A m0 keep s).env (ch x),iA (eG A m0 keep s).sto (chB x),(eG A m0 keep s).next⟩
 refine⟨fun i t=>∃ x,t=S x∧Inv i x,S x0,bT h1,⟨x0,rfl,h2⟩,?_⟩
 have e:dD (f.ev (S x0).E)=some (gf,[],lb.map AV.pv):=h3
 rw[e]
 refine⟨rfl,lb,xs,Nd lb,hs,?_,?_⟩
 ·rintro i y t hy ⟨x,rfl,hx⟩
  obtain⟨k1,k2⟩:=h4 i x y hy hx
  refine⟨k1,da a (fun e s hs=>?_) _ k2⟩
  cases e with
  | norm=>
    refine da b (fun e s hs=>?_) s hs
    cases e with
    | norm=>
      obtain⟨x',q1,q2⟩:=hs
      exact⟨S x',q1,x',rfl,q2⟩
    | exit j=>exact hs
    | ret=>exact hs
  | exit j=>exact hs.elim
  | ret=>exact hs.elim
 ·rintro t ⟨x,rfl,hx⟩
  exact h5 x hx
end
end Go.Ab
namespace Go.Ab
open Go
attribute [push_cast] gu mB Qr Qs Qt Qu Qv Qw Aw
 Fm vU Ay Qo Qp FS FT JQ FV JP FQ H0
 xZ uN uM uL qu uK qt DJ x4 x5
 qr DM DN IP DI DH x7
 qv qO DL DK uJ II
 IJ vd qN IS IT ow ve qM
 El y6 y5 Em qP qQ BP Cg qG EB
 Ep Ev Et Er EA Eu Ew Ex
 Ey Ez zc zb y9 za EC
 zd Eg y3 y8 Ef
 IO zU RL RK IQ zh zj
 vj sR HW uD Di Ji rr rt
 Jg rn Jh rp B4 wH wG
 pJ cZ wF B2 B0 wE B3
 rB vV y4 u9 Jp Jo uw uu vR NI
 Fj wI As Fu AH AG rD Aq vQ
 ry rz uZ nY DR ir C9 xN
 F4 IW E8 Fa E9 Fb F9 xy uA
 xw xx xu qm BG wq oE Nq
 Nr BF DS DV DU Mq Mp Mo ru oY oX
 o7 mT HQ C8 xz ws
 rK J0 o8 rA pa o9
 mU Jf Fg vM AJ vZ J1 wp BW wA BX
 wD J6 J7 Fi MW E3 CA CB Gu se sf wX
 HM LO HO JZ LL HP C7 HN LN EX Qc Qd
 D4 yI Gw Ku IB Mu Mv Mt wv yH uU EI
 M9 AP AS wb wa r4 r5 wV zu
 vl zz vw zw vn zD vz zZ I0 MO ML I1
 MN MM I2 EY Ei Ej map_drop
 vi NO Gj Km nA wl wm
 rJ QH NH Ce sZ zH zG EU sY IV
 EW EV vB vC
 NL Jn Fq AQ Ni FE FF JH
 FK FH Bb Bc JF Fc Ai Ah Fd
 Aj vJ kz ky rh oR vK Gn Cs Ko
 Kp Jy tF pO ib IH IG px nl PR Ms Ad
 vF I6 I8 I7 uV qD vI AU GU IE ID
 IC My yK yJ yN D5 oj qE yP
 uW D6 yQ E4 Gp Ct Cu Cy Ja I9 E6
 E5 Ks Gs wU Cx Gt Kr RF RE PE
 JL Bg wd EN Gf
 NN Cl F0 By Ch NJ NK
 Ck DQ ya LT Bz wj vX rC ET zE
 Ae vG Nf Jz Qk Qj Dj
 D3 oe AI Nat.zero_add Nat.add_zero List.length_cons List.length_nil List.nil_append List.cons_append List.append_nil List.append_assoc
 List.getElem?_map List.length_map List.map_nil List.map_cons List.take_succ_cons List.take_zero List.drop_succ_cons List.drop_zero List.take_nil List.drop_nil List.all_cons List.all_nil
 Bool.and_true Bool.true_and Bool.and_false Bool.false_and Bool.not_true Bool.not_false decide_true decide_false Bool.not_not Int.natCast_add Int.cast_ofNat_Int Int.toNat_natCast
 Option.some.injEq and_true true_and ge_iff_le Nat.le_refl Nat.zero_le Nat.not_lt_zero and_self
attribute [push_cast] CM Gd EG zm CC Gv
attribute [push_cast high] Int.cast_ofNat_Int
end Go.Ab
namespace Go.Ab
open Go
section
variable {P:Program}{G:Nat→List PV}
theorem NA {b:Bool}(h:b=true):Chk b:=h
theorem G0:∀ l:List PV,pvs (l.map .pv)=some l
 | []=>rfl
 | x::r=>by simp[pvs,AV.toPV,G0 r]
end
end Go.Ab
namespace Go.Ab
open Go
section
variable {α β:Type}
theorem bV {l:List α}{m:Nat}{x:α}(h:l[m]? = some x):l.drop m=x::l.drop (m+1):=by
 obtain⟨h1,h2⟩:=List.getElem?_eq_some_iff.1 h
 rw[List.drop_eq_getElem_cons h1,h2]
def Rr:Option (List UInt8)→Option AV
 | some l=>some (.pv (.str l))
 | none=>none
def Hr (n:Int):Option (List UInt8)→Option (List UInt8)
 | some l=>some (UInt8.ofNat n.toNat::l)
 | none=>none
theorem zO (l:List UInt8):Rr (some l)=some (.pv (.str l)):=_root_.id rfl
theorem ld (n:Int)(l:List UInt8):Hr n (some l)=some (UInt8.ofNat n.toNat::l):=_root_.id rfl
theorem HU:u8s []=some []:=_root_.id rfl
theorem sr (n:Int)(r:List PV):u8s (.int .u8 n::r)=Hr n (u8s r):=by
 simp only[u8s];cases u8s r<;>rfl
theorem gv:∀ l:List UInt8,u8s (l.map fun b=>PV.int .u8 (b.toNat:Int))=some l
 | []=>rfl
 | b::r=>by rw[List.map_cons,sr,gv r,ld];simp
theorem Dh (σ:aw)(r:Nat)(l:List PV):gD σ (.olist r 1 l)=Rr (u8s l):=by
 simp only[gD,bF,if_true];cases u8s l<;>rfl
end
theorem vP (G:Nat→List PV)(e:List (Nat×AV))(σ:List (Nat×Blk))(new:Nat)(x:AX):nL G e σ new (.toStr x)=fV [] (gD (fun r=>lookB r σ) (evE e x)):=by
 simp only[nL];cases gD (fun r=>lookB r σ) (evE e x)<;>rfl
theorem gx {a b:Int}(h:0≤a):a.tdiv b=a / b:=Int.tdiv_eq_ediv_of_nonneg h
theorem iX {a b:Int}(h:0≤a):a.tmod b=a % b:=Int.tmod_eq_emod_of_nonneg h
def Gb:Option UInt8→Option AV
 | some b=>some (.pv (.int .u8 (b.toNat:Int)))
 | none=>none
theorem ag (b:UInt8):Gb (some b)=some (.pv (.int .u8 (b.toNat:Int))):=_root_.id rfl
theorem iw (l:List UInt8)(k:IntKind)(i:Nat):gG (.pv (.str l)) (.pv (.int k (i:Int)))=Gb l[i]?:=by
 simp only[gG,Int.toNat_natCast]
 rw[if_pos (by omega)]
 cases l[i]? <;> rfl
theorem qJ (l:List UInt8)(k:IntKind):gG (.pv (.str l)) (.pv (.int k 0))=Gb l[0]?:=iw l k 0
theorem qK (l:List UInt8)(k:IntKind)(i:Nat):gG (.pv (.str l)) (.pv (.int k ((i:Int)+1)))=Gb l[i+1]?:=iw l k (i+1)
attribute [push_cast] ag iw qJ qK vP gx iX zO ld HU sr gv Dh
end Go.Ab
namespace Go.Ab
open Go Go.RowKit Go.Sort
theorem ct {P:Program}{G:Nat→List PV}{f:Nat}{args:List PV}{r:PV}(hc:bX P f=true)
  (h:∀ (w:World) (imm:Nat→Nat→Prop) (vals:Array Value),cE G w imm→vals.size=args.length→(∀ (i:Nat) (x:PV),args[i]? = some x→PRel w imm x (vals.getD i Go.undef)) →
   Calls P f vals w fun e w'=>∃ u,e = .returned u∧Below w.heap.size w w'∧PRel w' imm r u):aq P G f args r:=by
 refine⟨hc,fun w imm vals hG hlt hsz hargs=>(h w imm vals hG hsz hargs).mono ?_⟩
 rintro e w' ⟨u,rfl,hb,hr⟩
 exact⟨u,imm,rfl,hb,fun _ _ h=>h,fun _ _ h=>.inl h,fun b o h=>Nat.lt_of_lt_of_le (hlt b o h) hb.size,hr⟩
theorem dp {w:World}{imm:Nat→Nat→Prop}{l:List UInt8}(h:l.length≤maxLen):PRel w imm (.str l) (.string ⟨l.toArray⟩):=by
 have:=PRel.str (w:=w) (imm:=imm) ⟨l.toArray⟩ (by show l.toArray.size≤maxLen;simpa using h)
 simpa using this
theorem ik {w:World}{imm:Nat→Nat→Prop}{l:List UInt8}{v:Value}(h:PRel w imm (.str l) v):v = .string ⟨l.toArray⟩∧l.length≤maxLen:=by
 cases h with
 | str s hs=>exact⟨by simp,hs⟩
theorem xA {vals:Array Value}(h:vals.size=1):vals = #[vals.getD 0 Go.undef]:=by
 apply Array.ext
 ·simp[h]
 ·intro i h1 h2
  have:i=0:=by omega
  subst this
  simp[Array.getD_eq_getD_getElem?,h]
theorem sk {vals:Array Value}(h:vals.size=2):vals = #[vals.getD 0 Go.undef,vals.getD 1 Go.undef]:=by
 apply Array.ext
 ·simp[h]
 ·intro i h1 h2
  have:i=0∨i=1:=by omega
  rcases this with rfl | rfl<;>simp[Array.getD_eq_getD_getElem?,h]
def bl:Nat→Nat→List UInt8
 | 0,_=>[]
 | n+1,k=>if k<10 then [UInt8.ofNat (48+k)] else bl n (k / 10)++[UInt8.ofNat (48+k % 10)]
def cS (n:Int):List UInt8:=if n<0 then 45::bl 20 n.natAbs else bl 20 n.toNat
theorem fp:∀ (f k:Nat),k<10 ^ f→0<f→bl f k=Lib.decDigits k
 | 0,k,_,h=>absurd h (by simp)
 | f+1,k,hk,_=>by
   rw[bl,Lib.decDigits]
   by_cases h:k<10
   ·simp[h]
   ·rw[if_neg h,dif_neg h]
    have h10:k / 10<10 ^ f:=by
     rw[Nat.pow_succ] at hk
     exact Nat.div_lt_of_lt_mul (by rw[Nat.mul_comm];exact hk)
    rw[fp f (k / 10) h10 (by
     rcases Nat.eq_zero_or_pos f with h0 | h0
     ·subst h0
      simp at hk
      omega
     ·exact h0)]
theorem iN:∀ (f k:Nat),(bl f k).length≤f
 | 0,k=>by simp[bl]
 | f+1,k=>by
   rw[bl]
   split
   ·simp
   ·have:=iN f (k / 10)
    simp;omega
theorem tv {n:Int}(h0:-9223372036854775808≤n)(h1:n≤9223372036854775807):cS n=Lib.itoa n:=by
 have e:(10:Nat) ^ 20=100000000000000000000:=by decide
 unfold cS Lib.itoa
 split
 ·rw[fp 20 n.natAbs (by rw[e];omega) (by decide)]
 ·rw[fp 20 n.toNat (by rw[e];omega) (by decide)]
theorem gQ (n:Int):(cS n).length≤21:=by
 unfold cS
 split
 ·have:=iN 20 n.natAbs
  simp;omega
 ·have:=iN 20 n.toNat
  omega
theorem DG {P:Program}{G:Nat→List PV}{w:World}{imm:Nat→Nat→Prop}{name:String}{k:IntKind}{zs:List Int}{g:Nat}(hn:P.globalNamed name=some g)(hG:G g=zs.map (PV.int k))(hz:zs≠[])(h:cE G w imm) :
  Lib.TabIs P w name k zs:=by
 obtain⟨cs,T,fz,h1,h2⟩:=h.2 g (by rw[hG];simpa using hz)
 have hcs:cs=(zs.map fun z=>Value.int k z).toArray:=by
  rw[hG] at h2
  simp only[List.length_map] at h2
  apply Array.ext
  ·simp[h2]
  ·intro i hi hi'
   have hiz:i<zs.length:=by omega
   obtain⟨_,v,h3,_,h4⟩:=h.1 g i (.int k zs[i]) (by rw[hG];simp[hiz])
   have hv:v = .int k zs[i]:=by cases h4;rfl
   have hc:=cell_of_row w g i cs T fz h1
   rw[h3,hv] at hc
   have:=(Array.getElem?_eq_some_iff.1 hc.symm).2
   simp[this]
 unfold Lib.TabIs World.var?
 rw[hn]
 simp only[Option.bind_some,h1]
 rw[hcs]
theorem AM {P:Program}{G:Nat→List PV}{f g:Nat}{name:String}(hc:bX P f=true)(hn:P.globalNamed name=some g)(hG:G g=Lib.pow10Tab.map (PV.int .u64))
  (h:∀ (n:Int) (h0:-9223372036854775808≤n) (h1:n≤9223372036854775807) (w:World) (htab:Lib.TabIs P w name .u64 Lib.pow10Tab),
   Calls P f #[.int .i64 n] w fun e w'=>e = .returned (.string ⟨(Lib.itoa n).toArray⟩)∧∃ k os,w'=Sort.grow (w.drewN k) os)
  (n:Int) (h0:-9223372036854775808≤n) (h1:n≤9223372036854775807):aq P G f [.int .i64 n] (.str (cS n)):=by
 refine ct hc fun w imm vals hGl hsz hargs=>?_
 have hv:=xA hsz
 have h2:=hargs 0 (.int .i64 n) rfl
 have h3:vals.getD 0 Go.undef = .int .i64 n:=by
  generalize vals.getD 0 Go.undef=x at h2
  cases h2;rfl
 rw[hv,h3]
 refine (h n h0 h1 w (DG hn hG (by
  intro e
  have:=congrArg List.length e
  rw[Lib.pow10Tab_length] at this
  simp at this) hGl)).mono ?_
 rintro e w' ⟨rfl,k,os,rfl⟩
 refine⟨_,rfl,Lib.below_grow _ w (Nat.le_refl _) k os,?_⟩
 rw[tv h0 h1,← tv h0 h1]
 refine dp ?_
 have:=gQ n
 unfold maxLen;omega
def aJ (sep:List UInt8):List (List UInt8)→List UInt8
 | []=>[]
 | [x]=>x
 | x::y::r=>x++sep++aJ sep (y::r)
theorem mY (sep:List UInt8):∀ (l:List (List UInt8)),aJ sep l=Lib.join l sep
 | []=>rfl
 | [x]=>(Lib.join_one x sep).symm
 | x::y::r=>by
   rw[aJ,mY sep (y::r),Lib.join_cons,Lib.join_cons]
   simp[Lib.joinTail]
theorem AK {P:Program}{G:Nat→List PV}{f:Nat}(hc:bX P f=true)
  (h0:∀ (a:Option Addr) (c:Nat) (sep:ByteArray) (w:World),Calls P f #[.slice a 0 c,.string sep] w fun e w'=>e = .returned (.string ⟨#[]⟩)∧w'=w)
  (h:∀ (bk o c:Nat) (xs:List ByteArray) (sep:ByteArray) (w:World) (hcells:∀ (j:Nat) x,xs[j]? = some x→w.cell? ⟨bk,o+j,none⟩=some (.string x)) (hbk:bk<w.heap.size) (hN:xs.length≤140737488355328) (hcap:xs.length≤c) (hlen:(Lib.join (xs.map (·.data.toList)) sep.data.toList).length≤140737488355328),
   Calls P f #[.slice (some ⟨bk,o,none⟩) xs.length c,.string sep] w fun e w'=>e = .returned (.string ⟨(Lib.join (xs.map (·.data.toList)) sep.data.toList).toArray⟩)∧Below w.heap.size w w')
  (l:List (List UInt8)) (sep:List UInt8) (hN:l.length≤140737488355328) (hlen:(aJ sep l).length≤140737488355328):aq P G f [.list (l.map .str),.str sep] (.str (aJ sep l)):=by
 refine ct hc fun w imm vals hGl hsz hargs=>?_
 have hv:=sk hsz
 have hl:=hargs 0 (.list (l.map .str)) rfl
 obtain⟨hs,hsl⟩:=ik (hargs 1 (.str sep) rfl)
 rw[hv,hs]
 generalize vals.getD 0 Go.undef=u at hl
 generalize hL:l.map PV.str=L at hl
 cases hl with
 | lnil A c hcm=>
   have:l=[]:=by cases l with
    | nil=>rfl
    | cons x r=>simp at hL
   subst this
   refine (h0 A c _ w).mono ?_
   rintro e w' ⟨rfl,rfl⟩
   exact⟨_,rfl,Below.refl _ _,dp (by simp[aJ])⟩
 | list _ b off c sz g k1 k2 k3 k4 k5=>
   have hlen':L.length=l.length:=by rw[← hL];simp
   by_cases hne:l=[]
   ·subst hne
    simp at hL
    subst hL
    refine (h0 _ c _ w).mono ?_
    rintro e w' ⟨rfl,rfl⟩
    exact⟨_,rfl,Below.refl _ _,dp (by simp[aJ])⟩
   ·have hget:∀ (i:Nat) (s:List UInt8),l[i]? = some s→L[i]? = some (.str s):=by
     intro i s hi
     rw[← hL];simp[hi]
    have hpos:0<l.length:=List.length_pos_iff.2 hne
    have hsz1:sz=1:=(k3 0 _ (hget 0 _ (List.getElem?_eq_getElem hpos))).symm
    subst hsz1
    have hcell:∀ (i:Nat) (s:List UInt8),l[i]? = some s→w.cell? ⟨b,off+i,none⟩=some (.string ⟨s.toArray⟩):=by
     intro i s hi
     obtain⟨_,q2,_⟩:=k4 i (.str s) 0 (.str s) (hget i s hi) rfl
     have q3:=k5 i (.str s) 0 (.str s) (hget i s hi) rfl
     rw[(ik q3).1] at q2
     simpa using q2
    have hbk:b<w.heap.size:=World.block_lt_of_cell? w _ (hcell 0 _ (List.getElem?_eq_getElem hpos))
    have hmap:(l.map fun s=>(⟨s.toArray⟩:ByteArray)).map (·.data.toList)=l:=by
     rw[List.map_map]
     have:((fun (x:ByteArray)=>x.data.toList)∘fun (s:List UInt8)=>(⟨s.toArray⟩:ByteArray))=id:=by funext s;simp
     rw[this,List.map_id]
    have:=h b off c (l.map fun s=>⟨s.toArray⟩) ⟨sep.toArray⟩ w (fun j x hx=>by
     simp only[List.getElem?_map,Option.map_eq_some_iff] at hx
     obtain⟨s,hs,rfl⟩:=hx
     exact hcell j s hs) hbk (by simpa using hN) (by simp;omega) (by
     rw[hmap]
     rw[mY] at hlen
     simpa using hlen)
    rw[hmap] at this
    simp only[List.length_map] at this
    rw[hlen']
    refine this.mono ?_
    rintro e w' ⟨rfl,hb⟩
    refine⟨_,rfl,hb,?_⟩
    have e:Lib.join l (⟨sep.toArray⟩:ByteArray).data.toList=aJ sep l:=by rw[mY]
    rw[e]
    exact dp (by unfold maxLen;omega)
theorem pH {P:Program}{G:Nat→List PV}{f:Nat}(hc:bX P f=true)
  (h:∀ (a b:ByteArray) (w:World),Calls P f #[.string a,.string b] w fun e w'=>e = .returned (.int .i64 (Lib.compareBytes a.data.toList b.data.toList))∧w'=w) (a b:List UInt8) :
  aq P G f [.str a,.str b] (.int .i64 (Lib.compareBytes a b)):=by
 refine ct hc fun w imm vals hGl hsz hargs=>?_
 have hv:=sk hsz
 obtain⟨ha,_⟩:=ik (hargs 0 (.str a) rfl)
 obtain⟨hb,_⟩:=ik (hargs 1 (.str b) rfl)
 rw[hv,ha,hb]
 refine (h _ _ w).mono ?_
 rintro e w' ⟨rfl,rfl⟩
 refine⟨_,rfl,Below.refl _ _,?_⟩
 simpa using PRel.int (w:=w') (imm:=imm) .i64 (Lib.compareBytes a b)
end Go.Ab
namespace Go.Ab
open Go
def decP (l:List UInt8):Nat×Nat:=
 if l=[] then (0,0) else if Lib.decodeL l=(65533,1) then (0,0) else Lib.decodeL l
theorem take_2 {l:List UInt8}{a b:UInt8}(h0:l[0]? = some a)(h1:l[1]? = some b):l.take 2=[a,b]:=by
 rw[bh h1,bh h0];rfl
theorem take_3 {l:List UInt8}{a b c:UInt8}(h0:l[0]? = some a)(h1:l[1]? = some b)(h2:l[2]? = some c):l.take 3=[a,b,c]:=by
 rw[bh h2,take_2 h0 h1];rfl
end Go.Ab
namespace Go.Ab
open Go
section
variable {P:Program}{G:Nat→List PV}
end
theorem Gi {e sz by_ new:Nat}{σ:aw}{y:PV}{r:List PV}(h1:r.length+1≤9223372036854775807)(h2:(r.length+1)*by_≤140737488355328):jh true e sz by_ new σ (.pv .nils) (some (y::r))=some (.row new sz 0 (r.length+1),[(new,.cells e false (bE (y::r)))]):=by
 simp only[jh];rw[if_pos (ir (by omega) (by simpa using h2))]
section
variable (e:List (Nat×AV))(σ:List (Nat×Blk))(new:Nat)
theorem M0 (G:Nat→List PV)(o:XOp):nL G e σ new (.xop o)=js e σ new o:=_root_.id rfl
theorem Fk (o:XOp):gL e (.xop o)=nQ e o:=_root_.id rfl
end
attribute [push_cast] Gi M0 Fk
end Go.Ab
namespace Go.Ab
open Go
section
variable {e:List (Nat×AV)}{σ:List (Nat×Blk)}{new:Nat}
theorem aM (l:List UInt8):(aA l).length=l.length:=by simp[aA]
theorem me (l:List UInt8):bE (aA l)=(aA l).map .pv:=by
 unfold bE
 congr 1
 induction l with
 | nil=>rfl
 | cons b r ih=>simp only[aA,List.map_cons,List.flatMap_cons,PV.cells] at ih ⊢;rw[ih];rfl
theorem ia (l k:List UInt8):aA (l++k)=aA l++aA k:=by simp[aA]
theorem up (x:AX):js e σ new (.noesc x)=some (evE e x,[]):=_root_.id rfl
theorem uj (u n:Nat)(b:Bool)(x:AX):js e σ new (.ucast u n b x)=fV [] (fh u n b (fun r=>lookB r σ) (evE e x)):=by
 simp only[js,fV];cases fh u n b (fun r=>lookB r σ) (evE e x)<;>rfl
def sn (u n:Nat)(back:Bool)(r o:Nat):Blk→Option AV
 | .cells T f l=>match back with
   | false=>if o<l.length then some (.ptr r o) else none
   | true=>if T=u∧o=0∧f=true∧l.length=n then some (.ptr r o) else none
 | _=>none
theorem uY (u n:Nat)(b:Bool)(τ:aw)(r o:Nat):fh u n b τ (.ptr r o)=sn u n b r o (τ r):=by
 simp only[fh,sn];cases τ r<;>rfl
theorem Db {u n r o T:Nat}{f:Bool}{l:List AV}(h:Chk (decide (o<l.length))):sn u n false r o (.cells T f l)=some (.ptr r o):=if_pos (of_decide_eq_true h)
theorem Da {u n r:Nat}{l:List AV}(h:Chk (decide (l.length=n))):sn u n true r 0 (.cells u true l)=some (.ptr r 0):=if_pos ⟨rfl,rfl,rfl,of_decide_eq_true h⟩
theorem CX (ng:Bool)(x y:AX):js e σ new (.peq ng x y)=fV [] (IK ng (evE e x) (evE e y)):=by
 simp only[js,fV];cases IK ng (evE e x) (evE e y)<;>rfl
theorem Ee (ng:Bool)(r o:Nat):IK ng (.ptr r o) (.ptr r o)=some (.pv (.bool (!ng))):=if_pos ⟨rfl,rfl⟩
theorem nO (x y:AX):js e σ new (.idxb x y)=fV [] (qL (evE e x) (evE e y)):=by
 simp only[js,fV];cases qL (evE e x) (evE e y)<;>rfl
theorem ov (s:List UInt8)(c:Int):qL (.pv (.str s)) (.pv (.int .u8 c))=some (.pv (.int .i64 (e9 c.toNat.toUInt8 s 0))):=_root_.id rfl
theorem xo (t by_:Nat)(x y:AX):js e σ new (.apps t by_ x y)=lx t by_ new (fun r=>lookB r σ) (evE e x) (evE e y):=_root_.id rfl
theorem vh (t by_:Nat)(τ:aw):lx t by_ new τ (.pv .nils) (.pv (.str []))=some (.pv .nils,[]):=_root_.id rfl
theorem vg {t:Nat}{τ:aw}{c:UInt8}{k:List UInt8}(h:k.length+1≤140737488355328):lx t 1 new τ (.pv .nils) (.pv (.str (c::k)))=some (.row new 1 0 (k.length+1),[(new,.cells t false ((aA (c::k)).map .pv))]):=by
 have h1:aA (c::k) = .int .u8 (c.toNat:Int)::aA k:=_root_.id rfl
 have h2:=ir (n:=0) (m:=(aA k).length+1) (by_:=1) (by rw[aM];omega) (by rw[aM];omega)
 simp only[lx,Hx,h1]
 rw[if_pos h2,← h1,me,aM]
def Gh (t by_ new q s off len:Nat)(k:List UInt8):Blk→Option (AV×List (Nat×Blk))
 | .cells e' _ l=>if e'=t∧s=1∧off=0∧len*1≤l.length∧mL len (aA k).length by_=true then some (.row new 1 0 (len+(aA k).length),[(q,.none),(new,.cells t false (l.take (len*1)++bE (aA k)))]) else none
 | _=>none
theorem zf (t by_:Nat)(τ:aw)(q s off len:Nat)(k:List UInt8):lx t by_ new τ (.row q s off len) (.pv (.str k))=Gh t by_ new q s off len k (τ q):=by
 simp only[lx,Hx,Gh]
 cases τ q<;>rfl
theorem Gg {t q len:Nat}{f:Bool}{l k:List UInt8}(hl:len=l.length)(h:l.length+k.length≤140737488355328) :
  Gh t 1 new q 1 0 len k (.cells t f ((aA l).map .pv))=some (.row new 1 0 (l.length+k.length),[(q,.none),(new,.cells t false ((aA (l++k)).map .pv))]):=by
 subst hl
 have h2:=ir (n:=l.length) (m:=(aA k).length) (by_:=1) (by rw[aM];omega) (by rw[aM];omega)
 simp only[Gh]
 rw[if_pos ⟨trivial,trivial,trivial,by simp[aM],h2⟩,aM,me,ia,List.map_append,List.take_of_length_le (by simp[aM])]
theorem Be (k:IntKind)(n:Int):bE [PV.int k n]=[.pv (.int k n)]:=_root_.id rfl
theorem wP {t new q len:Nat}{f:Bool}{l:List UInt8}{c:UInt8}(hl:len=l.length)(h:l.length+1≤140737488355328) :
  wQ t 1 1 new q 1 0 len [.int .u8 (c.toNat:Int)] (.cells t f ((aA l).map .pv))=some (.row new 1 0 (l.length+1),[(q,.none),(new,.cells t false ((aA (l++[c])).map .pv))]):=by
 subst hl
 rw[nA (by simp[aM]) (by simp;omega) (by simpa using h),List.take_of_length_le (by simp[aM]),ia,List.map_append]
 rfl
theorem un (x:AX):js e σ new (.sdata x)=fV [] (gF (evE e x)):=by
 simp only[js,fV];cases gF (evE e x)<;>rfl
theorem u7:gF (.pv .nils)=some (.pv .nilp):=_root_.id rfl
theorem u6 (r s off n:Nat):gF (.row r s off (n+1))=some (.ptr r off):=by rw[gF];exact if_pos (Nat.succ_pos n)
theorem xi (t:Nat)(x k:AX):js e σ new (.ustr t x k)=ot t (fun r=>lookB r σ) (evE e x) (evE e k):=_root_.id rfl
theorem yW (t:Nat)(τ:aw):ot t τ (.pv .nilp) (.pv (.int .i64 0))=some (.pv (.str []),[]):=_root_.id rfl
theorem yU (t:Nat)(τ:aw)(r o:Nat)(k:Int):ot t τ (.ptr r o) (.pv (.int .i64 k))=qo t r o k (τ r):=_root_.id rfl
theorem nT:∀ l:List UInt8,u8x (aA l)=some l
 | []=>rfl
 | b::r=>by
   have ih:=nT r
   have h:aA (b::r) = .int .u8 (b.toNat:Int)::aA r:=_root_.id rfl
   have hb:=b.toNat_lt
   rw[h,u8x,if_pos ⟨by omega,by omega⟩,ih]
   simp
theorem sm {t r:Nat}{k:Int}{f:Bool}{l:List UInt8}(hk:k=(l.length:Int))(h0:0<l.length)(h1:l.length≤140737488355328):qo t r 0 k (.cells t f ((aA l).map .pv))=some (.pv (.str l),[(r,.bts t l)]):=by
 subst hk
 simp only[qo,Int.toNat_natCast]
 rw[if_pos ⟨trivial,trivial,by omega,by simp[aM],by omega⟩,List.take_of_length_le (by simp[aM]),G0,Option.bind_some,nT]
 rfl
theorem vL (t:Nat)(l:List UInt8):(Blk.bts t l).names=[]:=_root_.id rfl
theorem D7 (f:Nat→Option Nat)(t:Nat)(l:List UInt8):(Blk.bts t l).ren f = .bts t l:=_root_.id rfl
theorem xD {t r:Nat}{k:Int}{l:List UInt8}(hk:k=(l.length:Int))(h0:0<l.length)(h1:l.length≤140737488355328):qo t r 0 k (.bts t l)=some (.pv (.str l),[(r,.bts t l)]):=by
 subst hk
 simp only[qo]
 rw[if_pos ⟨trivial,trivial,by omega,trivial,by omega⟩]
theorem nP (x:AX):nQ e (.sdata x)=[]:=_root_.id rfl
theorem oZ (x:AX):dt (.xop (.sdata x))=0:=_root_.id rfl
end
section
variable {P:Program}{G:Nat→List PV}
def ue {ι κ:Type}(S:ι→St)(Inv:ι→Prop)(μ:ι→Nat)(x:ι)(m0:Nat)(keep:List Nat)(id:Nat)(keepX:List Nat)(SX:κ→St)(fin:κ→Prop)(Q:AExit→St→Prop):AExit→St→Prop
 | .norm,s'=>∃ x',Hd [] m0 keep s' (S x')∧Inv x'∧μ x'<μ x
 | .exit i,s'=>if i=id then ∃ y,Hd [] m0 keepX s' (SX y)∧fin y else Q (.exit i) s'
 | .ret,s'=>Q .ret s'
theorem rY {ι κ:Type}(S:ι→St)(Inv:ι→Prop)(μ:ι→Nat)(x:ι)(m0:Nat)(keep:List Nat)(id:Nat)(keepX:List Nat)(SX:κ→St)(fin:κ→Prop)(Q:AExit→St→Prop)(s:St):ue S Inv μ x m0 keep id keepX SX fin Q .norm s = ∃ x',Hd [] m0 keep s (S x')∧Inv x'∧μ x'<μ x:=_root_.id rfl
theorem rZ {ι κ:Type}(S:ι→St)(Inv:ι→Prop)(μ:ι→Nat)(x:ι)(m0:Nat)(keep:List Nat)(id:Nat)(keepX:List Nat)(SX:κ→St)(fin:κ→Prop)(Q:AExit→St→Prop)(i:Nat)(s:St):ue S Inv μ x m0 keep id keepX SX fin Q (.exit i) s=if i=id then (∃ y,Hd [] m0 keepX s (SX y)∧fin y) else Q (.exit i) s:=_root_.id rfl
theorem C0 {ι κ:Type}(S:ι→St)(Inv:ι→Prop)(μ:ι→Nat)(x0:ι)(keepX:List Nat)(SX:κ→St)(fin:κ→Prop){m0 id:Nat}{keep:List Nat}{b:ACode}{F:St→Prop}{Q:AExit→St→Prop}{s:St}
  (h1:Hd [] m0 keep s (S x0)) (h2:Inv x0) (h3:∀ x,Inv x→vc P G m0 b (ue S Inv μ x m0 keep id keepX SX fin Q) (S x)) (h4:∀ y,fin y→F (SX y)):vc P G m0 (.loop keep b) (fU id (Hy F Q)) s:=by
 refine⟨fun n s'=>∃ x,s'=S x∧Inv x∧μ x=n,⟨μ x0,_,h1,x0,rfl,h2,rfl⟩,?_⟩
 rintro n s' ⟨x,rfl,hx,rfl⟩
 refine da b (fun e s' hs=>?_) _ (h3 x hx)
 cases e with
 | norm=>
   obtain⟨x',k1,k2,k3⟩:=hs
   exact⟨_,_,k3,k1,x',rfl,k2,rfl⟩
 | exit i=>
   simp only[ue] at hs
   split at hs
   ·rename_i hi
    obtain⟨y,k1,k2⟩:=hs
    refine⟨_,k1,?_⟩
    simp only[fU,if_pos hi,Hy]
    exact h4 y k2
   ·rename_i hi
    refine⟨s',Wk.of (Wx.refl s') m0,?_⟩
    simp only[fU,if_neg hi,Hy]
    exact hs
 | ret=>exact hs
end
attribute [push_cast] rY rZ Be up uj uY Db Da CX Ee nO ov
 vL D7
 xo vh vg zf un u7 u6 xi yW yU nP
 oZ
end Go.Ab
namespace Go.Ab
open Go Go.RowKit
def cx (P:Program)(t:TypeId):Bool:=
 match P.underlying t with
 | some (.struct _) | some (.array _ _)=>true
 | _=>false
def eW (g:Bool)(cs:List PV):PV:=
 match g with
 | true=>.agg cs
 | false=>cs.headD .undef
def JM (P:Program)(f:Field)(cs:List PV):PV:=eW (cx P f.type) ((cs.drop f.offset).take (P.cellsOf f.type))
inductive HasT (P:Program):TypeId→PV→Prop
 | bool (t:TypeId) (b:Bool):P.underlying t=some .bool→HasT P t (.bool b)
 | int (t:TypeId) (k:IntKind) (n:Int):P.underlying t=some (.int k)→(Lit.int k n).wf=true→HasT P t (.int k n)
 | str (t:TypeId) (s:List UInt8):P.underlying t=some .string→s.length≤140737488351232→HasT P t (.str s)
 | list (t e:TypeId) (l:List PV):P.underlying t=some (.slice e)→l.length≤maxLen→l.length*P.bytesOf e≤140737488351232→(∀ (i:Nat) (x:PV),l[i]? = some x→HasT P e x)→HasT P t (.list l)
 | arr (t e:TypeId) (n:Nat) (cs:List PV):P.underlying t=some (.array n e)→cs.length=P.cellsOf t→(∀ i,i<n→HasT P e (eW (cx P e) ((cs.drop (i*P.cellsOf e)).take (P.cellsOf e))))→HasT P t (.agg cs)
 | agg (t:TypeId) (fs:Array Field) (cs:List PV):P.underlying t=some (.struct fs)→cs.length=P.cellsOf t→(∀ (i:Nat) (f:Field),fs.toList[i]? = some f→HasT P f.type (JM P f cs))→HasT P t (.agg cs)
def xg (w:World)(imm:Nat→Nat→Prop)(p:PV)(cs:List Value):Prop:=
 p.cells.length=cs.length∧∀ (i:Nat) (x:PV),p.cells[i]? = some x→PRel w imm x (cs.getD i Go.undef)∧(cs.getD i Go.undef).oneCell'=true
def w9 (P:Program):List Field→Nat→Option Nat
 | [],o=>some o
 | f::r,o=>if f.offset=o then w9 P r (o+P.cellsOf f.type) else none
def G2 (P:Program)(ts:List TypeId)(t:TypeId):Bool:=
 match P.underlying t with
 | some .bool | some (.int _) | some .string=>true
 | some (.slice e)=>ts.contains e&&decide (0<P.cellsOf e)
 | some (.struct fs)=>(match w9 P fs.toList 0 with
   | some n=>decide (n=P.cellsOf t)
   | none=>false)&&fs.toList.all fun f=>ts.contains f.type
 | some (.array n e)=>ts.contains e&&decide (n*P.cellsOf e=P.cellsOf t)
 | _=>false
def Pd (P:Program)(ts:List TypeId):Bool:=ts.all fun t=>G2 P ts t
theorem HasT.cell {P:Program}{t:TypeId}{p:PV}(h:HasT P t p):eW (cx P t) p.cells=p:=by
 cases h with
 | bool _ h=>simp[cx,‹P.underlying t=_›,eW,PV.cells]
 | int _ _ h _=>simp[cx,‹P.underlying t=_›,eW,PV.cells]
 | str _ h _=>simp[cx,‹P.underlying t=_›,eW,PV.cells]
 | list _ _ h _ _ _=>simp[cx,‹P.underlying t=_›,eW,PV.cells]
 | arr _ _ _ h _ _=>simp[cx,‹P.underlying t=_›,eW,PV.cells]
 | agg _ _ h _ _=>simp[cx,‹P.underlying t=_›,eW,PV.cells]
theorem AE {P:Program}:∀ (fs:List Field) (o n:Nat),w9 P fs o=some n→o≤n∧∀ f∈fs,o≤f.offset
 | [],o,n,h=>by simp only[w9,Option.some.injEq] at h;subst h;simp
 | f::r,o,n,h=>by
   simp only[w9] at h
   split at h
   ·rename_i ho
    obtain⟨h1,h2⟩:=AE r _ n h
    refine⟨by omega,fun g hg=>?_⟩
    rcases List.mem_cons.1 hg with rfl | hg
    ·omega
    ·have:=h2 g hg;omega
   ·cases h
section
variable {H:Type}{enc:TypeId×Value→H}{P:Program}{w:World}{spare:Nat→Bool}{held:Bool}{ts:List TypeId}{imm:Nat→Nat→Prop}
theorem gA {p:PV}{v:Value}(hc:p.cells=[p])(h:PRel w imm p v)(h1:v.oneCell'=true):xg w imm p [v]:=by
 refine⟨by rw[hc];rfl,fun i x hx=>?_⟩
 rw[hc] at hx
 cases i with
 | zero=>simp only[List.getElem?_cons_zero,Option.some.injEq] at hx;subst hx;exact⟨h,h1⟩
 | succ i=>simp at hx
theorem iL {F:Field→Option (DataW H×List MemPlace)}{cs:List Value}{n:Nat}(hcs:cs.length=n)
  (hF:∀ f x,F f=some x→(x.1.weights P f.type).all (·≤reachBytes)=true→f.type∈ts→∃ p,HasT P f.type p∧xg w imm p ((cs.drop f.offset).take (P.cellsOf f.type))):∀ (fs:List Field) (o:Nat) (xs:List (DataW H×List MemPlace)),w9 P fs o=some n→(∀ f∈fs,f.type∈ts)→fs.mapM F=some xs→(DataW.weightsEach P (fs.map (·.type)) (xs.map (·.1))).all (·≤reachBytes)=true →
  ∃ ps:List PV,ps.length=n - o∧(∀ (i:Nat) (x:PV),ps[i]? = some x→PRel w imm x (cs.getD (o+i) Go.undef)∧(cs.getD (o+i) Go.undef).oneCell'=true) ∧
    ∀ f∈fs,HasT P f.type (eW (cx P f.type) ((ps.drop (f.offset - o)).take (P.cellsOf f.type)))
 | [],o,xs,hl,_,_,_=>by
   simp only[w9,Option.some.injEq] at hl
   subst hl
   exact⟨[],by simp,by simp,by simp⟩
 | f::r,o,xs,hl,ht,hm,hz=>by
   simp only[w9] at hl
   split at hl
   ·rename_i ho
    simp only[List.mapM_cons,Option.bind_eq_bind,Option.bind_eq_some_iff,Option.pure_def,Option.some.injEq] at hm
    obtain⟨x,hx,xs',hxs,rfl⟩:=hm
    simp only[List.map_cons,DataW.weightsEach,List.all_append,Bool.and_eq_true] at hz
    obtain⟨p,hp,hr1,hr2⟩:=hF f x hx hz.1 (ht f (by simp))
    obtain⟨q1,q2⟩:=AE r _ n hl
    obtain⟨ps,h1,h2,h3⟩:=iL hcs hF r _ xs' hl (fun g hg=>ht g (by simp[hg])) hxs hz.2
    have hpl:p.cells.length=P.cellsOf f.type:=by rw[hr1];simp;omega
    refine⟨p.cells++ps,by simp only[List.length_append];omega,fun i x hx=>?_,fun g hg=>?_⟩
    ·by_cases hi:i<p.cells.length
     ·rw[List.getElem?_append_left hi] at hx
      have:=hr2 i x hx
      have e:((cs.drop f.offset).take (P.cellsOf f.type)).getD i Go.undef=cs.getD (o+i) Go.undef:=by
       simp only[List.getD_eq_getElem?_getD,List.getElem?_take,List.getElem?_drop]
       rw[if_pos (by omega),ho]
      rw[e] at this;exact this
     ·rw[List.getElem?_append_right (by omega)] at hx
      have:=h2 _ x hx
      have e:o+P.cellsOf f.type+(i - p.cells.length)=o+i:=by omega
      rw[e] at this;exact this
    ·rcases List.mem_cons.1 hg with rfl | hg'
     ·have e:((p.cells++ps).drop (g.offset - o)).take (P.cellsOf g.type)=p.cells:=by
       rw[ho,Nat.sub_self,List.drop_zero,← hpl,List.take_left]
      rw[e,hp.cell];exact hp
     ·have:=q2 g hg'
      have e:(p.cells++ps).drop (g.offset - o)=ps.drop (g.offset - (o+P.cellsOf f.type)):=by
       rw[List.drop_append,List.drop_eq_nil_of_le (by omega),List.nil_append]
       congr 1;omega
      rw[e];exact h3 g hg'
   ·cases hl
theorem fA {t:TypeId}{p:PV}{v:Value}(hp:HasT P t p)(h:xg w imm p v.cells.toList)(ha:cx P t=true→∃ cs,v = .agg cs)(ha':cx P t=false→v.cells = #[v]):PRel w imm p v:=by
 have hc:=hp.cell
 cases hg:cx P t with
 | false=>
   rw[hg] at hc
   rw[ha' hg] at h
   obtain⟨h1,h2⟩:=h
   have:p.cells=[p]:=by
    have hl:p.cells.length=1:=by rw[h1];simp
    obtain⟨q,hq⟩:=List.length_eq_one_iff.1 hl
    rw[hq] at hc ⊢
    simp only[eW,List.headD_cons] at hc
    rw[hc]
   have:=(h2 0 p (by rw[this];rfl)).1
   simpa using this
 | true=>
   rw[hg] at hc
   obtain⟨cs,rfl⟩:=ha hg
   obtain⟨h1,h2⟩:=h
   simp only[eW] at hc
   rw[← hc]
   refine .agg _ _ (by simpa[Value.cells] using h1.symm) fun i x hx=>?_
   rw[aC]
   exact (h2 i x hx).1
theorem jD {α β:Type}{f:α→Option β}:∀ {l:List α} {r:List β},l.mapM f=some r→r.length=l.length
 | [],r,h=>by simp at h;subst h;rfl
 | x::l,r,h=>by
   simp only[List.mapM_cons,Option.bind_eq_bind,Option.bind_eq_some_iff,Option.pure_def,Option.some.injEq] at h
   obtain⟨b,hb,r',hr',rfl⟩:=h
   simp[jD hr']
theorem F8 {w:World}{a:Addr}{n:Nat}{v:Value}(h:w.cell? (a.add n)=some v):w.cell? ⟨a.block,a.off+n,none⟩=some v:=by
 obtain⟨b,off,spot⟩:=a
 unfold Addr.add at h
 by_cases hn:n=0
 ·subst hn
  rw[if_pos rfl] at h
  have:=World.cell?_spot h
  simp only at this
  subst this
  exact h
 ·rw[if_neg hn] at h;exact h
theorem Cr (a:Addr)(n:Nat):(a.add n).block=a.block:=by unfold Addr.add;split<;>rfl
theorem Kn (a:Addr)(n:Nat):(a.add n).off=a.off+n:=by unfold Addr.add;split<;>simp_all
theorem tV {w:World}{a:Addr}{n:Nat}{cs:List Value}(h:w.cells? 0 a n=some cs):cs.length=n∧∀ (j:Nat) (v:Value),cs[j]? = some v→w.cell? (a.add j)=some v:=by
 unfold World.cells? at h
 rw[if_pos (Nat.zero_le _)] at h
 have hl:=jD h
 simp only[List.length_range] at hl
 refine⟨hl,fun j v hv=>?_⟩
 have hj:j<n:=by rw[← hl];exact (List.getElem?_eq_some_iff.1 hv).1
 obtain⟨b,hb,hf⟩:=Lib.mapM_at h j j (by simp[hj])
 rw[hv] at hb;cases hb
 exact hf
theorem jQ {e:TypeId}:∀ {l:List (DataW H)},(DataW.weightsAll P e l).all (·≤reachBytes)=true→∀ d∈l,(d.weights P e).all (·≤reachBytes)=true
 | [],_,d,hd=>by cases hd
 | x::r,h,d,hd=>by
   simp only[DataW.weightsAll,List.all_append,Bool.and_eq_true] at h
   rcases List.mem_cons.1 hd with rfl | hd
   ·exact h.1
   ·exact jQ h.2 d hd
theorem yl {t e:TypeId}{a:Addr}{len cap:Nat}{R:List Value→Option (DataW H×List MemPlace)}{d:DataW H}{ps:List MemPlace}(hu:P.underlying t=some (.slice e))(hpos:0<P.cellsOf e)
  (hz:(d.weights P t).all (·≤reachBytes)=true) (ih:∀ cs d ps,R cs=some (d,ps)→(d.weights P e).all (·≤reachBytes)=true→∃ p,HasT P e p∧xg w imm p cs) (himm:∀ b o,b<w.heap.size→imm b o)
  (h:(if 0≤a.block∧len≤cap∧cap≤maxLen then
   (List.mapM (fun i=>(w.cells? 0 (a.add (i*P.cellsOf e)) (P.cellsOf e)).bind R) (List.range len)).bind fun elems=>
    Option.map (fun rest=>(DataW.slice (List.map (fun x=>x.fst) elems) (List.map (fun x=>x.fst) rest),MemPlace.row a ((elems.length+rest.length)*P.cellsOf e)++List.flatMap (fun x=>x.snd) (elems++rest)))
     (if spare a.block=true then List.mapM (fun j=>(w.cells? 0 (a.add ((len+j)*P.cellsOf e)) (P.cellsOf e)).bind R) (List.range (cap - len)) else some [])
   else none)=some (d,ps)):∃ p,HasT P t p∧xg w imm p [.slice (some a) len cap]:=by
 split at h
 ·rename_i hh
  obtain⟨_,hlc,hcm⟩:=hh
  simp only[Option.bind_eq_some_iff] at h
  obtain⟨elems,he,hrest⟩:=h
  simp only[Option.map_eq_some_iff,Prod.mk.injEq] at hrest
  obtain⟨rest,_,rfl,_⟩:=hrest
  simp only[DataW.weights,hu,List.all_cons,List.all_append,Bool.and_eq_true,decide_eq_true_eq,List.length_map] at hz
  obtain⟨hz1,hz2,_⟩:=hz
  have hel:elems.length=len:=by rw[jD he];simp
  have hzl:len*P.bytesOf e≤140737488351232:=by
   have h1:elems.length*P.bytesOf e≤(elems.length+rest.length)*P.bytesOf e:=Nat.mul_le_mul_right _ (by omega)
   have h2:(elems.length+rest.length)*P.bytesOf e≤140737488351232:=hz1
   exact Nat.le_trans (by rw[← hel];exact h1) h2
  have hat:∀ i,i<len→∃ cs,w.cells? 0 (a.add (i*P.cellsOf e)) (P.cellsOf e)=some cs∧∃ p,HasT P e p∧xg w imm p cs:=by
   intro i hi
   obtain⟨b,hb,hf⟩:=Lib.mapM_at he i i (by simp[hi])
   simp only[Option.bind_eq_some_iff] at hf
   obtain⟨cs,h1,h2⟩:=hf
   obtain⟨p,h3,h4⟩:=ih cs b.1 b.2 h2 (jQ hz2 b.1 (List.mem_map.2 ⟨b,List.mem_of_getElem? hb,rfl⟩))
   exact⟨cs,h1,p,h3,h4⟩
  have hex:∃ l:List PV,l.length=len∧∀ (i:Nat) (x:PV),l[i]? = some x→HasT P e x∧∃ cs,w.cells? 0 (a.add (i*P.cellsOf e)) (P.cellsOf e)=some cs∧xg w imm x cs:=by
   refine⟨(List.range len).map fun i=>if h:i<len then (hat i h).choose_spec.2.choose else .undef,by simp,fun i x hx=>?_⟩
   simp only[List.getElem?_map,Option.map_eq_some_iff] at hx
   obtain⟨j,hj,rfl⟩:=hx
   obtain⟨hlt,hji⟩:=List.getElem?_eq_some_iff.1 hj
   simp at hlt hji
   subst hji
   rw[dif_pos hlt]
   exact⟨(hat i hlt).choose_spec.2.choose_spec.1,_,(hat i hlt).choose_spec.1,(hat i hlt).choose_spec.2.choose_spec.2⟩
  obtain⟨l,hl,hle⟩:=hex
  refine⟨.list l,.list _ _ _ hu (by omega) (by rw[hl];exact hzl) (fun i x hx=>(hle i x hx).1),gA rfl ?_ rfl⟩
  by_cases h0:len=0
  ·have:l=[]:=List.eq_nil_of_length_eq_zero (by omega)
   subst this
   rw[h0]
   exact .lnil _ _ hcm
  ·have hcell:∀ (i:Nat) (x:PV) (j:Nat) (y:PV),l[i]? = some x→x.cells[j]? = some y→∃ v,w.cell? ((a.add (i*P.cellsOf e)).add j)=some v∧w.cell? ⟨a.block,a.off+i*P.cellsOf e+j,none⟩=some v∧PRel w imm y v∧v.oneCell'=true:=by
    intro i x j y hx hy
    obtain⟨_,cs,h1,h2,h3⟩:=hle i x hx
    obtain⟨k1,k2⟩:=tV h1
    have hj:j<cs.length:=by rw[← h2];exact (List.getElem?_eq_some_iff.1 hy).1
    have h4:=h3 j y hy
    have h5:=k2 j _ (List.getElem?_eq_getElem hj)
    refine⟨cs[j],h5,?_,?_⟩
    ·have:=F8 h5
     rw[Cr,Kn] at this;exact this
    ·simpa[List.getD_eq_getElem?_getD,hj] using h4
   have hlen:∀ (i:Nat) (x:PV),l[i]? = some x→x.cells.length=P.cellsOf e:=by
    intro i x hx
    obtain⟨_,cs,h1,h2,_⟩:=hle i x hx
    rw[h2,(tV h1).1]
   obtain⟨b,off,spot⟩:=a
   have hspot:spot=none:=by
    have hx:=List.getElem?_eq_getElem (show 0<l.length by omega)
    have hy:=List.getElem?_eq_getElem (show 0<(l[0]'(by omega)).cells.length by rw[hlen 0 _ hx];exact hpos)
    obtain⟨v,hv,_⟩:=hcell 0 _ 0 _ hx hy
    have:=World.cell?_spot hv
    simpa[Addr.add] using this
   subst hspot
   have:=PRel.list (w:=w) (imm:=imm) l b off cap (P.cellsOf e) (fun i j=>(w.cell? ⟨b,off+i*P.cellsOf e+j,none⟩).getD Go.undef) (by omega) hcm hlen (fun i x j y hx hy=>by
     obtain⟨v,_,hv,_,h1⟩:=hcell i x j y hx hy
     have hv':w.cell? ⟨b,off+i*P.cellsOf e+j,none⟩=some v:=hv
     have hb:=World.block_lt_of_cell? w _ hv'
     exact⟨himm _ _ hb,by rw[hv'];rfl,by rw[hv'];exact h1⟩) (fun i x j y hx hy=>by
     obtain⟨v,_,hv,h1,_⟩:=hcell i x j y hx hy
     have hv':w.cell? ⟨b,off+i*P.cellsOf e+j,none⟩=some v:=hv
     rw[hv'];exact h1)
   rw[hl] at this
   exact this
 ·cases h
theorem uO {t:TypeId}{fs:Array Field}{cs:List Value}{R:TypeId→List Value→Option (DataW H×List MemPlace)}{d:DataW H}{ps:List MemPlace}(hu:P.underlying t=some (.struct fs))
  (hstep:((match w9 P fs.toList 0 with
   | some n=>decide (n=P.cellsOf t)
   | none=>false)&&fs.toList.all fun f=>ts.contains f.type)=true)
  (hz:(d.weights P t).all (·≤reachBytes)=true) (ih:∀ t cs d ps,t∈ts→R t cs=some (d,ps)→(d.weights P t).all (·≤reachBytes)=true→∃ p,HasT P t p∧xg w imm p cs)
  (h:(if cs.length=P.cellsOf t then Option.map (fun xs=>(DataW.agg (List.map (fun x=>x.fst) xs),List.flatMap (fun x=>x.snd) xs)) (List.mapM (fun f=>R f.type (List.take (P.cellsOf f.type) (List.drop f.offset cs))) fs.toList) else none)=some (d,ps)) :
  ∃ p,HasT P t p∧xg w imm p cs:=by
 split at h
 ·rename_i hcs
  simp only[Option.map_eq_some_iff,Prod.mk.injEq] at h
  obtain⟨xs,hxs,rfl,_⟩:=h
  simp only[DataW.weights,hu] at hz
  simp only[Bool.and_eq_true] at hstep
  obtain⟨h1,h2⟩:=hstep
  split at h1
  ·rename_i n hn
   simp only[decide_eq_true_eq] at h1
   subst h1
   obtain⟨qs,k1,k2,k3⟩:=iL (w:=w) (imm:=imm) (P:=P) (ts:=ts) (H:=H) hcs (F:=fun f=>R f.type (List.take (P.cellsOf f.type) (List.drop f.offset cs))) (fun f x hx hz hf=>ih f.type _ x.1 x.2 hf hx hz) fs.toList 0 xs hn (fun f hf=>by simpa using (List.all_eq_true.1 h2) f hf) hxs hz
   refine⟨.agg qs,.agg _ fs _ hu (by omega) (fun i f hf=>?_),by simp only[PV.cells];omega,fun i x hx=>?_⟩
   ·have:=k3 f (List.mem_of_getElem? hf)
    rwa [Nat.sub_zero] at this
   ·have:=k2 i x hx
    rwa [Nat.zero_add] at this
  ·cases h1
 ·cases h
def wN (P:Program)(e:TypeId):Nat→Nat→List Field
 | 0,_=>[]
 | n+1,k=>{ (default:Field) with type:=e,offset:=k*P.cellsOf e }::wN P e n (k+1)
theorem ub (P:Program)(e:TypeId):∀ n k,w9 P (wN P e n k) (k*P.cellsOf e)=some ((k+n)*P.cellsOf e)
 | 0,k=>by simp[wN,w9]
 | n+1,k=>by
   rw[wN,w9,if_pos rfl]
   have:=ub P e n (k+1)
   simp only
   rw[show k*P.cellsOf e+P.cellsOf e=(k+1)*P.cellsOf e by rw[Nat.succ_mul],this]
   congr 2;omega
theorem ua {P:Program}{e:TypeId}:∀ {n k:Nat} {f:Field},f∈wN P e n k→f.type=e
 | 0,_,_,h=>by cases h
 | n+1,k,f,h=>by
   rcases List.mem_cons.1 h with rfl | h
   ·rfl
   ·exact ua h
theorem Cp {P:Program}{e:TypeId}:∀ {n k i:Nat},i<n→∃ f,f∈wN P e n k∧f.type=e∧f.offset=(k+i)*P.cellsOf e
 | 0,_,_,h=>by omega
 | n+1,k,0,_=>⟨_,List.mem_cons_self,rfl,by simp⟩
 | n+1,k,i+1,h=>by
   obtain⟨f,h1,h2,h3⟩:=Cp (P:=P) (e:=e) (n:=n) (k:=k+1) (i:=i) (by omega)
   exact⟨f,List.mem_cons_of_mem _ h1,h2,by rw[h3];congr 1;omega⟩
theorem pS {α:Type}{P:Program}{e:TypeId}{R:TypeId→List Value→Option α}{cs:List Value}:∀ (n k:Nat),(List.range' k n).mapM (fun i=>R e ((cs.drop (i*P.cellsOf e)).take (P.cellsOf e)))=(wN P e n k).mapM (fun f=>R f.type ((cs.drop f.offset).take (P.cellsOf f.type)))
 | 0,k=>by simp[wN]
 | n+1,k=>by
   rw[List.range'_succ,wN,List.mapM_cons,List.mapM_cons,pS n (k+1)]
theorem jg {P:Program}{e:TypeId}:∀ (n k:Nat) (l:List (DataW H)),l.length=n→DataW.weightsEach P ((wN P e n k).map (·.type)) l=DataW.weightsAll P e l
 | 0,k,l,h=>by
   obtain rfl:=List.eq_nil_of_length_eq_zero h
   simp[wN,DataW.weightsEach,DataW.weightsAll]
 | n+1,k,l,h=>by
   cases l with
   | nil=>simp at h
   | cons d r=>
     simp only[wN,List.map_cons,DataW.weightsEach,DataW.weightsAll]
     rw[jg n (k+1) r (by simpa using h)]
theorem Kk {t e:TypeId}{n:Nat}{cs:List Value}{R:TypeId→List Value→Option (DataW H×List MemPlace)}{d:DataW H}{ps:List MemPlace}(hu:P.underlying t=some (.array n e))
  (hstep:ts.contains e=true∧n*P.cellsOf e=P.cellsOf t)
  (hz:(d.weights P t).all (·≤reachBytes)=true) (ih:∀ t cs d ps,t∈ts→R t cs=some (d,ps)→(d.weights P t).all (·≤reachBytes)=true→∃ p,HasT P t p∧xg w imm p cs)
  (h:(if cs.length=P.cellsOf t then Option.map (fun xs=>(DataW.agg (List.map (fun x=>x.fst) xs),List.flatMap (fun x=>x.snd) xs)) (List.mapM (fun i=>R e (List.take (P.cellsOf e) (List.drop (i*P.cellsOf e) cs))) (List.range n)) else none)=some (d,ps)) :
  ∃ p,HasT P t p∧xg w imm p cs:=by
 split at h
 ·rename_i hcs
  simp only[Option.map_eq_some_iff,Prod.mk.injEq] at h
  obtain⟨xs,hxs,rfl,_⟩:=h
  have hxl:xs.length=n:=by rw[jD hxs];simp
  rw[List.range_eq_range',pS n 0] at hxs
  simp only[DataW.weights,hu] at hz
  rw[← jg (P:=P) n 0 _ (by simpa using hxl)] at hz
  have hlay:=ub P e n 0
  rw[Nat.zero_mul,Nat.zero_add,hstep.2] at hlay
  obtain⟨qs,k1,k2,k3⟩:=iL (w:=w) (imm:=imm) (P:=P) (ts:=ts) (H:=H) hcs (F:=fun f=>R f.type (List.take (P.cellsOf f.type) (List.drop f.offset cs))) (fun f x hx hz hf=>ih f.type _ x.1 x.2 hf hx hz) (wN P e n 0) 0 xs hlay
   (fun f hf=>by rw[ua hf];simpa using hstep.1) hxs hz
  refine⟨.agg qs,.arr _ e n _ hu (by omega) (fun i hi=>?_),by simp only[PV.cells];omega,fun i x hx=>?_⟩
  ·obtain⟨f,hf,h1,h2⟩:=Cp (P:=P) (e:=e) (k:=0) hi
   have:=k3 f hf
   rwa [h1,h2,Nat.sub_zero,Nat.zero_add] at this
  ·have:=k2 i x hx
   rwa [Nat.zero_add] at this
 ·cases h
theorem jt (hts:Pd P ts=true)(himm:∀ b o,b<w.heap.size→imm b o):∀ (fuel:Nat) (t:TypeId) (cs:List Value) (d:DataW H) (ps:List MemPlace),t∈ts→DataW.trod enc P w 0 spare held fuel t cs=some (d,ps)→(d.weights P t).all (·≤reachBytes)=true→∃ p,HasT P t p∧xg w imm p cs
 | 0,t,cs,d,ps,_,h,_=>by simp[DataW.trod] at h
 | fuel+1,t,cs,d,ps,ht,h,hz=>by
   have hstep:=(List.all_eq_true.1 hts) t ht
   unfold G2 at hstep
   rw[DataW.trod.eq_def] at h
   simp only at h
   cases hu:P.underlying t with
   | none=>rw[hu] at hstep;simp at hstep
   | some u=>
     rw[hu] at hstep h
     cases u with
     | bool=>
       split at h
       all_goals first
        | (rename_i b h1;exact⟨.bool b,.bool _ _ hu,gA rfl (.bool _) rfl⟩)
        | (exfalso;simp_all;done)
        | skip
     | int k=>
       split at h
       all_goals first
        | (rename_i k' k2 n heq
           simp only[Option.some.injEq,TypeDesc.int.injEq] at heq
           subst heq
           split at h
           ·rename_i hh
            obtain⟨rfl,hw⟩:=hh
            exact⟨.int _ n,.int _ _ _ hu hw,gA rfl (.int _ _) rfl⟩
           ·cases h)
        | (exfalso;simp_all;done)
        | skip
     | string=>
       split at h
       all_goals first
        | (rename_i s _
           split at h
           ·rename_i hh
            cases h
            simp only[DataW.weights,List.all_cons,List.all_nil,Bool.and_true,decide_eq_true_eq] at hz
            exact⟨.str s.data.toList,.str _ _ hu hz,gA rfl (.str _ hh) rfl⟩
           ·cases h)
        | (exfalso;simp_all;done)
        | skip
     | slice e=>
       split at h
       all_goals first
        | (exact⟨.list [],.list _ _ _ hu (by simp) (by simp) (by simp),gA rfl (.lnil none 0 (by simp)) rfl⟩)
        | (rename_i e' a len cap heq
           simp only[Option.some.injEq,TypeDesc.slice.injEq] at heq
           subst heq
           simp only[Bool.and_eq_true,decide_eq_true_eq] at hstep
           exact yl hu hstep.2 hz (fun cs d ps h hz=>jt hts himm fuel _ cs d ps (by simpa using hstep.1) h hz) himm h)
        | (exfalso;simp_all;done)
        | skip
     | struct fs=>
       split at h
       all_goals first
        | (rename_i fs' heq
           simp only[Option.some.injEq,TypeDesc.struct.injEq] at heq
           subst heq
           exact uO hu hstep hz (fun t cs d ps ht h hz=>jt hts himm fuel t cs d ps ht h hz) h)
        | (exfalso;simp_all;done)
        | skip
     | array n e=>
       simp only[Bool.and_eq_true,decide_eq_true_eq] at hstep
       split at h
       all_goals first
        | (rename_i n' e' heq
           simp only[Option.some.injEq,TypeDesc.array.injEq] at heq
           obtain⟨rfl,rfl⟩:=heq
           exact Kk hu hstep hz (fun t cs d ps ht h hz=>jt hts himm fuel t cs d ps ht h hz) h)
        | (exfalso;simp_all;done)
        | skip
     | _=>simp at hstep
end
end Go.Ab
namespace Go.Ab
open Go Go.RowKit Go.ChangeShapes Go.WideShapes
section
variable {H:Type}{enc:TypeId×Value→H}{P:Program}{W:World}{ts:List TypeId}{base:Nat}
def m5 (W:World):Nat→Nat→Prop:=fun b _=>b<W.heap.size
theorem Kl (hts:Pd P ts=true){t:TypeId}(ht:t∈ts){v:Value}{d:DataW H}{p:List MemPlace}(hok:Value.okWide P W .any base t v)(h:DataW.Trod enc P W 0 (fun _=>true) true t v d p)(hz:(d.weights P t).all (·≤reachBytes)=true) :
  ∃ x,HasT P t x∧PRel W (m5 W) x v:=by
 obtain⟨fuel,hf⟩:=h
 obtain⟨x,h1,h2⟩:=jt (w:=W) (imm:=m5 W) hts (fun b o h=>h) fuel t _ d p ht hf hz
 refine⟨x,h1,?_⟩
 cases h1 with
 | bool _ b hu=>obtain⟨b',rfl⟩:=okWide_bool hu hok;exact fA (.bool _ _ hu) h2 (by simp[cx,hu]) (fun _=>rfl)
 | int _ k n hu hw=>obtain⟨b',rfl⟩:=okWide_int hu hok;exact fA (.int _ _ _ hu hw) h2 (by simp[cx,hu]) (fun _=>rfl)
 | str _ s hu hs=>obtain⟨b',rfl⟩:=okWide_string hu hok;exact fA (.str _ _ hu hs) h2 (by simp[cx,hu]) (fun _=>rfl)
 | list _ e l hu hl hl2 hle=>obtain⟨a,len,cap,rfl⟩:=okWide_slice hu hok;exact fA (.list _ _ _ hu hl hl2 hle) h2 (by simp[cx,hu]) (fun _=>rfl)
 | arr _ e n cs hu hl hle=>
   have hok':=hok
   simp only[Value.okWide,hu] at hok'
   obtain⟨cs',rfl,_⟩:=hok'
   exact fA (.arr _ _ _ _ hu hl hle) h2 (fun _=>⟨_,rfl⟩) (by simp[cx,hu])
 | agg _ fs cs hu hl hle=>obtain⟨cs',rfl,_⟩:=okWide_struct hu hok;exact fA (.agg _ _ _ hu hl hle) h2 (fun _=>⟨_,rfl⟩) (by simp[cx,hu])
theorem uc (hts:Pd P ts=true):∀ (tys:List TypeId) (vs:List Value) (ds:List (DataW H)) (p:List MemPlace),(∀ t∈tys,t∈ts)→(∀ (j:Nat) (t:TypeId) (v:Value),tys[j]? = some t→vs[j]? = some v→Value.okWide P W .any base t v) →
  DataW.TrodAll enc P W 0 (fun _=>true) true tys vs ds p→(DataW.weightsEach P tys ds).all (·≤reachBytes)=true→vs.length=tys.length∧ds.length=tys.length∧∃ xs:List PV,xs.length=tys.length∧(∀ (i:Nat) (x:PV),xs[i]? = some x→PRel W (m5 W) x (vs.getD i Go.undef))∧(∀ (i:Nat) (t:TypeId) (x:PV),tys[i]? = some t→xs[i]? = some x→HasT P t x)
 | [],vs,ds,p,_,_,h,_=>by
   cases vs<;>cases ds<;>simp[DataW.TrodAll] at h
   exact⟨rfl,rfl,[],rfl,by simp,by simp⟩
 | t::tys,vs,ds,p,ht,hok,h,hz=>by
   obtain⟨v,vs',d,ds',p',q',rfl,rfl,rfl,h1,h2⟩:=trodAll_cons h
   simp only[DataW.weightsEach,List.all_append,Bool.and_eq_true] at hz
   obtain⟨x,k1,k2⟩:=Kl (base:=base) hts (ht t (by simp)) (hok 0 t v rfl rfl) h1 hz.1
   obtain⟨l1,l2,xs,l3,l4,l5⟩:=uc hts tys vs' ds' q' (fun t h=>ht t (by simp[h])) (fun j t v h1 h2=>hok (j+1) t v (by simpa using h1) (by simpa using h2)) h2 hz.2
   refine⟨by simp[l1],by simp[l2],x::xs,by simp[l3],fun i y hy=>?_,fun i t' y ht' hy=>?_⟩
   ·cases i with
    | zero=>simp only[List.getElem?_cons_zero,Option.some.injEq] at hy;subst hy;simpa using k2
    | succ i=>simpa using l4 i y (by simpa using hy)
   ·cases i with
    | zero=>
      simp only[List.getElem?_cons_zero,Option.some.injEq] at hy ht'
      subst hy;subst ht';exact k1
    | succ i=>exact l5 i t' y (by simpa using ht') (by simpa using hy)
theorem lK:∀ (tys:List TypeId) (vs:List Value) (ds:List (DataW H)) (p:List MemPlace),DataW.TrodAll enc P W 0 (fun _=>true) true tys vs ds p→∀ x∈p,x.block<W.heap.size
 | [],vs,ds,p,h=>by
   cases vs<;>cases ds<;>simp[DataW.TrodAll] at h
   subst h;simp
 | t::tys,vs,ds,p,h=>by
   obtain⟨v,vs',d,ds',p',q',rfl,rfl,rfl,⟨m,hm⟩,h2⟩:=trodAll_cons h
   intro x hx
   rcases List.mem_append.1 hx with hx | hx
   ·exact DataW.trod_lt m _ _ _ hm x hx
   ·exact lK tys vs' ds' q' h2 x hx
theorem pT (hlaid:laidOutB P=true){W':World}(hb:Below W.heap.size W W'):∀ (tys:List TypeId) (vs:List Value) (ds:List (DataW H)) (p:List MemPlace),(∀ t∈tys,P.readableRec t=true∧t<P.types.size) →
  DataW.TrodAll enc P W 0 (fun _=>true) true tys vs ds p→DataW.TrodAll enc P W' 0 (fun b=>decide (b<W.heap.size)) true tys vs ds p
 | [],vs,ds,p,_,h=>by
   cases vs<;>cases ds<;>simp[DataW.TrodAll] at h
   subst h
   exact trodAll_mk0
 | t::tys,vs,ds,p,ht,h=>by
   have hlt:=lK _ _ _ _ h
   obtain⟨v,vs',d,ds',p',q',rfl,rfl,rfl,h1,h2⟩:=trodAll_cons h
   exact trodAll_cons_mk (Below.trod hlaid (ht t (by simp)).1 (ht t (by simp)).2 h1 hb (fun x hx=>hlt x (List.mem_append.2 (.inl hx)))) (pT hlaid hb tys vs' ds' q' (fun t h=>ht t (by simp[h])) h2)
theorem eS:∀ (ts us:List TypeId) (ds gs:List (DataW H)),(DataW.weightsEach P (ts++us) (ds++gs)).all (·≤reachBytes)=true→(DataW.weightsEach P ts ds).all (·≤reachBytes)=true
 | [],_,_,_,_=>by simp[DataW.weightsEach]
 | _::_,_,[],_,_=>by simp[DataW.weightsEach]
 | t::ts,us,d::ds,gs,h=>by
   simp only[List.cons_append,DataW.weightsEach,List.all_append,Bool.and_eq_true] at h ⊢
   exact⟨h.1,eS ts us ds gs h.2⟩
theorem Fs {f:FuncId}{fn:Func}{s:ChangeSpec}{args:Array Value}{ds gs:List (DataW H)}{before:List MemPlace}{G:Nat→List PV}{tb:TypeId}
  (hs:s.vars=[]) (hlaid:laidOutB P=true) (hread:∀ t∈fn.params.toList,P.readableRec t=true∧t<P.types.size) (hts:Pd P ts=true) (htys:∀ t∈fn.params.toList,t∈ts)
  (hres:fn.resultTypes = #[tb]) (htb:P.underlying tb=some .bool)
  (hfn:∀ ds:List (DataW H),ds.length=fn.params.toList.length→s.fn H ds = { results:=[.lit (.bool true)],args:=ds })
  (hval:∀ (j:Nat) (t:TypeId) (v:Value),fn.params[j]? = some t→args[j]? = some v→Value.okWide P W .any base t v) (hW:DataW.Whole enc P fn.params.toList s.vars false W args.toList ds gs before)
  (hsz:(DataW.weightsEach P (fn.params.toList++s.plain.varTypes P) (ds++gs)).all (·≤reachBytes)=true)
  (hG:cE G W (m5 W))
  (hlaw:∀ ps:List PV,ps.length=fn.params.toList.length→(∀ (i:Nat) (t:TypeId) (x:PV),fn.params.toList[i]? = some t→ps[i]? = some x→HasT P t x)→aq P G f ps (.bool true)) :
  Calls P f args W fun e W'=>∃ v,e = .returned v∧s.post enc P fn false true false false W args v W':=by
 have hW':=hW
 obtain⟨p,q,hA,hV,rfl,hfz,hnd⟩:=hW
 rw[hs] at hV
 obtain⟨rfl,rfl⟩:=trodVars_none hV
 obtain⟨l1,l2,xs,l3,l4,l5⟩:=uc (base:=base) hts fn.params.toList args.toList ds p htys (fun j t v h1 h2=>hval j t v (by simpa using h1) (by simpa using h2)) hA (eS _ _ _ _ hsz)
 obtain⟨_,hP⟩:=hlaw xs l3 l5
 refine (hP W (m5 W) args hG (fun b o h=>h) (by rw[l3,← l1];simp) (fun i x hx=>by rw[aC];exact l4 i x hx)).mono ?_
 rintro e W' ⟨u,imm',rfl,hb,_,_,_,hu⟩
 cases hu
 refine⟨_,rfl,ds,[],_,[],p,[],hW',?_,?_,?_,hb.frame _,fun h=>by cases h⟩
 ·rw[hres,List.append_nil,hfn ds l2]
  exact trodAll_mk1 (shut_bool htb _)
 ·rw[List.append_nil,hfn ds l2]
  exact pT hlaid hb _ _ _ _ hread hA
 ·rw[hs,List.append_nil,hfn ds l2]
  rfl
end
end Go.Ab
namespace Go.Ab
open Go
section
variable {e:List (Nat×AV)}{σ:List (Nat×Blk)}{new:Nat}
theorem ur:js e σ new .mkmap=some (.mp new,[(new,.mp [])]):=_root_.id rfl
theorem uq (kd:Option IntKind)(co:Bool)(z:PV)(x k:AX):js e σ new (.mlook kd co z x k)=fV [] (mP kd co z (fun r=>lookB r σ) (evE e x) (evE e k)):=by
 simp only[js,fV];cases mP kd co z (fun r=>lookB r σ) (evE e x) (evE e k)<;>rfl
theorem xj (kd:Option IntKind)(x k v:AX):js e σ new (.mset kd x k v)=CZ (.pv .undef) (mO kd (fun r=>lookB r σ) (evE e x) (evE e k) (evE e v)):=by
 simp only[js,CZ];cases mO kd (fun r=>lookB r σ) (evE e x) (evE e k) (evE e v)<;>rfl
def Ax (kd:Option IntKind)(co:Bool)(z k:PV):Blk→Option AV
 | .mp l=>if v7 kd k=true then match iF k l 0 with
   | some (some (_,v))=>some (.pv (if co=true then .tup [v,.bool true] else v))
   | some none=>some (.pv (if co=true then .tup [z,.bool false] else z))
   | none=>none
   else none
 | _=>none
def H8 (kd:Option IntKind)(r:Nat)(k p:PV):Blk→Option (List (Nat×Blk))
 | .mp l=>if v7 kd k=true then match iF k l 0 with
   | some (some (i,_))=>some [(r,.mp (l.set i (k,p)))]
   | some none=>some [(r,.mp (l++[(k,p)]))]
   | none=>none
   else none
 | _=>none
theorem Ek (kd:Option IntKind)(co:Bool)(z:PV)(τ:aw)(r:Nat)(k:PV):mP kd co z τ (.mp r) (.pv k)=Ax kd co z k (τ r):=by
 simp only[mP];cases τ r<;>rfl
theorem Eh (kd:Option IntKind)(τ:aw)(r:Nat)(k p:PV):mO kd τ (.mp r) (.pv k) (.pv p)=H8 kd r k p (τ r):=by
 simp only[mO];cases τ r<;>rfl
def mpS (l:List (List UInt8)):List (PV×PV):=l.map fun s=>(.str s,.bool true)
def qk (l:List (List UInt8))(s:List UInt8):List (List UInt8):=if s∈l then l else l++[s]
theorem kE (s:List UInt8):∀ (l:List (List UInt8)) (i:Nat),(s∈l→∃ j,iF (.str s) (mpS l) i=some (some (i+j,.bool true))∧l[j]? = some s)∧(s∉l→iF (.str s) (mpS l) i=some none)
 | [],i=>⟨(fun h=>by cases h),fun _=>rfl⟩
 | a::r,i=>by
   have ih:=kE s r (i+1)
   by_cases ha:s=a
   ·subst ha
    refine⟨fun _=>⟨0,?_,rfl⟩,fun h=>absurd List.mem_cons_self h⟩
    simp[mpS,iF,keq]
   ·have hb:(s == a)=false:=by simpa using ha
    have e:iF (.str s) (mpS (a::r)) i=iF (.str s) (mpS r) (i+1):=by
     show (match keq (.str s) (.str a) with
      | some true=>some (some (i,PV.bool true))
      | some false=>iF (.str s) (mpS r) (i+1)
      | none=>none)=_
     simp only[keq,hb]
    rw[e]
    refine⟨fun h=>?_,fun h=>ih.2 fun h'=>h (List.mem_cons_of_mem _ h')⟩
    rcases List.mem_cons.1 h with h | h
    ·exact absurd h ha
    ·obtain⟨j,h1,h2⟩:=ih.1 h
     exact⟨j+1,by rw[h1,show i+1+j=i+(j+1) by omega],by simpa using h2⟩
theorem vT (l:List (List UInt8))(s:List UInt8):Ax none false (.bool false) (.str s) (.mp (mpS l))=some (.pv (.bool (decide (s∈l)))):=by
 simp only[Ax,v7,if_true]
 by_cases h:s∈l
 ·obtain⟨j,h1,_⟩:=(kE s l 0).1 h
  rw[h1,decide_eq_true h];rfl
 ·rw[(kE s l 0).2 h,decide_eq_false h];rfl
theorem ym (r:Nat)(l:List (List UInt8))(s:List UInt8):H8 none r (.str s) (.bool true) (.mp (mpS l))=some [(r,.mp (mpS (qk l s)))]:=by
 simp only[H8,v7,if_true]
 unfold qk
 by_cases h:s∈l
 ·obtain⟨j,h1,h2⟩:=(kE s l 0).1 h
  rw[h1,if_pos h]
  simp only[Nat.zero_add]
  have:(mpS l).set j (.str s,.bool true)=mpS l:=by
   apply List.ext_getElem?
   intro i
   rw[List.getElem?_set]
   by_cases hij:j=i
   ·subst hij
    have hl:j<(mpS l).length:=by simp[mpS];exact (List.getElem?_eq_some_iff.1 h2).1
    simp[mpS,(List.getElem?_eq_some_iff.1 h2).1]
    exact (List.getElem?_eq_some_iff.1 h2).2.symm
   ·rw[if_neg hij]
  rw[this]
 ·rw[(kE s l 0).2 h,if_neg h]
  simp[mpS]
theorem xm (sz len:Nat)(xs:List AX):js e σ new (.bslf sz len xs)=oz sz len (evL e xs):=_root_.id rfl
theorem ql (sz len:Nat)(xs:List AX):nQ e (.bslf sz len xs)=[]:=_root_.id rfl
theorem rx (sz len:Nat)(xs:List AX):dt (.xop (.bslf sz len xs))=0:=_root_.id rfl
theorem oy {sz:Nat}{cs:List PV}(h1:cs.length=sz)(h2:cs.all PV.one=true):oz sz 1 [.pv (.agg cs)]=some (.pv (.list [.agg cs]),[]):=by
 subst h1
 have h3:([PV.agg cs].all fun p=>p.cells.length == cs.length&&p.cells.all PV.one)=true:=by simp[PV.cells,h2]
 simp only[oz]
 rw[if_pos ⟨rfl,by omega⟩]
 simp only[pvs,AV.toPV,h3,if_true]
theorem Fe (r:Nat):(AV.mp r).names=[r]:=_root_.id rfl
def PW:Option Nat→AV
 | some q=>.mp q
 | none=>.any
theorem Mz (f:Nat→Option Nat)(r:Nat):(AV.mp r).ren f=PW (f r):=by simp only[AV.ren,PW]<;>(cases f r<;>rfl)
theorem yO (q:Nat):PW (some q) = .mp q:=_root_.id rfl
theorem Ak (l:List (PV×PV)):(Blk.mp l).names=[]:=_root_.id rfl
theorem IF (f:Nat→Option Nat)(l:List (PV×PV)):(Blk.mp l).ren f = .mp l:=_root_.id rfl
end
attribute [push_cast] xm ql rx ur uq xj Ek Eh vT ym Fe Mz yO Ak IF
end Go.Ab
namespace Go.Ab
open Go Go.RowKit Go.Proofs Go.Lib
section
variable {P:Program}{W:World}
theorem Dd {H:Type}{enc:TypeId×Value→H}{w:World}{base:Nat}{sp:Nat→Bool}{held:Bool}{fuel n:Nat}{t e:TypeId}{cs:List Value}{x:DataW H×List MemPlace}(ht:P.underlying t=some (.array n e))
  (h:DataW.trod enc P w base sp held fuel t cs=some x):cs.length=P.cellsOf t:=by
 cases fuel with
 | zero=>simp[DataW.trod] at h
 | succ fuel=>
   simp only[DataW.trod,ht] at h
   split at h
   ·assumption
   ·cases h
structure TabAt (w:World)(g:Nat)(ps:List PV):Prop where
 obj:∃ cs T fz,w.heap[g]? = some (.cells cs T fz)∧cs.size=ps.length
 cell:∀ (o:Nat) (p:PV),ps[o]? = some p→∃ k z,p = .int k z∧w.cell? ⟨g,o,none⟩=some (.int k z)
theorem A8 {G:Nat→List PV}(h:∀ g,G g≠[]→TabAt W g (G g)):cE G W (m5 W):=by
 refine⟨fun g o p hp=>?_,fun g hg=>(h g hg).obj⟩
 have hne:G g≠[]:=by intro e;rw[e] at hp;simp at hp
 obtain⟨k,z,rfl,hc⟩:=(h g hne).cell o p hp
 exact⟨World.block_lt_of_cell? W _ hc,_,hc,rfl,.int _ _⟩
theorem mG {n:String}{g:Nat}{t e:TypeId}{m:Nat}{d:DataW Unit}{ps:List PV}(hv:VarReads P W n d)(hg:P.globalNamed n=some g)(hty:(P.globals[g]?).map (·.type)=some t)(ht:P.underlying t=some (.array m e))(hl:P.cellsOf t=ps.length)
  (h:∀ (o:Nat) (p:PV),ps[o]? = some p→∃ k z,p = .int k z∧W.cell? ⟨g,o,none⟩=some (.int k z)):TabAt W g ps:=by
 refine⟨?_,h⟩
 obtain⟨g',t',cs,fuel,p,hg',hty',hvar,hd⟩:=hv
 obtain rfl:=Option.some.inj (hg.symm.trans hg')
 obtain rfl:=Option.some.inj (hty.symm.trans hty')
 have hlen:=Dd ht hd
 unfold World.var? at hvar
 rw[hg] at hvar
 simp only[Option.bind_some] at hvar
 split at hvar
 ·rename_i cs' T fz hh
  cases hvar
  exact⟨cs,T,fz,hh,by rw[← hl,← hlen];simp⟩
 ·cases hvar
theorem lM {n:String}{g:Nat}{t e:TypeId}{m:Nat}{k:IntKind}{zs:List Int}(hv:VarReads P W n (Lib.tabData k zs))(hg:P.globalNamed n=some g)(hty:(P.globals[g]?).map (·.type)=some t)(ht:P.underlying t=some (.array m e))
  (he:P.underlying e=some (.int k)) (hce:P.cellsOf e=1) (hct:P.cellsOf t=m) (hm:m=zs.length):TabAt W g (zs.map (PV.int k)):=by
 have hv':=hv
 refine mG hv hg hty ht (by rw[hct,hm];simp) fun o p hp=>?_
 simp only[List.getElem?_map,Option.map_eq_some_iff] at hp
 obtain⟨z,hz,rfl⟩:=hp
 refine⟨k,z,rfl,?_⟩
 obtain⟨g',t',cs,fuel,q,hg',hty',hvar,hd⟩:=hv'
 obtain rfl:=Option.some.inj (hg.symm.trans hg')
 obtain rfl:=Option.some.inj (hty.symm.trans hty')
 have hcs:=Lib.cells_of_tab ht he hce hct hd
 rw[World.var?_cell hg hvar o,← Array.getElem?_toList,hcs]
 simp[hz]
end
end Go.Ab

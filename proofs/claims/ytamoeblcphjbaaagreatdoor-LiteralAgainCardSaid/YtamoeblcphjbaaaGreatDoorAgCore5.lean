/- A program logic over the model: part 5 (a proof is built on it; nothing of the statement is said here). -/
import Derived.Test.YtamoeblcphjbaaaGreatDoorAgCore4
set_option linter.unusedVariables false
set_option linter.unusedSimpArgs false
namespace Go.Ab
open Go Go.RowKit
theorem gu {n:Int}(h1:-9223372036854775808≤n)(h2:n≤9223372036854775807):IntKind.i64.wrap n=n:=by
 show (if (true&&decide (n % 18446744073709551616≥9223372036854775808))=true then n % 18446744073709551616 - 18446744073709551616 else n % 18446744073709551616)=n
 simp only[Bool.true_and,decide_eq_true_eq]
 split<;>omega
theorem mB {n:Int}(h1:0≤n)(h2:n≤255):IntKind.u8.wrap n=n:=by
 show (if (false&&decide (n % 256≥128))=true then n % 256 - 256 else n % 256)=n
 simp only[Bool.false_and]
 simp;omega
theorem Qr {a b:Int}(h:a<b):decide (a<b)=true:=decide_eq_true h
theorem Qs {a b:Int}(h:¬ a<b):decide (a<b)=false:=decide_eq_false h
theorem Qt {a b:Int}(h:a≤b):decide (a≤b)=true:=decide_eq_true h
theorem Qu {a b:Int}(h:¬ a≤b):decide (a≤b)=false:=decide_eq_false h
theorem Qv {a b:Int}(h:a=b):decide (a=b)=true:=decide_eq_true h
theorem Qw {a b:Int}(h:¬ a=b):decide (a=b)=false:=decide_eq_false h
def Chk (b:Bool):Prop:=b=true
theorem Ka:Chk true:=_root_.id rfl
theorem Aw (i k:Nat)(x:AV)(r:List (Nat×AV)):look i ((k,x)::r)=if k=i then x else look i r:=_root_.id rfl
theorem Fm (i:Nat):look i [] = .any:=_root_.id rfl
theorem vU (i k:Nat)(x:Blk)(r:List (Nat×Blk)):lookB i ((k,x)::r)=if k=i then x else lookB i r:=_root_.id rfl
theorem Ay (i:Nat):lookB i [] = .none:=_root_.id rfl
def evE (e:List (Nat×AV)):AX→AV
 | .t i=>look i e
 | .c p=>.pv p
 | .m i tb=>Pf tb (look i e)
theorem Qo (e:List (Nat×AV))(i:Nat):evE e (.t i)=look i e:=_root_.id rfl
theorem Qp (e:List (Nat×AV))(p:PV):evE e (.c p) = .pv p:=_root_.id rfl
def evO (e:List (Nat×AV)):Option AX→Option AV
 | some x=>some (evE e x)
 | none=>none
theorem FS (e:List (Nat×AV))(x:AX):evO e (some x)=some (evE e x):=_root_.id rfl
theorem FT (e:List (Nat×AV)):evO e none=none:=_root_.id rfl
def evL (e:List (Nat×AV)):List AX→List AV
 | []=>[]
 | x::r=>evE e x::evL e r
theorem JQ (e:List (Nat×AV)):evL e []=[]:=_root_.id rfl
theorem FV (e:List (Nat×AV))(x:AX)(r:List AX):evL e (x::r)=evE e x::evL e r:=_root_.id rfl
theorem jn (e:List (Nat×AV))(σ:List (Nat×Blk))(n:Nat)(x:AX):x.ev (St.E ⟨e,σ,n⟩)=evE e x:=by cases x<;>rfl
theorem Bm (e:List (Nat×AV))(σ:List (Nat×Blk))(n:Nat):∀ (l:List AX),l.map (·.ev (St.E ⟨e,σ,n⟩))=evL e l
 | []=>rfl
 | x::r=>by rw[List.map_cons,Bm e σ n r,jn];rfl
def evP (e:List (Nat×AV)):List (Nat×Nat×AX)→List (Nat×Nat×AV)
 | []=>[]
 | (a,b,x)::r=>(a,b,evE e x)::evP e r
theorem JP (e:List (Nat×AV)):evP e []=[]:=_root_.id rfl
theorem FQ (e:List (Nat×AV))(a b:Nat)(x:AX)(r:List (Nat×Nat×AX)):evP e ((a,b,x)::r)=(a,b,evE e x)::evP e r:=_root_.id rfl
def iZ (e:List (Nat×AV)):TOp→Option AV
 | .mv x=>some (evE e x)
 | .pick c a b=>qH (evE e c) (evE e a) (evE e b)
 | .build zs ps=>(gj (zs.map .pv) (evP e ps)).map jl
 | .faddr off x=>km off (evE e x)
 | .field g sz off x=>sO g sz off (evE e x)
 | .iaddr sz x i=>lR sz (evE e x) (evE e i)
 | .iaddrA n sz x i=>ix n sz (evE e x) (evE e i)
 | .index x i=>gG (evE e x) (evE e i)
 | .indexA g n sz x i=>f7 g n sz (evE e x) (evE e i)
 | .len st x=>En st (evE e x)
 | .lenC n=>some (.pv (.int .i64 n))
 | .imin x y=>IL (evE e x) (evE e y)
 | .imax x y=>IM (evE e x) (evE e y)
 | .sliceL sz x lo hi=>iv sz (evE e x) (evO e lo) (evO e hi)
 | .sliceS x lo hi=>fZ (evE e x) (evO e lo) (evO e hi)
 | .bin op x y=>fB op (evE e x) (evE e y)
 | .beq kd ng x y=>(GW kd (evE e x) (evE e y)).map fun b=>.pv (.bool (if ng then !b else b))
 | .neg x=>Lt (evE e x)
 | .not x=>Lr (evE e x)
 | .compl x=>sQ (evE e x)
 | .conv k x=>vf k (evE e x)
 | .convS x=>sP (evE e x)
 | .convIS x=>iy (evE e x)
 | .beqS ng ks x y=>(ED ks (evE e x) (evE e y)).map fun b=>.pv (.bool (if ng then !b else b))
 | .clo f fs cs=>some (rq f (evL e fs) (evL e cs))
 | .ext x i=>Lu i (evE e x)
 | .nilck x=>Ls (evE e x)
theorem FU (e:List (Nat×AV)):∀ (l:List AX),l.map (fun x=>evE e x)=evL e l
 | []=>rfl
 | x::r=>by rw[List.map_cons,FU e r];rfl
theorem Nm (e:List (Nat×AV))(l:Option AX):l.map (fun x=>evE e x)=evO e l:=by cases l<;>rfl
theorem Nl (e:List (Nat×AV)):∀ (l:List (Nat×Nat×AX)),(l.map fun p=>(p.1,p.2.1,evE e p.2.2))=evP e l
 | []=>rfl
 | (a,b,x)::r=>by rw[List.map_cons,Nl e r];rfl
theorem x6 (e:List (Nat×AV))(σ:List (Nat×Blk))(n:Nat)(o:TOp):o.run (St.E ⟨e,σ,n⟩)=iZ e o:=by
 cases o<;>simp only[TOp.run,iZ,jn,FU,Nm,Nl]
theorem H0 (e:List (Nat×AV))(x:AX):iZ e (.mv x)=some (evE e x):=_root_.id rfl
theorem xZ (e:List (Nat×AV))(c a b:AX):iZ e (.pick c a b)=qH (evE e c) (evE e a) (evE e b):=_root_.id rfl
theorem uN (e:List (Nat×AV))(zs:List PV)(ps:List (Nat×Nat×AX)):iZ e (.build zs ps)=(gj (zs.map .pv) (evP e ps)).map jl:=_root_.id rfl
theorem uM (e:List (Nat×AV))(off:Nat)(x:AX):iZ e (.faddr off x)=km off (evE e x):=_root_.id rfl
theorem uL (e:List (Nat×AV))(sz:Nat)(x i:AX):iZ e (.iaddr sz x i)=lR sz (evE e x) (evE e i):=_root_.id rfl
theorem qu (e:List (Nat×AV))(n sz:Nat)(x i:AX):iZ e (.iaddrA n sz x i)=ix n sz (evE e x) (evE e i):=_root_.id rfl
theorem uK (e:List (Nat×AV))(x i:AX):iZ e (.index x i)=gG (evE e x) (evE e i):=_root_.id rfl
theorem qt (e:List (Nat×AV))(g:Bool)(n sz:Nat)(x i:AX):iZ e (.indexA g n sz x i)=f7 g n sz (evE e x) (evE e i):=_root_.id rfl
theorem DJ (e:List (Nat×AV))(st:Bool)(x:AX):iZ e (.len st x)=En st (evE e x):=_root_.id rfl
theorem x4 (e:List (Nat×AV))(x y:AX):iZ e (.imin x y)=IL (evE e x) (evE e y):=_root_.id rfl
theorem x5 (e:List (Nat×AV))(x y:AX):iZ e (.imax x y)=IM (evE e x) (evE e y):=_root_.id rfl
theorem qr (e:List (Nat×AV))(x:AX)(lo hi:Option AX):iZ e (.sliceS x lo hi)=fZ (evE e x) (evO e lo) (evO e hi):=_root_.id rfl
theorem DM (e:List (Nat×AV))(op:BinOp)(x y:AX):iZ e (.bin op x y)=fB op (evE e x) (evE e y):=_root_.id rfl
def MD (ng:Bool):Option Bool→Option AV
 | some b=>some (.pv (.bool (if ng then !b else b)))
 | none=>none
theorem DN (e:List (Nat×AV))(kd:Nat)(ng:Bool)(x y:AX):iZ e (.beq kd ng x y)=MD ng (GW kd (evE e x) (evE e y)):=by
 simp only[iZ];cases GW kd (evE e x) (evE e y)<;>rfl
theorem IP (b:Bool):MD false (some b)=some (.pv (.bool b)):=_root_.id rfl
theorem DI (e:List (Nat×AV))(x:AX):iZ e (.neg x)=Lt (evE e x):=_root_.id rfl
theorem DH (e:List (Nat×AV))(x:AX):iZ e (.not x)=Lr (evE e x):=_root_.id rfl
theorem x7 (e:List (Nat×AV))(k:IntKind)(x:AX):iZ e (.conv k x)=vf k (evE e x):=_root_.id rfl
theorem qv (e:List (Nat×AV))(x:AX):iZ e (.convIS x)=iy (evE e x):=_root_.id rfl
theorem qO (k:IntKind)(n:Int):iy (.pv (.int k n))=some (.pv (.str (Utf8.encode n).data.toList)):=_root_.id rfl
theorem DL (e:List (Nat×AV))(f:Nat)(fs cs:List AX):iZ e (.clo f fs cs)=some (rq f (evL e fs) (evL e cs)):=_root_.id rfl
theorem DK (e:List (Nat×AV))(x:AX)(i:Nat):iZ e (.ext x i)=Lu i (evE e x):=_root_.id rfl
theorem uJ (e:List (Nat×AV))(x:AX):iZ e (.nilck x)=Ls (evE e x):=_root_.id rfl
theorem II (x y:AV):qH (.pv (.bool true)) x y=some x:=_root_.id rfl
theorem IJ (x y:AV):qH (.pv (.bool false)) x y=some y:=_root_.id rfl
theorem vd (off r o:Nat):km off (.ptr r o)=some (.ptr r (o+off)):=_root_.id rfl
theorem qN (off:Nat)(l:List PV)(i o:Nat):km off (.pv (.eptr l i o))=some (.pv (.eptr l i (o+off))):=_root_.id rfl
def MH (sz off:Nat)(cs:List AV):Option AV:=if off+sz≤cs.length then some (jl ((cs.drop off).take sz)) else none
theorem IS (sz off:Nat)(cs:List AV):d8 true sz off cs=MH sz off cs:=_root_.id rfl
theorem IT (sz off:Nat)(cs:List AV):d8 false sz off cs=cs[off]?:=_root_.id rfl
def fP (sz:Nat)(l:List PV)(i:Nat):Option PV→Option AV
 | some y=>if y.cells.length=sz then some (.pv (.eptr l i 0)) else none
 | none=>none
theorem ow (sz:Nat)(l:List PV)(i:Nat):gH sz l (i:Int)=fP sz l i l[i]?:=by
 unfold gH fP
 rw[if_pos (by omega)]
 simp only[Int.toNat_natCast]
 cases l[i]? <;> rfl
theorem aG (sz:Nat)(l:List PV):gH sz l 0=fP sz l 0 l[0]?:=_root_.id rfl
theorem ve (sz:Nat)(l:List PV)(i:Nat):gH sz l ((i:Int)+1)=fP sz l (i+1) l[i+1]?:=ow sz l (i+1)
theorem qM (sz:Nat)(l:List PV)(k:IntKind)(n:Int):lR sz (.pv (.list l)) (.pv (.int k n))=gH sz l n:=_root_.id rfl
theorem El (l:List UInt8):En true (.pv (.str l))=some (.pv (.int .i64 l.length)):=_root_.id rfl
theorem y6 (l:List PV):En false (.pv (.list l))=some (.pv (.int .i64 l.length)):=_root_.id rfl
theorem y5:En false (.pv .nils)=some (.pv (.int .i64 0)):=_root_.id rfl
theorem Em (r s o n:Nat):En false (.row r s o n)=some (.pv (.int .i64 n)):=_root_.id rfl
theorem qP {d top:Nat}{k:IntKind}{n:Int}(h0:0≤n)(h1:n≤top):bY d top (some (.pv (.int k n)))=some n.toNat:=by
 simp[bY,h0,h1]
theorem qQ {d top:Nat}:bY d top none=some d:=_root_.id rfl
def Qz {α:Type}(l:List α)(f:List α→AV):Option Nat→Option Nat→Option AV
 | some h,some a=>some (f ((l.take h).drop a))
 | _,_=>none
theorem BP {α:Type}(l:List α)(f:List α→AV)(h a:Nat):Qz l f (some h) (some a)=some (f ((l.take h).drop a)):=_root_.id rfl
def QI (l:Nat)(lo:Option AV):Option Nat→Option Nat
 | some h=>bY 0 h lo
 | none=>none
theorem Cg (l:Nat)(lo:Option AV)(h:Nat):QI l lo (some h)=bY 0 h lo:=_root_.id rfl
theorem qG (l:List UInt8)(lo hi:Option AV):fZ (.pv (.str l)) lo hi=Qz l (fun x=>.pv (.str x)) (bY l.length l.length hi) (QI l.length lo (bY l.length l.length hi)):=by
 unfold fZ Qz QI
 simp only
 split<;>rename_i h
 ·rw[h];simp only;cases bY 0 _ lo<;>rfl
 ·rw[h]
theorem EB (k:IntKind)(a b:Int):fB .add (.pv (.int k a)) (.pv (.int k b))=some (.pv (.int k (k.wrap (a+b)))):=by simp[fB,sN]
theorem Ep (k:IntKind)(a b:Int):fB .sub (.pv (.int k a)) (.pv (.int k b))=some (.pv (.int k (k.wrap (a - b)))):=by simp[fB,sN]
theorem Ev (k:IntKind)(a b:Int):fB .mul (.pv (.int k a)) (.pv (.int k b))=some (.pv (.int k (k.wrap (a*b)))):=by simp[fB,sN]
theorem Et {k:IntKind}{a b:Int}(h:¬ b=0):fB .quo (.pv (.int k a)) (.pv (.int k b))=some (.pv (.int k (k.wrap (a.tdiv b)))):=by simp[fB,sN,h]
theorem Er {k:IntKind}{a b:Int}(h:¬ b=0):fB .rem (.pv (.int k a)) (.pv (.int k b))=some (.pv (.int k (a.tmod b))):=by simp[fB,sN,h]
theorem EA (k:IntKind)(a b:Int):fB .eql (.pv (.int k a)) (.pv (.int k b))=some (.pv (.bool (decide (a=b)))):=by simp[fB,sN];rfl
theorem Eu (k:IntKind)(a b:Int):fB .neq (.pv (.int k a)) (.pv (.int k b))=some (.pv (.bool (!decide (a=b)))):=by simp[fB,sN];rfl
theorem Ew (k:IntKind)(a b:Int):fB .lss (.pv (.int k a)) (.pv (.int k b))=some (.pv (.bool (decide (a<b)))):=by simp[fB,sN]
theorem Ex (k:IntKind)(a b:Int):fB .leq (.pv (.int k a)) (.pv (.int k b))=some (.pv (.bool (decide (a≤b)))):=by simp[fB,sN]
theorem Ey (k:IntKind)(a b:Int):fB .gtr (.pv (.int k a)) (.pv (.int k b))=some (.pv (.bool (decide (b<a)))):=by simp[fB,sN]
theorem Ez (k:IntKind)(a b:Int):fB .geq (.pv (.int k a)) (.pv (.int k b))=some (.pv (.bool (decide (b≤a)))):=by simp[fB,sN]
theorem zc {a b:List UInt8}(h:a.length+b.length≤9223372036854775807):fB .add (.pv (.str a)) (.pv (.str b))=some (.pv (.str (a++b))):=by
 have:a.length+b.length≤maxLen:=by unfold maxLen;omega
 simp[fB,Lq,this]
theorem zb (a b:List UInt8):fB .eql (.pv (.str a)) (.pv (.str b))=some (.pv (.bool (decide (a=b)))):=by
 simp[fB,Lq];rw[Bool.eq_iff_iff];simp
theorem y9 (a b:List UInt8):fB .neq (.pv (.str a)) (.pv (.str b))=some (.pv (.bool (!decide (a=b)))):=by
 simp[fB,Lq];rw[Bool.eq_iff_iff];simp
theorem za (a b:List UInt8):fB .lss (.pv (.str a)) (.pv (.str b))=some (.pv (.bool (dz a b))):=_root_.id rfl
theorem EC (r o:Nat):GW 1 (.ptr r o) (.pv .nilp)=some false:=_root_.id rfl
theorem zd:GW 1 (.pv .nilp) (.pv .nilp)=some true:=_root_.id rfl
theorem Eg (k:IntKind)(n:Int):Lt (.pv (.int k n))=some (.pv (.int k (k.wrap (0 - n)))):=_root_.id rfl
theorem y3 (b:Bool):Lr (.pv (.bool b))=some (.pv (.bool (!b))):=_root_.id rfl
theorem y8 (k k':IntKind)(n:Int):vf k (.pv (.int k' n))=some (.pv (.int k (k.wrap n))):=_root_.id rfl
theorem Ef (r o:Nat):Ls (.ptr r o)=some (.ptr r o):=_root_.id rfl
theorem IO (i:Nat)(ps:List PV):Lu i (.pv (.tup ps))=(ps[i]?).map .pv:=_root_.id rfl
theorem zU {α β:Type}(f:α→β)(a:α):(some a).map f=some (f a):=_root_.id rfl
theorem RL {α:Type}(x:α)(r:List α):(x::r)[0]? = some x:=_root_.id rfl
theorem RK {α:Type}(x:α)(r:List α)(n:Nat):(x::r)[n+1]? = r[n]?:=_root_.id rfl
theorem IQ:pvs []=some []:=_root_.id rfl
def Pb:Option PV→Option (List PV)→Option (List PV)
 | some p,some ps=>some (p::ps)
 | _,_=>none
theorem zh (p:PV)(ps:List PV):Pb (some p) (some ps)=some (p::ps):=_root_.id rfl
theorem zj (x:Option (List PV)):Pb none x=none:=_root_.id rfl
theorem vj (x:Option PV):Pb x none=none:=by cases x<;>rfl
theorem sR (x:AV)(r:List AV):pvs (x::r)=Pb x.toPV (pvs r):=by
 show (match x.toPV,pvs r with | some p,some ps=>some (p::ps) | _,_=>none)=_
 cases x.toPV<;>cases pvs r<;>rfl
theorem qS:∀ (ps:List PV),pvs (ps.map .pv)=some ps
 | []=>rfl
 | x::r=>by rw[List.map_cons,sR,qS r];rfl
theorem HW (p:PV):(AV.pv p).toPV=some p:=_root_.id rfl
theorem uD (r s:Nat)(l:List PV):(AV.olist r s l).toPV=some (.list l):=_root_.id rfl
theorem Di (r s o n:Nat):(AV.row r s o n).toPV=none:=_root_.id rfl
def Ap (cs:List AV):Option (List PV)→AV
 | some ps=>.pv (.agg ps)
 | none=>.agg cs
theorem Ji (cs:List AV):jl cs=Ap cs (pvs cs):=by unfold jl;cases pvs cs<;>rfl
theorem rr (cs:List AV)(ps:List PV):Ap cs (some ps) = .pv (.agg ps):=_root_.id rfl
theorem rt (cs:List AV):Ap cs none = .agg cs:=_root_.id rfl
def G7 (cs:List AV):Option (List PV)→AV
 | some ps=>.pv (.tup ps)
 | none=>.tup cs
theorem Jg (cs:List AV):oV cs=G7 cs (pvs cs):=by unfold oV;cases pvs cs<;>rfl
theorem rn (cs:List AV)(ps:List PV):G7 cs (some ps) = .pv (.tup ps):=_root_.id rfl
def Ao (f:Nat)(fs cs:List AV):Option (List PV)→Option (List PV)→AV
 | some a,some b=>.pv (.clo f a b)
 | _,_=>.clo f fs cs
theorem Jh (f:Nat)(fs cs:List AV):rq f fs cs=Ao f fs cs (pvs fs) (pvs cs):=by unfold rq Ao;cases pvs fs<;>cases pvs cs<;>rfl
theorem rp (f:Nat)(fs cs:List AV)(a b:List PV):Ao f fs cs (some a) (some b) = .pv (.clo f a b):=_root_.id rfl
theorem B4 (p:PV):(AV.pv p).cells=p.cells.map .pv:=_root_.id rfl
theorem wH (r o:Nat):(AV.ptr r o).cells=[.ptr r o]:=_root_.id rfl
theorem wG (r s o n:Nat):(AV.row r s o n).cells=[.row r s o n]:=_root_.id rfl
theorem pJ (r s:Nat)(l:List PV):(AV.olist r s l).cells=[.olist r s l]:=_root_.id rfl
theorem cZ (cs:List PV):(PV.agg cs).cells=cs:=_root_.id rfl
theorem wF (b:Bool):(PV.bool b).cells=[.bool b]:=_root_.id rfl
theorem B2 (k:IntKind)(n:Int):(PV.int k n).cells=[.int k n]:=_root_.id rfl
theorem B0 (s:List UInt8):(PV.str s).cells=[.str s]:=_root_.id rfl
theorem wE:PV.nils.cells=[.nils]:=_root_.id rfl
theorem B3 (f:Nat)(a b:List PV):(PV.clo f a b).cells=[.clo f a b]:=_root_.id rfl
def Jq (g:Bool)(sz o:Nat):Blk→Option AV
 | .cells _ _ l=>d8 g sz o l
 | _=>none
theorem rB (g:Bool)(sz o T:Nat)(f:Bool)(l:List AV):Jq g sz o (.cells T f l)=d8 g sz o l:=_root_.id rfl
def Jm (g:Bool)(sz o:Nat):Option PV→Option AV
 | some e=>lB g sz o e
 | none=>none
theorem vV (g:Bool)(sz o:Nat)(e:PV):Jm g sz o (some e)=lB g sz o e:=_root_.id rfl
theorem y4 (G:Nat→List PV)(g:Bool)(sz:Nat)(σ:aw)(r o:Nat):e6 G g sz σ (.ptr r o)=Jq g sz o (σ r):=by
 simp only[e6,Jq];cases σ r<;>rfl
theorem u9 (G:Nat→List PV)(g:Bool)(sz:Nat)(σ:aw)(l:List PV)(i o:Nat):e6 G g sz σ (.pv (.eptr l i o))=Jm g sz o l[i]?:=by
 simp only[e6,Jm];cases l[i]? <;> rfl
theorem Jp (sz o:Nat)(e:PV):lB false sz o e=d8 false sz o (e.cells.map .pv):=by simp[lB]
theorem Jo {sz o:Nat}{cs:List PV}(h:0<o):lB true sz o (.agg cs)=d8 true sz o (cs.map .pv):=by
 simp[lB,PV.cells];omega
def js (e:List (Nat×AV))(σ:List (Nat×Blk))(new:Nat):XOp→Option (AV×List (Nat×Blk))
 | .cap sz x=>(MC sz (fun r=>lookB r σ) (evE e x)).map fun v=>(v,[])
 | .resl sz x h=>(yY sz (fun r=>lookB r σ) (evE e x) (evE e h)).map fun v=>(v,[])
 | .copy sz x y=>y7 sz (fun r=>lookB r σ) (evE e x) (evE e y)
 | .apart x y=>(oA (fun r=>lookB r σ) (evE e x) (evE e y)).map fun v=>(v,[])
 | .appz t sz by_ zs x k=>ze t sz by_ zs new (fun r=>lookB r σ) (evE e x) (evE e k)
 | .noesc x=>some (evE e x,[])
 | .ucast u n b x=>(fh u n b (fun r=>lookB r σ) (evE e x)).map fun v=>(v,[])
 | .peq ng x y=>(IK ng (evE e x) (evE e y)).map fun v=>(v,[])
 | .anyc=>some (.any,[])
 | .apps t by_ x y=>lx t by_ new (fun r=>lookB r σ) (evE e x) (evE e y)
 | .sdata x=>(gF (evE e x)).map fun v=>(v,[])
 | .ustr t x k=>ot t (fun r=>lookB r σ) (evE e x) (evE e k)
 | .ofStr x=>ki new (evE e x)
 | .fnil ng x y=>(Eo ng (evE e x) (evE e y)).map fun v=>(v,[])
 | .inil ng x y=>(ou ng (evE e x) (evE e y)).map fun v=>(v,[])
 | .idxb x y=>(qL (evE e x) (evE e y)).map fun v=>(v,[])
 | .mki T x=>(O9 T (evE e x)).map fun v=>(v,[])
 | .mkmap=>some (.mp new,[(new,.mp [])])
 | .mlook kd co z x k=>(mP kd co z (fun r=>lookB r σ) (evE e x) (evE e k)).map fun v=>(v,[])
 | .mset kd x k v=>(mO kd (fun r=>lookB r σ) (evE e x) (evE e k) (evE e v)).map fun d=>(.pv .undef,d)
 | .bslf sz len xs=>oz sz len (evL e xs)
 | .same x=>yX (fun r=>lookB r σ) (evE e x)
theorem HH (e:List (Nat×AV))(σ:List (Nat×Blk))(n new:Nat)(o:XOp):o.run new (St.E ⟨e,σ,n⟩) (St.σ ⟨e,σ,n⟩)=js e σ new o:=by
 cases o<;>simp only[XOp.run,js,jn,FU]<;>rfl
def nL (G:Nat→List PV)(e:List (Nat×AV))(σ:List (Nat×Blk))(new:Nat):MOp→Option (AV×List (Nat×Blk))
 | .alloc T zs=>some (.ptr new 0,[(new,.cells T true (zs.map .pv))])
 | .box T x=>if (evE e x).known=true then some (.ptr new 0,[(new,.cells T true (evE e x).cells)]) else none
 | .cbox T x=>match (evE e x).toPV with
   | some p=>if p.cells.all PV.one=true then some (.pv (.eptr [p] 0 0),[(new,.none)]) else none
   | none=>none
 | .load g sz x=>(e6 G g sz (fun r=>lookB r σ) (evE e x)).map fun v=>(v,[])
 | .store sz x v=>(gE sz (fun r=>lookB r σ) (evE e x) (evE e v)).map fun d=>(.pv .undef,d)
 | .clear sz zs x=>(ox sz zs (fun r=>lookB r σ) (evE e x)).map fun d=>(.pv (.tup []),d)
 | .toStr x=>(gD (fun r=>lookB r σ) (evE e x)).map fun v=>(v,[])
 | .xop o=>js e σ new o
 | .bslice mu t sz len xs=>f8 mu t sz len new (evL e xs)
 | .append mu t sz by_ x y=>dO mu t sz by_ new (fun r=>lookB r σ) (evE e x) (evE e y)
 | .mk mu t sz by_ zs x y=>rMk mu t sz by_ zs new (evE e x) (evE e y)
 | .sliceA n sz x lo hi=>match evE e x with
   | .ptr r o=>match lookB r σ with
     | .cells _ f l=>if f=true∧o+n*sz≤l.length∧(o=0→n*sz=l.length)∧n≤9223372036854775807 then (iv sz (.row r sz o n) (evO e lo) (evO e hi)).map fun v=>(v,[]) else none
     | _=>none
   | _=>none
theorem Ar (G:Nat→List PV)(e:List (Nat×AV))(σ:List (Nat×Blk))(n new:Nat)(o:MOp):o.run G new (St.E ⟨e,σ,n⟩) (St.σ ⟨e,σ,n⟩)=nL G e σ new o:=by
 cases o<;>first | (simp only[MOp.run,nL,jn,FU,Nm]<;>rfl) | exact HH e σ n new _
def fV (δ:List (Nat×Blk)):Option AV→Option (AV×List (Nat×Blk))
 | some v=>some (v,δ)
 | none=>none
theorem uw (δ:List (Nat×Blk))(v:AV):fV δ (some v)=some (v,δ):=_root_.id rfl
def CZ (v:AV):Option (List (Nat×Blk))→Option (AV×List (Nat×Blk))
 | some δ=>some (v,δ)
 | none=>none
theorem uu (δ:List (Nat×Blk))(v:AV):CZ v (some δ)=some (v,δ):=_root_.id rfl
theorem vR (G:Nat→List PV)(e:List (Nat×AV))(σ:List (Nat×Blk))(new T:Nat)(zs:List PV):nL G e σ new (.alloc T zs)=some (.ptr new 0,[(new,.cells T true (zs.map .pv))]):=_root_.id rfl
def RB (new T:Nat)(v:AV):Bool→Option (AV×List (Nat×Blk))
 | true=>some (.ptr new 0,[(new,.cells T true v.cells)])
 | false=>none
theorem NI (new T:Nat)(v:AV):RB new T v true=some (.ptr new 0,[(new,.cells T true v.cells)]):=_root_.id rfl
theorem Fj (G:Nat→List PV)(e:List (Nat×AV))(σ:List (Nat×Blk))(new T:Nat)(x:AX):nL G e σ new (.box T x)=RB new T (evE e x) (evE e x).known:=by
 simp only[nL];cases (evE e x).known<;>rfl
def Kd (new:Nat):Option PV→Option (AV×List (Nat×Blk))
 | some p=>if p.cells.all PV.one=true then some (.pv (.eptr [p] 0 0),[(new,.none)]) else none
 | none=>none
theorem wI (new:Nat)(p:PV):Kd new (some p)=if p.cells.all PV.one=true then some (.pv (.eptr [p] 0 0),[(new,.none)]) else none:=_root_.id rfl
theorem As (G:Nat→List PV)(e:List (Nat×AV))(σ:List (Nat×Blk))(new T:Nat)(x:AX):nL G e σ new (.cbox T x)=Kd new (evE e x).toPV:=by
 simp only[nL,Kd]
theorem Fu (p:PV):(AV.pv p).known=true:=_root_.id rfl
theorem AH (r o:Nat):(AV.ptr r o).known=true:=_root_.id rfl
theorem AG (r s o n:Nat):(AV.row r s o n).known=true:=_root_.id rfl
theorem rD (r s:Nat)(l:List PV):(AV.olist r s l).known=true:=_root_.id rfl
theorem Aq (G:Nat→List PV)(e:List (Nat×AV))(σ:List (Nat×Blk))(new:Nat)(g:Bool)(sz:Nat)(x:AX):nL G e σ new (.load g sz x)=fV [] (e6 G g sz (fun r=>lookB r σ) (evE e x)):=by
 simp only[nL];cases e6 G g sz (fun r=>lookB r σ) (evE e x)<;>rfl
theorem vQ (G:Nat→List PV)(e:List (Nat×AV))(σ:List (Nat×Blk))(new sz:Nat)(x v:AX):nL G e σ new (.store sz x v)=CZ (.pv .undef) (gE sz (fun r=>lookB r σ) (evE e x) (evE e v)):=by
 simp only[nL];cases gE sz (fun r=>lookB r σ) (evE e x) (evE e v)<;>rfl
theorem ry (G:Nat→List PV)(e:List (Nat×AV))(σ:List (Nat×Blk))(new:Nat)(mu:Bool)(t sz len:Nat)(xs:List AX):nL G e σ new (.bslice mu t sz len xs)=f8 mu t sz len new (evL e xs):=_root_.id rfl
theorem rz (G:Nat→List PV)(e:List (Nat×AV))(σ:List (Nat×Blk))(new:Nat)(mu:Bool)(t sz by_:Nat)(x y:AX):nL G e σ new (.append mu t sz by_ x y)=dO mu t sz by_ new (fun r=>lookB r σ) (evE e x) (evE e y):=_root_.id rfl
def sB (sz r o:Nat)(v:AV):Blk→Option (List (Nat×Blk))
 | .cells T f l=>if v.known=true∧v.cells.length=sz∧v.cells.all AV.one=true∧o+sz≤l.length then some [(r,.cells T f (l.take o++v.cells++l.drop (o+sz)))] else none
 | _=>none
theorem uZ (sz:Nat)(σ:aw)(r o:Nat)(v:AV):gE sz σ (.ptr r o) v=sB sz r o v (σ r):=by
 simp only[gE,sB];cases σ r<;>rfl
def GH (r T:Nat)(f:Bool)(l:List AV)(sz o:Nat)(cs:List AV):Bool→Option (List (Nat×Blk))
 | true=>some [(r,.cells T f (l.take o++cs++l.drop (o+sz)))]
 | false=>none
theorem nY (sz r o:Nat)(v:AV)(T:Nat)(f:Bool)(l:List AV):sB sz r o v (.cells T f l)=GH r T f l sz o v.cells (v.known&&decide (v.cells.length=sz)&&v.cells.all AV.one&&decide (o+sz≤l.length)):=by
 simp only[sB]
 by_cases h:v.known=true∧v.cells.length=sz∧v.cells.all AV.one=true∧o+sz≤l.length
 ·rw[if_pos h]
  have:(v.known&&decide (v.cells.length=sz)&&v.cells.all AV.one&&decide (o+sz≤l.length))=true:=by simp only[Bool.and_eq_true,decide_eq_true_eq];exact⟨⟨⟨h.1,h.2.1⟩,h.2.2.1⟩,h.2.2.2⟩
  rw[this];rfl
 ·rw[if_neg h]
  have:(v.known&&decide (v.cells.length=sz)&&v.cells.all AV.one&&decide (o+sz≤l.length))=false:=by
   rw[Bool.eq_false_iff]
   intro hh
   simp only[Bool.and_eq_true,decide_eq_true_eq] at hh
   exact h ⟨hh.1.1.1,hh.1.1.2,hh.1.2,hh.2⟩
  rw[this];rfl
theorem DR (r T:Nat)(f:Bool)(l:List AV)(sz o:Nat)(cs:List AV):GH r T f l sz o cs true=some [(r,.cells T f (l.take o++cs++l.drop (o+sz)))]:=_root_.id rfl
theorem ir {n m by_:Nat}(h1:n+m≤9223372036854775807)(h2:(n+m)*by_≤140737488355328):mL n m by_=true:=by
 simp[mL,h1,h2]
theorem C9 (l:List (Nat×Blk)):lp l []=l:=_root_.id rfl
theorem xN (l:List (Nat×Blk))(p:Nat×Blk)(r:List (Nat×Blk)):lp l (p::r)=lp (p::l) r:=_root_.id rfl
theorem F4 (f:Nat)(a b:List PV):dD (.pv (.clo f a b))=some (f,a.map .pv,b.map .pv):=_root_.id rfl
theorem IW {α:Type}(a:α)(k:α→Prop):aK (some a) k=k a:=_root_.id rfl
section
variable {P:Program}{G:Nat→List PV}
theorem E8 (F:St→Prop)(e:List (Nat×AV))(σ:List (Nat×Blk))(n d:Nat)(v:AV):Jb F ⟨e,σ,n⟩ (some d) v=F ⟨(d,v)::e,σ,n⟩:=_root_.id rfl
theorem Fa (F:St→Prop)(e:List (Nat×AV))(σ:List (Nat×Blk))(n d:Nat)(v:AV)(δ:List (Nat×Blk)):vH F ⟨e,σ,n⟩ (some d) (v,δ)=F ⟨(d,v)::e,lp σ δ,n+1⟩:=_root_.id rfl
theorem E9 (F:St→Prop)(e:List (Nat×AV))(σ:List (Nat×Blk))(n:Nat)(v:AV)(δ:List (Nat×Blk)):vH F ⟨e,σ,n⟩ none (v,δ)=F ⟨e,lp σ δ,n+1⟩:=_root_.id rfl
theorem Fb (F:St→Prop)(e:List (Nat×AV))(σ:List (Nat×Blk))(n d:Nat)(v:AV):Jc F (some d) v ⟨e,σ,n⟩=F ⟨(d,v)::e,σ,n⟩:=_root_.id rfl
theorem F9 (args:List AV)(s:St)(K:AV→St→Prop)(f:Nat)(a b:List AV):B5 P G args s K (f,a,b)=ab P G f (a++args++b) s K:=_root_.id rfl
theorem xy (F:St→Prop)(s:St):dB P G [] F s=F s:=_root_.id rfl
theorem uA (d:Option Nat)(o:AOp)(r:List AOper)(F:St→Prop)(s:St):dB P G (⟨d,o,none⟩::r) F s=lr P G (dB P G r F) s d o:=_root_.id rfl
def jR (b:Bool):AV→Option Bool
 | .pv (.bool x)=>some (x == b)
 | .pv .undef=>some false
 | _=>none
theorem xw (x:Bool):jR true (.pv (.bool x))=some x:=by cases x<;>rfl
theorem xx (x:Bool):jR false (.pv (.bool x))=some (!x):=by cases x<;>rfl
theorem xu (b:Bool):jR b (.pv .undef)=some false:=_root_.id rfl
theorem qm (d:Option Nat)(o:AOp)(i:Nat)(b:Bool)(r:List AOper)(F:St→Prop)(e:List (Nat×AV))(σ:List (Nat×Blk))(n:Nat) :
  dB P G (⟨d,o,some (i,b)⟩::r) F ⟨e,σ,n⟩=aK (jR b (look i e)) (J2 P G (dB P G r F) ⟨e,σ,n⟩ d o):=_root_.id rfl
theorem BG (F:St→Prop)(s:St)(d:Option Nat)(o:AOp):J2 P G F s d o true=lr P G F s d o:=_root_.id rfl
theorem wq (F:St→Prop)(e:List (Nat×AV))(σ:List (Nat×Blk))(n:Nat)(d:Nat)(o:AOp):J2 P G F ⟨e,σ,n⟩ (some d) o false=F ⟨(d,.pv .undef)::e,σ,n⟩:=_root_.id rfl
def PX (k:AV→Prop):AV→Prop
 | .pv (.list [])=>∀ b:Bool,k (.pv (.bool b))
 | _=>False
def q9 (x:Option AV)(k:AV→Prop)(e:List (Nat×AV))(o:TOp):Prop:=
 match x with
 | some v=>k v
 | none=>match o with
   | .beq 2 _ y (.c .nils)=>PX k (evE e y)
   | _=>False
theorem oE (v:AV)(k:AV→Prop)(e:List (Nat×AV))(o:TOp):q9 (some v) k e o=k v:=_root_.id rfl
theorem Nq (F:St→Prop)(e:List (Nat×AV))(σ:List (Nat×Blk))(n:Nat)(d:Option Nat)(o:TOp):lr P G F ⟨e,σ,n⟩ d (.t o)=q9 (iZ e o) (Jb F ⟨e,σ,n⟩ d) e o:=by
 rw[← x6 e σ n]
 show iB (o.run (St.E ⟨e,σ,n⟩)) _ _=_
 cases hr:o.run (St.E ⟨e,σ,n⟩) with
 | some v=>rfl
 | none=>
   simp only[iB,q9]
   refine propext ⟨fun h=>?_,fun h=>?_⟩
   ·obtain⟨h1,h2⟩:=h
    unfold MT at h1
    split at h1
    ·split at h1
     ·rename_i hev
      rw[jn] at hev
      show PX _ _
      rw[hev];exact h2
     ·cases h1
    ·cases h1
   ·split at h
    ·rename_i y
     unfold PX at h
     split at h
     ·rename_i hev
      refine⟨?_,h⟩
      simp only[MT]
      rw[jn,hev]
     ·exact h.elim
    ·exact h.elim
theorem Nr (F:St→Prop)(e:List (Nat×AV))(σ:List (Nat×Blk))(n:Nat)(d:Option Nat)(o:MOp):lr P G F ⟨e,σ,n⟩ d (.m o)=aK (nL G e σ n o) (vH F ⟨e,σ,n⟩ d):=by
 rw[← Ar G e σ n];rfl
theorem BF (F:St→Prop)(e:List (Nat×AV))(σ:List (Nat×Blk))(n:Nat)(d:Option Nat)(f:AX)(xs:List AX):lr P G F ⟨e,σ,n⟩ d (.call f xs)=aK (dD (evE e f)) (B5 P G (evL e xs) ⟨e,σ,n⟩ (Jc F d)):=by
 rw[← jn e σ n,← Bm e σ n];rfl
theorem DS (F:List (List Nat×List Nat)→St→Prop)(T:List (List Nat×List Nat))(e:List (Nat×AV))(σ:List (Nat×Blk))(n d:Nat)(v:AV):DT F T ⟨e,σ,n⟩ (some d) v=F (T++[([],[])]) ⟨(d,v)::e,σ,n⟩:=_root_.id rfl
theorem DV (F:List (List Nat×List Nat)→St→Prop)(T:List (List Nat×List Nat))(e:List (Nat×AV))(σ:List (Nat×Blk))(n d k:Nat)(rd:List Nat)(v:AV)(δ:List (Nat×Blk)):ye F T ⟨e,σ,n⟩ (some d) k rd (v,δ)=F (T++[ff k (aW δ) rd]) ⟨(d,v)::e,lp σ δ,n+1⟩:=_root_.id rfl
theorem DU (F:List (List Nat×List Nat)→St→Prop)(T:List (List Nat×List Nat))(e:List (Nat×AV))(σ:List (Nat×Blk))(n k:Nat)(rd:List Nat)(v:AV)(δ:List (Nat×Blk)):ye F T ⟨e,σ,n⟩ none k rd (v,δ)=F (T++[ff k (aW δ) rd]) ⟨e,lp σ δ,n+1⟩:=_root_.id rfl
theorem ae {F:List (List Nat×List Nat)→St→Prop}{T:List (List Nat×List Nat)}{e:List (Nat×AV)}{σ:List (Nat×Blk)}{n d:Nat}{f:Nat}{a b args:List AV}{ps:List PV}{r:PV}(h:aq P G f ps r)(he:pvs (a++args++b)=some ps)
  (hk:F (T++[([],[])]) ⟨(d,.pv r)::e,σ,n⟩):jf P G F T ⟨e,σ,n⟩ (some d) args (f,a,b):=.inl ⟨ps,r,he,h,hk⟩
theorem rO {F:List (List Nat×List Nat)→St→Prop}{T:List (List Nat×List Nat)}{e:List (Nat×AV)}{σ:List (Nat×Blk)}{n d:Nat}{f:Nat}{a b args:List AV}{v:AV}{δ:List (Nat×Blk)}{top:Nat}(h:cz P G f (a++args++b) σ n (fun v' sto' n'=>v'=v∧sto'=lp σ δ∧n'=top))(ht:n≤top)
  (hk:F (T++[ff 2 (aW δ) (σ.map (·.1))]) ⟨(d,v)::e,lp σ δ,top⟩):jf P G F T ⟨e,σ,n⟩ (some d) args (f,a,b):=.inr ⟨v,δ,top,h,ht,hk⟩
theorem Mq (ks rs:List Nat):ff 0 ks rs=(ks.map (· + 1),rs.map (· + 1)):=_root_.id rfl
theorem Mp (ks rs:List Nat):ff 1 ks rs=(ks.map (· + 1),0::rs.map (· + 1)):=_root_.id rfl
theorem Mo (ks rs:List Nat):ff 2 ks rs=(0::ks.map (· + 1),rs.map (· + 1)):=_root_.id rfl
theorem ru (g:Bool)(sz:Nat)(x:AX):dt (.load g sz x)=0:=_root_.id rfl
theorem oY (sz:Nat)(x v:AX):dt (.store sz x v)=0:=_root_.id rfl
theorem oX (x:AX):dt (.toStr x)=0:=_root_.id rfl
theorem o7 (T:Nat)(z:List PV):dt (.alloc T z)=1:=_root_.id rfl
theorem mT (m:Bool)(e s l:Nat)(x:List AX):dt (.bslice m e s l x)=1:=_root_.id rfl
theorem HQ {A:List (List Nat)}{F:St→Prop}{T:List (List Nat×List Nat)}{s:St}(h:Chk (okB A T)):vcD P G A F [] T s=F s:=by
 show (okB A T=true∧F s)=F s
 rw[eq_iff_iff]
 exact⟨fun x=>x.2,fun x=>⟨h,x⟩⟩
theorem C8 (A:List (List Nat))(F:St→Prop)(d:Option Nat)(o:AOp)(r:List AOper)(T:List (List Nat×List Nat))(s:St):vcD P G A F (⟨d,o,none⟩::r) T s=g8 P G (vcD P G A F r) T s d o:=_root_.id rfl
theorem xz (A:List (List Nat))(F:St→Prop)(d:Option Nat)(o:AOp)(i:Nat)(b:Bool)(r:List AOper)(T:List (List Nat×List Nat))(e:List (Nat×AV))(σ:List (Nat×Blk))(n:Nat) :
  vcD P G A F (⟨d,o,some (i,b)⟩::r) T ⟨e,σ,n⟩=aK (jR b (look i e)) (rL P G (vcD P G A F r) T ⟨e,σ,n⟩ d o):=_root_.id rfl
theorem ws (F:List (List Nat×List Nat)→St→Prop)(T:List (List Nat×List Nat))(s:St)(d:Option Nat)(o:AOp):rL P G F T s d o true=g8 P G F T s d o:=_root_.id rfl
theorem rK (F:List (List Nat×List Nat)→St→Prop)(T:List (List Nat×List Nat))(e:List (Nat×AV))(σ:List (Nat×Blk))(n:Nat)(d:Nat)(o:AOp):rL P G F T ⟨e,σ,n⟩ (some d) o false=F (T++[([],[])]) ⟨(d,.pv .undef)::e,σ,n⟩:=_root_.id rfl
theorem J0 (F:List (List Nat×List Nat)→St→Prop)(T:List (List Nat×List Nat))(e:List (Nat×AV))(σ:List (Nat×Blk))(n:Nat)(d:Option Nat)(o:TOp):g8 P G F T ⟨e,σ,n⟩ d (.t o)=aK (iZ e o) (DT F T ⟨e,σ,n⟩ d):=by
 rw[← x6 e σ n];rfl
def nQ (e:List (Nat×AV)):XOp→List Nat
 | .cap _ x=>(evE e x).name
 | .resl _ x _=>(evE e x).name
 | .copy _ x y | .apart x y=>(evE e x).name++(evE e y).name
 | .appz _ _ _ _ x _=>(evE e x).name
 | .ucast _ _ _ x | .apps _ _ x _ | .ustr _ x _ | .same x=>(evE e x).name
 | .noesc _ | .peq _ _ _ | .anyc | .sdata _ | .ofStr _ | .fnil _ _ _ | .inil _ _ _ | .idxb _ _ | .mki _ _ | .mkmap | .bslf _ _ _=>[]
 | .mlook _ _ _ x _ | .mset _ x _ _=>(evE e x).name
def gL (e:List (Nat×AV)):MOp→List Nat
 | .xop o=>nQ e o
 | .load _ _ x | .sliceA _ _ x _ _ | .clear _ _ x | .toStr x=>(evE e x).name
 | .append _ _ _ _ x y=>(evE e x).name++(evE e y).name
 | .store _ x _=>(evE e x).name
 | .alloc _ _ | .box _ _ | .cbox _ _ | .bslice _ _ _ _ _ | .mk _ _ _ _ _ _ _=>[]
theorem o8 (e:List (Nat×AV))(x:AX):gL e (.toStr x)=(evE e x).name:=_root_.id rfl
theorem rA (e:List (Nat×AV))(g:Bool)(sz:Nat)(x:AX):gL e (.load g sz x)=(evE e x).name:=_root_.id rfl
theorem pa (e:List (Nat×AV))(T:Nat)(x:List PV):gL e (.alloc T x)=[]:=_root_.id rfl
theorem o9 (e:List (Nat×AV))(sz:Nat)(x v:AX):gL e (.store sz x v)=(evE e x).name:=_root_.id rfl
theorem mU (e:List (Nat×AV))(mu:Bool)(t sz b:Nat)(x:List AX):gL e (.bslice mu t sz b x)=[]:=_root_.id rfl
theorem Jf (p:PV):(AV.pv p).name=[]:=_root_.id rfl
theorem Fg (r o:Nat):(AV.ptr r o).name=[r]:=_root_.id rfl
theorem vM (r s:Nat)(l:List PV):(AV.olist r s l).name=[r]:=_root_.id rfl
theorem AJ:aW ([]:List (Nat×Blk))=[]:=_root_.id rfl
theorem vZ (r:Nat)(B:Blk)(q:List (Nat×Blk)):aW ((r,B)::q)=r::aW q:=_root_.id rfl
theorem J1 (F:List (List Nat×List Nat)→St→Prop)(T:List (List Nat×List Nat))(e:List (Nat×AV))(σ:List (Nat×Blk))(n:Nat)(d:Option Nat)(o:MOp):g8 P G F T ⟨e,σ,n⟩ d (.m o)=aK (nL G e σ n o) (ye F T ⟨e,σ,n⟩ d (dt o) (gL e o)):=by
 have:gL e o=o.reads (St.E ⟨e,σ,n⟩):=by
  cases o<;>simp only[gL,MOp.reads,jn]
  rename_i o
  cases o<;>simp only[nQ,XOp.reads,jn]
 rw[← Ar G e σ n,this];rfl
theorem wp (F:List (List Nat×List Nat)→St→Prop)(T:List (List Nat×List Nat))(e:List (Nat×AV))(σ:List (Nat×Blk))(n:Nat)(d:Option Nat)(f:AX)(xs:List AX):g8 P G F T ⟨e,σ,n⟩ d (.call f xs)=aK (dD (evE e f)) (jf P G F T ⟨e,σ,n⟩ d (evL e xs)):=by
 rw[← jn e σ n,← Bm e σ n];rfl
def wC (e:List (Nat×AV)):List Nat→List (Nat×AV)
 | []=>[]
 | k::r=>(k,look k e)::wC e r
theorem BW (e:List (Nat×AV)):wC e []=[]:=_root_.id rfl
theorem wA (e:List (Nat×AV))(k:Nat)(r:List Nat):wC e (k::r)=(k,look k e)::wC e r:=_root_.id rfl
theorem tU (e:List (Nat×AV))(σ:List (Nat×Blk))(n:Nat):∀ (l:List Nat),l.map (fun i=>(i,St.E ⟨e,σ,n⟩ i))=wC e l
 | []=>rfl
 | k::r=>by rw[List.map_cons,tU e σ n r];rfl
theorem BX (seen:List Nat):je seen []=[]:=_root_.id rfl
theorem wD (seen:List Nat)(k:Nat)(b:Blk)(r:List (Nat×Blk)):je seen ((k,b)::r)=wu k b (je (k::seen) r) (tj k seen):=_root_.id rfl
theorem J6 (k:Nat)(b:Blk)(r:List (Nat×Blk)):wu k b r true=r:=_root_.id rfl
theorem J7 (k:Nat)(b:Blk)(r:List (Nat×Blk)):wu k b r false=(k,b)::r:=_root_.id rfl
theorem Fi (k:Nat):tj k []=false:=_root_.id rfl
theorem MW (k j:Nat)(r:List Nat):tj k (j::r)=if j=k then true else tj k r:=_root_.id rfl
theorem E3 (Q:AExit→St→Prop)(keep:List Nat)(e:List (Nat×AV))(σ:List (Nat×Blk))(n:Nat):rg Q keep ⟨e,σ,n⟩=Q .norm ⟨wC e keep,je [] σ,n⟩:=by
 rw[← tU e σ n];rfl
theorem CA (F:St→Prop)(Q:AExit→St→Prop)(s:St):Hy F Q .norm s=F s:=_root_.id rfl
theorem CB (F:St→Prop)(Q:AExit→St→Prop)(i:Nat)(s:St):Hy F Q (.exit i) s=Q (.exit i) s:=_root_.id rfl
theorem Gu (F:St→Prop)(Q:AExit→St→Prop)(s:St):Hy F Q .ret s=Q .ret s:=_root_.id rfl
theorem se (id:Nat)(Q:AExit→St→Prop)(s:St):fU id Q .norm s=Q .norm s:=_root_.id rfl
theorem sf (id:Nat)(Q:AExit→St→Prop)(i:Nat)(s:St):fU id Q (.exit i) s=if i=id then Q .norm s else Q (.exit i) s:=_root_.id rfl
theorem wX (id:Nat)(Q:AExit→St→Prop)(s:St):fU id Q .ret s=Q .ret s:=_root_.id rfl
theorem HM (m0:Nat)(Q:AExit→St→Prop)(s:St):vc P G m0 .skip Q s=Q .norm s:=_root_.id rfl
theorem LO (m0:Nat)(l:List AOper)(keep:List Nat)(Q:AExit→St→Prop)(s:St):vc P G m0 (.ops l keep) Q s=dB P G l (rg Q keep) s:=_root_.id rfl
theorem HO (m0:Nat)(A:List (List Nat))(l l2:List AOper)(keep:List Nat)(Q:AExit→St→Prop)(s:St):vc P G m0 (.draw A l l2 keep) Q s=vcD P G A (dB P G l2 (rg Q keep)) l [] s:=_root_.id rfl
theorem JZ (F:St→Prop)(e:List (Nat×AV))(σ:List (Nat×Blk))(n:Nat)(d:Option Nat)(g:Option (Bool×Nat))(x:AX):lr P G F ⟨e,σ,n⟩ d (.fz g x)=aK (JN G (fun r=>lookB r σ) g (evE e x)) (vH F ⟨e,σ,n⟩ d):=by
 rw[← jn e σ n];rfl
theorem LL (m0:Nat)(a b:ACode)(Q:AExit→St→Prop)(s:St):vc P G m0 (.seq a b) Q s=vc P G m0 a (Hy (vc P G m0 b Q) Q) s:=_root_.id rfl
theorem HP (m0:Nat)(x:AX)(a b:ACode)(Q:AExit→St→Prop)(e:List (Nat×AV))(σ:List (Nat×Blk))(n:Nat):vc P G m0 (.cond x a b) Q ⟨e,σ,n⟩=oF (evE e x) (vc P G m0 a Q) (vc P G m0 b Q) ⟨e,σ,n⟩:=by
 rw[← jn e σ n];rfl
theorem C7 (m0 id:Nat)(b:ACode)(Q:AExit→St→Prop)(s:St):vc P G m0 (.block id b) Q s=vc P G m0 b (fU id Q) s:=_root_.id rfl
theorem HN (m0 id:Nat)(Q:AExit→St→Prop)(s:St):vc P G m0 (.exit id) Q s=Q (.exit id) s:=_root_.id rfl
theorem LN (m0:Nat)(Q:AExit→St→Prop)(s:St):vc P G m0 .ret Q s=Q .ret s:=_root_.id rfl
theorem EX (b:Bool)(F H:St→Prop)(s:St):oF (.pv (.bool b)) F H s=ifB b F H s:=by cases b<;>rfl
theorem Qc (F H:St→Prop)(s:St):ifB true F H s=F s:=_root_.id rfl
theorem Qd (F H:St→Prop)(s:St):ifB false F H s=H s:=_root_.id rfl
def Mx (G:Nat→List PV)(e:List (Nat×AV))(σ:List (Nat×Blk)):ARes→Option AV
 | .tmp t=>some (look t e)
 | .cell t g sz=>e6 G g sz (fun r=>lookB r σ) (look t e)
theorem D4 (e:List (Nat×AV))(σ:List (Nat×Blk))(t:Nat):Mx G e σ (.tmp t)=some (look t e):=_root_.id rfl
theorem yI (e:List (Nat×AV))(σ:List (Nat×Blk))(t:Nat)(g:Bool)(sz:Nat):Mx G e σ (.cell t g sz)=e6 G g sz (fun r=>lookB r σ) (look t e):=_root_.id rfl
theorem Gw (res:List ARes)(R:AV→List (Nat×Blk)→Nat→Prop)(s:St):FnK G res R .norm s=aK (fg G s res) (GT R s):=_root_.id rfl
theorem Ku (res:List ARes)(R:AV→List (Nat×Blk)→Nat→Prop)(s:St):FnK G res R .ret s=aK (fg G s res) (GT R s):=_root_.id rfl
theorem IB (R:AV→List (Nat×Blk)→Nat→Prop)(e:List (Nat×AV))(σ:List (Nat×Blk))(n:Nat)(l:List AV):GT R ⟨e,σ,n⟩ l=R (wZ l) σ n:=_root_.id rfl
theorem Mu (x:AV):wZ [x]=x:=_root_.id rfl
theorem Mv:wZ [] = .pv (.tup []):=_root_.id rfl
theorem Mt (x y:AV)(r:List AV):wZ (x::y::r)=oV (x::y::r):=_root_.id rfl
def Nx:Option AV→Option (List AV)→Option (List AV)
 | some a,some b=>some (a::b)
 | _,_=>none
theorem wv (a:AV)(b:List AV):Nx (some a) (some b)=some (a::b):=_root_.id rfl
theorem yH (s:St):fg G s []=some []:=_root_.id rfl
theorem uU (e:List (Nat×AV))(σ:List (Nat×Blk))(n:Nat)(r:ARes)(q:List ARes):fg G ⟨e,σ,n⟩ (r::q)=Nx (Mx G e σ r) (fg G ⟨e,σ,n⟩ q):=by
 have:Mw G ⟨e,σ,n⟩ r=Mx G e σ r:=by cases r<;>rfl
 show (match Mw G ⟨e,σ,n⟩ r,fg G ⟨e,σ,n⟩ q with | some a,some b=>some (a::b) | _,_=>none)=_
 rw[this]
 cases Mx G e σ r<;>cases fg G ⟨e,σ,n⟩ q<;>rfl
theorem EI (r:PV)(v:AV)(σ:List (Nat×Blk))(n:Nat):MF r v σ n=isR r σ v:=_root_.id rfl
theorem M9 (r p:PV)(σ:List (Nat×Blk)):isR r σ (.pv p)=Nz p r:=propext ⟨fun ⟨q,h,g⟩=>by cases h;exact g,fun h=>⟨(p,[]),rfl,h⟩⟩
theorem AP (r:PV)(k sz:Nat)(l:List PV)(σ:List (Nat×Blk)):isR r σ (.olist k sz l)=Nz (.list l) r:=propext ⟨fun ⟨q,h,g⟩=>by cases h;exact g,fun h=>⟨(.list l,[]),rfl,h⟩⟩
def wc:List AV→Nat→List (Nat×AV)
 | [],_=>[]
 | x::r,k=>(k,x)::wc r (k+1)
theorem AS (k:Nat):wc [] k=[]:=_root_.id rfl
theorem wb (x:AV)(r:List AV)(k:Nat):wc (x::r) k=(k,x)::wc r (k+1):=_root_.id rfl
theorem AR:∀ (args:List AV) (k:Nat),((args.zipIdx k).map fun p=>(p.2,p.1))=wc args k
 | [],k=>rfl
 | x::r,k=>by rw[List.zipIdx_cons,List.map_cons,AR r (k+1)];rfl
theorem wa (args:List AV):dv args=wc args 0:=AR args 0
theorem Py {ι:Type}(S:ι→St)(Inv:ι→Prop)(μ:ι→Nat)(x0:ι){m0:Nat}{keep:List Nat}{b:ACode}{Q:AExit→St→Prop}{s:St}(h0:Wk m0 s (S x0))(hi:Inv x0)
  (h:∀ x,Inv x→vc P G m0 b (fun e s'=>match e with
   | .norm=>∃ x',Wk m0 s' (S x')∧Inv x'∧μ x'<μ x
   | .exit i=>Q (.exit i) s'
   | .ret=>Q .ret s') (S x)):vc P G m0 (.loop keep b) Q s:=by
 refine⟨fun n s=>∃ x,s=S x∧Inv x∧μ x=n,⟨μ x0,S x0,h0,x0,rfl,hi,rfl⟩,?_⟩
 rintro n s ⟨x,rfl,hx,rfl⟩
 refine da b (fun e s' hs=>?_) _ (h x hx)
 cases e with
 | norm=>
   obtain⟨x',h1,h2,h3⟩:=hs
   exact⟨_,_,h3,h1,x',rfl,h2,rfl⟩
 | exit i=>exact⟨s',Wk.of (Wx.refl s') m0,hs⟩
 | ret=>exact hs
def Hd (A:List (Nat×Nat×Nat×Nat))(m0:Nat)(keep:List Nat)(s t:St):Prop:=Wk m0 s t
theorem bT {A:List (Nat×Nat×Nat×Nat)}{m0:Nat}{keep:List Nat}{s t:St}(h:StZ (eG A m0 keep s) t):Hd A m0 keep s t:=Wk.head h
def mA {ι:Type}(A:List (Nat×Nat×Nat×Nat))(S:ι→St)(Inv:ι→Prop)(μ:ι→Nat)(x:ι)(m0:Nat)(keep:List Nat)(Q:AExit→St→Prop):AExit→St→Prop
 | .norm,s'=>∃ x',Hd A m0 keep s' (S x')∧Inv x'∧μ x'<μ x
 | .exit i,s'=>Q (.exit i) s'
 | .ret,s'=>Q .ret s'
theorem r4 {ι:Type}(A:List (Nat×Nat×Nat×Nat))(S:ι→St)(Inv:ι→Prop)(μ:ι→Nat)(x:ι)(m0:Nat)(keep:List Nat)(Q:AExit→St→Prop)(s:St):mA A S Inv μ x m0 keep Q .norm s = ∃ x',Hd A m0 keep s (S x')∧Inv x'∧μ x'<μ x:=_root_.id rfl
theorem r5 {ι:Type}(A:List (Nat×Nat×Nat×Nat))(S:ι→St)(Inv:ι→Prop)(μ:ι→Nat)(x:ι)(m0:Nat)(keep:List Nat)(Q:AExit→St→Prop)(i:Nat)(s:St):mA A S Inv μ x m0 keep Q (.exit i) s=Q (.exit i) s:=_root_.id rfl
theorem wV {ι:Type}(A:List (Nat×Nat×Nat×Nat))(S:ι→St)(Inv:ι→Prop)(μ:ι→Nat)(x:ι)(m0:Nat)(keep:List Nat)(Q:AExit→St→Prop)(s:St):mA A S Inv μ x m0 keep Q .ret s=Q .ret s:=_root_.id rfl
theorem jS {ι:Type}(A:List (Nat×Nat×Nat×Nat))(S:ι→St)(Inv:ι→Prop)(μ:ι→Nat)(x0:ι){m0:Nat}{keep:List Nat}{b:ACode}{Q:AExit→St→Prop}{s:St}(h0:Hd A m0 keep s (S x0))(hi:Inv x0)
  (h:∀ x,Inv x→vc P G m0 b (mA A S Inv μ x m0 keep Q) (S x)):vc P G m0 (.loop keep b) Q s:=by
 refine Py S Inv μ x0 h0 hi fun x hx=>?_
 have e:(fun (e:AExit) (s':St)=>match e with
   | .norm=>∃ x',Wk m0 s' (S x')∧Inv x'∧μ x'<μ x
   | .exit i=>Q (.exit i) s'
   | .ret=>Q .ret s')=mA A S Inv μ x m0 keep Q:=by
  funext e s'
  cases e<;>rfl
 rw[e];exact h x hx
def vm (k:Nat)(x:AV):List (Nat×AV)→AV
 | []=>x
 | p::r=>if p.1=k then p.2 else vm k x r
def f9:List (Nat×AV)→List (Nat×AV)→List (Nat×AV)
 | [],_=>[]
 | p::r,ch=>(p.1,vm p.1 p.2 ch)::f9 r ch
def vo (k:Nat)(x:Blk):List (Nat×Blk)→Blk
 | []=>x
 | p::r=>if p.1=k then p.2 else vo k x r
def iA:List (Nat×Blk)→List (Nat×Blk)→List (Nat×Blk)
 | [],_=>[]
 | p::r,ch=>(p.1,vo p.1 p.2 ch)::iA r ch
theorem zu (k:Nat)(x:AV):vm k x []=x:=_root_.id rfl
theorem vl (k j:Nat)(x y:AV)(r:List (Nat×AV)):vm k x ((j,y)::r)=if j=k then y else vm k x r:=_root_.id rfl
theorem zz (ch:List (Nat×AV)):f9 [] ch=[]:=_root_.id rfl
theorem vw (k:Nat)(x:AV)(r ch:List (Nat×AV)):f9 ((k,x)::r) ch=(k,vm k x ch)::f9 r ch:=_root_.id rfl
theorem zw (k:Nat)(x:Blk):vo k x []=x:=_root_.id rfl
theorem vn (k j:Nat)(x y:Blk)(r:List (Nat×Blk)):vo k x ((j,y)::r)=if j=k then y else vo k x r:=_root_.id rfl
theorem zD (ch:List (Nat×Blk)):iA [] ch=[]:=_root_.id rfl
theorem vz (k:Nat)(x:Blk)(r ch:List (Nat×Blk)):iA ((k,x)::r) ch=(k,vo k x ch)::iA r ch:=_root_.id rfl
theorem be {ι:Type}(A:List (Nat×Nat×Nat×Nat))(ch:ι→List (Nat×AV))(chB:ι→List (Nat×Blk))(Inv:ι→Prop)(μ:ι→Nat)(x0:ι){m0:Nat}{keep:List Nat}{b:ACode}{Q:AExit→St→Prop}{s:St}
  (h:∀ e0 σ0 n0,eG A m0 keep s=⟨e0,σ0,n0⟩→StZ ⟨e0,σ0,n0⟩ ⟨f9 e0 (ch x0),iA σ0 (chB x0),n0⟩∧Inv x0 ∧
   ∀ x,Inv x→vc P G m0 b (mA A (fun x=>⟨f9 e0 (ch x),iA σ0 (chB x),n0⟩) Inv μ x m0 keep Q) ⟨f9 e0 (ch x),iA σ0 (chB x),n0⟩):vc P G m0 (.loop keep b) Q s:=by
 obtain⟨h1,h2,h3⟩:=h (eG A m0 keep s).env (eG A m0 keep s).sto (eG A m0 keep s).next rfl
 exact jS A (fun x=>⟨f9 (eG A m0 keep s).env (ch x),iA (eG A m0 keep s).sto (chB x),(eG A m0 keep s).next⟩) Inv μ x0 (bT h1) h2 h3
end
end Go.Ab
namespace Go.Ab
open Go Go.RowKit
abbrev eu:=Nat→List AV→List (Nat×Blk)→Nat→Option (AV×List (Nat×Blk)×Nat)
def xa (call:eu)(G:Nat→List PV)(s:St)(d:Option Nat):AOp→Option St
 | .t o=>match o.run s.E with
   | some v=>some (s.put d v)
   | none=>none
 | .m o=>match o.run G s.next s.E s.σ with
   | some p=>some ((s.mem p.2).put d p.1)
   | none=>none
 | .call f xs=>match dD (f.ev s.E) with
   | some p=>match call p.1 (p.2.1++xs.map (·.ev s.E)++p.2.2) s.sto s.next with
     | some r=>some ((⟨s.env,r.2.1,r.2.2⟩:St).put d r.1)
     | none=>none
   | none=>none
 | .fz g x=>match JN G s.σ g (x.ev s.E) with
   | some p=>some ((s.mem p.2).put d p.1)
   | none=>none
def kZ (call:eu)(G:Nat→List PV):List AOper→St→Option St
 | [],s=>some s
 | o::r,s=>match cg s o.guard with
   | some true=>match xa call G s o.dst o.op with
     | some s'=>kZ call G r s'
     | none=>none
   | some false=>kZ call G r (s.put o.dst (.pv .undef))
   | none=>none
def vp (call:eu)(f:Nat)(ps:List PV):Option PV:=
 match call f (ps.map .pv) [] 0 with
 | some r=>r.1.toPV
 | none=>none
def rI (call:eu)(s:St)(d:Option Nat)(f:Nat)(args:List AV):Option (St×List Nat×List Nat):=
 match pvs args with
 | some ps=>match vp call f ps with
   | some r=>some (s.put d (.pv r),[],[])
   | none=>none
 | none=>match call f args s.sto s.next with
   | some r=>some ((⟨s.env,r.2.1,r.2.2⟩:St).put d r.1,ff 2 (aW (r.2.1.take (r.2.1.length - s.sto.length)).reverse) (s.sto.map (·.1)))
   | none=>none
def lE (call:eu)(G:Nat→List PV)(s:St)(d:Option Nat):AOp→Option (St×List Nat×List Nat)
 | .t o=>match o.run s.E with
   | some v=>some (s.put d v,[],[])
   | none=>none
 | .m o=>match o.run G s.next s.E s.σ with
   | some p=>some ((s.mem p.2).put d p.1,ff (dt o) (aW p.2) (o.reads s.E))
   | none=>none
 | .call f xs=>match dD (f.ev s.E) with
   | some p=>rI call s d p.1 (p.2.1++xs.map (·.ev s.E)++p.2.2)
   | none=>none
 | .fz _ _=>none
def exD (call:eu)(G:Nat→List PV)(A:List (List Nat)):List AOper→List (List Nat×List Nat)→St→Option St
 | [],T,s=>match okB A T with
   | true=>some s
   | false=>none
 | o::r,T,s=>match cg s o.guard with
   | some true=>match lE call G s o.dst o.op with
     | some q=>exD call G A r (T++[q.2]) q.1
     | none=>none
   | some false=>exD call G A r (T++[([],[])]) (s.put o.dst (.pv .undef))
   | none=>none
def exC (call:eu)(G:Nat→List PV):Nat→ACode→St→Option (AExit×St)
 | 0,_,_=>none
 | _+1,.skip,s=>some (.norm,s)
 | _+1,.ops l keep,s=>match kZ call G l s with
   | some s'=>some (.norm,clip0 keep s')
   | none=>none
 | _+1,.draw A l l2 keep,s=>match exD call G A l [] s with
   | some s1=>match kZ call G l2 s1 with
     | some s'=>some (.norm,clip0 keep s')
     | none=>none
   | none=>none
 | n+1,.seq a b,s=>match exC call G n a s with
   | some (.norm,s')=>exC call G n b s'
   | some (.exit i,s')=>some (.exit i,s')
   | some (.ret,s')=>some (.ret,s')
   | none=>none
 | n+1,.cond x a b,s=>match x.ev s.E with
   | .pv (.bool true)=>exC call G n a s
   | .pv (.bool false)=>exC call G n b s
   | _=>none
 | n+1,.block id b,s=>match exC call G n b s with
   | some (.norm,s')=>some (.norm,s')
   | some (.exit i,s')=>if i=id then some (.norm,s') else some (.exit i,s')
   | some (.ret,s')=>some (.ret,s')
   | none=>none
 | n+1,.loop keep b,s=>match exC call G n b s with
   | some (.norm,s')=>exC call G n (.loop keep b) s'
   | some (.exit i,s')=>some (.exit i,s')
   | some (.ret,s')=>some (.ret,s')
   | none=>none
 | _+1,.range _ _ _ _ _,_=>none
 | _+1,.exit id,s=>some (.exit id,s)
 | _+1,.ret,s=>some (.ret,s)
structure TabRow where
 f:Nat
 muts:List Nat
 fn:AFn
def Fp (f:Nat):List TabRow→Option AFn
 | []=>none
 | r::q=>if r.f=f then some r.fn else Fp f q
def vA (G:Nat→List PV)(fn:AFn)(s:St):Option (AV×List (Nat×Blk)×Nat):=
 match fg G s fn.res with
 | some l=>some (wZ l,s.sto,s.next)
 | none=>none
def exF (tab:List TabRow)(O:Nat→List PV→Option PV)(G:Nat→List PV)(m:Nat):Nat→eu
 | 0,_,_,_,_=>none
 | n+1,f,args,sto,next=>match (pvs args).bind (O f) with
   | some r=>some (.pv r,sto,next)
   | none=>match Fp f tab with
     | some fn=>if args.length≤fn.N then match exC (exF tab O G m n) G m fn.body ⟨dv args,sto,next⟩ with
       | some (.norm,s)=>vA G fn s
       | some (.ret,s)=>vA G fn s
       | _=>none
       else none
     | none=>none
section
variable {P:Program}{G:Nat→List PV}
def bD (sto:List (Nat×Blk))(next:Nat)(sto':List (Nat×Blk))(next':Nat):Prop:=(∃ pre,sto'=pre++sto)∧next≤next'
theorem bD.refl (sto:List (Nat×Blk))(next:Nat):bD sto next sto next:=⟨⟨[],rfl⟩,Nat.le_refl _⟩
theorem bD.trans {a b c:List (Nat×Blk)}{i j k:Nat}(h:bD a i b j)(g:bD b j c k):bD a i c k:=by
 obtain⟨⟨p,rfl⟩,h2⟩:=h
 obtain⟨⟨q,rfl⟩,g2⟩:=g
 exact⟨⟨q++p,by simp⟩,Nat.le_trans h2 g2⟩
theorem mE:∀ (δ l:List (Nat×Blk)),lp l δ=δ.reverse++l
 | [],l=>rfl
 | p::r,l=>by rw[lp,mE r];simp
theorem bD.put {s:St}{sto':List (Nat×Blk)}{n:Nat}{e:List (Nat×AV)}(h:bD s.sto s.next sto' n)(d:Option Nat)(v:AV):bD s.sto s.next ((⟨e,sto',n⟩:St).put d v).sto ((⟨e,sto',n⟩:St).put d v).next:=by
 cases d<;>exact h
theorem bD.mem (s:St)(δ:List (Nat×Blk))(d:Option Nat)(v:AV):bD s.sto s.next ((s.mem δ).put d v).sto ((s.mem δ).put d v).next:=by
 have:bD s.sto s.next (lp s.sto δ) (s.next+1):=⟨⟨δ.reverse,mE δ s.sto⟩,Nat.le_succ _⟩
 cases d<;>exact this
theorem bD.put0 (s:St)(d:Option Nat)(v:AV):bD s.sto s.next (s.put d v).sto (s.put d v).next:=by
 cases d<;>exact bD.refl _ _
def fw (P:Program)(G:Nat→List PV)(call:eu):Prop:=
 ∀ f args sto next v sto' next',call f args sto next=some (v,sto',next')→bD sto next sto' next'∧(
   (∃ ps r,pvs args=some ps∧aq P G f ps r∧v = .pv r∧sto'=sto∧next'=next)∨cz P G f args sto next (fun v' s' n'=>v'=v∧s'=sto'∧n'=next'))
theorem cz.mono {f:Nat}{args:List AV}{sto:List (Nat×Blk)}{next:Nat}{Q Q':AV→List (Nat×Blk)→Nat→Prop}(h:cz P G f args sto next Q)(hq:∀ v s n,Q v s n→Q' v s n):cz P G f args sto next Q':=by
 obtain⟨h1,h2⟩:=h
 refine⟨h1,fun κ vals a1 a2 a3 a4=>(h2 κ vals a1 a2 a3 a4).mono ?_⟩
 rintro e w' ⟨u,v,κ',sto',next',b1,b2,b3,b4,b5,b6,b7,b8⟩
 exact⟨u,v,κ',sto',next',b1,b2,b3,b4,b5,b6,b7,hq _ _ _ b8⟩
theorem sW {call:eu}(hc:fw P G call){f:Nat}{ps:List PV}{r:PV}(h:vp call f ps=some r):aq P G f ps r:=by
 unfold vp at h
 split at h
 ·rename_i q hq
  obtain⟨v,sto',next'⟩:=q
  rcases (hc f _ _ _ v sto' next' hq).2 with ⟨ps',r',h1,h2,rfl,_,_⟩ | ht
  ·rw[qS] at h1
   cases h1
   simp only[AV.toPV,Option.some.injEq] at h
   subst h;exact h2
  ·exact aq.of_tcalls (ht.mono (by rintro v' _ _ ⟨rfl,_,_⟩;exact Na h))
 ·cases h
theorem JO {call:eu}(hc:fw P G call){s s':St}{d:Option Nat}{o:AOp}{F:St→Prop}(h:xa call G s d o=some s')(hF:F s'):lr P G F s d o:=by
 cases o with
 | t o=>
   simp only[xa] at h
   split at h
   ·rename_i v hv
    cases h
    simp only[lr,hv,iB];exact hF
   ·cases h
 | m o=>
   simp only[xa] at h
   split at h
   ·rename_i v hv
    cases h
    simp only[lr,hv,aK];exact hF
   ·cases h
 | fz g x=>
   simp only[xa] at h
   split at h
   ·rename_i v hv
    cases h
    simp only[lr,hv,aK];exact hF
   ·cases h
 | call f xs=>
   simp only[xa] at h
   split at h
   ·rename_i p hp
    split at h
    ·rename_i r hr
     cases h
     obtain⟨v,sto',next'⟩:=r
     simp only[lr,hp,aK,B5]
     rcases (hc _ _ _ _ v sto' next' hr).2 with ⟨ps,r,h1,h2,rfl,rfl,rfl⟩ | ht
     ·exact ab.pure h2 h1 hF
     ·exact ab.lent ht (by rintro v' s' n' ⟨rfl,rfl,rfl⟩;exact hF)
    ·cases h
   ·cases h
theorem jH {call:eu}(hc:fw P G call){F:St→Prop}:∀ (l:List AOper) (s s':St),kZ call G l s=some s'→F s'→dB P G l F s
 | [],s,s',h,hF=>by simp only[kZ,Option.some.injEq] at h;subst h;exact hF
 | o::r,s,s',h,hF=>by
   simp only[kZ] at h
   simp only[dB]
   split at h
   ·rename_i hw
    rw[hw]
    split at h
    ·rename_i s1 h1
     exact JO hc h1 (jH hc r s1 s' h hF)
    ·cases h
   ·rename_i hw
    rw[hw]
    exact jH hc r _ s' h hF
   ·cases h
theorem mg {call:eu}(hc:fw P G call){A:List (List Nat)}{F:St→Prop}:∀ (l:List AOper) (T:List (List Nat×List Nat)) (s s':St),exD call G A l T s=some s'→F s'→vcD P G A F l T s
 | [],T,s,s',h,hF=>by
   simp only[exD] at h
   split at h
   ·rename_i ho
    cases h
    exact⟨ho,hF⟩
   ·cases h
 | o::r,T,s,s',h,hF=>by
   simp only[exD] at h
   simp only[vcD]
   split at h
   ·rename_i hw
    rw[hw]
    simp only[aK,rL]
    split at h
    ·rename_i q h1
     obtain⟨d,op,g⟩:=o
     simp only at h1 ⊢
     cases op with
     | t o=>
       simp only[lE] at h1
       split at h1
       ·rename_i v hv
        cases h1
        simp only[g8,hv,aK,DT]
        exact mg hc r _ _ s' h hF
       ·cases h1
     | m o=>
       simp only[lE] at h1
       split at h1
       ·rename_i v hv
        cases h1
        simp only[g8,hv,aK,ye]
        exact mg hc r _ _ s' h hF
       ·cases h1
     | fz g x=>simp[lE] at h1
     | call f xs=>
       simp only[lE] at h1
       split at h1
       ·rename_i p hp
        simp only[g8,hp,aK]
        unfold rI at h1
        split at h1
        ·rename_i ps hps
         split at h1
         ·rename_i v hv
          cases h1
          exact .inl ⟨ps,v,hps,sW hc hv,mg hc r _ _ s' h hF⟩
         ·cases h1
        ·rename_i hps
         split at h1
         ·rename_i v hv
          cases h1
          obtain⟨v,sto',next'⟩:=v
          obtain⟨⟨⟨pre,hpre⟩,hle⟩,⟨ps',r',k1,_⟩ | ht⟩:=hc _ _ _ _ v sto' next' hv
          ·rw[hps] at k1;cases k1
          ·have e1:lp s.sto (sto'.take (sto'.length - s.sto.length)).reverse=sto':=by
            rw[mE,List.reverse_reverse,hpre]
            simp
           refine .inr ⟨v,(sto'.take (sto'.length - s.sto.length)).reverse,next',?_,hle,?_⟩
           ·rw[e1];exact ht
           ·rw[e1];exact mg hc r _ _ s' h hF
         ·cases h1
       ·cases h1
    ·cases h
   ·rename_i hw
    rw[hw]
    exact mg hc r _ _ s' h hF
   ·cases h
theorem we {call:eu}(hc:fw P G call){s s':St}{d:Option Nat}{o:AOp}(h:xa call G s d o=some s'):bD s.sto s.next s'.sto s'.next:=by
 cases o with
 | t o=>
   simp only[xa] at h
   split at h
   ·cases h;exact bD.put0 _ _ _
   ·cases h
 | m o=>
   simp only[xa] at h
   split at h
   ·cases h;exact bD.mem _ _ _ _
   ·cases h
 | fz g x=>
   simp only[xa] at h
   split at h
   ·cases h;exact bD.mem _ _ _ _
   ·cases h
 | call f xs=>
   simp only[xa] at h
   split at h
   ·split at h
    ·rename_i r hr
     cases h
     obtain⟨v,sto',next'⟩:=r
     exact bD.put (hc _ _ _ _ v sto' next' hr).1 _ _
    ·cases h
   ·cases h
theorem eJ {call:eu}(hc:fw P G call):∀ (l:List AOper) (s s':St),kZ call G l s=some s'→bD s.sto s.next s'.sto s'.next
 | [],s,s',h=>by simp only[kZ,Option.some.injEq] at h;subst h;exact bD.refl _ _
 | o::r,s,s',h=>by
   simp only[kZ] at h
   split at h
   ·split at h
    ·rename_i s1 h1
     exact (we hc h1).trans (eJ hc r s1 s' h)
    ·cases h
   ·exact (bD.put0 s _ _).trans (eJ hc r _ s' h)
   ·cases h
theorem rH {call:eu}(hc:fw P G call){s:St}{d:Option Nat}{o:AOp}{q:St×List Nat×List Nat}(h:lE call G s d o=some q):bD s.sto s.next q.1.sto q.1.next:=by
 cases o with
 | t o=>
   simp only[lE] at h
   split at h
   ·cases h;exact bD.put0 _ _ _
   ·cases h
 | m o=>
   simp only[lE] at h
   split at h
   ·cases h;exact bD.mem _ _ _ _
   ·cases h
 | fz g x=>simp[lE] at h
 | call f xs=>
   simp only[lE] at h
   split at h
   ·unfold rI at h
    split at h
    ·split at h
     ·cases h;exact bD.put0 _ _ _
     ·cases h
    ·split at h
     ·rename_i r hr
      cases h
      obtain⟨v,sto',next'⟩:=r
      exact bD.put (hc _ _ _ _ v sto' next' hr).1 _ _
     ·cases h
   ·cases h
theorem k8 {call:eu}(hc:fw P G call){A:List (List Nat)}:∀ (l:List AOper) (T:List (List Nat×List Nat)) (s s':St),exD call G A l T s=some s'→bD s.sto s.next s'.sto s'.next
 | [],T,s,s',h=>by
   simp only[exD] at h
   split at h
   ·cases h;exact bD.refl _ _
   ·cases h
 | o::r,T,s,s',h=>by
   simp only[exD] at h
   split at h
   ·split at h
    ·rename_i q h1
     exact (rH hc h1).trans (k8 hc r _ _ s' h)
    ·cases h
   ·exact (bD.put0 s _ _).trans (k8 hc r _ _ s' h)
   ·cases h
theorem pq {call:eu}(hc:fw P G call):∀ (n:Nat) (ac:ACode) (s:St) (e:AExit) (s':St),exC call G n ac s=some (e,s')→bD s.sto s.next s'.sto s'.next
 | 0,_,_,_,_,h=>by simp[exC] at h
 | n+1,ac,s,e,s',h=>by
   have ih:=pq hc n
   cases ac with
   | skip=>simp only[exC,Option.some.injEq,Prod.mk.injEq] at h;obtain⟨_,rfl⟩:=h;exact bD.refl _ _
   | exit i=>simp only[exC,Option.some.injEq,Prod.mk.injEq] at h;obtain⟨_,rfl⟩:=h;exact bD.refl _ _
   | ret=>simp only[exC,Option.some.injEq,Prod.mk.injEq] at h;obtain⟨_,rfl⟩:=h;exact bD.refl _ _
   | ops l k=>
     simp only[exC] at h
     split at h
     ·rename_i s1 h1;cases h;exact eJ hc l s s1 h1
     ·cases h
   | draw A l l2 k=>
     simp only[exC] at h
     split at h
     ·rename_i s1 h1
      split at h
      ·rename_i s2 h2;cases h;exact (k8 hc l [] s s1 h1).trans (eJ hc l2 s1 s2 h2)
      ·cases h
     ·cases h
   | seq a b=>
     simp only[exC] at h
     split at h
     ·rename_i s1 h1;exact (ih _ _ _ _ h1).trans (ih _ _ _ _ h)
     ·rename_i i s1 h1;cases h;exact ih _ _ _ _ h1
     ·rename_i s1 h1;cases h;exact ih _ _ _ _ h1
     ·cases h
   | cond x a b=>
     simp only[exC] at h
     split at h
     ·exact ih _ _ _ _ h
     ·exact ih _ _ _ _ h
     ·cases h
   | block id b=>
     simp only[exC] at h
     split at h
     ·rename_i s1 h1;cases h;exact ih _ _ _ _ h1
     ·rename_i i s1 h1
      split at h
      ·cases h;exact ih _ _ _ _ h1
      ·cases h;exact ih _ _ _ _ h1
     ·rename_i s1 h1;cases h;exact ih _ _ _ _ h1
     ·cases h
   | loop k b=>
     simp only[exC] at h
     split at h
     ·rename_i s1 h1;exact (ih _ _ _ _ h1).trans (ih _ _ _ _ h)
     ·rename_i i s1 h1;cases h;exact ih _ _ _ _ h1
     ·rename_i s1 h1;cases h;exact ih _ _ _ _ h1
     ·cases h
   | range f ps k a b=>simp only[exC] at h;cases h
def Nj (e:AExit)(s':St):AExit→St→Prop:=fun e1 s1=>e1=e∧s1=s'
theorem pQ {call:eu}{G:Nat→List PV}{n:Nat}{s:St}{r:AExit×St}(h:exC call G (n+1) (.ops [⟨none,jp,none⟩] []) s=some r):False:=by
 simp[exC,kZ,cg,xa,jp,AX.ev,dD] at h
theorem Nk {call:eu}(hc:fw P G call){c:Ctx}{κ0:Kap}{N:Nat}{muts rl:List Nat}(hG:c.G=G):∀ (n:Nat) (co:Code) (ac:ACode) (ex:List (Nat×List Nat)) (out li:List Nat) (s:St) (a:Act) (w:World) (κ:Kap) (e:AExit) (s':St),
  bv P muts N rl co ex out=some (ac,li)→exC call G n ac s=some (e,s')→Rel c κ0 N s a w κ→co.wpIn (FR none) 0 P (lift c κ0 N (Nj e s')) a w:=by
 intro n
 induction n using Nat.strongRecOn with
 | _ n ih=>
 intro co ac ex out li s a w κ e s' hcc he hR
 cases n with
 | zero=>simp[exC] at he
 | succ n=>
 cases co with
 | skip=>
   simp only[bv,Option.some.injEq,Prod.mk.injEq] at hcc
   obtain⟨rfl,_⟩:=hcc
   simp only[exC,Option.some.injEq,Prod.mk.injEq] at he
   obtain⟨rfl,rfl⟩:=he
   exact wpIn_skip ⟨_,κ,hR,rfl,rfl⟩
 | exit id=>
   simp only[bv,Option.some.injEq,Prod.mk.injEq] at hcc
   obtain⟨rfl,_⟩:=hcc
   simp only[exC,Option.some.injEq,Prod.mk.injEq] at he
   obtain⟨rfl,rfl⟩:=he
   exact wpIn_exit ⟨_,κ,hR,rfl,rfl⟩
 | ret=>
   simp only[bv,Option.some.injEq,Prod.mk.injEq] at hcc
   obtain⟨rfl,_⟩:=hcc
   simp only[exC,Option.some.injEq,Prod.mk.injEq] at he
   obtain⟨rfl,rfl⟩:=he
   exact wpIn_ret ⟨_,κ,hR,rfl,rfl⟩
 | region id ops d=>
   simp only[bv] at hcc
   split at hcc
   ·rename_i l hl
    cases d with
    | false=>
      simp only[Option.some.injEq,Prod.mk.injEq] at hcc
      obtain⟨rfl,_⟩:=hcc
      simp only[exC] at he
      split at he
      ·rename_i s1 h1
       cases he
       exact wpIn_region_list (ey (F:=fun s=>s=s1) (fun s a w κ hR hF=>by subst hF;exact⟨_,κ,hR.clip0 _,rfl,rfl⟩) ops.toList l s a w κ hl hR (by rw[hG];exact jH hc l s s1 h1 rfl))
      ·cases he
    | true=>
      simp only at hcc
      split at hcc
      ·rename_i hok
       simp only[Option.some.injEq,Prod.mk.injEq] at hcc
       obtain⟨rfl,_⟩:=hcc
       simp only[exC] at he
       split at he
       ·rename_i s1 h1
        split at he
        ·rename_i s2 h2
         cases he
         exact ml (F:=fun s=>s=s2) hl hok.1 hok.2.1 hok.2.2 hR (by rw[hG];exact mg hc _ _ s s1 h1 (jH hc _ s1 s2 h2 rfl)) (fun s a w κ hR hF=>by subst hF;exact⟨_,κ,hR.clip0 _,rfl,rfl⟩)
        ·cases he
       ·cases he
      ·cases hcc
   ·cases hcc
 | seq x y=>
   simp only[bv] at hcc
   split at hcc
   ·rename_i b' lb hb
    split at hcc
    ·rename_i a' la ha
     simp only[Option.some.injEq,Prod.mk.injEq] at hcc
     obtain⟨rfl,_⟩:=hcc
     simp only[exC] at he
     split at he
     ·rename_i s1 h1
      refine wpIn_seq (Go.wpIn_mono (ih n (Nat.lt_succ_self n) x a' _ _ _ s a w κ _ _ ha h1 hR) ?_)
      intro e1 a w hq
      cases e1 with
      | normal=>
        obtain⟨s2,κ,hR,_,rfl⟩:=hq
        exact ih n (Nat.lt_succ_self n) y b' _ _ _ s2 a w κ _ _ hb he hR
      | exit id=>obtain⟨_,_,_,h,_⟩:=hq;cases h
      | ret=>obtain⟨_,_,_,h,_⟩:=hq;cases h
      | goto l=>exact hq.elim
      | panic ch=>exact hq.elim
      | outgrown=>exact hq.elim
     ·rename_i i s1 h1
      cases he
      refine wpIn_seq (Go.wpIn_mono (ih n (Nat.lt_succ_self n) x a' _ _ _ s a w κ _ _ ha h1 hR) ?_)
      intro e1 a w hq
      cases e1 with
      | normal=>obtain⟨_,_,_,h,_⟩:=hq;cases h
      | exit id=>exact hq
      | ret=>exact hq
      | goto l=>exact hq.elim
      | panic ch=>exact hq.elim
      | outgrown=>exact hq.elim
     ·rename_i s1 h1
      cases he
      refine wpIn_seq (Go.wpIn_mono (ih n (Nat.lt_succ_self n) x a' _ _ _ s a w κ _ _ ha h1 hR) ?_)
      intro e1 a w hq
      cases e1 with
      | normal=>obtain⟨_,_,_,h,_⟩:=hq;cases h
      | exit id=>exact hq
      | ret=>exact hq
      | goto l=>exact hq.elim
      | panic ch=>exact hq.elim
      | outgrown=>exact hq.elim
     ·cases he
    ·cases hcc
   ·cases hcc
 | cond x y z=>
   simp only[bv] at hcc
   split at hcc
   ·rename_i ax a' la b' lb hx hy hz
    simp only[Option.some.injEq,Prod.mk.injEq] at hcc
    obtain⟨rfl,_⟩:=hcc
    have hrel:=az (κ:=κ) (E:=s.E) (a:=a) hx (fun i _=>hR.env i)
    simp only[exC] at he
    split at he
    ·rename_i hv
     rw[hv] at hrel
     exact wpIn_cond_true (di hrel) (ih n (Nat.lt_succ_self n) y a' _ _ _ s a w κ _ _ hy he hR)
    ·rename_i hv
     rw[hv] at hrel
     exact wpIn_cond_false (di hrel) (ih n (Nat.lt_succ_self n) z b' _ _ _ s a w κ _ _ hz he hR)
    ·cases he
   ·cases hcc
 | block id b=>
   simp only[bv] at hcc
   split at hcc
   ·rename_i b' lb hb
    simp only[Option.some.injEq,Prod.mk.injEq] at hcc
    obtain⟨rfl,_⟩:=hcc
    simp only[exC] at he
    have main:∀ e1 s1,exC call G n b' s=some (e1,s1)→((e1 = .norm∧e = .norm∧s'=s1)∨(∃ i,e1 = .exit i∧s'=s1∧e=if i=id then .norm else .exit i)∨(e1 = .ret∧e = .ret∧s'=s1))→(Code.block id b).wpIn (FR none) 0 P (lift c κ0 N (Nj e s')) a w:=by
     intro e1 s1 h1 hcase
     refine wpIn_block (Go.wpIn_mono (ih n (Nat.lt_succ_self n) b b' _ _ _ s a w κ _ _ hb h1 hR) ?_)
     intro e2 a w hq
     cases e2 with
     | normal=>
       obtain⟨s2,κ,hR,rfl,rfl⟩:=hq
       rcases hcase with ⟨_,rfl,rfl⟩ | ⟨i,h,_⟩ | ⟨h,_⟩
       ·exact⟨_,κ,hR,rfl,rfl⟩
       ·cases h
       ·cases h
     | ret=>
       obtain⟨s2,κ,hR,rfl,rfl⟩:=hq
       rcases hcase with ⟨h,_⟩ | ⟨i,h,_⟩ | ⟨_,rfl,rfl⟩
       ·cases h
       ·cases h
       ·exact⟨_,κ,hR,rfl,rfl⟩
     | exit i=>
       obtain⟨s2,κ,hR,rfl,rfl⟩:=hq
       rcases hcase with ⟨h,_⟩ | ⟨i',h,rfl,rfl⟩ | ⟨h,_⟩
       ·cases h
       ·cases h
        simp only[Exit.inBlock]
        split
        ·rename_i hid
         exact⟨_,κ,hR,by simp[hid],rfl⟩
        ·rename_i hid
         exact⟨_,κ,hR,by simp[hid],rfl⟩
       ·cases h
     | goto l=>exact hq.elim
     | panic ch=>exact hq.elim
     | outgrown=>exact hq.elim
    split at he
    ·rename_i s1 h1
     cases he
     exact main _ _ h1 (.inl ⟨rfl,rfl,rfl⟩)
    ·rename_i i s1 h1
     split at he
     ·rename_i hid
      cases he
      exact main _ _ h1 (.inr (.inl ⟨i,rfl,rfl,by simp[hid]⟩))
     ·rename_i hid
      cases he
      exact main _ _ h1 (.inr (.inl ⟨i,rfl,rfl,by simp[hid]⟩))
    ·rename_i s1 h1
     cases he
     exact main _ _ h1 (.inr (.inr ⟨rfl,rfl,rfl⟩))
    ·cases he
   ·cases hcc
 | loop b=>
   simp only[bv] at hcc
   split at hcc
   ·rename_i x1 l1 hb1
    split at hcc
    ·rename_i x2 l2 hb2
     split at hcc
     ·rename_i b' l3 hb
      simp only[Option.some.injEq,Prod.mk.injEq] at hcc
      obtain⟨rfl,_⟩:=hcc
      refine jO (fun m a w=>∃ s κ,m≤n+1∧Rel c κ0 N s a w κ∧exC call G m (.loop (n7 l2) b') s=some (e,s')) ⟨n+1,s,κ,Nat.le_refl _,hR,he⟩ fun m a w hJ=>?_
      obtain⟨s,κ,hm,hR,he⟩:=hJ
      cases m with
      | zero=>simp[exC] at he
      | succ m=>
        simp only[exC] at he
        split at he
        ·rename_i s1 h1
         refine Go.wpIn_mono (ih m (by omega) b b' _ _ _ s a w κ _ _ hb h1 hR) ?_
         intro e1 a w hq
         cases e1 with
         | normal=>
           obtain⟨s2,κ,hR,_,rfl⟩:=hq
           exact⟨m,Nat.lt_succ_self m,_,κ,by omega,hR,he⟩
         | exit id=>obtain⟨_,_,_,h,_⟩:=hq;cases h
         | ret=>obtain⟨_,_,_,h,_⟩:=hq;cases h
         | goto l=>exact hq.elim
         | panic ch=>exact hq.elim
         | outgrown=>exact hq.elim
        ·rename_i i s1 h1
         cases he
         refine Go.wpIn_mono (ih m (by omega) b b' _ _ _ s a w κ _ _ hb h1 hR) ?_
         intro e1 a w hq
         cases e1 with
         | normal=>obtain⟨_,_,_,h,_⟩:=hq;cases h
         | exit id=>exact hq
         | ret=>exact hq
         | goto l=>exact hq.elim
         | panic ch=>exact hq.elim
         | outgrown=>exact hq.elim
        ·rename_i s1 h1
         cases he
         refine Go.wpIn_mono (ih m (by omega) b b' _ _ _ s a w κ _ _ hb h1 hR) ?_
         intro e1 a w hq
         cases e1 with
         | normal=>obtain⟨_,_,_,h,_⟩:=hq;cases h
         | exit id=>exact hq
         | ret=>exact hq
         | goto l=>exact hq.elim
         | panic ch=>exact hq.elim
         | outgrown=>exact hq.elim
        ·cases he
     ·cases hcc
    ·cases hcc
   ·cases hcc
 | rangeFunc f ps x y=>
   simp only[bv] at hcc
   split at hcc
   ·split at hcc
    ·simp only[Option.some.injEq,Prod.mk.injEq] at hcc
     obtain⟨rfl,_⟩:=hcc
     simp only[exC] at he
     cases he
    ·cases hcc
   ·simp only[Option.some.injEq,Prod.mk.injEq] at hcc;obtain⟨rfl,rfl⟩:=hcc;exact (pQ he).elim
 | scope b=>simp only[bv,Option.some.injEq,Prod.mk.injEq] at hcc;obtain⟨rfl,rfl⟩:=hcc;exact (pQ he).elim
 | label l=>simp only[bv,Option.some.injEq,Prod.mk.injEq] at hcc;obtain⟨rfl,rfl⟩:=hcc;exact (pQ he).elim
 | goto l=>simp only[bv,Option.some.injEq,Prod.mk.injEq] at hcc;obtain⟨rfl,rfl⟩:=hcc;exact (pQ he).elim
 | refuse y=>simp only[bv,Option.some.injEq,Prod.mk.injEq] at hcc;obtain⟨rfl,rfl⟩:=hcc;exact (pQ he).elim
theorem Fo {tab:List TabRow}(ht:∀ r∈tab,cFn P r.muts r.f=some r.fn){f:Nat}{fn:AFn}(h:Fp f tab=some fn):∃ muts,cFn P muts f=some fn:=by
 induction tab with
 | nil=>cases h
 | cons r q ih=>
   simp only[Fp] at h
   split at h
   ·rename_i hf
    cases h
    exact⟨r.muts,hf▸ht r (by simp)⟩
   ·exact ih (fun r hr=>ht r (by simp[hr])) h
theorem Bl {tab:List TabRow}{O:Nat→List PV→Option PV}{m:Nat}(ht:∀ r∈tab,cFn P r.muts r.f=some r.fn)(hO:∀ f ps r,O f ps=some r→aq P G f ps r):∀ n,fw P G (exF tab O G m n)
 | 0=>by intro f args sto next v sto' next' h;simp[exF] at h
 | n+1=>by
   intro f args sto next v sto' next' h
   simp only[exF] at h
   split at h
   ·rename_i r hr
    cases h
    simp only[Option.bind_eq_some_iff] at hr
    obtain⟨ps,h1,h2⟩:=hr
    refine⟨bD.refl _ _,?_⟩
    exact .inl ⟨ps,r,h1,hO f ps r h2,rfl,rfl,rfl⟩
   ·split at h
    ·rename_i fn hfn
     obtain⟨muts,hcf⟩:=Fo ht hfn
     split at h
     ·rename_i hl
      have grow:∀ (e:AExit) (s:St),exC (exF tab O G m n) G m fn.body ⟨dv args,sto,next⟩=some (e,s)→vA G fn s=some (v,sto',next')→bD sto next sto' next':=by
       intro e s h1 h2
       have:=pq (Bl ht hO n) m fn.body _ e s h1
       unfold vA at h2
       split at h2
       ·cases h2;exact this
       ·cases h2
      have fin:∀ (e:AExit) (s:St),(e = .norm∨e = .ret)→exC (exF tab O G m n) G m fn.body ⟨dv args,sto,next⟩=some (e,s)→vA G fn s=some (v,sto',next')→cz P G f args sto next (fun v' s' n'=>v'=v∧s'=sto'∧n'=next'):=by
       intro e s he h1 h2
       refine cz.of_code hcf hl fun c κ N a w co rl li hG hk hf hb hR=>?_
       refine Go.wpIn_mono (Nk (Bl ht hO n) hG m co fn.body _ _ _ _ a w κ e s hb h1 hR) ?_
       have hout:∀ s1,s1=s→aK (fg G s1 fn.res) (GT (fun v' s' n'=>v'=v∧s'=sto'∧n'=next') s1):=by
        rintro s1 rfl
        unfold vA at h2
        split at h2
        ·rename_i l hl2
         cases h2
         rw[hl2]
         exact⟨rfl,rfl,rfl⟩
        ·cases h2
       intro e1 a w hq
       cases e1 with
       | normal=>
         obtain⟨s1,κ1,hR1,he1,hs1⟩:=hq
         exact⟨s1,κ1,hR1,hout s1 hs1⟩
       | ret=>
         obtain⟨s1,κ1,hR1,he1,hs1⟩:=hq
         exact⟨s1,κ1,hR1,hout s1 hs1⟩
       | exit id=>
         obtain⟨s1,κ1,hR1,he1,hs1⟩:=hq
         rcases he with rfl | rfl<;>cases he1
       | goto l=>exact hq.elim
       | panic ch=>exact hq.elim
       | outgrown=>exact hq.elim
      split at h
      ·rename_i s1 h1;exact⟨grow _ _ h1 h,.inr (fin _ _ (.inl rfl) h1 h)⟩
      ·rename_i s1 h1;exact⟨grow _ _ h1 h,.inr (fin _ _ (.inr rfl) h1 h)⟩
      ·cases h
     ·cases h
    ·cases h
theorem aq.of_ex {tab:List TabRow}{O:Nat→List PV→Option PV}{m n:Nat}{f:Nat}{ps:List PV}{r:PV}(ht:∀ r∈tab,cFn P r.muts r.f=some r.fn)(hO:∀ f ps r,O f ps=some r→aq P G f ps r)
  (h:vp (exF tab O G m n) f ps=some r):aq P G f ps r:=
 sW (Bl ht hO n) h
end
end Go.Ab
namespace Go.Ab
open Go Go.RowKit
def Kap.cut (κ:Kap)(k:Nat):Kap:=⟨κ.w,fun r=>if r<k then κ.nm r else none,κ.imm⟩
theorem Kap.cut_ext (κ:Kap)(k:Nat):Ext (κ.cut k) κ:=by
 refine⟨fun _ _ h=>h,fun _ _ _ _ h=>h,fun r d h=>?_,fun _ _ h _=>h⟩
 simp only[Kap.cut] at h
 split at h
 ·exact h
 ·cases h
theorem Kap.cut_none (κ:Kap)(k r:Nat)(h:k≤r):(κ.cut k).nm r=none:=by simp only[Kap.cut];rw[if_neg (by omega)]
def pY (P:Program)(G:Nat→List PV)(k:Nat)(f:Nat)(args:List AV)(sto:List (Nat×Blk))(next:Nat)(Q:AV→List (Nat×Blk)→Nat→Prop):Prop:=
 bX P f=true∧∀ (κ:Kap) (vals:Array Value),SRel (cr κ (fun r=>lookB r sto) G) κ (fun r=>lookB r sto)→(∀ r,next≤r→κ.nm r=none)→vals.size=args.length →
  (∀ (i:Nat) (x:AV),args[i]? = some x→ARel κ x (vals.getD i Go.undef)) →
  Calls P f vals κ.w fun e w'=>∃ u v κ' sto' next',e = .returned u∧κ'.w=w'∧Ext (κ.cut k) κ'∧Left (cr κ (fun r=>lookB r sto) G) κ.imm κ'∧ARel κ' v u ∧
   SRel (cr κ (fun r=>lookB r sto) G) κ' (fun r=>lookB r sto')∧(∀ r,next'≤r→κ'.nm r=none)∧Q v sto' next'
section
variable {P:Program}{G:Nat→List PV}
theorem pY.of_code {muts:List Nat}{k f:Nat}{fn:AFn}{args:List AV}{sto:List (Nat×Blk)}{next:Nat}{R:AV→List (Nat×Blk)→Nat→Prop}(hc:cFn P muts f=some fn)(hn:args.length≤fn.N)
  (hv:vc P G k fn.body (FnK G fn.res R) ⟨dv args,sto,next⟩):pY P G k f args sto next R:=by
 unfold cFn at hc
 split at hc
 ·rename_i fnc hfn
  split at hc
  ·rename_i co hco
   split at hc
   ·rename_i rs hrs
    split at hc
    ·rename_i hok
     split at hc
     ·rename_i b li hb
      cases hc
      refine⟨hok,fun κ vals hS hf hsz hargs=>?_⟩
      refine callsIn_wide.1 (callsIn_of_wp_marks (n:=0) hfn hco trivial ?_ rfl)
      let c:=cr κ (fun r=>lookB r sto) G
      have hsize:(vals++Array.replicate (fnc.ntmps - vals.size) Go.undef).size=fnc.ntmps:=by
       simp only at hn
       simp only[Array.size_append,Array.size_replicate];omega
      have hR:Rel c (κ.cut k) fnc.ntmps ⟨dv args,sto,next⟩ ⟨vals++Array.replicate (fnc.ntmps - vals.size) Go.undef,[]⟩ κ.w κ:=by
       refine⟨rfl,κ.cut_ext k,hS,⟨rfl,rfl,rfl,Nat.le_refl _,fun _ _ _=>rfl,fun _ _ h=>.inl h⟩,fun i=>?_,hsize,dA.nil _ _,hf⟩
       show ARel κ (look i ((args.zipIdx 0).map fun p=>(p.2,p.1))) _
       rw[kG,if_pos (Nat.zero_le _),Nat.sub_zero]
       cases hx:args[i]? with
       | none=>exact .any _
       | some x=>
         have hi:i<vals.size:=by rw[hsz];exact (List.getElem?_eq_some_iff.1 hx).1
         have:=hargs i x hx
         have e:(vals++Array.replicate (fnc.ntmps - vals.size) Go.undef).getD i Go.undef=vals.getD i Go.undef:=by
          simp only[Array.getD_eq_getD_getElem?]
          rw[Array.getElem?_append_left hi]
         rw[e];exact this
      refine Go.wpIn_mono (sh (P:=P) (N:=fnc.ntmps) co c (κ.cut k) k none 0 b [] (iu rs) li (FnK G rs R) _ _ κ.w κ (.inl rfl) (fun r hr=>κ.cut_none k r hr) (Nat.le_refl _) hb hR hv) ?_
      have fin:∀ (s:St) (κ':Kap) (a:Act) (w:World),Rel c (κ.cut k) fnc.ntmps s a w κ'→aK (fg G s rs) (GT R s)→∃ v,(results fnc a.tmps).run P w = .ok v w ∧
        ∃ u v' κ'' sto' next',Ending.returned v = .returned u∧κ''.w=w∧Ext (κ.cut k) κ''∧Left c κ.imm κ''∧ARel κ'' v' u∧SRel c κ'' (fun r=>lookB r sto')∧(∀ r,next'≤r→κ''.nm r=none)∧R v' sto' next':=by
       intro s κ' a w hR hF
       simp only[aK] at hF
       split at hF
       ·rename_i vs hvs
        obtain⟨us,h1,h2,h3⟩:=j8 (P:=P) hR fnc.results.toList rs vs hrs hvs
        have hrun:(results fnc a.tmps).run P w = .ok (if h:us.toArray.size=1 then us.toArray[0] else .tuple us.toArray) w:=by
         rw[lQ,Sem.run_bind,Array.mapM_eq_mapM_toList]
         simp only[Sem.run_bind,Sem.run_map]
         rw[h1]
         simp
        refine⟨_,hrun,_,wZ vs,κ',s.sto,s.next,rfl,hR.w_eq,hR.ext0,hR.left,?_,hR.rel,hR.fresh,hF⟩
        by_cases hl:vs.length=1
        ·obtain⟨v,rfl⟩:=List.length_eq_one_iff.1 hl
         obtain⟨u,rfl⟩:=List.length_eq_one_iff.1 (h2.trans hl)
         have:=h3 0 v rfl
         exact this
        ·have hul:¬ us.toArray.size=1:=by simpa[h2] using hl
         rw[dif_neg hul]
         have hrv:wZ vs=oV vs:=by
          unfold wZ
          split
          ·simp at hl
          ·rfl
         rw[hrv]
         exact oU (.tup _ _ (by simpa using h2) (fun i x hx=>by rw[aC];simpa using h3 i x hx))
       ·exact hF.elim
      intro e a w hq
      cases e with
      | normal=>
        obtain⟨s,κ',hR,hF⟩:=hq
        exact gP (Nat.le_refl _) rfl hR fun w' κ'' hR'=>fin s κ'' ⟨a.tmps,[]⟩ w' hR' hF
      | ret=>
        obtain⟨s,κ',hR,hF⟩:=hq
        exact gP (Nat.le_refl _) rfl hR fun w' κ'' hR'=>fin s κ'' ⟨a.tmps,[]⟩ w' hR' hF
      | exit id=>
        obtain⟨s,κ',hR,hF⟩:=hq
        exact hF.elim
      | goto l=>exact hq.elim
      | panic ch=>exact hq.elim
      | outgrown=>exact hq.elim
     ·cases hc
    ·cases hc
   ·cases hc
  ·cases hc
 ·cases hc
def ca:List Blk→Nat→List (Nat×Blk)
 | [],_=>[]
 | b::r,k=>(k,b)::ca r (k+1)
theorem l6:∀ (bs:List Blk) (k i:Nat),lookB i (ca bs k)=if k≤i then bs.getD (i - k) .none else .none
 | [],k,i=>by simp[ca,lookB]
 | b::r,k,i=>by
   simp only[ca,lookB]
   by_cases h:k=i
   ·subst h;simp
   ·rw[if_neg h,l6 r (k+1) i]
    by_cases hk:k≤i
    ·rw[if_pos (by omega),if_pos hk,show i - k=(i - (k+1))+1 by omega];simp
    ·rw[if_neg (by omega),if_neg hk]
theorem gh (bs:List Blk):(fun r=>lookB r (ca bs 0))=fun r=>bs.getD r .none:=by
 funext r;rw[l6];simp
def aQ (P:Program)(G:Nat→List PV)(k f:Nat)(args:List AV)(bs:List Blk)(v:AV)(bs':List Blk):Prop:=
 pY P G k f args (ca bs 0) bs.length fun v' sto' next'=>v'=v∧sto'=ca bs' 0∧next'=bs'.length
def Js (k:Nat)(v:AV)(bs':List Blk)(v':AV)(sto':List (Nat×Blk))(next':Nat):Prop:=
 Wk k ⟨[(0,v')],sto',next'⟩ ⟨[(0,v)],ca bs' 0,bs'.length⟩
theorem aQ.of_lcalls {k f:Nat}{args:List AV}{bs:List Blk}{v:AV}{bs':List Blk}(h:pY P G k f args (ca bs 0) bs.length (Js k v bs')):aQ P G k f args bs v bs':=by
 obtain⟨hcal,h⟩:=h
 refine⟨hcal,fun κ vals hS hf hsz hargs=>(h κ vals hS hf hsz hargs).mono ?_⟩
 rintro e w' ⟨u,v',κ',sto',next',rfl,rfl,he,hL,hv,hS',hf',hw⟩
 obtain⟨κ'',hR⟩:=hw _ (κ.cut k) κ' 1 ⟨#[u],[]⟩ κ'.w (fun r hr=>κ.cut_none k r hr) ⟨rfl,he,hS',hL,fun i=>by
  show ARel κ' (look i [(0,v')]) _
  by_cases hi:0=i
  ·subst hi;simpa[look] using hv
  ·simp only[look,if_neg hi];exact .any _,rfl,dA.nil _ _,hf'⟩
 refine⟨u,v,κ'',_,_,rfl,hR.w_eq,hR.ext0,hR.left,?_,hR.rel,hR.fresh,rfl,rfl,rfl⟩
 have:=hR.env 0
 simpa[St.E,look] using this
theorem aQ.intro {muts:List Nat}{k f:Nat}{fn:AFn}{args:List AV}{bs:List Blk}{v:AV}{bs':List Blk}(hc:cFn P muts f=some fn)(hn:args.length≤fn.N)
  (hv:vc P G k fn.body (FnK G fn.res (Js k v bs')) ⟨dv args,ca bs 0,bs.length⟩):aQ P G k f args bs v bs':=
 aQ.of_lcalls (pY.of_code hc hn hv)
def gIn (next:Nat):List Nat→Nat→Nat
 | [],i=>next+i
 | r::_,0=>r
 | _::q,i+1=>gIn next q i
def gSo (next:Nat)(rs:List Nat)(r:Nat):Option Nat:=some (gIn next rs r)
theorem kU (next:Nat):∀ (rs:List Nat) (i:Nat) (r:Nat),rs[i]? = some r→gIn next rs i=r
 | [],i,r,h=>by simp at h
 | x::q,0,r,h=>by simpa[gIn] using h
 | x::q,i+1,r,h=>by simpa[gIn] using kU next q i r (by simpa using h)
theorem l9 (next:Nat):∀ (rs:List Nat) (i:Nat),rs.length≤i→gIn next rs i=next+(i - rs.length)
 | [],i,h=>by simp[gIn]
 | x::q,0,h=>by simp at h
 | x::q,i+1,h=>by
   simp only[List.length_cons] at h
   rw[gIn,l9 next q i (by omega)]
   simp
mutual
theorem unren {κ κ':Kap}(hw:κ'.w=κ.w)(hi:κ'.imm=κ.imm){g:Nat→Nat}(hf:∀ r,κ'.nm r=κ.nm (g r)):∀ (x:AV) (v:Value),ARel κ (x.ren fun r=>some (g r)) v→ARel κ' x v
 | .pv p,v,h=>by
   simp only[AV.ren] at h
   cases h with
   | pv _ _ hp=>exact .pv _ _ (by rw[hw,hi];exact hp)
 | .any,v,h=>.any v
 | .ptr r o,v,h=>by
   simp only[AV.ren] at h
   cases h with
   | ptr _ _ b n hn=>exact .ptr _ _ b n (by rw[hf r];exact hn)
 | .row r a b c,v,h=>by
   simp only[AV.ren] at h
   cases h with
   | row _ _ _ _ bb n cap hn h1 h2 h3 h4=>exact .row _ _ _ _ bb n cap (by rw[hf r];exact hn) h1 h2 h3 h4
   | row0 _ _ hn=>exact .row0 _ _ (by rw[hf r];exact hn)
 | .olist r a l,v,h=>by
   simp only[AV.ren] at h
   cases h with
   | olist _ _ _ _ hn hp hs=>exact .olist _ _ _ _ (by rw[hf r];exact hn) (by rw[hw,hi];exact hp) hs
 | .mp r,v,h=>by
   simp only[AV.ren] at h
   cases h with
   | mp _ b hn=>exact .mp _ _ (by rw[hf r];exact hn)
 | .agg cs,v,h=>by
   simp only[AV.ren] at h
   cases h with
   | agg _ vs hl hr=>
     obtain⟨h1,h2⟩:=jT hw hi hf cs vs hr
     exact .agg _ _ (by rw[← h1];exact hl) h2
 | .tup cs,v,h=>by
   simp only[AV.ren] at h
   cases h with
   | tup _ vs hl hr=>
     obtain⟨h1,h2⟩:=jT hw hi hf cs vs hr
     exact .tup _ _ (by rw[← h1];exact hl) h2
 | .clo g fs cs,v,h=>by
   simp only[AV.ren] at h
   cases h with
   | clo _ _ _ vs us hl hr hl' hr'=>
     obtain⟨h1,h2⟩:=jT hw hi hf fs vs hr
     obtain⟨h3,h4⟩:=jT hw hi hf cs us hr'
     exact .clo _ _ _ _ _ (by rw[← h1];exact hl) h2 (by rw[← h3];exact hl') h4
theorem jT {κ κ':Kap}(hw:κ'.w=κ.w)(hi:κ'.imm=κ.imm){g:Nat→Nat}(hf:∀ r,κ'.nm r=κ.nm (g r)):∀ (xs:List AV) (vs:Array Value),
  (∀ (i:Nat) (x:AV),(AV.renL (fun r=>some (g r)) xs)[i]? = some x→ARel κ x (vs.getD i Go.undef))→(AV.renL (fun r=>some (g r)) xs).length=xs.length∧∀ (i:Nat) (x:AV),xs[i]? = some x→ARel κ' x (vs.getD i Go.undef)
 | [],vs,h=>by simp[AV.renL]
 | x::r,vs,h=>by
   have e:∀ i,(vs.extract 1 vs.size).getD i Go.undef=vs.getD (i+1) Go.undef:=by
    intro i
    simp only[Array.getD_eq_getD_getElem?,Array.getElem?_extract]
    by_cases hh:i<min vs.size vs.size - 1
    ·rw[if_pos hh];congr 2;omega
    ·rw[if_neg hh,Array.getElem?_eq_none (by omega)]
   obtain⟨h1,h2⟩:=jT hw hi hf r (vs.extract 1 vs.size) (fun i y hy=>by
    have:=h (i+1) y (by simpa[AV.renL] using hy)
    rw[e];exact this)
   refine⟨by simp[AV.renL,h1],fun i y hy=>?_⟩
   cases i with
   | zero=>
     simp only[List.getElem?_cons_zero,Option.some.injEq] at hy
     subst hy
     exact unren hw hi hf x _ (h 0 _ (by simp[AV.renL]))
   | succ i=>
     simp only[List.getElem?_cons_succ] at hy
     have:=h2 i y hy
     rw[e] at this;exact this
end
theorem eR.unren {κ κ':Kap}(hw:κ'.w=κ.w)(hi:κ'.imm=κ.imm){g:Nat→Nat}(hf:∀ r,κ'.nm r=κ.nm (g r)){r:Nat}{B:Blk}(h:eR κ (g r) (B.ren fun r=>some (g r))):eR κ' r B:=by
 cases B with
 | none=>trivial
 | cells T f l=>
   simp only[Blk.ren] at h
   rcases h with ⟨h1,h2,h3⟩ | ⟨b,n,cs,h1,h2,h3,h4,h5,h6,h7⟩
   ·refine .inl ⟨h1,?_,by rw[hf];exact h3⟩
    cases l with
    | nil=>rfl
    | cons x r=>simp[AV.renL] at h2
   ·obtain⟨q1,q2⟩:=jT hw hi hf l cs h6
    exact .inr ⟨b,n,cs,by rw[hf];exact h1,by rw[hw];exact h2,h3,by rw[← q1];exact h4,fun hb=>by rw[← q1];exact h5 hb,q2,by rw[hi];exact h7⟩
 | tok e sz=>
   simp only[Blk.ren] at h
   rcases h with h | ⟨g',n,cap,cur,h1,h2,h3⟩
   ·exact .inl (by rw[hf];exact h)
   ·exact .inr ⟨g',n,cap,cur,by rw[hf];exact h1,by rw[hw];exact h2,by rw[hi];exact h3⟩
 | mp l=>
   obtain⟨b,es,ck,h1,h2⟩:=h
   exact⟨b,es,ck,by rw[hf];exact h1,by rw[hw,hi];exact h2⟩
 | bts e l=>
   obtain⟨b,n,cs,fz,h1,h2⟩:=h
   exact⟨b,n,cs,fz,by rw[hf];exact h1,by rw[hw,hi];exact h2⟩
theorem eR.ren {κ κ':Kap}(hw:κ'.w=κ.w)(hi:κ'.imm=κ.imm){g:Nat→Nat}(hf:∀ r,κ'.nm (g r)=κ.nm r){r:Nat}{B:Blk}(h:eR κ r B):eR κ' (g r) (B.ren fun r=>some (g r)):=by
 have hf':∀ r r',(fun r=>some (g r)) r=some r'→κ'.nm r'=κ.nm r:=fun r r' h=>by cases h;exact hf r
 cases B with
 | none=>trivial
 | cells T f l=>
   simp only[Blk.ren]
   rcases h with ⟨h1,h2,h3⟩ | ⟨b,n,cs,h1,h2,h3,h4,h5,h6,h7⟩
   ·exact .inl ⟨h1,by rw[h2];simp only[AV.renL],by rw[hf];exact h3⟩
   ·obtain⟨q1,q2⟩:=eC hw hi hf' l cs h6
    exact .inr ⟨b,n,cs,by rw[hf];exact h1,by rw[hw];exact h2,h3,by rw[q1];exact h4,fun hb=>by rw[q1];exact h5 hb,q2,by rw[hi];exact h7⟩
 | tok e sz=>
   simp only[Blk.ren]
   rcases h with h | ⟨g',n,cap,cur,h1,h2,h3⟩
   ·exact .inl (by rw[hf];exact h)
   ·exact .inr ⟨g',n,cap,cur,by rw[hf];exact h1,by rw[hw];exact h2,by rw[hi];exact h3⟩
 | mp l=>
   obtain⟨b,es,ck,h1,h2⟩:=h
   exact⟨b,es,ck,by rw[hf];exact h1,by rw[hw,hi];exact h2⟩
 | bts e l=>
   obtain⟨b,n,cs,fz,h1,h2⟩:=h
   exact⟨b,n,cs,fz,by rw[hf];exact h1,by rw[hw,hi];exact h2⟩
def nK (f:Nat→Option Nat):List Blk→Nat→(Nat→Nat)→List (Nat×Blk)
 | [],_,_=>[]
 | b::r,i,g=>(g i,b.ren f)::nK f r (i+1) g
def e7:List Nat→List (Nat×Blk)
 | []=>[]
 | r::q=>(r,.none)::e7 q
def fS (sto:List (Nat×Blk))(f:Nat→Option Nat):List Nat→List Blk→Prop
 | [],[]=>True
 | r::rs,b::bs=>BlkZ (lookB r sto) (b.ren f)∧fS sto f rs bs
 | _,_=>False
theorem fS.get {sto:List (Nat×Blk)}{f:Nat→Option Nat}:∀ {rs:List Nat} {bs:List Blk},fS sto f rs bs→rs.length=bs.length∧∀ (i r:Nat) (b:Blk),rs[i]? = some r→bs[i]? = some b→BlkZ (lookB r sto) (b.ren f)
 | [],[],h=>⟨rfl,by simp⟩
 | r::rs,b::bs,h=>by
   obtain⟨h1,h2⟩:=h
   obtain⟨h3,h4⟩:=fS.get h2
   refine⟨by simp[h3],fun i q d hq hd=>?_⟩
   cases i with
   | zero=>simp at hq hd;subst hq;subst hd;exact h1
   | succ i=>exact h4 i q d (by simpa using hq) (by simpa using hd)
 | [],_::_,h=>h.elim
 | _::_,[],h=>h.elim
end
end Go.Ab
namespace Go.Ab
open Go Go.RowKit
section
variable {P:Program}{G:Nat→List PV}
theorem eR.named {κ:Kap}{r:Nat}{B:Blk}(h:eR κ r B)(hB:B≠.none):∃ d,κ.nm r=some d:=by
 cases B with
 | none=>exact absurd rfl hB
 | cells T f l=>
   rcases h with ⟨_,_,h⟩ | ⟨b,n,cs,h,_⟩
   ·exact⟨_,h⟩
   ·exact⟨_,h⟩
 | tok e sz=>
   rcases h with h | ⟨g,n,cap,cur,h,_⟩
   ·exact⟨_,h⟩
   ·exact⟨_,h⟩
 | mp l=>
   obtain⟨b,es,ck,h,_⟩:=h
   exact⟨_,h⟩
 | bts e l=>
   obtain⟨b,n,cs,fz,h,_⟩:=h
   exact⟨_,h⟩
theorem Blk.ren_ne {f:Nat→Option Nat}{b:Blk}:b.ren f≠.none↔b≠.none:=by
 cases b<;>simp[Blk.ren]
theorem JA {next:Nat}{rs:List Nat}(hnd:rs.Nodup)(hlt:∀ r∈rs,r<next){i j:Nat}(h:gIn next rs i=gIn next rs j):i=j:=by
 by_cases hi:i<rs.length
 ·have ei:=kU next rs i _ (List.getElem?_eq_getElem hi)
  have hi':=hlt _ (List.getElem_mem hi)
  by_cases hj:j<rs.length
  ·have ej:=kU next rs j _ (List.getElem?_eq_getElem hj)
   rw[ei,ej] at h
   exact (List.getElem_inj hnd).1 h
  ·have ej:=l9 next rs j (by omega)
   omega
 ·have ei:=l9 next rs i (by omega)
  by_cases hj:j<rs.length
  ·have ej:=kU next rs j _ (List.getElem?_eq_getElem hj)
   have hj':=hlt _ (List.getElem_mem hj)
   omega
  ·have ej:=l9 next rs j (by omega)
   omega
theorem pc {f:Nat→Option Nat}{g:Nat→Nat}(hg:∀ i j,g i=g j→i=j)(rest:List (Nat×Blk))(r:Nat):∀ (bs:List Blk) (k:Nat),
  (∀ i b,bs[i]? = some b→g (k+i)=r→lookB r (nK f bs k g++rest)=b.ren f)∧((∀ i,i<bs.length→g (k+i)≠r)→lookB r (nK f bs k g++rest)=lookB r rest)
 | [],k=>⟨by simp,fun _=>rfl⟩
 | b::q,k=>by
   obtain⟨h1,h2⟩:=pc hg rest r q (k+1)
   refine⟨fun i b' hi hr=>?_,fun h=>?_⟩
   ·simp only[nK,List.cons_append,lookB]
    cases i with
    | zero=>
      simp only[List.getElem?_cons_zero,Option.some.injEq] at hi
      subst hi
      rw[if_pos (by simpa using hr)]
    | succ i=>
      rw[if_neg (fun e=>by have:=hg _ _ (e.trans hr.symm);omega)]
      exact h1 i b' (by simpa using hi) (by rw[← hr];congr 1;omega)
   ·simp only[nK,List.cons_append,lookB]
    rw[if_neg (by have:=h 0 (by simp);simpa using this)]
    exact h2 fun i hi=>by
     have:=h (i+1) (by simp;omega)
     rwa [show k+(i+1)=k+1+i by omega] at this
theorem lY (rest:List (Nat×Blk))(r:Nat):∀ (l:List Nat),lookB r (e7 l++rest)=if r∈l then .none else lookB r rest
 | []=>by simp[e7]
 | x::q=>by
   simp only[e7,List.cons_append,lookB,lY rest r q,List.mem_cons]
   by_cases h:x=r
   ·subst h;simp
   ·rw[if_neg h]
    by_cases hq:r∈q
    ·simp[hq]
    ·have:¬ (r=x∨r∈q):=by rintro (e | e);exact h e.symm;exact hq e
     rw[if_neg hq,if_neg this]
theorem aQ.frame {k f:Nat}{args0:List AV}{bs:List Blk}{v:AV}{bs':List Blk}(h:aQ P G k f args0 bs v bs'){rs:List Nat}{args:List AV}{sto:List (Nat×Blk)}{next:Nat}
  (hargs:AVzL args (AV.renL (gSo next rs) args0)) (hbs:fS sto (gSo next rs) rs bs) (hnd:rs.Nodup) (hlt:∀ r∈rs,r<next) (hk:k≤bs.length) (hk':k≤bs'.length) (hne:∀ b∈bs.take k,b≠.none) :
  cz P G f args sto next fun v' sto' next'=>v'=v.ren (gSo next (rs.take k))∧sto'=nK (gSo next (rs.take k)) bs' 0 (gIn next (rs.take k))++(e7 (rs.drop k)++sto)∧next'=next+(bs'.length - k):=by
 obtain⟨hcal,h⟩:=h
 refine⟨hcal,fun κ vals hS hf hsz hvals=>?_⟩
 obtain⟨hrl,hat⟩:=hbs.get
 let κ1:Kap:=⟨κ.w,fun i=>κ.nm (gIn next rs i),κ.imm⟩
 have hσ1:(fun r=>lookB r (ca bs 0))=fun r=>bs.getD r .none:=gh bs
 have hlook:∀ i b,bs[i]? = some b→∃ r,rs[i]? = some r∧gIn next rs i=r∧eR κ r (b.ren (gSo next rs))∧(b≠.none→lookB r sto≠.none):=by
  intro i b hb
  have hi:i<rs.length:=by rw[hrl];exact (List.getElem?_eq_some_iff.1 hb).1
  have hr:=List.getElem?_eq_getElem hi
  obtain⟨q1,q2⟩:=(hat i _ b hr hb).rel (hS.blk rs[i])
  exact⟨rs[i],hr,kU next rs i _ hr,q1,fun hb'=>q2 (Blk.ren_ne.2 hb')⟩
 have hlive:∀ i,bs.getD i .none≠.none→∃ b,bs[i]? = some b∧b≠.none:=by
  intro i hi
  rw[List.getD_eq_getElem?_getD] at hi
  cases hb:bs[i]? with
  | none=>rw[hb] at hi;exact absurd rfl hi
  | some b=>rw[hb] at hi;exact⟨b,rfl,hi⟩
 have hB1:∀ i b,bs[i]? = some b→eR κ1 i b:=by
  intro i b hb
  obtain⟨r,hr,hgr,hB,_⟩:=hlook i b hb
  exact eR.unren (κ:=κ) (κ':=κ1) rfl rfl (g:=gIn next rs) (fun _=>rfl) (by rw[hgr];exact hB)
 have hl1:∀ b,(cr κ1 (fun r=>lookB r (ca bs 0)) G).lent b→(cr κ (fun r=>lookB r sto) G).lent b:=by
  rintro b ⟨i,d,h1,h2,h3⟩
  simp only[congrFun hσ1 i] at h1
  obtain⟨b',hb,hbn⟩:=hlive i h1
  obtain⟨r,hr,hgr,_,hn⟩:=hlook i b' hb
  exact⟨r,d,hn hbn,by rw[← hgr];exact h2,h3⟩
 have hm1:∀ b,(cr κ1 (fun r=>lookB r (ca bs 0)) G).mine b→(cr κ (fun r=>lookB r sto) G).mine b:=fun b hb=>hb.elim .inl (fun h=>.inr (hl1 b h))
 have hS1:SRel (cr κ1 (fun r=>lookB r (ca bs 0)) G) κ1 (fun r=>lookB r (ca bs 0)):=by
  refine⟨fun i=>?_,fun i j d d' b h1 h2 hij hd hd' hb=>?_,fun i d b h1 hd hb=>.inr ⟨i,d,h1,hd,hb⟩,hS.immLt,?_⟩
  ·rw[congrFun hσ1 i]
   show eR κ1 i (bs.getD i .none)
   rw[List.getD_eq_getElem?_getD]
   cases hb:bs[i]? with
   | none=>trivial
   | some b=>exact hB1 i b hb
  ·simp only[congrFun hσ1 i] at h1
   simp only[congrFun hσ1 j] at h2
   obtain⟨b1,hb1,hn1⟩:=hlive i h1
   obtain⟨b2,hb2,hn2⟩:=hlive j h2
   obtain⟨r,hr,hgr,_,hn⟩:=hlook i b1 hb1
   obtain⟨r',hr',hgr',_,hn'⟩:=hlook j b2 hb2
   refine hS.apart r r' d d' b (hn hn1) (hn' hn2) (fun e=>hij ?_) (by rw[← hgr];exact hd) (by rw[← hgr'];exact hd') hb
   obtain⟨hi,ei⟩:=List.getElem?_eq_some_iff.1 hr
   obtain⟨hj,ej⟩:=List.getElem?_eq_some_iff.1 hr'
   exact (List.getElem_inj hnd).1 (ei.trans (e.trans ej.symm))
  ·refine⟨fun g o p hp=>?_,fun g hg=>?_⟩
   ·exact hS.glob.1 g o p hp
   ·obtain⟨h1,h2,h3⟩:=hS.glob.2 g hg
    exact⟨h1,fun hl=>h2 (hl1 g hl),h3⟩
 have hf1:∀ r,bs.length≤r→κ1.nm r=none:=fun r hr=>by
  show κ.nm (gIn next rs r)=none
  rw[l9 next rs r (by omega)]
  exact hf _ (by omega)
 have hlen0:args0.length=args.length:=by
  rw[hargs.length]
  have:∀ (f:Nat→Option Nat) (l:List AV),(AV.renL f l).length=l.length:=by
   intro f l
   induction l with
   | nil=>simp[AV.renL]
   | cons x r ih=>simp[AV.renL,ih]
  rw[this]
 have hv1:∀ (i:Nat) (x:AV),args0[i]? = some x→ARel κ1 x (vals.getD i Go.undef):=
  (jT (κ:=κ) (κ':=κ1) rfl rfl (g:=gIn next rs) (fun _=>rfl) args0 vals (fun i x hx=>by
   obtain⟨y,hy,hyx⟩:=hargs.get i x hx
   exact hyx.rel (hvals i y hy))).2
 refine (h κ1 vals hS1 hf1 (by omega) hv1).mono ?_
 rintro e w' ⟨u,v',κ1',sto',next',rfl,rfl,he,hL,hv,hS',hf',rfl,rfl,rfl⟩
 obtain⟨g,hgdef⟩:∃ g,g=gIn next (rs.take k):=⟨_,rfl⟩
 have htl:(rs.take k).length=k:=by rw[List.length_take];omega
 have hg1:∀ i,i<k→∃ r,rs[i]? = some r∧g i=r∧r<next:=by
  intro i hi
  have hi':i<rs.length:=by omega
  have hr:=List.getElem?_eq_getElem hi'
  refine⟨rs[i],hr,?_,hlt _ (List.getElem_mem hi')⟩
  rw[hgdef]
  exact kU next _ i _ (by rw[List.getElem?_take,if_pos hi];exact hr)
 have hg2:∀ i,k≤i→g i=next+(i - k):=fun i hi=>by rw[hgdef,l9 next _ i (by omega),htl]
 have hginj:∀ i j,g i=g j→i=j:=fun i j hij=>by
  rw[hgdef] at hij
  exact JA (hnd.sublist (List.take_sublist _ _)) (fun r hr=>hlt r (List.mem_of_mem_take hr)) hij
 have hso:gSo next (rs.take k)=fun r=>some (g r):=by rw[hgdef];rfl
 rw[hso,← hgdef]
 let κ':Kap:=⟨κ1'.w,fun r=>if r<next then κ.nm r else κ1'.nm (k+(r - next)),κ1'.imm⟩
 have hnmk:∀ i,i<k→κ1'.nm i=κ1.nm i:=by
  intro i hi
  have hib:i<bs.length:=by omega
  have hb:=List.getElem?_eq_getElem hib
  obtain⟨d,hd⟩:=(hB1 i _ hb).named (hne _ (List.mem_take_iff_getElem.2 ⟨i,by omega,rfl⟩))
  rw[hd]
  exact he.nm i d (by simp only[Kap.cut];rw[if_pos hi];exact hd)
 have hnm':∀ i,κ'.nm (g i)=κ1'.nm i:=by
  intro i
  by_cases hi:i<k
  ·obtain⟨r,hr,hgr,hrn⟩:=hg1 i hi
   show (if g i<next then κ.nm (g i) else κ1'.nm (k+(g i - next)))=_
   rw[hgr,if_pos hrn,hnmk i hi]
   show κ.nm r=κ.nm (gIn next rs i)
   rw[kU next rs i r hr]
  ·show (if g i<next then κ.nm (g i) else κ1'.nm (k+(g i - next)))=_
   rw[hg2 i (by omega),if_neg (by omega)]
   congr 1;omega
 have hext:Ext κ κ':=⟨fun b o hi=>he.imm b o hi,fun b o v hi hc=>he.cell b o v hi hc,fun r d hd=>by
  have hr:r<next:=by
   rcases Nat.lt_or_ge r next with h | h
   ·exact h
   ·rw[hf r h] at hd;cases hd
  show (if r<next then κ.nm r else _)=_
  rw[if_pos hr];exact hd,fun b o ho hc=>he.obj b o ho hc⟩
 have hout:∀ r d b,lookB r sto≠.none→r∉rs→κ.nm r=some d→d.block=some b→b<κ.w.heap.size∧¬ (cr κ1 (fun r=>lookB r (ca bs 0)) G).lent b:=by
  intro r d b h1 h2 h3 h4
  refine⟨(hS.blk r).lt h1 h3 h4,?_⟩
  rintro⟨i,d',q1,q2,q3⟩
  simp only[congrFun hσ1 i] at q1
  obtain⟨b',hb,hbn⟩:=hlive i q1
  obtain⟨r',hr',hgr,_,hn⟩:=hlook i b' hb
  refine hS.apart r r' d d' b h1 (hn hbn) (fun e=>h2 (e▸List.mem_of_getElem? hr')) h3 (by rw[← hgr];exact q2) h4 q3
 have hmem:∀ r,r∈rs→(∃ i,i<bs'.length∧g i=r)∨r∈rs.drop k:=by
  intro r hr
  obtain⟨i,hi⟩:=List.getElem?_of_mem hr
  by_cases hik:i<k
  ·obtain⟨r',hr',hgr,_⟩:=hg1 i hik
   rw[hi] at hr';cases hr'
   exact .inl ⟨i,by omega,hgr⟩
  ·refine .inr (List.mem_of_getElem? (i:=i - k) ?_)
   rw[List.getElem?_drop,show k+(i - k)=i by omega];exact hi
 have hσ':∀ r,(∃ i b,bs'[i]? = some b∧g i=r∧lookB r (nK (fun r=>some (g r)) bs' 0 g++(e7 (rs.drop k)++sto))=b.ren (fun r=>some (g r))) ∨
   lookB r (nK (fun r=>some (g r)) bs' 0 g++(e7 (rs.drop k)++sto)) = .none∨(r∉rs∧(∀ i,i<bs'.length→g i≠r)∧lookB r (nK (fun r=>some (g r)) bs' 0 g++(e7 (rs.drop k)++sto))=lookB r sto):=by
  intro r
  obtain⟨q1,q2⟩:=pc (f:=fun r=>some (g r)) hginj (e7 (rs.drop k)++sto) r bs' 0
  by_cases hi:∃ i,i<bs'.length∧g i=r
  ·obtain⟨i,hi,hgi⟩:=hi
   exact .inl ⟨i,bs'[i],List.getElem?_eq_getElem hi,hgi,q1 i _ (List.getElem?_eq_getElem hi) (by rw[Nat.zero_add];exact hgi)⟩
  ·have hni:∀ i,i<bs'.length→g i≠r:=fun i h1 h2=>hi ⟨i,h1,h2⟩
   have e:=q2 (fun i h1=>by rw[Nat.zero_add];exact hni i h1)
   rw[lY] at e
   by_cases hr:r∈rs.drop k
   ·rw[if_pos hr] at e;exact .inr (.inl e)
   ·rw[if_neg hr] at e
    exact .inr (.inr ⟨fun h=>(hmem r h).elim hi hr,hni,e⟩)
 have hlive':∀ i b,bs'[i]? = some b→b.ren (fun r=>some (g r))≠.none→lookB i (ca bs' 0)≠.none:=by
  intro i b hb hbn
  have e2:lookB i (ca bs' 0)=bs'.getD i .none:=congrFun (gh bs') i
  rw[e2,List.getD_eq_getElem?_getD,hb]
  exact Blk.ren_ne.1 hbn
 refine⟨u,_,κ',_,_,rfl,rfl,hext,⟨hL.os,hL.tape,hL.output,hL.size,fun b hb hl=>hL.block b hb fun h=>hl (hl1 b h),fun b o hi=>(hL.imm b o hi).imp id (hm1 b)⟩,
  qC (κ:=κ1') (κ':=κ') rfl rfl (fun r r' hr=>by cases hr;exact hnm' r) v' u hv,?_,fun r hr=>?_,rfl,rfl,rfl⟩
 ·refine⟨fun r=>?_,fun r r' d d' b h1 h2 hrr hd hd' hb=>?_,fun r d b h1 hd hb=>?_,hS'.immLt,?_⟩
  ·show eR κ' r (lookB r _)
   rcases hσ' r with ⟨i,b,hb,hgi,e⟩ | e | ⟨hr,hni,e⟩
   ·rw[e,← hgi]
    refine eR.ren (κ:=κ1') (κ':=κ') rfl rfl hnm' ?_
    have:=hS'.blk i
    have e2:lookB i (ca bs' 0)=bs'.getD i .none:=congrFun (gh bs') i
    simp only[e2,List.getD_eq_getElem?_getD,hb] at this
    exact this
   ·rw[e];trivial
   ·rw[e]
    refine (hS.blk r).keep hext fun hbn d b hd hb=>?_
    obtain⟨q1,q2⟩:=hout r d b hbn hr hd hb
    refine⟨hL.block b q1 q2,fun o ho=>?_⟩
    rcases hL.imm b o ho with h | h | h
    ·exact h
    ·exact absurd q1 (Nat.not_lt.2 h)
    ·exact absurd h q2
  ·have cal:∀ r i b0 d,bs'[i]? = some b0→g i=r→b0.ren (fun r=>some (g r))≠.none→κ'.nm r=some d→lookB i (ca bs' 0)≠.none∧κ1'.nm i=some d:=by
    intro r i b0 d hb0 hgi hbn hd
    exact⟨hlive' i b0 hb0 hbn,by rw[← hnm' i,hgi];exact hd⟩
   have own:∀ r d,r∉rs→lookB r sto≠.none→κ'.nm r=some d→κ.nm r=some d:=by
    intro r d hr hbn hd
    obtain⟨d',hd'⟩:=(hS.blk r).named hbn
    have:=hext.nm r d' hd'
    rw[this] at hd;cases hd;exact hd'
   have mix:∀ r i b0 d d' b,bs'[i]? = some b0→b0.ren (fun r=>some (g r))≠.none→κ1'.nm i=some d→d.block=some b→lookB i (ca bs' 0)≠.none→r∉rs→lookB r sto≠.none→κ.nm r=some d'→d'.block≠some b:=by
    intro r i b0 d d' b hb0 hbn hd hdb hl hr hrl hd' hdb'
    obtain⟨q1,q2⟩:=hout r d' b hrl hr hd' hdb'
    rcases hS'.mine i d b hl hd hdb with h | h
    ·exact absurd q1 (Nat.not_lt.2 h)
    ·exact q2 h
   rcases hσ' r with ⟨i,b1,hb1,hgi,e⟩ | e | ⟨hr,hni,e⟩
   ·have h1':b1.ren (fun r=>some (g r))≠.none:=by
     intro h0;exact h1 (e.trans h0)
    obtain⟨p1,p2⟩:=cal r i b1 d hb1 hgi h1' hd
    rcases hσ' r' with ⟨j,b2,hb2,hgj,e'⟩ | e' | ⟨hr',hni',e'⟩
    ·have h2':b2.ren (fun r=>some (g r))≠.none:=by
      intro h0;exact h2 (e'.trans h0)
     obtain⟨p3,p4⟩:=cal r' j b2 d' hb2 hgj h2' hd'
     exact hS'.apart i j d d' b p1 p3 (fun hij=>hrr (by rw[← hgi,← hgj,hij])) p2 p4 hb
    ·exact absurd e' h2
    ·have h2':lookB r' sto≠.none:=by intro h0;exact h2 (e'.trans h0)
     exact mix r' i b1 d d' b hb1 h1' p2 hb p1 hr' h2' (own r' d' hr' h2' hd')
   ·exact absurd e h1
   ·have h1':lookB r sto≠.none:=by intro h0;exact h1 (e.trans h0)
    have hd0:=own r d hr h1' hd
    rcases hσ' r' with ⟨j,b2,hb2,hgj,e'⟩ | e' | ⟨hr',hni',e'⟩
    ·have h2':b2.ren (fun r=>some (g r))≠.none:=by
      intro h0;exact h2 (e'.trans h0)
     obtain⟨p3,p4⟩:=cal r' j b2 d' hb2 hgj h2' hd'
     intro hb'
     exact mix r j b2 d' d b hb2 h2' p4 hb' p3 hr h1' hd0 hb
    ·exact absurd e' h2
    ·have h2':lookB r' sto≠.none:=by intro h0;exact h2 (e'.trans h0)
     exact hS.apart r r' d d' b h1' h2' hrr hd0 (own r' d' hr' h2' hd') hb
  ·rcases hσ' r with ⟨i,b1,hb1,hgi,e⟩ | e | ⟨hr,hni,e⟩
   ·have h1':b1.ren (fun r=>some (g r))≠.none:=by
     intro h0;exact h1 (e.trans h0)
    refine hm1 b (hS'.mine i d b (hlive' i b1 hb1 h1') (by rw[← hnm' i,hgi];exact hd) hb)
   ·exact absurd e h1
   ·have h1':lookB r sto≠.none:=by intro h0;exact h1 (e.trans h0)
    obtain⟨d',hd'⟩:=(hS.blk r).named h1'
    have:=hext.nm r d' hd'
    rw[this] at hd;cases hd
    exact .inr ⟨r,d,h1',hd',hb⟩
  ·refine⟨hS'.glob.1,fun g' hg'=>?_⟩
   obtain⟨h1,h2,cs,T,fz,h3,h4⟩:=hS.glob.2 g' hg'
   exact⟨h1,h2,cs,T,fz,(hL.block g' h1 fun h=>h2 (hl1 g' h)).trans h3,h4⟩
 ·show (if r<next then κ.nm r else κ1'.nm (k+(r - next)))=none
  rw[if_neg (by omega)]
  exact hf' _ (by omega)
def tq (k:Nat)(rs:List Nat)(bs bs':List Blk)(next:Nat):Bool:=
 decide (k≤bs.length)&&decide (k≤bs'.length)&&(bs.take k).all (fun b=>match b with | .none=>false | _=>true)&&rs.all (fun r=>decide (r<next))&&decide rs.Nodup
theorem ab.lentK {k f:Nat}{args0:List AV}{bs:List Blk}{v:AV}{bs':List Blk}(h:aQ P G k f args0 bs v bs')(rs:List Nat){args:List AV}{env:List (Nat×AV)}{sto:List (Nat×Blk)}{next:Nat}{K:AV→St→Prop}
  (hok:tq k rs bs bs' next=true) (hargs:AVzL args (AV.renL (gSo next rs) args0)) (hbs:fS sto (gSo next rs) rs bs)
  (hK:K (v.ren (gSo next (rs.take k))) ⟨env,nK (gSo next (rs.take k)) bs' 0 (gIn next (rs.take k))++(e7 (rs.drop k)++sto),next+(bs'.length - k)⟩):ab P G f args ⟨env,sto,next⟩ K:=by
 simp only[tq,Bool.and_eq_true,decide_eq_true_eq,List.all_eq_true] at hok
 obtain⟨⟨⟨⟨h1,h2⟩,h3⟩,h4⟩,h5⟩:=hok
 refine ab.lent (h.frame hargs hbs h5 h4 h1 h2 (fun b hb e=>?_)) ?_
 ·have:=h3 b hb
  subst e;cases this
 ·rintro v' sto' next' ⟨rfl,rfl,rfl⟩
  exact hK
end
end Go.Ab
namespace Go.Ab
open Go
section
variable {P:Program}{G:Nat→List PV}
theorem bw {F:List (List Nat×List Nat)→St→Prop}{T:List (List Nat×List Nat)}{e:List (Nat×AV)}{σ:List (Nat×Blk)}{next d:Nat}{a b args:List AV}
  {k f:Nat} {args0:List AV} {bs:List Blk} {v:AV} {bs':List Blk} (h:aQ P G k f args0 bs v bs') (rs:List Nat)
  (hok:tq k rs bs bs' next=true) (hargs:AVzL (a++args++b) (AV.renL (gSo next rs) args0)) (hbs:fS σ (gSo next rs) rs bs)
  (hk:F (T++[ff 2 (aW (nK (gSo next (rs.take k)) bs' 0 (gIn next (rs.take k))++e7 (rs.drop k)).reverse) (σ.map (·.1))])
   ⟨(d,v.ren (gSo next (rs.take k)))::e,nK (gSo next (rs.take k)) bs' 0 (gIn next (rs.take k))++(e7 (rs.drop k)++σ),next+(bs'.length - k)⟩):jf P G F T ⟨e,σ,next⟩ (some d) args (f,a,b):=by
 simp only[tq,Bool.and_eq_true,decide_eq_true_eq,List.all_eq_true] at hok
 obtain⟨⟨⟨⟨h1,h2⟩,h3⟩,h4⟩,h5⟩:=hok
 have hf:=h.frame hargs hbs h5 h4 h1 h2 (fun b hb e=>by
  have:=h3 b hb
  subst e;cases this)
 have e:lp σ (nK (gSo next (rs.take k)) bs' 0 (gIn next (rs.take k))++e7 (rs.drop k)).reverse=nK (gSo next (rs.take k)) bs' 0 (gIn next (rs.take k))++(e7 (rs.drop k)++σ):=by
  rw[mE,List.reverse_reverse,List.append_assoc]
 refine rO (δ:=(nK (gSo next (rs.take k)) bs' 0 (gIn next (rs.take k))++e7 (rs.drop k)).reverse) (top:=next+(bs'.length - k)) (hf.mono fun v' s n hq=>⟨hq.1,?_,hq.2.2⟩) (by omega) ?_
 ·rw[e];exact hq.2.1
 ·rw[e];exact hk
end
end Go.Ab

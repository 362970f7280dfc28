/- A program logic over the model: part 5 (a proof is built on it; nothing of the statement is said here). -/
import Derived.Test.YtfepkhlgopjaoaaGreatDoorUsCore4
set_option linter.unusedVariables false
set_option linter.unusedSimpArgs false
namespace Go.Ab
open Go Go.RowKit
theorem zU {n:Int}(h1:-9223372036854775808≤n)(h2:n≤9223372036854775807):IntKind.i64.wrap n=n:=by
 show (if (true&&decide (n % 18446744073709551616≥9223372036854775808))=true then n % 18446744073709551616 - 18446744073709551616 else n % 18446744073709551616)=n
 simp only[Bool.true_and,decide_eq_true_eq]
 split<;>omega
theorem zW {n:Int}(h1:-2147483648≤n)(h2:n≤2147483647):IntKind.i32.wrap n=n:=by
 show (if (true&&decide (n % 4294967296≥2147483648))=true then n % 4294967296 - 4294967296 else n % 4294967296)=n
 simp only[Bool.true_and,decide_eq_true_eq]
 split<;>omega
theorem tz {n:Int}(h1:0≤n)(h2:n≤255):IntKind.u8.wrap n=n:=by
 show (if (false&&decide (n % 256≥128))=true then n % 256 - 256 else n % 256)=n
 simp only[Bool.false_and]
 simp;omega
theorem zO {n:Int}(h1:0≤n)(h2:n≤18446744073709551615):IntKind.u64.wrap n=n:=by
 show (if (false&&decide (n % 18446744073709551616≥9223372036854775808))=true then n % 18446744073709551616 - 18446744073709551616 else n % 18446744073709551616)=n
 simp only[Bool.false_and]
 simp;omega
theorem zP {n:Int}(h1:0≤n)(h2:n≤4294967295):IntKind.u32.wrap n=n:=by
 show (if (false&&decide (n % 4294967296≥2147483648))=true then n % 4294967296 - 4294967296 else n % 4294967296)=n
 simp only[Bool.false_and]
 simp;omega
theorem MT {a b:Int}(h:a<b):decide (a<b)=true:=decide_eq_true h
theorem MU {a b:Int}(h:¬ a<b):decide (a<b)=false:=decide_eq_false h
theorem MV {a b:Int}(h:a≤b):decide (a≤b)=true:=decide_eq_true h
theorem MW {a b:Int}(h:¬ a≤b):decide (a≤b)=false:=decide_eq_false h
theorem MX {a b:Int}(h:a=b):decide (a=b)=true:=decide_eq_true h
theorem MY {a b:Int}(h:¬ a=b):decide (a=b)=false:=decide_eq_false h
def Chk (b:Bool):Prop:=b=true
theorem Ha:Chk true:=_root_.id rfl
theorem wB (i k:Nat)(x:AV)(r:List (Nat×AV)):look i ((k,x)::r)=if k=i then x else look i r:=_root_.id rfl
theorem B8 (i:Nat):look i [] = .any:=_root_.id rfl
theorem rE (i k:Nat)(x:Blk)(r:List (Nat×Blk)):lookB i ((k,x)::r)=if k=i then x else lookB i r:=_root_.id rfl
theorem wC (i:Nat):lookB i [] = .none:=_root_.id rfl
def evE (e:List (Nat×AV)):AX→AV
 | .t i=>look i e
 | .c p=>.pv p
 | .m i tb=>Iv tb (look i e)
theorem MQ (e:List (Nat×AV))(i:Nat)(tb:List (Nat×Nat)):evE e (.m i tb)=Iv tb (look i e):=_root_.id rfl
theorem rB (tb:List (Nat×Nat))(T:Nat)(p:PV):Iv tb (.pv (.iface T p))=wz p (gP T tb):=_root_.id rfl
theorem rD (t a b:Nat)(r:List (Nat×Nat)):gP t ((a,b)::r)=if a=t then some b else gP t r:=_root_.id rfl
theorem rC (p:PV)(f:Nat):wz p (some f) = .clo f [.pv p] []:=_root_.id rfl
theorem MP (e:List (Nat×AV))(i:Nat):evE e (.t i)=look i e:=_root_.id rfl
theorem MR (e:List (Nat×AV))(p:PV):evE e (.c p) = .pv p:=_root_.id rfl
def evO (e:List (Nat×AV)):Option AX→Option AV
 | some x=>some (evE e x)
 | none=>none
theorem CM (e:List (Nat×AV))(x:AX):evO e (some x)=some (evE e x):=_root_.id rfl
theorem CN (e:List (Nat×AV)):evO e none=none:=_root_.id rfl
def evL (e:List (Nat×AV)):List AX→List AV
 | []=>[]
 | x::r=>evE e x::evL e r
theorem GY (e:List (Nat×AV)):evL e []=[]:=_root_.id rfl
theorem CP (e:List (Nat×AV))(x:AX)(r:List AX):evL e (x::r)=evE e x::evL e r:=_root_.id rfl
theorem fW (e:List (Nat×AV))(σ:List (Nat×Blk))(n:Nat)(x:AX):x.ev (St.E ⟨e,σ,n⟩)=evE e x:=by cases x<;>rfl
theorem xI (e:List (Nat×AV))(σ:List (Nat×Blk))(n:Nat):∀ (l:List AX),l.map (·.ev (St.E ⟨e,σ,n⟩))=evL e l
 | []=>rfl
 | x::r=>by rw[List.map_cons,xI e σ n r,fW];rfl
def evP (e:List (Nat×AV)):List (Nat×Nat×AX)→List (Nat×Nat×AV)
 | []=>[]
 | (a,b,x)::r=>(a,b,evE e x)::evP e r
theorem GX (e:List (Nat×AV)):evP e []=[]:=_root_.id rfl
theorem CL (e:List (Nat×AV))(a b:Nat)(x:AX)(r:List (Nat×Nat×AX)):evP e ((a,b,x)::r)=(a,b,evE e x)::evP e r:=_root_.id rfl
def dS (e:List (Nat×AV)):TOp→Option AV
 | .mv x=>some (evE e x)
 | .pick c a b=>mM (evE e c) (evE e a) (evE e b)
 | .build zs ps=>(er (zs.map .pv) (evP e ps)).map fR
 | .faddr off x=>fD off (evE e x)
 | .field g sz off x=>gH g sz off (evE e x)
 | .iaddr sz x i=>eI sz (evE e x) (evE e i)
 | .iaddrA n sz x i=>fa n sz (evE e x) (evE e i)
 | .index x i=>eH (evE e x) (evE e i)
 | .indexA g n sz x i=>dw g n sz (evE e x) (evE e i)
 | .len st x=>zy st (evE e x)
 | .lenC n=>some (.pv (.int .i64 n))
 | .imin x y=>FP (evE e x) (evE e y)
 | .imax x y=>FQ (evE e x) (evE e y)
 | .sliceL sz x lo hi=>bN sz (evE e x) (evO e lo) (evO e hi)
 | .sliceS x lo hi=>eh (evE e x) (evO e lo) (evO e hi)
 | .bin op x y=>cb op (evE e x) (evE e y)
 | .beq kd ng x y=>(mY kd (evE e x) (evE e y)).map fun b=>.pv (.bool (if ng then !b else b))
 | .neg x=>Iu (evE e x)
 | .not x=>It (evE e x)
 | .compl x=>kJ (evE e x)
 | .conv k x=>qH k (evE e x)
 | .convS x=>iK (evE e x)
 | .convIS x=>fb (evE e x)
 | .beqS ng ks x y=>(mX ks (evE e x) (evE e y)).map fun b=>.pv (.bool (if ng then !b else b))
 | .clo f fs cs=>some (np f (evL e fs) (evL e cs))
 | .ext x i=>FU i (evE e x)
 | .nilck x=>zx (evE e x)
theorem CO (e:List (Nat×AV)):∀ (l:List AX),l.map (fun x=>evE e x)=evL e l
 | []=>rfl
 | x::r=>by rw[List.map_cons,CO e r];rfl
theorem J5 (e:List (Nat×AV))(l:Option AX):l.map (fun x=>evE e x)=evO e l:=by cases l<;>rfl
theorem J4 (e:List (Nat×AV)):∀ (l:List (Nat×Nat×AX)),(l.map fun p=>(p.1,p.2.1,evE e p.2.2))=evP e l
 | []=>rfl
 | (a,b,x)::r=>by rw[List.map_cons,J4 e r];rfl
theorem tW (e:List (Nat×AV))(σ:List (Nat×Blk))(n:Nat)(o:TOp):o.run (St.E ⟨e,σ,n⟩)=dS e o:=by
 cases o<;>simp only[TOp.run,dS,fW,CO,J5,J4]
theorem EX (e:List (Nat×AV))(x:AX):dS e (.mv x)=some (evE e x):=_root_.id rfl
theorem tQ (e:List (Nat×AV))(c a b:AX):dS e (.pick c a b)=mM (evE e c) (evE e a) (evE e b):=_root_.id rfl
theorem p9 (e:List (Nat×AV))(zs:List PV)(ps:List (Nat×Nat×AX)):dS e (.build zs ps)=(er (zs.map .pv) (evP e ps)).map fR:=_root_.id rfl
theorem p6 (e:List (Nat×AV))(off:Nat)(x:AX):dS e (.faddr off x)=fD off (evE e x):=_root_.id rfl
theorem p5 (e:List (Nat×AV))(g:Bool)(sz off:Nat)(x:AX):dS e (.field g sz off x)=gH g sz off (evE e x):=_root_.id rfl
theorem pZ (e:List (Nat×AV))(sz:Nat)(x i:AX):dS e (.iaddr sz x i)=eI sz (evE e x) (evE e i):=_root_.id rfl
theorem mz (e:List (Nat×AV))(n sz:Nat)(x i:AX):dS e (.iaddrA n sz x i)=fa n sz (evE e x) (evE e i):=_root_.id rfl
theorem pY (e:List (Nat×AV))(x i:AX):dS e (.index x i)=eH (evE e x) (evE e i):=_root_.id rfl
theorem my (e:List (Nat×AV))(g:Bool)(n sz:Nat)(x i:AX):dS e (.indexA g n sz x i)=dw g n sz (evE e x) (evE e i):=_root_.id rfl
theorem Ar (e:List (Nat×AV))(st:Bool)(x:AX):dS e (.len st x)=zy st (evE e x):=_root_.id rfl
theorem tT (e:List (Nat×AV))(n:Nat):dS e (.lenC n)=some (.pv (.int .i64 n)):=_root_.id rfl
theorem tU (e:List (Nat×AV))(x y:AX):dS e (.imin x y)=FP (evE e x) (evE e y):=_root_.id rfl
theorem tV (e:List (Nat×AV))(x y:AX):dS e (.imax x y)=FQ (evE e x) (evE e y):=_root_.id rfl
theorem mx (e:List (Nat×AV))(sz:Nat)(x:AX)(lo hi:Option AX):dS e (.sliceL sz x lo hi)=bN sz (evE e x) (evO e lo) (evO e hi):=_root_.id rfl
theorem mw (e:List (Nat×AV))(x:AX)(lo hi:Option AX):dS e (.sliceS x lo hi)=eh (evE e x) (evO e lo) (evO e hi):=_root_.id rfl
theorem Au (e:List (Nat×AV))(op:BinOp)(x y:AX):dS e (.bin op x y)=cb op (evE e x) (evE e y):=_root_.id rfl
def vB (ng:Bool):Option Bool→Option AV
 | some b=>some (.pv (.bool (if ng then !b else b)))
 | none=>none
theorem Av (e:List (Nat×AV))(kd:Nat)(ng:Bool)(x y:AX):dS e (.beq kd ng x y)=vB ng (mY kd (evE e x) (evE e y)):=by
 simp only[dS];cases mY kd (evE e x) (evE e y)<;>rfl
theorem FX (b:Bool):vB true (some b)=some (.pv (.bool (!b))):=_root_.id rfl
theorem FY (b:Bool):vB false (some b)=some (.pv (.bool b)):=_root_.id rfl
theorem Aq (e:List (Nat×AV))(x:AX):dS e (.neg x)=Iu (evE e x):=_root_.id rfl
theorem Ap (e:List (Nat×AV))(x:AX):dS e (.not x)=It (evE e x):=_root_.id rfl
theorem p8 (e:List (Nat×AV))(x:AX):dS e (.compl x)=kJ (evE e x):=_root_.id rfl
theorem tX (e:List (Nat×AV))(k:IntKind)(x:AX):dS e (.conv k x)=qH k (evE e x):=_root_.id rfl
theorem tY (e:List (Nat×AV))(ng:Bool)(ks:List Nat)(x y:AX):dS e (.beqS ng ks x y)=vB ng (mX ks (evE e x) (evE e y)):=by
 simp only[dS];cases mX ks (evE e x) (evE e y)<;>rfl
theorem vA (ks:List Nat)(ps qs:List PV):mX ks (.pv (.agg ps)) (.pv (.agg qs))=lF ks ps qs:=_root_.id rfl
theorem CS:lF [] [] []=some true:=_root_.id rfl
theorem xK (l:List Nat)(a b:Bool)(r s:List PV):lF (0::l) (.bool a::r) (.bool b::s)=Er (some (a == b)) (lF l r s):=_root_.id rfl
theorem CT (l:List Nat)(k:IntKind)(a b:Int)(r s:List PV):lF (1::l) (.int k a::r) (.int k b::s)=Er (some (decide (a=b))) (lF l r s):=by
 simp only[lF,Ix,if_true];congr 2
theorem CR (l:List Nat)(a b:List UInt8)(r s:List PV):lF (2::l) (.str a::r) (.str b::s)=Er (some (a == b)) (lF l r s):=_root_.id rfl
theorem yS (a b:Bool):Er (some a) (some b)=some (a&&b):=_root_.id rfl
theorem mA (e:List (Nat×AV))(x:AX):dS e (.convIS x)=fb (evE e x):=_root_.id rfl
theorem mT (k:IntKind)(n:Int):fb (.pv (.int k n))=some (.pv (.str (Utf8.encode n).data.toList)):=_root_.id rfl
theorem p7 (e:List (Nat×AV))(x:AX):dS e (.convS x)=iK (evE e x):=_root_.id rfl
theorem At (e:List (Nat×AV))(f:Nat)(fs cs:List AX):dS e (.clo f fs cs)=some (np f (evL e fs) (evL e cs)):=_root_.id rfl
theorem As (e:List (Nat×AV))(x:AX)(i:Nat):dS e (.ext x i)=FU i (evE e x):=_root_.id rfl
theorem pX (e:List (Nat×AV))(x:AX):dS e (.nilck x)=zx (evE e x):=_root_.id rfl
theorem FL (x y:AV):mM (.pv (.bool true)) x y=some x:=_root_.id rfl
theorem FM (x y:AV):mM (.pv (.bool false)) x y=some y:=_root_.id rfl
theorem qE (off r o:Nat):fD off (.ptr r o)=some (.ptr r (o+off)):=_root_.id rfl
theorem mS (off:Nat)(l:List PV)(i o:Nat):fD off (.pv (.eptr l i o))=some (.pv (.eptr l i (o+off))):=_root_.id rfl
theorem mR (off g o:Nat):fD off (.pv (.gptr g o))=some (.pv (.gptr g (o+off))):=_root_.id rfl
theorem u7 (g:Bool)(sz off:Nat)(ps:List PV):gH g sz off (.pv (.agg ps))=bP g sz off (ps.map .pv):=_root_.id rfl
theorem u9 (g:Bool)(sz off:Nat)(ps:List AV):gH g sz off (.agg ps)=bP g sz off ps:=_root_.id rfl
def Ju (sz off:Nat)(cs:List AV):Option AV:=if off+sz≤cs.length then some (fR ((cs.drop off).take sz)) else none
theorem F1 (sz off:Nat)(cs:List AV):bP true sz off cs=Ju sz off cs:=_root_.id rfl
theorem F2 (sz off:Nat)(cs:List AV):bP false sz off cs=cs[off]?:=_root_.id rfl
def kN (sz:Nat)(l:List PV)(i:Nat):Option PV→Option AV
 | some y=>if y.cells.length=sz then some (.pv (.eptr l i 0)) else none
 | none=>none
theorem kG (sz:Nat)(l:List PV)(i:Nat):ir sz l (i:Int)=kN sz l i l[i]?:=by
 unfold ir kN
 rw[if_pos (by omega)]
 simp only[Int.toNat_natCast]
 cases l[i]? <;> rfl
theorem br (sz:Nat)(l:List PV):ir sz l 0=kN sz l 0 l[0]?:=_root_.id rfl
theorem qF (sz:Nat)(l:List PV)(i:Nat):ir sz l ((i:Int)+1)=kN sz l (i+1) l[i+1]?:=kG sz l (i+1)
theorem mQ (sz:Nat)(l:List PV)(k:IntKind)(n:Int):eI sz (.pv (.list l)) (.pv (.int k n))=ir sz l n:=_root_.id rfl
theorem kD (sz r s:Nat)(l:List PV)(k:IntKind)(n:Int):eI sz (.olist r s l) (.pv (.int k n))=ir sz l n:=_root_.id rfl
theorem qD (sz r off len:Nat)(k:IntKind){n:Int}(h:0≤n)(h':n.toNat<len):eI sz (.row r sz off len) (.pv (.int k n))=some (.ptr r (off+n.toNat*sz)):=by
 simp[eI,h,h']
theorem A5 (l:List UInt8):zy true (.pv (.str l))=some (.pv (.int .i64 l.length)):=_root_.id rfl
theorem uY (l:List PV):zy false (.pv (.list l))=some (.pv (.int .i64 l.length)):=_root_.id rfl
theorem uX:zy false (.pv .nils)=some (.pv (.int .i64 0)):=_root_.id rfl
theorem qC (r s:Nat)(l:List PV):zy false (.olist r s l)=some (.pv (.int .i64 l.length)):=_root_.id rfl
theorem A6 (r s o n:Nat):zy false (.row r s o n)=some (.pv (.int .i64 n)):=_root_.id rfl
theorem mU {d top:Nat}{k:IntKind}{n:Int}(h0:0≤n)(h1:n≤top):aM d top (some (.pv (.int k n)))=some n.toNat:=by
 simp[aM,h0,h1]
theorem mV {d top:Nat}:aM d top none=some d:=_root_.id rfl
def MZ {α:Type}(l:List α)(f:List α→AV):Option Nat→Option Nat→Option AV
 | some h,some a=>some (f ((l.take h).drop a))
 | _,_=>none
theorem x7 {α:Type}(l:List α)(f:List α→AV)(h a:Nat):MZ l f (some h) (some a)=some (f ((l.take h).drop a)):=_root_.id rfl
def Na (l:Nat)(lo:Option AV):Option Nat→Option Nat
 | some h=>aM 0 h lo
 | none=>none
theorem yI (l:Nat)(lo:Option AV)(h:Nat):Na l lo (some h)=aM 0 h lo:=_root_.id rfl
theorem mL (l:List UInt8)(lo hi:Option AV):eh (.pv (.str l)) lo hi=MZ l (fun x=>.pv (.str x)) (aM l.length l.length hi) (Na l.length lo (aM l.length l.length hi)):=by
 unfold eh MZ Na
 simp only
 split<;>rename_i h
 ·rw[h];simp only;cases aM 0 _ lo<;>rfl
 ·rw[h]
theorem Bm (k:IntKind)(a b:Int):cb .add (.pv (.int k a)) (.pv (.int k b))=some (.pv (.int k (k.wrap (a+b)))):=by simp[cb,j3]
theorem Bb (k:IntKind)(a b:Int):cb .sub (.pv (.int k a)) (.pv (.int k b))=some (.pv (.int k (k.wrap (a - b)))):=by simp[cb,j3]
theorem Bf (k:IntKind)(a b:Int):cb .mul (.pv (.int k a)) (.pv (.int k b))=some (.pv (.int k (k.wrap (a*b)))):=by simp[cb,j3]
theorem Bd {k:IntKind}{a b:Int}(h:¬ b=0):cb .quo (.pv (.int k a)) (.pv (.int k b))=some (.pv (.int k (k.wrap (a.tdiv b)))):=by simp[cb,j3,h]
theorem Bc {k:IntKind}{a b:Int}(h:¬ b=0):cb .rem (.pv (.int k a)) (.pv (.int k b))=some (.pv (.int k (a.tmod b))):=by simp[cb,j3,h]
theorem Bl (k:IntKind)(a b:Int):cb .and (.pv (.int k a)) (.pv (.int k b))=some (.pv (.int k (bits .and k a b))):=by simp[cb,j3]
theorem FW (k:IntKind)(a b:Int):cb .or (.pv (.int k a)) (.pv (.int k b))=some (.pv (.int k (bits .or k a b))):=by simp[cb,j3]
theorem Ba (k:IntKind)(a b:Int):cb .xor (.pv (.int k a)) (.pv (.int k b))=some (.pv (.int k (bits .xor k a b))):=by simp[cb,j3]
theorem mW (k:IntKind)(a b:Int):cb .andNot (.pv (.int k a)) (.pv (.int k b))=some (.pv (.int k (bits .andNot k a b))):=by simp[cb,j3]
theorem Bk (k:IntKind)(a b:Int):cb .eql (.pv (.int k a)) (.pv (.int k b))=some (.pv (.bool (decide (a=b)))):=by simp[cb,j3];rfl
theorem Be (k:IntKind)(a b:Int):cb .neq (.pv (.int k a)) (.pv (.int k b))=some (.pv (.bool (!decide (a=b)))):=by simp[cb,j3];rfl
theorem Bg (k:IntKind)(a b:Int):cb .lss (.pv (.int k a)) (.pv (.int k b))=some (.pv (.bool (decide (a<b)))):=by simp[cb,j3]
theorem Bh (k:IntKind)(a b:Int):cb .leq (.pv (.int k a)) (.pv (.int k b))=some (.pv (.bool (decide (a≤b)))):=by simp[cb,j3]
theorem Bi (k:IntKind)(a b:Int):cb .gtr (.pv (.int k a)) (.pv (.int k b))=some (.pv (.bool (decide (b<a)))):=by simp[cb,j3]
theorem Bj (k:IntKind)(a b:Int):cb .geq (.pv (.int k a)) (.pv (.int k b))=some (.pv (.bool (decide (b≤a)))):=by simp[cb,j3]
theorem vp {a b:List UInt8}(h:a.length+b.length≤9223372036854775807):cb .add (.pv (.str a)) (.pv (.str b))=some (.pv (.str (a++b))):=by
 have:a.length+b.length≤maxLen:=by unfold maxLen;omega
 simp[cb,Is,this]
theorem vo (a b:List UInt8):cb .eql (.pv (.str a)) (.pv (.str b))=some (.pv (.bool (decide (a=b)))):=by
 simp[cb,Is];rw[Bool.eq_iff_iff];simp
theorem vg (a b:List UInt8):cb .neq (.pv (.str a)) (.pv (.str b))=some (.pv (.bool (!decide (a=b)))):=by
 simp[cb,Is];rw[Bool.eq_iff_iff];simp
theorem vh (a b:List UInt8):cb .lss (.pv (.str a)) (.pv (.str b))=some (.pv (.bool (bj a b))):=_root_.id rfl
theorem vi (a b:List UInt8):cb .leq (.pv (.str a)) (.pv (.str b))=some (.pv (.bool (bj a b||a == b))):=_root_.id rfl
theorem vj (a b:List UInt8):cb .gtr (.pv (.str a)) (.pv (.str b))=some (.pv (.bool (!(bj a b||a == b)))):=_root_.id rfl
theorem vm (a b:List UInt8):cb .geq (.pv (.str a)) (.pv (.str b))=some (.pv (.bool (!(bj a b)))):=_root_.id rfl
theorem vz (a b:Bool):mY 0 (.pv (.bool a)) (.pv (.bool b))=some (a == b):=_root_.id rfl
theorem Bq (r o:Nat):mY 1 (.ptr r o) (.pv .nilp)=some false:=_root_.id rfl
theorem vv (l:List PV)(i o:Nat):mY 1 (.pv (.eptr l i o)) (.pv .nilp)=some false:=_root_.id rfl
theorem vu:mY 1 (.pv .nilp) (.pv .nilp)=some true:=_root_.id rfl
theorem vw (x:PV)(l:List PV):mY 2 (.pv (.list (x::l))) (.pv .nils)=some false:=_root_.id rfl
theorem qJ (r s:Nat)(x:PV)(l:List PV):mY 2 (.olist r s (x::l)) (.pv .nils)=some false:=_root_.id rfl
theorem Bp {r s o n:Nat}(h:0<n):mY 2 (.row r s o n) (.pv .nils)=some false:=by
 cases n with
 | zero=>exact absurd h (Nat.lt_irrefl _)
 | succ n=>rfl
theorem vq:mY 2 (.pv .nils) (.pv .nils)=some true:=_root_.id rfl
theorem A2 (k:IntKind)(n:Int):Iu (.pv (.int k n))=some (.pv (.int k (k.wrap (0 - n)))):=_root_.id rfl
theorem uQ (b:Bool):It (.pv (.bool b))=some (.pv (.bool (!b))):=_root_.id rfl
theorem ve (k k':IntKind)(n:Int):qH k (.pv (.int k' n))=some (.pv (.int k (k.wrap n))):=_root_.id rfl
theorem qG (s:List UInt8):iK (.pv (.str s))=some (.pv (.str s)):=_root_.id rfl
theorem A0 (r o:Nat):zx (.ptr r o)=some (.ptr r o):=_root_.id rfl
theorem uT (l:List PV)(i o:Nat):zx (.pv (.eptr l i o))=some (.pv (.eptr l i o)):=_root_.id rfl
theorem uS (g o:Nat):zx (.pv (.gptr g o))=some (.pv (.gptr g o)):=_root_.id rfl
theorem uR (f:Nat)(a b:List PV):zx (.pv (.clo f a b))=some (.pv (.clo f a b)):=_root_.id rfl
theorem A1 (f:Nat)(a b:List AV):zx (.clo f a b)=some (.clo f a b):=_root_.id rfl
theorem FS (i:Nat)(ps:List PV):FU i (.pv (.tup ps))=(ps[i]?).map .pv:=_root_.id rfl
theorem FT (i:Nat)(ps:List AV):FU i (.tup ps)=ps[i]?:=_root_.id rfl
theorem vX {α β:Type}(f:α→β)(a:α):(some a).map f=some (f a):=_root_.id rfl
theorem rp:[].map AV.pv=[]:=_root_.id rfl
theorem nt (x:PV)(r:List PV):(x::r).map AV.pv = .pv x::r.map AV.pv:=_root_.id rfl
theorem N6 {α:Type}(x:α)(r:List α):(x::r)[0]? = some x:=_root_.id rfl
theorem N5 {α:Type}(x:α)(r:List α)(n:Nat):(x::r)[n+1]? = r[n]?:=_root_.id rfl
theorem FZ:pvs []=some []:=_root_.id rfl
def LS:Option PV→Option (List PV)→Option (List PV)
 | some p,some ps=>some (p::ps)
 | _,_=>none
theorem vF (p:PV)(ps:List PV):LS (some p) (some ps)=some (p::ps):=_root_.id rfl
theorem vG (x:Option (List PV)):LS none x=none:=_root_.id rfl
theorem qO (x:Option PV):LS x none=none:=by cases x<;>rfl
theorem oJ (x:AV)(r:List AV):pvs (x::r)=LS x.toPV (pvs r):=by
 show (match x.toPV,pvs r with | some p,some ps=>some (p::ps) | _,_=>none)=_
 cases x.toPV<;>cases pvs r<;>rfl
theorem vE:∀ (ps:List PV),pvs (ps.map .pv)=some ps
 | []=>rfl
 | x::r=>by rw[List.map_cons,oJ,vE r];rfl
theorem EV (p:PV):(AV.pv p).toPV=some p:=_root_.id rfl
theorem pT (r s:Nat)(l:List PV):(AV.olist r s l).toPV=some (.list l):=_root_.id rfl
theorem Ak (r o:Nat):(AV.ptr r o).toPV=none:=_root_.id rfl
theorem Aj (r s o n:Nat):(AV.row r s o n).toPV=none:=_root_.id rfl
theorem Am (cs:List AV):(AV.agg cs).toPV=none:=_root_.id rfl
theorem Ai (cs:List AV):(AV.tup cs).toPV=none:=_root_.id rfl
theorem Al (f:Nat)(a b:List AV):(AV.clo f a b).toPV=none:=_root_.id rfl
def wn (cs:List AV):Option (List PV)→AV
 | some ps=>.pv (.agg ps)
 | none=>.agg cs
theorem Gp (cs:List AV):fR cs=wn cs (pvs cs):=by unfold fR;cases pvs cs<;>rfl
theorem nq (cs:List AV)(ps:List PV):wn cs (some ps) = .pv (.agg ps):=_root_.id rfl
theorem nr (cs:List AV):wn cs none = .agg cs:=_root_.id rfl
def wl (cs:List AV):Option (List PV)→AV
 | some ps=>.pv (.tup ps)
 | none=>.tup cs
theorem Gm (cs:List AV):kX cs=wl cs (pvs cs):=by unfold kX;cases pvs cs<;>rfl
theorem ni (cs:List AV)(ps:List PV):wl cs (some ps) = .pv (.tup ps):=_root_.id rfl
theorem nj (cs:List AV):wl cs none = .tup cs:=_root_.id rfl
def kZ (f:Nat)(fs cs:List AV):Option (List PV)→Option (List PV)→AV
 | some a,some b=>.pv (.clo f a b)
 | _,_=>.clo f fs cs
theorem Gn (f:Nat)(fs cs:List AV):np f fs cs=kZ f fs cs (pvs fs) (pvs cs):=by unfold np kZ;cases pvs fs<;>cases pvs cs<;>rfl
theorem nk (f:Nat)(fs cs:List AV)(a b:List PV):kZ f fs cs (some a) (some b) = .pv (.clo f a b):=_root_.id rfl
theorem nl (f:Nat)(fs cs:List AV)(a:Option (List PV)):kZ f fs cs a none = .clo f fs cs:=by cases a<;>rfl
theorem kY (f:Nat)(fs cs:List AV)(a:Option (List PV)):kZ f fs cs none a = .clo f fs cs:=by cases a<;>rfl
theorem yq (p:PV):(AV.pv p).cells=p.cells.map .pv:=_root_.id rfl
theorem sJ (cs:List AV):(AV.agg cs).cells=cs:=_root_.id rfl
theorem sF (cs:List AV):(AV.tup cs).cells=[.tup cs]:=_root_.id rfl
theorem sH (r o:Nat):(AV.ptr r o).cells=[.ptr r o]:=_root_.id rfl
theorem sG (r s o n:Nat):(AV.row r s o n).cells=[.row r s o n]:=_root_.id rfl
theorem lQ (r s:Nat)(l:List PV):(AV.olist r s l).cells=[.olist r s l]:=_root_.id rfl
theorem sI (f:Nat)(a b:List AV):(AV.clo f a b).cells=[.clo f a b]:=_root_.id rfl
theorem ag (cs:List PV):(PV.agg cs).cells=cs:=_root_.id rfl
theorem sE (b:Bool):(PV.bool b).cells=[.bool b]:=_root_.id rfl
theorem yo (k:IntKind)(n:Int):(PV.int k n).cells=[.int k n]:=_root_.id rfl
theorem yj (s:List UInt8):(PV.str s).cells=[.str s]:=_root_.id rfl
theorem sx:PV.nils.cells=[.nils]:=_root_.id rfl
theorem sB (l:List PV):(PV.list l).cells=[.list l]:=_root_.id rfl
theorem sy:PV.nilp.cells=[.nilp]:=_root_.id rfl
theorem sA:PV.nilf.cells=[.nilf]:=_root_.id rfl
theorem yp (f:Nat)(a b:List PV):(PV.clo f a b).cells=[.clo f a b]:=_root_.id rfl
theorem sD (l:List PV)(i o:Nat):(PV.eptr l i o).cells=[.eptr l i o]:=_root_.id rfl
theorem sC (g o:Nat):(PV.gptr g o).cells=[.gptr g o]:=_root_.id rfl
def Gx (g:Bool)(sz o:Nat):Blk→Option AV
 | .cells _ _ l=>bP g sz o l
 | _=>none
theorem nH (g:Bool)(sz o T:Nat)(f:Bool)(l:List AV):Gx g sz o (.cells T f l)=bP g sz o l:=_root_.id rfl
def Gt (g:Bool)(sz o:Nat):Option PV→Option AV
 | some e=>ix g sz o e
 | none=>none
theorem rF (g:Bool)(sz o:Nat)(e:PV):Gt g sz o (some e)=ix g sz o e:=_root_.id rfl
theorem uW (G:Nat→List PV)(g:Bool)(sz:Nat)(σ:aq)(r o:Nat):cI G g sz σ (.ptr r o)=Gx g sz o (σ r):=by
 simp only[cI,Gx];cases σ r<;>rfl
theorem qB (G:Nat→List PV)(g:Bool)(sz:Nat)(σ:aq)(l:List PV)(i o:Nat):cI G g sz σ (.pv (.eptr l i o))=Gt g sz o l[i]?:=by
 simp only[cI,Gt];cases l[i]? <;> rfl
theorem qA (G:Nat→List PV)(g:Bool)(sz:Nat)(σ:aq)(b o:Nat):cI G g sz σ (.pv (.gptr b o))=bP g sz o ((G b).map .pv):=_root_.id rfl
theorem Gw (sz o:Nat)(e:PV):ix false sz o e=bP false sz o (e.cells.map .pv):=by simp[ix]
theorem Gv {sz o:Nat}{cs:List PV}(h:0<o):ix true sz o (.agg cs)=bP true sz o (cs.map .pv):=by
 simp[ix,PV.cells];omega
def e5 (e:List (Nat×AV))(σ:List (Nat×Blk))(new:Nat):XOp→Option (AV×List (Nat×Blk))
 | .cap sz x=>(A9 sz (fun r=>lookB r σ) (evE e x)).map fun v=>(v,[])
 | .resl sz x h=>(jv sz (fun r=>lookB r σ) (evE e x) (evE e h)).map fun v=>(v,[])
 | .copy sz x y=>kH sz (fun r=>lookB r σ) (evE e x) (evE e y)
 | .apart x y=>(eK (fun r=>lookB r σ) (evE e x) (evE e y)).map fun v=>(v,[])
 | .appz t sz by_ zs x k=>kK t sz by_ zs new (fun r=>lookB r σ) (evE e x) (evE e k)
 | .noesc x=>some (evE e x,[])
 | .ucast u n b x=>(dv u n b (fun r=>lookB r σ) (evE e x)).map fun v=>(v,[])
 | .peq ng x y=>(FN ng (evE e x) (evE e y)).map fun v=>(v,[])
 | .anyc=>some (.any,[])
 | .apps t by_ x y=>iu t by_ new (fun r=>lookB r σ) (evE e x) (evE e y)
 | .sdata x=>(eG (evE e x)).map fun v=>(v,[])
 | .ustr t x k=>kA t (fun r=>lookB r σ) (evE e x) (evE e k)
 | .ofStr x=>dZ new (evE e x)
 | .fnil ng x y=>(kE ng (evE e x) (evE e y)).map fun v=>(v,[])
 | .inil ng x y=>(A7 ng (evE e x) (evE e y)).map fun v=>(v,[])
 | .idxb x y=>(mP (evE e x) (evE e y)).map fun v=>(v,[])
 | .mki T x=>(LR T (evE e x)).map fun v=>(v,[])
 | .mkmap=>some (.mp new,[(new,.mp [])])
 | .mlook kd co z x k=>(uV kd co z (fun r=>lookB r σ) (evE e x) (evE e k)).map fun v=>(v,[])
 | .mset kd x k v=>(uU kd (fun r=>lookB r σ) (evE e x) (evE e k) (evE e v)).map fun d=>(.pv .undef,d)
 | .bslf sz len xs=>FV sz len (evL e xs)
 | .same x=>uN (fun r=>lookB r σ) (evE e x)
theorem EB (e:List (Nat×AV))(σ:List (Nat×Blk))(n new:Nat)(o:XOp):o.run new (St.E ⟨e,σ,n⟩) (St.σ ⟨e,σ,n⟩)=e5 e σ new o:=by
 cases o<;>simp only[XOp.run,e5,fW,CO]<;>rfl
def iw (G:Nat→List PV)(e:List (Nat×AV))(σ:List (Nat×Blk))(new:Nat):MOp→Option (AV×List (Nat×Blk))
 | .alloc T zs=>some (.ptr new 0,[(new,.cells T true (zs.map .pv))])
 | .box T x=>if (evE e x).known=true then some (.ptr new 0,[(new,.cells T true (evE e x).cells)]) else none
 | .cbox T x=>match (evE e x).toPV with
   | some p=>if p.cells.all PV.one=true then some (.pv (.eptr [p] 0 0),[(new,.none)]) else none
   | none=>none
 | .load g sz x=>(cI G g sz (fun r=>lookB r σ) (evE e x)).map fun v=>(v,[])
 | .store sz x v=>(eF sz (fun r=>lookB r σ) (evE e x) (evE e v)).map fun d=>(.pv .undef,d)
 | .clear sz zs x=>(eJ sz zs (fun r=>lookB r σ) (evE e x)).map fun d=>(.pv (.tup []),d)
 | .toStr x=>(dg (fun r=>lookB r σ) (evE e x)).map fun v=>(v,[])
 | .xop o=>e5 e σ new o
 | .bslice mu t sz len xs=>bO mu t sz len new (evL e xs)
 | .append mu t sz by_ x y=>cj mu t sz by_ new (fun r=>lookB r σ) (evE e x) (evE e y)
 | .mk mu t sz by_ zs x y=>rMk mu t sz by_ zs new (evE e x) (evE e y)
 | .sliceA n sz x lo hi=>match evE e x with
   | .ptr r o=>match lookB r σ with
     | .cells _ f l=>if f=true∧o+n*sz≤l.length∧(o=0→n*sz=l.length)∧n≤9223372036854775807 then (bN sz (.row r sz o n) (evO e lo) (evO e hi)).map fun v=>(v,[]) else none
     | _=>none
   | _=>none
theorem wu (G:Nat→List PV)(e:List (Nat×AV))(σ:List (Nat×Blk))(n new:Nat)(o:MOp):o.run G new (St.E ⟨e,σ,n⟩) (St.σ ⟨e,σ,n⟩)=iw G e σ new o:=by
 cases o<;>first | (simp only[MOp.run,iw,fW,CO,J5]<;>rfl) | exact EB e σ n new _
def cB (δ:List (Nat×Blk)):Option AV→Option (AV×List (Nat×Blk))
 | some v=>some (v,δ)
 | none=>none
theorem pO (δ:List (Nat×Blk))(v:AV):cB δ (some v)=some (v,δ):=_root_.id rfl
def z1 (v:AV):Option (List (Nat×Blk))→Option (AV×List (Nat×Blk))
 | some δ=>some (v,δ)
 | none=>none
theorem pN (δ:List (Nat×Blk))(v:AV):z1 v (some δ)=some (v,δ):=_root_.id rfl
theorem ry (G:Nat→List PV)(e:List (Nat×AV))(σ:List (Nat×Blk))(new T:Nat)(zs:List PV):iw G e σ new (.alloc T zs)=some (.ptr new 0,[(new,.cells T true (zs.map .pv))]):=_root_.id rfl
def NZ (new T:Nat)(v:AV):Bool→Option (AV×List (Nat×Blk))
 | true=>some (.ptr new 0,[(new,.cells T true v.cells)])
 | false=>none
theorem KG (new T:Nat)(v:AV):NZ new T v true=some (.ptr new 0,[(new,.cells T true v.cells)]):=_root_.id rfl
theorem B5 (G:Nat→List PV)(e:List (Nat×AV))(σ:List (Nat×Blk))(new T:Nat)(x:AX):iw G e σ new (.box T x)=NZ new T (evE e x) (evE e x).known:=by
 simp only[iw];cases (evE e x).known<;>rfl
def Hh (new:Nat):Option PV→Option (AV×List (Nat×Blk))
 | some p=>if p.cells.all PV.one=true then some (.pv (.eptr [p] 0 0),[(new,.none)]) else none
 | none=>none
theorem sK (new:Nat)(p:PV):Hh new (some p)=if p.cells.all PV.one=true then some (.pv (.eptr [p] 0 0),[(new,.none)]) else none:=_root_.id rfl
theorem wv (G:Nat→List PV)(e:List (Nat×AV))(σ:List (Nat×Blk))(new T:Nat)(x:AX):iw G e σ new (.cbox T x)=Hh new (evE e x).toPV:=by
 simp only[iw,Hh]
theorem Ce (p:PV):(AV.pv p).known=true:=_root_.id rfl
theorem wM (cs:List AV):(AV.agg cs).known=true:=_root_.id rfl
theorem wI (cs:List AV):(AV.tup cs).known=true:=_root_.id rfl
theorem wK (r o:Nat):(AV.ptr r o).known=true:=_root_.id rfl
theorem wJ (r s o n:Nat):(AV.row r s o n).known=true:=_root_.id rfl
theorem nJ (r s:Nat)(l:List PV):(AV.olist r s l).known=true:=_root_.id rfl
theorem wL (f:Nat)(a b:List AV):(AV.clo f a b).known=true:=_root_.id rfl
theorem wq (G:Nat→List PV)(e:List (Nat×AV))(σ:List (Nat×Blk))(new:Nat)(g:Bool)(sz:Nat)(x:AX):iw G e σ new (.load g sz x)=cB [] (cI G g sz (fun r=>lookB r σ) (evE e x)):=by
 simp only[iw];cases cI G g sz (fun r=>lookB r σ) (evE e x)<;>rfl
theorem ru (G:Nat→List PV)(e:List (Nat×AV))(σ:List (Nat×Blk))(new sz:Nat)(x v:AX):iw G e σ new (.store sz x v)=z1 (.pv .undef) (eF sz (fun r=>lookB r σ) (evE e x) (evE e v)):=by
 simp only[iw];cases eF sz (fun r=>lookB r σ) (evE e x) (evE e v)<;>rfl
def Ej (sz:Nat)(zs:List PV)(r s off len:Nat):Blk→Option (List (Nat×Blk))
 | .cells T f l=>if s=sz∧0<len∧zs.length=sz∧off+len*sz≤l.length∧zs.all PV.one=true then some [(r,.cells T f (l.take off++(List.replicate len zs).flatten.map .pv++l.drop (off+len*sz)))] else none
 | _=>none
theorem qI (sz:Nat)(zs:List PV)(σ:aq)(r s off len:Nat):eJ sz zs σ (.row r s off len)=Ej sz zs r s off len (σ r):=by
 simp only[eJ,Ej];cases σ r<;>rfl
theorem rx (G:Nat→List PV)(e:List (Nat×AV))(σ:List (Nat×Blk))(new sz:Nat)(zs:List PV)(x:AX):iw G e σ new (.clear sz zs x)=z1 (.pv (.tup [])) (eJ sz zs (fun r=>lookB r σ) (evE e x)):=by
 simp only[iw,z1];cases eJ sz zs (fun r=>lookB r σ) (evE e x)<;>rfl
theorem nD (G:Nat→List PV)(e:List (Nat×AV))(σ:List (Nat×Blk))(new:Nat)(mu:Bool)(t sz len:Nat)(xs:List AX):iw G e σ new (.bslice mu t sz len xs)=bO mu t sz len new (evL e xs):=_root_.id rfl
theorem nE (G:Nat→List PV)(e:List (Nat×AV))(σ:List (Nat×Blk))(new:Nat)(mu:Bool)(t sz by_:Nat)(x y:AX):iw G e σ new (.append mu t sz by_ x y)=cj mu t sz by_ new (fun r=>lookB r σ) (evE e x) (evE e y):=_root_.id rfl
theorem Gq (G:Nat→List PV)(e:List (Nat×AV))(σ:List (Nat×Blk))(new:Nat)(mu:Bool)(t sz by_:Nat)(zs:List PV)(x y:AX):iw G e σ new (.mk mu t sz by_ zs x y)=rMk mu t sz by_ zs new (evE e x) (evE e y):=_root_.id rfl
theorem FO {e sz by_:Nat}{zs:List PV}{new:Nat}{k k':IntKind}{c:Int}(h:0≤c)(h1:(by_:Int)*c≤281474976710656)(h2:c≤9223372036854775807):rMk false e sz by_ zs new (.pv (.int k 0)) (.pv (.int k' c))=some (.olist new sz [],[(new,.tok e sz)]):=by
 simp[rMk,h,h1,h2]
def ow (sz r o:Nat)(v:AV):Blk→Option (List (Nat×Blk))
 | .cells T f l=>if v.known=true∧v.cells.length=sz∧v.cells.all AV.one=true∧o+sz≤l.length then some [(r,.cells T f (l.take o++v.cells++l.drop (o+sz)))] else none
 | _=>none
theorem qw (sz:Nat)(σ:aq)(r o:Nat)(v:AV):eF sz σ (.ptr r o) v=ow sz r o v (σ r):=by
 simp only[eF,ow];cases σ r<;>rfl
def DK (r T:Nat)(f:Bool)(l:List AV)(sz o:Nat)(cs:List AV):Bool→Option (List (Nat×Blk))
 | true=>some [(r,.cells T f (l.take o++cs++l.drop (o+sz)))]
 | false=>none
theorem kg (sz r o:Nat)(v:AV)(T:Nat)(f:Bool)(l:List AV):ow sz r o v (.cells T f l)=DK r T f l sz o v.cells (v.known&&decide (v.cells.length=sz)&&v.cells.all AV.one&&decide (o+sz≤l.length)):=by
 simp only[ow]
 by_cases h:v.known=true∧v.cells.length=sz∧v.cells.all AV.one=true∧o+sz≤l.length
 ·rw[if_pos h]
  have:(v.known&&decide (v.cells.length=sz)&&v.cells.all AV.one&&decide (o+sz≤l.length))=true:=by simp only[Bool.and_eq_true,decide_eq_true_eq];exact⟨⟨⟨h.1,h.2.1⟩,h.2.2.1⟩,h.2.2.2⟩
  rw[this];rfl
 ·rw[if_neg h]
  have:(v.known&&decide (v.cells.length=sz)&&v.cells.all AV.one&&decide (o+sz≤l.length))=false:=by
   rw[Bool.eq_false_iff]
   intro hh
   simp only[Bool.and_eq_true,decide_eq_true_eq] at hh
   exact h ⟨hh.1.1.1,hh.1.1.2,hh.1.2,hh.2⟩
  rw[this];rfl
theorem Az (r T:Nat)(f:Bool)(l:List AV)(sz o:Nat)(cs:List AV):DK r T f l sz o cs true=some [(r,.cells T f (l.take o++cs++l.drop (o+sz)))]:=_root_.id rfl
theorem ef {n m by_:Nat}(h1:n+m≤9223372036854775807)(h2:(n+m)*by_≤140737488355328):iI n m by_=true:=by
 simp[iI,h1,h2]
theorem Ac (l:List (Nat×Blk)):jn l []=l:=_root_.id rfl
theorem tM (l:List (Nat×Blk))(p:Nat×Blk)(r:List (Nat×Blk)):jn l (p::r)=jn (p::l) r:=_root_.id rfl
theorem C0 (f:Nat)(a b:List PV):bV (.pv (.clo f a b))=some (f,a.map .pv,b.map .pv):=_root_.id rfl
theorem C1 (f:Nat)(a b:List AV):bV (.clo f a b)=some (f,a,b):=_root_.id rfl
theorem F9 {α:Type}(a:α)(k:α→Prop):aC (some a) k=k a:=_root_.id rfl
section
variable {P:Program}{G:Nat→List PV}
theorem BS (F:St→Prop)(e:List (Nat×AV))(σ:List (Nat×Blk))(n d:Nat)(v:AV):BT F ⟨e,σ,n⟩ (some d) v=F ⟨(d,v)::e,σ,n⟩:=_root_.id rfl
theorem BR (F:St→Prop)(e:List (Nat×AV))(σ:List (Nat×Blk))(n:Nat)(v:AV):BT F ⟨e,σ,n⟩ none v=F ⟨e,σ,n⟩:=_root_.id rfl
theorem BV (F:St→Prop)(e:List (Nat×AV))(σ:List (Nat×Blk))(n d:Nat)(v:AV)(δ:List (Nat×Blk)):re F ⟨e,σ,n⟩ (some d) (v,δ)=F ⟨(d,v)::e,jn σ δ,n+1⟩:=_root_.id rfl
theorem BU (F:St→Prop)(e:List (Nat×AV))(σ:List (Nat×Blk))(n:Nat)(v:AV)(δ:List (Nat×Blk)):re F ⟨e,σ,n⟩ none (v,δ)=F ⟨e,jn σ δ,n+1⟩:=_root_.id rfl
theorem BX (F:St→Prop)(e:List (Nat×AV))(σ:List (Nat×Blk))(n d:Nat)(v:AV):BY F (some d) v ⟨e,σ,n⟩=F ⟨(d,v)::e,σ,n⟩:=_root_.id rfl
theorem BW (F:St→Prop)(e:List (Nat×AV))(σ:List (Nat×Blk))(n:Nat)(v:AV):BY F none v ⟨e,σ,n⟩=F ⟨e,σ,n⟩:=_root_.id rfl
theorem C7 (args:List AV)(s:St)(K:AV→St→Prop)(f:Nat)(a b:List AV):yu P G args s K (f,a,b)=ae P G f (a++args++b) s K:=_root_.id rfl
theorem tG (F:St→Prop)(s:St):ca P G [] F s=F s:=_root_.id rfl
theorem pR (d:Option Nat)(o:AOp)(r:List AOper)(F:St→Prop)(s:St):ca P G (⟨d,o,none⟩::r) F s=iq P G (ca P G r F) s d o:=_root_.id rfl
def gu (b:Bool):AV→Option Bool
 | .pv (.bool x)=>some (x == b)
 | .pv .undef=>some false
 | _=>none
theorem tD (x:Bool):gu true (.pv (.bool x))=some x:=by cases x<;>rfl
theorem tE (x:Bool):gu false (.pv (.bool x))=some (!x):=by cases x<;>rfl
theorem tC (b:Bool):gu b (.pv .undef)=some false:=_root_.id rfl
theorem mm (d:Option Nat)(o:AOp)(i:Nat)(b:Bool)(r:List AOper)(F:St→Prop)(e:List (Nat×AV))(σ:List (Nat×Blk))(n:Nat) :
  ca P G (⟨d,o,some (i,b)⟩::r) F ⟨e,σ,n⟩=aC (gu b (look i e)) (Ee P G (ca P G r F) ⟨e,σ,n⟩ d o):=_root_.id rfl
theorem xY (F:St→Prop)(s:St)(d:Option Nat)(o:AOp):Ee P G F s d o true=iq P G F s d o:=_root_.id rfl
theorem sf (F:St→Prop)(e:List (Nat×AV))(σ:List (Nat×Blk))(n:Nat)(d:Nat)(o:AOp):Ee P G F ⟨e,σ,n⟩ (some d) o false=F ⟨(d,.pv .undef)::e,σ,n⟩:=_root_.id rfl
theorem nU (F:St→Prop)(s:St)(o:AOp):Ee P G F s none o false=F s:=_root_.id rfl
def JE (k:AV→Prop):AV→Prop
 | .pv (.list [])=>∀ b:Bool,k (.pv (.bool b))
 | _=>False
def jw (x:Option AV)(k:AV→Prop)(e:List (Nat×AV))(o:TOp):Prop:=
 match x with
 | some v=>k v
 | none=>match o with
   | .beq 2 _ y (.c .nils)=>JE k (evE e y)
   | _=>False
theorem kL (v:AV)(k:AV→Prop)(e:List (Nat×AV))(o:TOp):jw (some v) k e o=k v:=_root_.id rfl
theorem kM (k:AV→Prop)(e:List (Nat×AV))(ng:Bool)(y:AX):jw none k e (.beq 2 ng y (.c .nils))=JE k (evE e y):=_root_.id rfl
theorem BN (k:AV→Prop):JE k (.pv (.list [])) = ∀ b:Bool,k (.pv (.bool b)):=_root_.id rfl
theorem Br (ng:Bool):vB ng (mY 2 (.pv (.list [])) (.pv .nils))=none:=_root_.id rfl
theorem J8 (F:St→Prop)(e:List (Nat×AV))(σ:List (Nat×Blk))(n:Nat)(d:Option Nat)(o:TOp):iq P G F ⟨e,σ,n⟩ d (.t o)=jw (dS e o) (BT F ⟨e,σ,n⟩ d) e o:=by
 rw[← tW e σ n]
 show fh (o.run (St.E ⟨e,σ,n⟩)) _ _=_
 cases hr:o.run (St.E ⟨e,σ,n⟩) with
 | some v=>rfl
 | none=>
   simp only[fh,jw]
   refine propext ⟨fun h=>?_,fun h=>?_⟩
   ·obtain⟨h1,h2⟩:=h
    unfold nilB at h1
    split at h1
    ·split at h1
     ·rename_i hev
      rw[fW] at hev
      show JE _ _
      rw[hev];exact h2
     ·cases h1
    ·cases h1
   ·split at h
    ·rename_i y
     unfold JE at h
     split at h
     ·rename_i hev
      refine⟨?_,h⟩
      simp only[nilB]
      rw[fW,hev]
     ·exact h.elim
    ·exact h.elim
theorem J9 (F:St→Prop)(e:List (Nat×AV))(σ:List (Nat×Blk))(n:Nat)(d:Option Nat)(o:MOp):iq P G F ⟨e,σ,n⟩ d (.m o)=aC (iw G e σ n o) (re F ⟨e,σ,n⟩ d):=by
 rw[← wu G e σ n];rfl
theorem xX (F:St→Prop)(e:List (Nat×AV))(σ:List (Nat×Blk))(n:Nat)(d:Option Nat)(f:AX)(xs:List AX):iq P G F ⟨e,σ,n⟩ d (.call f xs)=aC (bV (evE e f)) (yu P G (evL e xs) ⟨e,σ,n⟩ (BY F d)):=by
 rw[← fW e σ n,← xI e σ n];rfl
theorem AB (F:List (List Nat×List Nat)→St→Prop)(T:List (List Nat×List Nat))(e:List (Nat×AV))(σ:List (Nat×Blk))(n d:Nat)(v:AV):uc F T ⟨e,σ,n⟩ (some d) v=F (T++[([],[])]) ⟨(d,v)::e,σ,n⟩:=_root_.id rfl
theorem AA (F:List (List Nat×List Nat)→St→Prop)(T:List (List Nat×List Nat))(e:List (Nat×AV))(σ:List (Nat×Blk))(n:Nat)(v:AV):uc F T ⟨e,σ,n⟩ none v=F (T++[([],[])]) ⟨e,σ,n⟩:=_root_.id rfl
theorem AD (F:List (List Nat×List Nat)→St→Prop)(T:List (List Nat×List Nat))(e:List (Nat×AV))(σ:List (Nat×Blk))(n d k:Nat)(rd:List Nat)(v:AV)(δ:List (Nat×Blk)):ud F T ⟨e,σ,n⟩ (some d) k rd (v,δ)=F (T++[dt k (aJ δ) rd]) ⟨(d,v)::e,jn σ δ,n+1⟩:=_root_.id rfl
theorem AC (F:List (List Nat×List Nat)→St→Prop)(T:List (List Nat×List Nat))(e:List (Nat×AV))(σ:List (Nat×Blk))(n k:Nat)(rd:List Nat)(v:AV)(δ:List (Nat×Blk)):ud F T ⟨e,σ,n⟩ none k rd (v,δ)=F (T++[dt k (aJ δ) rd]) ⟨e,jn σ δ,n+1⟩:=_root_.id rfl
theorem ab {F:List (List Nat×List Nat)→St→Prop}{T:List (List Nat×List Nat)}{e:List (Nat×AV)}{σ:List (Nat×Blk)}{n d:Nat}{f:Nat}{a b args:List AV}{ps:List PV}{r:PV}(h:ap P G f ps r)(he:pvs (a++args++b)=some ps)
  (hk:F (T++[([],[])]) ⟨(d,.pv r)::e,σ,n⟩):jd P G F T ⟨e,σ,n⟩ (some d) args (f,a,b):=.inl ⟨ps,r,he,h,hk⟩
theorem Jd (ks rs:List Nat):dt 0 ks rs=(ks.map (· + 1),rs.map (· + 1)):=_root_.id rfl
theorem Jc (ks rs:List Nat):dt 1 ks rs=(ks.map (· + 1),0::rs.map (· + 1)):=_root_.id rfl
theorem Jb (ks rs:List Nat):dt 2 ks rs=(0::ks.map (· + 1),rs.map (· + 1)):=_root_.id rfl
theorem nw (g:Bool)(sz:Nat)(x:AX):aO (.load g sz x)=0:=_root_.id rfl
theorem ld (sz:Nat)(x v:AX):aO (.store sz x v)=0:=_root_.id rfl
theorem lc (x:AX):aO (.toStr x)=0:=_root_.id rfl
theorem lh (sz:Nat)(zs:List PV)(x:AX):aO (.clear sz zs x)=0:=_root_.id rfl
theorem jy (n sz:Nat)(x:AX)(l h:Option AX):aO (.sliceA n sz x l h)=0:=_root_.id rfl
theorem lj (T:Nat)(z:List PV):aO (.alloc T z)=1:=_root_.id rfl
theorem rr (T:Nat)(x:AX):aO (.box T x)=1:=_root_.id rfl
theorem nB (T:Nat)(x:AX):aO (.cbox T x)=1:=_root_.id rfl
theorem jz (m:Bool)(e s l:Nat)(x:List AX):aO (.bslice m e s l x)=1:=_root_.id rfl
theorem jA (m:Bool)(e s l:Nat)(x y:AX):aO (.append m e s l x y)=1:=_root_.id rfl
theorem wp (m:Bool)(e s l:Nat)(z:List PV)(x y:AX):aO (.mk m e s l z x y)=1:=_root_.id rfl
theorem EL {A:List (List Nat)}{F:St→Prop}{T:List (List Nat×List Nat)}{s:St}(h:Chk (okB A T)):vcD P G A F [] T s=F s:=by
 show (okB A T=true∧F s)=F s
 rw[eq_iff_iff]
 exact⟨fun x=>x.2,fun x=>⟨h,x⟩⟩
theorem z7 (A:List (List Nat))(F:St→Prop)(d:Option Nat)(o:AOp)(r:List AOper)(T:List (List Nat×List Nat))(s:St):vcD P G A F (⟨d,o,none⟩::r) T s=eT P G (vcD P G A F r) T s d o:=_root_.id rfl
theorem tH (A:List (List Nat))(F:St→Prop)(d:Option Nat)(o:AOp)(i:Nat)(b:Bool)(r:List AOper)(T:List (List Nat×List Nat))(e:List (Nat×AV))(σ:List (Nat×Blk))(n:Nat) :
  vcD P G A F (⟨d,o,some (i,b)⟩::r) T ⟨e,σ,n⟩=aC (gu b (look i e)) (lL P G (vcD P G A F r) T ⟨e,σ,n⟩ d o):=_root_.id rfl
theorem sg (F:List (List Nat×List Nat)→St→Prop)(T:List (List Nat×List Nat))(s:St)(d:Option Nat)(o:AOp):lL P G F T s d o true=eT P G F T s d o:=_root_.id rfl
theorem nV (F:List (List Nat×List Nat)→St→Prop)(T:List (List Nat×List Nat))(e:List (Nat×AV))(σ:List (Nat×Blk))(n:Nat)(d:Nat)(o:AOp):lL P G F T ⟨e,σ,n⟩ (some d) o false=F (T++[([],[])]) ⟨(d,.pv .undef)::e,σ,n⟩:=_root_.id rfl
theorem lK (F:List (List Nat×List Nat)→St→Prop)(T:List (List Nat×List Nat))(s:St)(o:AOp):lL P G F T s none o false=F (T++[([],[])]) s:=_root_.id rfl
theorem G4 (F:List (List Nat×List Nat)→St→Prop)(T:List (List Nat×List Nat))(e:List (Nat×AV))(σ:List (Nat×Blk))(n:Nat)(d:Option Nat)(o:TOp):eT P G F T ⟨e,σ,n⟩ d (.t o)=aC (dS e o) (uc F T ⟨e,σ,n⟩ d):=by
 rw[← tW e σ n];rfl
def da (e:List (Nat×AV)):XOp→List Nat
 | .cap _ x=>(evE e x).name
 | .resl _ x _=>(evE e x).name
 | .copy _ x y | .apart x y=>(evE e x).name++(evE e y).name
 | .appz _ _ _ _ x _=>(evE e x).name
 | .ucast _ _ _ x | .apps _ _ x _ | .ustr _ x _ | .same x=>(evE e x).name
 | .noesc _ | .peq _ _ _ | .anyc | .sdata _ | .ofStr _ | .fnil _ _ _ | .inil _ _ _ | .idxb _ _ | .mki _ _ | .mkmap | .bslf _ _ _=>[]
 | .mlook _ _ _ x _ | .mset _ x _ _=>(evE e x).name
def cf (e:List (Nat×AV)):MOp→List Nat
 | .xop o=>da e o
 | .load _ _ x | .sliceA _ _ x _ _ | .clear _ _ x | .toStr x=>(evE e x).name
 | .append _ _ _ _ x y=>(evE e x).name++(evE e y).name
 | .store _ x _=>(evE e x).name
 | .alloc _ _ | .box _ _ | .cbox _ _ | .bslice _ _ _ _ _ | .mk _ _ _ _ _ _ _=>[]
theorem ww (e:List (Nat×AV))(mu:Bool)(t sz b:Nat)(zs:List PV)(x y:AX):cf e (.mk mu t sz b zs x y)=[]:=_root_.id rfl
theorem lk (e:List (Nat×AV))(x:AX):cf e (.toStr x)=(evE e x).name:=_root_.id rfl
theorem lm (e:List (Nat×AV))(sz:Nat)(zs:List PV)(x:AX):cf e (.clear sz zs x)=(evE e x).name:=_root_.id rfl
theorem nF (e:List (Nat×AV))(g:Bool)(sz:Nat)(x:AX):cf e (.load g sz x)=(evE e x).name:=_root_.id rfl
theorem rz (e:List (Nat×AV))(T:Nat)(x:AX):cf e (.box T x)=[]:=_root_.id rfl
theorem nG (e:List (Nat×AV))(T:Nat)(x:AX):cf e (.cbox T x)=[]:=_root_.id rfl
theorem ln (e:List (Nat×AV))(T:Nat)(x:List PV):cf e (.alloc T x)=[]:=_root_.id rfl
theorem ll (e:List (Nat×AV))(sz:Nat)(x v:AX):cf e (.store sz x v)=(evE e x).name:=_root_.id rfl
theorem jC (e:List (Nat×AV))(mu:Bool)(t sz b:Nat)(x y:AX):cf e (.append mu t sz b x y)=(evE e x).name++(evE e y).name:=_root_.id rfl
theorem jB (e:List (Nat×AV))(mu:Bool)(t sz b:Nat)(x:List AX):cf e (.bslice mu t sz b x)=[]:=_root_.id rfl
theorem Gl (p:PV):(AV.pv p).name=[]:=_root_.id rfl
theorem B2 (r o:Nat):(AV.ptr r o).name=[r]:=_root_.id rfl
theorem B1 (r s o n:Nat):(AV.row r s o n).name=[r]:=_root_.id rfl
theorem rk (r s:Nat)(l:List PV):(AV.olist r s l).name=[r]:=_root_.id rfl
theorem wQ:aJ ([]:List (Nat×Blk))=[]:=_root_.id rfl
theorem rL (r:Nat)(B:Blk)(q:List (Nat×Blk)):aJ ((r,B)::q)=r::aJ q:=_root_.id rfl
theorem G5 (F:List (List Nat×List Nat)→St→Prop)(T:List (List Nat×List Nat))(e:List (Nat×AV))(σ:List (Nat×Blk))(n:Nat)(d:Option Nat)(o:MOp):eT P G F T ⟨e,σ,n⟩ d (.m o)=aC (iw G e σ n o) (ud F T ⟨e,σ,n⟩ d (aO o) (cf e o)):=by
 have:cf e o=o.reads (St.E ⟨e,σ,n⟩):=by
  cases o<;>simp only[cf,MOp.reads,fW]
  rename_i o
  cases o<;>simp only[da,XOp.reads,fW]
 rw[← wu G e σ n,this];rfl
theorem se (F:List (List Nat×List Nat)→St→Prop)(T:List (List Nat×List Nat))(e:List (Nat×AV))(σ:List (Nat×Blk))(n:Nat)(d:Option Nat)(f:AX)(xs:List AX):eT P G F T ⟨e,σ,n⟩ d (.call f xs)=aC (bV (evE e f)) (jd P G F T ⟨e,σ,n⟩ d (evL e xs)):=by
 rw[← fW e σ n,← xI e σ n];rfl
def sv (e:List (Nat×AV)):List Nat→List (Nat×AV)
 | []=>[]
 | k::r=>(k,look k e)::sv e r
theorem x9 (e:List (Nat×AV)):sv e []=[]:=_root_.id rfl
theorem su (e:List (Nat×AV))(k:Nat)(r:List Nat):sv e (k::r)=(k,look k e)::sv e r:=_root_.id rfl
theorem po (e:List (Nat×AV))(σ:List (Nat×Blk))(n:Nat):∀ (l:List Nat),l.map (fun i=>(i,St.E ⟨e,σ,n⟩ i))=sv e l
 | []=>rfl
 | k::r=>by rw[List.map_cons,po e σ n r];rfl
theorem ya (seen:List Nat):fO seen []=[]:=_root_.id rfl
theorem sw (seen:List Nat)(k:Nat)(b:Blk)(r:List (Nat×Blk)):fO seen ((k,b)::r)=sn k b (fO (k::seen) r) (oS k seen):=_root_.id rfl
theorem G8 (k:Nat)(b:Blk)(r:List (Nat×Blk)):sn k b r true=r:=_root_.id rfl
theorem G9 (k:Nat)(b:Blk)(r:List (Nat×Blk)):sn k b r false=(k,b)::r:=_root_.id rfl
theorem B4 (k:Nat):oS k []=false:=_root_.id rfl
theorem JG (k j:Nat)(r:List Nat):oS k (j::r)=if j=k then true else oS k r:=_root_.id rfl
theorem BL (Q:AExit→St→Prop)(keep:List Nat)(e:List (Nat×AV))(σ:List (Nat×Blk))(n:Nat):m8 Q keep ⟨e,σ,n⟩=Q .norm ⟨sv e keep,fO [] σ,n⟩:=by
 rw[← po e σ n];rfl
theorem zb (F:St→Prop)(Q:AExit→St→Prop)(s:St):K1 F Q .norm s=F s:=_root_.id rfl
theorem zc (F:St→Prop)(Q:AExit→St→Prop)(i:Nat)(s:St):K1 F Q (.exit i) s=Q (.exit i) s:=_root_.id rfl
theorem DB (F:St→Prop)(Q:AExit→St→Prop)(s:St):K1 F Q .ret s=Q .ret s:=_root_.id rfl
theorem ol (id:Nat)(Q:AExit→St→Prop)(s:St):ip id Q .norm s=Q .norm s:=_root_.id rfl
theorem om (id:Nat)(Q:AExit→St→Prop)(i:Nat)(s:St):ip id Q (.exit i) s=if i=id then Q .norm s else Q (.exit i) s:=_root_.id rfl
theorem sY (id:Nat)(Q:AExit→St→Prop)(s:St):ip id Q .ret s=Q .ret s:=_root_.id rfl
theorem EH (m0:Nat)(Q:AExit→St→Prop)(s:St):vc P G m0 .skip Q s=Q .norm s:=_root_.id rfl
theorem IE (m0:Nat)(l:List AOper)(keep:List Nat)(Q:AExit→St→Prop)(s:St):vc P G m0 (.ops l keep) Q s=ca P G l (m8 Q keep) s:=_root_.id rfl
theorem EJ (m0:Nat)(A:List (List Nat))(l l2:List AOper)(keep:List Nat)(Q:AExit→St→Prop)(s:St):vc P G m0 (.draw A l l2 keep) Q s=vcD P G A (ca P G l2 (m8 Q keep)) l [] s:=_root_.id rfl
theorem G3 (F:St→Prop)(e:List (Nat×AV))(σ:List (Nat×Blk))(n:Nat)(d:Option Nat)(g:Option (Bool×Nat))(x:AX):iq P G F ⟨e,σ,n⟩ d (.fz g x)=aC (Ec G (fun r=>lookB r σ) g (evE e x)) (re F ⟨e,σ,n⟩ d):=by
 rw[← fW e σ n];rfl
theorem IC (m0:Nat)(a b:ACode)(Q:AExit→St→Prop)(s:St):vc P G m0 (.seq a b) Q s=vc P G m0 a (K1 (vc P G m0 b Q) Q) s:=_root_.id rfl
theorem EK (m0:Nat)(x:AX)(a b:ACode)(Q:AExit→St→Prop)(e:List (Nat×AV))(σ:List (Nat×Blk))(n:Nat):vc P G m0 (.cond x a b) Q ⟨e,σ,n⟩=kP (evE e x) (vc P G m0 a Q) (vc P G m0 b Q) ⟨e,σ,n⟩:=by
 rw[← fW e σ n];rfl
theorem z6 (m0 id:Nat)(b:ACode)(Q:AExit→St→Prop)(s:St):vc P G m0 (.block id b) Q s=vc P G m0 b (ip id Q) s:=_root_.id rfl
theorem EI (m0 id:Nat)(Q:AExit→St→Prop)(s:St):vc P G m0 (.exit id) Q s=Q (.exit id) s:=_root_.id rfl
theorem ID (m0:Nat)(Q:AExit→St→Prop)(s:St):vc P G m0 .ret Q s=Q .ret s:=_root_.id rfl
theorem BJ (b:Bool)(F H:St→Prop)(s:St):kP (.pv (.bool b)) F H s=ifB b F H s:=by cases b<;>rfl
theorem MG (F H:St→Prop)(s:St):ifB true F H s=F s:=_root_.id rfl
theorem MH (F H:St→Prop)(s:St):ifB false F H s=H s:=_root_.id rfl
def Jk (G:Nat→List PV)(e:List (Nat×AV))(σ:List (Nat×Blk)):ARes→Option AV
 | .tmp t=>some (look t e)
 | .cell t g sz=>cI G g sz (fun r=>lookB r σ) (look t e)
theorem AP (e:List (Nat×AV))(σ:List (Nat×Blk))(t:Nat):Jk G e σ (.tmp t)=some (look t e):=_root_.id rfl
theorem uD (e:List (Nat×AV))(σ:List (Nat×Blk))(t:Nat)(g:Bool)(sz:Nat):Jk G e σ (.cell t g sz)=cI G g sz (fun r=>lookB r σ) (look t e):=_root_.id rfl
theorem DD (res:List ARes)(R:AV→List (Nat×Blk)→Nat→Prop)(s:St):FnK G res R .norm s=aC (du G s res) (DS R s):=_root_.id rfl
theorem Hw (res:List ARes)(R:AV→List (Nat×Blk)→Nat→Prop)(s:St):FnK G res R .ret s=aC (du G s res) (DS R s):=_root_.id rfl
theorem FB (R:AV→List (Nat×Blk)→Nat→Prop)(e:List (Nat×AV))(σ:List (Nat×Blk))(n:Nat)(l:List AV):DS R ⟨e,σ,n⟩ l=R (s8 l) σ n:=_root_.id rfl
theorem Jg (x:AV):s8 [x]=x:=_root_.id rfl
theorem Jh:s8 [] = .pv (.tup []):=_root_.id rfl
theorem Jf (x y:AV)(r:List AV):s8 (x::y::r)=kX (x::y::r):=_root_.id rfl
def Ki:Option AV→Option (List AV)→Option (List AV)
 | some a,some b=>some (a::b)
 | _,_=>none
theorem sq (a:AV)(b:List AV):Ki (some a) (some b)=some (a::b):=_root_.id rfl
theorem uC (s:St):du G s []=some []:=_root_.id rfl
theorem qr (e:List (Nat×AV))(σ:List (Nat×Blk))(n:Nat)(r:ARes)(q:List ARes):du G ⟨e,σ,n⟩ (r::q)=Ki (Jk G e σ r) (du G ⟨e,σ,n⟩ q):=by
 have:Jj G ⟨e,σ,n⟩ r=Jk G e σ r:=by cases r<;>rfl
 show (match Jj G ⟨e,σ,n⟩ r,du G ⟨e,σ,n⟩ q with | some a,some b=>some (a::b) | _,_=>none)=_
 rw[this]
 cases Jk G e σ r<;>cases du G ⟨e,σ,n⟩ q<;>rfl
theorem Bu (r:PV)(v:AV)(σ:List (Nat×Blk))(n:Nat):Js r v σ n=isR r σ v:=_root_.id rfl
theorem JS (r p:PV)(σ:List (Nat×Blk)):isR r σ (.pv p)=Nz p r:=propext ⟨fun ⟨q,h,g⟩=>by cases h;exact g,fun h=>⟨(p,[]),rfl,h⟩⟩
theorem wV (r:PV)(k sz:Nat)(l:List PV)(σ:List (Nat×Blk)):isR r σ (.olist k sz l)=Nz (.list l) r:=propext ⟨fun ⟨q,h,g⟩=>by cases h;exact g,fun h=>⟨(.list l,[]),rfl,h⟩⟩
def JU (r:PV):Option (PV×List Nat)→Prop
 | some q=>Nz q.1 r
 | none=>False
theorem wX (r p:PV)(l:List Nat):JU r (some (p,l))=Nz p r:=_root_.id rfl
theorem wW (r:PV)(σ:List (Nat×Blk))(v:AV):isR r σ v=JU r (nN (fun r=>lookB r σ) v):=by
 unfold isR JU
 cases nN (fun r=>lookB r σ) v with
 | none=>simp
 | some q=>simp
theorem GC (r:PV)(cs:List AV)(σ:List (Nat×Blk)):isR r σ (.agg cs)=JU r ((zD (fun r=>lookB r σ) cs).map fun p=>(.agg p.1,p.2)):=wW _ _ _
theorem GB (r:PV)(k sz len:Nat)(σ:List (Nat×Blk)):isR r σ (.row k sz 0 len)=JU r (JX sz len k (lookB k σ)):=wW _ _ _
def rO:List AV→Nat→List (Nat×AV)
 | [],_=>[]
 | x::r,k=>(k,x)::rO r (k+1)
theorem w7 (k:Nat):rO [] k=[]:=_root_.id rfl
theorem rN (x:AV)(r:List AV)(k:Nat):rO (x::r) k=(k,x)::rO r (k+1):=_root_.id rfl
theorem wZ:∀ (args:List AV) (k:Nat),((args.zipIdx k).map fun p=>(p.2,p.1))=rO args k
 | [],k=>rfl
 | x::r,k=>by rw[List.zipIdx_cons,List.map_cons,wZ r (k+1)];rfl
theorem rM (args:List AV):bS args=rO args 0:=wZ args 0
theorem Md {ι:Type}(S:ι→St)(Inv:ι→Prop)(μ:ι→Nat)(x0:ι){m0:Nat}{keep:List Nat}{b:ACode}{Q:AExit→St→Prop}{s:St}(h0:Wk m0 s (S x0))(hi:Inv x0)
  (h:∀ x,Inv x→vc P G m0 b (fun e s'=>match e with
   | .norm=>∃ x',Wk m0 s' (S x')∧Inv x'∧μ x'<μ x
   | .exit i=>Q (.exit i) s'
   | .ret=>Q .ret s') (S x)):vc P G m0 (.loop keep b) Q s:=by
 refine⟨fun n s=>∃ x,s=S x∧Inv x∧μ x=n,⟨μ x0,S x0,h0,x0,rfl,hi,rfl⟩,?_⟩
 rintro n s ⟨x,rfl,hx,rfl⟩
 refine bL b (fun e s' hs=>?_) _ (h x hx)
 cases e with
 | norm=>
   obtain⟨x',h1,h2,h3⟩:=hs
   exact⟨_,_,h3,h1,x',rfl,h2,rfl⟩
 | exit i=>exact⟨s',Wk.of (Wx.refl s') m0,hs⟩
 | ret=>exact hs
def Hd (A:List (Nat×Nat×Nat×Nat))(m0:Nat)(keep:List Nat)(s t:St):Prop:=Wk m0 s t
theorem bH {A:List (Nat×Nat×Nat×Nat)}{m0:Nat}{keep:List Nat}{s t:St}(h:StZ (cN A m0 keep s) t):Hd A m0 keep s t:=Wk.head h
def ji {ι:Type}(A:List (Nat×Nat×Nat×Nat))(S:ι→St)(Inv:ι→Prop)(μ:ι→Nat)(x:ι)(m0:Nat)(keep:List Nat)(Q:AExit→St→Prop):AExit→St→Prop
 | .norm,s'=>∃ x',Hd A m0 keep s' (S x')∧Inv x'∧μ x'<μ x
 | .exit i,s'=>Q (.exit i) s'
 | .ret,s'=>Q .ret s'
theorem oe {ι:Type}(A:List (Nat×Nat×Nat×Nat))(S:ι→St)(Inv:ι→Prop)(μ:ι→Nat)(x:ι)(m0:Nat)(keep:List Nat)(Q:AExit→St→Prop)(s:St):ji A S Inv μ x m0 keep Q .norm s = ∃ x',Hd A m0 keep s (S x')∧Inv x'∧μ x'<μ x:=_root_.id rfl
theorem og {ι:Type}(A:List (Nat×Nat×Nat×Nat))(S:ι→St)(Inv:ι→Prop)(μ:ι→Nat)(x:ι)(m0:Nat)(keep:List Nat)(Q:AExit→St→Prop)(i:Nat)(s:St):ji A S Inv μ x m0 keep Q (.exit i) s=Q (.exit i) s:=_root_.id rfl
theorem sX {ι:Type}(A:List (Nat×Nat×Nat×Nat))(S:ι→St)(Inv:ι→Prop)(μ:ι→Nat)(x:ι)(m0:Nat)(keep:List Nat)(Q:AExit→St→Prop)(s:St):ji A S Inv μ x m0 keep Q .ret s=Q .ret s:=_root_.id rfl
theorem tF {ι:Type}(A:List (Nat×Nat×Nat×Nat))(S:ι→St)(Inv:ι→Prop)(μ:ι→Nat)(x0:ι){m0:Nat}{keep:List Nat}{b:ACode}{Q:AExit→St→Prop}{s:St}(h0:Hd A m0 keep s (S x0))(hi:Inv x0)
  (h:∀ x,Inv x→vc P G m0 b (ji A S Inv μ x m0 keep Q) (S x)):vc P G m0 (.loop keep b) Q s:=by
 refine Md S Inv μ x0 h0 hi fun x hx=>?_
 have e:(fun (e:AExit) (s':St)=>match e with
   | .norm=>∃ x',Wk m0 s' (S x')∧Inv x'∧μ x'<μ x
   | .exit i=>Q (.exit i) s'
   | .ret=>Q .ret s')=ji A S Inv μ x m0 keep Q:=by
  funext e s'
  cases e<;>rfl
 rw[e];exact h x hx
def qQ (k:Nat)(x:AV):List (Nat×AV)→AV
 | []=>x
 | p::r=>if p.1=k then p.2 else qQ k x r
def ek:List (Nat×AV)→List (Nat×AV)→List (Nat×AV)
 | [],_=>[]
 | p::r,ch=>(p.1,qQ p.1 p.2 ch)::ek r ch
def qS (k:Nat)(x:Blk):List (Nat×Blk)→Blk
 | []=>x
 | p::r=>if p.1=k then p.2 else qS k x r
def fg:List (Nat×Blk)→List (Nat×Blk)→List (Nat×Blk)
 | [],_=>[]
 | p::r,ch=>(p.1,qS p.1 p.2 ch)::fg r ch
theorem vJ (k:Nat)(x:AV):qQ k x []=x:=_root_.id rfl
theorem qP (k j:Nat)(x y:AV)(r:List (Nat×AV)):qQ k x ((j,y)::r)=if j=k then y else qQ k x r:=_root_.id rfl
theorem vO (ch:List (Nat×AV)):ek [] ch=[]:=_root_.id rfl
theorem qV (k:Nat)(x:AV)(r ch:List (Nat×AV)):ek ((k,x)::r) ch=(k,qQ k x ch)::ek r ch:=_root_.id rfl
theorem vK (k:Nat)(x:Blk):qS k x []=x:=_root_.id rfl
theorem qR (k j:Nat)(x y:Blk)(r:List (Nat×Blk)):qS k x ((j,y)::r)=if j=k then y else qS k x r:=_root_.id rfl
theorem vP (ch:List (Nat×Blk)):fg [] ch=[]:=_root_.id rfl
theorem qW (k:Nat)(x:Blk)(r ch:List (Nat×Blk)):fg ((k,x)::r) ch=(k,qS k x ch)::fg r ch:=_root_.id rfl
theorem aB {ι:Type}(A:List (Nat×Nat×Nat×Nat))(ch:ι→List (Nat×AV))(chB:ι→List (Nat×Blk))(Inv:ι→Prop)(μ:ι→Nat)(x0:ι){m0:Nat}{keep:List Nat}{b:ACode}{Q:AExit→St→Prop}{s:St}
  (h:∀ e0 σ0 n0,cN A m0 keep s=⟨e0,σ0,n0⟩→StZ ⟨e0,σ0,n0⟩ ⟨ek e0 (ch x0),fg σ0 (chB x0),n0⟩∧Inv x0 ∧
   ∀ x,Inv x→vc P G m0 b (ji A (fun x=>⟨ek e0 (ch x),fg σ0 (chB x),n0⟩) Inv μ x m0 keep Q) ⟨ek e0 (ch x),fg σ0 (chB x),n0⟩):vc P G m0 (.loop keep b) Q s:=by
 obtain⟨h1,h2,h3⟩:=h (cN A m0 keep s).env (cN A m0 keep s).sto (cN A m0 keep s).next rfl
 exact tF A (fun x=>⟨ek (cN A m0 keep s).env (ch x),fg (cN A m0 keep s).sto (chB x),(cN A m0 keep s).next⟩) Inv μ x0 (bH h1) h2 h3
end
end Go.Ab
namespace Go.Ab
open Go Go.RowKit
theorem A3 (k k':IntKind)(x y:Int):FP (.pv (.int k x)) (.pv (.int k' y))=some (.pv (.int k (min x y))):=by
 simp only[FP,Option.some.injEq,AV.pv.injEq,PV.int.injEq,true_and]
 split<;>omega
theorem A4 (k k':IntKind)(x y:Int):FQ (.pv (.int k x)) (.pv (.int k' y))=some (.pv (.int k (max x y))):=by
 simp only[FQ,Option.some.injEq,AV.pv.injEq,PV.int.injEq,true_and]
 split<;>omega
theorem pU (a:Nat)(b:Int):(min (a:Int) b).toNat=min a b.toNat:=by omega
theorem mr (a:Nat)(b:Int):(min b (a:Int)).toNat=min b.toNat a:=by omega
theorem ke {α:Type}(l:List α)(n:Nat):l.take (min l.length n)=l.take n:=by
 rcases Nat.le_total l.length n with h | h
 ·rw[Nat.min_eq_left h,List.take_length,List.take_of_length_le h]
 ·rw[Nat.min_eq_right h]
theorem tP {α:Type}(l:List α)(n:Nat):l.take (min n l.length)=l.take n:=by rw[Nat.min_comm,ke]
theorem map_take {α β:Type}(f:α→β)(l:List α)(n:Nat):(l.map f).take n=(l.take n).map f:=List.map_take.symm
theorem map_drop {α β:Type}(f:α→β)(l:List α)(n:Nat):(l.map f).drop n=(l.drop n).map f:=List.map_drop.symm
theorem vY {α β:Type}(f:α→β):(none:Option α).map f=none:=_root_.id rfl
def dF (mu:Bool)(e sz by_ new:Nat)(σ:aq)(x:AV):Option (List PV)→Option (AV×List (Nat×Blk))
 | some ys=>match mu,x with
   | false,.pv .nils=>match ys with
     | []=>some (.pv .nils,[])
     | y::r=>if iI 0 (r.length+1) by_=true then some (.olist new sz (y::r),[(new,.tok e sz)]) else none
   | false,.olist q s l=>match σ q with
     | .tok e' sz'=>if e'=e∧sz'=sz∧s=sz∧iI l.length ys.length by_=true then some (.olist new sz (l++ys),[(q,.none),(new,.tok e sz)]) else none
     | _=>none
   | true,.pv .nils=>match ys with
     | []=>some (.pv .nils,[])
     | y::r=>if iI 0 (r.length+1) by_=true then some (.row new sz 0 (r.length+1),[(new,.cells e false (cn (y::r)))]) else none
   | true,.row q s off len=>match σ q with
     | .cells e' _ l=>if e'=e∧s=sz∧off=0∧len*sz≤l.length∧iI len ys.length by_=true then some (.row new sz 0 (len+ys.length),[(q,.none),(new,.cells e false (l.take (len*sz)++cn ys))]) else none
     | _=>none
   | _,_=>none
 | none=>none
def Dm (e sz by_ new q s:Nat)(l ys:List PV):Blk→Option (AV×List (Nat×Blk))
 | .tok e' sz'=>if e'=e∧sz'=sz∧s=sz∧iI l.length ys.length by_=true then some (.olist new sz (l++ys),[(q,.none),(new,.tok e sz)]) else none
 | _=>none
def sP (e sz by_ new q s off len:Nat)(ys:List PV):Blk→Option (AV×List (Nat×Blk))
 | .cells e' _ l=>if e'=e∧s=sz∧off=0∧len*sz≤l.length∧iI len ys.length by_=true then some (.row new sz 0 (len+ys.length),[(q,.none),(new,.cells e false (l.take (len*sz)++cn ys))]) else none
 | _=>none
theorem qM (mu:Bool)(e sz by_ new:Nat)(σ:aq)(x y:AV):cj mu e sz by_ new σ x y=dF mu e sz by_ new σ x (aN σ sz y):=by
 unfold cj dF
 cases aN σ sz y<;>rfl
theorem KO (e sz by_ new:Nat)(σ:aq)(q s:Nat)(l ys:List PV):dF false e sz by_ new σ (.olist q s l) (some ys)=Dm e sz by_ new q s l ys (σ q):=by
 simp only[dF,Dm]
theorem Dl {e sz by_ new q:Nat}{l ys:List PV}(h1:l.length+ys.length≤9223372036854775807)(h2:(l.length+ys.length)*by_≤140737488355328):Dm e sz by_ new q sz l ys (.tok e sz)=some (.olist new sz (l++ys),[(q,.none),(new,.tok e sz)]):=by
 simp[Dm,ef h1 h2]
theorem Dj (e sz by_ new:Nat)(σ:aq):dF false e sz by_ new σ (.pv .nils) (some [])=some (.pv .nils,[]):=_root_.id rfl
theorem Di {e sz by_ new:Nat}{σ:aq}{y:PV}{r:List PV}(h1:r.length+1≤9223372036854775807)(h2:(r.length+1)*by_≤140737488355328):dF false e sz by_ new σ (.pv .nils) (some (y::r))=some (.olist new sz (y::r),[(new,.tok e sz)]):=by
 simp only[dF];rw[if_pos (ef (by omega) (by simpa using h2))]
theorem Hn (e sz by_ new:Nat)(σ:aq)(q s off len:Nat)(ys:List PV):dF true e sz by_ new σ (.row q s off len) (some ys)=sP e sz by_ new q s off len ys (σ q):=by
 simp only[dF,sP]
theorem Dk {e sz by_ new q len:Nat}{f:Bool}{l:List AV}{ys:List PV}(h0:len*sz≤l.length)(h1:len+ys.length≤9223372036854775807)(h2:(len+ys.length)*by_≤140737488355328) :
  sP e sz by_ new q sz 0 len ys (.cells e f l)=some (.row new sz 0 (len+ys.length),[(q,.none),(new,.cells e false (l.take (len*sz)++cn ys))]):=by
 simp[sP,h0,ef h1 h2]
theorem sO {e sz by_ new q:Nat}{f:Bool}{l:List AV}{ys:List PV}(h1:ys.length≤9223372036854775807)(h2:ys.length*by_≤140737488355328) :
  sP e sz by_ new q sz 0 0 ys (.cells e f l)=some (.row new sz 0 ys.length,[(q,.none),(new,.cells e false (cn ys))]):=by
 have:=ef (n:=0) (m:=ys.length) (by_:=by_) (by omega) (by simpa using h2)
 simp[sP,this]
def pk (l:List PV):Bool→Option (List PV)
 | true=>some l
 | false=>none
theorem r5 (σ:aq)(sz:Nat):aN σ sz (.pv .nils)=some []:=_root_.id rfl
theorem r6 (σ:aq)(sz:Nat)(l:List PV):aN σ sz (.pv (.list l))=pk l (l.all fun y=>y.cells.length == sz):=by
 simp only[aN]
 cases l.all (fun y=>y.cells.length == sz)<;>rfl
theorem r7 (l:List PV):pk l true=some l:=_root_.id rfl
theorem nS (σ:aq)(sz r:Nat)(l:List PV):aN σ sz (.olist r sz l)=some l:=by simp[aN]
def KF (e sz new:Nat):Option (List PV)→Option (AV×List (Nat×Blk))
 | some ps=>if ps.all (fun p=>p.cells.length == sz&&p.cells.all PV.one)=true then some (.olist new sz ps,[(new,.tok e sz)]) else none
 | none=>none
theorem M9 {e sz len new:Nat}{vs:List AV}(h:vs.length=len)(h2:len≤9223372036854775807):bO false e sz len new vs=KF e sz new (pvs vs):=by
 simp only[bO,h,h2,true_and,if_true,KF]
 cases pvs vs<;>rfl
def NY (e sz new:Nat)(ps:List PV):Bool→Option (AV×List (Nat×Blk))
 | true=>some (.olist new sz ps,[(new,.tok e sz)])
 | false=>none
theorem KE (e sz new:Nat)(ps:List PV):NY e sz new ps true=some (.olist new sz ps,[(new,.tok e sz)]):=_root_.id rfl
theorem yG (e sz new:Nat)(ps:List PV):KF e sz new (some ps)=NY e sz new ps (ps.all fun p=>p.cells.length == sz&&p.cells.all PV.one):=by
 simp only[KF]
 cases ps.all (fun p=>p.cells.length == sz&&p.cells.all PV.one)<;>rfl
theorem yH (e sz new:Nat):KF e sz new none=none:=_root_.id rfl
theorem KD {e sz new:Nat}:bO true e sz 0 new []=some (.row new sz 0 0,[(new,.cells e true [])]):=by
 simp[bO]
theorem cK (b:Bool):PV.one (.bool b)=true:=_root_.id rfl
theorem eo (k:IntKind)(n:Int):PV.one (.int k n)=true:=_root_.id rfl
theorem en (s:List UInt8):PV.one (.str s)=true:=_root_.id rfl
theorem BE:PV.one .nils=true:=_root_.id rfl
theorem cJ (l:List PV):PV.one (.list l)=true:=_root_.id rfl
theorem F7 (p:PV):AV.one (.pv p)=p.one:=_root_.id rfl
theorem BH (r o:Nat):AV.one (.ptr r o)=true:=_root_.id rfl
theorem BG (r s o n:Nat):AV.one (.row r s o n)=true:=_root_.id rfl
theorem qZ (r s:Nat)(l:List PV):AV.one (.olist r s l)=true:=_root_.id rfl
theorem BI (f:Nat)(a b:List AV):AV.one (.clo f a b)=true:=_root_.id rfl
def m6 (sz:Nat)(l:List PV)(h:Nat):Option Nat→Option AV
 | some a=>if Ip sz l a=true then some (.pv (.list ((l.take h).drop a))) else none
 | none=>none
def kO (sz:Nat)(l:List PV)(lo:Option AV):Option Nat→Option AV
 | some h=>m6 sz l h (aM 0 h lo)
 | none=>none
theorem kB (sz:Nat)(l:List PV)(lo hi:Option AV):bN sz (.pv (.list l)) lo hi=kO sz l lo (aM l.length l.length hi):=by
 show DY sz l lo hi=_
 unfold DY kO m6
 cases aM l.length l.length hi with
 | none=>rfl
 | some h=>simp only;cases aM 0 h lo<;>rfl
theorem ju (sz r s:Nat)(l:List PV)(lo hi:Option AV):bN sz (.olist r s l) lo hi=kO sz l lo (aM l.length l.length hi):=by
 show DY sz l lo hi=_
 unfold DY kO m6
 cases aM l.length l.length hi with
 | none=>rfl
 | some h=>simp only;cases aM 0 h lo<;>rfl
theorem m5 (sz:Nat)(l:List PV)(lo:Option AV)(h:Nat):kO sz l lo (some h)=m6 sz l h (aM 0 h lo):=_root_.id rfl
theorem q7 (sz:Nat)(l:List PV)(h:Nat):m6 sz l h (some 0)=some (.pv (.list (l.take h))):=by
 simp[m6,Ip]
theorem q8 {sz:Nat}{l:List PV}{h a:Nat}(hs:Ip sz l a=true):m6 sz l h (some a)=some (.pv (.list ((l.take h).drop a))):=if_pos hs
theorem q0 (sz:Nat)(l:List PV)(i:Nat)(y:PV):kN sz l i (some y)=if y.cells.length=sz then some (.pv (.eptr l i 0)) else none:=_root_.id rfl
theorem Dp {α β:Type}(f:α→β)(p:β→Bool)(l:List α):(l.map f).all p=l.all fun x=>p (f x):=by
 rw[List.all_map];rfl
theorem KP {α:Type}(l:List α):(l.all fun _=>true)=true:=by simp
theorem KK (n:Nat):(n == n)=true:=by simp
def JL (sz:Nat)(e:PV):Bool→Option AV
 | true=>some (.pv e)
 | false=>bP true sz 0 (e.cells.map .pv)
theorem Gu (sz:Nat)(e:PV):JL sz e true=some (.pv e):=_root_.id rfl
theorem Cb (sz:Nat)(e:PV):ix true sz 0 e=JL sz e (e.isAgg&&decide (e.cells.length=sz)):=by
 simp only[ix,true_and]
 by_cases h:e.isAgg=true∧e.cells.length=sz
 ·rw[if_pos h,h.1,decide_eq_true h.2];rfl
 ·rw[if_neg h]
  have:(e.isAgg&&decide (e.cells.length=sz))=false:=by
   rw[Bool.eq_false_iff]
   intro hh
   simp only[Bool.and_eq_true,decide_eq_true_eq] at hh
   exact h hh
  rw[this];rfl
theorem wY (cs:List PV):(PV.agg cs).isAgg=true:=_root_.id rfl
def fzO (σ:aq):Option AV→Option (AV×List (Nat×Blk))
 | some v=>(nN σ v).map D8
 | none=>none
theorem J0 (G:Nat→List PV)(σ:aq)(v:AV):Ec G σ none v=(nN σ v).map D8:=_root_.id rfl
theorem J1 (G:Nat→List PV)(σ:aq)(g:Bool)(sz:Nat)(v:AV):Ec G σ (some (g,sz)) v=fzO σ (cI G g sz σ v):=by
 simp only[Ec,fzO];cases cI G g sz σ v<;>rfl
theorem CC (σ:aq)(v:AV):fzO σ (some v)=(nN σ v).map D8:=_root_.id rfl
theorem CE (σ:aq)(cs:List AV):nN σ (.agg cs)=(zD σ cs).map fun p=>(.agg p.1,p.2):=_root_.id rfl
theorem GM (σ:aq)(p:PV):nN σ (.pv p)=some (p,[]):=_root_.id rfl
theorem GN (σ:aq)(r s:Nat)(l:List PV):nN σ (.olist r s l)=some (.list l,[]):=_root_.id rfl
theorem CD (σ:aq)(r s n:Nat):nN σ (.row r s 0 n)=JX s n r (σ r):=_root_.id rfl
theorem GP (σ:aq)(p:PV):D9 σ (.pv p)=some (p,[]):=_root_.id rfl
theorem GQ (σ:aq)(r s:Nat)(l:List PV):D9 σ (.olist r s l)=some (.list l,[]):=_root_.id rfl
theorem CH (σ:aq)(r s n:Nat):D9 σ (.row r s 0 n)=JX s n r (σ r):=_root_.id rfl
theorem CF (σ:aq):zD σ []=some ([],[]):=_root_.id rfl
theorem xp (σ:aq)(x:AV)(r:List AV):zD σ (x::r)=LX (D9 σ x) (zD σ r):=_root_.id rfl
theorem xq (p:PV)(a:List Nat)(q:List PV)(b:List Nat):LX (some (p,a)) (some (q,b))=some (p::q,a++b):=_root_.id rfl
theorem GO (p:PV)(l:List Nat):D8 (p,l)=(.pv p,l.map fun r=>(r,.none)):=_root_.id rfl
theorem BZ (p:PV):(AV.pv p).names=[]:=_root_.id rfl
theorem wh (r o:Nat):(AV.ptr r o).names=[r]:=_root_.id rfl
theorem wg (r a b c:Nat):(AV.row r a b c).names=[r]:=_root_.id rfl
theorem B0 (r a:Nat)(l:List PV):(AV.olist r a l).names=[r]:=_root_.id rfl
theorem wk (cs:List AV):(AV.agg cs).names=AV.namesL cs:=by simp only[AV.names]
theorem we (cs:List AV):(AV.tup cs).names=AV.namesL cs:=by simp only[AV.names]
theorem wi (f:Nat)(fs cs:List AV):(AV.clo f fs cs).names=AV.namesL fs++AV.namesL cs:=by simp only[AV.names]
theorem wj:AV.any.names=[]:=_root_.id rfl
theorem rh:AV.namesL []=[]:=_root_.id rfl
theorem gM (x:AV)(r:List AV):AV.namesL (x::r)=x.names++AV.namesL r:=by simp only[AV.namesL]
theorem gL:∀ l:List PV,AV.namesL (l.map .pv)=[]
 | []=>rfl
 | x::r=>by rw[List.map_cons,gM,gL r];rfl
theorem m9 (l:List PV):AV.namesL (cn l)=[]:=gL _
theorem kV (T:Nat)(f:Bool)(l:List AV):(Blk.cells T f l).names=AV.namesL l:=_root_.id rfl
theorem ri (e s:Nat):(Blk.tok e s).names=[]:=_root_.id rfl
theorem nc:Blk.none.names=[]:=_root_.id rfl
theorem Du (acc:List Nat):aY acc []=acc:=_root_.id rfl
def Hr (acc:List Nat)(n:Nat):Bool→List Nat
 | true=>acc
 | false=>acc++[n]
theorem fN (x:Nat):∀ l:List Nat,l.contains x=oS x l
 | []=>rfl
 | y::r=>by
   rw[List.contains_cons,fN x r,k8]
   by_cases h:y=x
   ·simp[h]
   ·have h':¬ x=y:=fun e=>h e.symm
    simp[h,h']
theorem yX (acc:List Nat)(n:Nat)(r:List Nat):aY acc (n::r)=aY (Hr acc n (oS n acc)) r:=by
 simp only[aY,fN]
 cases oS n acc<;>rfl
theorem Hp (acc:List Nat)(n:Nat):Hr acc n true=acc:=_root_.id rfl
theorem Hq (acc:List Nat)(n:Nat):Hr acc n false=acc++[n]:=_root_.id rfl
def geN (m0:Nat):List Nat→List Nat
 | []=>[]
 | x::r=>if m0≤x then x::geN m0 r else geN m0 r
theorem GI (m0:Nat):geN m0 []=[]:=_root_.id rfl
theorem oZ (m0 x:Nat)(r:List Nat):geN m0 (x::r)=if m0≤x then x::geN m0 r else geN m0 r:=_root_.id rfl
theorem xo (m0:Nat):∀ l:List Nat,l.filter (fun r=>decide (m0≤r))=geN m0 l
 | []=>rfl
 | x::r=>by rw[List.filter_cons,xo m0 r,oZ];simp
def ci (sto:List (Nat×Blk)):List Nat→List Nat
 | []=>[]
 | r::q=>(lookB r sto).names++ci sto q
theorem lS (sto:List (Nat×Blk)):ci sto []=[]:=_root_.id rfl
theorem eV (sto:List (Nat×Blk))(r:Nat)(q:List Nat):ci sto (r::q)=(lookB r sto).names++ci sto q:=_root_.id rfl
theorem eA (sto:List (Nat×Blk)):∀ l:List Nat,(l.flatMap fun r=>(lookB r sto).names)=ci sto l
 | []=>rfl
 | r::q=>by rw[List.flatMap_cons,eA sto q,eV]
theorem FK (m0:Nat)(sto:List (Nat×Blk))(acc:List Nat):dY m0 sto 0 acc=acc:=_root_.id rfl
theorem FJ (m0:Nat)(sto:List (Nat×Blk))(k:Nat)(acc:List Nat):dY m0 sto (k+1) acc=dY m0 sto k (aY acc (geN m0 (ci sto acc))):=by
 rw[← xo,← eA];rfl
def cS (e:List (Nat×AV)):List Nat→List Nat
 | []=>[]
 | k::r=>(look k e).names++cS e r
theorem lI (e:List (Nat×AV)):cS e []=[]:=_root_.id rfl
theorem jP (e:List (Nat×AV))(k:Nat)(r:List Nat):cS e (k::r)=(look k e).names++cS e r:=_root_.id rfl
theorem g6 (e:List (Nat×AV))(σ:List (Nat×Blk))(n:Nat):∀ l:List Nat,(l.flatMap fun i=>((⟨e,σ,n⟩:St).E i).names)=cS e l
 | []=>rfl
 | k::r=>by rw[List.flatMap_cons,g6 e σ n r];rfl
def uA:Nat→Nat→List Nat
 | 0,_=>[]
 | n+1,k=>k::uA n (k+1)
theorem Mv (k:Nat):uA 0 k=[]:=_root_.id rfl
theorem Je (n k:Nat):uA (n+1) k=k::uA n (k+1):=_root_.id rfl
theorem uz:∀ n k:Nat,uA n k=List.range' k n
 | 0,k=>rfl
 | n+1,k=>by rw[Je,uz n,List.range'_succ]
theorem DR (n:Nat):List.range n=uA n 0:=by rw[uz,List.range_eq_range']
theorem Gb (m0:Nat)(keep:List Nat)(e:List (Nat×AV))(σ:List (Nat×Blk))(n:Nat):Jz m0 keep ⟨e,σ,n⟩=dY m0 σ σ.length (aY [] (geN m0 (cS e keep++ci σ (uA m0 0)))):=by
 rw[← xo,← g6 e σ n,← eA,← DR];rfl
def kU (f:Nat→Option Nat)(e:List (Nat×AV)):List Nat→List (Nat×AV)
 | []=>[]
 | k::r=>(k,(look k e).ren f)::kU f e r
theorem v8 (f:Nat→Option Nat)(e:List (Nat×AV)):kU f e []=[]:=_root_.id rfl
theorem q9 (f:Nat→Option Nat)(e:List (Nat×AV))(k:Nat)(r:List Nat):kU f e (k::r)=(k,(look k e).ren f)::kU f e r:=_root_.id rfl
def v7 (m0:Nat)(keep:List Nat)(e:List (Nat×AV))(σ:List (Nat×Blk))(os:List Nat):St:=⟨kU (cl m0 os) e keep,df m0 (cl m0 os) σ (uA m0 0++os) 0,m0+os.length⟩
theorem Gg (m0:Nat)(keep:List Nat)(e:List (Nat×AV))(σ:List (Nat×Blk))(n:Nat):norm m0 keep ⟨e,σ,n⟩=v7 m0 keep e σ (dY m0 σ σ.length (aY [] (geN m0 (cS e keep++ci σ (uA m0 0))))):=by
 rw[← Gb m0 keep e σ n]
 have hE:∀ (f:Nat→Option Nat) (l:List Nat),(l.map fun i=>(i,((⟨e,σ,n⟩:St).E i).ren f))=kU f e l:=by
  intro f l
  induction l with
  | nil=>rfl
  | cons k r ih=>rw[List.map_cons,ih];rfl
 simp only[norm,v7,hE,DR]
theorem Gi (m0:Nat)(keep:List Nat)(e:List (Nat×AV))(σ:List (Nat×Blk))(x:Nat)(r:List Nat):v7 m0 keep e σ (x::r)=⟨kU (cl m0 (x::r)) e keep,df m0 (cl m0 (x::r)) σ (uA m0 0++(x::r)) 0,m0+(x::r).length⟩:=_root_.id rfl
theorem Gh (m0:Nat)(keep:List Nat)(e:List (Nat×AV))(σ:List (Nat×Blk)):v7 m0 keep e σ []=⟨kU (cl m0 []) e keep,df m0 (cl m0 []) σ (uA m0 0) 0,m0⟩:=by
 simp only[v7,List.append_nil];rfl
theorem qt (m0:Nat)(f:Nat→Option Nat)(σ:List (Nat×Blk))(k:Nat):df m0 f σ [] k=[]:=_root_.id rfl
theorem mH (m0:Nat)(f:Nat→Option Nat)(σ:List (Nat×Blk))(r:Nat)(q:List Nat)(k:Nat):df m0 f σ (r::q) k=(k,(lookB r σ).ren f)::df m0 f σ q (k+1):=_root_.id rfl
theorem rg (m0:Nat)(os:List Nat)(r:Nat):cl m0 os r=if r<m0 then some r else Cq r os m0:=_root_.id rfl
theorem Cp (x k:Nat):Cq x [] k=none:=_root_.id rfl
theorem xa (x y:Nat)(r:List Nat)(k:Nat):Cq x (y::r) k=if y=x then some k else Cq x r (k+1):=_root_.id rfl
def Mx (o:Nat):Option Nat→AV
 | some q=>.ptr q o
 | none=>.any
def Mw (a b c:Nat):Option Nat→AV
 | some q=>.row q a b c
 | none=>.any
def My (a:Nat)(l:List PV):Option Nat→AV
 | some q=>.olist q a l
 | none=>.pv (.list l)
theorem DW (f:Nat→Option Nat)(p:PV):(AV.pv p).ren f = .pv p:=by simp only[AV.ren]
theorem FH (f:Nat→Option Nat):AV.any.ren f = .any:=by simp only[AV.ren]
theorem FF (f:Nat→Option Nat)(r o:Nat):(AV.ptr r o).ren f=Mx o (f r):=by simp only[AV.ren,Mx]<;>(cases f r<;>rfl)
theorem FE (f:Nat→Option Nat)(r a b c:Nat):(AV.row r a b c).ren f=Mw a b c (f r):=by simp only[AV.ren,Mw]<;>(cases f r<;>rfl)
theorem Jp (f:Nat→Option Nat)(r a:Nat)(l:List PV):(AV.olist r a l).ren f=My a l (f r):=by simp only[AV.ren,My]<;>(cases f r<;>rfl)
theorem FI (f:Nat→Option Nat)(cs:List AV):(AV.agg cs).ren f = .agg (AV.renL f cs):=by simp only[AV.ren]
theorem FD (f:Nat→Option Nat)(cs:List AV):(AV.tup cs).ren f = .tup (AV.renL f cs):=by simp only[AV.ren]
theorem FG (f:Nat→Option Nat)(g:Nat)(fs cs:List AV):(AV.clo g fs cs).ren f = .clo g (AV.renL f fs) (AV.renL f cs):=by simp only[AV.ren]
theorem uG (o q:Nat):Mx o (some q) = .ptr q o:=_root_.id rfl
theorem uF (a b c q:Nat):Mw a b c (some q) = .row q a b c:=_root_.id rfl
theorem uH (a:Nat)(l:List PV)(q:Nat):My a l (some q) = .olist q a l:=_root_.id rfl
theorem AU (f:Nat→Option Nat):AV.renL f []=[]:=_root_.id rfl
theorem kx (f:Nat→Option Nat)(x:AV)(r:List AV):AV.renL f (x::r)=x.ren f::AV.renL f r:=by simp only[AV.renL]
theorem mI (f:Nat→Option Nat):∀ l:List PV,AV.renL f (l.map .pv)=l.map .pv
 | []=>rfl
 | x::r=>by rw[List.map_cons,kx,mI f r,DW]
theorem uI (f:Nat→Option Nat)(l:List PV):AV.renL f (cn l)=cn l:=mI f _
theorem qu (f:Nat→Option Nat)(T:Nat)(b:Bool)(l:List AV):(Blk.cells T b l).ren f = .cells T b (AV.renL f l):=_root_.id rfl
theorem AW (f:Nat→Option Nat)(e s:Nat):(Blk.tok e s).ren f = .tok e s:=_root_.id rfl
theorem uJ (f:Nat→Option Nat):Blk.none.ren f = .none:=_root_.id rfl
theorem BM (A:List (Nat×Nat×Nat×Nat))(m0:Nat)(keep:List Nat)(s:St):cN A m0 keep s=norm m0 keep (Dw A s):=_root_.id rfl
theorem Dv (s:St):Dw [] s=s:=_root_.id rfl
theorem yY (k e sz:Nat)(r:List (Nat×Nat×Nat×Nat))(env:List (Nat×AV))(σ:List (Nat×Blk))(n:Nat):Dw ((k,0,e,sz)::r) ⟨env,σ,n⟩=Dw r (Hu k e sz ⟨env,σ,n⟩ (look k env)):=_root_.id rfl
theorem yZ (k j e sz:Nat)(r:List (Nat×Nat×Nat×Nat))(env:List (Nat×AV))(σ:List (Nat×Blk))(n:Nat):Dw ((k,j+1,e,sz)::r) ⟨env,σ,n⟩=Dw r (KW j e sz ⟨env,σ,n⟩ (look k env)):=_root_.id rfl
theorem za (k e sz:Nat)(env:List (Nat×AV))(σ:List (Nat×Blk))(n:Nat):Hu k e sz ⟨env,σ,n⟩ (.pv .nils)=⟨(k,fj n e sz)::env,(n,bD e sz)::σ,n+1⟩:=_root_.id rfl
theorem DA (k e sz r a b c:Nat)(s:St):Hu k e sz s (.row r a b c)=s:=_root_.id rfl
theorem Gk {n e sz:Nat}(h:e<1000000):fj n e sz = .olist n sz []:=if_pos h
theorem Gj {n e sz:Nat}(h:1000000≤e):fj n e sz = .row n sz 0 0:=if_neg (Nat.not_lt.2 h)
theorem BP {e sz:Nat}(h:e<1000000):bD e sz = .tok e sz:=if_pos h
theorem BO {e sz:Nat}(h:1000000≤e):bD e sz = .cells (e - 1000000) false []:=if_neg (Nat.not_lt.2 h)
theorem Ht (k e sz r a:Nat)(l:List PV)(s:St):Hu k e sz s (.olist r a l)=s:=_root_.id rfl
theorem Dy (o e sz r b:Nat)(env:List (Nat×AV))(σ:List (Nat×Blk))(n:Nat):KW o e sz ⟨env,σ,n⟩ (.ptr r b)=accB r (b+o) e sz ⟨env,σ,n⟩ (lookB r σ):=_root_.id rfl
theorem sU (r o e sz T:Nat)(f:Bool)(l:List AV)(s:St):accB r o e sz s (.cells T f l)=Iy r T f l o e sz s l[o]?:=_root_.id rfl
theorem y9 (r T:Nat)(f:Bool)(l:List AV)(o e sz:Nat)(env:List (Nat×AV))(σ:List (Nat×Blk))(n:Nat):Iy r T f l o e sz ⟨env,σ,n⟩ (some (.pv .nils))=⟨env,(r,.cells T f (l.set o (fj n e sz)))::(n,bD e sz)::σ,n+1⟩:=_root_.id rfl
theorem Dz (r T:Nat)(f:Bool)(l:List AV)(o e sz:Nat)(s:St)(q a b c:Nat):Iy r T f l o e sz s (some (.row q a b c))=s:=_root_.id rfl
theorem Hs (r T:Nat)(f:Bool)(l:List AV)(o e sz:Nat)(s:St)(q a:Nat)(k:List PV):Iy r T f l o e sz s (some (.olist q a k))=s:=_root_.id rfl
theorem N2 {α:Type}(x y:α)(r:List α):(x::r).set 0 y=y::r:=_root_.id rfl
theorem N1 {α:Type}(x y:α)(r:List α)(n:Nat):(x::r).set (n+1) y=x::r.set n y:=_root_.id rfl
theorem Mf (e e':List (Nat×AV))(σ σ':List (Nat×Blk))(n n':Nat):(St.mk e σ n=St.mk e' σ' n')=(e=e'∧σ=σ'∧n=n'):=by rw[St.mk.injEq]
theorem Kb {a b:Nat}(h:a<b):decide (a<b)=true:=decide_eq_true h
theorem Kc {a b:Nat}(h:¬ a<b):decide (a<b)=false:=decide_eq_false h
theorem Kd {a b:Nat}(h:a≤b):decide (a≤b)=true:=decide_eq_true h
theorem Ke {a b:Nat}(h:¬ a≤b):decide (a≤b)=false:=decide_eq_false h
theorem Kf {a b:Nat}(h:a=b):decide (a=b)=true:=decide_eq_true h
theorem Kg {a b:Nat}(h:¬ a=b):decide (a=b)=false:=decide_eq_false h
theorem aR {α:Type}{l:List α}{m:Nat}{x:α}(h:l[m]? = some x):l.take (m+1)=l.take m++[x]:=by
 obtain⟨h1,h2⟩:=List.getElem?_eq_some_iff.1 h
 rw[List.take_succ_eq_append_getElem h1,h2]
def JZ (cells:List AV)(off sz:Nat)(r:List (Nat×Nat×AV))(xc:List AV):Bool→Option (List AV)
 | true=>er (cells.take off++xc++cells.drop (off+sz)) r
 | false=>none
theorem GV (cells:List AV)(off sz:Nat)(r:List (Nat×Nat×AV))(xc:List AV):JZ cells off sz r xc true=er (cells.take off++xc++cells.drop (off+sz)) r:=_root_.id rfl
theorem xE (cells:List AV):er cells []=some cells:=_root_.id rfl
theorem rV (cells:List AV)(off sz:Nat)(x:AV)(r:List (Nat×Nat×AV)):er cells ((off,sz,x)::r)=JZ cells off sz r x.cells (x.known&&decide (x.cells.length=sz)&&decide (off+sz≤cells.length)):=by
 simp only[er]
 by_cases h:x.known=true∧x.cells.length=sz∧off+sz≤cells.length
 ·rw[if_pos h,h.1,decide_eq_true h.2.1,decide_eq_true h.2.2];rfl
 ·rw[if_neg h]
  have:(x.known&&decide (x.cells.length=sz)&&decide (off+sz≤cells.length))=false:=by
   rw[Bool.eq_false_iff]
   intro hh
   simp only[Bool.and_eq_true,decide_eq_true_eq] at hh
   exact h ⟨hh.1.1,hh.1.2,hh.2⟩
  rw[this];rfl
theorem Bz (sz off:Nat)(cs:List AV):Ju sz off cs=if off+sz≤cs.length then some (fR ((cs.drop off).take sz)) else none:=_root_.id rfl
section
variable {P:Program}{G:Nat→List PV}
def zd {ι:Type}(A:List (Nat×Nat×Nat×Nat))(S:ι→St)(Inv:ι→Prop)(μ:ι→Nat)(x:ι)(m0:Nat)(keep:List Nat)(id:Nat)(keepX:List Nat)(fin:ι→Prop)(Q:AExit→St→Prop):AExit→St→Prop
 | .norm,s'=>∃ x',Hd A m0 keep s' (S x')∧Inv x'∧μ x'<μ x
 | .exit i,s'=>if i=id then ∃ x',fin x'∧norm m0 keepX s'=norm m0 keepX (S x') else Q (.exit i) s'
 | .ret,s'=>Q .ret s'
theorem oa {ι:Type}(A:List (Nat×Nat×Nat×Nat))(S:ι→St)(Inv:ι→Prop)(μ:ι→Nat)(x:ι)(m0:Nat)(keep:List Nat)(id:Nat)(keepX:List Nat)(fin:ι→Prop)(Q:AExit→St→Prop)(s:St):zd A S Inv μ x m0 keep id keepX fin Q .norm s = ∃ x',Hd A m0 keep s (S x')∧Inv x'∧μ x'<μ x:=_root_.id rfl
theorem ob {ι:Type}(A:List (Nat×Nat×Nat×Nat))(S:ι→St)(Inv:ι→Prop)(μ:ι→Nat)(x:ι)(m0:Nat)(keep:List Nat)(id:Nat)(keepX:List Nat)(fin:ι→Prop)(Q:AExit→St→Prop)(i:Nat)(s:St):zd A S Inv μ x m0 keep id keepX fin Q (.exit i) s=if i=id then (∃ x',fin x'∧norm m0 keepX s=norm m0 keepX (S x')) else Q (.exit i) s:=_root_.id rfl
theorem sV {ι:Type}(A:List (Nat×Nat×Nat×Nat))(S:ι→St)(Inv:ι→Prop)(μ:ι→Nat)(x:ι)(m0:Nat)(keep:List Nat)(id:Nat)(keepX:List Nat)(fin:ι→Prop)(Q:AExit→St→Prop)(s:St):zd A S Inv μ x m0 keep id keepX fin Q .ret s=Q .ret s:=_root_.id rfl
end
end Go.Ab
namespace Go.Ab
open Go Go.RowKit
def Kap.cut (κ:Kap)(k:Nat):Kap:=⟨κ.w,fun r=>if r<k then κ.nm r else none,κ.imm⟩
theorem Kap.cut_ext (κ:Kap)(k:Nat):Ext (κ.cut k) κ:=by
 refine⟨fun _ _ h=>h,fun _ _ _ _ h=>h,fun r d h=>?_,fun _ _ h _=>h⟩
 simp only[Kap.cut] at h
 split at h
 ·exact h
 ·cases h
theorem Kap.cut_none (κ:Kap)(k r:Nat)(h:k≤r):(κ.cut k).nm r=none:=by simp only[Kap.cut];rw[if_neg (by omega)]
def l8 (P:Program)(G:Nat→List PV)(k:Nat)(f:Nat)(args:List AV)(sto:List (Nat×Blk))(next:Nat)(Q:AV→List (Nat×Blk)→Nat→Prop):Prop:=
 bc P f=true∧∀ (κ:Kap) (vals:Array Value),SRel (bp κ (fun r=>lookB r sto) G) κ (fun r=>lookB r sto)→(∀ r,next≤r→κ.nm r=none)→vals.size=args.length →
  (∀ (i:Nat) (x:AV),args[i]? = some x→ARel κ x (vals.getD i Go.undef)) →
  Calls P f vals κ.w fun e w'=>∃ u v κ' sto' next',e = .returned u∧κ'.w=w'∧Ext (κ.cut k) κ'∧Left (bp κ (fun r=>lookB r sto) G) κ.imm κ'∧ARel κ' v u ∧
   SRel (bp κ (fun r=>lookB r sto) G) κ' (fun r=>lookB r sto')∧(∀ r,next'≤r→κ'.nm r=none)∧Q v sto' next'
section
variable {P:Program}{G:Nat→List PV}
theorem l8.of_code {muts:List Nat}{k f:Nat}{fn:AFn}{args:List AV}{sto:List (Nat×Blk)}{next:Nat}{R:AV→List (Nat×Blk)→Nat→Prop}(hc:cFn P muts f=some fn)(hn:args.length≤fn.N)
  (hv:vc P G k fn.body (FnK G fn.res R) ⟨bS args,sto,next⟩):l8 P G k f args sto next R:=by
 unfold cFn at hc
 split at hc
 ·rename_i fnc hfn
  split at hc
  ·rename_i co hco
   split at hc
   ·rename_i rs hrs
    split at hc
    ·rename_i hok
     split at hc
     ·rename_i b li hb
      cases hc
      refine⟨hok,fun κ vals hS hf hsz hargs=>?_⟩
      refine callsIn_wide.1 (callsIn_of_wp_marks (n:=0) hfn hco trivial ?_ rfl)
      let c:=bp κ (fun r=>lookB r sto) G
      have hsize:(vals++Array.replicate (fnc.ntmps - vals.size) Go.undef).size=fnc.ntmps:=by
       simp only at hn
       simp only[Array.size_append,Array.size_replicate];omega
      have hR:Rel c (κ.cut k) fnc.ntmps ⟨bS args,sto,next⟩ ⟨vals++Array.replicate (fnc.ntmps - vals.size) Go.undef,[]⟩ κ.w κ:=by
       refine⟨rfl,κ.cut_ext k,hS,⟨rfl,rfl,rfl,Nat.le_refl _,fun _ _ _=>rfl,fun _ _ h=>.inl h⟩,fun i=>?_,hsize,bY.nil _ _,hf⟩
       show ARel κ (look i ((args.zipIdx 0).map fun p=>(p.2,p.1))) _
       rw[gO,if_pos (Nat.zero_le _),Nat.sub_zero]
       cases hx:args[i]? with
       | none=>exact .any _
       | some x=>
         have hi:i<vals.size:=by rw[hsz];exact (List.getElem?_eq_some_iff.1 hx).1
         have:=hargs i x hx
         have e:(vals++Array.replicate (fnc.ntmps - vals.size) Go.undef).getD i Go.undef=vals.getD i Go.undef:=by
          simp only[Array.getD_eq_getD_getElem?]
          rw[Array.getElem?_append_left hi]
         rw[e];exact this
      refine Go.wpIn_mono (oq (P:=P) (N:=fnc.ntmps) co c (κ.cut k) k none 0 b [] (e8 rs) li (FnK G rs R) _ _ κ.w κ (.inl rfl) (fun r hr=>κ.cut_none k r hr) (Nat.le_refl _) hb hR hv) ?_
      have fin:∀ (s:St) (κ':Kap) (a:Act) (w:World),Rel c (κ.cut k) fnc.ntmps s a w κ'→aC (du G s rs) (DS R s)→∃ v,(results fnc a.tmps).run P w = .ok v w ∧
        ∃ u v' κ'' sto' next',Ending.returned v = .returned u∧κ''.w=w∧Ext (κ.cut k) κ''∧Left c κ.imm κ''∧ARel κ'' v' u∧SRel c κ'' (fun r=>lookB r sto')∧(∀ r,next'≤r→κ''.nm r=none)∧R v' sto' next':=by
       intro s κ' a w hR hF
       simp only[aC] at hF
       split at hF
       ·rename_i vs hvs
        obtain⟨us,h1,h2,h3⟩:=gC (P:=P) hR fnc.results.toList rs vs hrs hvs
        have hrun:(results fnc a.tmps).run P w = .ok (if h:us.toArray.size=1 then us.toArray[0] else .tuple us.toArray) w:=by
         rw[iJ,Sem.run_bind,Array.mapM_eq_mapM_toList]
         simp only[Sem.run_bind,Sem.run_map]
         rw[h1]
         simp
        refine⟨_,hrun,_,s8 vs,κ',s.sto,s.next,rfl,hR.w_eq,hR.ext0,hR.left,?_,hR.rel,hR.fresh,hF⟩
        by_cases hl:vs.length=1
        ·obtain⟨v,rfl⟩:=List.length_eq_one_iff.1 hl
         obtain⟨u,rfl⟩:=List.length_eq_one_iff.1 (h2.trans hl)
         have:=h3 0 v rfl
         exact this
        ·have hul:¬ us.toArray.size=1:=by simpa[h2] using hl
         rw[dif_neg hul]
         have hrv:s8 vs=kX vs:=by
          unfold s8
          split
          ·simp at hl
          ·rfl
         rw[hrv]
         exact kW (.tup _ _ (by simpa using h2) (fun i x hx=>by rw[aw];simpa using h3 i x hx))
       ·exact hF.elim
      intro e a w hq
      cases e with
      | normal=>
        obtain⟨s,κ',hR,hF⟩:=hq
        exact eN (Nat.le_refl _) rfl hR fun w' κ'' hR'=>fin s κ'' ⟨a.tmps,[]⟩ w' hR' hF
      | ret=>
        obtain⟨s,κ',hR,hF⟩:=hq
        exact eN (Nat.le_refl _) rfl hR fun w' κ'' hR'=>fin s κ'' ⟨a.tmps,[]⟩ w' hR' hF
      | exit id=>
        obtain⟨s,κ',hR,hF⟩:=hq
        exact hF.elim
      | goto l=>exact hq.elim
      | panic ch=>exact hq.elim
      | outgrown=>exact hq.elim
     ·cases hc
    ·cases hc
   ·cases hc
  ·cases hc
 ·cases hc
def bB:List Blk→Nat→List (Nat×Blk)
 | [],_=>[]
 | b::r,k=>(k,b)::bB r (k+1)
theorem iS:∀ (bs:List Blk) (k i:Nat),lookB i (bB bs k)=if k≤i then bs.getD (i - k) .none else .none
 | [],k,i=>by simp[bB,lookB]
 | b::r,k,i=>by
   simp only[bB,lookB]
   by_cases h:k=i
   ·subst h;simp
   ·rw[if_neg h,iS r (k+1) i]
    by_cases hk:k≤i
    ·rw[if_pos (by omega),if_pos hk,show i - k=(i - (k+1))+1 by omega];simp
    ·rw[if_neg (by omega),if_neg hk]
theorem ep (bs:List Blk):(fun r=>lookB r (bB bs 0))=fun r=>bs.getD r .none:=by
 funext r;rw[iS];simp
def cq (P:Program)(G:Nat→List PV)(k f:Nat)(args:List AV)(bs:List Blk)(v:AV)(bs':List Blk):Prop:=
 l8 P G k f args (bB bs 0) bs.length fun v' sto' next'=>v'=v∧sto'=bB bs' 0∧next'=bs'.length
def Gy (k:Nat)(v:AV)(bs':List Blk)(v':AV)(sto':List (Nat×Blk))(next':Nat):Prop:=
 Wk k ⟨[(0,v')],sto',next'⟩ ⟨[(0,v)],bB bs' 0,bs'.length⟩
theorem cq.of_lcalls {k f:Nat}{args:List AV}{bs:List Blk}{v:AV}{bs':List Blk}(h:l8 P G k f args (bB bs 0) bs.length (Gy k v bs')):cq P G k f args bs v bs':=by
 obtain⟨hcal,h⟩:=h
 refine⟨hcal,fun κ vals hS hf hsz hargs=>(h κ vals hS hf hsz hargs).mono ?_⟩
 rintro e w' ⟨u,v',κ',sto',next',rfl,rfl,he,hL,hv,hS',hf',hw⟩
 obtain⟨κ'',hR⟩:=hw _ (κ.cut k) κ' 1 ⟨#[u],[]⟩ κ'.w (fun r hr=>κ.cut_none k r hr) ⟨rfl,he,hS',hL,fun i=>by
  show ARel κ' (look i [(0,v')]) _
  by_cases hi:0=i
  ·subst hi;simpa[look] using hv
  ·simp only[look,if_neg hi];exact .any _,rfl,bY.nil _ _,hf'⟩
 refine⟨u,v,κ'',_,_,rfl,hR.w_eq,hR.ext0,hR.left,?_,hR.rel,hR.fresh,rfl,rfl,rfl⟩
 have:=hR.env 0
 simpa[St.E,look] using this
theorem cq.intro {muts:List Nat}{k f:Nat}{fn:AFn}{args:List AV}{bs:List Blk}{v:AV}{bs':List Blk}(hc:cFn P muts f=some fn)(hn:args.length≤fn.N)
  (hv:vc P G k fn.body (FnK G fn.res (Gy k v bs')) ⟨bS args,bB bs 0,bs.length⟩):cq P G k f args bs v bs':=
 cq.of_lcalls (l8.of_code hc hn hv)
def gIn (next:Nat):List Nat→Nat→Nat
 | [],i=>next+i
 | r::_,0=>r
 | _::q,i+1=>gIn next q i
def gSo (next:Nat)(rs:List Nat)(r:Nat):Option Nat:=some (gIn next rs r)
theorem gV (next:Nat):∀ (rs:List Nat) (i:Nat) (r:Nat),rs[i]? = some r→gIn next rs i=r
 | [],i,r,h=>by simp at h
 | x::q,0,r,h=>by simpa[gIn] using h
 | x::q,i+1,r,h=>by simpa[gIn] using gV next q i r (by simpa using h)
theorem iU (next:Nat):∀ (rs:List Nat) (i:Nat),rs.length≤i→gIn next rs i=next+(i - rs.length)
 | [],i,h=>by simp[gIn]
 | x::q,0,h=>by simp at h
 | x::q,i+1,h=>by
   simp only[List.length_cons] at h
   rw[gIn,iU next q i (by omega)]
   simp
mutual
theorem unren {κ κ':Kap}(hw:κ'.w=κ.w)(hi:κ'.imm=κ.imm){g:Nat→Nat}(hf:∀ r,κ'.nm r=κ.nm (g r)):∀ (x:AV) (v:Value),ARel κ (x.ren fun r=>some (g r)) v→ARel κ' x v
 | .pv p,v,h=>by
   simp only[AV.ren] at h
   cases h with
   | pv _ _ hp=>exact .pv _ _ (by rw[hw,hi];exact hp)
 | .any,v,h=>.any v
 | .ptr r o,v,h=>by
   simp only[AV.ren] at h
   cases h with
   | ptr _ _ b n hn=>exact .ptr _ _ b n (by rw[hf r];exact hn)
 | .row r a b c,v,h=>by
   simp only[AV.ren] at h
   cases h with
   | row _ _ _ _ bb n cap hn h1 h2 h3 h4=>exact .row _ _ _ _ bb n cap (by rw[hf r];exact hn) h1 h2 h3 h4
   | row0 _ _ hn=>exact .row0 _ _ (by rw[hf r];exact hn)
 | .olist r a l,v,h=>by
   simp only[AV.ren] at h
   cases h with
   | olist _ _ _ _ hn hp hs=>exact .olist _ _ _ _ (by rw[hf r];exact hn) (by rw[hw,hi];exact hp) hs
 | .mp r,v,h=>by
   simp only[AV.ren] at h
   cases h with
   | mp _ b hn=>exact .mp _ _ (by rw[hf r];exact hn)
 | .agg cs,v,h=>by
   simp only[AV.ren] at h
   cases h with
   | agg _ vs hl hr=>
     obtain⟨h1,h2⟩:=gv hw hi hf cs vs hr
     exact .agg _ _ (by rw[← h1];exact hl) h2
 | .tup cs,v,h=>by
   simp only[AV.ren] at h
   cases h with
   | tup _ vs hl hr=>
     obtain⟨h1,h2⟩:=gv hw hi hf cs vs hr
     exact .tup _ _ (by rw[← h1];exact hl) h2
 | .clo g fs cs,v,h=>by
   simp only[AV.ren] at h
   cases h with
   | clo _ _ _ vs us hl hr hl' hr'=>
     obtain⟨h1,h2⟩:=gv hw hi hf fs vs hr
     obtain⟨h3,h4⟩:=gv hw hi hf cs us hr'
     exact .clo _ _ _ _ _ (by rw[← h1];exact hl) h2 (by rw[← h3];exact hl') h4
theorem gv {κ κ':Kap}(hw:κ'.w=κ.w)(hi:κ'.imm=κ.imm){g:Nat→Nat}(hf:∀ r,κ'.nm r=κ.nm (g r)):∀ (xs:List AV) (vs:Array Value),
  (∀ (i:Nat) (x:AV),(AV.renL (fun r=>some (g r)) xs)[i]? = some x→ARel κ x (vs.getD i Go.undef))→(AV.renL (fun r=>some (g r)) xs).length=xs.length∧∀ (i:Nat) (x:AV),xs[i]? = some x→ARel κ' x (vs.getD i Go.undef)
 | [],vs,h=>by simp[AV.renL]
 | x::r,vs,h=>by
   have e:∀ i,(vs.extract 1 vs.size).getD i Go.undef=vs.getD (i+1) Go.undef:=by
    intro i
    simp only[Array.getD_eq_getD_getElem?,Array.getElem?_extract]
    by_cases hh:i<min vs.size vs.size - 1
    ·rw[if_pos hh];congr 2;omega
    ·rw[if_neg hh,Array.getElem?_eq_none (by omega)]
   obtain⟨h1,h2⟩:=gv hw hi hf r (vs.extract 1 vs.size) (fun i y hy=>by
    have:=h (i+1) y (by simpa[AV.renL] using hy)
    rw[e];exact this)
   refine⟨by simp[AV.renL,h1],fun i y hy=>?_⟩
   cases i with
   | zero=>
     simp only[List.getElem?_cons_zero,Option.some.injEq] at hy
     subst hy
     exact unren hw hi hf x _ (h 0 _ (by simp[AV.renL]))
   | succ i=>
     simp only[List.getElem?_cons_succ] at hy
     have:=h2 i y hy
     rw[e] at this;exact this
end
theorem dn.unren {κ κ':Kap}(hw:κ'.w=κ.w)(hi:κ'.imm=κ.imm){g:Nat→Nat}(hf:∀ r,κ'.nm r=κ.nm (g r)){r:Nat}{B:Blk}(h:dn κ (g r) (B.ren fun r=>some (g r))):dn κ' r B:=by
 cases B with
 | none=>trivial
 | cells T f l=>
   simp only[Blk.ren] at h
   rcases h with ⟨h1,h2,h3⟩ | ⟨b,n,cs,h1,h2,h3,h4,h5,h6,h7⟩
   ·refine .inl ⟨h1,?_,by rw[hf];exact h3⟩
    cases l with
    | nil=>rfl
    | cons x r=>simp[AV.renL] at h2
   ·obtain⟨q1,q2⟩:=gv hw hi hf l cs h6
    exact .inr ⟨b,n,cs,by rw[hf];exact h1,by rw[hw];exact h2,h3,by rw[← q1];exact h4,fun hb=>by rw[← q1];exact h5 hb,q2,by rw[hi];exact h7⟩
 | tok e sz=>
   simp only[Blk.ren] at h
   rcases h with h | ⟨g',n,cap,cur,h1,h2,h3⟩
   ·exact .inl (by rw[hf];exact h)
   ·exact .inr ⟨g',n,cap,cur,by rw[hf];exact h1,by rw[hw];exact h2,by rw[hi];exact h3⟩
 | mp l=>
   obtain⟨b,es,ck,h1,h2⟩:=h
   exact⟨b,es,ck,by rw[hf];exact h1,by rw[hw,hi];exact h2⟩
 | bts e l=>
   obtain⟨b,n,cs,fz,h1,h2⟩:=h
   exact⟨b,n,cs,fz,by rw[hf];exact h1,by rw[hw,hi];exact h2⟩
theorem dn.ren {κ κ':Kap}(hw:κ'.w=κ.w)(hi:κ'.imm=κ.imm){g:Nat→Nat}(hf:∀ r,κ'.nm (g r)=κ.nm r){r:Nat}{B:Blk}(h:dn κ r B):dn κ' (g r) (B.ren fun r=>some (g r)):=by
 have hf':∀ r r',(fun r=>some (g r)) r=some r'→κ'.nm r'=κ.nm r:=fun r r' h=>by cases h;exact hf r
 cases B with
 | none=>trivial
 | cells T f l=>
   simp only[Blk.ren]
   rcases h with ⟨h1,h2,h3⟩ | ⟨b,n,cs,h1,h2,h3,h4,h5,h6,h7⟩
   ·exact .inl ⟨h1,by rw[h2];simp only[AV.renL],by rw[hf];exact h3⟩
   ·obtain⟨q1,q2⟩:=cH hw hi hf' l cs h6
    exact .inr ⟨b,n,cs,by rw[hf];exact h1,by rw[hw];exact h2,h3,by rw[q1];exact h4,fun hb=>by rw[q1];exact h5 hb,q2,by rw[hi];exact h7⟩
 | tok e sz=>
   simp only[Blk.ren]
   rcases h with h | ⟨g',n,cap,cur,h1,h2,h3⟩
   ·exact .inl (by rw[hf];exact h)
   ·exact .inr ⟨g',n,cap,cur,by rw[hf];exact h1,by rw[hw];exact h2,by rw[hi];exact h3⟩
 | mp l=>
   obtain⟨b,es,ck,h1,h2⟩:=h
   exact⟨b,es,ck,by rw[hf];exact h1,by rw[hw,hi];exact h2⟩
 | bts e l=>
   obtain⟨b,n,cs,fz,h1,h2⟩:=h
   exact⟨b,n,cs,fz,by rw[hf];exact h1,by rw[hw,hi];exact h2⟩
def qY (f:Nat→Option Nat):List Blk→Nat→(Nat→Nat)→List (Nat×Blk)
 | [],_,_=>[]
 | b::r,i,g=>(g i,b.ren f)::qY f r (i+1) g
def fi:List Nat→List (Nat×Blk)
 | []=>[]
 | r::q=>(r,.none)::fi q
def eX (sto:List (Nat×Blk))(f:Nat→Option Nat):List Nat→List Blk→Prop
 | [],[]=>True
 | r::rs,b::bs=>BlkZ (lookB r sto) (b.ren f)∧eX sto f rs bs
 | _,_=>False
theorem eX.get {sto:List (Nat×Blk)}{f:Nat→Option Nat}:∀ {rs:List Nat} {bs:List Blk},eX sto f rs bs→rs.length=bs.length∧∀ (i r:Nat) (b:Blk),rs[i]? = some r→bs[i]? = some b→BlkZ (lookB r sto) (b.ren f)
 | [],[],h=>⟨rfl,by simp⟩
 | r::rs,b::bs,h=>by
   obtain⟨h1,h2⟩:=h
   obtain⟨h3,h4⟩:=eX.get h2
   refine⟨by simp[h3],fun i q d hq hd=>?_⟩
   cases i with
   | zero=>simp at hq hd;subst hq;subst hd;exact h1
   | succ i=>exact h4 i q d (by simpa using hq) (by simpa using hd)
 | [],_::_,h=>h.elim
 | _::_,[],h=>h.elim
end
end Go.Ab
namespace Go.Ab
open Go Go.RowKit
section
variable {P:Program}{G:Nat→List PV}
theorem dn.named {κ:Kap}{r:Nat}{B:Blk}(h:dn κ r B)(hB:B≠.none):∃ d,κ.nm r=some d:=by
 cases B with
 | none=>exact absurd rfl hB
 | cells T f l=>
   rcases h with ⟨_,_,h⟩ | ⟨b,n,cs,h,_⟩
   ·exact⟨_,h⟩
   ·exact⟨_,h⟩
 | tok e sz=>
   rcases h with h | ⟨g,n,cap,cur,h,_⟩
   ·exact⟨_,h⟩
   ·exact⟨_,h⟩
 | mp l=>
   obtain⟨b,es,ck,h,_⟩:=h
   exact⟨_,h⟩
 | bts e l=>
   obtain⟨b,n,cs,fz,h,_⟩:=h
   exact⟨_,h⟩
theorem Blk.ren_ne {f:Nat→Option Nat}{b:Blk}:b.ren f≠.none↔b≠.none:=by
 cases b<;>simp[Blk.ren]
theorem GK {next:Nat}{rs:List Nat}(hnd:rs.Nodup)(hlt:∀ r∈rs,r<next){i j:Nat}(h:gIn next rs i=gIn next rs j):i=j:=by
 by_cases hi:i<rs.length
 ·have ei:=gV next rs i _ (List.getElem?_eq_getElem hi)
  have hi':=hlt _ (List.getElem_mem hi)
  by_cases hj:j<rs.length
  ·have ej:=gV next rs j _ (List.getElem?_eq_getElem hj)
   rw[ei,ej] at h
   exact (List.getElem_inj hnd).1 h
  ·have ej:=iU next rs j (by omega)
   omega
 ·have ei:=iU next rs i (by omega)
  by_cases hj:j<rs.length
  ·have ej:=gV next rs j _ (List.getElem?_eq_getElem hj)
   have hj':=hlt _ (List.getElem_mem hj)
   omega
  ·have ej:=iU next rs j (by omega)
   omega
theorem lp {f:Nat→Option Nat}{g:Nat→Nat}(hg:∀ i j,g i=g j→i=j)(rest:List (Nat×Blk))(r:Nat):∀ (bs:List Blk) (k:Nat),
  (∀ i b,bs[i]? = some b→g (k+i)=r→lookB r (qY f bs k g++rest)=b.ren f)∧((∀ i,i<bs.length→g (k+i)≠r)→lookB r (qY f bs k g++rest)=lookB r rest)
 | [],k=>⟨by simp,fun _=>rfl⟩
 | b::q,k=>by
   obtain⟨h1,h2⟩:=lp hg rest r q (k+1)
   refine⟨fun i b' hi hr=>?_,fun h=>?_⟩
   ·simp only[qY,List.cons_append,lookB]
    cases i with
    | zero=>
      simp only[List.getElem?_cons_zero,Option.some.injEq] at hi
      subst hi
      rw[if_pos (by simpa using hr)]
    | succ i=>
      rw[if_neg (fun e=>by have:=hg _ _ (e.trans hr.symm);omega)]
      exact h1 i b' (by simpa using hi) (by rw[← hr];congr 1;omega)
   ·simp only[qY,List.cons_append,lookB]
    rw[if_neg (by have:=h 0 (by simp);simpa using this)]
    exact h2 fun i hi=>by
     have:=h (i+1) (by simp;omega)
     rwa [show k+(i+1)=k+1+i by omega] at this
theorem iR (rest:List (Nat×Blk))(r:Nat):∀ (l:List Nat),lookB r (fi l++rest)=if r∈l then .none else lookB r rest
 | []=>by simp[fi]
 | x::q=>by
   simp only[fi,List.cons_append,lookB,iR rest r q,List.mem_cons]
   by_cases h:x=r
   ·subst h;simp
   ·rw[if_neg h]
    by_cases hq:r∈q
    ·simp[hq]
    ·have:¬ (r=x∨r∈q):=by rintro (e | e);exact h e.symm;exact hq e
     rw[if_neg hq,if_neg this]
theorem cq.frame {k f:Nat}{args0:List AV}{bs:List Blk}{v:AV}{bs':List Blk}(h:cq P G k f args0 bs v bs'){rs:List Nat}{args:List AV}{sto:List (Nat×Blk)}{next:Nat}
  (hargs:AVzL args (AV.renL (gSo next rs) args0)) (hbs:eX sto (gSo next rs) rs bs) (hnd:rs.Nodup) (hlt:∀ r∈rs,r<next) (hk:k≤bs.length) (hk':k≤bs'.length) (hne:∀ b∈bs.take k,b≠.none) :
  bq P G f args sto next fun v' sto' next'=>v'=v.ren (gSo next (rs.take k))∧sto'=qY (gSo next (rs.take k)) bs' 0 (gIn next (rs.take k))++(fi (rs.drop k)++sto)∧next'=next+(bs'.length - k):=by
 obtain⟨hcal,h⟩:=h
 refine⟨hcal,fun κ vals hS hf hsz hvals=>?_⟩
 obtain⟨hrl,hat⟩:=hbs.get
 let κ1:Kap:=⟨κ.w,fun i=>κ.nm (gIn next rs i),κ.imm⟩
 have hσ1:(fun r=>lookB r (bB bs 0))=fun r=>bs.getD r .none:=ep bs
 have hlook:∀ i b,bs[i]? = some b→∃ r,rs[i]? = some r∧gIn next rs i=r∧dn κ r (b.ren (gSo next rs))∧(b≠.none→lookB r sto≠.none):=by
  intro i b hb
  have hi:i<rs.length:=by rw[hrl];exact (List.getElem?_eq_some_iff.1 hb).1
  have hr:=List.getElem?_eq_getElem hi
  obtain⟨q1,q2⟩:=(hat i _ b hr hb).rel (hS.blk rs[i])
  exact⟨rs[i],hr,gV next rs i _ hr,q1,fun hb'=>q2 (Blk.ren_ne.2 hb')⟩
 have hlive:∀ i,bs.getD i .none≠.none→∃ b,bs[i]? = some b∧b≠.none:=by
  intro i hi
  rw[List.getD_eq_getElem?_getD] at hi
  cases hb:bs[i]? with
  | none=>rw[hb] at hi;exact absurd rfl hi
  | some b=>rw[hb] at hi;exact⟨b,rfl,hi⟩
 have hB1:∀ i b,bs[i]? = some b→dn κ1 i b:=by
  intro i b hb
  obtain⟨r,hr,hgr,hB,_⟩:=hlook i b hb
  exact dn.unren (κ:=κ) (κ':=κ1) rfl rfl (g:=gIn next rs) (fun _=>rfl) (by rw[hgr];exact hB)
 have hl1:∀ b,(bp κ1 (fun r=>lookB r (bB bs 0)) G).lent b→(bp κ (fun r=>lookB r sto) G).lent b:=by
  rintro b ⟨i,d,h1,h2,h3⟩
  simp only[congrFun hσ1 i] at h1
  obtain⟨b',hb,hbn⟩:=hlive i h1
  obtain⟨r,hr,hgr,_,hn⟩:=hlook i b' hb
  exact⟨r,d,hn hbn,by rw[← hgr];exact h2,h3⟩
 have hm1:∀ b,(bp κ1 (fun r=>lookB r (bB bs 0)) G).mine b→(bp κ (fun r=>lookB r sto) G).mine b:=fun b hb=>hb.elim .inl (fun h=>.inr (hl1 b h))
 have hS1:SRel (bp κ1 (fun r=>lookB r (bB bs 0)) G) κ1 (fun r=>lookB r (bB bs 0)):=by
  refine⟨fun i=>?_,fun i j d d' b h1 h2 hij hd hd' hb=>?_,fun i d b h1 hd hb=>.inr ⟨i,d,h1,hd,hb⟩,hS.immLt,?_⟩
  ·rw[congrFun hσ1 i]
   show dn κ1 i (bs.getD i .none)
   rw[List.getD_eq_getElem?_getD]
   cases hb:bs[i]? with
   | none=>trivial
   | some b=>exact hB1 i b hb
  ·simp only[congrFun hσ1 i] at h1
   simp only[congrFun hσ1 j] at h2
   obtain⟨b1,hb1,hn1⟩:=hlive i h1
   obtain⟨b2,hb2,hn2⟩:=hlive j h2
   obtain⟨r,hr,hgr,_,hn⟩:=hlook i b1 hb1
   obtain⟨r',hr',hgr',_,hn'⟩:=hlook j b2 hb2
   refine hS.apart r r' d d' b (hn hn1) (hn' hn2) (fun e=>hij ?_) (by rw[← hgr];exact hd) (by rw[← hgr'];exact hd') hb
   obtain⟨hi,ei⟩:=List.getElem?_eq_some_iff.1 hr
   obtain⟨hj,ej⟩:=List.getElem?_eq_some_iff.1 hr'
   exact (List.getElem_inj hnd).1 (ei.trans (e.trans ej.symm))
  ·refine⟨fun g o p hp=>?_,fun g hg=>?_⟩
   ·exact hS.glob.1 g o p hp
   ·obtain⟨h1,h2,h3⟩:=hS.glob.2 g hg
    exact⟨h1,fun hl=>h2 (hl1 g hl),h3⟩
 have hf1:∀ r,bs.length≤r→κ1.nm r=none:=fun r hr=>by
  show κ.nm (gIn next rs r)=none
  rw[iU next rs r (by omega)]
  exact hf _ (by omega)
 have hlen0:args0.length=args.length:=by
  rw[hargs.length]
  have:∀ (f:Nat→Option Nat) (l:List AV),(AV.renL f l).length=l.length:=by
   intro f l
   induction l with
   | nil=>simp[AV.renL]
   | cons x r ih=>simp[AV.renL,ih]
  rw[this]
 have hv1:∀ (i:Nat) (x:AV),args0[i]? = some x→ARel κ1 x (vals.getD i Go.undef):=
  (gv (κ:=κ) (κ':=κ1) rfl rfl (g:=gIn next rs) (fun _=>rfl) args0 vals (fun i x hx=>by
   obtain⟨y,hy,hyx⟩:=hargs.get i x hx
   exact hyx.rel (hvals i y hy))).2
 refine (h κ1 vals hS1 hf1 (by omega) hv1).mono ?_
 rintro e w' ⟨u,v',κ1',sto',next',rfl,rfl,he,hL,hv,hS',hf',rfl,rfl,rfl⟩
 obtain⟨g,hgdef⟩:∃ g,g=gIn next (rs.take k):=⟨_,rfl⟩
 have htl:(rs.take k).length=k:=by rw[List.length_take];omega
 have hg1:∀ i,i<k→∃ r,rs[i]? = some r∧g i=r∧r<next:=by
  intro i hi
  have hi':i<rs.length:=by omega
  have hr:=List.getElem?_eq_getElem hi'
  refine⟨rs[i],hr,?_,hlt _ (List.getElem_mem hi')⟩
  rw[hgdef]
  exact gV next _ i _ (by rw[List.getElem?_take,if_pos hi];exact hr)
 have hg2:∀ i,k≤i→g i=next+(i - k):=fun i hi=>by rw[hgdef,iU next _ i (by omega),htl]
 have hginj:∀ i j,g i=g j→i=j:=fun i j hij=>by
  rw[hgdef] at hij
  exact GK (hnd.sublist (List.take_sublist _ _)) (fun r hr=>hlt r (List.mem_of_mem_take hr)) hij
 have hso:gSo next (rs.take k)=fun r=>some (g r):=by rw[hgdef];rfl
 rw[hso,← hgdef]
 let κ':Kap:=⟨κ1'.w,fun r=>if r<next then κ.nm r else κ1'.nm (k+(r - next)),κ1'.imm⟩
 have hnmk:∀ i,i<k→κ1'.nm i=κ1.nm i:=by
  intro i hi
  have hib:i<bs.length:=by omega
  have hb:=List.getElem?_eq_getElem hib
  obtain⟨d,hd⟩:=(hB1 i _ hb).named (hne _ (List.mem_take_iff_getElem.2 ⟨i,by omega,rfl⟩))
  rw[hd]
  exact he.nm i d (by simp only[Kap.cut];rw[if_pos hi];exact hd)
 have hnm':∀ i,κ'.nm (g i)=κ1'.nm i:=by
  intro i
  by_cases hi:i<k
  ·obtain⟨r,hr,hgr,hrn⟩:=hg1 i hi
   show (if g i<next then κ.nm (g i) else κ1'.nm (k+(g i - next)))=_
   rw[hgr,if_pos hrn,hnmk i hi]
   show κ.nm r=κ.nm (gIn next rs i)
   rw[gV next rs i r hr]
  ·show (if g i<next then κ.nm (g i) else κ1'.nm (k+(g i - next)))=_
   rw[hg2 i (by omega),if_neg (by omega)]
   congr 1;omega
 have hext:Ext κ κ':=⟨fun b o hi=>he.imm b o hi,fun b o v hi hc=>he.cell b o v hi hc,fun r d hd=>by
  have hr:r<next:=by
   rcases Nat.lt_or_ge r next with h | h
   ·exact h
   ·rw[hf r h] at hd;cases hd
  show (if r<next then κ.nm r else _)=_
  rw[if_pos hr];exact hd,fun b o ho hc=>he.obj b o ho hc⟩
 have hout:∀ r d b,lookB r sto≠.none→r∉rs→κ.nm r=some d→d.block=some b→b<κ.w.heap.size∧¬ (bp κ1 (fun r=>lookB r (bB bs 0)) G).lent b:=by
  intro r d b h1 h2 h3 h4
  refine⟨(hS.blk r).lt h1 h3 h4,?_⟩
  rintro⟨i,d',q1,q2,q3⟩
  simp only[congrFun hσ1 i] at q1
  obtain⟨b',hb,hbn⟩:=hlive i q1
  obtain⟨r',hr',hgr,_,hn⟩:=hlook i b' hb
  refine hS.apart r r' d d' b h1 (hn hbn) (fun e=>h2 (e▸List.mem_of_getElem? hr')) h3 (by rw[← hgr];exact q2) h4 q3
 have hmem:∀ r,r∈rs→(∃ i,i<bs'.length∧g i=r)∨r∈rs.drop k:=by
  intro r hr
  obtain⟨i,hi⟩:=List.getElem?_of_mem hr
  by_cases hik:i<k
  ·obtain⟨r',hr',hgr,_⟩:=hg1 i hik
   rw[hi] at hr';cases hr'
   exact .inl ⟨i,by omega,hgr⟩
  ·refine .inr (List.mem_of_getElem? (i:=i - k) ?_)
   rw[List.getElem?_drop,show k+(i - k)=i by omega];exact hi
 have hσ':∀ r,(∃ i b,bs'[i]? = some b∧g i=r∧lookB r (qY (fun r=>some (g r)) bs' 0 g++(fi (rs.drop k)++sto))=b.ren (fun r=>some (g r))) ∨
   lookB r (qY (fun r=>some (g r)) bs' 0 g++(fi (rs.drop k)++sto)) = .none∨(r∉rs∧(∀ i,i<bs'.length→g i≠r)∧lookB r (qY (fun r=>some (g r)) bs' 0 g++(fi (rs.drop k)++sto))=lookB r sto):=by
  intro r
  obtain⟨q1,q2⟩:=lp (f:=fun r=>some (g r)) hginj (fi (rs.drop k)++sto) r bs' 0
  by_cases hi:∃ i,i<bs'.length∧g i=r
  ·obtain⟨i,hi,hgi⟩:=hi
   exact .inl ⟨i,bs'[i],List.getElem?_eq_getElem hi,hgi,q1 i _ (List.getElem?_eq_getElem hi) (by rw[Nat.zero_add];exact hgi)⟩
  ·have hni:∀ i,i<bs'.length→g i≠r:=fun i h1 h2=>hi ⟨i,h1,h2⟩
   have e:=q2 (fun i h1=>by rw[Nat.zero_add];exact hni i h1)
   rw[iR] at e
   by_cases hr:r∈rs.drop k
   ·rw[if_pos hr] at e;exact .inr (.inl e)
   ·rw[if_neg hr] at e
    exact .inr (.inr ⟨fun h=>(hmem r h).elim hi hr,hni,e⟩)
 have hlive':∀ i b,bs'[i]? = some b→b.ren (fun r=>some (g r))≠.none→lookB i (bB bs' 0)≠.none:=by
  intro i b hb hbn
  have e2:lookB i (bB bs' 0)=bs'.getD i .none:=congrFun (ep bs') i
  rw[e2,List.getD_eq_getElem?_getD,hb]
  exact Blk.ren_ne.1 hbn
 refine⟨u,_,κ',_,_,rfl,rfl,hext,⟨hL.os,hL.tape,hL.output,hL.size,fun b hb hl=>hL.block b hb fun h=>hl (hl1 b h),fun b o hi=>(hL.imm b o hi).imp id (hm1 b)⟩,
  mG (κ:=κ1') (κ':=κ') rfl rfl (fun r r' hr=>by cases hr;exact hnm' r) v' u hv,?_,fun r hr=>?_,rfl,rfl,rfl⟩
 ·refine⟨fun r=>?_,fun r r' d d' b h1 h2 hrr hd hd' hb=>?_,fun r d b h1 hd hb=>?_,hS'.immLt,?_⟩
  ·show dn κ' r (lookB r _)
   rcases hσ' r with ⟨i,b,hb,hgi,e⟩ | e | ⟨hr,hni,e⟩
   ·rw[e,← hgi]
    refine dn.ren (κ:=κ1') (κ':=κ') rfl rfl hnm' ?_
    have:=hS'.blk i
    have e2:lookB i (bB bs' 0)=bs'.getD i .none:=congrFun (ep bs') i
    simp only[e2,List.getD_eq_getElem?_getD,hb] at this
    exact this
   ·rw[e];trivial
   ·rw[e]
    refine (hS.blk r).keep hext fun hbn d b hd hb=>?_
    obtain⟨q1,q2⟩:=hout r d b hbn hr hd hb
    refine⟨hL.block b q1 q2,fun o ho=>?_⟩
    rcases hL.imm b o ho with h | h | h
    ·exact h
    ·exact absurd q1 (Nat.not_lt.2 h)
    ·exact absurd h q2
  ·have cal:∀ r i b0 d,bs'[i]? = some b0→g i=r→b0.ren (fun r=>some (g r))≠.none→κ'.nm r=some d→lookB i (bB bs' 0)≠.none∧κ1'.nm i=some d:=by
    intro r i b0 d hb0 hgi hbn hd
    exact⟨hlive' i b0 hb0 hbn,by rw[← hnm' i,hgi];exact hd⟩
   have own:∀ r d,r∉rs→lookB r sto≠.none→κ'.nm r=some d→κ.nm r=some d:=by
    intro r d hr hbn hd
    obtain⟨d',hd'⟩:=(hS.blk r).named hbn
    have:=hext.nm r d' hd'
    rw[this] at hd;cases hd;exact hd'
   have mix:∀ r i b0 d d' b,bs'[i]? = some b0→b0.ren (fun r=>some (g r))≠.none→κ1'.nm i=some d→d.block=some b→lookB i (bB bs' 0)≠.none→r∉rs→lookB r sto≠.none→κ.nm r=some d'→d'.block≠some b:=by
    intro r i b0 d d' b hb0 hbn hd hdb hl hr hrl hd' hdb'
    obtain⟨q1,q2⟩:=hout r d' b hrl hr hd' hdb'
    rcases hS'.mine i d b hl hd hdb with h | h
    ·exact absurd q1 (Nat.not_lt.2 h)
    ·exact q2 h
   rcases hσ' r with ⟨i,b1,hb1,hgi,e⟩ | e | ⟨hr,hni,e⟩
   ·have h1':b1.ren (fun r=>some (g r))≠.none:=by
     intro h0;exact h1 (e.trans h0)
    obtain⟨p1,p2⟩:=cal r i b1 d hb1 hgi h1' hd
    rcases hσ' r' with ⟨j,b2,hb2,hgj,e'⟩ | e' | ⟨hr',hni',e'⟩
    ·have h2':b2.ren (fun r=>some (g r))≠.none:=by
      intro h0;exact h2 (e'.trans h0)
     obtain⟨p3,p4⟩:=cal r' j b2 d' hb2 hgj h2' hd'
     exact hS'.apart i j d d' b p1 p3 (fun hij=>hrr (by rw[← hgi,← hgj,hij])) p2 p4 hb
    ·exact absurd e' h2
    ·have h2':lookB r' sto≠.none:=by intro h0;exact h2 (e'.trans h0)
     exact mix r' i b1 d d' b hb1 h1' p2 hb p1 hr' h2' (own r' d' hr' h2' hd')
   ·exact absurd e h1
   ·have h1':lookB r sto≠.none:=by intro h0;exact h1 (e.trans h0)
    have hd0:=own r d hr h1' hd
    rcases hσ' r' with ⟨j,b2,hb2,hgj,e'⟩ | e' | ⟨hr',hni',e'⟩
    ·have h2':b2.ren (fun r=>some (g r))≠.none:=by
      intro h0;exact h2 (e'.trans h0)
     obtain⟨p3,p4⟩:=cal r' j b2 d' hb2 hgj h2' hd'
     intro hb'
     exact mix r j b2 d' d b hb2 h2' p4 hb' p3 hr h1' hd0 hb
    ·exact absurd e' h2
    ·have h2':lookB r' sto≠.none:=by intro h0;exact h2 (e'.trans h0)
     exact hS.apart r r' d d' b h1' h2' hrr hd0 (own r' d' hr' h2' hd') hb
  ·rcases hσ' r with ⟨i,b1,hb1,hgi,e⟩ | e | ⟨hr,hni,e⟩
   ·have h1':b1.ren (fun r=>some (g r))≠.none:=by
     intro h0;exact h1 (e.trans h0)
    refine hm1 b (hS'.mine i d b (hlive' i b1 hb1 h1') (by rw[← hnm' i,hgi];exact hd) hb)
   ·exact absurd e h1
   ·have h1':lookB r sto≠.none:=by intro h0;exact h1 (e.trans h0)
    obtain⟨d',hd'⟩:=(hS.blk r).named h1'
    have:=hext.nm r d' hd'
    rw[this] at hd;cases hd
    exact .inr ⟨r,d,h1',hd',hb⟩
  ·refine⟨hS'.glob.1,fun g' hg'=>?_⟩
   obtain⟨h1,h2,cs,T,fz,h3,h4⟩:=hS.glob.2 g' hg'
   exact⟨h1,h2,cs,T,fz,(hL.block g' h1 fun h=>h2 (hl1 g' h)).trans h3,h4⟩
 ·show (if r<next then κ.nm r else κ1'.nm (k+(r - next)))=none
  rw[if_neg (by omega)]
  exact hf' _ (by omega)
def D4 (k:Nat)(rs:List Nat)(bs bs':List Blk)(next:Nat):Bool:=
 decide (k≤bs.length)&&decide (k≤bs'.length)&&(bs.take k).all (fun b=>match b with | .none=>false | _=>true)&&rs.all (fun r=>decide (r<next))&&decide rs.Nodup
theorem ae.lentK {k f:Nat}{args0:List AV}{bs:List Blk}{v:AV}{bs':List Blk}(h:cq P G k f args0 bs v bs')(rs:List Nat){args:List AV}{env:List (Nat×AV)}{sto:List (Nat×Blk)}{next:Nat}{K:AV→St→Prop}
  (hok:D4 k rs bs bs' next=true) (hargs:AVzL args (AV.renL (gSo next rs) args0)) (hbs:eX sto (gSo next rs) rs bs)
  (hK:K (v.ren (gSo next (rs.take k))) ⟨env,qY (gSo next (rs.take k)) bs' 0 (gIn next (rs.take k))++(fi (rs.drop k)++sto),next+(bs'.length - k)⟩):ae P G f args ⟨env,sto,next⟩ K:=by
 simp only[D4,Bool.and_eq_true,decide_eq_true_eq,List.all_eq_true] at hok
 obtain⟨⟨⟨⟨h1,h2⟩,h3⟩,h4⟩,h5⟩:=hok
 refine ae.lent (h.frame hargs hbs h5 h4 h1 h2 (fun b hb e=>?_)) ?_
 ·have:=h3 b hb
  subst e;cases this
 ·rintro v' sto' next' ⟨rfl,rfl,rfl⟩
  exact hK
theorem ae.weak {f:Nat}{args args':List AV}{s s':St}{K:AV→St→Prop}(hw:WkC s args s' args')(h:ae P G f args' s' K):ae P G f args s K:=by
 obtain⟨s2,args2,hw2,h2⟩:=h
 refine⟨s2,args2,⟨hw2.1.trans hw.1,hw2.2.1.trans hw.2.1,fun c κ0 κ N a w vals hR hv=>?_⟩,?_⟩
 ·obtain⟨κ1,h3,h4⟩:=hw.2.2 c κ0 κ N a w vals hR hv
  exact hw2.2.2 c κ0 κ1 N a w vals h3 h4
 ·rcases h2 with ⟨ps,r,k1,k2,k3⟩ | ⟨Q,k1,k2⟩
  ·exact .inl ⟨ps,r,k1,k2,k3⟩
  ·refine .inr ⟨Q,k1,fun v sto' next' hq=>?_⟩
   have:=k2 v sto' next' hq
   rw[hw.2.1] at this
   exact this
end
end Go.Ab
namespace Go.Ab
open Go
theorem xQ (k:Nat):bB [] k=[]:=_root_.id rfl
theorem rZ (b:Blk)(r:List Blk)(k:Nat):bB (b::r) k=(k,b)::bB r (k+1):=_root_.id rfl
theorem rH (sto:List (Nat×Blk))(f:Nat→Option Nat):eX sto f [] []=True:=_root_.id rfl
theorem nI (sto:List (Nat×Blk))(f:Nat→Option Nat)(r:Nat)(rs:List Nat)(b:Blk)(bs:List Blk):eX sto f (r::rs) (b::bs)=(BlkZ (lookB r sto) (b.ren f)∧eX sto f rs bs):=_root_.id rfl
theorem BD (f:Nat→Option Nat)(i:Nat)(g:Nat→Nat):qY f [] i g=[]:=_root_.id rfl
theorem vQ (f:Nat→Option Nat)(b:Blk)(r:List Blk)(i:Nat)(g:Nat→Nat):qY f (b::r) i g=(g i,b.ren f)::qY f r (i+1) g:=_root_.id rfl
theorem wa:fi []=[]:=_root_.id rfl
theorem rc (r:Nat)(q:List Nat):fi (r::q)=(r,.none)::fi q:=_root_.id rfl
theorem JW (next:Nat)(rs:List Nat)(r:Nat):gSo next rs r=some (gIn next rs r):=_root_.id rfl
theorem GJ (next i:Nat):gIn next [] i=next+i:=_root_.id rfl
theorem ML (next r:Nat)(q:List Nat):gIn next (r::q) 0=r:=_root_.id rfl
theorem MK (next r i:Nat)(q:List Nat):gIn next (r::q) (i+1)=gIn next q i:=_root_.id rfl
def lJ (s sz off len:Nat):Blk→Option (List PV)
 | .cells _ _ l=>if s=1∧sz=1∧off+len≤l.length∧((l.drop off).take len).all AV.one=true then pvs ((l.drop off).take len) else none
 | _=>none
theorem nT (σ:aq)(sz r s off len:Nat):aN σ sz (.row r s off len)=lJ s sz off len (σ r):=by
 simp only[aN,lJ]
 cases σ r<;>rfl
theorem ij (k:IntKind)(l:List Int):(l.map (PV.int k)).all PV.one=true:=by
 rw[List.all_eq_true];intro x hx;obtain⟨n,_,rfl⟩:=List.mem_map.1 hx;rfl
theorem xS {T:Nat}{f:Bool}{l:List PV}{n:Nat}(h:n≤l.length)(h1:l.all PV.one=true):lJ 1 1 0 n (.cells T f (l.map .pv))=some (l.take n):=by
 have h2:(((l.map AV.pv).drop 0).take n)=(l.take n).map .pv:=by rw[List.drop_zero,List.map_take]
 have h3:((l.take n).map AV.pv).all AV.one=true:=by
  rw[List.all_eq_true] at h1 ⊢
  intro x hx
  obtain⟨y,hy,rfl⟩:=List.mem_map.1 hx
  exact h1 y (List.mem_of_mem_take hy)
 have h4:∀ k:List PV,pvs (k.map .pv)=some k:=by
  intro k
  induction k with
  | nil=>rfl
  | cons a r ih=>simp[pvs,AV.toPV,ih]
 simp only[lJ]
 rw[if_pos (by refine⟨trivial,trivial,by simp;omega,by rw[h2];exact h3⟩),h2,h4]
theorem r8 {T:Nat}{f:Bool}{k:IntKind}{p:List Int}{n:Nat}(h:n=p.length):lJ 1 1 0 n (.cells T f ((p.map (PV.int k)).map .pv))=some (p.map (PV.int k)):=by
 rw[xS (by simp;omega) (ij k p),List.take_of_length_le (by simp;omega)]
theorem jt {sz r off n:Nat}{k:IntKind}{h:Int}(h0:0≤h)(h1:h≤n)(hs:0<sz):bN sz (.row r sz off n) none (some (.pv (.int k h)))=some (.row r sz off h.toNat):=by
 simp[bN,aM,h0,h1,hs]
theorem An (n:Nat):((n:Int)+1).toNat=n+1:=by omega
theorem Dt (n:Int):n+1 - 1=n:=by omega
def Iq:List Nat→List Nat→List Nat
 | [],a=>a
 | x::r,a=>Iq r (x::a)
theorem AO (a:List Nat):Iq [] a=a:=_root_.id rfl
theorem ku (x:Nat)(r a:List Nat):Iq (x::r) a=Iq r (x::a):=_root_.id rfl
theorem uB:∀ (l a:List Nat),l.reverse++a=Iq l a
 | [],a=>rfl
 | x::r,a=>by rw[ku,← uB r (x::a)];simp
theorem wP (l:List (Nat×Blk)):aJ l.reverse=Iq (aJ l) []:=by
 rw[← uB,List.append_nil];simp[aJ]
theorem AN (ks rs:List Nat):dt 2 ks rs=(0::ks.map (· + 1),rs.map (· + 1)):=by simp[dt]
theorem aL (A:List (Nat×Nat×Nat×Nat)){k:Nat}{v v':AV}{bs':List Blk}{sto':List (Nat×Blk)}{next':Nat}(h:StZ (cN A k [0] ⟨[(0,v')],sto',next'⟩) ⟨[(0,v)],bB bs' 0,bs'.length⟩):Gy k v bs' v' sto' next':=Wk.head h
theorem ae.nilB (r o e sz:Nat){P:Program}{G:Nat→List PV}{f:Nat}{args:List AV}{s:St}{K:AV→St→Prop}(he:(accB r o e sz s (lookB r s.sto)).env=s.env)(h:ae P G f args (accB r o e sz s (lookB r s.sto)) K):ae P G f args s K:=
 ae.weak (WkC.of (tv r o e sz s) he args) h
end Go.Ab
namespace Go.Ab
open Go Go.RowKit
section
variable {P:Program}{G:Nat→List PV}
theorem zw (F:St→Prop)(s:St):NN F .norm s=F s:=_root_.id rfl
theorem Da (b:ACode)(Q:AExit→St→Prop)(e:List (Nat×AV))(σ:List (Nat×Blk))(n:Nat):Hk (fun m=>vc P G m b) Q ⟨e,σ,n⟩=vc P G n b Q ⟨e,σ,n⟩:=_root_.id rfl
theorem Bs (e:List (Nat×AV)):Bt [] [] e=e:=_root_.id rfl
theorem vH (p:Nat)(ps:List Nat)(x:PV)(xs:List PV)(e:List (Nat×AV)):Bt (p::ps) (x::xs) e=Bt ps xs ((p,.pv x)::e):=_root_.id rfl
def LY {ι:Type}(A:List (Nat×Nat×Nat×Nat))(S:ι→St)(Inv:Nat→ι→Prop)(i m0:Nat)(keep:List Nat)(Q:AExit→St→Prop)(e0:List (Nat×AV)):AExit→St→Prop
 | .norm,s'=>∃ x',Hd A m0 keep ⟨e0,s'.sto,s'.next⟩ (S x')∧Inv (i+1) x'
 | .exit j,s'=>Q (.exit j) ⟨e0,s'.sto,s'.next⟩
 | .ret,s'=>Q .ret ⟨e0,s'.sto,s'.next⟩
theorem zf {ι:Type}(A:List (Nat×Nat×Nat×Nat))(S:ι→St)(Inv:Nat→ι→Prop)(i m0:Nat)(keep:List Nat)(Q:AExit→St→Prop)(e0 e:List (Nat×AV))(σ:List (Nat×Blk))(n:Nat):LY A S Inv i m0 keep Q e0 .norm ⟨e,σ,n⟩ = ∃ x',Hd A m0 keep ⟨e0,σ,n⟩ (S x')∧Inv (i+1) x':=_root_.id rfl
theorem zg {ι:Type}(A:List (Nat×Nat×Nat×Nat))(S:ι→St)(Inv:Nat→ι→Prop)(i m0:Nat)(keep:List Nat)(Q:AExit→St→Prop)(e0:List (Nat×AV))(j:Nat)(e:List (Nat×AV))(σ:List (Nat×Blk))(n:Nat):LY A S Inv i m0 keep Q e0 (.exit j) ⟨e,σ,n⟩=Q (.exit j) ⟨e0,σ,n⟩:=_root_.id rfl
theorem DC {ι:Type}(A:List (Nat×Nat×Nat×Nat))(S:ι→St)(Inv:Nat→ι→Prop)(i m0:Nat)(keep:List Nat)(Q:AExit→St→Prop)(e0 e:List (Nat×AV))(σ:List (Nat×Blk))(n:Nat):LY A S Inv i m0 keep Q e0 .ret ⟨e,σ,n⟩=Q .ret ⟨e0,σ,n⟩:=_root_.id rfl
theorem JV:∀ (lb:List PV),pvs (lb.map AV.pv)=some lb
 | []=>rfl
 | p::r=>by simp[pvs,AV.toPV,JV r]
theorem DI {ι:Type}(A:List (Nat×Nat×Nat×Nat))(ch:ι→List (Nat×AV))(chB:ι→List (Nat×Blk))(Inv:Nat→ι→Prop)(x0:ι){gf:Nat}{lb:List PV}{xs:List (List PV)}(hs:Nc P G gf lb xs)
  {m0:Nat} {f:AX} {ps keep:List Nat} {a b:ACode} {Q:AExit→St→Prop} {s:St}
  (h:∀ e0 σ0 n0,cN A m0 keep s=⟨e0,σ0,n0⟩→StZ ⟨e0,σ0,n0⟩ ⟨ek e0 (ch x0),fg σ0 (chB x0),n0⟩∧Inv 0 x0∧bV (f.ev (fun i=>look i (ek e0 (ch x0))))=some (gf,[],lb.map AV.pv) ∧
   (∀ i x y,xs[i]? = some y→Inv i x→y.length=ps.length∧vc P G n0 a (NN (Hk (fun m=>vc P G m b) (LY A (fun x=>⟨ek e0 (ch x),fg σ0 (chB x),n0⟩) Inv i m0 keep Q (ek e0 (ch x))))) ⟨Bt ps y (ek e0 (ch x)),fg σ0 (chB x),n0⟩) ∧
   ∀ x,Inv xs.length x→Q .norm ⟨ek e0 (ch x),fg σ0 (chB x),n0⟩):vc P G m0 (.range f ps keep a b) Q s:=by
 obtain⟨h1,h2,h3,h4,h5⟩:=h (cN A m0 keep s).env (cN A m0 keep s).sto (cN A m0 keep s).next rfl
 let S:ι→St:=fun x=>⟨ek (cN A m0 keep s).env (ch x),fg (cN A m0 keep s).sto (chB x),(cN A m0 keep s).next⟩
 refine⟨fun i t=>∃ x,t=S x∧Inv i x,S x0,bH h1,⟨x0,rfl,h2⟩,?_⟩
 have e:bV (f.ev (S x0).E)=some (gf,[],lb.map AV.pv):=h3
 rw[e]
 refine⟨rfl,lb,xs,JV lb,hs,?_,?_⟩
 ·rintro i y t hy ⟨x,rfl,hx⟩
  obtain⟨k1,k2⟩:=h4 i x y hy hx
  refine⟨k1,bL a (fun e s hs=>?_) _ k2⟩
  cases e with
  | norm=>
    refine bL b (fun e s hs=>?_) s hs
    cases e with
    | norm=>
      obtain⟨x',q1,q2⟩:=hs
      exact⟨S x',q1,x',rfl,q2⟩
    | exit j=>exact hs
    | ret=>exact hs
  | exit j=>exact hs.elim
  | ret=>exact hs.elim
 ·rintro t ⟨x,rfl,hx⟩
  exact h5 x hx
end
end Go.Ab
namespace Go.Ab
open Go
attribute [push_cast] zU zW tz zO zP MT MU MV MW MX MY wB
 B8 rE wC MP MR MQ rB rC rD CM CN GY CP GX CL EX
 tQ p9 p6 p5 pZ mz pY my Ar tT tU tV
 mx mw Au Av FX FY Aq Ap p8 tX tY vA
 CS xK CT CR yS mA mT p7 At As pX FL
 FM qE mS mR u7 u9 F1 F2 kG qF mQ kD
 qD A5 uY uX qC A6 mU mV x7 yI mL Bm
 Bb Bf Bd Bc Bl FW Ba mW Bk Be Bg Bh
 Bi Bj vp vo vg vh vi vj vm vz Bq vv
 vu vw qJ Bp vq A2 uQ ve qG A0 uT uS
 uR A1 FS FT vX rp nt N6 N5 FZ vF vG
 qO oJ EV pT Ak Aj Am Ai Al Gp nq nr
 Gm ni nj Gn nk nl kY yq sJ sF sH sG
 lQ sI ag sE yo yj sx sB sy sA yp sD
 sC nH rF uW qB qA Gw Gv pO pN ry KG
 B5 sK wv Ce wM wI wK wJ nJ wL wq ru
 qI rx nD nE Gq FO qw kg Az ef Ac tM
 C0 C1 F9 BS BR BV BU BX BW C7 tG pR
 tD tE tC mm xY sf nU kL kM BN Br J8
 J9 xX AB AA AD AC Jd Jc Jb nw ld lc
 lh jy lj rr nB jz jA wp EL z7 tH sg
 nV lK G4 ww lk lm nF rz nG ln ll jC
 jB Gl B2 B1 rk wQ rL G5 se x9 su ya
 sw G8 G9 B4 JG BL zb zc DB ol om sY
 EH IE EJ G3 IC EK z6 EI ID BJ MG MH
 AP uD DD Hw FB Jg Jh Jf sq uC qr Bu
 JS wV wX GC GB w7 rN rM oe og sX vJ
 qP vO qV vK qR vP qW m7 Gc JD JA Gd
 JC JB Ge BK A3 A4 pU mr ke tP map_take map_drop
 vY qM KO Dl Dj Di Hn Dk sO r5 r6 r7
 nS M9 KE yG yH KD cK eo en BE cJ F7
 BH BG qZ BI kB ju m5 q7 q8 q0 Dp KP
 KK Gu Cb wY J0 J1 CC CE GM GN CD GP
 GQ CH CF xp xq GO BZ wh wg B0 wk we
 wi wj rh gM gL m9 kV ri nc Du yX Hp
 Hq GI oZ lS eV FK FJ lI jP Mv Je v8
 q9 Gg Gi Gh qt mH rg Cp xa DW FH FF
 FE Jp FI FD FG uG uF uH AU kx mI uI
 qu AW uJ BM Dv yY yZ za DA Gk Gj BP
 BO Ht Dy sU y9 Dz Hs N2 N1 Mf Kb Kc
 Kd Ke Kf Kg GV xE rV Bz oa ob sV Db
 KL Dc Dg yQ CV xP yJ KH KJ KI De yO
 yN Df yP Ay ub IK xQ rZ rH nI BD vQ
 wa rc JW GJ ML MK nT ij r8 jt An Dt
 AO ku wP AN Nat.zero_add Nat.add_zero List.length_cons List.length_nil List.nil_append List.cons_append List.append_nil List.append_assoc
 List.getElem?_map List.length_map List.map_nil List.map_cons List.take_succ_cons List.take_zero List.drop_succ_cons List.drop_zero List.take_nil List.drop_nil List.all_cons List.all_nil
 Bool.and_true Bool.true_and Bool.and_false Bool.false_and Bool.not_true Bool.not_false decide_true decide_false Bool.not_not Int.natCast_add Int.cast_ofNat_Int Int.toNat_natCast
 Option.some.injEq and_true true_and ge_iff_le Nat.le_refl Nat.zero_le Nat.not_lt_zero and_self
attribute [push_cast] zw Da Bs vH zf zg DC
attribute [push_cast high] Int.cast_ofNat_Int
end Go.Ab

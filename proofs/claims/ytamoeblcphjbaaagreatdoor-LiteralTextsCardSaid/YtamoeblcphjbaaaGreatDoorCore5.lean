/- A program logic over the model: part 5 (a proof is built on it; nothing of the statement is said here). -/
import Derived.Test.YtamoeblcphjbaaaGreatDoorCore4
set_option linter.unusedVariables false
set_option linter.unusedSimpArgs false
namespace Go.Ab
open Go Go.RowKit
theorem wZ {n:Int}(h1:-9223372036854775808≤n)(h2:n≤9223372036854775807):IntKind.i64.wrap n=n:=by
 show (if (true&&decide (n % 18446744073709551616≥9223372036854775808))=true then n % 18446744073709551616 - 18446744073709551616 else n % 18446744073709551616)=n
 simp only[Bool.true_and,decide_eq_true_eq]
 split<;>omega
theorem w6 {n:Int}(h1:-2147483648≤n)(h2:n≤2147483647):IntKind.i32.wrap n=n:=by
 show (if (true&&decide (n % 4294967296≥2147483648))=true then n % 4294967296 - 4294967296 else n % 4294967296)=n
 simp only[Bool.true_and,decide_eq_true_eq]
 split<;>omega
theorem B8 {n:Int}(h1:0≤n)(h2:n≤255):IntKind.u8.wrap n=n:=by
 show (if (false&&decide (n % 256≥128))=true then n % 256 - 256 else n % 256)=n
 simp only[Bool.false_and]
 simp;omega
theorem wX {n:Int}(h1:0≤n)(h2:n≤18446744073709551615):IntKind.u64.wrap n=n:=by
 show (if (false&&decide (n % 18446744073709551616≥9223372036854775808))=true then n % 18446744073709551616 - 18446744073709551616 else n % 18446744073709551616)=n
 simp only[Bool.false_and]
 simp;omega
theorem wY {n:Int}(h1:0≤n)(h2:n≤4294967295):IntKind.u32.wrap n=n:=by
 show (if (false&&decide (n % 4294967296≥2147483648))=true then n % 4294967296 - 4294967296 else n % 4294967296)=n
 simp only[Bool.false_and]
 simp;omega
theorem Ix {a b:Int}(h:a<b):decide (a<b)=true:=decide_eq_true h
theorem Iy {a b:Int}(h:¬ a<b):decide (a<b)=false:=decide_eq_false h
theorem Iz {a b:Int}(h:a≤b):decide (a≤b)=true:=decide_eq_true h
theorem IA {a b:Int}(h:¬ a≤b):decide (a≤b)=false:=decide_eq_false h
theorem IB {a b:Int}(h:a=b):decide (a=b)=true:=decide_eq_true h
theorem IC {a b:Int}(h:¬ a=b):decide (a=b)=false:=decide_eq_false h
def Chk (b:Bool):Prop:=b=true
theorem Ee:Chk true:=_root_.id rfl
theorem uJ (i k:Nat)(x:AV)(r:List (Nat×AV)):look i ((k,x)::r)=if k=i then x else look i r:=_root_.id rfl
theorem zJ (i:Nat):look i [] = .any:=_root_.id rfl
theorem pW (i k:Nat)(x:Blk)(r:List (Nat×Blk)):lookB i ((k,x)::r)=if k=i then x else lookB i r:=_root_.id rfl
theorem uK (i:Nat):lookB i [] = .none:=_root_.id rfl
def evE (e:List (Nat×AV)):AX→AV
 | .t i=>look i e
 | .c p=>.pv p
 | .m i tb=>EN tb (look i e)
theorem Iv (e:List (Nat×AV))(i:Nat)(tb:List (Nat×Nat)):evE e (.m i tb)=EN tb (look i e):=_root_.id rfl
theorem pT (tb:List (Nat×Nat))(T:Nat)(p:PV):EN tb (.pv (.iface T p))=uH p (f8 T tb):=_root_.id rfl
theorem pV (t a b:Nat)(r:List (Nat×Nat)):f8 t ((a,b)::r)=if a=t then some b else f8 t r:=_root_.id rfl
theorem pU (p:PV)(f:Nat):uH p (some f) = .clo f [.pv p] []:=_root_.id rfl
theorem Iu (e:List (Nat×AV))(i:Nat):evE e (.t i)=look i e:=_root_.id rfl
theorem Iw (e:List (Nat×AV))(p:PV):evE e (.c p) = .pv p:=_root_.id rfl
def evO (e:List (Nat×AV)):Option AX→Option AV
 | some x=>some (evE e x)
 | none=>none
theorem Ao (e:List (Nat×AV))(x:AX):evO e (some x)=some (evE e x):=_root_.id rfl
theorem Ap (e:List (Nat×AV)):evO e none=none:=_root_.id rfl
def evL (e:List (Nat×AV)):List AX→List AV
 | []=>[]
 | x::r=>evE e x::evL e r
theorem D5 (e:List (Nat×AV)):evL e []=[]:=_root_.id rfl
theorem Ar (e:List (Nat×AV))(x:AX)(r:List AX):evL e (x::r)=evE e x::evL e r:=_root_.id rfl
theorem fj (e:List (Nat×AV))(σ:List (Nat×Blk))(n:Nat)(x:AX):x.ev (St.E ⟨e,σ,n⟩)=evE e x:=by cases x<;>rfl
theorem vD (e:List (Nat×AV))(σ:List (Nat×Blk))(n:Nat):∀ (l:List AX),l.map (·.ev (St.E ⟨e,σ,n⟩))=evL e l
 | []=>rfl
 | x::r=>by rw[List.map_cons,vD e σ n r,fj];rfl
def evP (e:List (Nat×AV)):List (Nat×Nat×AX)→List (Nat×Nat×AV)
 | []=>[]
 | (a,b,x)::r=>(a,b,evE e x)::evP e r
theorem D4 (e:List (Nat×AV)):evP e []=[]:=_root_.id rfl
theorem An (e:List (Nat×AV))(a b:Nat)(x:AX)(r:List (Nat×Nat×AX)):evP e ((a,b,x)::r)=(a,b,evE e x)::evP e r:=_root_.id rfl
def dC (e:List (Nat×AV)):TOp→Option AV
 | .mv x=>some (evE e x)
 | .pick c a b=>lE (evE e c) (evE e a) (evE e b)
 | .build zs ps=>(dV (zs.map .pv) (evP e ps)).map fh
 | .faddr off x=>e8 off (evE e x)
 | .field g sz off x=>fR g sz off (evE e x)
 | .iaddr sz x i=>ed sz (evE e x) (evE e i)
 | .iaddrA n sz x i=>eK n sz (evE e x) (evE e i)
 | .index x i=>ec (evE e x) (evE e i)
 | .indexA g n sz x i=>dP g n sz (evE e x) (evE e i)
 | .len st x=>wL st (evE e x)
 | .lenC n=>some (.pv (.int .i64 n))
 | .imin x y=>C6 (evE e x) (evE e y)
 | .imax x y=>C7 (evE e x) (evE e y)
 | .sliceL sz x lo hi=>bJ sz (evE e x) (evO e lo) (evO e hi)
 | .sliceS x lo hi=>dO (evE e x) (evO e lo) (evO e hi)
 | .bin op x y=>bV op (evE e x) (evE e y)
 | .beq kd ng x y=>(lQ kd (evE e x) (evE e y)).map fun b=>.pv (.bool (if ng then !b else b))
 | .neg x=>EM (evE e x)
 | .not x=>EL (evE e x)
 | .compl x=>jJ (evE e x)
 | .conv k x=>o9 k (evE e x)
 | .convS x=>gU (evE e x)
 | .convIS x=>eL (evE e x)
 | .beqS ng ks x y=>(lP ks (evE e x) (evE e y)).map fun b=>.pv (.bool (if ng then !b else b))
 | .clo f fs cs=>some (mf f (evL e fs) (evL e cs))
 | .ext x i=>Da i (evE e x)
 | .nilck x=>wK (evE e x)
theorem Aq (e:List (Nat×AV)):∀ (l:List AX),l.map (fun x=>evE e x)=evL e l
 | []=>rfl
 | x::r=>by rw[List.map_cons,Aq e r];rfl
theorem F9 (e:List (Nat×AV))(l:Option AX):l.map (fun x=>evE e x)=evO e l:=by cases l<;>rfl
theorem F8 (e:List (Nat×AV)):∀ (l:List (Nat×Nat×AX)),(l.map fun p=>(p.1,p.2.1,evE e p.2.2))=evP e l
 | []=>rfl
 | (a,b,x)::r=>by rw[List.map_cons,F8 e r];rfl
theorem r8 (e:List (Nat×AV))(σ:List (Nat×Blk))(n:Nat)(o:TOp):o.run (St.E ⟨e,σ,n⟩)=dC e o:=by
 cases o<;>simp only[TOp.run,dC,fj,Aq,F9,F8]
theorem Cl (e:List (Nat×AV))(x:AX):dC e (.mv x)=some (evE e x):=_root_.id rfl
theorem r4 (e:List (Nat×AV))(c a b:AX):dC e (.pick c a b)=lE (evE e c) (evE e a) (evE e b):=_root_.id rfl
theorem oK (e:List (Nat×AV))(zs:List PV)(ps:List (Nat×Nat×AX)):dC e (.build zs ps)=(dV (zs.map .pv) (evP e ps)).map fh:=_root_.id rfl
theorem oH (e:List (Nat×AV))(off:Nat)(x:AX):dC e (.faddr off x)=e8 off (evE e x):=_root_.id rfl
theorem oG (e:List (Nat×AV))(g:Bool)(sz off:Nat)(x:AX):dC e (.field g sz off x)=fR g sz off (evE e x):=_root_.id rfl
theorem oF (e:List (Nat×AV))(sz:Nat)(x i:AX):dC e (.iaddr sz x i)=ed sz (evE e x) (evE e i):=_root_.id rfl
theorem ll (e:List (Nat×AV))(n sz:Nat)(x i:AX):dC e (.iaddrA n sz x i)=eK n sz (evE e x) (evE e i):=_root_.id rfl
theorem oE (e:List (Nat×AV))(x i:AX):dC e (.index x i)=ec (evE e x) (evE e i):=_root_.id rfl
theorem lk (e:List (Nat×AV))(g:Bool)(n sz:Nat)(x i:AX):dC e (.indexA g n sz x i)=dP g n sz (evE e x) (evE e i):=_root_.id rfl
theorem xU (e:List (Nat×AV))(st:Bool)(x:AX):dC e (.len st x)=wL st (evE e x):=_root_.id rfl
theorem r5 (e:List (Nat×AV))(n:Nat):dC e (.lenC n)=some (.pv (.int .i64 n)):=_root_.id rfl
theorem r6 (e:List (Nat×AV))(x y:AX):dC e (.imin x y)=C6 (evE e x) (evE e y):=_root_.id rfl
theorem r7 (e:List (Nat×AV))(x y:AX):dC e (.imax x y)=C7 (evE e x) (evE e y):=_root_.id rfl
theorem lj (e:List (Nat×AV))(sz:Nat)(x:AX)(lo hi:Option AX):dC e (.sliceL sz x lo hi)=bJ sz (evE e x) (evO e lo) (evO e hi):=_root_.id rfl
theorem lh (e:List (Nat×AV))(x:AX)(lo hi:Option AX):dC e (.sliceS x lo hi)=dO (evE e x) (evO e lo) (evO e hi):=_root_.id rfl
theorem xX (e:List (Nat×AV))(op:BinOp)(x y:AX):dC e (.bin op x y)=bV op (evE e x) (evE e y):=_root_.id rfl
def tK (ng:Bool):Option Bool→Option AV
 | some b=>some (.pv (.bool (if ng then !b else b)))
 | none=>none
theorem xY (e:List (Nat×AV))(kd:Nat)(ng:Bool)(x y:AX):dC e (.beq kd ng x y)=tK ng (lQ kd (evE e x) (evE e y)):=by
 simp only[dC];cases lQ kd (evE e x) (evE e y)<;>rfl
theorem Dd (b:Bool):tK true (some b)=some (.pv (.bool (!b))):=_root_.id rfl
theorem De (b:Bool):tK false (some b)=some (.pv (.bool b)):=_root_.id rfl
theorem xT (e:List (Nat×AV))(x:AX):dC e (.neg x)=EM (evE e x):=_root_.id rfl
theorem xS (e:List (Nat×AV))(x:AX):dC e (.not x)=EL (evE e x):=_root_.id rfl
theorem oJ (e:List (Nat×AV))(x:AX):dC e (.compl x)=jJ (evE e x):=_root_.id rfl
theorem r9 (e:List (Nat×AV))(k:IntKind)(x:AX):dC e (.conv k x)=o9 k (evE e x):=_root_.id rfl
theorem sd (e:List (Nat×AV))(ng:Bool)(ks:List Nat)(x y:AX):dC e (.beqS ng ks x y)=tK ng (lP ks (evE e x) (evE e y)):=by
 simp only[dC];cases lP ks (evE e x) (evE e y)<;>rfl
theorem tJ (ks:List Nat)(ps qs:List PV):lP ks (.pv (.agg ps)) (.pv (.agg qs))=kq ks ps qs:=_root_.id rfl
theorem Av:kq [] [] []=some true:=_root_.id rfl
theorem vE (l:List Nat)(a b:Bool)(r s:List PV):kq (0::l) (.bool a::r) (.bool b::s)=BX (some (a == b)) (kq l r s):=_root_.id rfl
theorem Aw (l:List Nat)(k:IntKind)(a b:Int)(r s:List PV):kq (1::l) (.int k a::r) (.int k b::s)=BX (some (decide (a=b))) (kq l r s):=by
 simp only[kq,EP,if_true];congr 2
theorem Au (l:List Nat)(a b:List UInt8)(r s:List PV):kq (2::l) (.str a::r) (.str b::s)=BX (some (a == b)) (kq l r s):=_root_.id rfl
theorem ws (a b:Bool):BX (some a) (some b)=some (a&&b):=_root_.id rfl
theorem lm (e:List (Nat×AV))(x:AX):dC e (.convIS x)=eL (evE e x):=_root_.id rfl
theorem lL (k:IntKind)(n:Int):eL (.pv (.int k n))=some (.pv (.str (Utf8.encode n).data.toList)):=_root_.id rfl
theorem oI (e:List (Nat×AV))(x:AX):dC e (.convS x)=gU (evE e x):=_root_.id rfl
theorem xW (e:List (Nat×AV))(f:Nat)(fs cs:List AX):dC e (.clo f fs cs)=some (mf f (evL e fs) (evL e cs)):=_root_.id rfl
theorem xV (e:List (Nat×AV))(x:AX)(i:Nat):dC e (.ext x i)=Da i (evE e x):=_root_.id rfl
theorem oD (e:List (Nat×AV))(x:AX):dC e (.nilck x)=wK (evE e x):=_root_.id rfl
theorem C2 (x y:AV):lE (.pv (.bool true)) x y=some x:=_root_.id rfl
theorem C3 (x y:AV):lE (.pv (.bool false)) x y=some y:=_root_.id rfl
theorem o6 (off r o:Nat):e8 off (.ptr r o)=some (.ptr r (o+off)):=_root_.id rfl
theorem lK (off:Nat)(l:List PV)(i o:Nat):e8 off (.pv (.eptr l i o))=some (.pv (.eptr l i (o+off))):=_root_.id rfl
theorem lJ (off g o:Nat):e8 off (.pv (.gptr g o))=some (.pv (.gptr g (o+off))):=_root_.id rfl
theorem tq (g:Bool)(sz off:Nat)(ps:List PV):fR g sz off (.pv (.agg ps))=bL g sz off (ps.map .pv):=_root_.id rfl
theorem tr (g:Bool)(sz off:Nat)(ps:List AV):fR g sz off (.agg ps)=bL g sz off ps:=_root_.id rfl
def Fy (sz off:Nat)(cs:List AV):Option AV:=if off+sz≤cs.length then some (fh ((cs.drop off).take sz)) else none
theorem Dh (sz off:Nat)(cs:List AV):bL true sz off cs=Fy sz off cs:=_root_.id rfl
theorem Di (sz off:Nat)(cs:List AV):bL false sz off cs=cs[off]?:=_root_.id rfl
def jO (sz:Nat)(l:List PV)(i:Nat):Option PV→Option AV
 | some y=>if y.cells.length=sz then some (.pv (.eptr l i 0)) else none
 | none=>none
theorem jH (sz:Nat)(l:List PV)(i:Nat):gH sz l (i:Int)=jO sz l i l[i]?:=by
 unfold gH jO
 rw[if_pos (by omega)]
 simp only[Int.toNat_natCast]
 cases l[i]? <;> rfl
theorem du (sz:Nat)(l:List PV):gH sz l 0=jO sz l 0 l[0]?:=_root_.id rfl
theorem o7 (sz:Nat)(l:List PV)(i:Nat):gH sz l ((i:Int)+1)=jO sz l (i+1) l[i+1]?:=jH sz l (i+1)
theorem lI (sz:Nat)(l:List PV)(k:IntKind)(n:Int):ed sz (.pv (.list l)) (.pv (.int k n))=gH sz l n:=_root_.id rfl
theorem jF (sz r s:Nat)(l:List PV)(k:IntKind)(n:Int):ed sz (.olist r s l) (.pv (.int k n))=gH sz l n:=_root_.id rfl
theorem oZ (sz r off len:Nat)(k:IntKind){n:Int}(h:0≤n)(h':n.toNat<len):ed sz (.row r sz off len) (.pv (.int k n))=some (.ptr r (off+n.toNat*sz)):=by
 simp[ed,h,h']
theorem yr (l:List UInt8):wL true (.pv (.str l))=some (.pv (.int .i64 l.length)):=_root_.id rfl
theorem tk (l:List PV):wL false (.pv (.list l))=some (.pv (.int .i64 l.length)):=_root_.id rfl
theorem tj:wL false (.pv .nils)=some (.pv (.int .i64 0)):=_root_.id rfl
theorem oY (r s:Nat)(l:List PV):wL false (.olist r s l)=some (.pv (.int .i64 l.length)):=_root_.id rfl
theorem yu (r s o n:Nat):wL false (.row r s o n)=some (.pv (.int .i64 n)):=_root_.id rfl
theorem lM {d top:Nat}{k:IntKind}{n:Int}(h0:0≤n)(h1:n≤top):aM d top (some (.pv (.int k n)))=some n.toNat:=by
 simp[aM,h0,h1]
theorem lN {d top:Nat}:aM d top none=some d:=_root_.id rfl
def ID {α:Type}(l:List α)(f:List α→AV):Option Nat→Option Nat→Option AV
 | some h,some a=>some (f ((l.take h).drop a))
 | _,_=>none
theorem vS {α:Type}(l:List α)(f:List α→AV)(h a:Nat):ID l f (some h) (some a)=some (f ((l.take h).drop a)):=_root_.id rfl
def IM (l:Nat)(lo:Option AV):Option Nat→Option Nat
 | some h=>aM 0 h lo
 | none=>none
theorem wj (l:Nat)(lo:Option AV)(h:Nat):IM l lo (some h)=aM 0 h lo:=_root_.id rfl
theorem lD (l:List UInt8)(lo hi:Option AV):dO (.pv (.str l)) lo hi=ID l (fun x=>.pv (.str x)) (aM l.length l.length hi) (IM l.length lo (aM l.length l.length hi)):=by
 unfold dO ID IM
 simp only
 split<;>rename_i h
 ·rw[h];simp only;cases aM 0 _ lo<;>rfl
 ·rw[h]
theorem yP (k:IntKind)(a b:Int):bV .add (.pv (.int k a)) (.pv (.int k b))=some (.pv (.int k (k.wrap (a+b)))):=by simp[bV,je]
theorem yz (k:IntKind)(a b:Int):bV .sub (.pv (.int k a)) (.pv (.int k b))=some (.pv (.int k (k.wrap (a - b)))):=by simp[bV,je]
theorem yG (k:IntKind)(a b:Int):bV .mul (.pv (.int k a)) (.pv (.int k b))=some (.pv (.int k (k.wrap (a*b)))):=by simp[bV,je]
theorem yE {k:IntKind}{a b:Int}(h:¬ b=0):bV .quo (.pv (.int k a)) (.pv (.int k b))=some (.pv (.int k (k.wrap (a.tdiv b)))):=by simp[bV,je,h]
theorem yD {k:IntKind}{a b:Int}(h:¬ b=0):bV .rem (.pv (.int k a)) (.pv (.int k b))=some (.pv (.int k (a.tmod b))):=by simp[bV,je,h]
theorem yO (k:IntKind)(a b:Int):bV .and (.pv (.int k a)) (.pv (.int k b))=some (.pv (.int k (bits .and k a b))):=by simp[bV,je]
theorem Dc (k:IntKind)(a b:Int):bV .or (.pv (.int k a)) (.pv (.int k b))=some (.pv (.int k (bits .or k a b))):=by simp[bV,je]
theorem yy (k:IntKind)(a b:Int):bV .xor (.pv (.int k a)) (.pv (.int k b))=some (.pv (.int k (bits .xor k a b))):=by simp[bV,je]
theorem lO (k:IntKind)(a b:Int):bV .andNot (.pv (.int k a)) (.pv (.int k b))=some (.pv (.int k (bits .andNot k a b))):=by simp[bV,je]
theorem yN (k:IntKind)(a b:Int):bV .eql (.pv (.int k a)) (.pv (.int k b))=some (.pv (.bool (decide (a=b)))):=by simp[bV,je];rfl
theorem yF (k:IntKind)(a b:Int):bV .neq (.pv (.int k a)) (.pv (.int k b))=some (.pv (.bool (!decide (a=b)))):=by simp[bV,je];rfl
theorem yH (k:IntKind)(a b:Int):bV .lss (.pv (.int k a)) (.pv (.int k b))=some (.pv (.bool (decide (a<b)))):=by simp[bV,je]
theorem yI (k:IntKind)(a b:Int):bV .leq (.pv (.int k a)) (.pv (.int k b))=some (.pv (.bool (decide (a≤b)))):=by simp[bV,je]
theorem yJ (k:IntKind)(a b:Int):bV .gtr (.pv (.int k a)) (.pv (.int k b))=some (.pv (.bool (decide (b<a)))):=by simp[bV,je]
theorem yK (k:IntKind)(a b:Int):bV .geq (.pv (.int k a)) (.pv (.int k b))=some (.pv (.bool (decide (b≤a)))):=by simp[bV,je]
theorem tD {a b:List UInt8}(h:a.length+b.length≤9223372036854775807):bV .add (.pv (.str a)) (.pv (.str b))=some (.pv (.str (a++b))):=by
 have:a.length+b.length≤maxLen:=by unfold maxLen;omega
 simp[bV,EK,this]
theorem tC (a b:List UInt8):bV .eql (.pv (.str a)) (.pv (.str b))=some (.pv (.bool (decide (a=b)))):=by
 simp[bV,EK];rw[Bool.eq_iff_iff];simp
theorem tw (a b:List UInt8):bV .neq (.pv (.str a)) (.pv (.str b))=some (.pv (.bool (!decide (a=b)))):=by
 simp[bV,EK];rw[Bool.eq_iff_iff];simp
theorem tx (a b:List UInt8):bV .lss (.pv (.str a)) (.pv (.str b))=some (.pv (.bool (bD a b))):=_root_.id rfl
theorem tz (a b:List UInt8):bV .leq (.pv (.str a)) (.pv (.str b))=some (.pv (.bool (bD a b||a == b))):=_root_.id rfl
theorem tA (a b:List UInt8):bV .gtr (.pv (.str a)) (.pv (.str b))=some (.pv (.bool (!(bD a b||a == b)))):=_root_.id rfl
theorem tB (a b:List UInt8):bV .geq (.pv (.str a)) (.pv (.str b))=some (.pv (.bool (!(bD a b)))):=_root_.id rfl
theorem tI (a b:Bool):lQ 0 (.pv (.bool a)) (.pv (.bool b))=some (a == b):=_root_.id rfl
theorem yR (r o:Nat):lQ 1 (.ptr r o) (.pv .nilp)=some false:=_root_.id rfl
theorem tG (l:List PV)(i o:Nat):lQ 1 (.pv (.eptr l i o)) (.pv .nilp)=some false:=_root_.id rfl
theorem tF:lQ 1 (.pv .nilp) (.pv .nilp)=some true:=_root_.id rfl
theorem tH (x:PV)(l:List PV):lQ 2 (.pv (.list (x::l))) (.pv .nils)=some false:=_root_.id rfl
theorem pb (r s:Nat)(x:PV)(l:List PV):lQ 2 (.olist r s (x::l)) (.pv .nils)=some false:=_root_.id rfl
theorem yQ {r s o n:Nat}(h:0<n):lQ 2 (.row r s o n) (.pv .nils)=some false:=by
 cases n with
 | zero=>exact absurd h (Nat.lt_irrefl _)
 | succ n=>rfl
theorem tE:lQ 2 (.pv .nils) (.pv .nils)=some true:=_root_.id rfl
theorem yo (k:IntKind)(n:Int):EM (.pv (.int k n))=some (.pv (.int k (k.wrap (0 - n)))):=_root_.id rfl
theorem s9 (b:Bool):EL (.pv (.bool b))=some (.pv (.bool (!b))):=_root_.id rfl
theorem tv (k k':IntKind)(n:Int):o9 k (.pv (.int k' n))=some (.pv (.int k (k.wrap n))):=_root_.id rfl
theorem o8 (s:List UInt8):gU (.pv (.str s))=some (.pv (.str s)):=_root_.id rfl
theorem ym (r o:Nat):wK (.ptr r o)=some (.ptr r o):=_root_.id rfl
theorem tf (l:List PV)(i o:Nat):wK (.pv (.eptr l i o))=some (.pv (.eptr l i o)):=_root_.id rfl
theorem tc (g o:Nat):wK (.pv (.gptr g o))=some (.pv (.gptr g o)):=_root_.id rfl
theorem ta (f:Nat)(a b:List PV):wK (.pv (.clo f a b))=some (.pv (.clo f a b)):=_root_.id rfl
theorem yn (f:Nat)(a b:List AV):wK (.clo f a b)=some (.clo f a b):=_root_.id rfl
theorem C8 (i:Nat)(ps:List PV):Da i (.pv (.tup ps))=(ps[i]?).map .pv:=_root_.id rfl
theorem C9 (i:Nat)(ps:List AV):Da i (.tup ps)=ps[i]?:=_root_.id rfl
theorem uc {α β:Type}(f:α→β)(a:α):(some a).map f=some (f a):=_root_.id rfl
theorem pK:[].map AV.pv=[]:=_root_.id rfl
theorem mj (x:PV)(r:List PV):(x::r).map AV.pv = .pv x::r.map AV.pv:=_root_.id rfl
theorem Jk {α:Type}(x:α)(r:List α):(x::r)[0]? = some x:=_root_.id rfl
theorem Jj {α:Type}(x:α)(r:List α)(n:Nat):(x::r)[n+1]? = r[n]?:=_root_.id rfl
theorem Df:pvs []=some []:=_root_.id rfl
def HL:Option PV→Option (List PV)→Option (List PV)
 | some p,some ps=>some (p::ps)
 | _,_=>none
theorem tO (p:PV)(ps:List PV):HL (some p) (some ps)=some (p::ps):=_root_.id rfl
theorem tP (x:Option (List PV)):HL none x=none:=_root_.id rfl
theorem ph (x:Option PV):HL x none=none:=by cases x<;>rfl
theorem nx (x:AV)(r:List AV):pvs (x::r)=HL x.toPV (pvs r):=by
 show (match x.toPV,pvs r with | some p,some ps=>some (p::ps) | _,_=>none)=_
 cases x.toPV<;>cases pvs r<;>rfl
theorem tN:∀ (ps:List PV),pvs (ps.map .pv)=some ps
 | []=>rfl
 | x::r=>by rw[List.map_cons,nx,tN r];rfl
theorem Cj (p:PV):(AV.pv p).toPV=some p:=_root_.id rfl
theorem oz (r s:Nat)(l:List PV):(AV.olist r s l).toPV=some (.list l):=_root_.id rfl
theorem xq (r o:Nat):(AV.ptr r o).toPV=none:=_root_.id rfl
theorem xp (r s o n:Nat):(AV.row r s o n).toPV=none:=_root_.id rfl
theorem xu (cs:List AV):(AV.agg cs).toPV=none:=_root_.id rfl
theorem xo (cs:List AV):(AV.tup cs).toPV=none:=_root_.id rfl
theorem xr (f:Nat)(a b:List AV):(AV.clo f a b).toPV=none:=_root_.id rfl
def uz (cs:List AV):Option (List PV)→AV
 | some ps=>.pv (.agg ps)
 | none=>.agg cs
theorem Dz (cs:List AV):fh cs=uz cs (pvs cs):=by unfold fh;cases pvs cs<;>rfl
theorem mg (cs:List AV)(ps:List PV):uz cs (some ps) = .pv (.agg ps):=_root_.id rfl
theorem mh (cs:List AV):uz cs none = .agg cs:=_root_.id rfl
def uu (cs:List AV):Option (List PV)→AV
 | some ps=>.pv (.tup ps)
 | none=>.tup cs
theorem Dx (cs:List AV):jY cs=uu cs (pvs cs):=by unfold jY;cases pvs cs<;>rfl
theorem ma (cs:List AV)(ps:List PV):uu cs (some ps) = .pv (.tup ps):=_root_.id rfl
theorem mb (cs:List AV):uu cs none = .tup cs:=_root_.id rfl
def j0 (f:Nat)(fs cs:List AV):Option (List PV)→Option (List PV)→AV
 | some a,some b=>.pv (.clo f a b)
 | _,_=>.clo f fs cs
theorem Dy (f:Nat)(fs cs:List AV):mf f fs cs=j0 f fs cs (pvs fs) (pvs cs):=by unfold mf j0;cases pvs fs<;>cases pvs cs<;>rfl
theorem mc (f:Nat)(fs cs:List AV)(a b:List PV):j0 f fs cs (some a) (some b) = .pv (.clo f a b):=_root_.id rfl
theorem me (f:Nat)(fs cs:List AV)(a:Option (List PV)):j0 f fs cs a none = .clo f fs cs:=by cases a<;>rfl
theorem jZ (f:Nat)(fs cs:List AV)(a:Option (List PV)):j0 f fs cs none a = .clo f fs cs:=by cases a<;>rfl
theorem v6 (p:PV):(AV.pv p).cells=p.cells.map .pv:=_root_.id rfl
theorem qT (cs:List AV):(AV.agg cs).cells=cs:=_root_.id rfl
theorem qP (cs:List AV):(AV.tup cs).cells=[.tup cs]:=_root_.id rfl
theorem qR (r o:Nat):(AV.ptr r o).cells=[.ptr r o]:=_root_.id rfl
theorem qQ (r s o n:Nat):(AV.row r s o n).cells=[.row r s o n]:=_root_.id rfl
theorem kD (r s:Nat)(l:List PV):(AV.olist r s l).cells=[.olist r s l]:=_root_.id rfl
theorem qS (f:Nat)(a b:List AV):(AV.clo f a b).cells=[.clo f a b]:=_root_.id rfl
theorem aV (cs:List PV):(PV.agg cs).cells=cs:=_root_.id rfl
theorem qO (b:Bool):(PV.bool b).cells=[.bool b]:=_root_.id rfl
theorem vY (k:IntKind)(n:Int):(PV.int k n).cells=[.int k n]:=_root_.id rfl
theorem vW (s:List UInt8):(PV.str s).cells=[.str s]:=_root_.id rfl
theorem qI:PV.nils.cells=[.nils]:=_root_.id rfl
theorem qL (l:List PV):(PV.list l).cells=[.list l]:=_root_.id rfl
theorem qJ:PV.nilp.cells=[.nilp]:=_root_.id rfl
theorem qK:PV.nilf.cells=[.nilf]:=_root_.id rfl
theorem vZ (f:Nat)(a b:List PV):(PV.clo f a b).cells=[.clo f a b]:=_root_.id rfl
theorem qN (l:List PV)(i o:Nat):(PV.eptr l i o).cells=[.eptr l i o]:=_root_.id rfl
theorem qM (g o:Nat):(PV.gptr g o).cells=[.gptr g o]:=_root_.id rfl
def DH (g:Bool)(sz o:Nat):Blk→Option AV
 | .cells _ _ l=>bL g sz o l
 | _=>none
theorem mA (g:Bool)(sz o T:Nat)(f:Bool)(l:List AV):DH g sz o (.cells T f l)=bL g sz o l:=_root_.id rfl
def DD (g:Bool)(sz o:Nat):Option PV→Option AV
 | some e=>gK g sz o e
 | none=>none
theorem pX (g:Bool)(sz o:Nat)(e:PV):DD g sz o (some e)=gK g sz o e:=_root_.id rfl
theorem ti (G:Nat→List PV)(g:Bool)(sz:Nat)(σ:ag)(r o:Nat):cD G g sz σ (.ptr r o)=DH g sz o (σ r):=by
 simp only[cD,DH];cases σ r<;>rfl
theorem oX (G:Nat→List PV)(g:Bool)(sz:Nat)(σ:ag)(l:List PV)(i o:Nat):cD G g sz σ (.pv (.eptr l i o))=DD g sz o l[i]?:=by
 simp only[cD,DD];cases l[i]? <;> rfl
theorem oW (G:Nat→List PV)(g:Bool)(sz:Nat)(σ:ag)(b o:Nat):cD G g sz σ (.pv (.gptr b o))=bL g sz o ((G b).map .pv):=_root_.id rfl
theorem DG (sz o:Nat)(e:PV):gK false sz o e=bL false sz o (e.cells.map .pv):=by simp[gK]
theorem DF {sz o:Nat}{cs:List PV}(h:0<o):gK true sz o (.agg cs)=bL true sz o (cs.map .pv):=by
 simp[gK,PV.cells];omega
def e6 (e:List (Nat×AV))(σ:List (Nat×Blk))(new:Nat):XOp→Option (AV×List (Nat×Blk))
 | .cap sz x=>(yx sz (fun r=>lookB r σ) (evE e x)).map fun v=>(v,[])
 | .resl sz x h=>(iE sz (fun r=>lookB r σ) (evE e x) (evE e h)).map fun v=>(v,[])
 | .copy sz x y=>jI sz (fun r=>lookB r σ) (evE e x) (evE e y)
 | .apart x y=>(ef (fun r=>lookB r σ) (evE e x) (evE e y)).map fun v=>(v,[])
 | .appz t sz by_ zs x k=>jK t sz by_ zs new (fun r=>lookB r σ) (evE e x) (evE e k)
 | .noesc x=>some (evE e x,[])
 | .ucast u n b x=>(dd u n b (fun r=>lookB r σ) (evE e x)).map fun v=>(v,[])
 | .peq ng x y=>(C4 ng (evE e x) (evE e y)).map fun v=>(v,[])
 | .anyc=>some (.any,[])
 | .apps t by_ x y=>gI t by_ new (fun r=>lookB r σ) (evE e x) (evE e y)
 | .sdata x=>(eb (evE e x)).map fun v=>(v,[])
 | .ustr t x k=>jD t (fun r=>lookB r σ) (evE e x) (evE e k)
 | .ofStr x=>fP new (evE e x)
 | .fnil ng x y=>(jG ng (evE e x) (evE e y)).map fun v=>(v,[])
 | .inil ng x y=>(yv ng (evE e x) (evE e y)).map fun v=>(v,[])
 | .idxb x y=>(lH (evE e x) (evE e y)).map fun v=>(v,[])
 | .mki T x=>(HK T (evE e x)).map fun v=>(v,[])
 | .mkmap=>some (.mp new,[(new,.mp [])])
 | .mlook kd co z x k=>(th kd co z (fun r=>lookB r σ) (evE e x) (evE e k)).map fun v=>(v,[])
 | .mset kd x k v=>(tg kd (fun r=>lookB r σ) (evE e x) (evE e k) (evE e v)).map fun d=>(.pv .undef,d)
 | .bslf sz len xs=>Db sz len (evL e xs)
theorem B4 (e:List (Nat×AV))(σ:List (Nat×Blk))(n new:Nat)(o:XOp):o.run new (St.E ⟨e,σ,n⟩) (St.σ ⟨e,σ,n⟩)=e6 e σ new o:=by
 cases o<;>simp only[XOp.run,e6,fj,Aq]<;>rfl
def gJ (G:Nat→List PV)(e:List (Nat×AV))(σ:List (Nat×Blk))(new:Nat):MOp→Option (AV×List (Nat×Blk))
 | .alloc T zs=>some (.ptr new 0,[(new,.cells T true (zs.map .pv))])
 | .box T x=>if (evE e x).known=true then some (.ptr new 0,[(new,.cells T true (evE e x).cells)]) else none
 | .cbox T x=>match (evE e x).toPV with
   | some p=>if p.cells.all PV.one=true then some (.pv (.eptr [p] 0 0),[(new,.none)]) else none
   | none=>none
 | .load g sz x=>(cD G g sz (fun r=>lookB r σ) (evE e x)).map fun v=>(v,[])
 | .store sz x v=>(ea sz (fun r=>lookB r σ) (evE e x) (evE e v)).map fun d=>(.pv .undef,d)
 | .clear sz zs x=>(ee sz zs (fun r=>lookB r σ) (evE e x)).map fun d=>(.pv (.tup []),d)
 | .toStr x=>(cS (fun r=>lookB r σ) (evE e x)).map fun v=>(v,[])
 | .xop o=>e6 e σ new o
 | .bslice mu t sz len xs=>bK mu t sz len new (evL e xs)
 | .append mu t sz by_ x y=>ce mu t sz by_ new (fun r=>lookB r σ) (evE e x) (evE e y)
 | .mk mu t sz by_ zs x y=>rMk mu t sz by_ zs new (evE e x) (evE e y)
 | .sliceA n sz x lo hi=>match evE e x with
   | .ptr r o=>match lookB r σ with
     | .cells _ f l=>if f=true∧o+n*sz≤l.length∧(o=0→n*sz=l.length)∧n≤9223372036854775807 then (bJ sz (.row r sz o n) (evO e lo) (evO e hi)).map fun v=>(v,[]) else none
     | _=>none
   | _=>none
theorem uD (G:Nat→List PV)(e:List (Nat×AV))(σ:List (Nat×Blk))(n new:Nat)(o:MOp):o.run G new (St.E ⟨e,σ,n⟩) (St.σ ⟨e,σ,n⟩)=gJ G e σ new o:=by
 cases o<;>first | (simp only[MOp.run,gJ,fj,Aq,F9]<;>rfl) | exact B4 e σ n new _
def cw (δ:List (Nat×Blk)):Option AV→Option (AV×List (Nat×Blk))
 | some v=>some (v,δ)
 | none=>none
theorem ou (δ:List (Nat×Blk))(v:AV):cw δ (some v)=some (v,δ):=_root_.id rfl
def w8 (v:AV):Option (List (Nat×Blk))→Option (AV×List (Nat×Blk))
 | some δ=>some (v,δ)
 | none=>none
theorem ot (δ:List (Nat×Blk))(v:AV):w8 v (some δ)=some (v,δ):=_root_.id rfl
theorem pQ (G:Nat→List PV)(e:List (Nat×AV))(σ:List (Nat×Blk))(new T:Nat)(zs:List PV):gJ G e σ new (.alloc T zs)=some (.ptr new 0,[(new,.cells T true (zs.map .pv))]):=_root_.id rfl
def Jb (new T:Nat)(v:AV):Bool→Option (AV×List (Nat×Blk))
 | true=>some (.ptr new 0,[(new,.cells T true v.cells)])
 | false=>none
theorem GF (new T:Nat)(v:AV):Jb new T v true=some (.ptr new 0,[(new,.cells T true v.cells)]):=_root_.id rfl
theorem zG (G:Nat→List PV)(e:List (Nat×AV))(σ:List (Nat×Blk))(new T:Nat)(x:AX):gJ G e σ new (.box T x)=Jb new T (evE e x) (evE e x).known:=by
 simp only[gJ];cases (evE e x).known<;>rfl
def Eh (new:Nat):Option PV→Option (AV×List (Nat×Blk))
 | some p=>if p.cells.all PV.one=true then some (.pv (.eptr [p] 0 0),[(new,.none)]) else none
 | none=>none
theorem qU (new:Nat)(p:PV):Eh new (some p)=if p.cells.all PV.one=true then some (.pv (.eptr [p] 0 0),[(new,.none)]) else none:=_root_.id rfl
theorem uE (G:Nat→List PV)(e:List (Nat×AV))(σ:List (Nat×Blk))(new T:Nat)(x:AX):gJ G e σ new (.cbox T x)=Eh new (evE e x).toPV:=by
 simp only[gJ,Eh]
theorem zW (p:PV):(AV.pv p).known=true:=_root_.id rfl
theorem uV (cs:List AV):(AV.agg cs).known=true:=_root_.id rfl
theorem uR (cs:List AV):(AV.tup cs).known=true:=_root_.id rfl
theorem uT (r o:Nat):(AV.ptr r o).known=true:=_root_.id rfl
theorem uS (r s o n:Nat):(AV.row r s o n).known=true:=_root_.id rfl
theorem mD (r s:Nat)(l:List PV):(AV.olist r s l).known=true:=_root_.id rfl
theorem uU (f:Nat)(a b:List AV):(AV.clo f a b).known=true:=_root_.id rfl
theorem uC (G:Nat→List PV)(e:List (Nat×AV))(σ:List (Nat×Blk))(new:Nat)(g:Bool)(sz:Nat)(x:AX):gJ G e σ new (.load g sz x)=cw [] (cD G g sz (fun r=>lookB r σ) (evE e x)):=by
 simp only[gJ];cases cD G g sz (fun r=>lookB r σ) (evE e x)<;>rfl
theorem pO (G:Nat→List PV)(e:List (Nat×AV))(σ:List (Nat×Blk))(new sz:Nat)(x v:AX):gJ G e σ new (.store sz x v)=w8 (.pv .undef) (ea sz (fun r=>lookB r σ) (evE e x) (evE e v)):=by
 simp only[gJ];cases ea sz (fun r=>lookB r σ) (evE e x) (evE e v)<;>rfl
def BS (sz:Nat)(zs:List PV)(r s off len:Nat):Blk→Option (List (Nat×Blk))
 | .cells T f l=>if s=sz∧0<len∧zs.length=sz∧off+len*sz≤l.length∧zs.all PV.one=true then some [(r,.cells T f (l.take off++(List.replicate len zs).flatten.map .pv++l.drop (off+len*sz)))] else none
 | _=>none
theorem pa (sz:Nat)(zs:List PV)(σ:ag)(r s off len:Nat):ee sz zs σ (.row r s off len)=BS sz zs r s off len (σ r):=by
 simp only[ee,BS];cases σ r<;>rfl
theorem pP (G:Nat→List PV)(e:List (Nat×AV))(σ:List (Nat×Blk))(new sz:Nat)(zs:List PV)(x:AX):gJ G e σ new (.clear sz zs x)=w8 (.pv (.tup [])) (ee sz zs (fun r=>lookB r σ) (evE e x)):=by
 simp only[gJ,w8];cases ee sz zs (fun r=>lookB r σ) (evE e x)<;>rfl
theorem mw (G:Nat→List PV)(e:List (Nat×AV))(σ:List (Nat×Blk))(new:Nat)(mu:Bool)(t sz len:Nat)(xs:List AX):gJ G e σ new (.bslice mu t sz len xs)=bK mu t sz len new (evL e xs):=_root_.id rfl
theorem mx (G:Nat→List PV)(e:List (Nat×AV))(σ:List (Nat×Blk))(new:Nat)(mu:Bool)(t sz by_:Nat)(x y:AX):gJ G e σ new (.append mu t sz by_ x y)=ce mu t sz by_ new (fun r=>lookB r σ) (evE e x) (evE e y):=_root_.id rfl
theorem DA (G:Nat→List PV)(e:List (Nat×AV))(σ:List (Nat×Blk))(new:Nat)(mu:Bool)(t sz by_:Nat)(zs:List PV)(x y:AX):gJ G e σ new (.mk mu t sz by_ zs x y)=rMk mu t sz by_ zs new (evE e x) (evE e y):=_root_.id rfl
theorem C5 {e sz by_:Nat}{zs:List PV}{new:Nat}{k k':IntKind}{c:Int}(h:0≤c)(h1:(by_:Int)*c≤281474976710656)(h2:c≤9223372036854775807):rMk false e sz by_ zs new (.pv (.int k 0)) (.pv (.int k' c))=some (.olist new sz [],[(new,.tok e sz)]):=by
 simp[rMk,h,h1,h2]
def np (sz r o:Nat)(v:AV):Blk→Option (List (Nat×Blk))
 | .cells T f l=>if v.known=true∧v.cells.length=sz∧v.cells.all AV.one=true∧o+sz≤l.length then some [(r,.cells T f (l.take o++v.cells++l.drop (o+sz)))] else none
 | _=>none
theorem oT (sz:Nat)(σ:ag)(r o:Nat)(v:AV):ea sz σ (.ptr r o) v=np sz r o v (σ r):=by
 simp only[ea,np];cases σ r<;>rfl
def Bh (r T:Nat)(f:Bool)(l:List AV)(sz o:Nat)(cs:List AV):Bool→Option (List (Nat×Blk))
 | true=>some [(r,.cells T f (l.take o++cs++l.drop (o+sz)))]
 | false=>none
theorem jp (sz r o:Nat)(v:AV)(T:Nat)(f:Bool)(l:List AV):np sz r o v (.cells T f l)=Bh r T f l sz o v.cells (v.known&&decide (v.cells.length=sz)&&v.cells.all AV.one&&decide (o+sz≤l.length)):=by
 simp only[np]
 by_cases h:v.known=true∧v.cells.length=sz∧v.cells.all AV.one=true∧o+sz≤l.length
 ·rw[if_pos h]
  have:(v.known&&decide (v.cells.length=sz)&&v.cells.all AV.one&&decide (o+sz≤l.length))=true:=by simp only[Bool.and_eq_true,decide_eq_true_eq];exact⟨⟨⟨h.1,h.2.1⟩,h.2.2.1⟩,h.2.2.2⟩
  rw[this];rfl
 ·rw[if_neg h]
  have:(v.known&&decide (v.cells.length=sz)&&v.cells.all AV.one&&decide (o+sz≤l.length))=false:=by
   rw[Bool.eq_false_iff]
   intro hh
   simp only[Bool.and_eq_true,decide_eq_true_eq] at hh
   exact h ⟨hh.1.1.1,hh.1.1.2,hh.1.2,hh.2⟩
  rw[this];rfl
theorem x3 (r T:Nat)(f:Bool)(l:List AV)(sz o:Nat)(cs:List AV):Bh r T f l sz o cs true=some [(r,.cells T f (l.take o++cs++l.drop (o+sz)))]:=_root_.id rfl
theorem db {n m by_:Nat}(h1:n+m≤9223372036854775807)(h2:(n+m)*by_≤140737488355328):gS n m by_=true:=by
 simp[gS,h1,h2]
theorem xe (l:List (Nat×Blk)):iv l []=l:=_root_.id rfl
theorem rU (l:List (Nat×Blk))(p:Nat×Blk)(r:List (Nat×Blk)):iv l (p::r)=iv (p::l) r:=_root_.id rfl
theorem Ay (f:Nat)(a b:List PV):bP (.pv (.clo f a b))=some (f,a.map .pv,b.map .pv):=_root_.id rfl
theorem Az (f:Nat)(a b:List AV):bP (.clo f a b)=some (f,a,b):=_root_.id rfl
theorem Dk {α:Type}(a:α)(k:α→Prop):aC (some a) k=k a:=_root_.id rfl
section
variable {P:Program}{G:Nat→List PV}
theorem zp (F:St→Prop)(e:List (Nat×AV))(σ:List (Nat×Blk))(n d:Nat)(v:AV):zq F ⟨e,σ,n⟩ (some d) v=F ⟨(d,v)::e,σ,n⟩:=_root_.id rfl
theorem zo (F:St→Prop)(e:List (Nat×AV))(σ:List (Nat×Blk))(n:Nat)(v:AV):zq F ⟨e,σ,n⟩ none v=F ⟨e,σ,n⟩:=_root_.id rfl
theorem zt (F:St→Prop)(e:List (Nat×AV))(σ:List (Nat×Blk))(n d:Nat)(v:AV)(δ:List (Nat×Blk)):pD F ⟨e,σ,n⟩ (some d) (v,δ)=F ⟨(d,v)::e,iv σ δ,n+1⟩:=_root_.id rfl
theorem zr (F:St→Prop)(e:List (Nat×AV))(σ:List (Nat×Blk))(n:Nat)(v:AV)(δ:List (Nat×Blk)):pD F ⟨e,σ,n⟩ none (v,δ)=F ⟨e,iv σ δ,n+1⟩:=_root_.id rfl
theorem zv (F:St→Prop)(e:List (Nat×AV))(σ:List (Nat×Blk))(n d:Nat)(v:AV):zw F (some d) v ⟨e,σ,n⟩=F ⟨(d,v)::e,σ,n⟩:=_root_.id rfl
theorem zu (F:St→Prop)(e:List (Nat×AV))(σ:List (Nat×Blk))(n:Nat)(v:AV):zw F none v ⟨e,σ,n⟩=F ⟨e,σ,n⟩:=_root_.id rfl
theorem AD (args:List AV)(s:St)(K:AV→St→Prop)(f:Nat)(a b:List AV):v7 P G args s K (f,a,b)=ae P G f (a++args++b) s K:=_root_.id rfl
theorem rF (F:St→Prop)(s:St):bU P G [] F s=F s:=_root_.id rfl
theorem ow (d:Option Nat)(o:AOp)(r:List AOper)(F:St→Prop)(s:St):bU P G (⟨d,o,none⟩::r) F s=gF P G (bU P G r F) s d o:=_root_.id rfl
def fE (b:Bool):AV→Option Bool
 | .pv (.bool x)=>some (x == b)
 | .pv .undef=>some false
 | _=>none
theorem rC (x:Bool):fE true (.pv (.bool x))=some x:=by cases x<;>rfl
theorem rD (x:Bool):fE false (.pv (.bool x))=some (!x):=by cases x<;>rfl
theorem rB (b:Bool):fE b (.pv .undef)=some false:=_root_.id rfl
theorem k9 (d:Option Nat)(o:AOp)(i:Nat)(b:Bool)(r:List AOper)(F:St→Prop)(e:List (Nat×AV))(σ:List (Nat×Blk))(n:Nat) :
  bU P G (⟨d,o,some (i,b)⟩::r) F ⟨e,σ,n⟩=aC (fE b (look i e)) (BN P G (bU P G r F) ⟨e,σ,n⟩ d o):=_root_.id rfl
theorem vO (F:St→Prop)(s:St)(d:Option Nat)(o:AOp):BN P G F s d o true=gF P G F s d o:=_root_.id rfl
theorem qz (F:St→Prop)(e:List (Nat×AV))(σ:List (Nat×Blk))(n:Nat)(d:Nat)(o:AOp):BN P G F ⟨e,σ,n⟩ (some d) o false=F ⟨(d,.pv .undef)::e,σ,n⟩:=_root_.id rfl
theorem mM (F:St→Prop)(s:St)(o:AOp):BN P G F s none o false=F s:=_root_.id rfl
def FH (k:AV→Prop):AV→Prop
 | .pv (.list [])=>∀ b:Bool,k (.pv (.bool b))
 | _=>False
def iG (x:Option AV)(k:AV→Prop)(e:List (Nat×AV))(o:TOp):Prop:=
 match x with
 | some v=>k v
 | none=>match o with
   | .beq 2 _ y (.c .nils)=>FH k (evE e y)
   | _=>False
theorem jM (v:AV)(k:AV→Prop)(e:List (Nat×AV))(o:TOp):iG (some v) k e o=k v:=_root_.id rfl
theorem jN (k:AV→Prop)(e:List (Nat×AV))(ng:Bool)(y:AX):iG none k e (.beq 2 ng y (.c .nils))=FH k (evE e y):=_root_.id rfl
theorem zk (k:AV→Prop):FH k (.pv (.list [])) = ∀ b:Bool,k (.pv (.bool b)):=_root_.id rfl
theorem yS (ng:Bool):tK ng (lQ 2 (.pv (.list [])) (.pv .nils))=none:=_root_.id rfl
theorem Gg (F:St→Prop)(e:List (Nat×AV))(σ:List (Nat×Blk))(n:Nat)(d:Option Nat)(o:TOp):gF P G F ⟨e,σ,n⟩ d (.t o)=iG (dC e o) (zq F ⟨e,σ,n⟩ d) e o:=by
 rw[← r8 e σ n]
 show eO (o.run (St.E ⟨e,σ,n⟩)) _ _=_
 cases hr:o.run (St.E ⟨e,σ,n⟩) with
 | some v=>rfl
 | none=>
   simp only[eO,iG]
   refine propext ⟨fun h=>?_,fun h=>?_⟩
   ·obtain⟨h1,h2⟩:=h
    unfold nilB at h1
    split at h1
    ·split at h1
     ·rename_i hev
      rw[fj] at hev
      show FH _ _
      rw[hev];exact h2
     ·cases h1
    ·cases h1
   ·split at h
    ·rename_i y
     unfold FH at h
     split at h
     ·rename_i hev
      refine⟨?_,h⟩
      simp only[nilB]
      rw[fj,hev]
     ·exact h.elim
    ·exact h.elim
theorem Gh (F:St→Prop)(e:List (Nat×AV))(σ:List (Nat×Blk))(n:Nat)(d:Option Nat)(o:MOp):gF P G F ⟨e,σ,n⟩ d (.m o)=aC (gJ G e σ n o) (pD F ⟨e,σ,n⟩ d):=by
 rw[← uD G e σ n];rfl
theorem vN (F:St→Prop)(e:List (Nat×AV))(σ:List (Nat×Blk))(n:Nat)(d:Option Nat)(f:AX)(xs:List AX):gF P G F ⟨e,σ,n⟩ d (.call f xs)=aC (bP (evE e f)) (v7 P G (evL e xs) ⟨e,σ,n⟩ (zw F d)):=by
 rw[← fj e σ n,← vD e σ n];rfl
theorem x5 (F:List (List Nat×List Nat)→St→Prop)(T:List (List Nat×List Nat))(e:List (Nat×AV))(σ:List (Nat×Blk))(n d:Nat)(v:AV):sk F T ⟨e,σ,n⟩ (some d) v=F (T++[([],[])]) ⟨(d,v)::e,σ,n⟩:=_root_.id rfl
theorem x4 (F:List (List Nat×List Nat)→St→Prop)(T:List (List Nat×List Nat))(e:List (Nat×AV))(σ:List (Nat×Blk))(n:Nat)(v:AV):sk F T ⟨e,σ,n⟩ none v=F (T++[([],[])]) ⟨e,σ,n⟩:=_root_.id rfl
theorem x7 (F:List (List Nat×List Nat)→St→Prop)(T:List (List Nat×List Nat))(e:List (Nat×AV))(σ:List (Nat×Blk))(n d k:Nat)(rd:List Nat)(v:AV)(δ:List (Nat×Blk)):sl F T ⟨e,σ,n⟩ (some d) k rd (v,δ)=F (T++[da k (aJ δ) rd]) ⟨(d,v)::e,iv σ δ,n+1⟩:=_root_.id rfl
theorem x6 (F:List (List Nat×List Nat)→St→Prop)(T:List (List Nat×List Nat))(e:List (Nat×AV))(σ:List (Nat×Blk))(n k:Nat)(rd:List Nat)(v:AV)(δ:List (Nat×Blk)):sl F T ⟨e,σ,n⟩ none k rd (v,δ)=F (T++[da k (aJ δ) rd]) ⟨e,iv σ δ,n+1⟩:=_root_.id rfl
theorem bn {F:List (List Nat×List Nat)→St→Prop}{T:List (List Nat×List Nat)}{e:List (Nat×AV)}{σ:List (Nat×Blk)}{n d:Nat}{f:Nat}{a b args:List AV}{ps:List PV}{r:PV}(h:aw P G f ps r)(he:pvs (a++args++b)=some ps)
  (hk:F (T++[([],[])]) ⟨(d,.pv r)::e,σ,n⟩):ij P G F T ⟨e,σ,n⟩ (some d) args (f,a,b):=.inl ⟨ps,r,he,h,hk⟩
theorem Fk (ks rs:List Nat):da 0 ks rs=(ks.map (· + 1),rs.map (· + 1)):=_root_.id rfl
theorem Fj (ks rs:List Nat):da 1 ks rs=(ks.map (· + 1),0::rs.map (· + 1)):=_root_.id rfl
theorem Fi (ks rs:List Nat):da 2 ks rs=(0::ks.map (· + 1),rs.map (· + 1)):=_root_.id rfl
theorem mm (g:Bool)(sz:Nat)(x:AX):aR (.load g sz x)=0:=_root_.id rfl
theorem j4 (sz:Nat)(x v:AX):aR (.store sz x v)=0:=_root_.id rfl
theorem j3 (x:AX):aR (.toStr x)=0:=_root_.id rfl
theorem j7 (sz:Nat)(zs:List PV)(x:AX):aR (.clear sz zs x)=0:=_root_.id rfl
theorem iH (n sz:Nat)(x:AX)(l h:Option AX):aR (.sliceA n sz x l h)=0:=_root_.id rfl
theorem j8 (T:Nat)(z:List PV):aR (.alloc T z)=1:=_root_.id rfl
theorem pM (T:Nat)(x:AX):aR (.box T x)=1:=_root_.id rfl
theorem mr (T:Nat)(x:AX):aR (.cbox T x)=1:=_root_.id rfl
theorem iI (m:Bool)(e s l:Nat)(x:List AX):aR (.bslice m e s l x)=1:=_root_.id rfl
theorem iJ (m:Bool)(e s l:Nat)(x y:AX):aR (.append m e s l x y)=1:=_root_.id rfl
theorem uB (m:Bool)(e s l:Nat)(z:List PV)(x y:AX):aR (.mk m e s l z x y)=1:=_root_.id rfl
theorem Cd {A:List (List Nat)}{F:St→Prop}{T:List (List Nat×List Nat)}{s:St}(h:Chk (okB A T)):vcD P G A F [] T s=F s:=by
 show (okB A T=true∧F s)=F s
 rw[eq_iff_iff]
 exact⟨fun x=>x.2,fun x=>⟨h,x⟩⟩
theorem xb (A:List (List Nat))(F:St→Prop)(d:Option Nat)(o:AOp)(r:List AOper)(T:List (List Nat×List Nat))(s:St):vcD P G A F (⟨d,o,none⟩::r) T s=ey P G (vcD P G A F r) T s d o:=_root_.id rfl
theorem rG (A:List (List Nat))(F:St→Prop)(d:Option Nat)(o:AOp)(i:Nat)(b:Bool)(r:List AOper)(T:List (List Nat×List Nat))(e:List (Nat×AV))(σ:List (Nat×Blk))(n:Nat) :
  vcD P G A F (⟨d,o,some (i,b)⟩::r) T ⟨e,σ,n⟩=aC (fE b (look i e)) (ky P G (vcD P G A F r) T ⟨e,σ,n⟩ d o):=_root_.id rfl
theorem qA (F:List (List Nat×List Nat)→St→Prop)(T:List (List Nat×List Nat))(s:St)(d:Option Nat)(o:AOp):ky P G F T s d o true=ey P G F T s d o:=_root_.id rfl
theorem mN (F:List (List Nat×List Nat)→St→Prop)(T:List (List Nat×List Nat))(e:List (Nat×AV))(σ:List (Nat×Blk))(n:Nat)(d:Nat)(o:AOp):ky P G F T ⟨e,σ,n⟩ (some d) o false=F (T++[([],[])]) ⟨(d,.pv .undef)::e,σ,n⟩:=_root_.id rfl
theorem kx (F:List (List Nat×List Nat)→St→Prop)(T:List (List Nat×List Nat))(s:St)(o:AOp):ky P G F T s none o false=F (T++[([],[])]) s:=_root_.id rfl
theorem D9 (F:List (List Nat×List Nat)→St→Prop)(T:List (List Nat×List Nat))(e:List (Nat×AV))(σ:List (Nat×Blk))(n:Nat)(d:Option Nat)(o:TOp):ey P G F T ⟨e,σ,n⟩ d (.t o)=aC (dC e o) (sk F T ⟨e,σ,n⟩ d):=by
 rw[← r8 e σ n];rfl
def cP (e:List (Nat×AV)):XOp→List Nat
 | .cap _ x=>(evE e x).name
 | .resl _ x _=>(evE e x).name
 | .copy _ x y | .apart x y=>(evE e x).name++(evE e y).name
 | .appz _ _ _ _ x _=>(evE e x).name
 | .ucast _ _ _ x | .apps _ _ x _ | .ustr _ x _=>(evE e x).name
 | .noesc _ | .peq _ _ _ | .anyc | .sdata _ | .ofStr _ | .fnil _ _ _ | .inil _ _ _ | .idxb _ _ | .mki _ _ | .mkmap | .bslf _ _ _=>[]
 | .mlook _ _ _ x _ | .mset _ x _ _=>(evE e x).name
def b9 (e:List (Nat×AV)):MOp→List Nat
 | .xop o=>cP e o
 | .load _ _ x | .sliceA _ _ x _ _ | .clear _ _ x | .toStr x=>(evE e x).name
 | .append _ _ _ _ x y=>(evE e x).name++(evE e y).name
 | .store _ x _=>(evE e x).name
 | .alloc _ _ | .box _ _ | .cbox _ _ | .bslice _ _ _ _ _ | .mk _ _ _ _ _ _ _=>[]
theorem uF (e:List (Nat×AV))(mu:Bool)(t sz b:Nat)(zs:List PV)(x y:AX):b9 e (.mk mu t sz b zs x y)=[]:=_root_.id rfl
theorem j9 (e:List (Nat×AV))(x:AX):b9 e (.toStr x)=(evE e x).name:=_root_.id rfl
theorem kb (e:List (Nat×AV))(sz:Nat)(zs:List PV)(x:AX):b9 e (.clear sz zs x)=(evE e x).name:=_root_.id rfl
theorem my (e:List (Nat×AV))(g:Bool)(sz:Nat)(x:AX):b9 e (.load g sz x)=(evE e x).name:=_root_.id rfl
theorem pR (e:List (Nat×AV))(T:Nat)(x:AX):b9 e (.box T x)=[]:=_root_.id rfl
theorem mz (e:List (Nat×AV))(T:Nat)(x:AX):b9 e (.cbox T x)=[]:=_root_.id rfl
theorem ke (e:List (Nat×AV))(T:Nat)(x:List PV):b9 e (.alloc T x)=[]:=_root_.id rfl
theorem ka (e:List (Nat×AV))(sz:Nat)(x v:AX):b9 e (.store sz x v)=(evE e x).name:=_root_.id rfl
theorem iL (e:List (Nat×AV))(mu:Bool)(t sz b:Nat)(x y:AX):b9 e (.append mu t sz b x y)=(evE e x).name++(evE e y).name:=_root_.id rfl
theorem iK (e:List (Nat×AV))(mu:Bool)(t sz b:Nat)(x:List AX):b9 e (.bslice mu t sz b x)=[]:=_root_.id rfl
theorem Dw (p:PV):(AV.pv p).name=[]:=_root_.id rfl
theorem zD (r o:Nat):(AV.ptr r o).name=[r]:=_root_.id rfl
theorem zz (r s o n:Nat):(AV.row r s o n).name=[r]:=_root_.id rfl
theorem pH (r s:Nat)(l:List PV):(AV.olist r s l).name=[r]:=_root_.id rfl
theorem uX:aJ ([]:List (Nat×Blk))=[]:=_root_.id rfl
theorem p6 (r:Nat)(B:Blk)(q:List (Nat×Blk)):aJ ((r,B)::q)=r::aJ q:=_root_.id rfl
theorem Ea (F:List (List Nat×List Nat)→St→Prop)(T:List (List Nat×List Nat))(e:List (Nat×AV))(σ:List (Nat×Blk))(n:Nat)(d:Option Nat)(o:MOp):ey P G F T ⟨e,σ,n⟩ d (.m o)=aC (gJ G e σ n o) (sl F T ⟨e,σ,n⟩ d (aR o) (b9 e o)):=by
 have:b9 e o=o.reads (St.E ⟨e,σ,n⟩):=by
  cases o<;>simp only[b9,MOp.reads,fj]
  rename_i o
  cases o<;>simp only[cP,XOp.reads,fj]
 rw[← uD G e σ n,this];rfl
theorem qy (F:List (List Nat×List Nat)→St→Prop)(T:List (List Nat×List Nat))(e:List (Nat×AV))(σ:List (Nat×Blk))(n:Nat)(d:Option Nat)(f:AX)(xs:List AX):ey P G F T ⟨e,σ,n⟩ d (.call f xs)=aC (bP (evE e f)) (ij P G F T ⟨e,σ,n⟩ d (evL e xs)):=by
 rw[← fj e σ n,← vD e σ n];rfl
def qG (e:List (Nat×AV)):List Nat→List (Nat×AV)
 | []=>[]
 | k::r=>(k,look k e)::qG e r
theorem vU (e:List (Nat×AV)):qG e []=[]:=_root_.id rfl
theorem qF (e:List (Nat×AV))(k:Nat)(r:List Nat):qG e (k::r)=(k,look k e)::qG e r:=_root_.id rfl
theorem n3 (e:List (Nat×AV))(σ:List (Nat×Blk))(n:Nat):∀ (l:List Nat),l.map (fun i=>(i,St.E ⟨e,σ,n⟩ i))=qG e l
 | []=>rfl
 | k::r=>by rw[List.map_cons,n3 e σ n r];rfl
theorem vV (seen:List Nat):fe seen []=[]:=_root_.id rfl
theorem qH (seen:List Nat)(k:Nat)(b:Blk)(r:List (Nat×Blk)):fe seen ((k,b)::r)=qC k b (fe (k::seen) r) (nH k seen):=_root_.id rfl
theorem Eb (k:Nat)(b:Blk)(r:List (Nat×Blk)):qC k b r true=r:=_root_.id rfl
theorem Ec (k:Nat)(b:Blk)(r:List (Nat×Blk)):qC k b r false=(k,b)::r:=_root_.id rfl
theorem zF (k:Nat):nH k []=false:=_root_.id rfl
theorem FJ (k j:Nat)(r:List Nat):nH k (j::r)=if j=k then true else nH k r:=_root_.id rfl
theorem zi (Q:AExit→St→Prop)(keep:List Nat)(e:List (Nat×AV))(σ:List (Nat×Blk))(n:Nat):lY Q keep ⟨e,σ,n⟩=Q .norm ⟨qG e keep,fe [] σ,n⟩:=by
 rw[← n3 e σ n];rfl
theorem wD (F:St→Prop)(Q:AExit→St→Prop)(s:St):BY F Q .norm s=F s:=_root_.id rfl
theorem wE (F:St→Prop)(Q:AExit→St→Prop)(i:Nat)(s:St):BY F Q (.exit i) s=Q (.exit i) s:=_root_.id rfl
theorem A6 (F:St→Prop)(Q:AExit→St→Prop)(s:St):BY F Q .ret s=Q .ret s:=_root_.id rfl
theorem ne (id:Nat)(Q:AExit→St→Prop)(s:St):dL id Q .norm s=Q .norm s:=_root_.id rfl
theorem nh (id:Nat)(Q:AExit→St→Prop)(i:Nat)(s:St):dL id Q (.exit i) s=if i=id then Q .norm s else Q (.exit i) s:=_root_.id rfl
theorem q9 (id:Nat)(Q:AExit→St→Prop)(s:St):dL id Q .ret s=Q .ret s:=_root_.id rfl
theorem B9 (m0:Nat)(Q:AExit→St→Prop)(s:St):vc P G m0 .skip Q s=Q .norm s:=_root_.id rfl
theorem EW (m0:Nat)(l:List AOper)(keep:List Nat)(Q:AExit→St→Prop)(s:St):vc P G m0 (.ops l keep) Q s=bU P G l (lY Q keep) s:=_root_.id rfl
theorem Cb (m0:Nat)(A:List (List Nat))(l l2:List AOper)(keep:List Nat)(Q:AExit→St→Prop)(s:St):vc P G m0 (.draw A l l2 keep) Q s=vcD P G A (bU P G l2 (lY Q keep)) l [] s:=_root_.id rfl
theorem D8 (F:St→Prop)(e:List (Nat×AV))(σ:List (Nat×Blk))(n:Nat)(d:Option Nat)(g:Option (Bool×Nat))(x:AX):gF P G F ⟨e,σ,n⟩ d (.fz g x)=aC (BL G (fun r=>lookB r σ) g (evE e x)) (pD F ⟨e,σ,n⟩ d):=by
 rw[← fj e σ n];rfl
theorem ET (m0:Nat)(a b:ACode)(Q:AExit→St→Prop)(s:St):vc P G m0 (.seq a b) Q s=vc P G m0 a (BY (vc P G m0 b Q) Q) s:=_root_.id rfl
theorem Cc (m0:Nat)(x:AX)(a b:ACode)(Q:AExit→St→Prop)(e:List (Nat×AV))(σ:List (Nat×Blk))(n:Nat):vc P G m0 (.cond x a b) Q ⟨e,σ,n⟩=jQ (evE e x) (vc P G m0 a Q) (vc P G m0 b Q) ⟨e,σ,n⟩:=by
 rw[← fj e σ n];rfl
theorem xa (m0 id:Nat)(b:ACode)(Q:AExit→St→Prop)(s:St):vc P G m0 (.block id b) Q s=vc P G m0 b (dL id Q) s:=_root_.id rfl
theorem Ca (m0 id:Nat)(Q:AExit→St→Prop)(s:St):vc P G m0 (.exit id) Q s=Q (.exit id) s:=_root_.id rfl
theorem EV (m0:Nat)(Q:AExit→St→Prop)(s:St):vc P G m0 .ret Q s=Q .ret s:=_root_.id rfl
theorem ze (b:Bool)(F H:St→Prop)(s:St):jQ (.pv (.bool b)) F H s=ifB b F H s:=by cases b<;>rfl
theorem Il (F H:St→Prop)(s:St):ifB true F H s=F s:=_root_.id rfl
theorem Im (F H:St→Prop)(s:St):ifB false F H s=H s:=_root_.id rfl
def Fs (G:Nat→List PV)(e:List (Nat×AV))(σ:List (Nat×Blk)):ARes→Option AV
 | .tmp t=>some (look t e)
 | .cell t g sz=>cD G g sz (fun r=>lookB r σ) (look t e)
theorem yi (e:List (Nat×AV))(σ:List (Nat×Blk))(t:Nat):Fs G e σ (.tmp t)=some (look t e):=_root_.id rfl
theorem sP (e:List (Nat×AV))(σ:List (Nat×Blk))(t:Nat)(g:Bool)(sz:Nat):Fs G e σ (.cell t g sz)=cD G g sz (fun r=>lookB r σ) (look t e):=_root_.id rfl
theorem A8 (res:List ARes)(R:AV→List (Nat×Blk)→Nat→Prop)(s:St):FnK G res R .norm s=aC (dc G s res) (Bv R s):=_root_.id rfl
theorem EA (res:List ARes)(R:AV→List (Nat×Blk)→Nat→Prop)(s:St):FnK G res R .ret s=aC (dc G s res) (Bv R s):=_root_.id rfl
theorem CT (R:AV→List (Nat×Blk)→Nat→Prop)(e:List (Nat×AV))(σ:List (Nat×Blk))(n:Nat)(l:List AV):Bv R ⟨e,σ,n⟩ l=R (re l) σ n:=_root_.id rfl
theorem Fo (x:AV):re [x]=x:=_root_.id rfl
theorem Fp:re [] = .pv (.tup []):=_root_.id rfl
theorem Fm (x y:AV)(r:List AV):re (x::y::r)=jY (x::y::r):=_root_.id rfl
def Gq:Option AV→Option (List AV)→Option (List AV)
 | some a,some b=>some (a::b)
 | _,_=>none
theorem qD (a:AV)(b:List AV):Gq (some a) (some b)=some (a::b):=_root_.id rfl
theorem sO (s:St):dc G s []=some []:=_root_.id rfl
theorem oP (e:List (Nat×AV))(σ:List (Nat×Blk))(n:Nat)(r:ARes)(q:List ARes):dc G ⟨e,σ,n⟩ (r::q)=Gq (Fs G e σ r) (dc G ⟨e,σ,n⟩ q):=by
 have:Fr G ⟨e,σ,n⟩ r=Fs G e σ r:=by cases r<;>rfl
 show (match Fr G ⟨e,σ,n⟩ r,dc G ⟨e,σ,n⟩ q with | some a,some b=>some (a::b) | _,_=>none)=_
 rw[this]
 cases Fs G e σ r<;>cases dc G ⟨e,σ,n⟩ q<;>rfl
theorem yZ (r:PV)(v:AV)(σ:List (Nat×Blk))(n:Nat):Fw r v σ n=isR r σ v:=_root_.id rfl
theorem FW (r p:PV)(σ:List (Nat×Blk)):isR r σ (.pv p)=Nz p r:=propext ⟨fun ⟨q,h,g⟩=>by cases h;exact g,fun h=>⟨(p,[]),rfl,h⟩⟩
theorem u9 (r:PV)(k sz:Nat)(l:List PV)(σ:List (Nat×Blk)):isR r σ (.olist k sz l)=Nz (.list l) r:=propext ⟨fun ⟨q,h,g⟩=>by cases h;exact g,fun h=>⟨(.list l,[]),rfl,h⟩⟩
def FY (r:PV):Option (PV×List Nat)→Prop
 | some q=>Nz q.1 r
 | none=>False
theorem ve (r p:PV)(l:List Nat):FY r (some (p,l))=Nz p r:=_root_.id rfl
theorem vd (r:PV)(σ:List (Nat×Blk))(v:AV):isR r σ v=FY r (mF (fun r=>lookB r σ) v):=by
 unfold isR FY
 cases mF (fun r=>lookB r σ) v with
 | none=>simp
 | some q=>simp
theorem DO (r:PV)(cs:List AV)(σ:List (Nat×Blk)):isR r σ (.agg cs)=FY r ((wO (fun r=>lookB r σ) cs).map fun p=>(.agg p.1,p.2)):=vd _ _ _
theorem DN (r:PV)(k sz len:Nat)(σ:List (Nat×Blk)):isR r σ (.row k sz 0 len)=FY r (F1 sz len k (lookB k σ)):=vd _ _ _
def p9:List AV→Nat→List (Nat×AV)
 | [],_=>[]
 | x::r,k=>(k,x)::p9 r (k+1)
theorem vh (k:Nat):p9 [] k=[]:=_root_.id rfl
theorem p8 (x:AV)(r:List AV)(k:Nat):p9 (x::r) k=(k,x)::p9 r (k+1):=_root_.id rfl
theorem vg:∀ (args:List AV) (k:Nat),((args.zipIdx k).map fun p=>(p.2,p.1))=p9 args k
 | [],k=>rfl
 | x::r,k=>by rw[List.zipIdx_cons,List.map_cons,vg r (k+1)];rfl
theorem p7 (args:List AV):bN args=p9 args 0:=vg args 0
theorem HW {ι:Type}(S:ι→St)(Inv:ι→Prop)(μ:ι→Nat)(x0:ι){m0:Nat}{keep:List Nat}{b:ACode}{Q:AExit→St→Prop}{s:St}(h0:Wk m0 s (S x0))(hi:Inv x0)
  (h:∀ x,Inv x→vc P G m0 b (fun e s'=>match e with
   | .norm=>∃ x',Wk m0 s' (S x')∧Inv x'∧μ x'<μ x
   | .exit i=>Q (.exit i) s'
   | .ret=>Q .ret s') (S x)):vc P G m0 (.loop keep b) Q s:=by
 refine⟨fun n s=>∃ x,s=S x∧Inv x∧μ x=n,⟨μ x0,S x0,h0,x0,rfl,hi,rfl⟩,?_⟩
 rintro n s ⟨x,rfl,hx,rfl⟩
 refine bA b (fun e s' hs=>?_) _ (h x hx)
 cases e with
 | norm=>
   obtain⟨x',h1,h2,h3⟩:=hs
   exact⟨_,_,h3,h1,x',rfl,h2,rfl⟩
 | exit i=>exact⟨s',Wk.of (Wx.refl s') m0,hs⟩
 | ret=>exact hs
def Hd (A:List (Nat×Nat×Nat×Nat))(m0:Nat)(keep:List Nat)(s t:St):Prop:=Wk m0 s t
theorem bX {A:List (Nat×Nat×Nat×Nat)}{m0:Nat}{keep:List Nat}{s t:St}(h:StZ (cG A m0 keep s) t):Hd A m0 keep s t:=Wk.head h
def iq {ι:Type}(A:List (Nat×Nat×Nat×Nat))(S:ι→St)(Inv:ι→Prop)(μ:ι→Nat)(x:ι)(m0:Nat)(keep:List Nat)(Q:AExit→St→Prop):AExit→St→Prop
 | .norm,s'=>∃ x',Hd A m0 keep s' (S x')∧Inv x'∧μ x'<μ x
 | .exit i,s'=>Q (.exit i) s'
 | .ret,s'=>Q .ret s'
theorem nc {ι:Type}(A:List (Nat×Nat×Nat×Nat))(S:ι→St)(Inv:ι→Prop)(μ:ι→Nat)(x:ι)(m0:Nat)(keep:List Nat)(Q:AExit→St→Prop)(s:St):iq A S Inv μ x m0 keep Q .norm s = ∃ x',Hd A m0 keep s (S x')∧Inv x'∧μ x'<μ x:=_root_.id rfl
theorem nd {ι:Type}(A:List (Nat×Nat×Nat×Nat))(S:ι→St)(Inv:ι→Prop)(μ:ι→Nat)(x:ι)(m0:Nat)(keep:List Nat)(Q:AExit→St→Prop)(i:Nat)(s:St):iq A S Inv μ x m0 keep Q (.exit i) s=Q (.exit i) s:=_root_.id rfl
theorem q8 {ι:Type}(A:List (Nat×Nat×Nat×Nat))(S:ι→St)(Inv:ι→Prop)(μ:ι→Nat)(x:ι)(m0:Nat)(keep:List Nat)(Q:AExit→St→Prop)(s:St):iq A S Inv μ x m0 keep Q .ret s=Q .ret s:=_root_.id rfl
theorem rE {ι:Type}(A:List (Nat×Nat×Nat×Nat))(S:ι→St)(Inv:ι→Prop)(μ:ι→Nat)(x0:ι){m0:Nat}{keep:List Nat}{b:ACode}{Q:AExit→St→Prop}{s:St}(h0:Hd A m0 keep s (S x0))(hi:Inv x0)
  (h:∀ x,Inv x→vc P G m0 b (iq A S Inv μ x m0 keep Q) (S x)):vc P G m0 (.loop keep b) Q s:=by
 refine HW S Inv μ x0 h0 hi fun x hx=>?_
 have e:(fun (e:AExit) (s':St)=>match e with
   | .norm=>∃ x',Wk m0 s' (S x')∧Inv x'∧μ x'<μ x
   | .exit i=>Q (.exit i) s'
   | .ret=>Q .ret s')=iq A S Inv μ x m0 keep Q:=by
  funext e s'
  cases e<;>rfl
 rw[e];exact h x hx
def pj (k:Nat)(x:AV):List (Nat×AV)→AV
 | []=>x
 | p::r=>if p.1=k then p.2 else pj k x r
def dQ:List (Nat×AV)→List (Nat×AV)→List (Nat×AV)
 | [],_=>[]
 | p::r,ch=>(p.1,pj p.1 p.2 ch)::dQ r ch
def pl (k:Nat)(x:Blk):List (Nat×Blk)→Blk
 | []=>x
 | p::r=>if p.1=k then p.2 else pl k x r
def eN:List (Nat×Blk)→List (Nat×Blk)→List (Nat×Blk)
 | [],_=>[]
 | p::r,ch=>(p.1,pl p.1 p.2 ch)::eN r ch
theorem tT (k:Nat)(x:AV):pj k x []=x:=_root_.id rfl
theorem pi (k j:Nat)(x y:AV)(r:List (Nat×AV)):pj k x ((j,y)::r)=if j=k then y else pj k x r:=_root_.id rfl
theorem tV (ch:List (Nat×AV)):dQ [] ch=[]:=_root_.id rfl
theorem pp (k:Nat)(x:AV)(r ch:List (Nat×AV)):dQ ((k,x)::r) ch=(k,pj k x ch)::dQ r ch:=_root_.id rfl
theorem tU (k:Nat)(x:Blk):pl k x []=x:=_root_.id rfl
theorem pk (k j:Nat)(x y:Blk)(r:List (Nat×Blk)):pl k x ((j,y)::r)=if j=k then y else pl k x r:=_root_.id rfl
theorem tW (ch:List (Nat×Blk)):eN [] ch=[]:=_root_.id rfl
theorem pq (k:Nat)(x:Blk)(r ch:List (Nat×Blk)):eN ((k,x)::r) ch=(k,pl k x ch)::eN r ch:=_root_.id rfl
theorem be {ι:Type}(A:List (Nat×Nat×Nat×Nat))(ch:ι→List (Nat×AV))(chB:ι→List (Nat×Blk))(Inv:ι→Prop)(μ:ι→Nat)(x0:ι){m0:Nat}{keep:List Nat}{b:ACode}{Q:AExit→St→Prop}{s:St}
  (h:∀ e0 σ0 n0,cG A m0 keep s=⟨e0,σ0,n0⟩→StZ ⟨e0,σ0,n0⟩ ⟨dQ e0 (ch x0),eN σ0 (chB x0),n0⟩∧Inv x0 ∧
   ∀ x,Inv x→vc P G m0 b (iq A (fun x=>⟨dQ e0 (ch x),eN σ0 (chB x),n0⟩) Inv μ x m0 keep Q) ⟨dQ e0 (ch x),eN σ0 (chB x),n0⟩):vc P G m0 (.loop keep b) Q s:=by
 obtain⟨h1,h2,h3⟩:=h (cG A m0 keep s).env (cG A m0 keep s).sto (cG A m0 keep s).next rfl
 exact rE A (fun x=>⟨dQ (cG A m0 keep s).env (ch x),eN (cG A m0 keep s).sto (chB x),(cG A m0 keep s).next⟩) Inv μ x0 (bX h1) h2 h3
end
end Go.Ab
set_option linter.unusedVariables false
set_option linter.unusedSimpArgs false
namespace Go.Ab
open Go Go.RowKit
theorem yp (k k':IntKind)(x y:Int):C6 (.pv (.int k x)) (.pv (.int k' y))=some (.pv (.int k (min x y))):=by
 simp only[C6,Option.some.injEq,AV.pv.injEq,PV.int.injEq,true_and]
 split<;>omega
theorem yq (k k':IntKind)(x y:Int):C7 (.pv (.int k x)) (.pv (.int k' y))=some (.pv (.int k (max x y))):=by
 simp only[C7,Option.some.injEq,AV.pv.injEq,PV.int.injEq,true_and]
 split<;>omega
theorem oA (a:Nat)(b:Int):(min (a:Int) b).toNat=min a b.toNat:=by omega
theorem lf (a:Nat)(b:Int):(min b (a:Int)).toNat=min b.toNat a:=by omega
theorem jn {α:Type}(l:List α)(n:Nat):l.take (min l.length n)=l.take n:=by
 rcases Nat.le_total l.length n with h | h
 ·rw[Nat.min_eq_left h,List.take_length,List.take_of_length_le h]
 ·rw[Nat.min_eq_right h]
theorem rZ {α:Type}(l:List α)(n:Nat):l.take (min n l.length)=l.take n:=by rw[Nat.min_comm,jn]
theorem map_take {α β:Type}(f:α→β)(l:List α)(n:Nat):(l.map f).take n=(l.take n).map f:=List.map_take.symm
theorem map_drop {α β:Type}(f:α→β)(l:List α)(n:Nat):(l.map f).drop n=(l.drop n).map f:=List.map_drop.symm
theorem ud {α β:Type}(f:α→β):(none:Option α).map f=none:=_root_.id rfl
def dn (mu:Bool)(e sz by_ new:Nat)(σ:ag)(x:AV):Option (List PV)→Option (AV×List (Nat×Blk))
 | some ys=>match mu,x with
   | false,.pv .nils=>match ys with
     | []=>some (.pv .nils,[])
     | y::r=>if gS 0 (r.length+1) by_=true then some (.olist new sz (y::r),[(new,.tok e sz)]) else none
   | false,.olist q s l=>match σ q with
     | .tok e' sz'=>if e'=e∧sz'=sz∧s=sz∧gS l.length ys.length by_=true then some (.olist new sz (l++ys),[(q,.none),(new,.tok e sz)]) else none
     | _=>none
   | true,.pv .nils=>match ys with
     | []=>some (.pv .nils,[])
     | y::r=>if gS 0 (r.length+1) by_=true then some (.row new sz 0 (r.length+1),[(new,.cells e false (ci (y::r)))]) else none
   | true,.row q s off len=>match σ q with
     | .cells e' _ l=>if e'=e∧s=sz∧off=0∧len*sz≤l.length∧gS len ys.length by_=true then some (.row new sz 0 (len+ys.length),[(q,.none),(new,.cells e false (l.take (len*sz)++ci ys))]) else none
     | _=>none
   | _,_=>none
 | none=>none
def AS (e sz by_ new q s:Nat)(l ys:List PV):Blk→Option (AV×List (Nat×Blk))
 | .tok e' sz'=>if e'=e∧sz'=sz∧s=sz∧gS l.length ys.length by_=true then some (.olist new sz (l++ys),[(q,.none),(new,.tok e sz)]) else none
 | _=>none
def mX (e sz by_ new q s off len:Nat)(ys:List PV):Blk→Option (AV×List (Nat×Blk))
 | .cells e' _ l=>if e'=e∧s=sz∧off=0∧len*sz≤l.length∧gS len ys.length by_=true then some (.row new sz 0 (len+ys.length),[(q,.none),(new,.cells e false (l.take (len*sz)++ci ys))]) else none
 | _=>none
theorem pf (mu:Bool)(e sz by_ new:Nat)(σ:ag)(x y:AV):ce mu e sz by_ new σ x y=dn mu e sz by_ new σ x (aN σ sz y):=by
 unfold ce dn
 cases aN σ sz y<;>rfl
theorem GO (e sz by_ new:Nat)(σ:ag)(q s:Nat)(l ys:List PV):dn false e sz by_ new σ (.olist q s l) (some ys)=AS e sz by_ new q s l ys (σ q):=by
 simp only[dn,AS]
theorem AR {e sz by_ new q:Nat}{l ys:List PV}(h1:l.length+ys.length≤9223372036854775807)(h2:(l.length+ys.length)*by_≤140737488355328):AS e sz by_ new q sz l ys (.tok e sz)=some (.olist new sz (l++ys),[(q,.none),(new,.tok e sz)]):=by
 simp[AS,db h1 h2]
theorem AQ (e sz by_ new:Nat)(σ:ag):dn false e sz by_ new σ (.pv .nils) (some [])=some (.pv .nils,[]):=_root_.id rfl
theorem AP {e sz by_ new:Nat}{σ:ag}{y:PV}{r:List PV}(h1:r.length+1≤9223372036854775807)(h2:(r.length+1)*by_≤140737488355328):dn false e sz by_ new σ (.pv .nils) (some (y::r))=some (.olist new sz (y::r),[(new,.tok e sz)]):=by
 simp only[dn];rw[if_pos (db (by omega) (by simpa using h2))]
theorem En (e sz by_ new:Nat)(σ:ag)(q s off len:Nat)(ys:List PV):dn true e sz by_ new σ (.row q s off len) (some ys)=mX e sz by_ new q s off len ys (σ q):=by
 simp only[dn,mX]
theorem oe {e sz by_ new q len:Nat}{f:Bool}{l:List AV}{ys:List PV}(h0:len*sz≤l.length)(h1:len+ys.length≤9223372036854775807)(h2:(len+ys.length)*by_≤140737488355328) :
  mX e sz by_ new q sz 0 len ys (.cells e f l)=some (.row new sz 0 (len+ys.length),[(q,.none),(new,.cells e false (l.take (len*sz)++ci ys))]):=by
 simp[mX,h0,db h1 h2]
theorem qX {e sz by_ new q:Nat}{f:Bool}{l:List AV}{ys:List PV}(h1:ys.length≤9223372036854775807)(h2:ys.length*by_≤140737488355328) :
  mX e sz by_ new q sz 0 0 ys (.cells e f l)=some (.row new sz 0 ys.length,[(q,.none),(new,.cells e false (ci ys))]):=by
 have:=db (n:=0) (m:=ys.length) (by_:=by_) (by omega) (by simpa using h2)
 simp[mX,this]
def nX (l:List PV):Bool→Option (List PV)
 | true=>some l
 | false=>none
theorem qr (σ:ag)(sz:Nat):aN σ sz (.pv .nils)=some []:=_root_.id rfl
theorem qt (σ:ag)(sz:Nat)(l:List PV):aN σ sz (.pv (.list l))=nX l (l.all fun y=>y.cells.length == sz):=by
 simp only[aN]
 cases l.all (fun y=>y.cells.length == sz)<;>rfl
theorem qu (l:List PV):nX l true=some l:=_root_.id rfl
theorem mK (σ:ag)(sz r:Nat)(l:List PV):aN σ sz (.olist r sz l)=some l:=by simp[aN]
def GE (e sz new:Nat):Option (List PV)→Option (AV×List (Nat×Blk))
 | some ps=>if ps.all (fun p=>p.cells.length == sz&&p.cells.all PV.one)=true then some (.olist new sz ps,[(new,.tok e sz)]) else none
 | none=>none
theorem IL {e sz len new:Nat}{vs:List AV}(h:vs.length=len)(h2:len≤9223372036854775807):bK false e sz len new vs=GE e sz new (pvs vs):=by
 simp only[bK,h,h2,true_and,if_true,GE]
 cases pvs vs<;>rfl
def Ja (e sz new:Nat)(ps:List PV):Bool→Option (AV×List (Nat×Blk))
 | true=>some (.olist new sz ps,[(new,.tok e sz)])
 | false=>none
theorem GD (e sz new:Nat)(ps:List PV):Ja e sz new ps true=some (.olist new sz ps,[(new,.tok e sz)]):=_root_.id rfl
theorem wh (e sz new:Nat)(ps:List PV):GE e sz new (some ps)=Ja e sz new ps (ps.all fun p=>p.cells.length == sz&&p.cells.all PV.one):=by
 simp only[GE]
 cases ps.all (fun p=>p.cells.length == sz&&p.cells.all PV.one)<;>rfl
theorem wi (e sz new:Nat):GE e sz new none=none:=_root_.id rfl
theorem GC {e sz new:Nat}:bK true e sz 0 new []=some (.row new sz 0 0,[(new,.cells e true [])]):=by
 simp[bK]
theorem eh (b:Bool):PV.one (.bool b)=true:=_root_.id rfl
theorem fW (k:IntKind)(n:Int):PV.one (.int k n)=true:=_root_.id rfl
theorem fV (s:List UInt8):PV.one (.str s)=true:=_root_.id rfl
theorem za:PV.one .nils=true:=_root_.id rfl
theorem eg (l:List PV):PV.one (.list l)=true:=_root_.id rfl
theorem Dj (p:PV):AV.one (.pv p)=p.one:=_root_.id rfl
theorem zc (r o:Nat):AV.one (.ptr r o)=true:=_root_.id rfl
theorem zb (r s o n:Nat):AV.one (.row r s o n)=true:=_root_.id rfl
theorem pw (r s:Nat)(l:List PV):AV.one (.olist r s l)=true:=_root_.id rfl
theorem zd (f:Nat)(a b:List AV):AV.one (.clo f a b)=true:=_root_.id rfl
def lW (sz:Nat)(l:List PV)(h:Nat):Option Nat→Option AV
 | some a=>if EI sz l a=true then some (.pv (.list ((l.take h).drop a))) else none
 | none=>none
def jP (sz:Nat)(l:List PV)(lo:Option AV):Option Nat→Option AV
 | some h=>lW sz l h (aM 0 h lo)
 | none=>none
theorem jE (sz:Nat)(l:List PV)(lo hi:Option AV):bJ sz (.pv (.list l)) lo hi=jP sz l lo (aM l.length l.length hi):=by
 show By sz l lo hi=_
 unfold By jP lW
 cases aM l.length l.length hi with
 | none=>rfl
 | some h=>simp only;cases aM 0 h lo<;>rfl
theorem iD (sz r s:Nat)(l:List PV)(lo hi:Option AV):bJ sz (.olist r s l) lo hi=jP sz l lo (aM l.length l.length hi):=by
 show By sz l lo hi=_
 unfold By jP lW
 cases aM l.length l.length hi with
 | none=>rfl
 | some h=>simp only;cases aM 0 h lo<;>rfl
theorem lV (sz:Nat)(l:List PV)(lo:Option AV)(h:Nat):jP sz l lo (some h)=lW sz l h (aM 0 h lo):=_root_.id rfl
theorem py (sz:Nat)(l:List PV)(h:Nat):lW sz l h (some 0)=some (.pv (.list (l.take h))):=by
 simp[lW,EI]
theorem pA {sz:Nat}{l:List PV}{h a:Nat}(hs:EI sz l a=true):lW sz l h (some a)=some (.pv (.list ((l.take h).drop a))):=if_pos hs
theorem px (sz:Nat)(l:List PV)(i:Nat)(y:PV):jO sz l i (some y)=if y.cells.length=sz then some (.pv (.eptr l i 0)) else none:=_root_.id rfl
theorem AW {α β:Type}(f:α→β)(p:β→Bool)(l:List α):(l.map f).all p=l.all fun x=>p (f x):=by
 rw[List.all_map];rfl
theorem GP {α:Type}(l:List α):(l.all fun _=>true)=true:=by simp
theorem GJ (n:Nat):(n == n)=true:=by simp
def FP (sz:Nat)(e:PV):Bool→Option AV
 | true=>some (.pv e)
 | false=>bL true sz 0 (e.cells.map .pv)
theorem DE (sz:Nat)(e:PV):FP sz e true=some (.pv e):=_root_.id rfl
theorem zP (sz:Nat)(e:PV):gK true sz 0 e=FP sz e (e.isAgg&&decide (e.cells.length=sz)):=by
 simp only[gK,true_and]
 by_cases h:e.isAgg=true∧e.cells.length=sz
 ·rw[if_pos h,h.1,decide_eq_true h.2];rfl
 ·rw[if_neg h]
  have:(e.isAgg&&decide (e.cells.length=sz))=false:=by
   rw[Bool.eq_false_iff]
   intro hh
   simp only[Bool.and_eq_true,decide_eq_true_eq] at hh
   exact h hh
  rw[this];rfl
theorem vf (cs:List PV):(PV.agg cs).isAgg=true:=_root_.id rfl
def fzO (σ:ag):Option AV→Option (AV×List (Nat×Blk))
 | some v=>(mF σ v).map BI
 | none=>none
theorem F4 (G:Nat→List PV)(σ:ag)(v:AV):BL G σ none v=(mF σ v).map BI:=_root_.id rfl
theorem F5 (G:Nat→List PV)(σ:ag)(g:Bool)(sz:Nat)(v:AV):BL G σ (some (g,sz)) v=fzO σ (cD G g sz σ v):=by
 simp only[BL,fzO];cases cD G g sz σ v<;>rfl
theorem Ae (σ:ag)(v:AV):fzO σ (some v)=(mF σ v).map BI:=_root_.id rfl
theorem Ag (σ:ag)(cs:List AV):mF σ (.agg cs)=(wO σ cs).map fun p=>(.agg p.1,p.2):=_root_.id rfl
theorem DV (σ:ag)(p:PV):mF σ (.pv p)=some (p,[]):=_root_.id rfl
theorem DW (σ:ag)(r s:Nat)(l:List PV):mF σ (.olist r s l)=some (.list l,[]):=_root_.id rfl
theorem Af (σ:ag)(r s n:Nat):mF σ (.row r s 0 n)=F1 s n r (σ r):=_root_.id rfl
theorem DY (σ:ag)(p:PV):BJ σ (.pv p)=some (p,[]):=_root_.id rfl
theorem DZ (σ:ag)(r s:Nat)(l:List PV):BJ σ (.olist r s l)=some (.list l,[]):=_root_.id rfl
theorem Aj (σ:ag)(r s n:Nat):BJ σ (.row r s 0 n)=F1 s n r (σ r):=_root_.id rfl
theorem Ah (σ:ag):wO σ []=some ([],[]):=_root_.id rfl
theorem vo (σ:ag)(x:AV)(r:List AV):wO σ (x::r)=HP (BJ σ x) (wO σ r):=_root_.id rfl
theorem vp (p:PV)(a:List Nat)(q:List PV)(b:List Nat):HP (some (p,a)) (some (q,b))=some (p::q,a++b):=_root_.id rfl
theorem DX (p:PV)(l:List Nat):BI (p,l)=(.pv p,l.map fun r=>(r,.none)):=_root_.id rfl
theorem zx (p:PV):(AV.pv p).names=[]:=_root_.id rfl
theorem uo (r o:Nat):(AV.ptr r o).names=[r]:=_root_.id rfl
theorem un (r a b c:Nat):(AV.row r a b c).names=[r]:=_root_.id rfl
theorem zy (r a:Nat)(l:List PV):(AV.olist r a l).names=[r]:=_root_.id rfl
theorem ur (cs:List AV):(AV.agg cs).names=AV.namesL cs:=by simp only[AV.names]
theorem um (cs:List AV):(AV.tup cs).names=AV.namesL cs:=by simp only[AV.names]
theorem up (f:Nat)(fs cs:List AV):(AV.clo f fs cs).names=AV.namesL fs++AV.namesL cs:=by simp only[AV.names]
theorem uq:AV.any.names=[]:=_root_.id rfl
theorem pF:AV.namesL []=[]:=_root_.id rfl
theorem fZ (x:AV)(r:List AV):AV.namesL (x::r)=x.names++AV.namesL r:=by simp only[AV.namesL]
theorem fY:∀ l:List PV,AV.namesL (l.map .pv)=[]
 | []=>rfl
 | x::r=>by rw[List.map_cons,fZ,fY r];rfl
theorem l6 (l:List PV):AV.namesL (ci l)=[]:=fY _
theorem jV (T:Nat)(f:Bool)(l:List AV):(Blk.cells T f l).names=AV.namesL l:=_root_.id rfl
theorem pG (e s:Nat):(Blk.tok e s).names=[]:=_root_.id rfl
theorem l8:Blk.none.names=[]:=_root_.id rfl
theorem AZ (acc:List Nat):bd acc []=acc:=_root_.id rfl
def Et (acc:List Nat)(n:Nat):Bool→List Nat
 | true=>acc
 | false=>acc++[n]
theorem fc (x:Nat):∀ l:List Nat,l.contains x=nH x l
 | []=>rfl
 | y::r=>by
   rw[List.contains_cons,fc x r,j1]
   by_cases h:y=x
   ·simp[h]
   ·have h':¬ x=y:=fun e=>h e.symm
    simp[h,h']
theorem wv (acc:List Nat)(n:Nat)(r:List Nat):bd acc (n::r)=bd (Et acc n (nH n acc)) r:=by
 simp only[bd,fc]
 cases nH n acc<;>rfl
theorem Ep (acc:List Nat)(n:Nat):Et acc n true=acc:=_root_.id rfl
theorem Er (acc:List Nat)(n:Nat):Et acc n false=acc++[n]:=_root_.id rfl
def geN (m0:Nat):List Nat→List Nat
 | []=>[]
 | x::r=>if m0≤x then x::geN m0 r else geN m0 r
theorem DR (m0:Nat):geN m0 []=[]:=_root_.id rfl
theorem nO (m0 x:Nat)(r:List Nat):geN m0 (x::r)=if m0≤x then x::geN m0 r else geN m0 r:=_root_.id rfl
theorem vn (m0:Nat):∀ l:List Nat,l.filter (fun r=>decide (m0≤r))=geN m0 l
 | []=>rfl
 | x::r=>by rw[List.filter_cons,vn m0 r,nO];simp
def cb (sto:List (Nat×Blk)):List Nat→List Nat
 | []=>[]
 | r::q=>(lookB r sto).names++cb sto q
theorem kG (sto:List (Nat×Blk)):cb sto []=[]:=_root_.id rfl
theorem eB (sto:List (Nat×Blk))(r:Nat)(q:List Nat):cb sto (r::q)=(lookB r sto).names++cb sto q:=_root_.id rfl
theorem dY (sto:List (Nat×Blk)):∀ l:List Nat,(l.flatMap fun r=>(lookB r sto).names)=cb sto l
 | []=>rfl
 | r::q=>by rw[List.flatMap_cons,dY sto q,eB]
theorem C1 (m0:Nat)(sto:List (Nat×Blk))(acc:List Nat):dG m0 sto 0 acc=acc:=_root_.id rfl
theorem C0 (m0:Nat)(sto:List (Nat×Blk))(k:Nat)(acc:List Nat):dG m0 sto (k+1) acc=dG m0 sto k (bd acc (geN m0 (cb sto acc))):=by
 rw[← vn,← dY];rfl
def cJ (e:List (Nat×AV)):List Nat→List Nat
 | []=>[]
 | k::r=>(look k e).names++cJ e r
theorem kv (e:List (Nat×AV)):cJ e []=[]:=_root_.id rfl
theorem iV (e:List (Nat×AV))(k:Nat)(r:List Nat):cJ e (k::r)=(look k e).names++cJ e r:=_root_.id rfl
theorem gr (e:List (Nat×AV))(σ:List (Nat×Blk))(n:Nat):∀ l:List Nat,(l.flatMap fun i=>((⟨e,σ,n⟩:St).E i).names)=cJ e l
 | []=>rfl
 | k::r=>by rw[List.flatMap_cons,gr e σ n r];rfl
def sM:Nat→Nat→List Nat
 | 0,_=>[]
 | n+1,k=>k::sM n (k+1)
theorem Ia (k:Nat):sM 0 k=[]:=_root_.id rfl
theorem Fl (n k:Nat):sM (n+1) k=k::sM n (k+1):=_root_.id rfl
theorem sL:∀ n k:Nat,sM n k=List.range' k n
 | 0,k=>rfl
 | n+1,k=>by rw[Fl,sL n,List.range'_succ]
theorem Bu (n:Nat):List.range n=sM n 0:=by rw[sL,List.range_eq_range']
theorem Dm (m0:Nat)(keep:List Nat)(e:List (Nat×AV))(σ:List (Nat×Blk))(n:Nat):FC m0 keep ⟨e,σ,n⟩=dG m0 σ σ.length (bd [] (geN m0 (cJ e keep++cb σ (sM m0 0)))):=by
 rw[← vn,← gr e σ n,← dY,← Bu];rfl
def jT (f:Nat→Option Nat)(e:List (Nat×AV)):List Nat→List (Nat×AV)
 | []=>[]
 | k::r=>(k,(look k e).ren f)::jT f e r
theorem ug (f:Nat→Option Nat)(e:List (Nat×AV)):jT f e []=[]:=_root_.id rfl
theorem pB (f:Nat→Option Nat)(e:List (Nat×AV))(k:Nat)(r:List Nat):jT f e (k::r)=(k,(look k e).ren f)::jT f e r:=_root_.id rfl
def uf (m0:Nat)(keep:List Nat)(e:List (Nat×AV))(σ:List (Nat×Blk))(os:List Nat):St:=⟨jT (cf m0 os) e keep,cR m0 (cf m0 os) σ (sM m0 0++os) 0,m0+os.length⟩
theorem Dq (m0:Nat)(keep:List Nat)(e:List (Nat×AV))(σ:List (Nat×Blk))(n:Nat):norm m0 keep ⟨e,σ,n⟩=uf m0 keep e σ (dG m0 σ σ.length (bd [] (geN m0 (cJ e keep++cb σ (sM m0 0))))):=by
 rw[← Dm m0 keep e σ n]
 have hE:∀ (f:Nat→Option Nat) (l:List Nat),(l.map fun i=>(i,((⟨e,σ,n⟩:St).E i).ren f))=jT f e l:=by
  intro f l
  induction l with
  | nil=>rfl
  | cons k r ih=>rw[List.map_cons,ih];rfl
 simp only[norm,uf,hE,Bu]
theorem Dt (m0:Nat)(keep:List Nat)(e:List (Nat×AV))(σ:List (Nat×Blk))(x:Nat)(r:List Nat):uf m0 keep e σ (x::r)=⟨jT (cf m0 (x::r)) e keep,cR m0 (cf m0 (x::r)) σ (sM m0 0++(x::r)) 0,m0+(x::r).length⟩:=_root_.id rfl
theorem Dr (m0:Nat)(keep:List Nat)(e:List (Nat×AV))(σ:List (Nat×Blk)):uf m0 keep e σ []=⟨jT (cf m0 []) e keep,cR m0 (cf m0 []) σ (sM m0 0) 0,m0⟩:=by
 simp only[uf,List.append_nil];rfl
theorem oQ (m0:Nat)(f:Nat→Option Nat)(σ:List (Nat×Blk))(k:Nat):cR m0 f σ [] k=[]:=_root_.id rfl
theorem lz (m0:Nat)(f:Nat→Option Nat)(σ:List (Nat×Blk))(r:Nat)(q:List Nat)(k:Nat):cR m0 f σ (r::q) k=(k,(lookB r σ).ren f)::cR m0 f σ q (k+1):=_root_.id rfl
theorem pE (m0:Nat)(os:List Nat)(r:Nat):cf m0 os r=if r<m0 then some r else z6 r os m0:=_root_.id rfl
theorem z1 (x k:Nat):z6 x [] k=none:=_root_.id rfl
theorem vi (x y:Nat)(r:List Nat)(k:Nat):z6 x (y::r) k=if y=x then some k else z6 x r (k+1):=_root_.id rfl
def Ic (o:Nat):Option Nat→AV
 | some q=>.ptr q o
 | none=>.any
def Ib (a b c:Nat):Option Nat→AV
 | some q=>.row q a b c
 | none=>.any
def Id (a:Nat)(l:List PV):Option Nat→AV
 | some q=>.olist q a l
 | none=>.pv (.list l)
theorem Bw (f:Nat→Option Nat)(p:PV):(AV.pv p).ren f = .pv p:=by simp only[AV.ren]
theorem CY (f:Nat→Option Nat):AV.any.ren f = .any:=by simp only[AV.ren]
theorem CW (f:Nat→Option Nat)(r o:Nat):(AV.ptr r o).ren f=Ic o (f r):=by simp only[AV.ren,Ic]<;>(cases f r<;>rfl)
theorem CV (f:Nat→Option Nat)(r a b c:Nat):(AV.row r a b c).ren f=Ib a b c (f r):=by simp only[AV.ren,Ib]<;>(cases f r<;>rfl)
theorem Ft (f:Nat→Option Nat)(r a:Nat)(l:List PV):(AV.olist r a l).ren f=Id a l (f r):=by simp only[AV.ren,Id]<;>(cases f r<;>rfl)
theorem CZ (f:Nat→Option Nat)(cs:List AV):(AV.agg cs).ren f = .agg (AV.renL f cs):=by simp only[AV.ren]
theorem CU (f:Nat→Option Nat)(cs:List AV):(AV.tup cs).ren f = .tup (AV.renL f cs):=by simp only[AV.ren]
theorem CX (f:Nat→Option Nat)(g:Nat)(fs cs:List AV):(AV.clo g fs cs).ren f = .clo g (AV.renL f fs) (AV.renL f cs):=by simp only[AV.ren]
theorem sR (o q:Nat):Ic o (some q) = .ptr q o:=_root_.id rfl
theorem sQ (a b c q:Nat):Ib a b c (some q) = .row q a b c:=_root_.id rfl
theorem sU (a:Nat)(l:List PV)(q:Nat):Id a l (some q) = .olist q a l:=_root_.id rfl
theorem yj (f:Nat→Option Nat):AV.renL f []=[]:=_root_.id rfl
theorem jA (f:Nat→Option Nat)(x:AV)(r:List AV):AV.renL f (x::r)=x.ren f::AV.renL f r:=by simp only[AV.renL]
theorem lB (f:Nat→Option Nat):∀ l:List PV,AV.renL f (l.map .pv)=l.map .pv
 | []=>rfl
 | x::r=>by rw[List.map_cons,jA,lB f r,Bw]
theorem sV (f:Nat→Option Nat)(l:List PV):AV.renL f (ci l)=ci l:=lB f _
theorem oR (f:Nat→Option Nat)(T:Nat)(b:Bool)(l:List AV):(Blk.cells T b l).ren f = .cells T b (AV.renL f l):=_root_.id rfl
theorem yk (f:Nat→Option Nat)(e s:Nat):(Blk.tok e s).ren f = .tok e s:=_root_.id rfl
theorem sX (f:Nat→Option Nat):Blk.none.ren f = .none:=_root_.id rfl
theorem zj (A:List (Nat×Nat×Nat×Nat))(m0:Nat)(keep:List Nat)(s:St):cG A m0 keep s=norm m0 keep (A1 A s):=_root_.id rfl
theorem A0 (s:St):A1 [] s=s:=_root_.id rfl
theorem ww (k e sz:Nat)(r:List (Nat×Nat×Nat×Nat))(env:List (Nat×AV))(σ:List (Nat×Blk))(n:Nat):A1 ((k,0,e,sz)::r) ⟨env,σ,n⟩=A1 r (Ew k e sz ⟨env,σ,n⟩ (look k env)):=_root_.id rfl
theorem wy (k j e sz:Nat)(r:List (Nat×Nat×Nat×Nat))(env:List (Nat×AV))(σ:List (Nat×Blk))(n:Nat):A1 ((k,j+1,e,sz)::r) ⟨env,σ,n⟩=A1 r (GU j e sz ⟨env,σ,n⟩ (look k env)):=_root_.id rfl
theorem wC (k e sz:Nat)(env:List (Nat×AV))(σ:List (Nat×Blk))(n:Nat):Ew k e sz ⟨env,σ,n⟩ (.pv .nils)=⟨(k,eR n e sz)::env,(n,bF e sz)::σ,n+1⟩:=_root_.id rfl
theorem A5 (k e sz r a b c:Nat)(s:St):Ew k e sz s (.row r a b c)=s:=_root_.id rfl
theorem Dv {n e sz:Nat}(h:e<1000000):eR n e sz = .olist n sz []:=if_pos h
theorem Du {n e sz:Nat}(h:1000000≤e):eR n e sz = .row n sz 0 0:=if_neg (Nat.not_lt.2 h)
theorem zm {e sz:Nat}(h:e<1000000):bF e sz = .tok e sz:=if_pos h
theorem zl {e sz:Nat}(h:1000000≤e):bF e sz = .cells (e - 1000000) false []:=if_neg (Nat.not_lt.2 h)
theorem Ev (k e sz r a:Nat)(l:List PV)(s:St):Ew k e sz s (.olist r a l)=s:=_root_.id rfl
theorem A3 (o e sz r b:Nat)(env:List (Nat×AV))(σ:List (Nat×Blk))(n:Nat):GU o e sz ⟨env,σ,n⟩ (.ptr r b)=Ex r (b+o) e sz ⟨env,σ,n⟩ (lookB r σ):=_root_.id rfl
theorem qZ (r o e sz T:Nat)(f:Bool)(l:List AV)(s:St):Ex r o e sz s (.cells T f l)=EQ r T f l o e sz s l[o]?:=_root_.id rfl
theorem wA (r T:Nat)(f:Bool)(l:List AV)(o e sz:Nat)(env:List (Nat×AV))(σ:List (Nat×Blk))(n:Nat):EQ r T f l o e sz ⟨env,σ,n⟩ (some (.pv .nils))=⟨env,(r,.cells T f (l.set o (eR n e sz)))::(n,bF e sz)::σ,n+1⟩:=_root_.id rfl
theorem A4 (r T:Nat)(f:Bool)(l:List AV)(o e sz:Nat)(s:St)(q a b c:Nat):EQ r T f l o e sz s (some (.row q a b c))=s:=_root_.id rfl
theorem Eu (r T:Nat)(f:Bool)(l:List AV)(o e sz:Nat)(s:St)(q a:Nat)(k:List PV):EQ r T f l o e sz s (some (.olist q a k))=s:=_root_.id rfl
theorem Jf {α:Type}(x y:α)(r:List α):(x::r).set 0 y=y::r:=_root_.id rfl
theorem Je {α:Type}(x y:α)(r:List α)(n:Nat):(x::r).set (n+1) y=x::r.set n y:=_root_.id rfl
theorem HX (e e':List (Nat×AV))(σ σ':List (Nat×Blk))(n n':Nat):(St.mk e σ n=St.mk e' σ' n')=(e=e'∧σ=σ'∧n=n'):=by rw[St.mk.injEq]
theorem Gi {a b:Nat}(h:a<b):decide (a<b)=true:=decide_eq_true h
theorem Gj {a b:Nat}(h:¬ a<b):decide (a<b)=false:=decide_eq_false h
theorem Gk {a b:Nat}(h:a≤b):decide (a≤b)=true:=decide_eq_true h
theorem Gl {a b:Nat}(h:¬ a≤b):decide (a≤b)=false:=decide_eq_false h
theorem Gm {a b:Nat}(h:a=b):decide (a=b)=true:=decide_eq_true h
theorem Gn {a b:Nat}(h:¬ a=b):decide (a=b)=false:=decide_eq_false h
theorem aZ {α:Type}{l:List α}{m:Nat}{x:α}(h:l[m]? = some x):l.take (m+1)=l.take m++[x]:=by
 obtain⟨h1,h2⟩:=List.getElem?_eq_some_iff.1 h
 rw[List.take_succ_eq_append_getElem h1,h2]
def F2 (cells:List AV)(off sz:Nat)(r:List (Nat×Nat×AV))(xc:List AV):Bool→Option (List AV)
 | true=>dV (cells.take off++xc++cells.drop (off+sz)) r
 | false=>none
theorem D2 (cells:List AV)(off sz:Nat)(r:List (Nat×Nat×AV))(xc:List AV):F2 cells off sz r xc true=dV (cells.take off++xc++cells.drop (off+sz)) r:=_root_.id rfl
theorem vw (cells:List AV):dV cells []=some cells:=_root_.id rfl
theorem ql (cells:List AV)(off sz:Nat)(x:AV)(r:List (Nat×Nat×AV)):dV cells ((off,sz,x)::r)=F2 cells off sz r x.cells (x.known&&decide (x.cells.length=sz)&&decide (off+sz≤cells.length)):=by
 simp only[dV]
 by_cases h:x.known=true∧x.cells.length=sz∧off+sz≤cells.length
 ·rw[if_pos h,h.1,decide_eq_true h.2.1,decide_eq_true h.2.2];rfl
 ·rw[if_neg h]
  have:(x.known&&decide (x.cells.length=sz)&&decide (off+sz≤cells.length))=false:=by
   rw[Bool.eq_false_iff]
   intro hh
   simp only[Bool.and_eq_true,decide_eq_true_eq] at hh
   exact h ⟨hh.1.1,hh.1.2,hh.2⟩
  rw[this];rfl
theorem y6 (sz off:Nat)(cs:List AV):Fy sz off cs=if off+sz≤cs.length then some (fh ((cs.drop off).take sz)) else none:=_root_.id rfl
section
variable {P:Program}{G:Nat→List PV}
def wF {ι:Type}(A:List (Nat×Nat×Nat×Nat))(S:ι→St)(Inv:ι→Prop)(μ:ι→Nat)(x:ι)(m0:Nat)(keep:List Nat)(id:Nat)(keepX:List Nat)(fin:ι→Prop)(Q:AExit→St→Prop):AExit→St→Prop
 | .norm,s'=>∃ x',Hd A m0 keep s' (S x')∧Inv x'∧μ x'<μ x
 | .exit i,s'=>if i=id then ∃ x',fin x'∧norm m0 keepX s'=norm m0 keepX (S x') else Q (.exit i) s'
 | .ret,s'=>Q .ret s'
theorem m7 {ι:Type}(A:List (Nat×Nat×Nat×Nat))(S:ι→St)(Inv:ι→Prop)(μ:ι→Nat)(x:ι)(m0:Nat)(keep:List Nat)(id:Nat)(keepX:List Nat)(fin:ι→Prop)(Q:AExit→St→Prop)(s:St):wF A S Inv μ x m0 keep id keepX fin Q .norm s = ∃ x',Hd A m0 keep s (S x')∧Inv x'∧μ x'<μ x:=_root_.id rfl
theorem m8 {ι:Type}(A:List (Nat×Nat×Nat×Nat))(S:ι→St)(Inv:ι→Prop)(μ:ι→Nat)(x:ι)(m0:Nat)(keep:List Nat)(id:Nat)(keepX:List Nat)(fin:ι→Prop)(Q:AExit→St→Prop)(i:Nat)(s:St):wF A S Inv μ x m0 keep id keepX fin Q (.exit i) s=if i=id then (∃ x',fin x'∧norm m0 keepX s=norm m0 keepX (S x')) else Q (.exit i) s:=_root_.id rfl
theorem q0 {ι:Type}(A:List (Nat×Nat×Nat×Nat))(S:ι→St)(Inv:ι→Prop)(μ:ι→Nat)(x:ι)(m0:Nat)(keep:List Nat)(id:Nat)(keepX:List Nat)(fin:ι→Prop)(Q:AExit→St→Prop)(s:St):wF A S Inv μ x m0 keep id keepX fin Q .ret s=Q .ret s:=_root_.id rfl
end
end Go.Ab
set_option linter.unusedVariables false
set_option linter.unusedSimpArgs false
namespace Go.Ab
open Go Go.RowKit
def Kap.cut (κ:Kap)(k:Nat):Kap:=⟨κ.w,fun r=>if r<k then κ.nm r else none,κ.imm⟩
theorem Kap.cut_ext (κ:Kap)(k:Nat):Ext (κ.cut k) κ:=by
 refine⟨fun _ _ h=>h,fun _ _ _ _ h=>h,fun r d h=>?_,fun _ _ h _=>h⟩
 simp only[Kap.cut] at h
 split at h
 ·exact h
 ·cases h
theorem Kap.cut_none (κ:Kap)(k r:Nat)(h:k≤r):(κ.cut k).nm r=none:=by simp only[Kap.cut];rw[if_neg (by omega)]
def kR (P:Program)(G:Nat→List PV)(k:Nat)(f:Nat)(args:List AV)(sto:List (Nat×Blk))(next:Nat)(Q:AV→List (Nat×Blk)→Nat→Prop):Prop:=
 bi P f=true∧∀ (κ:Kap) (vals:Array Value),SRel (bt κ (fun r=>lookB r sto) G) κ (fun r=>lookB r sto)→(∀ r,next≤r→κ.nm r=none)→vals.size=args.length →
  (∀ (i:Nat) (x:AV),args[i]? = some x→ARel κ x (vals.getD i Go.undef)) →
  Calls P f vals κ.w fun e w'=>∃ u v κ' sto' next',e = .returned u∧κ'.w=w'∧Ext (κ.cut k) κ'∧Left (bt κ (fun r=>lookB r sto) G) κ.imm κ'∧ARel κ' v u ∧
   SRel (bt κ (fun r=>lookB r sto) G) κ' (fun r=>lookB r sto')∧(∀ r,next'≤r→κ'.nm r=none)∧Q v sto' next'
section
variable {P:Program}{G:Nat→List PV}
theorem kR.of_code {muts:List Nat}{k f:Nat}{fn:AFn}{args:List AV}{sto:List (Nat×Blk)}{next:Nat}{R:AV→List (Nat×Blk)→Nat→Prop}(hc:cFn P muts f=some fn)(hn:args.length≤fn.N)
  (hv:vc P G k fn.body (FnK G fn.res R) ⟨bN args,sto,next⟩):kR P G k f args sto next R:=by
 unfold cFn at hc
 split at hc
 ·rename_i fnc hfn
  split at hc
  ·rename_i co hco
   split at hc
   ·rename_i rs hrs
    split at hc
    ·rename_i hok
     split at hc
     ·rename_i b li hb
      cases hc
      refine⟨hok,fun κ vals hS hf hsz hargs=>?_⟩
      refine callsIn_wide.1 (callsIn_of_wp_marks (n:=0) hfn hco trivial ?_ rfl)
      let c:=bt κ (fun r=>lookB r sto) G
      have hsize:(vals++Array.replicate (fnc.ntmps - vals.size) Go.undef).size=fnc.ntmps:=by
       simp only at hn
       simp only[Array.size_append,Array.size_replicate];omega
      have hR:Rel c (κ.cut k) fnc.ntmps ⟨bN args,sto,next⟩ ⟨vals++Array.replicate (fnc.ntmps - vals.size) Go.undef,[]⟩ κ.w κ:=by
       refine⟨rfl,κ.cut_ext k,hS,⟨rfl,rfl,rfl,Nat.le_refl _,fun _ _ _=>rfl,fun _ _ h=>.inl h⟩,fun i=>?_,hsize,bS.nil _ _,hf⟩
       show ARel κ (look i ((args.zipIdx 0).map fun p=>(p.2,p.1))) _
       rw[f7,if_pos (Nat.zero_le _),Nat.sub_zero]
       cases hx:args[i]? with
       | none=>exact .any _
       | some x=>
         have hi:i<vals.size:=by rw[hsz];exact (List.getElem?_eq_some_iff.1 hx).1
         have:=hargs i x hx
         have e:(vals++Array.replicate (fnc.ntmps - vals.size) Go.undef).getD i Go.undef=vals.getD i Go.undef:=by
          simp only[Array.getD_eq_getD_getElem?]
          rw[Array.getElem?_append_left hi]
         rw[e];exact this
      refine Go.wpIn_mono (ni (P:=P) (N:=fnc.ntmps) co c (κ.cut k) k none 0 b [] (eI rs) li (FnK G rs R) _ _ κ.w κ (.inl rfl) (fun r hr=>κ.cut_none k r hr) (Nat.le_refl _) hb hR hv) ?_
      have fin:∀ (s:St) (κ':Kap) (a:Act) (w:World),Rel c (κ.cut k) fnc.ntmps s a w κ'→aC (dc G s rs) (Bv R s)→∃ v,(results fnc a.tmps).run P w = .ok v w ∧
        ∃ u v' κ'' sto' next',Ending.returned v = .returned u∧κ''.w=w∧Ext (κ.cut k) κ''∧Left c κ.imm κ''∧ARel κ'' v' u∧SRel c κ'' (fun r=>lookB r sto')∧(∀ r,next'≤r→κ''.nm r=none)∧R v' sto' next':=by
       intro s κ' a w hR hF
       simp only[aC] at hF
       split at hF
       ·rename_i vs hvs
        obtain⟨us,h1,h2,h3⟩:=fL (P:=P) hR fnc.results.toList rs vs hrs hvs
        have hrun:(results fnc a.tmps).run P w = .ok (if h:us.toArray.size=1 then us.toArray[0] else .tuple us.toArray) w:=by
         rw[gT,Sem.run_bind,Array.mapM_eq_mapM_toList]
         simp only[Sem.run_bind,Sem.run_map]
         rw[h1]
         simp
        refine⟨_,hrun,_,re vs,κ',s.sto,s.next,rfl,hR.w_eq,hR.ext0,hR.left,?_,hR.rel,hR.fresh,hF⟩
        by_cases hl:vs.length=1
        ·obtain⟨v,rfl⟩:=List.length_eq_one_iff.1 hl
         obtain⟨u,rfl⟩:=List.length_eq_one_iff.1 (h2.trans hl)
         have:=h3 0 v rfl
         exact this
        ·have hul:¬ us.toArray.size=1:=by simpa[h2] using hl
         rw[dif_neg hul]
         have hrv:re vs=jY vs:=by
          unfold re
          split
          ·simp at hl
          ·rfl
         rw[hrv]
         exact jX (.tup _ _ (by simpa using h2) (fun i x hx=>by rw[au];simpa using h3 i x hx))
       ·exact hF.elim
      intro e a w hq
      cases e with
      | normal=>
        obtain⟨s,κ',hR,hF⟩:=hq
        exact eo (Nat.le_refl _) rfl hR fun w' κ'' hR'=>fin s κ'' ⟨a.tmps,[]⟩ w' hR' hF
      | ret=>
        obtain⟨s,κ',hR,hF⟩:=hq
        exact eo (Nat.le_refl _) rfl hR fun w' κ'' hR'=>fin s κ'' ⟨a.tmps,[]⟩ w' hR' hF
      | exit id=>
        obtain⟨s,κ',hR,hF⟩:=hq
        exact hF.elim
      | goto l=>exact hq.elim
      | panic ch=>exact hq.elim
      | outgrown=>exact hq.elim
     ·cases hc
    ·cases hc
   ·cases hc
  ·cases hc
 ·cases hc
def bC:List Blk→Nat→List (Nat×Blk)
 | [],_=>[]
 | b::r,k=>(k,b)::bC r (k+1)
theorem g7:∀ (bs:List Blk) (k i:Nat),lookB i (bC bs k)=if k≤i then bs.getD (i - k) .none else .none
 | [],k,i=>by simp[bC,lookB]
 | b::r,k,i=>by
   simp only[bC,lookB]
   by_cases h:k=i
   ·subst h;simp
   ·rw[if_neg h,g7 r (k+1) i]
    by_cases hk:k≤i
    ·rw[if_pos (by omega),if_pos hk,show i - k=(i - (k+1))+1 by omega];simp
    ·rw[if_neg (by omega),if_neg hk]
theorem dS (bs:List Blk):(fun r=>lookB r (bC bs 0))=fun r=>bs.getD r .none:=by
 funext r;rw[g7];simp
def jf (P:Program)(G:Nat→List PV)(k f:Nat)(args:List AV)(bs:List Blk)(v:AV)(bs':List Blk):Prop:=
 kR P G k f args (bC bs 0) bs.length fun v' sto' next'=>v'=v∧sto'=bC bs' 0∧next'=bs'.length
def DI (k:Nat)(v:AV)(bs':List Blk)(v':AV)(sto':List (Nat×Blk))(next':Nat):Prop:=
 Wk k ⟨[(0,v')],sto',next'⟩ ⟨[(0,v)],bC bs' 0,bs'.length⟩
theorem jf.of_lcalls {k f:Nat}{args:List AV}{bs:List Blk}{v:AV}{bs':List Blk}(h:kR P G k f args (bC bs 0) bs.length (DI k v bs')):jf P G k f args bs v bs':=by
 obtain⟨hcal,h⟩:=h
 refine⟨hcal,fun κ vals hS hf hsz hargs=>(h κ vals hS hf hsz hargs).mono ?_⟩
 rintro e w' ⟨u,v',κ',sto',next',rfl,rfl,he,hL,hv,hS',hf',hw⟩
 obtain⟨κ'',hR⟩:=hw _ (κ.cut k) κ' 1 ⟨#[u],[]⟩ κ'.w (fun r hr=>κ.cut_none k r hr) ⟨rfl,he,hS',hL,fun i=>by
  show ARel κ' (look i [(0,v')]) _
  by_cases hi:0=i
  ·subst hi;simpa[look] using hv
  ·simp only[look,if_neg hi];exact .any _,rfl,bS.nil _ _,hf'⟩
 refine⟨u,v,κ'',_,_,rfl,hR.w_eq,hR.ext0,hR.left,?_,hR.rel,hR.fresh,rfl,rfl,rfl⟩
 have:=hR.env 0
 simpa[St.E,look] using this
theorem jf.intro {muts:List Nat}{k f:Nat}{fn:AFn}{args:List AV}{bs:List Blk}{v:AV}{bs':List Blk}(hc:cFn P muts f=some fn)(hn:args.length≤fn.N)
  (hv:vc P G k fn.body (FnK G fn.res (DI k v bs')) ⟨bN args,bC bs 0,bs.length⟩):jf P G k f args bs v bs':=
 jf.of_lcalls (kR.of_code hc hn hv)
def gIn (next:Nat):List Nat→Nat→Nat
 | [],i=>next+i
 | r::_,0=>r
 | _::q,i+1=>gIn next q i
def gSo (next:Nat)(rs:List Nat)(r:Nat):Option Nat:=some (gIn next rs r)
theorem gl (next:Nat):∀ (rs:List Nat) (i:Nat) (r:Nat),rs[i]? = some r→gIn next rs i=r
 | [],i,r,h=>by simp at h
 | x::q,0,r,h=>by simpa[gIn] using h
 | x::q,i+1,r,h=>by simpa[gIn] using gl next q i r (by simpa using h)
theorem g9 (next:Nat):∀ (rs:List Nat) (i:Nat),rs.length≤i→gIn next rs i=next+(i - rs.length)
 | [],i,h=>by simp[gIn]
 | x::q,0,h=>by simp at h
 | x::q,i+1,h=>by
   simp only[List.length_cons] at h
   rw[gIn,g9 next q i (by omega)]
   simp
mutual
theorem unren {κ κ':Kap}(hw:κ'.w=κ.w)(hi:κ'.imm=κ.imm){g:Nat→Nat}(hf:∀ r,κ'.nm r=κ.nm (g r)):∀ (x:AV) (v:Value),ARel κ (x.ren fun r=>some (g r)) v→ARel κ' x v
 | .pv p,v,h=>by
   simp only[AV.ren] at h
   cases h with
   | pv _ _ hp=>exact .pv _ _ (by rw[hw,hi];exact hp)
 | .any,v,h=>.any v
 | .ptr r o,v,h=>by
   simp only[AV.ren] at h
   cases h with
   | ptr _ _ b n hn=>exact .ptr _ _ b n (by rw[hf r];exact hn)
 | .row r a b c,v,h=>by
   simp only[AV.ren] at h
   cases h with
   | row _ _ _ _ bb n cap hn h1 h2 h3 h4=>exact .row _ _ _ _ bb n cap (by rw[hf r];exact hn) h1 h2 h3 h4
   | row0 _ _ hn=>exact .row0 _ _ (by rw[hf r];exact hn)
 | .olist r a l,v,h=>by
   simp only[AV.ren] at h
   cases h with
   | olist _ _ _ _ hn hp hs=>exact .olist _ _ _ _ (by rw[hf r];exact hn) (by rw[hw,hi];exact hp) hs
 | .mp r,v,h=>by
   simp only[AV.ren] at h
   cases h with
   | mp _ b hn=>exact .mp _ _ (by rw[hf r];exact hn)
 | .agg cs,v,h=>by
   simp only[AV.ren] at h
   cases h with
   | agg _ vs hl hr=>
     obtain⟨h1,h2⟩:=fF hw hi hf cs vs hr
     exact .agg _ _ (by rw[← h1];exact hl) h2
 | .tup cs,v,h=>by
   simp only[AV.ren] at h
   cases h with
   | tup _ vs hl hr=>
     obtain⟨h1,h2⟩:=fF hw hi hf cs vs hr
     exact .tup _ _ (by rw[← h1];exact hl) h2
 | .clo g fs cs,v,h=>by
   simp only[AV.ren] at h
   cases h with
   | clo _ _ _ vs us hl hr hl' hr'=>
     obtain⟨h1,h2⟩:=fF hw hi hf fs vs hr
     obtain⟨h3,h4⟩:=fF hw hi hf cs us hr'
     exact .clo _ _ _ _ _ (by rw[← h1];exact hl) h2 (by rw[← h3];exact hl') h4
theorem fF {κ κ':Kap}(hw:κ'.w=κ.w)(hi:κ'.imm=κ.imm){g:Nat→Nat}(hf:∀ r,κ'.nm r=κ.nm (g r)):∀ (xs:List AV) (vs:Array Value),
  (∀ (i:Nat) (x:AV),(AV.renL (fun r=>some (g r)) xs)[i]? = some x→ARel κ x (vs.getD i Go.undef))→(AV.renL (fun r=>some (g r)) xs).length=xs.length∧∀ (i:Nat) (x:AV),xs[i]? = some x→ARel κ' x (vs.getD i Go.undef)
 | [],vs,h=>by simp[AV.renL]
 | x::r,vs,h=>by
   have e:∀ i,(vs.extract 1 vs.size).getD i Go.undef=vs.getD (i+1) Go.undef:=by
    intro i
    simp only[Array.getD_eq_getD_getElem?,Array.getElem?_extract]
    by_cases hh:i<min vs.size vs.size - 1
    ·rw[if_pos hh];congr 2;omega
    ·rw[if_neg hh,Array.getElem?_eq_none (by omega)]
   obtain⟨h1,h2⟩:=fF hw hi hf r (vs.extract 1 vs.size) (fun i y hy=>by
    have:=h (i+1) y (by simpa[AV.renL] using hy)
    rw[e];exact this)
   refine⟨by simp[AV.renL,h1],fun i y hy=>?_⟩
   cases i with
   | zero=>
     simp only[List.getElem?_cons_zero,Option.some.injEq] at hy
     subst hy
     exact unren hw hi hf x _ (h 0 _ (by simp[AV.renL]))
   | succ i=>
     simp only[List.getElem?_cons_succ] at hy
     have:=h2 i y hy
     rw[e] at this;exact this
end
theorem c7.unren {κ κ':Kap}(hw:κ'.w=κ.w)(hi:κ'.imm=κ.imm){g:Nat→Nat}(hf:∀ r,κ'.nm r=κ.nm (g r)){r:Nat}{B:Blk}(h:c7 κ (g r) (B.ren fun r=>some (g r))):c7 κ' r B:=by
 cases B with
 | none=>trivial
 | cells T f l=>
   simp only[Blk.ren] at h
   rcases h with ⟨h1,h2,h3⟩ | ⟨b,n,cs,h1,h2,h3,h4,h5,h6,h7⟩
   ·refine .inl ⟨h1,?_,by rw[hf];exact h3⟩
    cases l with
    | nil=>rfl
    | cons x r=>simp[AV.renL] at h2
   ·obtain⟨q1,q2⟩:=fF hw hi hf l cs h6
    exact .inr ⟨b,n,cs,by rw[hf];exact h1,by rw[hw];exact h2,h3,by rw[← q1];exact h4,fun hb=>by rw[← q1];exact h5 hb,q2,by rw[hi];exact h7⟩
 | tok e sz=>
   simp only[Blk.ren] at h
   rcases h with h | ⟨g',n,cap,cur,h1,h2,h3⟩
   ·exact .inl (by rw[hf];exact h)
   ·exact .inr ⟨g',n,cap,cur,by rw[hf];exact h1,by rw[hw];exact h2,by rw[hi];exact h3⟩
 | mp l=>
   obtain⟨b,es,ck,h1,h2⟩:=h
   exact⟨b,es,ck,by rw[hf];exact h1,by rw[hw,hi];exact h2⟩
theorem c7.ren {κ κ':Kap}(hw:κ'.w=κ.w)(hi:κ'.imm=κ.imm){g:Nat→Nat}(hf:∀ r,κ'.nm (g r)=κ.nm r){r:Nat}{B:Blk}(h:c7 κ r B):c7 κ' (g r) (B.ren fun r=>some (g r)):=by
 have hf':∀ r r',(fun r=>some (g r)) r=some r'→κ'.nm r'=κ.nm r:=fun r r' h=>by cases h;exact hf r
 cases B with
 | none=>trivial
 | cells T f l=>
   simp only[Blk.ren]
   rcases h with ⟨h1,h2,h3⟩ | ⟨b,n,cs,h1,h2,h3,h4,h5,h6,h7⟩
   ·exact .inl ⟨h1,by rw[h2];simp only[AV.renL],by rw[hf];exact h3⟩
   ·obtain⟨q1,q2⟩:=cC hw hi hf' l cs h6
    exact .inr ⟨b,n,cs,by rw[hf];exact h1,by rw[hw];exact h2,h3,by rw[q1];exact h4,fun hb=>by rw[q1];exact h5 hb,q2,by rw[hi];exact h7⟩
 | tok e sz=>
   simp only[Blk.ren]
   rcases h with h | ⟨g',n,cap,cur,h1,h2,h3⟩
   ·exact .inl (by rw[hf];exact h)
   ·exact .inr ⟨g',n,cap,cur,by rw[hf];exact h1,by rw[hw];exact h2,by rw[hi];exact h3⟩
 | mp l=>
   obtain⟨b,es,ck,h1,h2⟩:=h
   exact⟨b,es,ck,by rw[hf];exact h1,by rw[hw,hi];exact h2⟩
def pu (f:Nat→Option Nat):List Blk→Nat→(Nat→Nat)→List (Nat×Blk)
 | [],_,_=>[]
 | b::r,i,g=>(g i,b.ren f)::pu f r (i+1) g
def eQ:List Nat→List (Nat×Blk)
 | []=>[]
 | r::q=>(r,.none)::eQ q
def eD (sto:List (Nat×Blk))(f:Nat→Option Nat):List Nat→List Blk→Prop
 | [],[]=>True
 | r::rs,b::bs=>BlkZ (lookB r sto) (b.ren f)∧eD sto f rs bs
 | _,_=>False
theorem eD.get {sto:List (Nat×Blk)}{f:Nat→Option Nat}:∀ {rs:List Nat} {bs:List Blk},eD sto f rs bs→rs.length=bs.length∧∀ (i r:Nat) (b:Blk),rs[i]? = some r→bs[i]? = some b→BlkZ (lookB r sto) (b.ren f)
 | [],[],h=>⟨rfl,by simp⟩
 | r::rs,b::bs,h=>by
   obtain⟨h1,h2⟩:=h
   obtain⟨h3,h4⟩:=eD.get h2
   refine⟨by simp[h3],fun i q d hq hd=>?_⟩
   cases i with
   | zero=>simp at hq hd;subst hq;subst hd;exact h1
   | succ i=>exact h4 i q d (by simpa using hq) (by simpa using hd)
 | [],_::_,h=>h.elim
 | _::_,[],h=>h.elim
end
end Go.Ab
set_option linter.unusedVariables false
set_option linter.unusedSimpArgs false
namespace Go.Ab
open Go Go.RowKit
section
variable {P:Program}{G:Nat→List PV}
theorem c7.named {κ:Kap}{r:Nat}{B:Blk}(h:c7 κ r B)(hB:B≠.none):∃ d,κ.nm r=some d:=by
 cases B with
 | none=>exact absurd rfl hB
 | cells T f l=>
   rcases h with ⟨_,_,h⟩ | ⟨b,n,cs,h,_⟩
   ·exact⟨_,h⟩
   ·exact⟨_,h⟩
 | tok e sz=>
   rcases h with h | ⟨g,n,cap,cur,h,_⟩
   ·exact⟨_,h⟩
   ·exact⟨_,h⟩
 | mp l=>
   obtain⟨b,es,ck,h,_⟩:=h
   exact⟨_,h⟩
theorem Blk.ren_ne {f:Nat→Option Nat}{b:Blk}:b.ren f≠.none↔b≠.none:=by
 cases b<;>simp[Blk.ren]
theorem DT {next:Nat}{rs:List Nat}(hnd:rs.Nodup)(hlt:∀ r∈rs,r<next){i j:Nat}(h:gIn next rs i=gIn next rs j):i=j:=by
 by_cases hi:i<rs.length
 ·have ei:=gl next rs i _ (List.getElem?_eq_getElem hi)
  have hi':=hlt _ (List.getElem_mem hi)
  by_cases hj:j<rs.length
  ·have ej:=gl next rs j _ (List.getElem?_eq_getElem hj)
   rw[ei,ej] at h
   exact (List.getElem_inj hnd).1 h
  ·have ej:=g9 next rs j (by omega)
   omega
 ·have ei:=g9 next rs i (by omega)
  by_cases hj:j<rs.length
  ·have ej:=gl next rs j _ (List.getElem?_eq_getElem hj)
   have hj':=hlt _ (List.getElem_mem hj)
   omega
  ·have ej:=g9 next rs j (by omega)
   omega
theorem kf {f:Nat→Option Nat}{g:Nat→Nat}(hg:∀ i j,g i=g j→i=j)(rest:List (Nat×Blk))(r:Nat):∀ (bs:List Blk) (k:Nat),
  (∀ i b,bs[i]? = some b→g (k+i)=r→lookB r (pu f bs k g++rest)=b.ren f)∧((∀ i,i<bs.length→g (k+i)≠r)→lookB r (pu f bs k g++rest)=lookB r rest)
 | [],k=>⟨by simp,fun _=>rfl⟩
 | b::q,k=>by
   obtain⟨h1,h2⟩:=kf hg rest r q (k+1)
   refine⟨fun i b' hi hr=>?_,fun h=>?_⟩
   ·simp only[pu,List.cons_append,lookB]
    cases i with
    | zero=>
      simp only[List.getElem?_cons_zero,Option.some.injEq] at hi
      subst hi
      rw[if_pos (by simpa using hr)]
    | succ i=>
      rw[if_neg (fun e=>by have:=hg _ _ (e.trans hr.symm);omega)]
      exact h1 i b' (by simpa using hi) (by rw[← hr];congr 1;omega)
   ·simp only[pu,List.cons_append,lookB]
    rw[if_neg (by have:=h 0 (by simp);simpa using this)]
    exact h2 fun i hi=>by
     have:=h (i+1) (by simp;omega)
     rwa [show k+(i+1)=k+1+i by omega] at this
theorem g6 (rest:List (Nat×Blk))(r:Nat):∀ (l:List Nat),lookB r (eQ l++rest)=if r∈l then .none else lookB r rest
 | []=>by simp[eQ]
 | x::q=>by
   simp only[eQ,List.cons_append,lookB,g6 rest r q,List.mem_cons]
   by_cases h:x=r
   ·subst h;simp
   ·rw[if_neg h]
    by_cases hq:r∈q
    ·simp[hq]
    ·have:¬ (r=x∨r∈q):=by rintro (e | e);exact h e.symm;exact hq e
     rw[if_neg hq,if_neg this]
theorem jf.frame {k f:Nat}{args0:List AV}{bs:List Blk}{v:AV}{bs':List Blk}(h:jf P G k f args0 bs v bs'){rs:List Nat}{args:List AV}{sto:List (Nat×Blk)}{next:Nat}
  (hargs:AVzL args (AV.renL (gSo next rs) args0)) (hbs:eD sto (gSo next rs) rs bs) (hnd:rs.Nodup) (hlt:∀ r∈rs,r<next) (hk:k≤bs.length) (hk':k≤bs'.length) (hne:∀ b∈bs.take k,b≠.none) :
  bu P G f args sto next fun v' sto' next'=>v'=v.ren (gSo next (rs.take k))∧sto'=pu (gSo next (rs.take k)) bs' 0 (gIn next (rs.take k))++(eQ (rs.drop k)++sto)∧next'=next+(bs'.length - k):=by
 obtain⟨hcal,h⟩:=h
 refine⟨hcal,fun κ vals hS hf hsz hvals=>?_⟩
 obtain⟨hrl,hat⟩:=hbs.get
 let κ1:Kap:=⟨κ.w,fun i=>κ.nm (gIn next rs i),κ.imm⟩
 have hσ1:(fun r=>lookB r (bC bs 0))=fun r=>bs.getD r .none:=dS bs
 have hlook:∀ i b,bs[i]? = some b→∃ r,rs[i]? = some r∧gIn next rs i=r∧c7 κ r (b.ren (gSo next rs))∧(b≠.none→lookB r sto≠.none):=by
  intro i b hb
  have hi:i<rs.length:=by rw[hrl];exact (List.getElem?_eq_some_iff.1 hb).1
  have hr:=List.getElem?_eq_getElem hi
  obtain⟨q1,q2⟩:=(hat i _ b hr hb).rel (hS.blk rs[i])
  exact⟨rs[i],hr,gl next rs i _ hr,q1,fun hb'=>q2 (Blk.ren_ne.2 hb')⟩
 have hlive:∀ i,bs.getD i .none≠.none→∃ b,bs[i]? = some b∧b≠.none:=by
  intro i hi
  rw[List.getD_eq_getElem?_getD] at hi
  cases hb:bs[i]? with
  | none=>rw[hb] at hi;exact absurd rfl hi
  | some b=>rw[hb] at hi;exact⟨b,rfl,hi⟩
 have hB1:∀ i b,bs[i]? = some b→c7 κ1 i b:=by
  intro i b hb
  obtain⟨r,hr,hgr,hB,_⟩:=hlook i b hb
  exact c7.unren (κ:=κ) (κ':=κ1) rfl rfl (g:=gIn next rs) (fun _=>rfl) (by rw[hgr];exact hB)
 have hl1:∀ b,(bt κ1 (fun r=>lookB r (bC bs 0)) G).lent b→(bt κ (fun r=>lookB r sto) G).lent b:=by
  rintro b ⟨i,d,h1,h2,h3⟩
  simp only[congrFun hσ1 i] at h1
  obtain⟨b',hb,hbn⟩:=hlive i h1
  obtain⟨r,hr,hgr,_,hn⟩:=hlook i b' hb
  exact⟨r,d,hn hbn,by rw[← hgr];exact h2,h3⟩
 have hm1:∀ b,(bt κ1 (fun r=>lookB r (bC bs 0)) G).mine b→(bt κ (fun r=>lookB r sto) G).mine b:=fun b hb=>hb.elim .inl (fun h=>.inr (hl1 b h))
 have hS1:SRel (bt κ1 (fun r=>lookB r (bC bs 0)) G) κ1 (fun r=>lookB r (bC bs 0)):=by
  refine⟨fun i=>?_,fun i j d d' b h1 h2 hij hd hd' hb=>?_,fun i d b h1 hd hb=>.inr ⟨i,d,h1,hd,hb⟩,hS.immLt,?_⟩
  ·rw[congrFun hσ1 i]
   show c7 κ1 i (bs.getD i .none)
   rw[List.getD_eq_getElem?_getD]
   cases hb:bs[i]? with
   | none=>trivial
   | some b=>exact hB1 i b hb
  ·simp only[congrFun hσ1 i] at h1
   simp only[congrFun hσ1 j] at h2
   obtain⟨b1,hb1,hn1⟩:=hlive i h1
   obtain⟨b2,hb2,hn2⟩:=hlive j h2
   obtain⟨r,hr,hgr,_,hn⟩:=hlook i b1 hb1
   obtain⟨r',hr',hgr',_,hn'⟩:=hlook j b2 hb2
   refine hS.apart r r' d d' b (hn hn1) (hn' hn2) (fun e=>hij ?_) (by rw[← hgr];exact hd) (by rw[← hgr'];exact hd') hb
   obtain⟨hi,ei⟩:=List.getElem?_eq_some_iff.1 hr
   obtain⟨hj,ej⟩:=List.getElem?_eq_some_iff.1 hr'
   exact (List.getElem_inj hnd).1 (ei.trans (e.trans ej.symm))
  ·refine⟨fun g o p hp=>?_,fun g hg=>?_⟩
   ·exact hS.glob.1 g o p hp
   ·obtain⟨h1,h2,h3⟩:=hS.glob.2 g hg
    exact⟨h1,fun hl=>h2 (hl1 g hl),h3⟩
 have hf1:∀ r,bs.length≤r→κ1.nm r=none:=fun r hr=>by
  show κ.nm (gIn next rs r)=none
  rw[g9 next rs r (by omega)]
  exact hf _ (by omega)
 have hlen0:args0.length=args.length:=by
  rw[hargs.length]
  have:∀ (f:Nat→Option Nat) (l:List AV),(AV.renL f l).length=l.length:=by
   intro f l
   induction l with
   | nil=>simp[AV.renL]
   | cons x r ih=>simp[AV.renL,ih]
  rw[this]
 have hv1:∀ (i:Nat) (x:AV),args0[i]? = some x→ARel κ1 x (vals.getD i Go.undef):=
  (fF (κ:=κ) (κ':=κ1) rfl rfl (g:=gIn next rs) (fun _=>rfl) args0 vals (fun i x hx=>by
   obtain⟨y,hy,hyx⟩:=hargs.get i x hx
   exact hyx.rel (hvals i y hy))).2
 refine (h κ1 vals hS1 hf1 (by omega) hv1).mono ?_
 rintro e w' ⟨u,v',κ1',sto',next',rfl,rfl,he,hL,hv,hS',hf',rfl,rfl,rfl⟩
 obtain⟨g,hgdef⟩:∃ g,g=gIn next (rs.take k):=⟨_,rfl⟩
 have htl:(rs.take k).length=k:=by rw[List.length_take];omega
 have hg1:∀ i,i<k→∃ r,rs[i]? = some r∧g i=r∧r<next:=by
  intro i hi
  have hi':i<rs.length:=by omega
  have hr:=List.getElem?_eq_getElem hi'
  refine⟨rs[i],hr,?_,hlt _ (List.getElem_mem hi')⟩
  rw[hgdef]
  exact gl next _ i _ (by rw[List.getElem?_take,if_pos hi];exact hr)
 have hg2:∀ i,k≤i→g i=next+(i - k):=fun i hi=>by rw[hgdef,g9 next _ i (by omega),htl]
 have hginj:∀ i j,g i=g j→i=j:=fun i j hij=>by
  rw[hgdef] at hij
  exact DT (hnd.sublist (List.take_sublist _ _)) (fun r hr=>hlt r (List.mem_of_mem_take hr)) hij
 have hso:gSo next (rs.take k)=fun r=>some (g r):=by rw[hgdef];rfl
 rw[hso,← hgdef]
 let κ':Kap:=⟨κ1'.w,fun r=>if r<next then κ.nm r else κ1'.nm (k+(r - next)),κ1'.imm⟩
 have hnmk:∀ i,i<k→κ1'.nm i=κ1.nm i:=by
  intro i hi
  have hib:i<bs.length:=by omega
  have hb:=List.getElem?_eq_getElem hib
  obtain⟨d,hd⟩:=(hB1 i _ hb).named (hne _ (List.mem_take_iff_getElem.2 ⟨i,by omega,rfl⟩))
  rw[hd]
  exact he.nm i d (by simp only[Kap.cut];rw[if_pos hi];exact hd)
 have hnm':∀ i,κ'.nm (g i)=κ1'.nm i:=by
  intro i
  by_cases hi:i<k
  ·obtain⟨r,hr,hgr,hrn⟩:=hg1 i hi
   show (if g i<next then κ.nm (g i) else κ1'.nm (k+(g i - next)))=_
   rw[hgr,if_pos hrn,hnmk i hi]
   show κ.nm r=κ.nm (gIn next rs i)
   rw[gl next rs i r hr]
  ·show (if g i<next then κ.nm (g i) else κ1'.nm (k+(g i - next)))=_
   rw[hg2 i (by omega),if_neg (by omega)]
   congr 1;omega
 have hext:Ext κ κ':=⟨fun b o hi=>he.imm b o hi,fun b o v hi hc=>he.cell b o v hi hc,fun r d hd=>by
  have hr:r<next:=by
   rcases Nat.lt_or_ge r next with h | h
   ·exact h
   ·rw[hf r h] at hd;cases hd
  show (if r<next then κ.nm r else _)=_
  rw[if_pos hr];exact hd,fun b o ho hc=>he.obj b o ho hc⟩
 have hout:∀ r d b,lookB r sto≠.none→r∉rs→κ.nm r=some d→d.block=some b→b<κ.w.heap.size∧¬ (bt κ1 (fun r=>lookB r (bC bs 0)) G).lent b:=by
  intro r d b h1 h2 h3 h4
  refine⟨(hS.blk r).lt h1 h3 h4,?_⟩
  rintro⟨i,d',q1,q2,q3⟩
  simp only[congrFun hσ1 i] at q1
  obtain⟨b',hb,hbn⟩:=hlive i q1
  obtain⟨r',hr',hgr,_,hn⟩:=hlook i b' hb
  refine hS.apart r r' d d' b h1 (hn hbn) (fun e=>h2 (e▸List.mem_of_getElem? hr')) h3 (by rw[← hgr];exact q2) h4 q3
 have hmem:∀ r,r∈rs→(∃ i,i<bs'.length∧g i=r)∨r∈rs.drop k:=by
  intro r hr
  obtain⟨i,hi⟩:=List.getElem?_of_mem hr
  by_cases hik:i<k
  ·obtain⟨r',hr',hgr,_⟩:=hg1 i hik
   rw[hi] at hr';cases hr'
   exact .inl ⟨i,by omega,hgr⟩
  ·refine .inr (List.mem_of_getElem? (i:=i - k) ?_)
   rw[List.getElem?_drop,show k+(i - k)=i by omega];exact hi
 have hσ':∀ r,(∃ i b,bs'[i]? = some b∧g i=r∧lookB r (pu (fun r=>some (g r)) bs' 0 g++(eQ (rs.drop k)++sto))=b.ren (fun r=>some (g r))) ∨
   lookB r (pu (fun r=>some (g r)) bs' 0 g++(eQ (rs.drop k)++sto)) = .none∨(r∉rs∧(∀ i,i<bs'.length→g i≠r)∧lookB r (pu (fun r=>some (g r)) bs' 0 g++(eQ (rs.drop k)++sto))=lookB r sto):=by
  intro r
  obtain⟨q1,q2⟩:=kf (f:=fun r=>some (g r)) hginj (eQ (rs.drop k)++sto) r bs' 0
  by_cases hi:∃ i,i<bs'.length∧g i=r
  ·obtain⟨i,hi,hgi⟩:=hi
   exact .inl ⟨i,bs'[i],List.getElem?_eq_getElem hi,hgi,q1 i _ (List.getElem?_eq_getElem hi) (by rw[Nat.zero_add];exact hgi)⟩
  ·have hni:∀ i,i<bs'.length→g i≠r:=fun i h1 h2=>hi ⟨i,h1,h2⟩
   have e:=q2 (fun i h1=>by rw[Nat.zero_add];exact hni i h1)
   rw[g6] at e
   by_cases hr:r∈rs.drop k
   ·rw[if_pos hr] at e;exact .inr (.inl e)
   ·rw[if_neg hr] at e
    exact .inr (.inr ⟨fun h=>(hmem r h).elim hi hr,hni,e⟩)
 have hlive':∀ i b,bs'[i]? = some b→b.ren (fun r=>some (g r))≠.none→lookB i (bC bs' 0)≠.none:=by
  intro i b hb hbn
  have e2:lookB i (bC bs' 0)=bs'.getD i .none:=congrFun (dS bs') i
  rw[e2,List.getD_eq_getElem?_getD,hb]
  exact Blk.ren_ne.1 hbn
 refine⟨u,_,κ',_,_,rfl,rfl,hext,⟨hL.os,hL.tape,hL.output,hL.size,fun b hb hl=>hL.block b hb fun h=>hl (hl1 b h),fun b o hi=>(hL.imm b o hi).imp id (hm1 b)⟩,
  ly (κ:=κ1') (κ':=κ') rfl rfl (fun r r' hr=>by cases hr;exact hnm' r) v' u hv,?_,fun r hr=>?_,rfl,rfl,rfl⟩
 ·refine⟨fun r=>?_,fun r r' d d' b h1 h2 hrr hd hd' hb=>?_,fun r d b h1 hd hb=>?_,hS'.immLt,?_⟩
  ·show c7 κ' r (lookB r _)
   rcases hσ' r with ⟨i,b,hb,hgi,e⟩ | e | ⟨hr,hni,e⟩
   ·rw[e,← hgi]
    refine c7.ren (κ:=κ1') (κ':=κ') rfl rfl hnm' ?_
    have:=hS'.blk i
    have e2:lookB i (bC bs' 0)=bs'.getD i .none:=congrFun (dS bs') i
    simp only[e2,List.getD_eq_getElem?_getD,hb] at this
    exact this
   ·rw[e];trivial
   ·rw[e]
    refine (hS.blk r).keep hext fun hbn d b hd hb=>?_
    obtain⟨q1,q2⟩:=hout r d b hbn hr hd hb
    refine⟨hL.block b q1 q2,fun o ho=>?_⟩
    rcases hL.imm b o ho with h | h | h
    ·exact h
    ·exact absurd q1 (Nat.not_lt.2 h)
    ·exact absurd h q2
  ·have cal:∀ r i b0 d,bs'[i]? = some b0→g i=r→b0.ren (fun r=>some (g r))≠.none→κ'.nm r=some d→lookB i (bC bs' 0)≠.none∧κ1'.nm i=some d:=by
    intro r i b0 d hb0 hgi hbn hd
    exact⟨hlive' i b0 hb0 hbn,by rw[← hnm' i,hgi];exact hd⟩
   have own:∀ r d,r∉rs→lookB r sto≠.none→κ'.nm r=some d→κ.nm r=some d:=by
    intro r d hr hbn hd
    obtain⟨d',hd'⟩:=(hS.blk r).named hbn
    have:=hext.nm r d' hd'
    rw[this] at hd;cases hd;exact hd'
   have mix:∀ r i b0 d d' b,bs'[i]? = some b0→b0.ren (fun r=>some (g r))≠.none→κ1'.nm i=some d→d.block=some b→lookB i (bC bs' 0)≠.none→r∉rs→lookB r sto≠.none→κ.nm r=some d'→d'.block≠some b:=by
    intro r i b0 d d' b hb0 hbn hd hdb hl hr hrl hd' hdb'
    obtain⟨q1,q2⟩:=hout r d' b hrl hr hd' hdb'
    rcases hS'.mine i d b hl hd hdb with h | h
    ·exact absurd q1 (Nat.not_lt.2 h)
    ·exact q2 h
   rcases hσ' r with ⟨i,b1,hb1,hgi,e⟩ | e | ⟨hr,hni,e⟩
   ·have h1':b1.ren (fun r=>some (g r))≠.none:=by
     intro h0;exact h1 (e.trans h0)
    obtain⟨p1,p2⟩:=cal r i b1 d hb1 hgi h1' hd
    rcases hσ' r' with ⟨j,b2,hb2,hgj,e'⟩ | e' | ⟨hr',hni',e'⟩
    ·have h2':b2.ren (fun r=>some (g r))≠.none:=by
      intro h0;exact h2 (e'.trans h0)
     obtain⟨p3,p4⟩:=cal r' j b2 d' hb2 hgj h2' hd'
     exact hS'.apart i j d d' b p1 p3 (fun hij=>hrr (by rw[← hgi,← hgj,hij])) p2 p4 hb
    ·exact absurd e' h2
    ·have h2':lookB r' sto≠.none:=by intro h0;exact h2 (e'.trans h0)
     exact mix r' i b1 d d' b hb1 h1' p2 hb p1 hr' h2' (own r' d' hr' h2' hd')
   ·exact absurd e h1
   ·have h1':lookB r sto≠.none:=by intro h0;exact h1 (e.trans h0)
    have hd0:=own r d hr h1' hd
    rcases hσ' r' with ⟨j,b2,hb2,hgj,e'⟩ | e' | ⟨hr',hni',e'⟩
    ·have h2':b2.ren (fun r=>some (g r))≠.none:=by
      intro h0;exact h2 (e'.trans h0)
     obtain⟨p3,p4⟩:=cal r' j b2 d' hb2 hgj h2' hd'
     intro hb'
     exact mix r j b2 d' d b hb2 h2' p4 hb' p3 hr h1' hd0 hb
    ·exact absurd e' h2
    ·have h2':lookB r' sto≠.none:=by intro h0;exact h2 (e'.trans h0)
     exact hS.apart r r' d d' b h1' h2' hrr hd0 (own r' d' hr' h2' hd') hb
  ·rcases hσ' r with ⟨i,b1,hb1,hgi,e⟩ | e | ⟨hr,hni,e⟩
   ·have h1':b1.ren (fun r=>some (g r))≠.none:=by
     intro h0;exact h1 (e.trans h0)
    refine hm1 b (hS'.mine i d b (hlive' i b1 hb1 h1') (by rw[← hnm' i,hgi];exact hd) hb)
   ·exact absurd e h1
   ·have h1':lookB r sto≠.none:=by intro h0;exact h1 (e.trans h0)
    obtain⟨d',hd'⟩:=(hS.blk r).named h1'
    have:=hext.nm r d' hd'
    rw[this] at hd;cases hd
    exact .inr ⟨r,d,h1',hd',hb⟩
  ·refine⟨hS'.glob.1,fun g' hg'=>?_⟩
   obtain⟨h1,h2,cs,T,fz,h3,h4⟩:=hS.glob.2 g' hg'
   exact⟨h1,h2,cs,T,fz,(hL.block g' h1 fun h=>h2 (hl1 g' h)).trans h3,h4⟩
 ·show (if r<next then κ.nm r else κ1'.nm (k+(r - next)))=none
  rw[if_neg (by omega)]
  exact hf' _ (by omega)
def BF (k:Nat)(rs:List Nat)(bs bs':List Blk)(next:Nat):Bool:=
 decide (k≤bs.length)&&decide (k≤bs'.length)&&(bs.take k).all (fun b=>match b with | .none=>false | _=>true)&&rs.all (fun r=>decide (r<next))&&decide rs.Nodup
theorem ae.lentK {k f:Nat}{args0:List AV}{bs:List Blk}{v:AV}{bs':List Blk}(h:jf P G k f args0 bs v bs')(rs:List Nat){args:List AV}{env:List (Nat×AV)}{sto:List (Nat×Blk)}{next:Nat}{K:AV→St→Prop}
  (hok:BF k rs bs bs' next=true) (hargs:AVzL args (AV.renL (gSo next rs) args0)) (hbs:eD sto (gSo next rs) rs bs)
  (hK:K (v.ren (gSo next (rs.take k))) ⟨env,pu (gSo next (rs.take k)) bs' 0 (gIn next (rs.take k))++(eQ (rs.drop k)++sto),next+(bs'.length - k)⟩):ae P G f args ⟨env,sto,next⟩ K:=by
 simp only[BF,Bool.and_eq_true,decide_eq_true_eq,List.all_eq_true] at hok
 obtain⟨⟨⟨⟨h1,h2⟩,h3⟩,h4⟩,h5⟩:=hok
 refine ae.lent (h.frame hargs hbs h5 h4 h1 h2 (fun b hb e=>?_)) ?_
 ·have:=h3 b hb
  subst e;cases this
 ·rintro v' sto' next' ⟨rfl,rfl,rfl⟩
  exact hK
theorem ae.weak {f:Nat}{args args':List AV}{s s':St}{K:AV→St→Prop}(hw:WkC s args s' args')(h:ae P G f args' s' K):ae P G f args s K:=by
 obtain⟨s2,args2,hw2,h2⟩:=h
 refine⟨s2,args2,⟨hw2.1.trans hw.1,hw2.2.1.trans hw.2.1,fun c κ0 κ N a w vals hR hv=>?_⟩,?_⟩
 ·obtain⟨κ1,h3,h4⟩:=hw.2.2 c κ0 κ N a w vals hR hv
  exact hw2.2.2 c κ0 κ1 N a w vals h3 h4
 ·rcases h2 with ⟨ps,r,k1,k2,k3⟩ | ⟨Q,k1,k2⟩
  ·exact .inl ⟨ps,r,k1,k2,k3⟩
  ·refine .inr ⟨Q,k1,fun v sto' next' hq=>?_⟩
   have:=k2 v sto' next' hq
   rw[hw.2.1] at this
   exact this
end
end Go.Ab
set_option linter.unusedVariables false
namespace Go.Ab
open Go
theorem vI (k:Nat):bC [] k=[]:=_root_.id rfl
theorem qp (b:Blk)(r:List Blk)(k:Nat):bC (b::r) k=(k,b)::bC r (k+1):=_root_.id rfl
theorem pZ (sto:List (Nat×Blk))(f:Nat→Option Nat):eD sto f [] []=True:=_root_.id rfl
theorem mC (sto:List (Nat×Blk))(f:Nat→Option Nat)(r:Nat)(rs:List Nat)(b:Blk)(bs:List Blk):eD sto f (r::rs) (b::bs)=(BlkZ (lookB r sto) (b.ren f)∧eD sto f rs bs):=_root_.id rfl
theorem y9 (f:Nat→Option Nat)(i:Nat)(g:Nat→Nat):pu f [] i g=[]:=_root_.id rfl
theorem tX (f:Nat→Option Nat)(b:Blk)(r:List Blk)(i:Nat)(g:Nat→Nat):pu f (b::r) i g=(g i,b.ren f)::pu f r (i+1) g:=_root_.id rfl
theorem uh:eQ []=[]:=_root_.id rfl
theorem pC (r:Nat)(q:List Nat):eQ (r::q)=(r,.none)::eQ q:=_root_.id rfl
theorem F0 (next:Nat)(rs:List Nat)(r:Nat):gSo next rs r=some (gIn next rs r):=_root_.id rfl
theorem DS (next i:Nat):gIn next [] i=next+i:=_root_.id rfl
theorem Ir (next r:Nat)(q:List Nat):gIn next (r::q) 0=r:=_root_.id rfl
theorem Iq (next r i:Nat)(q:List Nat):gIn next (r::q) (i+1)=gIn next q i:=_root_.id rfl
def kw (s sz off len:Nat):Blk→Option (List PV)
 | .cells _ _ l=>if s=1∧sz=1∧off+len≤l.length∧((l.drop off).take len).all AV.one=true then pvs ((l.drop off).take len) else none
 | _=>none
theorem mL (σ:ag)(sz r s off len:Nat):aN σ sz (.row r s off len)=kw s sz off len (σ r):=by
 simp only[aN,kw]
 cases σ r<;>rfl
theorem gD (k:IntKind)(l:List Int):(l.map (PV.int k)).all PV.one=true:=by
 rw[List.all_eq_true];intro x hx;obtain⟨n,_,rfl⟩:=List.mem_map.1 hx;rfl
theorem vK {T:Nat}{f:Bool}{l:List PV}{n:Nat}(h:n≤l.length)(h1:l.all PV.one=true):kw 1 1 0 n (.cells T f (l.map .pv))=some (l.take n):=by
 have h2:(((l.map AV.pv).drop 0).take n)=(l.take n).map .pv:=by rw[List.drop_zero,List.map_take]
 have h3:((l.take n).map AV.pv).all AV.one=true:=by
  rw[List.all_eq_true] at h1 ⊢
  intro x hx
  obtain⟨y,hy,rfl⟩:=List.mem_map.1 hx
  exact h1 y (List.mem_of_mem_take hy)
 have h4:∀ k:List PV,pvs (k.map .pv)=some k:=by
  intro k
  induction k with
  | nil=>rfl
  | cons a r ih=>simp[pvs,AV.toPV,ih]
 simp only[kw]
 rw[if_pos (by refine⟨trivial,trivial,by simp;omega,by rw[h2];exact h3⟩),h2,h4]
theorem qv {T:Nat}{f:Bool}{k:IntKind}{p:List Int}{n:Nat}(h:n=p.length):kw 1 1 0 n (.cells T f ((p.map (PV.int k)).map .pv))=some (p.map (PV.int k)):=by
 rw[vK (by simp;omega) (gD k p),List.take_of_length_le (by simp;omega)]
theorem iC {sz r off n:Nat}{k:IntKind}{h:Int}(h0:0≤h)(h1:h≤n)(hs:0<sz):bJ sz (.row r sz off n) none (some (.pv (.int k h)))=some (.row r sz off h.toNat):=by
 simp[bJ,aM,h0,h1,hs]
theorem xv (n:Nat):((n:Int)+1).toNat=n+1:=by omega
theorem AY (n:Int):n+1 - 1=n:=by omega
def EJ:List Nat→List Nat→List Nat
 | [],a=>a
 | x::r,a=>EJ r (x::a)
theorem yh (a:List Nat):EJ [] a=a:=_root_.id rfl
theorem jx (x:Nat)(r a:List Nat):EJ (x::r) a=EJ r (x::a):=_root_.id rfl
theorem sN:∀ (l a:List Nat),l.reverse++a=EJ l a
 | [],a=>rfl
 | x::r,a=>by rw[jx,← sN r (x::a)];simp
theorem uW (l:List (Nat×Blk)):aJ l.reverse=EJ (aJ l) []:=by
 rw[← sN,List.append_nil];simp[aJ]
theorem yg (ks rs:List Nat):da 2 ks rs=(0::ks.map (· + 1),rs.map (· + 1)):=by simp[da]
theorem dg (A:List (Nat×Nat×Nat×Nat)){k:Nat}{v v':AV}{bs':List Blk}{sto':List (Nat×Blk)}{next':Nat}(h:StZ (cG A k [0] ⟨[(0,v')],sto',next'⟩) ⟨[(0,v)],bC bs' 0,bs'.length⟩):DI k v bs' v' sto' next':=Wk.head h
theorem ae.nilB (r o e sz:Nat){P:Program}{G:Nat→List PV}{f:Nat}{args:List AV}{s:St}{K:AV→St→Prop}(he:(Ex r o e sz s (lookB r s.sto)).env=s.env)(h:ae P G f args (Ex r o e sz s (lookB r s.sto)) K):ae P G f args s K:=
 ae.weak (WkC.of (rz r o e sz s) he args) h
end Go.Ab
set_option linter.unusedVariables false
set_option linter.unusedSimpArgs false
namespace Go.Ab
open Go Go.RowKit
section
variable {P:Program}{G:Nat→List PV}
theorem wJ (F:St→Prop)(s:St):I1 F .norm s=F s:=_root_.id rfl
theorem AF (b:ACode)(Q:AExit→St→Prop)(e:List (Nat×AV))(σ:List (Nat×Blk))(n:Nat):Ek (fun m=>vc P G m b) Q ⟨e,σ,n⟩=vc P G n b Q ⟨e,σ,n⟩:=_root_.id rfl
theorem yX (e:List (Nat×AV)):yY [] [] e=e:=_root_.id rfl
theorem tQ (p:Nat)(ps:List Nat)(x:PV)(xs:List PV)(e:List (Nat×AV)):yY (p::ps) (x::xs) e=yY ps xs ((p,.pv x)::e):=_root_.id rfl
def HQ {ι:Type}(A:List (Nat×Nat×Nat×Nat))(S:ι→St)(Inv:Nat→ι→Prop)(i m0:Nat)(keep:List Nat)(Q:AExit→St→Prop)(e0:List (Nat×AV)):AExit→St→Prop
 | .norm,s'=>∃ x',Hd A m0 keep ⟨e0,s'.sto,s'.next⟩ (S x')∧Inv (i+1) x'
 | .exit j,s'=>Q (.exit j) ⟨e0,s'.sto,s'.next⟩
 | .ret,s'=>Q .ret ⟨e0,s'.sto,s'.next⟩
theorem wG {ι:Type}(A:List (Nat×Nat×Nat×Nat))(S:ι→St)(Inv:Nat→ι→Prop)(i m0:Nat)(keep:List Nat)(Q:AExit→St→Prop)(e0 e:List (Nat×AV))(σ:List (Nat×Blk))(n:Nat):HQ A S Inv i m0 keep Q e0 .norm ⟨e,σ,n⟩ = ∃ x',Hd A m0 keep ⟨e0,σ,n⟩ (S x')∧Inv (i+1) x':=_root_.id rfl
theorem wH {ι:Type}(A:List (Nat×Nat×Nat×Nat))(S:ι→St)(Inv:Nat→ι→Prop)(i m0:Nat)(keep:List Nat)(Q:AExit→St→Prop)(e0:List (Nat×AV))(j:Nat)(e:List (Nat×AV))(σ:List (Nat×Blk))(n:Nat):HQ A S Inv i m0 keep Q e0 (.exit j) ⟨e,σ,n⟩=Q (.exit j) ⟨e0,σ,n⟩:=_root_.id rfl
theorem A7 {ι:Type}(A:List (Nat×Nat×Nat×Nat))(S:ι→St)(Inv:Nat→ι→Prop)(i m0:Nat)(keep:List Nat)(Q:AExit→St→Prop)(e0 e:List (Nat×AV))(σ:List (Nat×Blk))(n:Nat):HQ A S Inv i m0 keep Q e0 .ret ⟨e,σ,n⟩=Q .ret ⟨e0,σ,n⟩:=_root_.id rfl
theorem FZ:∀ (lb:List PV),pvs (lb.map AV.pv)=some lb
 | []=>rfl
 | p::r=>by simp[pvs,AV.toPV,FZ r]
theorem EU {ι:Type}(A:List (Nat×Nat×Nat×Nat))(ch:ι→List (Nat×AV))(chB:ι→List (Nat×Blk))(Inv:Nat→ι→Prop)(x0:ι){gf:Nat}{lb:List PV}{xs:List (List PV)}(hs:IQ P G gf lb xs)
  {m0:Nat} {f:AX} {ps keep:List Nat} {a b:ACode} {Q:AExit→St→Prop} {s:St}
  (h:∀ e0 σ0 n0,cG A m0 keep s=⟨e0,σ0,n0⟩→StZ ⟨e0,σ0,n0⟩ ⟨dQ e0 (ch x0),eN σ0 (chB x0),n0⟩∧Inv 0 x0∧bP (f.ev (fun i=>look i (dQ e0 (ch x0))))=some (gf,[],lb.map AV.pv) ∧
   (∀ i x y,xs[i]? = some y→Inv i x→y.length=ps.length∧vc P G n0 a (I1 (Ek (fun m=>vc P G m b) (HQ A (fun x=>⟨dQ e0 (ch x),eN σ0 (chB x),n0⟩) Inv i m0 keep Q (dQ e0 (ch x))))) ⟨yY ps y (dQ e0 (ch x)),eN σ0 (chB x),n0⟩) ∧
   ∀ x,Inv xs.length x→Q .norm ⟨dQ e0 (ch x),eN σ0 (chB x),n0⟩):vc P G m0 (.range f ps keep a b) Q s:=by
 obtain⟨h1,h2,h3,h4,h5⟩:=h (cG A m0 keep s).env (cG A m0 keep s).sto (cG A m0 keep s).next rfl
 let S:ι→St:=fun x=>⟨dQ (cG A m0 keep s).env (ch x),eN (cG A m0 keep s).sto (chB x),(cG A m0 keep s).next⟩
 refine⟨fun i t=>∃ x,t=S x∧Inv i x,S x0,bX h1,⟨x0,rfl,h2⟩,?_⟩
 have e:bP (f.ev (S x0).E)=some (gf,[],lb.map AV.pv):=h3
 rw[e]
 refine⟨rfl,lb,xs,FZ lb,hs,?_,?_⟩
 ·rintro i y t hy ⟨x,rfl,hx⟩
  obtain⟨k1,k2⟩:=h4 i x y hy hx
  refine⟨k1,bA a (fun e s hs=>?_) _ k2⟩
  cases e with
  | norm=>
    refine bA b (fun e s hs=>?_) s hs
    cases e with
    | norm=>
      obtain⟨x',q1,q2⟩:=hs
      exact⟨S x',q1,x',rfl,q2⟩
    | exit j=>exact hs
    | ret=>exact hs
  | exit j=>exact hs.elim
  | ret=>exact hs.elim
 ·rintro t ⟨x,rfl,hx⟩
  exact h5 x hx
end
end Go.Ab
namespace Go.Ab
open Go
attribute [push_cast] wZ w6 B8 wX wY Ix Iy Iz IA IB IC uJ
 zJ pW uK Iu Iw Iv pT pU pV Ao Ap D5 Ar D4 An Cl
 r4 oK oH oG oF ll oE lk xU r5 r6 r7
 lj lh xX xY Dd De xT xS oJ r9 sd tJ
 Av vE Aw Au ws lm lL oI xW xV oD C2
 C3 o6 lK lJ tq tr Dh Di jH o7 lI jF
 oZ yr tk tj oY yu lM lN vS wj lD yP
 yz yG yE yD yO Dc yy lO yN yF yH yI
 yJ yK tD tC tw tx tz tA tB tI yR tG
 tF tH pb yQ tE yo s9 tv o8 ym tf tc
 ta yn C8 C9 uc pK mj Jk Jj Df tO tP
 ph nx Cj oz xq xp xu xo xr Dz mg mh
 Dx ma mb Dy mc me jZ v6 qT qP qR qQ
 kD qS aV qO vY vW qI qL qJ qK vZ qN
 qM mA pX ti oX oW DG DF ou ot pQ GF
 zG qU uE zW uV uR uT uS mD uU uC pO
 pa pP mw mx DA C5 oT jp x3 db xe rU
 Ay Az Dk zp zo zt zr zv zu AD rF ow
 rC rD rB k9 vO qz mM jM jN zk yS Gg
 Gh vN x5 x4 x7 x6 Fk Fj Fi mm j4 j3
 j7 iH j8 pM mr iI iJ uB Cd xb rG qA
 mN kx D9 uF j9 kb my pR mz ke ka iL
 iK Dw zD zz pH uX p6 Ea qy vU qF vV
 qH Eb Ec zF FJ zi wD wE A6 ne nh q9
 B9 EW Cb D8 ET Cc xa Ca EV ze Il Im
 yi sP A8 EA CT Fo Fp Fm qD sO oP yZ
 FW u9 ve DO DN vh p8 p7 nc nd q8 tT
 pi tV pp tU pk tW pq ue Dn FG FD Do
 FF FE Dp zf yp yq oA lf jn rZ map_take map_drop
 ud pf GO AR AQ AP En oe qX qr qt qu
 mK IL GD wh wi GC eh fW fV za eg Dj
 zc zb pw zd jE iD lV py pA px AW GP
 GJ DE zP vf F4 F5 Ae Ag DV DW Af DY
 DZ Aj Ah vo vp DX zx uo un zy ur um
 up uq pF fZ fY l6 jV pG l8 AZ wv Ep
 Er DR nO kG eB C1 C0 kv iV Ia Fl ug
 pB Dq Dt Dr oQ lz pE z1 vi Bw CY CW
 CV Ft CZ CU CX sR sQ sU yj jA lB sV
 oR yk sX zj A0 ww wy wC A5 Dv Du zm
 zl Ev A3 qZ wA A4 Eu Jf Je HX Gi Gj
 Gk Gl Gm Gn D2 vw ql y6 m7 m8 q0 AG
 GM AH AL wp Ax vH wk GG GI GH AJ wn
 wm AK wo xZ sg EZ vI qp pZ mC y9 tX
 uh pC F0 DS Ir Iq mL gD qv iC xv AY
 yh jx uW yg Nat.zero_add Nat.add_zero List.length_cons List.length_nil List.nil_append List.cons_append List.append_nil List.append_assoc
 List.getElem?_map List.length_map List.map_nil List.map_cons List.take_succ_cons List.take_zero List.drop_succ_cons List.drop_zero List.take_nil List.drop_nil List.all_cons List.all_nil
 Bool.and_true Bool.true_and Bool.and_false Bool.false_and Bool.not_true Bool.not_false decide_true decide_false Bool.not_not Int.natCast_add Int.cast_ofNat_Int Int.toNat_natCast
 Option.some.injEq and_true true_and ge_iff_le Nat.le_refl Nat.zero_le Nat.not_lt_zero and_self
attribute [push_cast] wJ AF yX tQ wG wH A7
attribute [push_cast high] Int.cast_ofNat_Int
end Go.Ab

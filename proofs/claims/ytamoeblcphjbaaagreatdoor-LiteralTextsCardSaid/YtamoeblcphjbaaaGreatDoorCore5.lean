/- A program logic over the model: part 5 (a proof is built on it; nothing of the statement is said here). -/
import Derived.Test.YtamoeblcphjbaaaGreatDoorCore4
set_option linter.unusedVariables false
set_option linter.unusedSimpArgs false
namespace Go.Ab
open Go Go.RowKit
theorem xa {n:Int}(h1:-9223372036854775808≤n)(h2:n≤9223372036854775807):IntKind.i64.wrap n=n:=by
 show (if (true&&decide (n % 18446744073709551616≥9223372036854775808))=true then n % 18446744073709551616 - 18446744073709551616 else n % 18446744073709551616)=n
 simp only[Bool.true_and,decide_eq_true_eq]
 split<;>omega
theorem xb {n:Int}(h1:-2147483648≤n)(h2:n≤2147483647):IntKind.i32.wrap n=n:=by
 show (if (true&&decide (n % 4294967296≥2147483648))=true then n % 4294967296 - 4294967296 else n % 4294967296)=n
 simp only[Bool.true_and,decide_eq_true_eq]
 split<;>omega
theorem Ce {n:Int}(h1:0≤n)(h2:n≤255):IntKind.u8.wrap n=n:=by
 show (if (false&&decide (n % 256≥128))=true then n % 256 - 256 else n % 256)=n
 simp only[Bool.false_and]
 simp;omega
theorem w8 {n:Int}(h1:0≤n)(h2:n≤18446744073709551615):IntKind.u64.wrap n=n:=by
 show (if (false&&decide (n % 18446744073709551616≥9223372036854775808))=true then n % 18446744073709551616 - 18446744073709551616 else n % 18446744073709551616)=n
 simp only[Bool.false_and]
 simp;omega
theorem w9 {n:Int}(h1:0≤n)(h2:n≤4294967295):IntKind.u32.wrap n=n:=by
 show (if (false&&decide (n % 4294967296≥2147483648))=true then n % 4294967296 - 4294967296 else n % 4294967296)=n
 simp only[Bool.false_and]
 simp;omega
theorem ID {a b:Int}(h:a<b):decide (a<b)=true:=decide_eq_true h
theorem IE {a b:Int}(h:¬ a<b):decide (a<b)=false:=decide_eq_false h
theorem IF {a b:Int}(h:a≤b):decide (a≤b)=true:=decide_eq_true h
theorem IG {a b:Int}(h:¬ a≤b):decide (a≤b)=false:=decide_eq_false h
theorem IH {a b:Int}(h:a=b):decide (a=b)=true:=decide_eq_true h
theorem II {a b:Int}(h:¬ a=b):decide (a=b)=false:=decide_eq_false h
def Chk (b:Bool):Prop:=b=true
theorem Ek:Chk true:=_root_.id rfl
theorem uO (i k:Nat)(x:AV)(r:List (Nat×AV)):look i ((k,x)::r)=if k=i then x else look i r:=_root_.id rfl
theorem zW (i:Nat):look i [] = .any:=_root_.id rfl
theorem p6 (i k:Nat)(x:Blk)(r:List (Nat×Blk)):lookB i ((k,x)::r)=if k=i then x else lookB i r:=_root_.id rfl
theorem uP (i:Nat):lookB i [] = .none:=_root_.id rfl
def evE (e:List (Nat×AV)):AX→AV
 | .t i=>look i e
 | .c p=>.pv p
 | .m i tb=>ET tb (look i e)
theorem IB (e:List (Nat×AV))(i:Nat)(tb:List (Nat×Nat)):evE e (.m i tb)=ET tb (look i e):=_root_.id rfl
theorem pY (tb:List (Nat×Nat))(T:Nat)(p:PV):ET tb (.pv (.iface T p))=uM p (f9 T tb):=_root_.id rfl
theorem p5 (t a b:Nat)(r:List (Nat×Nat)):f9 t ((a,b)::r)=if a=t then some b else f9 t r:=_root_.id rfl
theorem pZ (p:PV)(f:Nat):uM p (some f) = .clo f [.pv p] []:=_root_.id rfl
theorem IA (e:List (Nat×AV))(i:Nat):evE e (.t i)=look i e:=_root_.id rfl
theorem IC (e:List (Nat×AV))(p:PV):evE e (.c p) = .pv p:=_root_.id rfl
def evO (e:List (Nat×AV)):Option AX→Option AV
 | some x=>some (evE e x)
 | none=>none
theorem Au (e:List (Nat×AV))(x:AX):evO e (some x)=some (evE e x):=_root_.id rfl
theorem Av (e:List (Nat×AV)):evO e none=none:=_root_.id rfl
def evL (e:List (Nat×AV)):List AX→List AV
 | []=>[]
 | x::r=>evE e x::evL e r
theorem Eb (e:List (Nat×AV)):evL e []=[]:=_root_.id rfl
theorem Ax (e:List (Nat×AV))(x:AX)(r:List AX):evL e (x::r)=evE e x::evL e r:=_root_.id rfl
theorem fk (e:List (Nat×AV))(σ:List (Nat×Blk))(n:Nat)(x:AX):x.ev (St.E ⟨e,σ,n⟩)=evE e x:=by cases x<;>rfl
theorem vI (e:List (Nat×AV))(σ:List (Nat×Blk))(n:Nat):∀ (l:List AX),l.map (·.ev (St.E ⟨e,σ,n⟩))=evL e l
 | []=>rfl
 | x::r=>by rw[List.map_cons,vI e σ n r,fk];rfl
def evP (e:List (Nat×AV)):List (Nat×Nat×AX)→List (Nat×Nat×AV)
 | []=>[]
 | (a,b,x)::r=>(a,b,evE e x)::evP e r
theorem Ea (e:List (Nat×AV)):evP e []=[]:=_root_.id rfl
theorem At (e:List (Nat×AV))(a b:Nat)(x:AX)(r:List (Nat×Nat×AX)):evP e ((a,b,x)::r)=(a,b,evE e x)::evP e r:=_root_.id rfl
def dD (e:List (Nat×AV)):TOp→Option AV
 | .mv x=>some (evE e x)
 | .pick c a b=>lH (evE e c) (evE e a) (evE e b)
 | .build zs ps=>(dX (zs.map .pv) (evP e ps)).map fi
 | .faddr off x=>e9 off (evE e x)
 | .field g sz off x=>fS g sz off (evE e x)
 | .iaddr sz x i=>ee sz (evE e x) (evE e i)
 | .iaddrA n sz x i=>eL n sz (evE e x) (evE e i)
 | .index x i=>ed (evE e x) (evE e i)
 | .indexA g n sz x i=>dQ g n sz (evE e x) (evE e i)
 | .len st x=>wQ st (evE e x)
 | .lenC n=>some (.pv (.int .i64 n))
 | .imin x y=>Dc (evE e x) (evE e y)
 | .imax x y=>Dd (evE e x) (evE e y)
 | .sliceL sz x lo hi=>bJ sz (evE e x) (evO e lo) (evO e hi)
 | .sliceS x lo hi=>dP (evE e x) (evO e lo) (evO e hi)
 | .bin op x y=>bV op (evE e x) (evE e y)
 | .beq kd ng x y=>(lT kd (evE e x) (evE e y)).map fun b=>.pv (.bool (if ng then !b else b))
 | .neg x=>ES (evE e x)
 | .not x=>ER (evE e x)
 | .compl x=>jL (evE e x)
 | .conv k x=>pd k (evE e x)
 | .convS x=>gV (evE e x)
 | .convIS x=>eM (evE e x)
 | .beqS ng ks x y=>(lS ks (evE e x) (evE e y)).map fun b=>.pv (.bool (if ng then !b else b))
 | .clo f fs cs=>some (mj f (evL e fs) (evL e cs))
 | .ext x i=>Dg i (evE e x)
 | .nilck x=>wP (evE e x)
theorem Aw (e:List (Nat×AV)):∀ (l:List AX),l.map (fun x=>evE e x)=evL e l
 | []=>rfl
 | x::r=>by rw[List.map_cons,Aw e r];rfl
theorem Gf (e:List (Nat×AV))(l:Option AX):l.map (fun x=>evE e x)=evO e l:=by cases l<;>rfl
theorem Ge (e:List (Nat×AV)):∀ (l:List (Nat×Nat×AX)),(l.map fun p=>(p.1,p.2.1,evE e p.2.2))=evP e l
 | []=>rfl
 | (a,b,x)::r=>by rw[List.map_cons,Ge e r];rfl
theorem sh (e:List (Nat×AV))(σ:List (Nat×Blk))(n:Nat)(o:TOp):o.run (St.E ⟨e,σ,n⟩)=dD e o:=by
 cases o<;>simp only[TOp.run,dD,fk,Aw,Gf,Ge]
theorem Cr (e:List (Nat×AV))(x:AX):dD e (.mv x)=some (evE e x):=_root_.id rfl
theorem sd (e:List (Nat×AV))(c a b:AX):dD e (.pick c a b)=lH (evE e c) (evE e a) (evE e b):=_root_.id rfl
theorem oN (e:List (Nat×AV))(zs:List PV)(ps:List (Nat×Nat×AX)):dD e (.build zs ps)=(dX (zs.map .pv) (evP e ps)).map fi:=_root_.id rfl
theorem oK (e:List (Nat×AV))(off:Nat)(x:AX):dD e (.faddr off x)=e9 off (evE e x):=_root_.id rfl
theorem oJ (e:List (Nat×AV))(g:Bool)(sz off:Nat)(x:AX):dD e (.field g sz off x)=fS g sz off (evE e x):=_root_.id rfl
theorem oI (e:List (Nat×AV))(sz:Nat)(x i:AX):dD e (.iaddr sz x i)=ee sz (evE e x) (evE e i):=_root_.id rfl
theorem lp (e:List (Nat×AV))(n sz:Nat)(x i:AX):dD e (.iaddrA n sz x i)=eL n sz (evE e x) (evE e i):=_root_.id rfl
theorem oH (e:List (Nat×AV))(x i:AX):dD e (.index x i)=ed (evE e x) (evE e i):=_root_.id rfl
theorem ln (e:List (Nat×AV))(g:Bool)(n sz:Nat)(x i:AX):dD e (.indexA g n sz x i)=dQ g n sz (evE e x) (evE e i):=_root_.id rfl
theorem xZ (e:List (Nat×AV))(st:Bool)(x:AX):dD e (.len st x)=wQ st (evE e x):=_root_.id rfl
theorem se (e:List (Nat×AV))(n:Nat):dD e (.lenC n)=some (.pv (.int .i64 n)):=_root_.id rfl
theorem sf (e:List (Nat×AV))(x y:AX):dD e (.imin x y)=Dc (evE e x) (evE e y):=_root_.id rfl
theorem sg (e:List (Nat×AV))(x y:AX):dD e (.imax x y)=Dd (evE e x) (evE e y):=_root_.id rfl
theorem lm (e:List (Nat×AV))(sz:Nat)(x:AX)(lo hi:Option AX):dD e (.sliceL sz x lo hi)=bJ sz (evE e x) (evO e lo) (evO e hi):=_root_.id rfl
theorem ll (e:List (Nat×AV))(x:AX)(lo hi:Option AX):dD e (.sliceS x lo hi)=dP (evE e x) (evO e lo) (evO e hi):=_root_.id rfl
theorem x5 (e:List (Nat×AV))(op:BinOp)(x y:AX):dD e (.bin op x y)=bV op (evE e x) (evE e y):=_root_.id rfl
def tP (ng:Bool):Option Bool→Option AV
 | some b=>some (.pv (.bool (if ng then !b else b)))
 | none=>none
theorem x6 (e:List (Nat×AV))(kd:Nat)(ng:Bool)(x y:AX):dD e (.beq kd ng x y)=tP ng (lT kd (evE e x) (evE e y)):=by
 simp only[dD];cases lT kd (evE e x) (evE e y)<;>rfl
theorem Dj (b:Bool):tP true (some b)=some (.pv (.bool (!b))):=_root_.id rfl
theorem Dk (b:Bool):tP false (some b)=some (.pv (.bool b)):=_root_.id rfl
theorem xY (e:List (Nat×AV))(x:AX):dD e (.neg x)=ES (evE e x):=_root_.id rfl
theorem xX (e:List (Nat×AV))(x:AX):dD e (.not x)=ER (evE e x):=_root_.id rfl
theorem oM (e:List (Nat×AV))(x:AX):dD e (.compl x)=jL (evE e x):=_root_.id rfl
theorem sk (e:List (Nat×AV))(k:IntKind)(x:AX):dD e (.conv k x)=pd k (evE e x):=_root_.id rfl
theorem sl (e:List (Nat×AV))(ng:Bool)(ks:List Nat)(x y:AX):dD e (.beqS ng ks x y)=tP ng (lS ks (evE e x) (evE e y)):=by
 simp only[dD];cases lS ks (evE e x) (evE e y)<;>rfl
theorem tO (ks:List Nat)(ps qs:List PV):lS ks (.pv (.agg ps)) (.pv (.agg qs))=kv ks ps qs:=_root_.id rfl
theorem AB:kv [] [] []=some true:=_root_.id rfl
theorem vJ (l:List Nat)(a b:Bool)(r s:List PV):kv (0::l) (.bool a::r) (.bool b::s)=B3 (some (a == b)) (kv l r s):=_root_.id rfl
theorem AC (l:List Nat)(k:IntKind)(a b:Int)(r s:List PV):kv (1::l) (.int k a::r) (.int k b::s)=B3 (some (decide (a=b))) (kv l r s):=by
 simp only[kv,EV,if_true];congr 2
theorem AA (l:List Nat)(a b:List UInt8)(r s:List PV):kv (2::l) (.str a::r) (.str b::s)=B3 (some (a == b)) (kv l r s):=_root_.id rfl
theorem wz (a b:Bool):B3 (some a) (some b)=some (a&&b):=_root_.id rfl
theorem lr (e:List (Nat×AV))(x:AX):dD e (.convIS x)=eM (evE e x):=_root_.id rfl
theorem lO (k:IntKind)(n:Int):eM (.pv (.int k n))=some (.pv (.str (Utf8.encode n).data.toList)):=_root_.id rfl
theorem oL (e:List (Nat×AV))(x:AX):dD e (.convS x)=gV (evE e x):=_root_.id rfl
theorem x4 (e:List (Nat×AV))(f:Nat)(fs cs:List AX):dD e (.clo f fs cs)=some (mj f (evL e fs) (evL e cs)):=_root_.id rfl
theorem x3 (e:List (Nat×AV))(x:AX)(i:Nat):dD e (.ext x i)=Dg i (evE e x):=_root_.id rfl
theorem oG (e:List (Nat×AV))(x:AX):dD e (.nilck x)=wP (evE e x):=_root_.id rfl
theorem C8 (x y:AV):lH (.pv (.bool true)) x y=some x:=_root_.id rfl
theorem C9 (x y:AV):lH (.pv (.bool false)) x y=some y:=_root_.id rfl
theorem pa (off r o:Nat):e9 off (.ptr r o)=some (.ptr r (o+off)):=_root_.id rfl
theorem lN (off:Nat)(l:List PV)(i o:Nat):e9 off (.pv (.eptr l i o))=some (.pv (.eptr l i (o+off))):=_root_.id rfl
theorem lM (off g o:Nat):e9 off (.pv (.gptr g o))=some (.pv (.gptr g (o+off))):=_root_.id rfl
theorem tx (g:Bool)(sz off:Nat)(ps:List PV):fS g sz off (.pv (.agg ps))=bL g sz off (ps.map .pv):=_root_.id rfl
theorem tz (g:Bool)(sz off:Nat)(ps:List AV):fS g sz off (.agg ps)=bL g sz off ps:=_root_.id rfl
def FE (sz off:Nat)(cs:List AV):Option AV:=if off+sz≤cs.length then some (fi ((cs.drop off).take sz)) else none
theorem Dn (sz off:Nat)(cs:List AV):bL true sz off cs=FE sz off cs:=_root_.id rfl
theorem Do (sz off:Nat)(cs:List AV):bL false sz off cs=cs[off]?:=_root_.id rfl
def jQ (sz:Nat)(l:List PV)(i:Nat):Option PV→Option AV
 | some y=>if y.cells.length=sz then some (.pv (.eptr l i 0)) else none
 | none=>none
theorem jJ (sz:Nat)(l:List PV)(i:Nat):gI sz l (i:Int)=jQ sz l i l[i]?:=by
 unfold gI jQ
 rw[if_pos (by omega)]
 simp only[Int.toNat_natCast]
 cases l[i]? <;> rfl
theorem dv (sz:Nat)(l:List PV):gI sz l 0=jQ sz l 0 l[0]?:=_root_.id rfl
theorem pb (sz:Nat)(l:List PV)(i:Nat):gI sz l ((i:Int)+1)=jQ sz l (i+1) l[i+1]?:=jJ sz l (i+1)
theorem lL (sz:Nat)(l:List PV)(k:IntKind)(n:Int):ee sz (.pv (.list l)) (.pv (.int k n))=gI sz l n:=_root_.id rfl
theorem jH (sz r s:Nat)(l:List PV)(k:IntKind)(n:Int):ee sz (.olist r s l) (.pv (.int k n))=gI sz l n:=_root_.id rfl
theorem o9 (sz r off len:Nat)(k:IntKind){n:Int}(h:0≤n)(h':n.toNat<len):ee sz (.row r sz off len) (.pv (.int k n))=some (.ptr r (off+n.toNat*sz)):=by
 simp[ee,h,h']
theorem yz (l:List UInt8):wQ true (.pv (.str l))=some (.pv (.int .i64 l.length)):=_root_.id rfl
theorem tr (l:List PV):wQ false (.pv (.list l))=some (.pv (.int .i64 l.length)):=_root_.id rfl
theorem tq:wQ false (.pv .nils)=some (.pv (.int .i64 0)):=_root_.id rfl
theorem o8 (r s:Nat)(l:List PV):wQ false (.olist r s l)=some (.pv (.int .i64 l.length)):=_root_.id rfl
theorem yD (r s o n:Nat):wQ false (.row r s o n)=some (.pv (.int .i64 n)):=_root_.id rfl
theorem lP {d top:Nat}{k:IntKind}{n:Int}(h0:0≤n)(h1:n≤top):aM d top (some (.pv (.int k n)))=some n.toNat:=by
 simp[aM,h0,h1]
theorem lQ {d top:Nat}:aM d top none=some d:=_root_.id rfl
def IJ {α:Type}(l:List α)(f:List α→AV):Option Nat→Option Nat→Option AV
 | some h,some a=>some (f ((l.take h).drop a))
 | _,_=>none
theorem vX {α:Type}(l:List α)(f:List α→AV)(h a:Nat):IJ l f (some h) (some a)=some (f ((l.take h).drop a)):=_root_.id rfl
def IT (l:Nat)(lo:Option AV):Option Nat→Option Nat
 | some h=>aM 0 h lo
 | none=>none
theorem wo (l:Nat)(lo:Option AV)(h:Nat):IT l lo (some h)=aM 0 h lo:=_root_.id rfl
theorem lG (l:List UInt8)(lo hi:Option AV):dP (.pv (.str l)) lo hi=IJ l (fun x=>.pv (.str x)) (aM l.length l.length hi) (IT l.length lo (aM l.length l.length hi)):=by
 unfold dP IJ IT
 simp only
 split<;>rename_i h
 ·rw[h];simp only;cases aM 0 _ lo<;>rfl
 ·rw[h]
theorem yX (k:IntKind)(a b:Int):bV .add (.pv (.int k a)) (.pv (.int k b))=some (.pv (.int k (k.wrap (a+b)))):=by simp[bV,jg]
theorem yI (k:IntKind)(a b:Int):bV .sub (.pv (.int k a)) (.pv (.int k b))=some (.pv (.int k (k.wrap (a - b)))):=by simp[bV,jg]
theorem yO (k:IntKind)(a b:Int):bV .mul (.pv (.int k a)) (.pv (.int k b))=some (.pv (.int k (k.wrap (a*b)))):=by simp[bV,jg]
theorem yK {k:IntKind}{a b:Int}(h:¬ b=0):bV .quo (.pv (.int k a)) (.pv (.int k b))=some (.pv (.int k (k.wrap (a.tdiv b)))):=by simp[bV,jg,h]
theorem yJ {k:IntKind}{a b:Int}(h:¬ b=0):bV .rem (.pv (.int k a)) (.pv (.int k b))=some (.pv (.int k (a.tmod b))):=by simp[bV,jg,h]
theorem yW (k:IntKind)(a b:Int):bV .and (.pv (.int k a)) (.pv (.int k b))=some (.pv (.int k (bits .and k a b))):=by simp[bV,jg]
theorem Di (k:IntKind)(a b:Int):bV .or (.pv (.int k a)) (.pv (.int k b))=some (.pv (.int k (bits .or k a b))):=by simp[bV,jg]
theorem yH (k:IntKind)(a b:Int):bV .xor (.pv (.int k a)) (.pv (.int k b))=some (.pv (.int k (bits .xor k a b))):=by simp[bV,jg]
theorem lR (k:IntKind)(a b:Int):bV .andNot (.pv (.int k a)) (.pv (.int k b))=some (.pv (.int k (bits .andNot k a b))):=by simp[bV,jg]
theorem yU (k:IntKind)(a b:Int):bV .eql (.pv (.int k a)) (.pv (.int k b))=some (.pv (.bool (decide (a=b)))):=by simp[bV,jg];rfl
theorem yN (k:IntKind)(a b:Int):bV .neq (.pv (.int k a)) (.pv (.int k b))=some (.pv (.bool (!decide (a=b)))):=by simp[bV,jg];rfl
theorem yP (k:IntKind)(a b:Int):bV .lss (.pv (.int k a)) (.pv (.int k b))=some (.pv (.bool (decide (a<b)))):=by simp[bV,jg]
theorem yQ (k:IntKind)(a b:Int):bV .leq (.pv (.int k a)) (.pv (.int k b))=some (.pv (.bool (decide (a≤b)))):=by simp[bV,jg]
theorem yR (k:IntKind)(a b:Int):bV .gtr (.pv (.int k a)) (.pv (.int k b))=some (.pv (.bool (decide (b<a)))):=by simp[bV,jg]
theorem yS (k:IntKind)(a b:Int):bV .geq (.pv (.int k a)) (.pv (.int k b))=some (.pv (.bool (decide (b≤a)))):=by simp[bV,jg]
theorem tI {a b:List UInt8}(h:a.length+b.length≤9223372036854775807):bV .add (.pv (.str a)) (.pv (.str b))=some (.pv (.str (a++b))):=by
 have:a.length+b.length≤maxLen:=by unfold maxLen;omega
 simp[bV,EQ,this]
theorem tH (a b:List UInt8):bV .eql (.pv (.str a)) (.pv (.str b))=some (.pv (.bool (decide (a=b)))):=by
 simp[bV,EQ];rw[Bool.eq_iff_iff];simp
theorem tC (a b:List UInt8):bV .neq (.pv (.str a)) (.pv (.str b))=some (.pv (.bool (!decide (a=b)))):=by
 simp[bV,EQ];rw[Bool.eq_iff_iff];simp
theorem tD (a b:List UInt8):bV .lss (.pv (.str a)) (.pv (.str b))=some (.pv (.bool (bD a b))):=_root_.id rfl
theorem tE (a b:List UInt8):bV .leq (.pv (.str a)) (.pv (.str b))=some (.pv (.bool (bD a b||a == b))):=_root_.id rfl
theorem tF (a b:List UInt8):bV .gtr (.pv (.str a)) (.pv (.str b))=some (.pv (.bool (!(bD a b||a == b)))):=_root_.id rfl
theorem tG (a b:List UInt8):bV .geq (.pv (.str a)) (.pv (.str b))=some (.pv (.bool (!(bD a b)))):=_root_.id rfl
theorem tN (a b:Bool):lT 0 (.pv (.bool a)) (.pv (.bool b))=some (a == b):=_root_.id rfl
theorem yZ (r o:Nat):lT 1 (.ptr r o) (.pv .nilp)=some false:=_root_.id rfl
theorem tL (l:List PV)(i o:Nat):lT 1 (.pv (.eptr l i o)) (.pv .nilp)=some false:=_root_.id rfl
theorem tK:lT 1 (.pv .nilp) (.pv .nilp)=some true:=_root_.id rfl
theorem tM (x:PV)(l:List PV):lT 2 (.pv (.list (x::l))) (.pv .nils)=some false:=_root_.id rfl
theorem pg (r s:Nat)(x:PV)(l:List PV):lT 2 (.olist r s (x::l)) (.pv .nils)=some false:=_root_.id rfl
theorem yY {r s o n:Nat}(h:0<n):lT 2 (.row r s o n) (.pv .nils)=some false:=by
 cases n with
 | zero=>exact absurd h (Nat.lt_irrefl _)
 | succ n=>rfl
theorem tJ:lT 2 (.pv .nils) (.pv .nils)=some true:=_root_.id rfl
theorem yw (k:IntKind)(n:Int):ES (.pv (.int k n))=some (.pv (.int k (k.wrap (0 - n)))):=_root_.id rfl
theorem th (b:Bool):ER (.pv (.bool b))=some (.pv (.bool (!b))):=_root_.id rfl
theorem tB (k k':IntKind)(n:Int):pd k (.pv (.int k' n))=some (.pv (.int k (k.wrap n))):=_root_.id rfl
theorem pc (s:List UInt8):gV (.pv (.str s))=some (.pv (.str s)):=_root_.id rfl
theorem yu (r o:Nat):wP (.ptr r o)=some (.ptr r o):=_root_.id rfl
theorem tk (l:List PV)(i o:Nat):wP (.pv (.eptr l i o))=some (.pv (.eptr l i o)):=_root_.id rfl
theorem tj (g o:Nat):wP (.pv (.gptr g o))=some (.pv (.gptr g o)):=_root_.id rfl
theorem ti (f:Nat)(a b:List PV):wP (.pv (.clo f a b))=some (.pv (.clo f a b)):=_root_.id rfl
theorem yv (f:Nat)(a b:List AV):wP (.clo f a b)=some (.clo f a b):=_root_.id rfl
theorem De (i:Nat)(ps:List PV):Dg i (.pv (.tup ps))=(ps[i]?).map .pv:=_root_.id rfl
theorem Df (i:Nat)(ps:List AV):Dg i (.tup ps)=ps[i]?:=_root_.id rfl
theorem uh {α β:Type}(f:α→β)(a:α):(some a).map f=some (f a):=_root_.id rfl
theorem pP:[].map AV.pv=[]:=_root_.id rfl
theorem mn (x:PV)(r:List PV):(x::r).map AV.pv = .pv x::r.map AV.pv:=_root_.id rfl
theorem Jq {α:Type}(x:α)(r:List α):(x::r)[0]? = some x:=_root_.id rfl
theorem Jp {α:Type}(x:α)(r:List α)(n:Nat):(x::r)[n+1]? = r[n]?:=_root_.id rfl
theorem Dl:pvs []=some []:=_root_.id rfl
def HR:Option PV→Option (List PV)→Option (List PV)
 | some p,some ps=>some (p::ps)
 | _,_=>none
theorem tV (p:PV)(ps:List PV):HR (some p) (some ps)=some (p::ps):=_root_.id rfl
theorem tW (x:Option (List PV)):HR none x=none:=_root_.id rfl
theorem pl (x:Option PV):HR x none=none:=by cases x<;>rfl
theorem nB (x:AV)(r:List AV):pvs (x::r)=HR x.toPV (pvs r):=by
 show (match x.toPV,pvs r with | some p,some ps=>some (p::ps) | _,_=>none)=_
 cases x.toPV<;>cases pvs r<;>rfl
theorem tU:∀ (ps:List PV),pvs (ps.map .pv)=some ps
 | []=>rfl
 | x::r=>by rw[List.map_cons,nB,tU r];rfl
theorem Cp (p:PV):(AV.pv p).toPV=some p:=_root_.id rfl
theorem oC (r s:Nat)(l:List PV):(AV.olist r s l).toPV=some (.list l):=_root_.id rfl
theorem xx (r o:Nat):(AV.ptr r o).toPV=none:=_root_.id rfl
theorem xw (r s o n:Nat):(AV.row r s o n).toPV=none:=_root_.id rfl
theorem xz (cs:List AV):(AV.agg cs).toPV=none:=_root_.id rfl
theorem xv (cs:List AV):(AV.tup cs).toPV=none:=_root_.id rfl
theorem xy (f:Nat)(a b:List AV):(AV.clo f a b).toPV=none:=_root_.id rfl
def uE (cs:List AV):Option (List PV)→AV
 | some ps=>.pv (.agg ps)
 | none=>.agg cs
theorem DF (cs:List AV):fi cs=uE cs (pvs cs):=by unfold fi;cases pvs cs<;>rfl
theorem ml (cs:List AV)(ps:List PV):uE cs (some ps) = .pv (.agg ps):=_root_.id rfl
theorem mm (cs:List AV):uE cs none = .agg cs:=_root_.id rfl
def uC (cs:List AV):Option (List PV)→AV
 | some ps=>.pv (.tup ps)
 | none=>.tup cs
theorem DD (cs:List AV):j0 cs=uC cs (pvs cs):=by unfold j0;cases pvs cs<;>rfl
theorem me (cs:List AV)(ps:List PV):uC cs (some ps) = .pv (.tup ps):=_root_.id rfl
theorem mf (cs:List AV):uC cs none = .tup cs:=_root_.id rfl
def j2 (f:Nat)(fs cs:List AV):Option (List PV)→Option (List PV)→AV
 | some a,some b=>.pv (.clo f a b)
 | _,_=>.clo f fs cs
theorem DE (f:Nat)(fs cs:List AV):mj f fs cs=j2 f fs cs (pvs fs) (pvs cs):=by unfold mj j2;cases pvs fs<;>cases pvs cs<;>rfl
theorem mg (f:Nat)(fs cs:List AV)(a b:List PV):j2 f fs cs (some a) (some b) = .pv (.clo f a b):=_root_.id rfl
theorem mh (f:Nat)(fs cs:List AV)(a:Option (List PV)):j2 f fs cs a none = .clo f fs cs:=by cases a<;>rfl
theorem j1 (f:Nat)(fs cs:List AV)(a:Option (List PV)):j2 f fs cs none a = .clo f fs cs:=by cases a<;>rfl
theorem wc (p:PV):(AV.pv p).cells=p.cells.map .pv:=_root_.id rfl
theorem qY (cs:List AV):(AV.agg cs).cells=cs:=_root_.id rfl
theorem qU (cs:List AV):(AV.tup cs).cells=[.tup cs]:=_root_.id rfl
theorem qW (r o:Nat):(AV.ptr r o).cells=[.ptr r o]:=_root_.id rfl
theorem qV (r s o n:Nat):(AV.row r s o n).cells=[.row r s o n]:=_root_.id rfl
theorem kH (r s:Nat)(l:List PV):(AV.olist r s l).cells=[.olist r s l]:=_root_.id rfl
theorem qX (f:Nat)(a b:List AV):(AV.clo f a b).cells=[.clo f a b]:=_root_.id rfl
theorem aV (cs:List PV):(PV.agg cs).cells=cs:=_root_.id rfl
theorem qT (b:Bool):(PV.bool b).cells=[.bool b]:=_root_.id rfl
theorem wa (k:IntKind)(n:Int):(PV.int k n).cells=[.int k n]:=_root_.id rfl
theorem v7 (s:List UInt8):(PV.str s).cells=[.str s]:=_root_.id rfl
theorem qN:PV.nils.cells=[.nils]:=_root_.id rfl
theorem qQ (l:List PV):(PV.list l).cells=[.list l]:=_root_.id rfl
theorem qO:PV.nilp.cells=[.nilp]:=_root_.id rfl
theorem qP:PV.nilf.cells=[.nilf]:=_root_.id rfl
theorem wb (f:Nat)(a b:List PV):(PV.clo f a b).cells=[.clo f a b]:=_root_.id rfl
theorem qS (l:List PV)(i o:Nat):(PV.eptr l i o).cells=[.eptr l i o]:=_root_.id rfl
theorem qR (g o:Nat):(PV.gptr g o).cells=[.gptr g o]:=_root_.id rfl
def DN (g:Bool)(sz o:Nat):Blk→Option AV
 | .cells _ _ l=>bL g sz o l
 | _=>none
theorem mD (g:Bool)(sz o T:Nat)(f:Bool)(l:List AV):DN g sz o (.cells T f l)=bL g sz o l:=_root_.id rfl
def DJ (g:Bool)(sz o:Nat):Option PV→Option AV
 | some e=>gL g sz o e
 | none=>none
theorem p7 (g:Bool)(sz o:Nat)(e:PV):DJ g sz o (some e)=gL g sz o e:=_root_.id rfl
theorem tp (G:Nat→List PV)(g:Bool)(sz:Nat)(σ:ag)(r o:Nat):cD G g sz σ (.ptr r o)=DN g sz o (σ r):=by
 simp only[cD,DN];cases σ r<;>rfl
theorem o7 (G:Nat→List PV)(g:Bool)(sz:Nat)(σ:ag)(l:List PV)(i o:Nat):cD G g sz σ (.pv (.eptr l i o))=DJ g sz o l[i]?:=by
 simp only[cD,DJ];cases l[i]? <;> rfl
theorem o6 (G:Nat→List PV)(g:Bool)(sz:Nat)(σ:ag)(b o:Nat):cD G g sz σ (.pv (.gptr b o))=bL g sz o ((G b).map .pv):=_root_.id rfl
theorem DM (sz o:Nat)(e:PV):gL false sz o e=bL false sz o (e.cells.map .pv):=by simp[gL]
theorem DL {sz o:Nat}{cs:List PV}(h:0<o):gL true sz o (.agg cs)=bL true sz o (cs.map .pv):=by
 simp[gL,PV.cells];omega
def e7 (e:List (Nat×AV))(σ:List (Nat×Blk))(new:Nat):XOp→Option (AV×List (Nat×Blk))
 | .cap sz x=>(yG sz (fun r=>lookB r σ) (evE e x)).map fun v=>(v,[])
 | .resl sz x h=>(iG sz (fun r=>lookB r σ) (evE e x) (evE e h)).map fun v=>(v,[])
 | .copy sz x y=>jK sz (fun r=>lookB r σ) (evE e x) (evE e y)
 | .apart x y=>(eg (fun r=>lookB r σ) (evE e x) (evE e y)).map fun v=>(v,[])
 | .appz t sz by_ zs x k=>jM t sz by_ zs new (fun r=>lookB r σ) (evE e x) (evE e k)
 | .noesc x=>some (evE e x,[])
 | .ucast u n b x=>(de u n b (fun r=>lookB r σ) (evE e x)).map fun v=>(v,[])
 | .peq ng x y=>(Da ng (evE e x) (evE e y)).map fun v=>(v,[])
 | .anyc=>some (.any,[])
 | .apps t by_ x y=>gJ t by_ new (fun r=>lookB r σ) (evE e x) (evE e y)
 | .sdata x=>(ec (evE e x)).map fun v=>(v,[])
 | .ustr t x k=>jF t (fun r=>lookB r σ) (evE e x) (evE e k)
 | .ofStr x=>fQ new (evE e x)
 | .fnil ng x y=>(jI ng (evE e x) (evE e y)).map fun v=>(v,[])
 | .inil ng x y=>(yE ng (evE e x) (evE e y)).map fun v=>(v,[])
 | .idxb x y=>(lK (evE e x) (evE e y)).map fun v=>(v,[])
 | .mki T x=>(HQ T (evE e x)).map fun v=>(v,[])
 | .mkmap=>some (.mp new,[(new,.mp [])])
 | .mlook kd co z x k=>(tm kd co z (fun r=>lookB r σ) (evE e x) (evE e k)).map fun v=>(v,[])
 | .mset kd x k v=>(tl kd (fun r=>lookB r σ) (evE e x) (evE e k) (evE e v)).map fun d=>(.pv .undef,d)
 | .bslf sz len xs=>Dh sz len (evL e xs)
theorem Ca (e:List (Nat×AV))(σ:List (Nat×Blk))(n new:Nat)(o:XOp):o.run new (St.E ⟨e,σ,n⟩) (St.σ ⟨e,σ,n⟩)=e7 e σ new o:=by
 cases o<;>simp only[XOp.run,e7,fk,Aw]<;>rfl
def gK (G:Nat→List PV)(e:List (Nat×AV))(σ:List (Nat×Blk))(new:Nat):MOp→Option (AV×List (Nat×Blk))
 | .alloc T zs=>some (.ptr new 0,[(new,.cells T true (zs.map .pv))])
 | .box T x=>if (evE e x).known=true then some (.ptr new 0,[(new,.cells T true (evE e x).cells)]) else none
 | .cbox T x=>match (evE e x).toPV with
   | some p=>if p.cells.all PV.one=true then some (.pv (.eptr [p] 0 0),[(new,.none)]) else none
   | none=>none
 | .load g sz x=>(cD G g sz (fun r=>lookB r σ) (evE e x)).map fun v=>(v,[])
 | .store sz x v=>(eb sz (fun r=>lookB r σ) (evE e x) (evE e v)).map fun d=>(.pv .undef,d)
 | .clear sz zs x=>(ef sz zs (fun r=>lookB r σ) (evE e x)).map fun d=>(.pv (.tup []),d)
 | .toStr x=>(cU (fun r=>lookB r σ) (evE e x)).map fun v=>(v,[])
 | .xop o=>e7 e σ new o
 | .bslice mu t sz len xs=>bK mu t sz len new (evL e xs)
 | .append mu t sz by_ x y=>ce mu t sz by_ new (fun r=>lookB r σ) (evE e x) (evE e y)
 | .mk mu t sz by_ zs x y=>rMk mu t sz by_ zs new (evE e x) (evE e y)
 | .sliceA n sz x lo hi=>match evE e x with
   | .ptr r o=>match lookB r σ with
     | .cells _ f l=>if f=true∧o+n*sz≤l.length∧(o=0→n*sz=l.length)∧n≤9223372036854775807 then (bJ sz (.row r sz o n) (evO e lo) (evO e hi)).map fun v=>(v,[]) else none
     | _=>none
   | _=>none
theorem uI (G:Nat→List PV)(e:List (Nat×AV))(σ:List (Nat×Blk))(n new:Nat)(o:MOp):o.run G new (St.E ⟨e,σ,n⟩) (St.σ ⟨e,σ,n⟩)=gK G e σ new o:=by
 cases o<;>first | (simp only[MOp.run,gK,fk,Aw,Gf]<;>rfl) | exact Ca e σ n new _
def cw (δ:List (Nat×Blk)):Option AV→Option (AV×List (Nat×Blk))
 | some v=>some (v,δ)
 | none=>none
theorem ox (δ:List (Nat×Blk))(v:AV):cw δ (some v)=some (v,δ):=_root_.id rfl
def xe (v:AV):Option (List (Nat×Blk))→Option (AV×List (Nat×Blk))
 | some δ=>some (v,δ)
 | none=>none
theorem ow (δ:List (Nat×Blk))(v:AV):xe v (some δ)=some (v,δ):=_root_.id rfl
theorem pV (G:Nat→List PV)(e:List (Nat×AV))(σ:List (Nat×Blk))(new T:Nat)(zs:List PV):gK G e σ new (.alloc T zs)=some (.ptr new 0,[(new,.cells T true (zs.map .pv))]):=_root_.id rfl
def Jh (new T:Nat)(v:AV):Bool→Option (AV×List (Nat×Blk))
 | true=>some (.ptr new 0,[(new,.cells T true v.cells)])
 | false=>none
theorem GL (new T:Nat)(v:AV):Jh new T v true=some (.ptr new 0,[(new,.cells T true v.cells)]):=_root_.id rfl
theorem zP (G:Nat→List PV)(e:List (Nat×AV))(σ:List (Nat×Blk))(new T:Nat)(x:AX):gK G e σ new (.box T x)=Jh new T (evE e x) (evE e x).known:=by
 simp only[gK];cases (evE e x).known<;>rfl
def En (new:Nat):Option PV→Option (AV×List (Nat×Blk))
 | some p=>if p.cells.all PV.one=true then some (.pv (.eptr [p] 0 0),[(new,.none)]) else none
 | none=>none
theorem qZ (new:Nat)(p:PV):En new (some p)=if p.cells.all PV.one=true then some (.pv (.eptr [p] 0 0),[(new,.none)]) else none:=_root_.id rfl
theorem uJ (G:Nat→List PV)(e:List (Nat×AV))(σ:List (Nat×Blk))(new T:Nat)(x:AX):gK G e σ new (.cbox T x)=En new (evE e x).toPV:=by
 simp only[gK,En]
theorem z8 (p:PV):(AV.pv p).known=true:=_root_.id rfl
theorem u6 (cs:List AV):(AV.agg cs).known=true:=_root_.id rfl
theorem uW (cs:List AV):(AV.tup cs).known=true:=_root_.id rfl
theorem uY (r o:Nat):(AV.ptr r o).known=true:=_root_.id rfl
theorem uX (r s o n:Nat):(AV.row r s o n).known=true:=_root_.id rfl
theorem mG (r s:Nat)(l:List PV):(AV.olist r s l).known=true:=_root_.id rfl
theorem uZ (f:Nat)(a b:List AV):(AV.clo f a b).known=true:=_root_.id rfl
theorem uH (G:Nat→List PV)(e:List (Nat×AV))(σ:List (Nat×Blk))(new:Nat)(g:Bool)(sz:Nat)(x:AX):gK G e σ new (.load g sz x)=cw [] (cD G g sz (fun r=>lookB r σ) (evE e x)):=by
 simp only[gK];cases cD G g sz (fun r=>lookB r σ) (evE e x)<;>rfl
theorem pT (G:Nat→List PV)(e:List (Nat×AV))(σ:List (Nat×Blk))(new sz:Nat)(x v:AX):gK G e σ new (.store sz x v)=xe (.pv .undef) (eb sz (fun r=>lookB r σ) (evE e x) (evE e v)):=by
 simp only[gK];cases eb sz (fun r=>lookB r σ) (evE e x) (evE e v)<;>rfl
def BY (sz:Nat)(zs:List PV)(r s off len:Nat):Blk→Option (List (Nat×Blk))
 | .cells T f l=>if s=sz∧0<len∧zs.length=sz∧off+len*sz≤l.length∧zs.all PV.one=true then some [(r,.cells T f (l.take off++(List.replicate len zs).flatten.map .pv++l.drop (off+len*sz)))] else none
 | _=>none
theorem pf (sz:Nat)(zs:List PV)(σ:ag)(r s off len:Nat):ef sz zs σ (.row r s off len)=BY sz zs r s off len (σ r):=by
 simp only[ef,BY];cases σ r<;>rfl
theorem pU (G:Nat→List PV)(e:List (Nat×AV))(σ:List (Nat×Blk))(new sz:Nat)(zs:List PV)(x:AX):gK G e σ new (.clear sz zs x)=xe (.pv (.tup [])) (ef sz zs (fun r=>lookB r σ) (evE e x)):=by
 simp only[gK,xe];cases ef sz zs (fun r=>lookB r σ) (evE e x)<;>rfl
theorem mz (G:Nat→List PV)(e:List (Nat×AV))(σ:List (Nat×Blk))(new:Nat)(mu:Bool)(t sz len:Nat)(xs:List AX):gK G e σ new (.bslice mu t sz len xs)=bK mu t sz len new (evL e xs):=_root_.id rfl
theorem mA (G:Nat→List PV)(e:List (Nat×AV))(σ:List (Nat×Blk))(new:Nat)(mu:Bool)(t sz by_:Nat)(x y:AX):gK G e σ new (.append mu t sz by_ x y)=ce mu t sz by_ new (fun r=>lookB r σ) (evE e x) (evE e y):=_root_.id rfl
theorem DG (G:Nat→List PV)(e:List (Nat×AV))(σ:List (Nat×Blk))(new:Nat)(mu:Bool)(t sz by_:Nat)(zs:List PV)(x y:AX):gK G e σ new (.mk mu t sz by_ zs x y)=rMk mu t sz by_ zs new (evE e x) (evE e y):=_root_.id rfl
theorem Db {e sz by_:Nat}{zs:List PV}{new:Nat}{k k':IntKind}{c:Int}(h:0≤c)(h1:(by_:Int)*c≤281474976710656)(h2:c≤9223372036854775807):rMk false e sz by_ zs new (.pv (.int k 0)) (.pv (.int k' c))=some (.olist new sz [],[(new,.tok e sz)]):=by
 simp[rMk,h,h1,h2]
def nt (sz r o:Nat)(v:AV):Blk→Option (List (Nat×Blk))
 | .cells T f l=>if v.known=true∧v.cells.length=sz∧v.cells.all AV.one=true∧o+sz≤l.length then some [(r,.cells T f (l.take o++v.cells++l.drop (o+sz)))] else none
 | _=>none
theorem oX (sz:Nat)(σ:ag)(r o:Nat)(v:AV):eb sz σ (.ptr r o) v=nt sz r o v (σ r):=by
 simp only[eb,nt];cases σ r<;>rfl
def Bp (r T:Nat)(f:Bool)(l:List AV)(sz o:Nat)(cs:List AV):Bool→Option (List (Nat×Blk))
 | true=>some [(r,.cells T f (l.take o++cs++l.drop (o+sz)))]
 | false=>none
theorem jr (sz r o:Nat)(v:AV)(T:Nat)(f:Bool)(l:List AV):nt sz r o v (.cells T f l)=Bp r T f l sz o v.cells (v.known&&decide (v.cells.length=sz)&&v.cells.all AV.one&&decide (o+sz≤l.length)):=by
 simp only[nt]
 by_cases h:v.known=true∧v.cells.length=sz∧v.cells.all AV.one=true∧o+sz≤l.length
 ·rw[if_pos h]
  have:(v.known&&decide (v.cells.length=sz)&&v.cells.all AV.one&&decide (o+sz≤l.length))=true:=by simp only[Bool.and_eq_true,decide_eq_true_eq];exact⟨⟨⟨h.1,h.2.1⟩,h.2.2.1⟩,h.2.2.2⟩
  rw[this];rfl
 ·rw[if_neg h]
  have:(v.known&&decide (v.cells.length=sz)&&v.cells.all AV.one&&decide (o+sz≤l.length))=false:=by
   rw[Bool.eq_false_iff]
   intro hh
   simp only[Bool.and_eq_true,decide_eq_true_eq] at hh
   exact h ⟨hh.1.1.1,hh.1.1.2,hh.1.2,hh.2⟩
  rw[this];rfl
theorem x8 (r T:Nat)(f:Bool)(l:List AV)(sz o:Nat)(cs:List AV):Bp r T f l sz o cs true=some [(r,.cells T f (l.take o++cs++l.drop (o+sz)))]:=_root_.id rfl
theorem dc {n m by_:Nat}(h1:n+m≤9223372036854775807)(h2:(n+m)*by_≤140737488355328):gT n m by_=true:=by
 simp[gT,h1,h2]
theorem xm (l:List (Nat×Blk)):ix l []=l:=_root_.id rfl
theorem r4 (l:List (Nat×Blk))(p:Nat×Blk)(r:List (Nat×Blk)):ix l (p::r)=ix (p::l) r:=_root_.id rfl
theorem AE (f:Nat)(a b:List PV):bP (.pv (.clo f a b))=some (f,a.map .pv,b.map .pv):=_root_.id rfl
theorem AF (f:Nat)(a b:List AV):bP (.clo f a b)=some (f,a,b):=_root_.id rfl
theorem Dq {α:Type}(a:α)(k:α→Prop):aC (some a) k=k a:=_root_.id rfl
section
variable {P:Program}{G:Nat→List PV}
theorem zw (F:St→Prop)(e:List (Nat×AV))(σ:List (Nat×Blk))(n d:Nat)(v:AV):zx F ⟨e,σ,n⟩ (some d) v=F ⟨(d,v)::e,σ,n⟩:=_root_.id rfl
theorem zv (F:St→Prop)(e:List (Nat×AV))(σ:List (Nat×Blk))(n:Nat)(v:AV):zx F ⟨e,σ,n⟩ none v=F ⟨e,σ,n⟩:=_root_.id rfl
theorem zz (F:St→Prop)(e:List (Nat×AV))(σ:List (Nat×Blk))(n d:Nat)(v:AV)(δ:List (Nat×Blk)):pH F ⟨e,σ,n⟩ (some d) (v,δ)=F ⟨(d,v)::e,ix σ δ,n+1⟩:=_root_.id rfl
theorem zy (F:St→Prop)(e:List (Nat×AV))(σ:List (Nat×Blk))(n:Nat)(v:AV)(δ:List (Nat×Blk)):pH F ⟨e,σ,n⟩ none (v,δ)=F ⟨e,ix σ δ,n+1⟩:=_root_.id rfl
theorem zE (F:St→Prop)(e:List (Nat×AV))(σ:List (Nat×Blk))(n d:Nat)(v:AV):zF F (some d) v ⟨e,σ,n⟩=F ⟨(d,v)::e,σ,n⟩:=_root_.id rfl
theorem zD (F:St→Prop)(e:List (Nat×AV))(σ:List (Nat×Blk))(n:Nat)(v:AV):zF F none v ⟨e,σ,n⟩=F ⟨e,σ,n⟩:=_root_.id rfl
theorem AJ (args:List AV)(s:St)(K:AV→St→Prop)(f:Nat)(a b:List AV):wd P G args s K (f,a,b)=ae P G f (a++args++b) s K:=_root_.id rfl
theorem rL (F:St→Prop)(s:St):bU P G [] F s=F s:=_root_.id rfl
theorem oz (d:Option Nat)(o:AOp)(r:List AOper)(F:St→Prop)(s:St):bU P G (⟨d,o,none⟩::r) F s=gG P G (bU P G r F) s d o:=_root_.id rfl
def fF (b:Bool):AV→Option Bool
 | .pv (.bool x)=>some (x == b)
 | .pv .undef=>some false
 | _=>none
theorem rI (x:Bool):fF true (.pv (.bool x))=some x:=by cases x<;>rfl
theorem rJ (x:Bool):fF false (.pv (.bool x))=some (!x):=by cases x<;>rfl
theorem rH (b:Bool):fF b (.pv .undef)=some false:=_root_.id rfl
theorem lf (d:Option Nat)(o:AOp)(i:Nat)(b:Bool)(r:List AOper)(F:St→Prop)(e:List (Nat×AV))(σ:List (Nat×Blk))(n:Nat) :
  bU P G (⟨d,o,some (i,b)⟩::r) F ⟨e,σ,n⟩=aC (fF b (look i e)) (BT P G (bU P G r F) ⟨e,σ,n⟩ d o):=_root_.id rfl
theorem vT (F:St→Prop)(s:St)(d:Option Nat)(o:AOp):BT P G F s d o true=gG P G F s d o:=_root_.id rfl
theorem qE (F:St→Prop)(e:List (Nat×AV))(σ:List (Nat×Blk))(n:Nat)(d:Nat)(o:AOp):BT P G F ⟨e,σ,n⟩ (some d) o false=F ⟨(d,.pv .undef)::e,σ,n⟩:=_root_.id rfl
theorem mP (F:St→Prop)(s:St)(o:AOp):BT P G F s none o false=F s:=_root_.id rfl
def FN (k:AV→Prop):AV→Prop
 | .pv (.list [])=>∀ b:Bool,k (.pv (.bool b))
 | _=>False
def iI (x:Option AV)(k:AV→Prop)(e:List (Nat×AV))(o:TOp):Prop:=
 match x with
 | some v=>k v
 | none=>match o with
   | .beq 2 _ y (.c .nils)=>FN k (evE e y)
   | _=>False
theorem jO (v:AV)(k:AV→Prop)(e:List (Nat×AV))(o:TOp):iI (some v) k e o=k v:=_root_.id rfl
theorem jP (k:AV→Prop)(e:List (Nat×AV))(ng:Bool)(y:AX):iI none k e (.beq 2 ng y (.c .nils))=FN k (evE e y):=_root_.id rfl
theorem zq (k:AV→Prop):FN k (.pv (.list [])) = ∀ b:Bool,k (.pv (.bool b)):=_root_.id rfl
theorem y3 (ng:Bool):tP ng (lT 2 (.pv (.list [])) (.pv .nils))=none:=_root_.id rfl
theorem Gm (F:St→Prop)(e:List (Nat×AV))(σ:List (Nat×Blk))(n:Nat)(d:Option Nat)(o:TOp):gG P G F ⟨e,σ,n⟩ d (.t o)=iI (dD e o) (zx F ⟨e,σ,n⟩ d) e o:=by
 rw[← sh e σ n]
 show eP (o.run (St.E ⟨e,σ,n⟩)) _ _=_
 cases hr:o.run (St.E ⟨e,σ,n⟩) with
 | some v=>rfl
 | none=>
   simp only[eP,iI]
   refine propext ⟨fun h=>?_,fun h=>?_⟩
   ·obtain⟨h1,h2⟩:=h
    unfold nilB at h1
    split at h1
    ·split at h1
     ·rename_i hev
      rw[fk] at hev
      show FN _ _
      rw[hev];exact h2
     ·cases h1
    ·cases h1
   ·split at h
    ·rename_i y
     unfold FN at h
     split at h
     ·rename_i hev
      refine⟨?_,h⟩
      simp only[nilB]
      rw[fk,hev]
     ·exact h.elim
    ·exact h.elim
theorem Gn (F:St→Prop)(e:List (Nat×AV))(σ:List (Nat×Blk))(n:Nat)(d:Option Nat)(o:MOp):gG P G F ⟨e,σ,n⟩ d (.m o)=aC (gK G e σ n o) (pH F ⟨e,σ,n⟩ d):=by
 rw[← uI G e σ n];rfl
theorem vS (F:St→Prop)(e:List (Nat×AV))(σ:List (Nat×Blk))(n:Nat)(d:Option Nat)(f:AX)(xs:List AX):gG P G F ⟨e,σ,n⟩ d (.call f xs)=aC (bP (evE e f)) (wd P G (evL e xs) ⟨e,σ,n⟩ (zF F d)):=by
 rw[← fk e σ n,← vI e σ n];rfl
theorem ya (F:List (List Nat×List Nat)→St→Prop)(T:List (List Nat×List Nat))(e:List (Nat×AV))(σ:List (Nat×Blk))(n d:Nat)(v:AV):su F T ⟨e,σ,n⟩ (some d) v=F (T++[([],[])]) ⟨(d,v)::e,σ,n⟩:=_root_.id rfl
theorem x9 (F:List (List Nat×List Nat)→St→Prop)(T:List (List Nat×List Nat))(e:List (Nat×AV))(σ:List (Nat×Blk))(n:Nat)(v:AV):su F T ⟨e,σ,n⟩ none v=F (T++[([],[])]) ⟨e,σ,n⟩:=_root_.id rfl
theorem yc (F:List (List Nat×List Nat)→St→Prop)(T:List (List Nat×List Nat))(e:List (Nat×AV))(σ:List (Nat×Blk))(n d k:Nat)(rd:List Nat)(v:AV)(δ:List (Nat×Blk)):sv F T ⟨e,σ,n⟩ (some d) k rd (v,δ)=F (T++[db k (aJ δ) rd]) ⟨(d,v)::e,ix σ δ,n+1⟩:=_root_.id rfl
theorem yb (F:List (List Nat×List Nat)→St→Prop)(T:List (List Nat×List Nat))(e:List (Nat×AV))(σ:List (Nat×Blk))(n k:Nat)(rd:List Nat)(v:AV)(δ:List (Nat×Blk)):sv F T ⟨e,σ,n⟩ none k rd (v,δ)=F (T++[db k (aJ δ) rd]) ⟨e,ix σ δ,n+1⟩:=_root_.id rfl
theorem bp {F:List (List Nat×List Nat)→St→Prop}{T:List (List Nat×List Nat)}{e:List (Nat×AV)}{σ:List (Nat×Blk)}{n d:Nat}{f:Nat}{a b args:List AV}{ps:List PV}{r:PV}(h:aw P G f ps r)(he:pvs (a++args++b)=some ps)
  (hk:F (T++[([],[])]) ⟨(d,.pv r)::e,σ,n⟩):il P G F T ⟨e,σ,n⟩ (some d) args (f,a,b):=.inl ⟨ps,r,he,h,hk⟩
theorem Fr (ks rs:List Nat):db 0 ks rs=(ks.map (· + 1),rs.map (· + 1)):=_root_.id rfl
theorem Fq (ks rs:List Nat):db 1 ks rs=(ks.map (· + 1),0::rs.map (· + 1)):=_root_.id rfl
theorem Fp (ks rs:List Nat):db 2 ks rs=(0::ks.map (· + 1),rs.map (· + 1)):=_root_.id rfl
theorem mq (g:Bool)(sz:Nat)(x:AX):aR (.load g sz x)=0:=_root_.id rfl
theorem j6 (sz:Nat)(x v:AX):aR (.store sz x v)=0:=_root_.id rfl
theorem j5 (x:AX):aR (.toStr x)=0:=_root_.id rfl
theorem j9 (sz:Nat)(zs:List PV)(x:AX):aR (.clear sz zs x)=0:=_root_.id rfl
theorem iJ (n sz:Nat)(x:AX)(l h:Option AX):aR (.sliceA n sz x l h)=0:=_root_.id rfl
theorem ka (T:Nat)(z:List PV):aR (.alloc T z)=1:=_root_.id rfl
theorem pR (T:Nat)(x:AX):aR (.box T x)=1:=_root_.id rfl
theorem mx (T:Nat)(x:AX):aR (.cbox T x)=1:=_root_.id rfl
theorem iK (m:Bool)(e s l:Nat)(x:List AX):aR (.bslice m e s l x)=1:=_root_.id rfl
theorem iL (m:Bool)(e s l:Nat)(x y:AX):aR (.append m e s l x y)=1:=_root_.id rfl
theorem uG (m:Bool)(e s l:Nat)(z:List PV)(x y:AX):aR (.mk m e s l z x y)=1:=_root_.id rfl
theorem Cj {A:List (List Nat)}{F:St→Prop}{T:List (List Nat×List Nat)}{s:St}(h:Chk (okB A T)):vcD P G A F [] T s=F s:=by
 show (okB A T=true∧F s)=F s
 rw[eq_iff_iff]
 exact⟨fun x=>x.2,fun x=>⟨h,x⟩⟩
theorem xi (A:List (List Nat))(F:St→Prop)(d:Option Nat)(o:AOp)(r:List AOper)(T:List (List Nat×List Nat))(s:St):vcD P G A F (⟨d,o,none⟩::r) T s=ez P G (vcD P G A F r) T s d o:=_root_.id rfl
theorem rM (A:List (List Nat))(F:St→Prop)(d:Option Nat)(o:AOp)(i:Nat)(b:Bool)(r:List AOper)(T:List (List Nat×List Nat))(e:List (Nat×AV))(σ:List (Nat×Blk))(n:Nat) :
  vcD P G A F (⟨d,o,some (i,b)⟩::r) T ⟨e,σ,n⟩=aC (fF b (look i e)) (kB P G (vcD P G A F r) T ⟨e,σ,n⟩ d o):=_root_.id rfl
theorem qF (F:List (List Nat×List Nat)→St→Prop)(T:List (List Nat×List Nat))(s:St)(d:Option Nat)(o:AOp):kB P G F T s d o true=ez P G F T s d o:=_root_.id rfl
theorem mQ (F:List (List Nat×List Nat)→St→Prop)(T:List (List Nat×List Nat))(e:List (Nat×AV))(σ:List (Nat×Blk))(n:Nat)(d:Nat)(o:AOp):kB P G F T ⟨e,σ,n⟩ (some d) o false=F (T++[([],[])]) ⟨(d,.pv .undef)::e,σ,n⟩:=_root_.id rfl
theorem kA (F:List (List Nat×List Nat)→St→Prop)(T:List (List Nat×List Nat))(s:St)(o:AOp):kB P G F T s none o false=F (T++[([],[])]) s:=_root_.id rfl
theorem Ef (F:List (List Nat×List Nat)→St→Prop)(T:List (List Nat×List Nat))(e:List (Nat×AV))(σ:List (Nat×Blk))(n:Nat)(d:Option Nat)(o:TOp):ez P G F T ⟨e,σ,n⟩ d (.t o)=aC (dD e o) (su F T ⟨e,σ,n⟩ d):=by
 rw[← sh e σ n];rfl
def cQ (e:List (Nat×AV)):XOp→List Nat
 | .cap _ x=>(evE e x).name
 | .resl _ x _=>(evE e x).name
 | .copy _ x y | .apart x y=>(evE e x).name++(evE e y).name
 | .appz _ _ _ _ x _=>(evE e x).name
 | .ucast _ _ _ x | .apps _ _ x _ | .ustr _ x _=>(evE e x).name
 | .noesc _ | .peq _ _ _ | .anyc | .sdata _ | .ofStr _ | .fnil _ _ _ | .inil _ _ _ | .idxb _ _ | .mki _ _ | .mkmap | .bslf _ _ _=>[]
 | .mlook _ _ _ x _ | .mset _ x _ _=>(evE e x).name
def b9 (e:List (Nat×AV)):MOp→List Nat
 | .xop o=>cQ e o
 | .load _ _ x | .sliceA _ _ x _ _ | .clear _ _ x | .toStr x=>(evE e x).name
 | .append _ _ _ _ x y=>(evE e x).name++(evE e y).name
 | .store _ x _=>(evE e x).name
 | .alloc _ _ | .box _ _ | .cbox _ _ | .bslice _ _ _ _ _ | .mk _ _ _ _ _ _ _=>[]
theorem uK (e:List (Nat×AV))(mu:Bool)(t sz b:Nat)(zs:List PV)(x y:AX):b9 e (.mk mu t sz b zs x y)=[]:=_root_.id rfl
theorem kb (e:List (Nat×AV))(x:AX):b9 e (.toStr x)=(evE e x).name:=_root_.id rfl
theorem kf (e:List (Nat×AV))(sz:Nat)(zs:List PV)(x:AX):b9 e (.clear sz zs x)=(evE e x).name:=_root_.id rfl
theorem mB (e:List (Nat×AV))(g:Bool)(sz:Nat)(x:AX):b9 e (.load g sz x)=(evE e x).name:=_root_.id rfl
theorem pW (e:List (Nat×AV))(T:Nat)(x:AX):b9 e (.box T x)=[]:=_root_.id rfl
theorem mC (e:List (Nat×AV))(T:Nat)(x:AX):b9 e (.cbox T x)=[]:=_root_.id rfl
theorem kg (e:List (Nat×AV))(T:Nat)(x:List PV):b9 e (.alloc T x)=[]:=_root_.id rfl
theorem ke (e:List (Nat×AV))(sz:Nat)(x v:AX):b9 e (.store sz x v)=(evE e x).name:=_root_.id rfl
theorem iN (e:List (Nat×AV))(mu:Bool)(t sz b:Nat)(x y:AX):b9 e (.append mu t sz b x y)=(evE e x).name++(evE e y).name:=_root_.id rfl
theorem iM (e:List (Nat×AV))(mu:Bool)(t sz b:Nat)(x:List AX):b9 e (.bslice mu t sz b x)=[]:=_root_.id rfl
theorem DC (p:PV):(AV.pv p).name=[]:=_root_.id rfl
theorem zJ (r o:Nat):(AV.ptr r o).name=[r]:=_root_.id rfl
theorem zI (r s o n:Nat):(AV.row r s o n).name=[r]:=_root_.id rfl
theorem pM (r s:Nat)(l:List PV):(AV.olist r s l).name=[r]:=_root_.id rfl
theorem u9:aJ ([]:List (Nat×Blk))=[]:=_root_.id rfl
theorem qk (r:Nat)(B:Blk)(q:List (Nat×Blk)):aJ ((r,B)::q)=r::aJ q:=_root_.id rfl
theorem Eg (F:List (List Nat×List Nat)→St→Prop)(T:List (List Nat×List Nat))(e:List (Nat×AV))(σ:List (Nat×Blk))(n:Nat)(d:Option Nat)(o:MOp):ez P G F T ⟨e,σ,n⟩ d (.m o)=aC (gK G e σ n o) (sv F T ⟨e,σ,n⟩ d (aR o) (b9 e o)):=by
 have:b9 e o=o.reads (St.E ⟨e,σ,n⟩):=by
  cases o<;>simp only[b9,MOp.reads,fk]
  rename_i o
  cases o<;>simp only[cQ,XOp.reads,fk]
 rw[← uI G e σ n,this];rfl
theorem qD (F:List (List Nat×List Nat)→St→Prop)(T:List (List Nat×List Nat))(e:List (Nat×AV))(σ:List (Nat×Blk))(n:Nat)(d:Option Nat)(f:AX)(xs:List AX):ez P G F T ⟨e,σ,n⟩ d (.call f xs)=aC (bP (evE e f)) (il P G F T ⟨e,σ,n⟩ d (evL e xs)):=by
 rw[← fk e σ n,← vI e σ n];rfl
def qL (e:List (Nat×AV)):List Nat→List (Nat×AV)
 | []=>[]
 | k::r=>(k,look k e)::qL e r
theorem vZ (e:List (Nat×AV)):qL e []=[]:=_root_.id rfl
theorem qK (e:List (Nat×AV))(k:Nat)(r:List Nat):qL e (k::r)=(k,look k e)::qL e r:=_root_.id rfl
theorem n7 (e:List (Nat×AV))(σ:List (Nat×Blk))(n:Nat):∀ (l:List Nat),l.map (fun i=>(i,St.E ⟨e,σ,n⟩ i))=qL e l
 | []=>rfl
 | k::r=>by rw[List.map_cons,n7 e σ n r];rfl
theorem v6 (seen:List Nat):ff seen []=[]:=_root_.id rfl
theorem qM (seen:List Nat)(k:Nat)(b:Blk)(r:List (Nat×Blk)):ff seen ((k,b)::r)=qH k b (ff (k::seen) r) (nK k seen):=_root_.id rfl
theorem Eh (k:Nat)(b:Blk)(r:List (Nat×Blk)):qH k b r true=r:=_root_.id rfl
theorem Ei (k:Nat)(b:Blk)(r:List (Nat×Blk)):qH k b r false=(k,b)::r:=_root_.id rfl
theorem zO (k:Nat):nK k []=false:=_root_.id rfl
theorem FP (k j:Nat)(r:List Nat):nK k (j::r)=if j=k then true else nK k r:=_root_.id rfl
theorem zo (Q:AExit→St→Prop)(keep:List Nat)(e:List (Nat×AV))(σ:List (Nat×Blk))(n:Nat):l8 Q keep ⟨e,σ,n⟩=Q .norm ⟨qL e keep,ff [] σ,n⟩:=by
 rw[← n7 e σ n];rfl
theorem wI (F:St→Prop)(Q:AExit→St→Prop)(s:St):B4 F Q .norm s=F s:=_root_.id rfl
theorem wJ (F:St→Prop)(Q:AExit→St→Prop)(i:Nat)(s:St):B4 F Q (.exit i) s=Q (.exit i) s:=_root_.id rfl
theorem Bc (F:St→Prop)(Q:AExit→St→Prop)(s:St):B4 F Q .ret s=Q .ret s:=_root_.id rfl
theorem nj (id:Nat)(Q:AExit→St→Prop)(s:St):dM id Q .norm s=Q .norm s:=_root_.id rfl
theorem nk (id:Nat)(Q:AExit→St→Prop)(i:Nat)(s:St):dM id Q (.exit i) s=if i=id then Q .norm s else Q (.exit i) s:=_root_.id rfl
theorem rj (id:Nat)(Q:AExit→St→Prop)(s:St):dM id Q .ret s=Q .ret s:=_root_.id rfl
theorem Cf (m0:Nat)(Q:AExit→St→Prop)(s:St):vc P G m0 .skip Q s=Q .norm s:=_root_.id rfl
theorem E2 (m0:Nat)(l:List AOper)(keep:List Nat)(Q:AExit→St→Prop)(s:St):vc P G m0 (.ops l keep) Q s=bU P G l (l8 Q keep) s:=_root_.id rfl
theorem Ch (m0:Nat)(A:List (List Nat))(l l2:List AOper)(keep:List Nat)(Q:AExit→St→Prop)(s:St):vc P G m0 (.draw A l l2 keep) Q s=vcD P G A (bU P G l2 (l8 Q keep)) l [] s:=_root_.id rfl
theorem Ee (F:St→Prop)(e:List (Nat×AV))(σ:List (Nat×Blk))(n:Nat)(d:Option Nat)(g:Option (Bool×Nat))(x:AX):gG P G F ⟨e,σ,n⟩ d (.fz g x)=aC (BR G (fun r=>lookB r σ) g (evE e x)) (pH F ⟨e,σ,n⟩ d):=by
 rw[← fk e σ n];rfl
theorem EZ (m0:Nat)(a b:ACode)(Q:AExit→St→Prop)(s:St):vc P G m0 (.seq a b) Q s=vc P G m0 a (B4 (vc P G m0 b Q) Q) s:=_root_.id rfl
theorem Ci (m0:Nat)(x:AX)(a b:ACode)(Q:AExit→St→Prop)(e:List (Nat×AV))(σ:List (Nat×Blk))(n:Nat):vc P G m0 (.cond x a b) Q ⟨e,σ,n⟩=jS (evE e x) (vc P G m0 a Q) (vc P G m0 b Q) ⟨e,σ,n⟩:=by
 rw[← fk e σ n];rfl
theorem xh (m0 id:Nat)(b:ACode)(Q:AExit→St→Prop)(s:St):vc P G m0 (.block id b) Q s=vc P G m0 b (dM id Q) s:=_root_.id rfl
theorem Cg (m0 id:Nat)(Q:AExit→St→Prop)(s:St):vc P G m0 (.exit id) Q s=Q (.exit id) s:=_root_.id rfl
theorem E1 (m0:Nat)(Q:AExit→St→Prop)(s:St):vc P G m0 .ret Q s=Q .ret s:=_root_.id rfl
theorem zk (b:Bool)(F H:St→Prop)(s:St):jS (.pv (.bool b)) F H s=ifB b F H s:=by cases b<;>rfl
theorem Ir (F H:St→Prop)(s:St):ifB true F H s=F s:=_root_.id rfl
theorem Is (F H:St→Prop)(s:St):ifB false F H s=H s:=_root_.id rfl
def Fy (G:Nat→List PV)(e:List (Nat×AV))(σ:List (Nat×Blk)):ARes→Option AV
 | .tmp t=>some (look t e)
 | .cell t g sz=>cD G g sz (fun r=>lookB r σ) (look t e)
theorem yn (e:List (Nat×AV))(σ:List (Nat×Blk))(t:Nat):Fy G e σ (.tmp t)=some (look t e):=_root_.id rfl
theorem sX (e:List (Nat×AV))(σ:List (Nat×Blk))(t:Nat)(g:Bool)(sz:Nat):Fy G e σ (.cell t g sz)=cD G g sz (fun r=>lookB r σ) (look t e):=_root_.id rfl
theorem Be (res:List ARes)(R:AV→List (Nat×Blk)→Nat→Prop)(s:St):FnK G res R .norm s=aC (dd G s res) (BB R s):=_root_.id rfl
theorem EG (res:List ARes)(R:AV→List (Nat×Blk)→Nat→Prop)(s:St):FnK G res R .ret s=aC (dd G s res) (BB R s):=_root_.id rfl
theorem CZ (R:AV→List (Nat×Blk)→Nat→Prop)(e:List (Nat×AV))(σ:List (Nat×Blk))(n:Nat)(l:List AV):BB R ⟨e,σ,n⟩ l=R (rm l) σ n:=_root_.id rfl
theorem Fu (x:AV):rm [x]=x:=_root_.id rfl
theorem Fv:rm [] = .pv (.tup []):=_root_.id rfl
theorem Ft (x y:AV)(r:List AV):rm (x::y::r)=j0 (x::y::r):=_root_.id rfl
def Gw:Option AV→Option (List AV)→Option (List AV)
 | some a,some b=>some (a::b)
 | _,_=>none
theorem qI (a:AV)(b:List AV):Gw (some a) (some b)=some (a::b):=_root_.id rfl
theorem sV (s:St):dd G s []=some []:=_root_.id rfl
theorem oT (e:List (Nat×AV))(σ:List (Nat×Blk))(n:Nat)(r:ARes)(q:List ARes):dd G ⟨e,σ,n⟩ (r::q)=Gw (Fy G e σ r) (dd G ⟨e,σ,n⟩ q):=by
 have:Fx G ⟨e,σ,n⟩ r=Fy G e σ r:=by cases r<;>rfl
 show (match Fx G ⟨e,σ,n⟩ r,dd G ⟨e,σ,n⟩ q with | some a,some b=>some (a::b) | _,_=>none)=_
 rw[this]
 cases Fy G e σ r<;>cases dd G ⟨e,σ,n⟩ q<;>rfl
theorem y8 (r:PV)(v:AV)(σ:List (Nat×Blk))(n:Nat):FC r v σ n=isR r σ v:=_root_.id rfl
theorem F2 (r p:PV)(σ:List (Nat×Blk)):isR r σ (.pv p)=Nz p r:=propext ⟨fun ⟨q,h,g⟩=>by cases h;exact g,fun h=>⟨(p,[]),rfl,h⟩⟩
theorem vh (r:PV)(k sz:Nat)(l:List PV)(σ:List (Nat×Blk)):isR r σ (.olist k sz l)=Nz (.list l) r:=propext ⟨fun ⟨q,h,g⟩=>by cases h;exact g,fun h=>⟨(.list l,[]),rfl,h⟩⟩
def F5 (r:PV):Option (PV×List Nat)→Prop
 | some q=>Nz q.1 r
 | none=>False
theorem vj (r p:PV)(l:List Nat):F5 r (some (p,l))=Nz p r:=_root_.id rfl
theorem vi (r:PV)(σ:List (Nat×Blk))(v:AV):isR r σ v=F5 r (mI (fun r=>lookB r σ) v):=by
 unfold isR F5
 cases mI (fun r=>lookB r σ) v with
 | none=>simp
 | some q=>simp
theorem DU (r:PV)(cs:List AV)(σ:List (Nat×Blk)):isR r σ (.agg cs)=F5 r ((wU (fun r=>lookB r σ) cs).map fun p=>(.agg p.1,p.2)):=vi _ _ _
theorem DT (r:PV)(k sz len:Nat)(σ:List (Nat×Blk)):isR r σ (.row k sz 0 len)=F5 r (F8 sz len k (lookB k σ)):=vi _ _ _
def qn:List AV→Nat→List (Nat×AV)
 | [],_=>[]
 | x::r,k=>(k,x)::qn r (k+1)
theorem vm (k:Nat):qn [] k=[]:=_root_.id rfl
theorem qm (x:AV)(r:List AV)(k:Nat):qn (x::r) k=(k,x)::qn r (k+1):=_root_.id rfl
theorem vl:∀ (args:List AV) (k:Nat),((args.zipIdx k).map fun p=>(p.2,p.1))=qn args k
 | [],k=>rfl
 | x::r,k=>by rw[List.zipIdx_cons,List.map_cons,vl r (k+1)];rfl
theorem ql (args:List AV):bN args=qn args 0:=vl args 0
theorem H2 {ι:Type}(S:ι→St)(Inv:ι→Prop)(μ:ι→Nat)(x0:ι){m0:Nat}{keep:List Nat}{b:ACode}{Q:AExit→St→Prop}{s:St}(h0:Wk m0 s (S x0))(hi:Inv x0)
  (h:∀ x,Inv x→vc P G m0 b (fun e s'=>match e with
   | .norm=>∃ x',Wk m0 s' (S x')∧Inv x'∧μ x'<μ x
   | .exit i=>Q (.exit i) s'
   | .ret=>Q .ret s') (S x)):vc P G m0 (.loop keep b) Q s:=by
 refine⟨fun n s=>∃ x,s=S x∧Inv x∧μ x=n,⟨μ x0,S x0,h0,x0,rfl,hi,rfl⟩,?_⟩
 rintro n s ⟨x,rfl,hx,rfl⟩
 refine bA b (fun e s' hs=>?_) _ (h x hx)
 cases e with
 | norm=>
   obtain⟨x',h1,h2,h3⟩:=hs
   exact⟨_,_,h3,h1,x',rfl,h2,rfl⟩
 | exit i=>exact⟨s',Wk.of (Wx.refl s') m0,hs⟩
 | ret=>exact hs
def Hd (A:List (Nat×Nat×Nat×Nat))(m0:Nat)(keep:List Nat)(s t:St):Prop:=Wk m0 s t
theorem bX {A:List (Nat×Nat×Nat×Nat)}{m0:Nat}{keep:List Nat}{s t:St}(h:StZ (cG A m0 keep s) t):Hd A m0 keep s t:=Wk.head h
def iu {ι:Type}(A:List (Nat×Nat×Nat×Nat))(S:ι→St)(Inv:ι→Prop)(μ:ι→Nat)(x:ι)(m0:Nat)(keep:List Nat)(Q:AExit→St→Prop):AExit→St→Prop
 | .norm,s'=>∃ x',Hd A m0 keep s' (S x')∧Inv x'∧μ x'<μ x
 | .exit i,s'=>Q (.exit i) s'
 | .ret,s'=>Q .ret s'
theorem nh {ι:Type}(A:List (Nat×Nat×Nat×Nat))(S:ι→St)(Inv:ι→Prop)(μ:ι→Nat)(x:ι)(m0:Nat)(keep:List Nat)(Q:AExit→St→Prop)(s:St):iu A S Inv μ x m0 keep Q .norm s = ∃ x',Hd A m0 keep s (S x')∧Inv x'∧μ x'<μ x:=_root_.id rfl
theorem ni {ι:Type}(A:List (Nat×Nat×Nat×Nat))(S:ι→St)(Inv:ι→Prop)(μ:ι→Nat)(x:ι)(m0:Nat)(keep:List Nat)(Q:AExit→St→Prop)(i:Nat)(s:St):iu A S Inv μ x m0 keep Q (.exit i) s=Q (.exit i) s:=_root_.id rfl
theorem ri {ι:Type}(A:List (Nat×Nat×Nat×Nat))(S:ι→St)(Inv:ι→Prop)(μ:ι→Nat)(x:ι)(m0:Nat)(keep:List Nat)(Q:AExit→St→Prop)(s:St):iu A S Inv μ x m0 keep Q .ret s=Q .ret s:=_root_.id rfl
theorem rK {ι:Type}(A:List (Nat×Nat×Nat×Nat))(S:ι→St)(Inv:ι→Prop)(μ:ι→Nat)(x0:ι){m0:Nat}{keep:List Nat}{b:ACode}{Q:AExit→St→Prop}{s:St}(h0:Hd A m0 keep s (S x0))(hi:Inv x0)
  (h:∀ x,Inv x→vc P G m0 b (iu A S Inv μ x m0 keep Q) (S x)):vc P G m0 (.loop keep b) Q s:=by
 refine H2 S Inv μ x0 h0 hi fun x hx=>?_
 have e:(fun (e:AExit) (s':St)=>match e with
   | .norm=>∃ x',Wk m0 s' (S x')∧Inv x'∧μ x'<μ x
   | .exit i=>Q (.exit i) s'
   | .ret=>Q .ret s')=iu A S Inv μ x m0 keep Q:=by
  funext e s'
  cases e<;>rfl
 rw[e];exact h x hx
def pn (k:Nat)(x:AV):List (Nat×AV)→AV
 | []=>x
 | p::r=>if p.1=k then p.2 else pn k x r
def dR:List (Nat×AV)→List (Nat×AV)→List (Nat×AV)
 | [],_=>[]
 | p::r,ch=>(p.1,pn p.1 p.2 ch)::dR r ch
def pp (k:Nat)(x:Blk):List (Nat×Blk)→Blk
 | []=>x
 | p::r=>if p.1=k then p.2 else pp k x r
def eO:List (Nat×Blk)→List (Nat×Blk)→List (Nat×Blk)
 | [],_=>[]
 | p::r,ch=>(p.1,pp p.1 p.2 ch)::eO r ch
theorem tY (k:Nat)(x:AV):pn k x []=x:=_root_.id rfl
theorem pm (k j:Nat)(x y:AV)(r:List (Nat×AV)):pn k x ((j,y)::r)=if j=k then y else pn k x r:=_root_.id rfl
theorem t8 (ch:List (Nat×AV)):dR [] ch=[]:=_root_.id rfl
theorem pw (k:Nat)(x:AV)(r ch:List (Nat×AV)):dR ((k,x)::r) ch=(k,pn k x ch)::dR r ch:=_root_.id rfl
theorem tZ (k:Nat)(x:Blk):pp k x []=x:=_root_.id rfl
theorem po (k j:Nat)(x y:Blk)(r:List (Nat×Blk)):pp k x ((j,y)::r)=if j=k then y else pp k x r:=_root_.id rfl
theorem ua (ch:List (Nat×Blk)):eO [] ch=[]:=_root_.id rfl
theorem px (k:Nat)(x:Blk)(r ch:List (Nat×Blk)):eO ((k,x)::r) ch=(k,pp k x ch)::eO r ch:=_root_.id rfl
theorem be {ι:Type}(A:List (Nat×Nat×Nat×Nat))(ch:ι→List (Nat×AV))(chB:ι→List (Nat×Blk))(Inv:ι→Prop)(μ:ι→Nat)(x0:ι){m0:Nat}{keep:List Nat}{b:ACode}{Q:AExit→St→Prop}{s:St}
  (h:∀ e0 σ0 n0,cG A m0 keep s=⟨e0,σ0,n0⟩→StZ ⟨e0,σ0,n0⟩ ⟨dR e0 (ch x0),eO σ0 (chB x0),n0⟩∧Inv x0 ∧
   ∀ x,Inv x→vc P G m0 b (iu A (fun x=>⟨dR e0 (ch x),eO σ0 (chB x),n0⟩) Inv μ x m0 keep Q) ⟨dR e0 (ch x),eO σ0 (chB x),n0⟩):vc P G m0 (.loop keep b) Q s:=by
 obtain⟨h1,h2,h3⟩:=h (cG A m0 keep s).env (cG A m0 keep s).sto (cG A m0 keep s).next rfl
 exact rK A (fun x=>⟨dR (cG A m0 keep s).env (ch x),eO (cG A m0 keep s).sto (chB x),(cG A m0 keep s).next⟩) Inv μ x0 (bX h1) h2 h3
end
end Go.Ab
set_option linter.unusedVariables false
set_option linter.unusedSimpArgs false
namespace Go.Ab
open Go Go.RowKit
theorem yx (k k':IntKind)(x y:Int):Dc (.pv (.int k x)) (.pv (.int k' y))=some (.pv (.int k (min x y))):=by
 simp only[Dc,Option.some.injEq,AV.pv.injEq,PV.int.injEq,true_and]
 split<;>omega
theorem yy (k k':IntKind)(x y:Int):Dd (.pv (.int k x)) (.pv (.int k' y))=some (.pv (.int k (max x y))):=by
 simp only[Dd,Option.some.injEq,AV.pv.injEq,PV.int.injEq,true_and]
 split<;>omega
theorem oD (a:Nat)(b:Int):(min (a:Int) b).toNat=min a b.toNat:=by omega
theorem lj (a:Nat)(b:Int):(min b (a:Int)).toNat=min b.toNat a:=by omega
theorem jp {α:Type}(l:List α)(n:Nat):l.take (min l.length n)=l.take n:=by
 rcases Nat.le_total l.length n with h | h
 ·rw[Nat.min_eq_left h,List.take_length,List.take_of_length_le h]
 ·rw[Nat.min_eq_right h]
theorem r9 {α:Type}(l:List α)(n:Nat):l.take (min n l.length)=l.take n:=by rw[Nat.min_comm,jp]
theorem map_take {α β:Type}(f:α→β)(l:List α)(n:Nat):(l.map f).take n=(l.take n).map f:=List.map_take.symm
theorem map_drop {α β:Type}(f:α→β)(l:List α)(n:Nat):(l.map f).drop n=(l.drop n).map f:=List.map_drop.symm
theorem uj {α β:Type}(f:α→β):(none:Option α).map f=none:=_root_.id rfl
def dp (mu:Bool)(e sz by_ new:Nat)(σ:ag)(x:AV):Option (List PV)→Option (AV×List (Nat×Blk))
 | some ys=>match mu,x with
   | false,.pv .nils=>match ys with
     | []=>some (.pv .nils,[])
     | y::r=>if gT 0 (r.length+1) by_=true then some (.olist new sz (y::r),[(new,.tok e sz)]) else none
   | false,.olist q s l=>match σ q with
     | .tok e' sz'=>if e'=e∧sz'=sz∧s=sz∧gT l.length ys.length by_=true then some (.olist new sz (l++ys),[(q,.none),(new,.tok e sz)]) else none
     | _=>none
   | true,.pv .nils=>match ys with
     | []=>some (.pv .nils,[])
     | y::r=>if gT 0 (r.length+1) by_=true then some (.row new sz 0 (r.length+1),[(new,.cells e false (ci (y::r)))]) else none
   | true,.row q s off len=>match σ q with
     | .cells e' _ l=>if e'=e∧s=sz∧off=0∧len*sz≤l.length∧gT len ys.length by_=true then some (.row new sz 0 (len+ys.length),[(q,.none),(new,.cells e false (l.take (len*sz)++ci ys))]) else none
     | _=>none
   | _,_=>none
 | none=>none
def A1 (e sz by_ new q s:Nat)(l ys:List PV):Blk→Option (AV×List (Nat×Blk))
 | .tok e' sz'=>if e'=e∧sz'=sz∧s=sz∧gT l.length ys.length by_=true then some (.olist new sz (l++ys),[(q,.none),(new,.tok e sz)]) else none
 | _=>none
def m4 (e sz by_ new q s off len:Nat)(ys:List PV):Blk→Option (AV×List (Nat×Blk))
 | .cells e' _ l=>if e'=e∧s=sz∧off=0∧len*sz≤l.length∧gT len ys.length by_=true then some (.row new sz 0 (len+ys.length),[(q,.none),(new,.cells e false (l.take (len*sz)++ci ys))]) else none
 | _=>none
theorem pj (mu:Bool)(e sz by_ new:Nat)(σ:ag)(x y:AV):ce mu e sz by_ new σ x y=dp mu e sz by_ new σ x (aN σ sz y):=by
 unfold ce dp
 cases aN σ sz y<;>rfl
theorem GU (e sz by_ new:Nat)(σ:ag)(q s:Nat)(l ys:List PV):dp false e sz by_ new σ (.olist q s l) (some ys)=A1 e sz by_ new q s l ys (σ q):=by
 simp only[dp,A1]
theorem A0 {e sz by_ new q:Nat}{l ys:List PV}(h1:l.length+ys.length≤9223372036854775807)(h2:(l.length+ys.length)*by_≤140737488355328):A1 e sz by_ new q sz l ys (.tok e sz)=some (.olist new sz (l++ys),[(q,.none),(new,.tok e sz)]):=by
 simp[A1,dc h1 h2]
theorem AZ (e sz by_ new:Nat)(σ:ag):dp false e sz by_ new σ (.pv .nils) (some [])=some (.pv .nils,[]):=_root_.id rfl
theorem AY {e sz by_ new:Nat}{σ:ag}{y:PV}{r:List PV}(h1:r.length+1≤9223372036854775807)(h2:(r.length+1)*by_≤140737488355328):dp false e sz by_ new σ (.pv .nils) (some (y::r))=some (.olist new sz (y::r),[(new,.tok e sz)]):=by
 simp only[dp];rw[if_pos (dc (by omega) (by simpa using h2))]
theorem Ev (e sz by_ new:Nat)(σ:ag)(q s off len:Nat)(ys:List PV):dp true e sz by_ new σ (.row q s off len) (some ys)=m4 e sz by_ new q s off len ys (σ q):=by
 simp only[dp,m4]
theorem oi {e sz by_ new q len:Nat}{f:Bool}{l:List AV}{ys:List PV}(h0:len*sz≤l.length)(h1:len+ys.length≤9223372036854775807)(h2:(len+ys.length)*by_≤140737488355328) :
  m4 e sz by_ new q sz 0 len ys (.cells e f l)=some (.row new sz 0 (len+ys.length),[(q,.none),(new,.cells e false (l.take (len*sz)++ci ys))]):=by
 simp[m4,h0,dc h1 h2]
theorem q9 {e sz by_ new q:Nat}{f:Bool}{l:List AV}{ys:List PV}(h1:ys.length≤9223372036854775807)(h2:ys.length*by_≤140737488355328) :
  m4 e sz by_ new q sz 0 0 ys (.cells e f l)=some (.row new sz 0 ys.length,[(q,.none),(new,.cells e false (ci ys))]):=by
 have:=dc (n:=0) (m:=ys.length) (by_:=by_) (by omega) (by simpa using h2)
 simp[m4,this]
def n3 (l:List PV):Bool→Option (List PV)
 | true=>some l
 | false=>none
theorem qx (σ:ag)(sz:Nat):aN σ sz (.pv .nils)=some []:=_root_.id rfl
theorem qy (σ:ag)(sz:Nat)(l:List PV):aN σ sz (.pv (.list l))=n3 l (l.all fun y=>y.cells.length == sz):=by
 simp only[aN]
 cases l.all (fun y=>y.cells.length == sz)<;>rfl
theorem qz (l:List PV):n3 l true=some l:=_root_.id rfl
theorem mN (σ:ag)(sz r:Nat)(l:List PV):aN σ sz (.olist r sz l)=some l:=by simp[aN]
def GK (e sz new:Nat):Option (List PV)→Option (AV×List (Nat×Blk))
 | some ps=>if ps.all (fun p=>p.cells.length == sz&&p.cells.all PV.one)=true then some (.olist new sz ps,[(new,.tok e sz)]) else none
 | none=>none
theorem IS {e sz len new:Nat}{vs:List AV}(h:vs.length=len)(h2:len≤9223372036854775807):bK false e sz len new vs=GK e sz new (pvs vs):=by
 simp only[bK,h,h2,true_and,if_true,GK]
 cases pvs vs<;>rfl
def Jg (e sz new:Nat)(ps:List PV):Bool→Option (AV×List (Nat×Blk))
 | true=>some (.olist new sz ps,[(new,.tok e sz)])
 | false=>none
theorem GJ (e sz new:Nat)(ps:List PV):Jg e sz new ps true=some (.olist new sz ps,[(new,.tok e sz)]):=_root_.id rfl
theorem wm (e sz new:Nat)(ps:List PV):GK e sz new (some ps)=Jg e sz new ps (ps.all fun p=>p.cells.length == sz&&p.cells.all PV.one):=by
 simp only[GK]
 cases ps.all (fun p=>p.cells.length == sz&&p.cells.all PV.one)<;>rfl
theorem wn (e sz new:Nat):GK e sz new none=none:=_root_.id rfl
theorem GI {e sz new:Nat}:bK true e sz 0 new []=some (.row new sz 0 0,[(new,.cells e true [])]):=by
 simp[bK]
theorem ek (b:Bool):PV.one (.bool b)=true:=_root_.id rfl
theorem fX (k:IntKind)(n:Int):PV.one (.int k n)=true:=_root_.id rfl
theorem fW (s:List UInt8):PV.one (.str s)=true:=_root_.id rfl
theorem zg:PV.one .nils=true:=_root_.id rfl
theorem eh (l:List PV):PV.one (.list l)=true:=_root_.id rfl
theorem Dp (p:PV):AV.one (.pv p)=p.one:=_root_.id rfl
theorem zi (r o:Nat):AV.one (.ptr r o)=true:=_root_.id rfl
theorem zh (r s o n:Nat):AV.one (.row r s o n)=true:=_root_.id rfl
theorem pB (r s:Nat)(l:List PV):AV.one (.olist r s l)=true:=_root_.id rfl
theorem zj (f:Nat)(a b:List AV):AV.one (.clo f a b)=true:=_root_.id rfl
def l6 (sz:Nat)(l:List PV)(h:Nat):Option Nat→Option AV
 | some a=>if EO sz l a=true then some (.pv (.list ((l.take h).drop a))) else none
 | none=>none
def jR (sz:Nat)(l:List PV)(lo:Option AV):Option Nat→Option AV
 | some h=>l6 sz l h (aM 0 h lo)
 | none=>none
theorem jG (sz:Nat)(l:List PV)(lo hi:Option AV):bJ sz (.pv (.list l)) lo hi=jR sz l lo (aM l.length l.length hi):=by
 show BE sz l lo hi=_
 unfold BE jR l6
 cases aM l.length l.length hi with
 | none=>rfl
 | some h=>simp only;cases aM 0 h lo<;>rfl
theorem iF (sz r s:Nat)(l:List PV)(lo hi:Option AV):bJ sz (.olist r s l) lo hi=jR sz l lo (aM l.length l.length hi):=by
 show BE sz l lo hi=_
 unfold BE jR l6
 cases aM l.length l.length hi with
 | none=>rfl
 | some h=>simp only;cases aM 0 h lo<;>rfl
theorem lY (sz:Nat)(l:List PV)(lo:Option AV)(h:Nat):jR sz l lo (some h)=l6 sz l h (aM 0 h lo):=_root_.id rfl
theorem pD (sz:Nat)(l:List PV)(h:Nat):l6 sz l h (some 0)=some (.pv (.list (l.take h))):=by
 simp[l6,EO]
theorem pE {sz:Nat}{l:List PV}{h a:Nat}(hs:EO sz l a=true):l6 sz l h (some a)=some (.pv (.list ((l.take h).drop a))):=if_pos hs
theorem pC (sz:Nat)(l:List PV)(i:Nat)(y:PV):jQ sz l i (some y)=if y.cells.length=sz then some (.pv (.eptr l i 0)) else none:=_root_.id rfl
theorem A3 {α β:Type}(f:α→β)(p:β→Bool)(l:List α):(l.map f).all p=l.all fun x=>p (f x):=by
 rw[List.all_map];rfl
theorem GV {α:Type}(l:List α):(l.all fun _=>true)=true:=by simp
theorem GP (n:Nat):(n == n)=true:=by simp
def FW (sz:Nat)(e:PV):Bool→Option AV
 | true=>some (.pv e)
 | false=>bL true sz 0 (e.cells.map .pv)
theorem DK (sz:Nat)(e:PV):FW sz e true=some (.pv e):=_root_.id rfl
theorem z1 (sz:Nat)(e:PV):gL true sz 0 e=FW sz e (e.isAgg&&decide (e.cells.length=sz)):=by
 simp only[gL,true_and]
 by_cases h:e.isAgg=true∧e.cells.length=sz
 ·rw[if_pos h,h.1,decide_eq_true h.2];rfl
 ·rw[if_neg h]
  have:(e.isAgg&&decide (e.cells.length=sz))=false:=by
   rw[Bool.eq_false_iff]
   intro hh
   simp only[Bool.and_eq_true,decide_eq_true_eq] at hh
   exact h hh
  rw[this];rfl
theorem vk (cs:List PV):(PV.agg cs).isAgg=true:=_root_.id rfl
def fzO (σ:ag):Option AV→Option (AV×List (Nat×Blk))
 | some v=>(mI σ v).map BO
 | none=>none
theorem Ga (G:Nat→List PV)(σ:ag)(v:AV):BR G σ none v=(mI σ v).map BO:=_root_.id rfl
theorem Gb (G:Nat→List PV)(σ:ag)(g:Bool)(sz:Nat)(v:AV):BR G σ (some (g,sz)) v=fzO σ (cD G g sz σ v):=by
 simp only[BR,fzO];cases cD G g sz σ v<;>rfl
theorem Ak (σ:ag)(v:AV):fzO σ (some v)=(mI σ v).map BO:=_root_.id rfl
theorem Am (σ:ag)(cs:List AV):mI σ (.agg cs)=(wU σ cs).map fun p=>(.agg p.1,p.2):=_root_.id rfl
theorem D1 (σ:ag)(p:PV):mI σ (.pv p)=some (p,[]):=_root_.id rfl
theorem D2 (σ:ag)(r s:Nat)(l:List PV):mI σ (.olist r s l)=some (.list l,[]):=_root_.id rfl
theorem Al (σ:ag)(r s n:Nat):mI σ (.row r s 0 n)=F8 s n r (σ r):=_root_.id rfl
theorem D4 (σ:ag)(p:PV):BP σ (.pv p)=some (p,[]):=_root_.id rfl
theorem D5 (σ:ag)(r s:Nat)(l:List PV):BP σ (.olist r s l)=some (.list l,[]):=_root_.id rfl
theorem Ap (σ:ag)(r s n:Nat):BP σ (.row r s 0 n)=F8 s n r (σ r):=_root_.id rfl
theorem An (σ:ag):wU σ []=some ([],[]):=_root_.id rfl
theorem vv (σ:ag)(x:AV)(r:List AV):wU σ (x::r)=HV (BP σ x) (wU σ r):=_root_.id rfl
theorem vw (p:PV)(a:List Nat)(q:List PV)(b:List Nat):HV (some (p,a)) (some (q,b))=some (p::q,a++b):=_root_.id rfl
theorem D3 (p:PV)(l:List Nat):BO (p,l)=(.pv p,l.map fun r=>(r,.none)):=_root_.id rfl
theorem zG (p:PV):(AV.pv p).names=[]:=_root_.id rfl
theorem uu (r o:Nat):(AV.ptr r o).names=[r]:=_root_.id rfl
theorem ut (r a b c:Nat):(AV.row r a b c).names=[r]:=_root_.id rfl
theorem zH (r a:Nat)(l:List PV):(AV.olist r a l).names=[r]:=_root_.id rfl
theorem uA (cs:List AV):(AV.agg cs).names=AV.namesL cs:=by simp only[AV.names]
theorem ur (cs:List AV):(AV.tup cs).names=AV.namesL cs:=by simp only[AV.names]
theorem uw (f:Nat)(fs cs:List AV):(AV.clo f fs cs).names=AV.namesL fs++AV.namesL cs:=by simp only[AV.names]
theorem uz:AV.any.names=[]:=_root_.id rfl
theorem pJ:AV.namesL []=[]:=_root_.id rfl
theorem f5 (x:AV)(r:List AV):AV.namesL (x::r)=x.names++AV.namesL r:=by simp only[AV.namesL]
theorem fZ:∀ l:List PV,AV.namesL (l.map .pv)=[]
 | []=>rfl
 | x::r=>by rw[List.map_cons,f5,fZ r];rfl
theorem l9 (l:List PV):AV.namesL (ci l)=[]:=fZ _
theorem jX (T:Nat)(f:Bool)(l:List AV):(Blk.cells T f l).names=AV.namesL l:=_root_.id rfl
theorem pK (e s:Nat):(Blk.tok e s).names=[]:=_root_.id rfl
theorem mb:Blk.none.names=[]:=_root_.id rfl
theorem A5 (acc:List Nat):bd acc []=acc:=_root_.id rfl
def Ez (acc:List Nat)(n:Nat):Bool→List Nat
 | true=>acc
 | false=>acc++[n]
theorem fe (x:Nat):∀ l:List Nat,l.contains x=nK x l
 | []=>rfl
 | y::r=>by
   rw[List.contains_cons,fe x r,j3]
   by_cases h:y=x
   ·simp[h]
   ·have h':¬ x=y:=fun e=>h e.symm
    simp[h,h']
theorem wC (acc:List Nat)(n:Nat)(r:List Nat):bd acc (n::r)=bd (Ez acc n (nK n acc)) r:=by
 simp only[bd,fe]
 cases nK n acc<;>rfl
theorem Ex (acc:List Nat)(n:Nat):Ez acc n true=acc:=_root_.id rfl
theorem Ey (acc:List Nat)(n:Nat):Ez acc n false=acc++[n]:=_root_.id rfl
def geN (m0:Nat):List Nat→List Nat
 | []=>[]
 | x::r=>if m0≤x then x::geN m0 r else geN m0 r
theorem DX (m0:Nat):geN m0 []=[]:=_root_.id rfl
theorem nR (m0 x:Nat)(r:List Nat):geN m0 (x::r)=if m0≤x then x::geN m0 r else geN m0 r:=_root_.id rfl
theorem vu (m0:Nat):∀ l:List Nat,l.filter (fun r=>decide (m0≤r))=geN m0 l
 | []=>rfl
 | x::r=>by rw[List.filter_cons,vu m0 r,nR];simp
def cb (sto:List (Nat×Blk)):List Nat→List Nat
 | []=>[]
 | r::q=>(lookB r sto).names++cb sto q
theorem kK (sto:List (Nat×Blk)):cb sto []=[]:=_root_.id rfl
theorem eC (sto:List (Nat×Blk))(r:Nat)(q:List Nat):cb sto (r::q)=(lookB r sto).names++cb sto q:=_root_.id rfl
theorem dZ (sto:List (Nat×Blk)):∀ l:List Nat,(l.flatMap fun r=>(lookB r sto).names)=cb sto l
 | []=>rfl
 | r::q=>by rw[List.flatMap_cons,dZ sto q,eC]
theorem C7 (m0:Nat)(sto:List (Nat×Blk))(acc:List Nat):dH m0 sto 0 acc=acc:=_root_.id rfl
theorem C6 (m0:Nat)(sto:List (Nat×Blk))(k:Nat)(acc:List Nat):dH m0 sto (k+1) acc=dH m0 sto k (bd acc (geN m0 (cb sto acc))):=by
 rw[← vu,← dZ];rfl
def cJ (e:List (Nat×AV)):List Nat→List Nat
 | []=>[]
 | k::r=>(look k e).names++cJ e r
theorem ky (e:List (Nat×AV)):cJ e []=[]:=_root_.id rfl
theorem iX (e:List (Nat×AV))(k:Nat)(r:List Nat):cJ e (k::r)=(look k e).names++cJ e r:=_root_.id rfl
theorem gu (e:List (Nat×AV))(σ:List (Nat×Blk))(n:Nat):∀ l:List Nat,(l.flatMap fun i=>((⟨e,σ,n⟩:St).E i).names)=cJ e l
 | []=>rfl
 | k::r=>by rw[List.flatMap_cons,gu e σ n r];rfl
def sR:Nat→Nat→List Nat
 | 0,_=>[]
 | n+1,k=>k::sR n (k+1)
theorem Ig (k:Nat):sR 0 k=[]:=_root_.id rfl
theorem Fs (n k:Nat):sR (n+1) k=k::sR n (k+1):=_root_.id rfl
theorem sQ:∀ n k:Nat,sR n k=List.range' k n
 | 0,k=>rfl
 | n+1,k=>by rw[Fs,sQ n,List.range'_succ]
theorem BA (n:Nat):List.range n=sR n 0:=by rw[sQ,List.range_eq_range']
theorem Dt (m0:Nat)(keep:List Nat)(e:List (Nat×AV))(σ:List (Nat×Blk))(n:Nat):FI m0 keep ⟨e,σ,n⟩=dH m0 σ σ.length (bd [] (geN m0 (cJ e keep++cb σ (sR m0 0)))):=by
 rw[← vu,← gu e σ n,← dZ,← BA];rfl
def jV (f:Nat→Option Nat)(e:List (Nat×AV)):List Nat→List (Nat×AV)
 | []=>[]
 | k::r=>(k,(look k e).ren f)::jV f e r
theorem un (f:Nat→Option Nat)(e:List (Nat×AV)):jV f e []=[]:=_root_.id rfl
theorem pF (f:Nat→Option Nat)(e:List (Nat×AV))(k:Nat)(r:List Nat):jV f e (k::r)=(k,(look k e).ren f)::jV f e r:=_root_.id rfl
def um (m0:Nat)(keep:List Nat)(e:List (Nat×AV))(σ:List (Nat×Blk))(os:List Nat):St:=⟨jV (cf m0 os) e keep,cS m0 (cf m0 os) σ (sR m0 0++os) 0,m0+os.length⟩
theorem Dx (m0:Nat)(keep:List Nat)(e:List (Nat×AV))(σ:List (Nat×Blk))(n:Nat):norm m0 keep ⟨e,σ,n⟩=um m0 keep e σ (dH m0 σ σ.length (bd [] (geN m0 (cJ e keep++cb σ (sR m0 0))))):=by
 rw[← Dt m0 keep e σ n]
 have hE:∀ (f:Nat→Option Nat) (l:List Nat),(l.map fun i=>(i,((⟨e,σ,n⟩:St).E i).ren f))=jV f e l:=by
  intro f l
  induction l with
  | nil=>rfl
  | cons k r ih=>rw[List.map_cons,ih];rfl
 simp only[norm,um,hE,BA]
theorem Dz (m0:Nat)(keep:List Nat)(e:List (Nat×AV))(σ:List (Nat×Blk))(x:Nat)(r:List Nat):um m0 keep e σ (x::r)=⟨jV (cf m0 (x::r)) e keep,cS m0 (cf m0 (x::r)) σ (sR m0 0++(x::r)) 0,m0+(x::r).length⟩:=_root_.id rfl
theorem Dy (m0:Nat)(keep:List Nat)(e:List (Nat×AV))(σ:List (Nat×Blk)):um m0 keep e σ []=⟨jV (cf m0 []) e keep,cS m0 (cf m0 []) σ (sR m0 0) 0,m0⟩:=by
 simp only[um,List.append_nil];rfl
theorem oU (m0:Nat)(f:Nat→Option Nat)(σ:List (Nat×Blk))(k:Nat):cS m0 f σ [] k=[]:=_root_.id rfl
theorem lD (m0:Nat)(f:Nat→Option Nat)(σ:List (Nat×Blk))(r:Nat)(q:List Nat)(k:Nat):cS m0 f σ (r::q) k=(k,(lookB r σ).ren f)::cS m0 f σ q (k+1):=_root_.id rfl
theorem pI (m0:Nat)(os:List Nat)(r:Nat):cf m0 os r=if r<m0 then some r else Ae r os m0:=_root_.id rfl
theorem Ad (x k:Nat):Ae x [] k=none:=_root_.id rfl
theorem vn (x y:Nat)(r:List Nat)(k:Nat):Ae x (y::r) k=if y=x then some k else Ae x r (k+1):=_root_.id rfl
def Ii (o:Nat):Option Nat→AV
 | some q=>.ptr q o
 | none=>.any
def Ih (a b c:Nat):Option Nat→AV
 | some q=>.row q a b c
 | none=>.any
def Ij (a:Nat)(l:List PV):Option Nat→AV
 | some q=>.olist q a l
 | none=>.pv (.list l)
theorem BC (f:Nat→Option Nat)(p:PV):(AV.pv p).ren f = .pv p:=by simp only[AV.ren]
theorem C4 (f:Nat→Option Nat):AV.any.ren f = .any:=by simp only[AV.ren]
theorem C2 (f:Nat→Option Nat)(r o:Nat):(AV.ptr r o).ren f=Ii o (f r):=by simp only[AV.ren,Ii]<;>(cases f r<;>rfl)
theorem C1 (f:Nat→Option Nat)(r a b c:Nat):(AV.row r a b c).ren f=Ih a b c (f r):=by simp only[AV.ren,Ih]<;>(cases f r<;>rfl)
theorem Fz (f:Nat→Option Nat)(r a:Nat)(l:List PV):(AV.olist r a l).ren f=Ij a l (f r):=by simp only[AV.ren,Ij]<;>(cases f r<;>rfl)
theorem C5 (f:Nat→Option Nat)(cs:List AV):(AV.agg cs).ren f = .agg (AV.renL f cs):=by simp only[AV.ren]
theorem C0 (f:Nat→Option Nat)(cs:List AV):(AV.tup cs).ren f = .tup (AV.renL f cs):=by simp only[AV.ren]
theorem C3 (f:Nat→Option Nat)(g:Nat)(fs cs:List AV):(AV.clo g fs cs).ren f = .clo g (AV.renL f fs) (AV.renL f cs):=by simp only[AV.ren]
theorem sZ (o q:Nat):Ii o (some q) = .ptr q o:=_root_.id rfl
theorem sY (a b c q:Nat):Ih a b c (some q) = .row q a b c:=_root_.id rfl
theorem s7 (a:Nat)(l:List PV)(q:Nat):Ij a l (some q) = .olist q a l:=_root_.id rfl
theorem yo (f:Nat→Option Nat):AV.renL f []=[]:=_root_.id rfl
theorem jC (f:Nat→Option Nat)(x:AV)(r:List AV):AV.renL f (x::r)=x.ren f::AV.renL f r:=by simp only[AV.renL]
theorem lE (f:Nat→Option Nat):∀ l:List PV,AV.renL f (l.map .pv)=l.map .pv
 | []=>rfl
 | x::r=>by rw[List.map_cons,jC,lE f r,BC]
theorem s8 (f:Nat→Option Nat)(l:List PV):AV.renL f (ci l)=ci l:=lE f _
theorem oV (f:Nat→Option Nat)(T:Nat)(b:Bool)(l:List AV):(Blk.cells T b l).ren f = .cells T b (AV.renL f l):=_root_.id rfl
theorem yp (f:Nat→Option Nat)(e s:Nat):(Blk.tok e s).ren f = .tok e s:=_root_.id rfl
theorem s9 (f:Nat→Option Nat):Blk.none.ren f = .none:=_root_.id rfl
theorem zp (A:List (Nat×Nat×Nat×Nat))(m0:Nat)(keep:List Nat)(s:St):cG A m0 keep s=norm m0 keep (A7 A s):=_root_.id rfl
theorem A6 (s:St):A7 [] s=s:=_root_.id rfl
theorem wD (k e sz:Nat)(r:List (Nat×Nat×Nat×Nat))(env:List (Nat×AV))(σ:List (Nat×Blk))(n:Nat):A7 ((k,0,e,sz)::r) ⟨env,σ,n⟩=A7 r (EC k e sz ⟨env,σ,n⟩ (look k env)):=_root_.id rfl
theorem wE (k j e sz:Nat)(r:List (Nat×Nat×Nat×Nat))(env:List (Nat×AV))(σ:List (Nat×Blk))(n:Nat):A7 ((k,j+1,e,sz)::r) ⟨env,σ,n⟩=A7 r (G0 j e sz ⟨env,σ,n⟩ (look k env)):=_root_.id rfl
theorem wH (k e sz:Nat)(env:List (Nat×AV))(σ:List (Nat×Blk))(n:Nat):EC k e sz ⟨env,σ,n⟩ (.pv .nils)=⟨(k,eS n e sz)::env,(n,bF e sz)::σ,n+1⟩:=_root_.id rfl
theorem Bb (k e sz r a b c:Nat)(s:St):EC k e sz s (.row r a b c)=s:=_root_.id rfl
theorem DB {n e sz:Nat}(h:e<1000000):eS n e sz = .olist n sz []:=if_pos h
theorem DA {n e sz:Nat}(h:1000000≤e):eS n e sz = .row n sz 0 0:=if_neg (Nat.not_lt.2 h)
theorem zt {e sz:Nat}(h:e<1000000):bF e sz = .tok e sz:=if_pos h
theorem zr {e sz:Nat}(h:1000000≤e):bF e sz = .cells (e - 1000000) false []:=if_neg (Nat.not_lt.2 h)
theorem EB (k e sz r a:Nat)(l:List PV)(s:St):EC k e sz s (.olist r a l)=s:=_root_.id rfl
theorem A9 (o e sz r b:Nat)(env:List (Nat×AV))(σ:List (Nat×Blk))(n:Nat):G0 o e sz ⟨env,σ,n⟩ (.ptr r b)=ED r (b+o) e sz ⟨env,σ,n⟩ (lookB r σ):=_root_.id rfl
theorem re (r o e sz T:Nat)(f:Bool)(l:List AV)(s:St):ED r o e sz s (.cells T f l)=EW r T f l o e sz s l[o]?:=_root_.id rfl
theorem wG (r T:Nat)(f:Bool)(l:List AV)(o e sz:Nat)(env:List (Nat×AV))(σ:List (Nat×Blk))(n:Nat):EW r T f l o e sz ⟨env,σ,n⟩ (some (.pv .nils))=⟨env,(r,.cells T f (l.set o (eS n e sz)))::(n,bF e sz)::σ,n+1⟩:=_root_.id rfl
theorem Ba (r T:Nat)(f:Bool)(l:List AV)(o e sz:Nat)(s:St)(q a b c:Nat):EW r T f l o e sz s (some (.row q a b c))=s:=_root_.id rfl
theorem EA (r T:Nat)(f:Bool)(l:List AV)(o e sz:Nat)(s:St)(q a:Nat)(k:List PV):EW r T f l o e sz s (some (.olist q a k))=s:=_root_.id rfl
theorem Jl {α:Type}(x y:α)(r:List α):(x::r).set 0 y=y::r:=_root_.id rfl
theorem Jk {α:Type}(x y:α)(r:List α)(n:Nat):(x::r).set (n+1) y=x::r.set n y:=_root_.id rfl
theorem H3 (e e':List (Nat×AV))(σ σ':List (Nat×Blk))(n n':Nat):(St.mk e σ n=St.mk e' σ' n')=(e=e'∧σ=σ'∧n=n'):=by rw[St.mk.injEq]
theorem Gp {a b:Nat}(h:a<b):decide (a<b)=true:=decide_eq_true h
theorem Gq {a b:Nat}(h:¬ a<b):decide (a<b)=false:=decide_eq_false h
theorem Gr {a b:Nat}(h:a≤b):decide (a≤b)=true:=decide_eq_true h
theorem Gs {a b:Nat}(h:¬ a≤b):decide (a≤b)=false:=decide_eq_false h
theorem Gt {a b:Nat}(h:a=b):decide (a=b)=true:=decide_eq_true h
theorem Gu {a b:Nat}(h:¬ a=b):decide (a=b)=false:=decide_eq_false h
theorem aZ {α:Type}{l:List α}{m:Nat}{x:α}(h:l[m]? = some x):l.take (m+1)=l.take m++[x]:=by
 obtain⟨h1,h2⟩:=List.getElem?_eq_some_iff.1 h
 rw[List.take_succ_eq_append_getElem h1,h2]
def F9 (cells:List AV)(off sz:Nat)(r:List (Nat×Nat×AV))(xc:List AV):Bool→Option (List AV)
 | true=>dX (cells.take off++xc++cells.drop (off+sz)) r
 | false=>none
theorem D8 (cells:List AV)(off sz:Nat)(r:List (Nat×Nat×AV))(xc:List AV):F9 cells off sz r xc true=dX (cells.take off++xc++cells.drop (off+sz)) r:=_root_.id rfl
theorem vD (cells:List AV):dX cells []=some cells:=_root_.id rfl
theorem qq (cells:List AV)(off sz:Nat)(x:AV)(r:List (Nat×Nat×AV)):dX cells ((off,sz,x)::r)=F9 cells off sz r x.cells (x.known&&decide (x.cells.length=sz)&&decide (off+sz≤cells.length)):=by
 simp only[dX]
 by_cases h:x.known=true∧x.cells.length=sz∧off+sz≤cells.length
 ·rw[if_pos h,h.1,decide_eq_true h.2.1,decide_eq_true h.2.2];rfl
 ·rw[if_neg h]
  have:(x.known&&decide (x.cells.length=sz)&&decide (off+sz≤cells.length))=false:=by
   rw[Bool.eq_false_iff]
   intro hh
   simp only[Bool.and_eq_true,decide_eq_true_eq] at hh
   exact h ⟨hh.1.1,hh.1.2,hh.2⟩
  rw[this];rfl
theorem zc (sz off:Nat)(cs:List AV):FE sz off cs=if off+sz≤cs.length then some (fi ((cs.drop off).take sz)) else none:=_root_.id rfl
section
variable {P:Program}{G:Nat→List PV}
def wK {ι:Type}(A:List (Nat×Nat×Nat×Nat))(S:ι→St)(Inv:ι→Prop)(μ:ι→Nat)(x:ι)(m0:Nat)(keep:List Nat)(id:Nat)(keepX:List Nat)(fin:ι→Prop)(Q:AExit→St→Prop):AExit→St→Prop
 | .norm,s'=>∃ x',Hd A m0 keep s' (S x')∧Inv x'∧μ x'<μ x
 | .exit i,s'=>if i=id then ∃ x',fin x'∧norm m0 keepX s'=norm m0 keepX (S x') else Q (.exit i) s'
 | .ret,s'=>Q .ret s'
theorem na {ι:Type}(A:List (Nat×Nat×Nat×Nat))(S:ι→St)(Inv:ι→Prop)(μ:ι→Nat)(x:ι)(m0:Nat)(keep:List Nat)(id:Nat)(keepX:List Nat)(fin:ι→Prop)(Q:AExit→St→Prop)(s:St):wK A S Inv μ x m0 keep id keepX fin Q .norm s = ∃ x',Hd A m0 keep s (S x')∧Inv x'∧μ x'<μ x:=_root_.id rfl
theorem nc {ι:Type}(A:List (Nat×Nat×Nat×Nat))(S:ι→St)(Inv:ι→Prop)(μ:ι→Nat)(x:ι)(m0:Nat)(keep:List Nat)(id:Nat)(keepX:List Nat)(fin:ι→Prop)(Q:AExit→St→Prop)(i:Nat)(s:St):wK A S Inv μ x m0 keep id keepX fin Q (.exit i) s=if i=id then (∃ x',fin x'∧norm m0 keepX s=norm m0 keepX (S x')) else Q (.exit i) s:=_root_.id rfl
theorem rg {ι:Type}(A:List (Nat×Nat×Nat×Nat))(S:ι→St)(Inv:ι→Prop)(μ:ι→Nat)(x:ι)(m0:Nat)(keep:List Nat)(id:Nat)(keepX:List Nat)(fin:ι→Prop)(Q:AExit→St→Prop)(s:St):wK A S Inv μ x m0 keep id keepX fin Q .ret s=Q .ret s:=_root_.id rfl
end
end Go.Ab
set_option linter.unusedVariables false
set_option linter.unusedSimpArgs false
namespace Go.Ab
open Go Go.RowKit
def Kap.cut (κ:Kap)(k:Nat):Kap:=⟨κ.w,fun r=>if r<k then κ.nm r else none,κ.imm⟩
theorem Kap.cut_ext (κ:Kap)(k:Nat):Ext (κ.cut k) κ:=by
 refine⟨fun _ _ h=>h,fun _ _ _ _ h=>h,fun r d h=>?_,fun _ _ h _=>h⟩
 simp only[Kap.cut] at h
 split at h
 ·exact h
 ·cases h
theorem Kap.cut_none (κ:Kap)(k r:Nat)(h:k≤r):(κ.cut k).nm r=none:=by simp only[Kap.cut];rw[if_neg (by omega)]
def kW (P:Program)(G:Nat→List PV)(k:Nat)(f:Nat)(args:List AV)(sto:List (Nat×Blk))(next:Nat)(Q:AV→List (Nat×Blk)→Nat→Prop):Prop:=
 bi P f=true∧∀ (κ:Kap) (vals:Array Value),SRel (bu κ (fun r=>lookB r sto) G) κ (fun r=>lookB r sto)→(∀ r,next≤r→κ.nm r=none)→vals.size=args.length →
  (∀ (i:Nat) (x:AV),args[i]? = some x→ARel κ x (vals.getD i Go.undef)) →
  Calls P f vals κ.w fun e w'=>∃ u v κ' sto' next',e = .returned u∧κ'.w=w'∧Ext (κ.cut k) κ'∧Left (bu κ (fun r=>lookB r sto) G) κ.imm κ'∧ARel κ' v u ∧
   SRel (bu κ (fun r=>lookB r sto) G) κ' (fun r=>lookB r sto')∧(∀ r,next'≤r→κ'.nm r=none)∧Q v sto' next'
section
variable {P:Program}{G:Nat→List PV}
theorem kW.of_code {muts:List Nat}{k f:Nat}{fn:AFn}{args:List AV}{sto:List (Nat×Blk)}{next:Nat}{R:AV→List (Nat×Blk)→Nat→Prop}(hc:cFn P muts f=some fn)(hn:args.length≤fn.N)
  (hv:vc P G k fn.body (FnK G fn.res R) ⟨bN args,sto,next⟩):kW P G k f args sto next R:=by
 unfold cFn at hc
 split at hc
 ·rename_i fnc hfn
  split at hc
  ·rename_i co hco
   split at hc
   ·rename_i rs hrs
    split at hc
    ·rename_i hok
     split at hc
     ·rename_i b li hb
      cases hc
      refine⟨hok,fun κ vals hS hf hsz hargs=>?_⟩
      refine callsIn_wide.1 (callsIn_of_wp_marks (n:=0) hfn hco trivial ?_ rfl)
      let c:=bu κ (fun r=>lookB r sto) G
      have hsize:(vals++Array.replicate (fnc.ntmps - vals.size) Go.undef).size=fnc.ntmps:=by
       simp only at hn
       simp only[Array.size_append,Array.size_replicate];omega
      have hR:Rel c (κ.cut k) fnc.ntmps ⟨bN args,sto,next⟩ ⟨vals++Array.replicate (fnc.ntmps - vals.size) Go.undef,[]⟩ κ.w κ:=by
       refine⟨rfl,κ.cut_ext k,hS,⟨rfl,rfl,rfl,Nat.le_refl _,fun _ _ _=>rfl,fun _ _ h=>.inl h⟩,fun i=>?_,hsize,bS.nil _ _,hf⟩
       show ARel κ (look i ((args.zipIdx 0).map fun p=>(p.2,p.1))) _
       rw[f8,if_pos (Nat.zero_le _),Nat.sub_zero]
       cases hx:args[i]? with
       | none=>exact .any _
       | some x=>
         have hi:i<vals.size:=by rw[hsz];exact (List.getElem?_eq_some_iff.1 hx).1
         have:=hargs i x hx
         have e:(vals++Array.replicate (fnc.ntmps - vals.size) Go.undef).getD i Go.undef=vals.getD i Go.undef:=by
          simp only[Array.getD_eq_getD_getElem?]
          rw[Array.getElem?_append_left hi]
         rw[e];exact this
      refine Go.wpIn_mono (nl (P:=P) (N:=fnc.ntmps) co c (κ.cut k) k none 0 b [] (eJ rs) li (FnK G rs R) _ _ κ.w κ (.inl rfl) (fun r hr=>κ.cut_none k r hr) (Nat.le_refl _) hb hR hv) ?_
      have fin:∀ (s:St) (κ':Kap) (a:Act) (w:World),Rel c (κ.cut k) fnc.ntmps s a w κ'→aC (dd G s rs) (BB R s)→∃ v,(results fnc a.tmps).run P w = .ok v w ∧
        ∃ u v' κ'' sto' next',Ending.returned v = .returned u∧κ''.w=w∧Ext (κ.cut k) κ''∧Left c κ.imm κ''∧ARel κ'' v' u∧SRel c κ'' (fun r=>lookB r sto')∧(∀ r,next'≤r→κ''.nm r=none)∧R v' sto' next':=by
       intro s κ' a w hR hF
       simp only[aC] at hF
       split at hF
       ·rename_i vs hvs
        obtain⟨us,h1,h2,h3⟩:=fM (P:=P) hR fnc.results.toList rs vs hrs hvs
        have hrun:(results fnc a.tmps).run P w = .ok (if h:us.toArray.size=1 then us.toArray[0] else .tuple us.toArray) w:=by
         rw[gU,Sem.run_bind,Array.mapM_eq_mapM_toList]
         simp only[Sem.run_bind,Sem.run_map]
         rw[h1]
         simp
        refine⟨_,hrun,_,rm vs,κ',s.sto,s.next,rfl,hR.w_eq,hR.ext0,hR.left,?_,hR.rel,hR.fresh,hF⟩
        by_cases hl:vs.length=1
        ·obtain⟨v,rfl⟩:=List.length_eq_one_iff.1 hl
         obtain⟨u,rfl⟩:=List.length_eq_one_iff.1 (h2.trans hl)
         have:=h3 0 v rfl
         exact this
        ·have hul:¬ us.toArray.size=1:=by simpa[h2] using hl
         rw[dif_neg hul]
         have hrv:rm vs=j0 vs:=by
          unfold rm
          split
          ·simp at hl
          ·rfl
         rw[hrv]
         exact jZ (.tup _ _ (by simpa using h2) (fun i x hx=>by rw[au];simpa using h3 i x hx))
       ·exact hF.elim
      intro e a w hq
      cases e with
      | normal=>
        obtain⟨s,κ',hR,hF⟩:=hq
        exact ep (Nat.le_refl _) rfl hR fun w' κ'' hR'=>fin s κ'' ⟨a.tmps,[]⟩ w' hR' hF
      | ret=>
        obtain⟨s,κ',hR,hF⟩:=hq
        exact ep (Nat.le_refl _) rfl hR fun w' κ'' hR'=>fin s κ'' ⟨a.tmps,[]⟩ w' hR' hF
      | exit id=>
        obtain⟨s,κ',hR,hF⟩:=hq
        exact hF.elim
      | goto l=>exact hq.elim
      | panic ch=>exact hq.elim
      | outgrown=>exact hq.elim
     ·cases hc
    ·cases hc
   ·cases hc
  ·cases hc
 ·cases hc
def bC:List Blk→Nat→List (Nat×Blk)
 | [],_=>[]
 | b::r,k=>(k,b)::bC r (k+1)
theorem g8:∀ (bs:List Blk) (k i:Nat),lookB i (bC bs k)=if k≤i then bs.getD (i - k) .none else .none
 | [],k,i=>by simp[bC,lookB]
 | b::r,k,i=>by
   simp only[bC,lookB]
   by_cases h:k=i
   ·subst h;simp
   ·rw[if_neg h,g8 r (k+1) i]
    by_cases hk:k≤i
    ·rw[if_pos (by omega),if_pos hk,show i - k=(i - (k+1))+1 by omega];simp
    ·rw[if_neg (by omega),if_neg hk]
theorem dU (bs:List Blk):(fun r=>lookB r (bC bs 0))=fun r=>bs.getD r .none:=by
 funext r;rw[g8];simp
def jh (P:Program)(G:Nat→List PV)(k f:Nat)(args:List AV)(bs:List Blk)(v:AV)(bs':List Blk):Prop:=
 kW P G k f args (bC bs 0) bs.length fun v' sto' next'=>v'=v∧sto'=bC bs' 0∧next'=bs'.length
def DO (k:Nat)(v:AV)(bs':List Blk)(v':AV)(sto':List (Nat×Blk))(next':Nat):Prop:=
 Wk k ⟨[(0,v')],sto',next'⟩ ⟨[(0,v)],bC bs' 0,bs'.length⟩
theorem jh.of_lcalls {k f:Nat}{args:List AV}{bs:List Blk}{v:AV}{bs':List Blk}(h:kW P G k f args (bC bs 0) bs.length (DO k v bs')):jh P G k f args bs v bs':=by
 obtain⟨hcal,h⟩:=h
 refine⟨hcal,fun κ vals hS hf hsz hargs=>(h κ vals hS hf hsz hargs).mono ?_⟩
 rintro e w' ⟨u,v',κ',sto',next',rfl,rfl,he,hL,hv,hS',hf',hw⟩
 obtain⟨κ'',hR⟩:=hw _ (κ.cut k) κ' 1 ⟨#[u],[]⟩ κ'.w (fun r hr=>κ.cut_none k r hr) ⟨rfl,he,hS',hL,fun i=>by
  show ARel κ' (look i [(0,v')]) _
  by_cases hi:0=i
  ·subst hi;simpa[look] using hv
  ·simp only[look,if_neg hi];exact .any _,rfl,bS.nil _ _,hf'⟩
 refine⟨u,v,κ'',_,_,rfl,hR.w_eq,hR.ext0,hR.left,?_,hR.rel,hR.fresh,rfl,rfl,rfl⟩
 have:=hR.env 0
 simpa[St.E,look] using this
theorem jh.intro {muts:List Nat}{k f:Nat}{fn:AFn}{args:List AV}{bs:List Blk}{v:AV}{bs':List Blk}(hc:cFn P muts f=some fn)(hn:args.length≤fn.N)
  (hv:vc P G k fn.body (FnK G fn.res (DO k v bs')) ⟨bN args,bC bs 0,bs.length⟩):jh P G k f args bs v bs':=
 jh.of_lcalls (kW.of_code hc hn hv)
def gIn (next:Nat):List Nat→Nat→Nat
 | [],i=>next+i
 | r::_,0=>r
 | _::q,i+1=>gIn next q i
def gSo (next:Nat)(rs:List Nat)(r:Nat):Option Nat:=some (gIn next rs r)
theorem gm (next:Nat):∀ (rs:List Nat) (i:Nat) (r:Nat),rs[i]? = some r→gIn next rs i=r
 | [],i,r,h=>by simp at h
 | x::q,0,r,h=>by simpa[gIn] using h
 | x::q,i+1,r,h=>by simpa[gIn] using gm next q i r (by simpa using h)
theorem hH (next:Nat):∀ (rs:List Nat) (i:Nat),rs.length≤i→gIn next rs i=next+(i - rs.length)
 | [],i,h=>by simp[gIn]
 | x::q,0,h=>by simp at h
 | x::q,i+1,h=>by
   simp only[List.length_cons] at h
   rw[gIn,hH next q i (by omega)]
   simp
mutual
theorem unren {κ κ':Kap}(hw:κ'.w=κ.w)(hi:κ'.imm=κ.imm){g:Nat→Nat}(hf:∀ r,κ'.nm r=κ.nm (g r)):∀ (x:AV) (v:Value),ARel κ (x.ren fun r=>some (g r)) v→ARel κ' x v
 | .pv p,v,h=>by
   simp only[AV.ren] at h
   cases h with
   | pv _ _ hp=>exact .pv _ _ (by rw[hw,hi];exact hp)
 | .any,v,h=>.any v
 | .ptr r o,v,h=>by
   simp only[AV.ren] at h
   cases h with
   | ptr _ _ b n hn=>exact .ptr _ _ b n (by rw[hf r];exact hn)
 | .row r a b c,v,h=>by
   simp only[AV.ren] at h
   cases h with
   | row _ _ _ _ bb n cap hn h1 h2 h3 h4=>exact .row _ _ _ _ bb n cap (by rw[hf r];exact hn) h1 h2 h3 h4
   | row0 _ _ hn=>exact .row0 _ _ (by rw[hf r];exact hn)
 | .olist r a l,v,h=>by
   simp only[AV.ren] at h
   cases h with
   | olist _ _ _ _ hn hp hs=>exact .olist _ _ _ _ (by rw[hf r];exact hn) (by rw[hw,hi];exact hp) hs
 | .mp r,v,h=>by
   simp only[AV.ren] at h
   cases h with
   | mp _ b hn=>exact .mp _ _ (by rw[hf r];exact hn)
 | .agg cs,v,h=>by
   simp only[AV.ren] at h
   cases h with
   | agg _ vs hl hr=>
     obtain⟨h1,h2⟩:=fG hw hi hf cs vs hr
     exact .agg _ _ (by rw[← h1];exact hl) h2
 | .tup cs,v,h=>by
   simp only[AV.ren] at h
   cases h with
   | tup _ vs hl hr=>
     obtain⟨h1,h2⟩:=fG hw hi hf cs vs hr
     exact .tup _ _ (by rw[← h1];exact hl) h2
 | .clo g fs cs,v,h=>by
   simp only[AV.ren] at h
   cases h with
   | clo _ _ _ vs us hl hr hl' hr'=>
     obtain⟨h1,h2⟩:=fG hw hi hf fs vs hr
     obtain⟨h3,h4⟩:=fG hw hi hf cs us hr'
     exact .clo _ _ _ _ _ (by rw[← h1];exact hl) h2 (by rw[← h3];exact hl') h4
theorem fG {κ κ':Kap}(hw:κ'.w=κ.w)(hi:κ'.imm=κ.imm){g:Nat→Nat}(hf:∀ r,κ'.nm r=κ.nm (g r)):∀ (xs:List AV) (vs:Array Value),
  (∀ (i:Nat) (x:AV),(AV.renL (fun r=>some (g r)) xs)[i]? = some x→ARel κ x (vs.getD i Go.undef))→(AV.renL (fun r=>some (g r)) xs).length=xs.length∧∀ (i:Nat) (x:AV),xs[i]? = some x→ARel κ' x (vs.getD i Go.undef)
 | [],vs,h=>by simp[AV.renL]
 | x::r,vs,h=>by
   have e:∀ i,(vs.extract 1 vs.size).getD i Go.undef=vs.getD (i+1) Go.undef:=by
    intro i
    simp only[Array.getD_eq_getD_getElem?,Array.getElem?_extract]
    by_cases hh:i<min vs.size vs.size - 1
    ·rw[if_pos hh];congr 2;omega
    ·rw[if_neg hh,Array.getElem?_eq_none (by omega)]
   obtain⟨h1,h2⟩:=fG hw hi hf r (vs.extract 1 vs.size) (fun i y hy=>by
    have:=h (i+1) y (by simpa[AV.renL] using hy)
    rw[e];exact this)
   refine⟨by simp[AV.renL,h1],fun i y hy=>?_⟩
   cases i with
   | zero=>
     simp only[List.getElem?_cons_zero,Option.some.injEq] at hy
     subst hy
     exact unren hw hi hf x _ (h 0 _ (by simp[AV.renL]))
   | succ i=>
     simp only[List.getElem?_cons_succ] at hy
     have:=h2 i y hy
     rw[e] at this;exact this
end
theorem c8.unren {κ κ':Kap}(hw:κ'.w=κ.w)(hi:κ'.imm=κ.imm){g:Nat→Nat}(hf:∀ r,κ'.nm r=κ.nm (g r)){r:Nat}{B:Blk}(h:c8 κ (g r) (B.ren fun r=>some (g r))):c8 κ' r B:=by
 cases B with
 | none=>trivial
 | cells T f l=>
   simp only[Blk.ren] at h
   rcases h with ⟨h1,h2,h3⟩ | ⟨b,n,cs,h1,h2,h3,h4,h5,h6,h7⟩
   ·refine .inl ⟨h1,?_,by rw[hf];exact h3⟩
    cases l with
    | nil=>rfl
    | cons x r=>simp[AV.renL] at h2
   ·obtain⟨q1,q2⟩:=fG hw hi hf l cs h6
    exact .inr ⟨b,n,cs,by rw[hf];exact h1,by rw[hw];exact h2,h3,by rw[← q1];exact h4,fun hb=>by rw[← q1];exact h5 hb,q2,by rw[hi];exact h7⟩
 | tok e sz=>
   simp only[Blk.ren] at h
   rcases h with h | ⟨g',n,cap,cur,h1,h2,h3⟩
   ·exact .inl (by rw[hf];exact h)
   ·exact .inr ⟨g',n,cap,cur,by rw[hf];exact h1,by rw[hw];exact h2,by rw[hi];exact h3⟩
 | mp l=>
   obtain⟨b,es,ck,h1,h2⟩:=h
   exact⟨b,es,ck,by rw[hf];exact h1,by rw[hw,hi];exact h2⟩
 | bts e l=>
   obtain⟨b,n,cs,fz,h1,h2⟩:=h
   exact⟨b,n,cs,fz,by rw[hf];exact h1,by rw[hw,hi];exact h2⟩
theorem c8.ren {κ κ':Kap}(hw:κ'.w=κ.w)(hi:κ'.imm=κ.imm){g:Nat→Nat}(hf:∀ r,κ'.nm (g r)=κ.nm r){r:Nat}{B:Blk}(h:c8 κ r B):c8 κ' (g r) (B.ren fun r=>some (g r)):=by
 have hf':∀ r r',(fun r=>some (g r)) r=some r'→κ'.nm r'=κ.nm r:=fun r r' h=>by cases h;exact hf r
 cases B with
 | none=>trivial
 | cells T f l=>
   simp only[Blk.ren]
   rcases h with ⟨h1,h2,h3⟩ | ⟨b,n,cs,h1,h2,h3,h4,h5,h6,h7⟩
   ·exact .inl ⟨h1,by rw[h2];simp only[AV.renL],by rw[hf];exact h3⟩
   ·obtain⟨q1,q2⟩:=cC hw hi hf' l cs h6
    exact .inr ⟨b,n,cs,by rw[hf];exact h1,by rw[hw];exact h2,h3,by rw[q1];exact h4,fun hb=>by rw[q1];exact h5 hb,q2,by rw[hi];exact h7⟩
 | tok e sz=>
   simp only[Blk.ren]
   rcases h with h | ⟨g',n,cap,cur,h1,h2,h3⟩
   ·exact .inl (by rw[hf];exact h)
   ·exact .inr ⟨g',n,cap,cur,by rw[hf];exact h1,by rw[hw];exact h2,by rw[hi];exact h3⟩
 | mp l=>
   obtain⟨b,es,ck,h1,h2⟩:=h
   exact⟨b,es,ck,by rw[hf];exact h1,by rw[hw,hi];exact h2⟩
 | bts e l=>
   obtain⟨b,n,cs,fz,h1,h2⟩:=h
   exact⟨b,n,cs,fz,by rw[hf];exact h1,by rw[hw,hi];exact h2⟩
def pA (f:Nat→Option Nat):List Blk→Nat→(Nat→Nat)→List (Nat×Blk)
 | [],_,_=>[]
 | b::r,i,g=>(g i,b.ren f)::pA f r (i+1) g
def eR:List Nat→List (Nat×Blk)
 | []=>[]
 | r::q=>(r,.none)::eR q
def eE (sto:List (Nat×Blk))(f:Nat→Option Nat):List Nat→List Blk→Prop
 | [],[]=>True
 | r::rs,b::bs=>BlkZ (lookB r sto) (b.ren f)∧eE sto f rs bs
 | _,_=>False
theorem eE.get {sto:List (Nat×Blk)}{f:Nat→Option Nat}:∀ {rs:List Nat} {bs:List Blk},eE sto f rs bs→rs.length=bs.length∧∀ (i r:Nat) (b:Blk),rs[i]? = some r→bs[i]? = some b→BlkZ (lookB r sto) (b.ren f)
 | [],[],h=>⟨rfl,by simp⟩
 | r::rs,b::bs,h=>by
   obtain⟨h1,h2⟩:=h
   obtain⟨h3,h4⟩:=eE.get h2
   refine⟨by simp[h3],fun i q d hq hd=>?_⟩
   cases i with
   | zero=>simp at hq hd;subst hq;subst hd;exact h1
   | succ i=>exact h4 i q d (by simpa using hq) (by simpa using hd)
 | [],_::_,h=>h.elim
 | _::_,[],h=>h.elim
end
end Go.Ab
set_option linter.unusedVariables false
set_option linter.unusedSimpArgs false
namespace Go.Ab
open Go Go.RowKit
section
variable {P:Program}{G:Nat→List PV}
theorem c8.named {κ:Kap}{r:Nat}{B:Blk}(h:c8 κ r B)(hB:B≠.none):∃ d,κ.nm r=some d:=by
 cases B with
 | none=>exact absurd rfl hB
 | cells T f l=>
   rcases h with ⟨_,_,h⟩ | ⟨b,n,cs,h,_⟩
   ·exact⟨_,h⟩
   ·exact⟨_,h⟩
 | tok e sz=>
   rcases h with h | ⟨g,n,cap,cur,h,_⟩
   ·exact⟨_,h⟩
   ·exact⟨_,h⟩
 | mp l=>
   obtain⟨b,es,ck,h,_⟩:=h
   exact⟨_,h⟩
 | bts e l=>
   obtain⟨b,n,cs,fz,h,_⟩:=h
   exact⟨_,h⟩
theorem Blk.ren_ne {f:Nat→Option Nat}{b:Blk}:b.ren f≠.none↔b≠.none:=by
 cases b<;>simp[Blk.ren]
theorem DZ {next:Nat}{rs:List Nat}(hnd:rs.Nodup)(hlt:∀ r∈rs,r<next){i j:Nat}(h:gIn next rs i=gIn next rs j):i=j:=by
 by_cases hi:i<rs.length
 ·have ei:=gm next rs i _ (List.getElem?_eq_getElem hi)
  have hi':=hlt _ (List.getElem_mem hi)
  by_cases hj:j<rs.length
  ·have ej:=gm next rs j _ (List.getElem?_eq_getElem hj)
   rw[ei,ej] at h
   exact (List.getElem_inj hnd).1 h
  ·have ej:=hH next rs j (by omega)
   omega
 ·have ei:=hH next rs i (by omega)
  by_cases hj:j<rs.length
  ·have ej:=gm next rs j _ (List.getElem?_eq_getElem hj)
   have hj':=hlt _ (List.getElem_mem hj)
   omega
  ·have ej:=hH next rs j (by omega)
   omega
theorem kh {f:Nat→Option Nat}{g:Nat→Nat}(hg:∀ i j,g i=g j→i=j)(rest:List (Nat×Blk))(r:Nat):∀ (bs:List Blk) (k:Nat),
  (∀ i b,bs[i]? = some b→g (k+i)=r→lookB r (pA f bs k g++rest)=b.ren f)∧((∀ i,i<bs.length→g (k+i)≠r)→lookB r (pA f bs k g++rest)=lookB r rest)
 | [],k=>⟨by simp,fun _=>rfl⟩
 | b::q,k=>by
   obtain⟨h1,h2⟩:=kh hg rest r q (k+1)
   refine⟨fun i b' hi hr=>?_,fun h=>?_⟩
   ·simp only[pA,List.cons_append,lookB]
    cases i with
    | zero=>
      simp only[List.getElem?_cons_zero,Option.some.injEq] at hi
      subst hi
      rw[if_pos (by simpa using hr)]
    | succ i=>
      rw[if_neg (fun e=>by have:=hg _ _ (e.trans hr.symm);omega)]
      exact h1 i b' (by simpa using hi) (by rw[← hr];congr 1;omega)
   ·simp only[pA,List.cons_append,lookB]
    rw[if_neg (by have:=h 0 (by simp);simpa using this)]
    exact h2 fun i hi=>by
     have:=h (i+1) (by simp;omega)
     rwa [show k+(i+1)=k+1+i by omega] at this
theorem g7 (rest:List (Nat×Blk))(r:Nat):∀ (l:List Nat),lookB r (eR l++rest)=if r∈l then .none else lookB r rest
 | []=>by simp[eR]
 | x::q=>by
   simp only[eR,List.cons_append,lookB,g7 rest r q,List.mem_cons]
   by_cases h:x=r
   ·subst h;simp
   ·rw[if_neg h]
    by_cases hq:r∈q
    ·simp[hq]
    ·have:¬ (r=x∨r∈q):=by rintro (e | e);exact h e.symm;exact hq e
     rw[if_neg hq,if_neg this]
theorem jh.frame {k f:Nat}{args0:List AV}{bs:List Blk}{v:AV}{bs':List Blk}(h:jh P G k f args0 bs v bs'){rs:List Nat}{args:List AV}{sto:List (Nat×Blk)}{next:Nat}
  (hargs:AVzL args (AV.renL (gSo next rs) args0)) (hbs:eE sto (gSo next rs) rs bs) (hnd:rs.Nodup) (hlt:∀ r∈rs,r<next) (hk:k≤bs.length) (hk':k≤bs'.length) (hne:∀ b∈bs.take k,b≠.none) :
  bv P G f args sto next fun v' sto' next'=>v'=v.ren (gSo next (rs.take k))∧sto'=pA (gSo next (rs.take k)) bs' 0 (gIn next (rs.take k))++(eR (rs.drop k)++sto)∧next'=next+(bs'.length - k):=by
 obtain⟨hcal,h⟩:=h
 refine⟨hcal,fun κ vals hS hf hsz hvals=>?_⟩
 obtain⟨hrl,hat⟩:=hbs.get
 let κ1:Kap:=⟨κ.w,fun i=>κ.nm (gIn next rs i),κ.imm⟩
 have hσ1:(fun r=>lookB r (bC bs 0))=fun r=>bs.getD r .none:=dU bs
 have hlook:∀ i b,bs[i]? = some b→∃ r,rs[i]? = some r∧gIn next rs i=r∧c8 κ r (b.ren (gSo next rs))∧(b≠.none→lookB r sto≠.none):=by
  intro i b hb
  have hi:i<rs.length:=by rw[hrl];exact (List.getElem?_eq_some_iff.1 hb).1
  have hr:=List.getElem?_eq_getElem hi
  obtain⟨q1,q2⟩:=(hat i _ b hr hb).rel (hS.blk rs[i])
  exact⟨rs[i],hr,gm next rs i _ hr,q1,fun hb'=>q2 (Blk.ren_ne.2 hb')⟩
 have hlive:∀ i,bs.getD i .none≠.none→∃ b,bs[i]? = some b∧b≠.none:=by
  intro i hi
  rw[List.getD_eq_getElem?_getD] at hi
  cases hb:bs[i]? with
  | none=>rw[hb] at hi;exact absurd rfl hi
  | some b=>rw[hb] at hi;exact⟨b,rfl,hi⟩
 have hB1:∀ i b,bs[i]? = some b→c8 κ1 i b:=by
  intro i b hb
  obtain⟨r,hr,hgr,hB,_⟩:=hlook i b hb
  exact c8.unren (κ:=κ) (κ':=κ1) rfl rfl (g:=gIn next rs) (fun _=>rfl) (by rw[hgr];exact hB)
 have hl1:∀ b,(bu κ1 (fun r=>lookB r (bC bs 0)) G).lent b→(bu κ (fun r=>lookB r sto) G).lent b:=by
  rintro b ⟨i,d,h1,h2,h3⟩
  simp only[congrFun hσ1 i] at h1
  obtain⟨b',hb,hbn⟩:=hlive i h1
  obtain⟨r,hr,hgr,_,hn⟩:=hlook i b' hb
  exact⟨r,d,hn hbn,by rw[← hgr];exact h2,h3⟩
 have hm1:∀ b,(bu κ1 (fun r=>lookB r (bC bs 0)) G).mine b→(bu κ (fun r=>lookB r sto) G).mine b:=fun b hb=>hb.elim .inl (fun h=>.inr (hl1 b h))
 have hS1:SRel (bu κ1 (fun r=>lookB r (bC bs 0)) G) κ1 (fun r=>lookB r (bC bs 0)):=by
  refine⟨fun i=>?_,fun i j d d' b h1 h2 hij hd hd' hb=>?_,fun i d b h1 hd hb=>.inr ⟨i,d,h1,hd,hb⟩,hS.immLt,?_⟩
  ·rw[congrFun hσ1 i]
   show c8 κ1 i (bs.getD i .none)
   rw[List.getD_eq_getElem?_getD]
   cases hb:bs[i]? with
   | none=>trivial
   | some b=>exact hB1 i b hb
  ·simp only[congrFun hσ1 i] at h1
   simp only[congrFun hσ1 j] at h2
   obtain⟨b1,hb1,hn1⟩:=hlive i h1
   obtain⟨b2,hb2,hn2⟩:=hlive j h2
   obtain⟨r,hr,hgr,_,hn⟩:=hlook i b1 hb1
   obtain⟨r',hr',hgr',_,hn'⟩:=hlook j b2 hb2
   refine hS.apart r r' d d' b (hn hn1) (hn' hn2) (fun e=>hij ?_) (by rw[← hgr];exact hd) (by rw[← hgr'];exact hd') hb
   obtain⟨hi,ei⟩:=List.getElem?_eq_some_iff.1 hr
   obtain⟨hj,ej⟩:=List.getElem?_eq_some_iff.1 hr'
   exact (List.getElem_inj hnd).1 (ei.trans (e.trans ej.symm))
  ·refine⟨fun g o p hp=>?_,fun g hg=>?_⟩
   ·exact hS.glob.1 g o p hp
   ·obtain⟨h1,h2,h3⟩:=hS.glob.2 g hg
    exact⟨h1,fun hl=>h2 (hl1 g hl),h3⟩
 have hf1:∀ r,bs.length≤r→κ1.nm r=none:=fun r hr=>by
  show κ.nm (gIn next rs r)=none
  rw[hH next rs r (by omega)]
  exact hf _ (by omega)
 have hlen0:args0.length=args.length:=by
  rw[hargs.length]
  have:∀ (f:Nat→Option Nat) (l:List AV),(AV.renL f l).length=l.length:=by
   intro f l
   induction l with
   | nil=>simp[AV.renL]
   | cons x r ih=>simp[AV.renL,ih]
  rw[this]
 have hv1:∀ (i:Nat) (x:AV),args0[i]? = some x→ARel κ1 x (vals.getD i Go.undef):=
  (fG (κ:=κ) (κ':=κ1) rfl rfl (g:=gIn next rs) (fun _=>rfl) args0 vals (fun i x hx=>by
   obtain⟨y,hy,hyx⟩:=hargs.get i x hx
   exact hyx.rel (hvals i y hy))).2
 refine (h κ1 vals hS1 hf1 (by omega) hv1).mono ?_
 rintro e w' ⟨u,v',κ1',sto',next',rfl,rfl,he,hL,hv,hS',hf',rfl,rfl,rfl⟩
 obtain⟨g,hgdef⟩:∃ g,g=gIn next (rs.take k):=⟨_,rfl⟩
 have htl:(rs.take k).length=k:=by rw[List.length_take];omega
 have hg1:∀ i,i<k→∃ r,rs[i]? = some r∧g i=r∧r<next:=by
  intro i hi
  have hi':i<rs.length:=by omega
  have hr:=List.getElem?_eq_getElem hi'
  refine⟨rs[i],hr,?_,hlt _ (List.getElem_mem hi')⟩
  rw[hgdef]
  exact gm next _ i _ (by rw[List.getElem?_take,if_pos hi];exact hr)
 have hg2:∀ i,k≤i→g i=next+(i - k):=fun i hi=>by rw[hgdef,hH next _ i (by omega),htl]
 have hginj:∀ i j,g i=g j→i=j:=fun i j hij=>by
  rw[hgdef] at hij
  exact DZ (hnd.sublist (List.take_sublist _ _)) (fun r hr=>hlt r (List.mem_of_mem_take hr)) hij
 have hso:gSo next (rs.take k)=fun r=>some (g r):=by rw[hgdef];rfl
 rw[hso,← hgdef]
 let κ':Kap:=⟨κ1'.w,fun r=>if r<next then κ.nm r else κ1'.nm (k+(r - next)),κ1'.imm⟩
 have hnmk:∀ i,i<k→κ1'.nm i=κ1.nm i:=by
  intro i hi
  have hib:i<bs.length:=by omega
  have hb:=List.getElem?_eq_getElem hib
  obtain⟨d,hd⟩:=(hB1 i _ hb).named (hne _ (List.mem_take_iff_getElem.2 ⟨i,by omega,rfl⟩))
  rw[hd]
  exact he.nm i d (by simp only[Kap.cut];rw[if_pos hi];exact hd)
 have hnm':∀ i,κ'.nm (g i)=κ1'.nm i:=by
  intro i
  by_cases hi:i<k
  ·obtain⟨r,hr,hgr,hrn⟩:=hg1 i hi
   show (if g i<next then κ.nm (g i) else κ1'.nm (k+(g i - next)))=_
   rw[hgr,if_pos hrn,hnmk i hi]
   show κ.nm r=κ.nm (gIn next rs i)
   rw[gm next rs i r hr]
  ·show (if g i<next then κ.nm (g i) else κ1'.nm (k+(g i - next)))=_
   rw[hg2 i (by omega),if_neg (by omega)]
   congr 1;omega
 have hext:Ext κ κ':=⟨fun b o hi=>he.imm b o hi,fun b o v hi hc=>he.cell b o v hi hc,fun r d hd=>by
  have hr:r<next:=by
   rcases Nat.lt_or_ge r next with h | h
   ·exact h
   ·rw[hf r h] at hd;cases hd
  show (if r<next then κ.nm r else _)=_
  rw[if_pos hr];exact hd,fun b o ho hc=>he.obj b o ho hc⟩
 have hout:∀ r d b,lookB r sto≠.none→r∉rs→κ.nm r=some d→d.block=some b→b<κ.w.heap.size∧¬ (bu κ1 (fun r=>lookB r (bC bs 0)) G).lent b:=by
  intro r d b h1 h2 h3 h4
  refine⟨(hS.blk r).lt h1 h3 h4,?_⟩
  rintro⟨i,d',q1,q2,q3⟩
  simp only[congrFun hσ1 i] at q1
  obtain⟨b',hb,hbn⟩:=hlive i q1
  obtain⟨r',hr',hgr,_,hn⟩:=hlook i b' hb
  refine hS.apart r r' d d' b h1 (hn hbn) (fun e=>h2 (e▸List.mem_of_getElem? hr')) h3 (by rw[← hgr];exact q2) h4 q3
 have hmem:∀ r,r∈rs→(∃ i,i<bs'.length∧g i=r)∨r∈rs.drop k:=by
  intro r hr
  obtain⟨i,hi⟩:=List.getElem?_of_mem hr
  by_cases hik:i<k
  ·obtain⟨r',hr',hgr,_⟩:=hg1 i hik
   rw[hi] at hr';cases hr'
   exact .inl ⟨i,by omega,hgr⟩
  ·refine .inr (List.mem_of_getElem? (i:=i - k) ?_)
   rw[List.getElem?_drop,show k+(i - k)=i by omega];exact hi
 have hσ':∀ r,(∃ i b,bs'[i]? = some b∧g i=r∧lookB r (pA (fun r=>some (g r)) bs' 0 g++(eR (rs.drop k)++sto))=b.ren (fun r=>some (g r))) ∨
   lookB r (pA (fun r=>some (g r)) bs' 0 g++(eR (rs.drop k)++sto)) = .none∨(r∉rs∧(∀ i,i<bs'.length→g i≠r)∧lookB r (pA (fun r=>some (g r)) bs' 0 g++(eR (rs.drop k)++sto))=lookB r sto):=by
  intro r
  obtain⟨q1,q2⟩:=kh (f:=fun r=>some (g r)) hginj (eR (rs.drop k)++sto) r bs' 0
  by_cases hi:∃ i,i<bs'.length∧g i=r
  ·obtain⟨i,hi,hgi⟩:=hi
   exact .inl ⟨i,bs'[i],List.getElem?_eq_getElem hi,hgi,q1 i _ (List.getElem?_eq_getElem hi) (by rw[Nat.zero_add];exact hgi)⟩
  ·have hni:∀ i,i<bs'.length→g i≠r:=fun i h1 h2=>hi ⟨i,h1,h2⟩
   have e:=q2 (fun i h1=>by rw[Nat.zero_add];exact hni i h1)
   rw[g7] at e
   by_cases hr:r∈rs.drop k
   ·rw[if_pos hr] at e;exact .inr (.inl e)
   ·rw[if_neg hr] at e
    exact .inr (.inr ⟨fun h=>(hmem r h).elim hi hr,hni,e⟩)
 have hlive':∀ i b,bs'[i]? = some b→b.ren (fun r=>some (g r))≠.none→lookB i (bC bs' 0)≠.none:=by
  intro i b hb hbn
  have e2:lookB i (bC bs' 0)=bs'.getD i .none:=congrFun (dU bs') i
  rw[e2,List.getD_eq_getElem?_getD,hb]
  exact Blk.ren_ne.1 hbn
 refine⟨u,_,κ',_,_,rfl,rfl,hext,⟨hL.os,hL.tape,hL.output,hL.size,fun b hb hl=>hL.block b hb fun h=>hl (hl1 b h),fun b o hi=>(hL.imm b o hi).imp id (hm1 b)⟩,
  lC (κ:=κ1') (κ':=κ') rfl rfl (fun r r' hr=>by cases hr;exact hnm' r) v' u hv,?_,fun r hr=>?_,rfl,rfl,rfl⟩
 ·refine⟨fun r=>?_,fun r r' d d' b h1 h2 hrr hd hd' hb=>?_,fun r d b h1 hd hb=>?_,hS'.immLt,?_⟩
  ·show c8 κ' r (lookB r _)
   rcases hσ' r with ⟨i,b,hb,hgi,e⟩ | e | ⟨hr,hni,e⟩
   ·rw[e,← hgi]
    refine c8.ren (κ:=κ1') (κ':=κ') rfl rfl hnm' ?_
    have:=hS'.blk i
    have e2:lookB i (bC bs' 0)=bs'.getD i .none:=congrFun (dU bs') i
    simp only[e2,List.getD_eq_getElem?_getD,hb] at this
    exact this
   ·rw[e];trivial
   ·rw[e]
    refine (hS.blk r).keep hext fun hbn d b hd hb=>?_
    obtain⟨q1,q2⟩:=hout r d b hbn hr hd hb
    refine⟨hL.block b q1 q2,fun o ho=>?_⟩
    rcases hL.imm b o ho with h | h | h
    ·exact h
    ·exact absurd q1 (Nat.not_lt.2 h)
    ·exact absurd h q2
  ·have cal:∀ r i b0 d,bs'[i]? = some b0→g i=r→b0.ren (fun r=>some (g r))≠.none→κ'.nm r=some d→lookB i (bC bs' 0)≠.none∧κ1'.nm i=some d:=by
    intro r i b0 d hb0 hgi hbn hd
    exact⟨hlive' i b0 hb0 hbn,by rw[← hnm' i,hgi];exact hd⟩
   have own:∀ r d,r∉rs→lookB r sto≠.none→κ'.nm r=some d→κ.nm r=some d:=by
    intro r d hr hbn hd
    obtain⟨d',hd'⟩:=(hS.blk r).named hbn
    have:=hext.nm r d' hd'
    rw[this] at hd;cases hd;exact hd'
   have mix:∀ r i b0 d d' b,bs'[i]? = some b0→b0.ren (fun r=>some (g r))≠.none→κ1'.nm i=some d→d.block=some b→lookB i (bC bs' 0)≠.none→r∉rs→lookB r sto≠.none→κ.nm r=some d'→d'.block≠some b:=by
    intro r i b0 d d' b hb0 hbn hd hdb hl hr hrl hd' hdb'
    obtain⟨q1,q2⟩:=hout r d' b hrl hr hd' hdb'
    rcases hS'.mine i d b hl hd hdb with h | h
    ·exact absurd q1 (Nat.not_lt.2 h)
    ·exact q2 h
   rcases hσ' r with ⟨i,b1,hb1,hgi,e⟩ | e | ⟨hr,hni,e⟩
   ·have h1':b1.ren (fun r=>some (g r))≠.none:=by
     intro h0;exact h1 (e.trans h0)
    obtain⟨p1,p2⟩:=cal r i b1 d hb1 hgi h1' hd
    rcases hσ' r' with ⟨j,b2,hb2,hgj,e'⟩ | e' | ⟨hr',hni',e'⟩
    ·have h2':b2.ren (fun r=>some (g r))≠.none:=by
      intro h0;exact h2 (e'.trans h0)
     obtain⟨p3,p4⟩:=cal r' j b2 d' hb2 hgj h2' hd'
     exact hS'.apart i j d d' b p1 p3 (fun hij=>hrr (by rw[← hgi,← hgj,hij])) p2 p4 hb
    ·exact absurd e' h2
    ·have h2':lookB r' sto≠.none:=by intro h0;exact h2 (e'.trans h0)
     exact mix r' i b1 d d' b hb1 h1' p2 hb p1 hr' h2' (own r' d' hr' h2' hd')
   ·exact absurd e h1
   ·have h1':lookB r sto≠.none:=by intro h0;exact h1 (e.trans h0)
    have hd0:=own r d hr h1' hd
    rcases hσ' r' with ⟨j,b2,hb2,hgj,e'⟩ | e' | ⟨hr',hni',e'⟩
    ·have h2':b2.ren (fun r=>some (g r))≠.none:=by
      intro h0;exact h2 (e'.trans h0)
     obtain⟨p3,p4⟩:=cal r' j b2 d' hb2 hgj h2' hd'
     intro hb'
     exact mix r j b2 d' d b hb2 h2' p4 hb' p3 hr h1' hd0 hb
    ·exact absurd e' h2
    ·have h2':lookB r' sto≠.none:=by intro h0;exact h2 (e'.trans h0)
     exact hS.apart r r' d d' b h1' h2' hrr hd0 (own r' d' hr' h2' hd') hb
  ·rcases hσ' r with ⟨i,b1,hb1,hgi,e⟩ | e | ⟨hr,hni,e⟩
   ·have h1':b1.ren (fun r=>some (g r))≠.none:=by
     intro h0;exact h1 (e.trans h0)
    refine hm1 b (hS'.mine i d b (hlive' i b1 hb1 h1') (by rw[← hnm' i,hgi];exact hd) hb)
   ·exact absurd e h1
   ·have h1':lookB r sto≠.none:=by intro h0;exact h1 (e.trans h0)
    obtain⟨d',hd'⟩:=(hS.blk r).named h1'
    have:=hext.nm r d' hd'
    rw[this] at hd;cases hd
    exact .inr ⟨r,d,h1',hd',hb⟩
  ·refine⟨hS'.glob.1,fun g' hg'=>?_⟩
   obtain⟨h1,h2,cs,T,fz,h3,h4⟩:=hS.glob.2 g' hg'
   exact⟨h1,h2,cs,T,fz,(hL.block g' h1 fun h=>h2 (hl1 g' h)).trans h3,h4⟩
 ·show (if r<next then κ.nm r else κ1'.nm (k+(r - next)))=none
  rw[if_neg (by omega)]
  exact hf' _ (by omega)
def BL (k:Nat)(rs:List Nat)(bs bs':List Blk)(next:Nat):Bool:=
 decide (k≤bs.length)&&decide (k≤bs'.length)&&(bs.take k).all (fun b=>match b with | .none=>false | _=>true)&&rs.all (fun r=>decide (r<next))&&decide rs.Nodup
theorem ae.lentK {k f:Nat}{args0:List AV}{bs:List Blk}{v:AV}{bs':List Blk}(h:jh P G k f args0 bs v bs')(rs:List Nat){args:List AV}{env:List (Nat×AV)}{sto:List (Nat×Blk)}{next:Nat}{K:AV→St→Prop}
  (hok:BL k rs bs bs' next=true) (hargs:AVzL args (AV.renL (gSo next rs) args0)) (hbs:eE sto (gSo next rs) rs bs)
  (hK:K (v.ren (gSo next (rs.take k))) ⟨env,pA (gSo next (rs.take k)) bs' 0 (gIn next (rs.take k))++(eR (rs.drop k)++sto),next+(bs'.length - k)⟩):ae P G f args ⟨env,sto,next⟩ K:=by
 simp only[BL,Bool.and_eq_true,decide_eq_true_eq,List.all_eq_true] at hok
 obtain⟨⟨⟨⟨h1,h2⟩,h3⟩,h4⟩,h5⟩:=hok
 refine ae.lent (h.frame hargs hbs h5 h4 h1 h2 (fun b hb e=>?_)) ?_
 ·have:=h3 b hb
  subst e;cases this
 ·rintro v' sto' next' ⟨rfl,rfl,rfl⟩
  exact hK
theorem ae.weak {f:Nat}{args args':List AV}{s s':St}{K:AV→St→Prop}(hw:WkC s args s' args')(h:ae P G f args' s' K):ae P G f args s K:=by
 obtain⟨s2,args2,hw2,h2⟩:=h
 refine⟨s2,args2,⟨hw2.1.trans hw.1,hw2.2.1.trans hw.2.1,fun c κ0 κ N a w vals hR hv=>?_⟩,?_⟩
 ·obtain⟨κ1,h3,h4⟩:=hw.2.2 c κ0 κ N a w vals hR hv
  exact hw2.2.2 c κ0 κ1 N a w vals h3 h4
 ·rcases h2 with ⟨ps,r,k1,k2,k3⟩ | ⟨Q,k1,k2⟩
  ·exact .inl ⟨ps,r,k1,k2,k3⟩
  ·refine .inr ⟨Q,k1,fun v sto' next' hq=>?_⟩
   have:=k2 v sto' next' hq
   rw[hw.2.1] at this
   exact this
end
end Go.Ab
set_option linter.unusedVariables false
namespace Go.Ab
open Go
theorem vN (k:Nat):bC [] k=[]:=_root_.id rfl
theorem qv (b:Blk)(r:List Blk)(k:Nat):bC (b::r) k=(k,b)::bC r (k+1):=_root_.id rfl
theorem p9 (sto:List (Nat×Blk))(f:Nat→Option Nat):eE sto f [] []=True:=_root_.id rfl
theorem mF (sto:List (Nat×Blk))(f:Nat→Option Nat)(r:Nat)(rs:List Nat)(b:Blk)(bs:List Blk):eE sto f (r::rs) (b::bs)=(BlkZ (lookB r sto) (b.ren f)∧eE sto f rs bs):=_root_.id rfl
theorem zf (f:Nat→Option Nat)(i:Nat)(g:Nat→Nat):pA f [] i g=[]:=_root_.id rfl
theorem ub (f:Nat→Option Nat)(b:Blk)(r:List Blk)(i:Nat)(g:Nat→Nat):pA f (b::r) i g=(g i,b.ren f)::pA f r (i+1) g:=_root_.id rfl
theorem uo:eR []=[]:=_root_.id rfl
theorem pG (r:Nat)(q:List Nat):eR (r::q)=(r,.none)::eR q:=_root_.id rfl
theorem F7 (next:Nat)(rs:List Nat)(r:Nat):gSo next rs r=some (gIn next rs r):=_root_.id rfl
theorem DY (next i:Nat):gIn next [] i=next+i:=_root_.id rfl
theorem Ix (next r:Nat)(q:List Nat):gIn next (r::q) 0=r:=_root_.id rfl
theorem Iw (next r i:Nat)(q:List Nat):gIn next (r::q) (i+1)=gIn next q i:=_root_.id rfl
def kz (s sz off len:Nat):Blk→Option (List PV)
 | .cells _ _ l=>if s=1∧sz=1∧off+len≤l.length∧((l.drop off).take len).all AV.one=true then pvs ((l.drop off).take len) else none
 | _=>none
theorem mO (σ:ag)(sz r s off len:Nat):aN σ sz (.row r s off len)=kz s sz off len (σ r):=by
 simp only[aN,kz]
 cases σ r<;>rfl
theorem gE (k:IntKind)(l:List Int):(l.map (PV.int k)).all PV.one=true:=by
 rw[List.all_eq_true];intro x hx;obtain⟨n,_,rfl⟩:=List.mem_map.1 hx;rfl
theorem vP {T:Nat}{f:Bool}{l:List PV}{n:Nat}(h:n≤l.length)(h1:l.all PV.one=true):kz 1 1 0 n (.cells T f (l.map .pv))=some (l.take n):=by
 have h2:(((l.map AV.pv).drop 0).take n)=(l.take n).map .pv:=by rw[List.drop_zero,List.map_take]
 have h3:((l.take n).map AV.pv).all AV.one=true:=by
  rw[List.all_eq_true] at h1 ⊢
  intro x hx
  obtain⟨y,hy,rfl⟩:=List.mem_map.1 hx
  exact h1 y (List.mem_of_mem_take hy)
 have h4:∀ k:List PV,pvs (k.map .pv)=some k:=by
  intro k
  induction k with
  | nil=>rfl
  | cons a r ih=>simp[pvs,AV.toPV,ih]
 simp only[kz]
 rw[if_pos (by refine⟨trivial,trivial,by simp;omega,by rw[h2];exact h3⟩),h2,h4]
theorem qA {T:Nat}{f:Bool}{k:IntKind}{p:List Int}{n:Nat}(h:n=p.length):kz 1 1 0 n (.cells T f ((p.map (PV.int k)).map .pv))=some (p.map (PV.int k)):=by
 rw[vP (by simp;omega) (gE k p),List.take_of_length_le (by simp;omega)]
theorem iE {sz r off n:Nat}{k:IntKind}{h:Int}(h0:0≤h)(h1:h≤n)(hs:0<sz):bJ sz (.row r sz off n) none (some (.pv (.int k h)))=some (.row r sz off h.toNat):=by
 simp[bJ,aM,h0,h1,hs]
theorem xA (n:Nat):((n:Int)+1).toNat=n+1:=by omega
theorem A4 (n:Int):n+1 - 1=n:=by omega
def EP:List Nat→List Nat→List Nat
 | [],a=>a
 | x::r,a=>EP r (x::a)
theorem ym (a:List Nat):EP [] a=a:=_root_.id rfl
theorem jz (x:Nat)(r a:List Nat):EP (x::r) a=EP r (x::a):=_root_.id rfl
theorem sU:∀ (l a:List Nat),l.reverse++a=EP l a
 | [],a=>rfl
 | x::r,a=>by rw[jz,← sU r (x::a)];simp
theorem u7 (l:List (Nat×Blk)):aJ l.reverse=EP (aJ l) []:=by
 rw[← sU,List.append_nil];simp[aJ]
theorem yl (ks rs:List Nat):db 2 ks rs=(0::ks.map (· + 1),rs.map (· + 1)):=by simp[db]
theorem dh (A:List (Nat×Nat×Nat×Nat)){k:Nat}{v v':AV}{bs':List Blk}{sto':List (Nat×Blk)}{next':Nat}(h:StZ (cG A k [0] ⟨[(0,v')],sto',next'⟩) ⟨[(0,v)],bC bs' 0,bs'.length⟩):DO k v bs' v' sto' next':=Wk.head h
theorem ae.nilB (r o e sz:Nat){P:Program}{G:Nat→List PV}{f:Nat}{args:List AV}{s:St}{K:AV→St→Prop}(he:(ED r o e sz s (lookB r s.sto)).env=s.env)(h:ae P G f args (ED r o e sz s (lookB r s.sto)) K):ae P G f args s K:=
 ae.weak (WkC.of (rF r o e sz s) he args) h
end Go.Ab
set_option linter.unusedVariables false
set_option linter.unusedSimpArgs false
namespace Go.Ab
open Go Go.RowKit
section
variable {P:Program}{G:Nat→List PV}
theorem wO (F:St→Prop)(s:St):I7 F .norm s=F s:=_root_.id rfl
theorem AL (b:ACode)(Q:AExit→St→Prop)(e:List (Nat×AV))(σ:List (Nat×Blk))(n:Nat):Er (fun m=>vc P G m b) Q ⟨e,σ,n⟩=vc P G n b Q ⟨e,σ,n⟩:=_root_.id rfl
theorem y6 (e:List (Nat×AV)):y7 [] [] e=e:=_root_.id rfl
theorem tX (p:Nat)(ps:List Nat)(x:PV)(xs:List PV)(e:List (Nat×AV)):y7 (p::ps) (x::xs) e=y7 ps xs ((p,.pv x)::e):=_root_.id rfl
def HW {ι:Type}(A:List (Nat×Nat×Nat×Nat))(S:ι→St)(Inv:Nat→ι→Prop)(i m0:Nat)(keep:List Nat)(Q:AExit→St→Prop)(e0:List (Nat×AV)):AExit→St→Prop
 | .norm,s'=>∃ x',Hd A m0 keep ⟨e0,s'.sto,s'.next⟩ (S x')∧Inv (i+1) x'
 | .exit j,s'=>Q (.exit j) ⟨e0,s'.sto,s'.next⟩
 | .ret,s'=>Q .ret ⟨e0,s'.sto,s'.next⟩
theorem wL {ι:Type}(A:List (Nat×Nat×Nat×Nat))(S:ι→St)(Inv:Nat→ι→Prop)(i m0:Nat)(keep:List Nat)(Q:AExit→St→Prop)(e0 e:List (Nat×AV))(σ:List (Nat×Blk))(n:Nat):HW A S Inv i m0 keep Q e0 .norm ⟨e,σ,n⟩ = ∃ x',Hd A m0 keep ⟨e0,σ,n⟩ (S x')∧Inv (i+1) x':=_root_.id rfl
theorem wM {ι:Type}(A:List (Nat×Nat×Nat×Nat))(S:ι→St)(Inv:Nat→ι→Prop)(i m0:Nat)(keep:List Nat)(Q:AExit→St→Prop)(e0:List (Nat×AV))(j:Nat)(e:List (Nat×AV))(σ:List (Nat×Blk))(n:Nat):HW A S Inv i m0 keep Q e0 (.exit j) ⟨e,σ,n⟩=Q (.exit j) ⟨e0,σ,n⟩:=_root_.id rfl
theorem Bd {ι:Type}(A:List (Nat×Nat×Nat×Nat))(S:ι→St)(Inv:Nat→ι→Prop)(i m0:Nat)(keep:List Nat)(Q:AExit→St→Prop)(e0 e:List (Nat×AV))(σ:List (Nat×Blk))(n:Nat):HW A S Inv i m0 keep Q e0 .ret ⟨e,σ,n⟩=Q .ret ⟨e0,σ,n⟩:=_root_.id rfl
theorem F6:∀ (lb:List PV),pvs (lb.map AV.pv)=some lb
 | []=>rfl
 | p::r=>by simp[pvs,AV.toPV,F6 r]
theorem E0 {ι:Type}(A:List (Nat×Nat×Nat×Nat))(ch:ι→List (Nat×AV))(chB:ι→List (Nat×Blk))(Inv:Nat→ι→Prop)(x0:ι){gf:Nat}{lb:List PV}{xs:List (List PV)}(hs:IW P G gf lb xs)
  {m0:Nat} {f:AX} {ps keep:List Nat} {a b:ACode} {Q:AExit→St→Prop} {s:St}
  (h:∀ e0 σ0 n0,cG A m0 keep s=⟨e0,σ0,n0⟩→StZ ⟨e0,σ0,n0⟩ ⟨dR e0 (ch x0),eO σ0 (chB x0),n0⟩∧Inv 0 x0∧bP (f.ev (fun i=>look i (dR e0 (ch x0))))=some (gf,[],lb.map AV.pv) ∧
   (∀ i x y,xs[i]? = some y→Inv i x→y.length=ps.length∧vc P G n0 a (I7 (Er (fun m=>vc P G m b) (HW A (fun x=>⟨dR e0 (ch x),eO σ0 (chB x),n0⟩) Inv i m0 keep Q (dR e0 (ch x))))) ⟨y7 ps y (dR e0 (ch x)),eO σ0 (chB x),n0⟩) ∧
   ∀ x,Inv xs.length x→Q .norm ⟨dR e0 (ch x),eO σ0 (chB x),n0⟩):vc P G m0 (.range f ps keep a b) Q s:=by
 obtain⟨h1,h2,h3,h4,h5⟩:=h (cG A m0 keep s).env (cG A m0 keep s).sto (cG A m0 keep s).next rfl
 let S:ι→St:=fun x=>⟨dR (cG A m0 keep s).env (ch x),eO (cG A m0 keep s).sto (chB x),(cG A m0 keep s).next⟩
 refine⟨fun i t=>∃ x,t=S x∧Inv i x,S x0,bX h1,⟨x0,rfl,h2⟩,?_⟩
 have e:bP (f.ev (S x0).E)=some (gf,[],lb.map AV.pv):=h3
 rw[e]
 refine⟨rfl,lb,xs,F6 lb,hs,?_,?_⟩
 ·rintro i y t hy ⟨x,rfl,hx⟩
  obtain⟨k1,k2⟩:=h4 i x y hy hx
  refine⟨k1,bA a (fun e s hs=>?_) _ k2⟩
  cases e with
  | norm=>
    refine bA b (fun e s hs=>?_) s hs
    cases e with
    | norm=>
      obtain⟨x',q1,q2⟩:=hs
      exact⟨S x',q1,x',rfl,q2⟩
    | exit j=>exact hs
    | ret=>exact hs
  | exit j=>exact hs.elim
  | ret=>exact hs.elim
 ·rintro t ⟨x,rfl,hx⟩
  exact h5 x hx
end
end Go.Ab
namespace Go.Ab
open Go
attribute [push_cast] xa xb Ce w8 w9 ID IE IF IG IH II uO
 zW p6 uP IA IC IB pY pZ p5 Au Av Eb Ax Ea At Cr
 sd oN oK oJ oI lp oH ln xZ se sf sg
 lm ll x5 x6 Dj Dk xY xX oM sk sl tO
 AB vJ AC AA wz lr lO oL x4 x3 oG C8
 C9 pa lN lM tx tz Dn Do jJ pb lL jH
 o9 yz tr tq o8 yD lP lQ vX wo lG yX
 yI yO yK yJ yW Di yH lR yU yN yP yQ
 yR yS tI tH tC tD tE tF tG tN yZ tL
 tK tM pg yY tJ yw th tB pc yu tk tj
 ti yv De Df uh pP mn Jq Jp Dl tV tW
 pl nB Cp oC xx xw xz xv xy DF ml mm
 DD me mf DE mg mh j1 wc qY qU qW qV
 kH qX aV qT wa v7 qN qQ qO qP wb qS
 qR mD p7 tp o7 o6 DM DL ox ow pV GL
 zP qZ uJ z8 u6 uW uY uX mG uZ uH pT
 pf pU mz mA DG Db oX jr x8 dc xm r4
 AE AF Dq zw zv zz zy zE zD AJ rL oz
 rI rJ rH lf vT qE mP jO jP zq y3 Gm
 Gn vS ya x9 yc yb Fr Fq Fp mq j6 j5
 j9 iJ ka pR mx iK iL uG Cj xi rM qF
 mQ kA Ef uK kb kf mB pW mC kg ke iN
 iM DC zJ zI pM u9 qk Eg qD vZ qK v6
 qM Eh Ei zO FP zo wI wJ Bc nj nk rj
 Cf E2 Ch Ee EZ Ci xh Cg E1 zk Ir Is
 yn sX Be EG CZ Fu Fv Ft qI sV oT y8
 F2 vh vj DU DT vm qm ql nh ni ri tY
 pm t8 pw tZ po ua px ul Du FM FJ Dv
 FL FK Dw zl yx yy oD lj jp r9 map_take map_drop
 uj pj GU A0 AZ AY Ev oi q9 qx qy qz
 mN IS GJ wm wn GI ek fX fW zg eh Dp
 zi zh pB zj jG iF lY pD pE pC A3 GV
 GP DK z1 vk Ga Gb Ak Am D1 D2 Al D4
 D5 Ap An vv vw D3 zG uu ut zH uA ur
 uw uz pJ f5 fZ l9 jX pK mb A5 wC Ex
 Ey DX nR kK eC C7 C6 ky iX Ig Fs un
 pF Dx Dz Dy oU lD pI Ad vn BC C4 C2
 C1 Fz C5 C0 C3 sZ sY s7 yo jC lE s8
 oV yp s9 zp A6 wD wE wH Bb DB DA zt
 zr EB A9 re wG Ba EA Jl Jk H3 Gp Gq
 Gr Gs Gt Gu D8 vD qq zc na nc rg AM
 GS AN AR ww AD vM wp GM GO GN AP wu
 ws AQ wv x7 sr E5 vN qv p9 mF zf ub
 uo pG F7 DY Ix Iw mO gE qA iE xA A4
 ym jz u7 yl Nat.zero_add Nat.add_zero List.length_cons List.length_nil List.nil_append List.cons_append List.append_nil List.append_assoc
 List.getElem?_map List.length_map List.map_nil List.map_cons List.take_succ_cons List.take_zero List.drop_succ_cons List.drop_zero List.take_nil List.drop_nil List.all_cons List.all_nil
 Bool.and_true Bool.true_and Bool.and_false Bool.false_and Bool.not_true Bool.not_false decide_true decide_false Bool.not_not Int.natCast_add Int.cast_ofNat_Int Int.toNat_natCast
 Option.some.injEq and_true true_and ge_iff_le Nat.le_refl Nat.zero_le Nat.not_lt_zero and_self
attribute [push_cast] wO AL y6 tX wL wM Bd
attribute [push_cast high] Int.cast_ofNat_Int
end Go.Ab

/- A program logic over the model: part 5 (a proof is built on it; nothing of the statement is said here). -/
import Derived.Test.YtfepkhlgopjaoaaGreatDoorCkCore4
set_option linter.unusedVariables false
set_option linter.unusedSimpArgs false
namespace Go.Ab
open Go Go.RowKit
theorem ze {n:Int}(h1:-9223372036854775808≤n)(h2:n≤9223372036854775807):IntKind.i64.wrap n=n:=by
 show (if (true&&decide (n % 18446744073709551616≥9223372036854775808))=true then n % 18446744073709551616 - 18446744073709551616 else n % 18446744073709551616)=n
 simp only[Bool.true_and,decide_eq_true_eq]
 split<;>omega
theorem zf {n:Int}(h1:-2147483648≤n)(h2:n≤2147483647):IntKind.i32.wrap n=n:=by
 show (if (true&&decide (n % 4294967296≥2147483648))=true then n % 4294967296 - 4294967296 else n % 4294967296)=n
 simp only[Bool.true_and,decide_eq_true_eq]
 split<;>omega
theorem sZ {n:Int}(h1:0≤n)(h2:n≤255):IntKind.u8.wrap n=n:=by
 show (if (false&&decide (n % 256≥128))=true then n % 256 - 256 else n % 256)=n
 simp only[Bool.false_and]
 simp;omega
theorem zc {n:Int}(h1:0≤n)(h2:n≤18446744073709551615):IntKind.u64.wrap n=n:=by
 show (if (false&&decide (n % 18446744073709551616≥9223372036854775808))=true then n % 18446744073709551616 - 18446744073709551616 else n % 18446744073709551616)=n
 simp only[Bool.false_and]
 simp;omega
theorem zd {n:Int}(h1:0≤n)(h2:n≤4294967295):IntKind.u32.wrap n=n:=by
 show (if (false&&decide (n % 4294967296≥2147483648))=true then n % 4294967296 - 4294967296 else n % 4294967296)=n
 simp only[Bool.false_and]
 simp;omega
theorem Mp {a b:Int}(h:a<b):decide (a<b)=true:=decide_eq_true h
theorem Mq {a b:Int}(h:¬ a<b):decide (a<b)=false:=decide_eq_false h
theorem Mr {a b:Int}(h:a≤b):decide (a≤b)=true:=decide_eq_true h
theorem Ms {a b:Int}(h:¬ a≤b):decide (a≤b)=false:=decide_eq_false h
theorem Mt {a b:Int}(h:a=b):decide (a=b)=true:=decide_eq_true h
theorem Mu {a b:Int}(h:¬ a=b):decide (a=b)=false:=decide_eq_false h
def Chk (b:Bool):Prop:=b=true
theorem GF:Chk true:=_root_.id rfl
theorem v7 (i k:Nat)(x:AV)(r:List (Nat×AV)):look i ((k,x)::r)=if k=i then x else look i r:=_root_.id rfl
theorem BL (i:Nat):look i [] = .any:=_root_.id rfl
theorem re (i k:Nat)(x:Blk)(r:List (Nat×Blk)):lookB i ((k,x)::r)=if k=i then x else lookB i r:=_root_.id rfl
theorem v8 (i:Nat):lookB i [] = .none:=_root_.id rfl
def evE (e:List (Nat×AV)):AX→AV
 | .t i=>look i e
 | .c p=>.pv p
 | .m i tb=>HZ tb (look i e)
theorem Mn (e:List (Nat×AV))(i:Nat)(tb:List (Nat×Nat)):evE e (.m i tb)=HZ tb (look i e):=_root_.id rfl
theorem q8 (tb:List (Nat×Nat))(T:Nat)(p:PV):HZ tb (.pv (.iface T p))=vY p (gH T tb):=_root_.id rfl
theorem rc (t a b:Nat)(r:List (Nat×Nat)):gH t ((a,b)::r)=if a=t then some b else gH t r:=_root_.id rfl
theorem q9 (p:PV)(f:Nat):vY p (some f) = .clo f [.pv p] []:=_root_.id rfl
theorem Mm (e:List (Nat×AV))(i:Nat):evE e (.t i)=look i e:=_root_.id rfl
theorem Mo (e:List (Nat×AV))(p:PV):evE e (.c p) = .pv p:=_root_.id rfl
def evO (e:List (Nat×AV)):Option AX→Option AV
 | some x=>some (evE e x)
 | none=>none
theorem Cp (e:List (Nat×AV))(x:AX):evO e (some x)=some (evE e x):=_root_.id rfl
theorem Cq (e:List (Nat×AV)):evO e none=none:=_root_.id rfl
def evL (e:List (Nat×AV)):List AX→List AV
 | []=>[]
 | x::r=>evE e x::evL e r
theorem Gu (e:List (Nat×AV)):evL e []=[]:=_root_.id rfl
theorem Cs (e:List (Nat×AV))(x:AX)(r:List AX):evL e (x::r)=evE e x::evL e r:=_root_.id rfl
theorem fQ (e:List (Nat×AV))(σ:List (Nat×Blk))(n:Nat)(x:AX):x.ev (St.E ⟨e,σ,n⟩)=evE e x:=by cases x<;>rfl
theorem xb (e:List (Nat×AV))(σ:List (Nat×Blk))(n:Nat):∀ (l:List AX),l.map (·.ev (St.E ⟨e,σ,n⟩))=evL e l
 | []=>rfl
 | x::r=>by rw[List.map_cons,xb e σ n r,fQ];rfl
def evP (e:List (Nat×AV)):List (Nat×Nat×AX)→List (Nat×Nat×AV)
 | []=>[]
 | (a,b,x)::r=>(a,b,evE e x)::evP e r
theorem Gt (e:List (Nat×AV)):evP e []=[]:=_root_.id rfl
theorem Co (e:List (Nat×AV))(a b:Nat)(x:AX)(r:List (Nat×Nat×AX)):evP e ((a,b,x)::r)=(a,b,evE e x)::evP e r:=_root_.id rfl
def dP (e:List (Nat×AV)):TOp→Option AV
 | .mv x=>some (evE e x)
 | .pick c a b=>my (evE e c) (evE e a) (evE e b)
 | .build zs ps=>(en (zs.map .pv) (evP e ps)).map fL
 | .faddr off x=>fw off (evE e x)
 | .field g sz off x=>gz g sz off (evE e x)
 | .iaddr sz x i=>eD sz (evE e x) (evE e i)
 | .iaddrA n sz x i=>e5 n sz (evE e x) (evE e i)
 | .index x i=>eC (evE e x) (evE e i)
 | .indexA g n sz x i=>dt g n sz (evE e x) (evE e i)
 | .len st x=>yU st (evE e x)
 | .lenC n=>some (.pv (.int .i64 n))
 | .imin x y=>Fj (evE e x) (evE e y)
 | .imax x y=>Fk (evE e x) (evE e y)
 | .sliceL sz x lo hi=>bK sz (evE e x) (evO e lo) (evO e hi)
 | .sliceS x lo hi=>ec (evE e x) (evO e lo) (evO e hi)
 | .bin op x y=>bZ op (evE e x) (evE e y)
 | .beq kd ng x y=>(mK kd (evE e x) (evE e y)).map fun b=>.pv (.bool (if ng then !b else b))
 | .neg x=>HY (evE e x)
 | .not x=>HX (evE e x)
 | .compl x=>kv (evE e x)
 | .conv k x=>qm k (evE e x)
 | .convS x=>iC (evE e x)
 | .convIS x=>e6 (evE e x)
 | .beqS ng ks x y=>(mJ ks (evE e x) (evE e y)).map fun b=>.pv (.bool (if ng then !b else b))
 | .clo f fs cs=>some (mZ f (evL e fs) (evL e cs))
 | .ext x i=>Fo i (evE e x)
 | .nilck x=>yS (evE e x)
theorem Cr (e:List (Nat×AV)):∀ (l:List AX),l.map (fun x=>evE e x)=evL e l
 | []=>rfl
 | x::r=>by rw[List.map_cons,Cr e r];rfl
theorem Jv (e:List (Nat×AV))(l:Option AX):l.map (fun x=>evE e x)=evO e l:=by cases l<;>rfl
theorem Ju (e:List (Nat×AV)):∀ (l:List (Nat×Nat×AX)),(l.map fun p=>(p.1,p.2.1,evE e p.2.2))=evP e l
 | []=>rfl
 | (a,b,x)::r=>by rw[List.map_cons,Ju e r];rfl
theorem tx (e:List (Nat×AV))(σ:List (Nat×Blk))(n:Nat)(o:TOp):o.run (St.E ⟨e,σ,n⟩)=dP e o:=by
 cases o<;>simp only[TOp.run,dP,fQ,Cr,Jv,Ju]
theorem Et (e:List (Nat×AV))(x:AX):dP e (.mv x)=some (evE e x):=_root_.id rfl
theorem tr (e:List (Nat×AV))(c a b:AX):dP e (.pick c a b)=my (evE e c) (evE e a) (evE e b):=_root_.id rfl
theorem pK (e:List (Nat×AV))(zs:List PV)(ps:List (Nat×Nat×AX)):dP e (.build zs ps)=(en (zs.map .pv) (evP e ps)).map fL:=_root_.id rfl
theorem pH (e:List (Nat×AV))(off:Nat)(x:AX):dP e (.faddr off x)=fw off (evE e x):=_root_.id rfl
theorem pG (e:List (Nat×AV))(g:Bool)(sz off:Nat)(x:AX):dP e (.field g sz off x)=gz g sz off (evE e x):=_root_.id rfl
theorem pF (e:List (Nat×AV))(sz:Nat)(x i:AX):dP e (.iaddr sz x i)=eD sz (evE e x) (evE e i):=_root_.id rfl
theorem me (e:List (Nat×AV))(n sz:Nat)(x i:AX):dP e (.iaddrA n sz x i)=e5 n sz (evE e x) (evE e i):=_root_.id rfl
theorem pE (e:List (Nat×AV))(x i:AX):dP e (.index x i)=eC (evE e x) (evE e i):=_root_.id rfl
theorem mc (e:List (Nat×AV))(g:Bool)(n sz:Nat)(x i:AX):dP e (.indexA g n sz x i)=dt g n sz (evE e x) (evE e i):=_root_.id rfl
theorem zW (e:List (Nat×AV))(st:Bool)(x:AX):dP e (.len st x)=yU st (evE e x):=_root_.id rfl
theorem tt (e:List (Nat×AV))(n:Nat):dP e (.lenC n)=some (.pv (.int .i64 n)):=_root_.id rfl
theorem tv (e:List (Nat×AV))(x y:AX):dP e (.imin x y)=Fj (evE e x) (evE e y):=_root_.id rfl
theorem tw (e:List (Nat×AV))(x y:AX):dP e (.imax x y)=Fk (evE e x) (evE e y):=_root_.id rfl
theorem mb (e:List (Nat×AV))(sz:Nat)(x:AX)(lo hi:Option AX):dP e (.sliceL sz x lo hi)=bK sz (evE e x) (evO e lo) (evO e hi):=_root_.id rfl
theorem ma (e:List (Nat×AV))(x:AX)(lo hi:Option AX):dP e (.sliceS x lo hi)=ec (evE e x) (evO e lo) (evO e hi):=_root_.id rfl
theorem z1 (e:List (Nat×AV))(op:BinOp)(x y:AX):dP e (.bin op x y)=bZ op (evE e x) (evE e y):=_root_.id rfl
def uV (ng:Bool):Option Bool→Option AV
 | some b=>some (.pv (.bool (if ng then !b else b)))
 | none=>none
theorem z6 (e:List (Nat×AV))(kd:Nat)(ng:Bool)(x y:AX):dP e (.beq kd ng x y)=uV ng (mK kd (evE e x) (evE e y)):=by
 simp only[dP];cases mK kd (evE e x) (evE e y)<;>rfl
theorem Fr (b:Bool):uV true (some b)=some (.pv (.bool (!b))):=_root_.id rfl
theorem Fs (b:Bool):uV false (some b)=some (.pv (.bool b)):=_root_.id rfl
theorem zU (e:List (Nat×AV))(x:AX):dP e (.neg x)=HY (evE e x):=_root_.id rfl
theorem zP (e:List (Nat×AV))(x:AX):dP e (.not x)=HX (evE e x):=_root_.id rfl
theorem pJ (e:List (Nat×AV))(x:AX):dP e (.compl x)=kv (evE e x):=_root_.id rfl
theorem tz (e:List (Nat×AV))(k:IntKind)(x:AX):dP e (.conv k x)=qm k (evE e x):=_root_.id rfl
theorem tA (e:List (Nat×AV))(ng:Bool)(ks:List Nat)(x y:AX):dP e (.beqS ng ks x y)=uV ng (mJ ks (evE e x) (evE e y)):=by
 simp only[dP];cases mJ ks (evE e x) (evE e y)<;>rfl
theorem uU (ks:List Nat)(ps qs:List PV):mJ ks (.pv (.agg ps)) (.pv (.agg qs))=lk ks ps qs:=_root_.id rfl
theorem Cv:lk [] [] []=some true:=_root_.id rfl
theorem xd (l:List Nat)(a b:Bool)(r s:List PV):lk (0::l) (.bool a::r) (.bool b::s)=D0 (some (a == b)) (lk l r s):=_root_.id rfl
theorem Cw (l:List Nat)(k:IntKind)(a b:Int)(r s:List PV):lk (1::l) (.int k a::r) (.int k b::s)=D0 (some (decide (a=b))) (lk l r s):=by
 simp only[lk,H0,if_true];congr 2
theorem Cu (l:List Nat)(a b:List UInt8)(r s:List PV):lk (2::l) (.str a::r) (.str b::s)=D0 (some (a == b)) (lk l r s):=_root_.id rfl
theorem yo (a b:Bool):D0 (some a) (some b)=some (a&&b):=_root_.id rfl
theorem mf (e:List (Nat×AV))(x:AX):dP e (.convIS x)=e6 (evE e x):=_root_.id rfl
theorem mF (k:IntKind)(n:Int):e6 (.pv (.int k n))=some (.pv (.str (Utf8.encode n).data.toList)):=_root_.id rfl
theorem pI (e:List (Nat×AV))(x:AX):dP e (.convS x)=iC (evE e x):=_root_.id rfl
theorem zZ (e:List (Nat×AV))(f:Nat)(fs cs:List AX):dP e (.clo f fs cs)=some (mZ f (evL e fs) (evL e cs)):=_root_.id rfl
theorem zY (e:List (Nat×AV))(x:AX)(i:Nat):dP e (.ext x i)=Fo i (evE e x):=_root_.id rfl
theorem pD (e:List (Nat×AV))(x:AX):dP e (.nilck x)=yS (evE e x):=_root_.id rfl
theorem Ff (x y:AV):my (.pv (.bool true)) x y=some x:=_root_.id rfl
theorem Fg (x y:AV):my (.pv (.bool false)) x y=some y:=_root_.id rfl
theorem qj (off r o:Nat):fw off (.ptr r o)=some (.ptr r (o+off)):=_root_.id rfl
theorem mE (off:Nat)(l:List PV)(i o:Nat):fw off (.pv (.eptr l i o))=some (.pv (.eptr l i (o+off))):=_root_.id rfl
theorem mD (off g o:Nat):fw off (.pv (.gptr g o))=some (.pv (.gptr g (o+off))):=_root_.id rfl
theorem uE (g:Bool)(sz off:Nat)(ps:List PV):gz g sz off (.pv (.agg ps))=bM g sz off (ps.map .pv):=_root_.id rfl
theorem uF (g:Bool)(sz off:Nat)(ps:List AV):gz g sz off (.agg ps)=bM g sz off ps:=_root_.id rfl
def IW (sz off:Nat)(cs:List AV):Option AV:=if off+sz≤cs.length then some (fL ((cs.drop off).take sz)) else none
theorem Fv (sz off:Nat)(cs:List AV):bM true sz off cs=IW sz off cs:=_root_.id rfl
theorem Fw (sz off:Nat)(cs:List AV):bM false sz off cs=cs[off]?:=_root_.id rfl
def kz (sz:Nat)(l:List PV)(i:Nat):Option PV→Option AV
 | some y=>if y.cells.length=sz then some (.pv (.eptr l i 0)) else none
 | none=>none
theorem kr (sz:Nat)(l:List PV)(i:Nat):ii sz l (i:Int)=kz sz l i l[i]?:=by
 unfold ii kz
 rw[if_pos (by omega)]
 simp only[Int.toNat_natCast]
 cases l[i]? <;> rfl
theorem br (sz:Nat)(l:List PV):ii sz l 0=kz sz l 0 l[0]?:=_root_.id rfl
theorem qk (sz:Nat)(l:List PV)(i:Nat):ii sz l ((i:Int)+1)=kz sz l (i+1) l[i+1]?:=kr sz l (i+1)
theorem mC (sz:Nat)(l:List PV)(k:IntKind)(n:Int):eD sz (.pv (.list l)) (.pv (.int k n))=ii sz l n:=_root_.id rfl
theorem ko (sz r s:Nat)(l:List PV)(k:IntKind)(n:Int):eD sz (.olist r s l) (.pv (.int k n))=ii sz l n:=_root_.id rfl
theorem p9 (sz r off len:Nat)(k:IntKind){n:Int}(h:0≤n)(h':n.toNat<len):eD sz (.row r sz off len) (.pv (.int k n))=some (.ptr r (off+n.toNat*sz)):=by
 simp[eD,h,h']
theorem AF (l:List UInt8):yU true (.pv (.str l))=some (.pv (.int .i64 l.length)):=_root_.id rfl
theorem uB (l:List PV):yU false (.pv (.list l))=some (.pv (.int .i64 l.length)):=_root_.id rfl
theorem uA:yU false (.pv .nils)=some (.pv (.int .i64 0)):=_root_.id rfl
theorem p8 (r s:Nat)(l:List PV):yU false (.olist r s l)=some (.pv (.int .i64 l.length)):=_root_.id rfl
theorem AG (r s o n:Nat):yU false (.row r s o n)=some (.pv (.int .i64 n)):=_root_.id rfl
theorem mG {d top:Nat}{k:IntKind}{n:Int}(h0:0≤n)(h1:n≤top):aM d top (some (.pv (.int k n)))=some n.toNat:=by
 simp[aM,h0,h1]
theorem mH {d top:Nat}:aM d top none=some d:=_root_.id rfl
def Mv {α:Type}(l:List α)(f:List α→AV):Option Nat→Option Nat→Option AV
 | some h,some a=>some (f ((l.take h).drop a))
 | _,_=>none
theorem xB {α:Type}(l:List α)(f:List α→AV)(h a:Nat):Mv l f (some h) (some a)=some (f ((l.take h).drop a)):=_root_.id rfl
def MH (l:Nat)(lo:Option AV):Option Nat→Option Nat
 | some h=>aM 0 h lo
 | none=>none
theorem yb (l:Nat)(lo:Option AV)(h:Nat):MH l lo (some h)=aM 0 h lo:=_root_.id rfl
theorem mx (l:List UInt8)(lo hi:Option AV):ec (.pv (.str l)) lo hi=Mv l (fun x=>.pv (.str x)) (aM l.length l.length hi) (MH l.length lo (aM l.length l.length hi)):=by
 unfold ec Mv MH
 simp only
 split<;>rename_i h
 ·rw[h];simp only;cases aM 0 _ lo<;>rfl
 ·rw[h]
theorem AZ (k:IntKind)(a b:Int):bZ .add (.pv (.int k a)) (.pv (.int k b))=some (.pv (.int k (k.wrap (a+b)))):=by simp[bZ,jT]
theorem AL (k:IntKind)(a b:Int):bZ .sub (.pv (.int k a)) (.pv (.int k b))=some (.pv (.int k (k.wrap (a - b)))):=by simp[bZ,jT]
theorem AP (k:IntKind)(a b:Int):bZ .mul (.pv (.int k a)) (.pv (.int k b))=some (.pv (.int k (k.wrap (a*b)))):=by simp[bZ,jT]
theorem AN {k:IntKind}{a b:Int}(h:¬ b=0):bZ .quo (.pv (.int k a)) (.pv (.int k b))=some (.pv (.int k (k.wrap (a.tdiv b)))):=by simp[bZ,jT,h]
theorem AM {k:IntKind}{a b:Int}(h:¬ b=0):bZ .rem (.pv (.int k a)) (.pv (.int k b))=some (.pv (.int k (a.tmod b))):=by simp[bZ,jT,h]
theorem AY (k:IntKind)(a b:Int):bZ .and (.pv (.int k a)) (.pv (.int k b))=some (.pv (.int k (bits .and k a b))):=by simp[bZ,jT]
theorem Fq (k:IntKind)(a b:Int):bZ .or (.pv (.int k a)) (.pv (.int k b))=some (.pv (.int k (bits .or k a b))):=by simp[bZ,jT]
theorem AK (k:IntKind)(a b:Int):bZ .xor (.pv (.int k a)) (.pv (.int k b))=some (.pv (.int k (bits .xor k a b))):=by simp[bZ,jT]
theorem mI (k:IntKind)(a b:Int):bZ .andNot (.pv (.int k a)) (.pv (.int k b))=some (.pv (.int k (bits .andNot k a b))):=by simp[bZ,jT]
theorem AW (k:IntKind)(a b:Int):bZ .eql (.pv (.int k a)) (.pv (.int k b))=some (.pv (.bool (decide (a=b)))):=by simp[bZ,jT];rfl
theorem AO (k:IntKind)(a b:Int):bZ .neq (.pv (.int k a)) (.pv (.int k b))=some (.pv (.bool (!decide (a=b)))):=by simp[bZ,jT];rfl
theorem AQ (k:IntKind)(a b:Int):bZ .lss (.pv (.int k a)) (.pv (.int k b))=some (.pv (.bool (decide (a<b)))):=by simp[bZ,jT]
theorem AR (k:IntKind)(a b:Int):bZ .leq (.pv (.int k a)) (.pv (.int k b))=some (.pv (.bool (decide (a≤b)))):=by simp[bZ,jT]
theorem AS (k:IntKind)(a b:Int):bZ .gtr (.pv (.int k a)) (.pv (.int k b))=some (.pv (.bool (decide (b<a)))):=by simp[bZ,jT]
theorem AU (k:IntKind)(a b:Int):bZ .geq (.pv (.int k a)) (.pv (.int k b))=some (.pv (.bool (decide (b≤a)))):=by simp[bZ,jT]
theorem uO {a b:List UInt8}(h:a.length+b.length≤9223372036854775807):bZ .add (.pv (.str a)) (.pv (.str b))=some (.pv (.str (a++b))):=by
 have:a.length+b.length≤maxLen:=by unfold maxLen;omega
 simp[bZ,HW,this]
theorem uN (a b:List UInt8):bZ .eql (.pv (.str a)) (.pv (.str b))=some (.pv (.bool (decide (a=b)))):=by
 simp[bZ,HW];rw[Bool.eq_iff_iff];simp
theorem uI (a b:List UInt8):bZ .neq (.pv (.str a)) (.pv (.str b))=some (.pv (.bool (!decide (a=b)))):=by
 simp[bZ,HW];rw[Bool.eq_iff_iff];simp
theorem uJ (a b:List UInt8):bZ .lss (.pv (.str a)) (.pv (.str b))=some (.pv (.bool (bj a b))):=_root_.id rfl
theorem uK (a b:List UInt8):bZ .leq (.pv (.str a)) (.pv (.str b))=some (.pv (.bool (bj a b||a == b))):=_root_.id rfl
theorem uL (a b:List UInt8):bZ .gtr (.pv (.str a)) (.pv (.str b))=some (.pv (.bool (!(bj a b||a == b)))):=_root_.id rfl
theorem uM (a b:List UInt8):bZ .geq (.pv (.str a)) (.pv (.str b))=some (.pv (.bool (!(bj a b)))):=_root_.id rfl
theorem uT (a b:Bool):mK 0 (.pv (.bool a)) (.pv (.bool b))=some (a == b):=_root_.id rfl
theorem A1 (r o:Nat):mK 1 (.ptr r o) (.pv .nilp)=some false:=_root_.id rfl
theorem uR (l:List PV)(i o:Nat):mK 1 (.pv (.eptr l i o)) (.pv .nilp)=some false:=_root_.id rfl
theorem uQ:mK 1 (.pv .nilp) (.pv .nilp)=some true:=_root_.id rfl
theorem uS (x:PV)(l:List PV):mK 2 (.pv (.list (x::l))) (.pv .nils)=some false:=_root_.id rfl
theorem qo (r s:Nat)(x:PV)(l:List PV):mK 2 (.olist r s (x::l)) (.pv .nils)=some false:=_root_.id rfl
theorem A0 {r s o n:Nat}(h:0<n):mK 2 (.row r s o n) (.pv .nils)=some false:=by
 cases n with
 | zero=>exact absurd h (Nat.lt_irrefl _)
 | succ n=>rfl
theorem uP:mK 2 (.pv .nils) (.pv .nils)=some true:=_root_.id rfl
theorem AC (k:IntKind)(n:Int):HY (.pv (.int k n))=some (.pv (.int k (k.wrap (0 - n)))):=_root_.id rfl
theorem uo (b:Bool):HX (.pv (.bool b))=some (.pv (.bool (!b))):=_root_.id rfl
theorem uH (k k':IntKind)(n:Int):qm k (.pv (.int k' n))=some (.pv (.int k (k.wrap n))):=_root_.id rfl
theorem ql (s:List UInt8):iC (.pv (.str s))=some (.pv (.str s)):=_root_.id rfl
theorem AA (r o:Nat):yS (.ptr r o)=some (.ptr r o):=_root_.id rfl
theorem ut (l:List PV)(i o:Nat):yS (.pv (.eptr l i o))=some (.pv (.eptr l i o)):=_root_.id rfl
theorem ur (g o:Nat):yS (.pv (.gptr g o))=some (.pv (.gptr g o)):=_root_.id rfl
theorem uq (f:Nat)(a b:List PV):yS (.pv (.clo f a b))=some (.pv (.clo f a b)):=_root_.id rfl
theorem AB (f:Nat)(a b:List AV):yS (.clo f a b)=some (.clo f a b):=_root_.id rfl
theorem Fl (i:Nat)(ps:List PV):Fo i (.pv (.tup ps))=(ps[i]?).map .pv:=_root_.id rfl
theorem Fm (i:Nat)(ps:List AV):Fo i (.tup ps)=ps[i]?:=_root_.id rfl
theorem vA {α β:Type}(f:α→β)(a:α):(some a).map f=some (f a):=_root_.id rfl
theorem qT:[].map AV.pv=[]:=_root_.id rfl
theorem m6 (x:PV)(r:List PV):(x::r).map AV.pv = .pv x::r.map AV.pv:=_root_.id rfl
theorem ND {α:Type}(x:α)(r:List α):(x::r)[0]? = some x:=_root_.id rfl
theorem NC {α:Type}(x:α)(r:List α)(n:Nat):(x::r)[n+1]? = r[n]?:=_root_.id rfl
theorem Ft:pvs []=some []:=_root_.id rfl
def Ll:Option PV→Option (List PV)→Option (List PV)
 | some p,some ps=>some (p::ps)
 | _,_=>none
theorem uZ (p:PV)(ps:List PV):Ll (some p) (some ps)=some (p::ps):=_root_.id rfl
theorem u6 (x:Option (List PV)):Ll none x=none:=_root_.id rfl
theorem qu (x:Option PV):Ll x none=none:=by cases x<;>rfl
theorem ot (x:AV)(r:List AV):pvs (x::r)=Ll x.toPV (pvs r):=by
 show (match x.toPV,pvs r with | some p,some ps=>some (p::ps) | _,_=>none)=_
 cases x.toPV<;>cases pvs r<;>rfl
theorem uY:∀ (ps:List PV),pvs (ps.map .pv)=some ps
 | []=>rfl
 | x::r=>by rw[List.map_cons,ot,uY r];rfl
theorem Ep (p:PV):(AV.pv p).toPV=some p:=_root_.id rfl
theorem py (r s:Nat)(l:List PV):(AV.olist r s l).toPV=some (.list l):=_root_.id rfl
theorem zG (r o:Nat):(AV.ptr r o).toPV=none:=_root_.id rfl
theorem zF (r s o n:Nat):(AV.row r s o n).toPV=none:=_root_.id rfl
theorem zI (cs:List AV):(AV.agg cs).toPV=none:=_root_.id rfl
theorem zE (cs:List AV):(AV.tup cs).toPV=none:=_root_.id rfl
theorem zH (f:Nat)(a b:List AV):(AV.clo f a b).toPV=none:=_root_.id rfl
def vQ (cs:List AV):Option (List PV)→AV
 | some ps=>.pv (.agg ps)
 | none=>.agg cs
theorem FS (cs:List AV):fL cs=vQ cs (pvs cs):=by unfold fL;cases pvs cs<;>rfl
theorem m4 (cs:List AV)(ps:List PV):vQ cs (some ps) = .pv (.agg ps):=_root_.id rfl
theorem m5 (cs:List AV):vQ cs none = .agg cs:=_root_.id rfl
def vO (cs:List AV):Option (List PV)→AV
 | some ps=>.pv (.tup ps)
 | none=>.tup cs
theorem FP (cs:List AV):kJ cs=vO cs (pvs cs):=by unfold kJ;cases pvs cs<;>rfl
theorem mV (cs:List AV)(ps:List PV):vO cs (some ps) = .pv (.tup ps):=_root_.id rfl
theorem mW (cs:List AV):vO cs none = .tup cs:=_root_.id rfl
def kL (f:Nat)(fs cs:List AV):Option (List PV)→Option (List PV)→AV
 | some a,some b=>.pv (.clo f a b)
 | _,_=>.clo f fs cs
theorem FQ (f:Nat)(fs cs:List AV):mZ f fs cs=kL f fs cs (pvs fs) (pvs cs):=by unfold mZ kL;cases pvs fs<;>cases pvs cs<;>rfl
theorem mX (f:Nat)(fs cs:List AV)(a b:List PV):kL f fs cs (some a) (some b) = .pv (.clo f a b):=_root_.id rfl
theorem mY (f:Nat)(fs cs:List AV)(a:Option (List PV)):kL f fs cs a none = .clo f fs cs:=by cases a<;>rfl
theorem kK (f:Nat)(fs cs:List AV)(a:Option (List PV)):kL f fs cs none a = .clo f fs cs:=by cases a<;>rfl
theorem xS (p:PV):(AV.pv p).cells=p.cells.map .pv:=_root_.id rfl
theorem sk (cs:List AV):(AV.agg cs).cells=cs:=_root_.id rfl
theorem se (cs:List AV):(AV.tup cs).cells=[.tup cs]:=_root_.id rfl
theorem sg (r o:Nat):(AV.ptr r o).cells=[.ptr r o]:=_root_.id rfl
theorem sf (r s o n:Nat):(AV.row r s o n).cells=[.row r s o n]:=_root_.id rfl
theorem lC (r s:Nat)(l:List PV):(AV.olist r s l).cells=[.olist r s l]:=_root_.id rfl
theorem sh (f:Nat)(a b:List AV):(AV.clo f a b).cells=[.clo f a b]:=_root_.id rfl
theorem ae (cs:List PV):(PV.agg cs).cells=cs:=_root_.id rfl
theorem sd (b:Bool):(PV.bool b).cells=[.bool b]:=_root_.id rfl
theorem xQ (k:IntKind)(n:Int):(PV.int k n).cells=[.int k n]:=_root_.id rfl
theorem xO (s:List UInt8):(PV.str s).cells=[.str s]:=_root_.id rfl
theorem r4:PV.nils.cells=[.nils]:=_root_.id rfl
theorem r7 (l:List PV):(PV.list l).cells=[.list l]:=_root_.id rfl
theorem r5:PV.nilp.cells=[.nilp]:=_root_.id rfl
theorem r6:PV.nilf.cells=[.nilf]:=_root_.id rfl
theorem xR (f:Nat)(a b:List PV):(PV.clo f a b).cells=[.clo f a b]:=_root_.id rfl
theorem r9 (l:List PV)(i o:Nat):(PV.eptr l i o).cells=[.eptr l i o]:=_root_.id rfl
theorem r8 (g o:Nat):(PV.gptr g o).cells=[.gptr g o]:=_root_.id rfl
def F0 (g:Bool)(sz o:Nat):Blk→Option AV
 | .cells _ _ l=>bM g sz o l
 | _=>none
theorem nq (g:Bool)(sz o T:Nat)(f:Bool)(l:List AV):F0 g sz o (.cells T f l)=bM g sz o l:=_root_.id rfl
def FW (g:Bool)(sz o:Nat):Option PV→Option AV
 | some e=>io g sz o e
 | none=>none
theorem rg (g:Bool)(sz o:Nat)(e:PV):FW g sz o (some e)=io g sz o e:=_root_.id rfl
theorem uz (G:Nat→List PV)(g:Bool)(sz:Nat)(σ:ap)(r o:Nat):cE G g sz σ (.ptr r o)=F0 g sz o (σ r):=by
 simp only[cE,F0];cases σ r<;>rfl
theorem p7 (G:Nat→List PV)(g:Bool)(sz:Nat)(σ:ap)(l:List PV)(i o:Nat):cE G g sz σ (.pv (.eptr l i o))=FW g sz o l[i]?:=by
 simp only[cE,FW];cases l[i]? <;> rfl
theorem p6 (G:Nat→List PV)(g:Bool)(sz:Nat)(σ:ap)(b o:Nat):cE G g sz σ (.pv (.gptr b o))=bM g sz o ((G b).map .pv):=_root_.id rfl
theorem FZ (sz o:Nat)(e:PV):io false sz o e=bM false sz o (e.cells.map .pv):=by simp[io]
theorem FY {sz o:Nat}{cs:List PV}(h:0<o):io true sz o (.agg cs)=bM true sz o (cs.map .pv):=by
 simp[io,PV.cells];omega
def eV (e:List (Nat×AV))(σ:List (Nat×Blk))(new:Nat):XOp→Option (AV×List (Nat×Blk))
 | .cap sz x=>(AJ sz (fun r=>lookB r σ) (evE e x)).map fun v=>(v,[])
 | .resl sz x h=>(jl sz (fun r=>lookB r σ) (evE e x) (evE e h)).map fun v=>(v,[])
 | .copy sz x y=>ku sz (fun r=>lookB r σ) (evE e x) (evE e y)
 | .apart x y=>(eF (fun r=>lookB r σ) (evE e x) (evE e y)).map fun v=>(v,[])
 | .appz t sz by_ zs x k=>kw t sz by_ zs new (fun r=>lookB r σ) (evE e x) (evE e k)
 | .noesc x=>some (evE e x,[])
 | .ucast u n b x=>(dr u n b (fun r=>lookB r σ) (evE e x)).map fun v=>(v,[])
 | .peq ng x y=>(Fh ng (evE e x) (evE e y)).map fun v=>(v,[])
 | .anyc=>some (.any,[])
 | .apps t by_ x y=>ij t by_ new (fun r=>lookB r σ) (evE e x) (evE e y)
 | .sdata x=>(eB (evE e x)).map fun v=>(v,[])
 | .ustr t x k=>ki t (fun r=>lookB r σ) (evE e x) (evE e k)
 | .ofStr x=>dW new (evE e x)
 | .fnil ng x y=>(kq ng (evE e x) (evE e y)).map fun v=>(v,[])
 | .inil ng x y=>(AH ng (evE e x) (evE e y)).map fun v=>(v,[])
 | .idxb x y=>(mB (evE e x) (evE e y)).map fun v=>(v,[])
 | .mki T x=>(Lk T (evE e x)).map fun v=>(v,[])
 | .mkmap=>some (.mp new,[(new,.mp [])])
 | .mlook kd co z x k=>(uw kd co z (fun r=>lookB r σ) (evE e x) (evE e k)).map fun v=>(v,[])
 | .mset kd x k v=>(uu kd (fun r=>lookB r σ) (evE e x) (evE e k) (evE e v)).map fun d=>(.pv .undef,d)
 | .bslf sz len xs=>Fp sz len (evL e xs)
 | .same x=>ul (fun r=>lookB r σ) (evE e x)
theorem D7 (e:List (Nat×AV))(σ:List (Nat×Blk))(n new:Nat)(o:XOp):o.run new (St.E ⟨e,σ,n⟩) (St.σ ⟨e,σ,n⟩)=eV e σ new o:=by
 cases o<;>simp only[XOp.run,eV,fQ,Cr]<;>rfl
def il (G:Nat→List PV)(e:List (Nat×AV))(σ:List (Nat×Blk))(new:Nat):MOp→Option (AV×List (Nat×Blk))
 | .alloc T zs=>some (.ptr new 0,[(new,.cells T true (zs.map .pv))])
 | .box T x=>if (evE e x).known=true then some (.ptr new 0,[(new,.cells T true (evE e x).cells)]) else none
 | .cbox T x=>match (evE e x).toPV with
   | some p=>if p.cells.all PV.one=true then some (.pv (.eptr [p] 0 0),[(new,.none)]) else none
   | none=>none
 | .load g sz x=>(cE G g sz (fun r=>lookB r σ) (evE e x)).map fun v=>(v,[])
 | .store sz x v=>(eA sz (fun r=>lookB r σ) (evE e x) (evE e v)).map fun d=>(.pv .undef,d)
 | .clear sz zs x=>(eE sz zs (fun r=>lookB r σ) (evE e x)).map fun d=>(.pv (.tup []),d)
 | .toStr x=>(dd (fun r=>lookB r σ) (evE e x)).map fun v=>(v,[])
 | .xop o=>eV e σ new o
 | .bslice mu t sz len xs=>bL mu t sz len new (evL e xs)
 | .append mu t sz by_ x y=>cf mu t sz by_ new (fun r=>lookB r σ) (evE e x) (evE e y)
 | .mk mu t sz by_ zs x y=>rMk mu t sz by_ zs new (evE e x) (evE e y)
 | .sliceA n sz x lo hi=>match evE e x with
   | .ptr r o=>match lookB r σ with
     | .cells _ f l=>if f=true∧o+n*sz≤l.length∧(o=0→n*sz=l.length)∧n≤9223372036854775807 then (bK sz (.row r sz o n) (evO e lo) (evO e hi)).map fun v=>(v,[]) else none
     | _=>none
   | _=>none
theorem vU (G:Nat→List PV)(e:List (Nat×AV))(σ:List (Nat×Blk))(n new:Nat)(o:MOp):o.run G new (St.E ⟨e,σ,n⟩) (St.σ ⟨e,σ,n⟩)=il G e σ new o:=by
 cases o<;>first | (simp only[MOp.run,il,fQ,Cr,Jv]<;>rfl) | exact D7 e σ n new _
def cx (δ:List (Nat×Blk)):Option AV→Option (AV×List (Nat×Blk))
 | some v=>some (v,δ)
 | none=>none
theorem pq (δ:List (Nat×Blk))(v:AV):cx δ (some v)=some (v,δ):=_root_.id rfl
def zj (v:AV):Option (List (Nat×Blk))→Option (AV×List (Nat×Blk))
 | some δ=>some (v,δ)
 | none=>none
theorem pp (δ:List (Nat×Blk))(v:AV):zj v (some δ)=some (v,δ):=_root_.id rfl
theorem qZ (G:Nat→List PV)(e:List (Nat×AV))(σ:List (Nat×Blk))(new T:Nat)(zs:List PV):il G e σ new (.alloc T zs)=some (.ptr new 0,[(new,.cells T true (zs.map .pv))]):=_root_.id rfl
def Nu (new T:Nat)(v:AV):Bool→Option (AV×List (Nat×Blk))
 | true=>some (.ptr new 0,[(new,.cells T true v.cells)])
 | false=>none
theorem J9 (new T:Nat)(v:AV):Nu new T v true=some (.ptr new 0,[(new,.cells T true v.cells)]):=_root_.id rfl
theorem BI (G:Nat→List PV)(e:List (Nat×AV))(σ:List (Nat×Blk))(new T:Nat)(x:AX):il G e σ new (.box T x)=Nu new T (evE e x) (evE e x).known:=by
 simp only[il];cases (evE e x).known<;>rfl
def GJ (new:Nat):Option PV→Option (AV×List (Nat×Blk))
 | some p=>if p.cells.all PV.one=true then some (.pv (.eptr [p] 0 0),[(new,.none)]) else none
 | none=>none
theorem sl (new:Nat)(p:PV):GJ new (some p)=if p.cells.all PV.one=true then some (.pv (.eptr [p] 0 0),[(new,.none)]) else none:=_root_.id rfl
theorem vV (G:Nat→List PV)(e:List (Nat×AV))(σ:List (Nat×Blk))(new T:Nat)(x:AX):il G e σ new (.cbox T x)=GJ new (evE e x).toPV:=by
 simp only[il,GJ]
theorem BR (p:PV):(AV.pv p).known=true:=_root_.id rfl
theorem wl (cs:List AV):(AV.agg cs).known=true:=_root_.id rfl
theorem wh (cs:List AV):(AV.tup cs).known=true:=_root_.id rfl
theorem wj (r o:Nat):(AV.ptr r o).known=true:=_root_.id rfl
theorem wi (r s o n:Nat):(AV.row r s o n).known=true:=_root_.id rfl
theorem nt (r s:Nat)(l:List PV):(AV.olist r s l).known=true:=_root_.id rfl
theorem wk (f:Nat)(a b:List AV):(AV.clo f a b).known=true:=_root_.id rfl
theorem vT (G:Nat→List PV)(e:List (Nat×AV))(σ:List (Nat×Blk))(new:Nat)(g:Bool)(sz:Nat)(x:AX):il G e σ new (.load g sz x)=cx [] (cE G g sz (fun r=>lookB r σ) (evE e x)):=by
 simp only[il];cases cE G g sz (fun r=>lookB r σ) (evE e x)<;>rfl
theorem qX (G:Nat→List PV)(e:List (Nat×AV))(σ:List (Nat×Blk))(new sz:Nat)(x v:AX):il G e σ new (.store sz x v)=zj (.pv .undef) (eA sz (fun r=>lookB r σ) (evE e x) (evE e v)):=by
 simp only[il];cases eA sz (fun r=>lookB r σ) (evE e x) (evE e v)<;>rfl
def DT (sz:Nat)(zs:List PV)(r s off len:Nat):Blk→Option (List (Nat×Blk))
 | .cells T f l=>if s=sz∧0<len∧zs.length=sz∧off+len*sz≤l.length∧zs.all PV.one=true then some [(r,.cells T f (l.take off++(List.replicate len zs).flatten.map .pv++l.drop (off+len*sz)))] else none
 | _=>none
theorem qn (sz:Nat)(zs:List PV)(σ:ap)(r s off len:Nat):eE sz zs σ (.row r s off len)=DT sz zs r s off len (σ r):=by
 simp only[eE,DT];cases σ r<;>rfl
theorem qY (G:Nat→List PV)(e:List (Nat×AV))(σ:List (Nat×Blk))(new sz:Nat)(zs:List PV)(x:AX):il G e σ new (.clear sz zs x)=zj (.pv (.tup [])) (eE sz zs (fun r=>lookB r σ) (evE e x)):=by
 simp only[il,zj];cases eE sz zs (fun r=>lookB r σ) (evE e x)<;>rfl
theorem nj (G:Nat→List PV)(e:List (Nat×AV))(σ:List (Nat×Blk))(new:Nat)(mu:Bool)(t sz len:Nat)(xs:List AX):il G e σ new (.bslice mu t sz len xs)=bL mu t sz len new (evL e xs):=_root_.id rfl
theorem nk (G:Nat→List PV)(e:List (Nat×AV))(σ:List (Nat×Blk))(new:Nat)(mu:Bool)(t sz by_:Nat)(x y:AX):il G e σ new (.append mu t sz by_ x y)=cf mu t sz by_ new (fun r=>lookB r σ) (evE e x) (evE e y):=_root_.id rfl
theorem FT (G:Nat→List PV)(e:List (Nat×AV))(σ:List (Nat×Blk))(new:Nat)(mu:Bool)(t sz by_:Nat)(zs:List PV)(x y:AX):il G e σ new (.mk mu t sz by_ zs x y)=rMk mu t sz by_ zs new (evE e x) (evE e y):=_root_.id rfl
theorem Fi {e sz by_:Nat}{zs:List PV}{new:Nat}{k k':IntKind}{c:Int}(h:0≤c)(h1:(by_:Int)*c≤281474976710656)(h2:c≤9223372036854775807):rMk false e sz by_ zs new (.pv (.int k 0)) (.pv (.int k' c))=some (.olist new sz [],[(new,.tok e sz)]):=by
 simp[rMk,h,h1,h2]
def oa (sz r o:Nat)(v:AV):Blk→Option (List (Nat×Blk))
 | .cells T f l=>if v.known=true∧v.cells.length=sz∧v.cells.all AV.one=true∧o+sz≤l.length then some [(r,.cells T f (l.take o++v.cells++l.drop (o+sz)))] else none
 | _=>none
theorem pX (sz:Nat)(σ:ap)(r o:Nat)(v:AV):eA sz σ (.ptr r o) v=oa sz r o v (σ r):=by
 simp only[eA,oa];cases σ r<;>rfl
def Dk (r T:Nat)(f:Bool)(l:List AV)(sz o:Nat)(cs:List AV):Bool→Option (List (Nat×Blk))
 | true=>some [(r,.cells T f (l.take o++cs++l.drop (o+sz)))]
 | false=>none
theorem j2 (sz r o:Nat)(v:AV)(T:Nat)(f:Bool)(l:List AV):oa sz r o v (.cells T f l)=Dk r T f l sz o v.cells (v.known&&decide (v.cells.length=sz)&&v.cells.all AV.one&&decide (o+sz≤l.length)):=by
 simp only[oa]
 by_cases h:v.known=true∧v.cells.length=sz∧v.cells.all AV.one=true∧o+sz≤l.length
 ·rw[if_pos h]
  have:(v.known&&decide (v.cells.length=sz)&&v.cells.all AV.one&&decide (o+sz≤l.length))=true:=by simp only[Bool.and_eq_true,decide_eq_true_eq];exact⟨⟨⟨h.1,h.2.1⟩,h.2.2.1⟩,h.2.2.2⟩
  rw[this];rfl
 ·rw[if_neg h]
  have:(v.known&&decide (v.cells.length=sz)&&v.cells.all AV.one&&decide (o+sz≤l.length))=false:=by
   rw[Bool.eq_false_iff]
   intro hh
   simp only[Bool.and_eq_true,decide_eq_true_eq] at hh
   exact h ⟨hh.1.1.1,hh.1.1.2,hh.1.2,hh.2⟩
  rw[this];rfl
theorem Ac (r T:Nat)(f:Bool)(l:List AV)(sz o:Nat)(cs:List AV):Dk r T f l sz o cs true=some [(r,.cells T f (l.take o++cs++l.drop (o+sz)))]:=_root_.id rfl
theorem ea {n m by_:Nat}(h1:n+m≤9223372036854775807)(h2:(n+m)*by_≤140737488355328):iA n m by_=true:=by
 simp[iA,h1,h2]
theorem zu (l:List (Nat×Blk)):jd l []=l:=_root_.id rfl
theorem tm (l:List (Nat×Blk))(p:Nat×Blk)(r:List (Nat×Blk)):jd l (p::r)=jd (p::l) r:=_root_.id rfl
theorem CC (f:Nat)(a b:List PV):bT (.pv (.clo f a b))=some (f,a.map .pv,b.map .pv):=_root_.id rfl
theorem CD (f:Nat)(a b:List AV):bT (.clo f a b)=some (f,a,b):=_root_.id rfl
theorem FC {α:Type}(a:α)(k:α→Prop):aC (some a) k=k a:=_root_.id rfl
section
variable {P:Program}{G:Nat→List PV}
theorem Bv (F:St→Prop)(e:List (Nat×AV))(σ:List (Nat×Blk))(n d:Nat)(v:AV):Bw F ⟨e,σ,n⟩ (some d) v=F ⟨(d,v)::e,σ,n⟩:=_root_.id rfl
theorem Bu (F:St→Prop)(e:List (Nat×AV))(σ:List (Nat×Blk))(n:Nat)(v:AV):Bw F ⟨e,σ,n⟩ none v=F ⟨e,σ,n⟩:=_root_.id rfl
theorem By (F:St→Prop)(e:List (Nat×AV))(σ:List (Nat×Blk))(n d:Nat)(v:AV)(δ:List (Nat×Blk)):qL F ⟨e,σ,n⟩ (some d) (v,δ)=F ⟨(d,v)::e,jd σ δ,n+1⟩:=_root_.id rfl
theorem Bx (F:St→Prop)(e:List (Nat×AV))(σ:List (Nat×Blk))(n:Nat)(v:AV)(δ:List (Nat×Blk)):qL F ⟨e,σ,n⟩ none (v,δ)=F ⟨e,jd σ δ,n+1⟩:=_root_.id rfl
theorem BA (F:St→Prop)(e:List (Nat×AV))(σ:List (Nat×Blk))(n d:Nat)(v:AV):BB F (some d) v ⟨e,σ,n⟩=F ⟨(d,v)::e,σ,n⟩:=_root_.id rfl
theorem Bz (F:St→Prop)(e:List (Nat×AV))(σ:List (Nat×Blk))(n:Nat)(v:AV):BB F none v ⟨e,σ,n⟩=F ⟨e,σ,n⟩:=_root_.id rfl
theorem CI (args:List AV)(s:St)(K:AV→St→Prop)(f:Nat)(a b:List AV):xV P G args s K (f,a,b)=ab P G f (a++args++b) s K:=_root_.id rfl
theorem tf (F:St→Prop)(s:St):bY P G [] F s=F s:=_root_.id rfl
theorem pw (d:Option Nat)(o:AOp)(r:List AOper)(F:St→Prop)(s:St):bY P G (⟨d,o,none⟩::r) F s=ig P G (bY P G r F) s d o:=_root_.id rfl
def gj (b:Bool):AV→Option Bool
 | .pv (.bool x)=>some (x == b)
 | .pv .undef=>some false
 | _=>none
theorem s9 (x:Bool):gj true (.pv (.bool x))=some x:=by cases x<;>rfl
theorem ta (x:Bool):gj false (.pv (.bool x))=some (!x):=by cases x<;>rfl
theorem s8 (b:Bool):gj b (.pv .undef)=some false:=_root_.id rfl
theorem l6 (d:Option Nat)(o:AOp)(i:Nat)(b:Bool)(r:List AOper)(F:St→Prop)(e:List (Nat×AV))(σ:List (Nat×Blk))(n:Nat) :
  bY P G (⟨d,o,some (i,b)⟩::r) F ⟨e,σ,n⟩=aC (gj b (look i e)) (DO P G (bY P G r F) ⟨e,σ,n⟩ d o):=_root_.id rfl
theorem xx (F:St→Prop)(s:St)(d:Option Nat)(o:AOp):DO P G F s d o true=ig P G F s d o:=_root_.id rfl
theorem rO (F:St→Prop)(e:List (Nat×AV))(σ:List (Nat×Blk))(n:Nat)(d:Nat)(o:AOp):DO P G F ⟨e,σ,n⟩ (some d) o false=F ⟨(d,.pv .undef)::e,σ,n⟩:=_root_.id rfl
theorem nE (F:St→Prop)(s:St)(o:AOp):DO P G F s none o false=F s:=_root_.id rfl
def I6 (k:AV→Prop):AV→Prop
 | .pv (.list [])=>∀ b:Bool,k (.pv (.bool b))
 | _=>False
def jm (x:Option AV)(k:AV→Prop)(e:List (Nat×AV))(o:TOp):Prop:=
 match x with
 | some v=>k v
 | none=>match o with
   | .beq 2 _ y (.c .nils)=>I6 k (evE e y)
   | _=>False
theorem kx (v:AV)(k:AV→Prop)(e:List (Nat×AV))(o:TOp):jm (some v) k e o=k v:=_root_.id rfl
theorem ky (k:AV→Prop)(e:List (Nat×AV))(ng:Bool)(y:AX):jm none k e (.beq 2 ng y (.c .nils))=I6 k (evE e y):=_root_.id rfl
theorem Bq (k:AV→Prop):I6 k (.pv (.list [])) = ∀ b:Bool,k (.pv (.bool b)):=_root_.id rfl
theorem A2 (ng:Bool):uV ng (mK 2 (.pv (.list [])) (.pv .nils))=none:=_root_.id rfl
theorem Jz (F:St→Prop)(e:List (Nat×AV))(σ:List (Nat×Blk))(n:Nat)(d:Option Nat)(o:TOp):ig P G F ⟨e,σ,n⟩ d (.t o)=jm (dP e o) (Bw F ⟨e,σ,n⟩ d) e o:=by
 rw[← tx e σ n]
 show fb (o.run (St.E ⟨e,σ,n⟩)) _ _=_
 cases hr:o.run (St.E ⟨e,σ,n⟩) with
 | some v=>rfl
 | none=>
   simp only[fb,jm]
   refine propext ⟨fun h=>?_,fun h=>?_⟩
   ·obtain⟨h1,h2⟩:=h
    unfold nilB at h1
    split at h1
    ·split at h1
     ·rename_i hev
      rw[fQ] at hev
      show I6 _ _
      rw[hev];exact h2
     ·cases h1
    ·cases h1
   ·split at h
    ·rename_i y
     unfold I6 at h
     split at h
     ·rename_i hev
      refine⟨?_,h⟩
      simp only[nilB]
      rw[fQ,hev]
     ·exact h.elim
    ·exact h.elim
theorem JA (F:St→Prop)(e:List (Nat×AV))(σ:List (Nat×Blk))(n:Nat)(d:Option Nat)(o:MOp):ig P G F ⟨e,σ,n⟩ d (.m o)=aC (il G e σ n o) (qL F ⟨e,σ,n⟩ d):=by
 rw[← vU G e σ n];rfl
theorem xw (F:St→Prop)(e:List (Nat×AV))(σ:List (Nat×Blk))(n:Nat)(d:Option Nat)(f:AX)(xs:List AX):ig P G F ⟨e,σ,n⟩ d (.call f xs)=aC (bT (evE e f)) (xV P G (evL e xs) ⟨e,σ,n⟩ (BB F d)):=by
 rw[← fQ e σ n,← xb e σ n];rfl
theorem Ae (F:List (List Nat×List Nat)→St→Prop)(T:List (List Nat×List Nat))(e:List (Nat×AV))(σ:List (Nat×Blk))(n d:Nat)(v:AV):tF F T ⟨e,σ,n⟩ (some d) v=F (T++[([],[])]) ⟨(d,v)::e,σ,n⟩:=_root_.id rfl
theorem Ad (F:List (List Nat×List Nat)→St→Prop)(T:List (List Nat×List Nat))(e:List (Nat×AV))(σ:List (Nat×Blk))(n:Nat)(v:AV):tF F T ⟨e,σ,n⟩ none v=F (T++[([],[])]) ⟨e,σ,n⟩:=_root_.id rfl
theorem Ag (F:List (List Nat×List Nat)→St→Prop)(T:List (List Nat×List Nat))(e:List (Nat×AV))(σ:List (Nat×Blk))(n d k:Nat)(rd:List Nat)(v:AV)(δ:List (Nat×Blk)):tG F T ⟨e,σ,n⟩ (some d) k rd (v,δ)=F (T++[dp k (aJ δ) rd]) ⟨(d,v)::e,jd σ δ,n+1⟩:=_root_.id rfl
theorem Af (F:List (List Nat×List Nat)→St→Prop)(T:List (List Nat×List Nat))(e:List (Nat×AV))(σ:List (Nat×Blk))(n k:Nat)(rd:List Nat)(v:AV)(δ:List (Nat×Blk)):tG F T ⟨e,σ,n⟩ none k rd (v,δ)=F (T++[dp k (aJ δ) rd]) ⟨e,jd σ δ,n+1⟩:=_root_.id rfl
theorem am {F:List (List Nat×List Nat)→St→Prop}{T:List (List Nat×List Nat)}{e:List (Nat×AV)}{σ:List (Nat×Blk)}{n d:Nat}{f:Nat}{a b args:List AV}{ps:List PV}{r:PV}(h:aq P G f ps r)(he:pvs (a++args++b)=some ps)
  (hk:F (T++[([],[])]) ⟨(d,.pv r)::e,σ,n⟩):iZ P G F T ⟨e,σ,n⟩ (some d) args (f,a,b):=.inl ⟨ps,r,he,h,hk⟩
theorem IE (ks rs:List Nat):dp 0 ks rs=(ks.map (· + 1),rs.map (· + 1)):=_root_.id rfl
theorem ID (ks rs:List Nat):dp 1 ks rs=(ks.map (· + 1),0::rs.map (· + 1)):=_root_.id rfl
theorem IC (ks rs:List Nat):dp 2 ks rs=(0::ks.map (· + 1),rs.map (· + 1)):=_root_.id rfl
theorem m8 (g:Bool)(sz:Nat)(x:AX):aP (.load g sz x)=0:=_root_.id rfl
theorem kP (sz:Nat)(x v:AX):aP (.store sz x v)=0:=_root_.id rfl
theorem kO (x:AX):aP (.toStr x)=0:=_root_.id rfl
theorem kU (sz:Nat)(zs:List PV)(x:AX):aP (.clear sz zs x)=0:=_root_.id rfl
theorem jo (n sz:Nat)(x:AX)(l h:Option AX):aP (.sliceA n sz x l h)=0:=_root_.id rfl
theorem kV (T:Nat)(z:List PV):aP (.alloc T z)=1:=_root_.id rfl
theorem qV (T:Nat)(x:AX):aP (.box T x)=1:=_root_.id rfl
theorem nh (T:Nat)(x:AX):aP (.cbox T x)=1:=_root_.id rfl
theorem jp (m:Bool)(e s l:Nat)(x:List AX):aP (.bslice m e s l x)=1:=_root_.id rfl
theorem jq (m:Bool)(e s l:Nat)(x y:AX):aP (.append m e s l x y)=1:=_root_.id rfl
theorem vS (m:Bool)(e s l:Nat)(z:List PV)(x y:AX):aP (.mk m e s l z x y)=1:=_root_.id rfl
theorem Eg {A:List (List Nat)}{F:St→Prop}{T:List (List Nat×List Nat)}{s:St}(h:Chk (okB A T)):vcD P G A F [] T s=F s:=by
 show (okB A T=true∧F s)=F s
 rw[eq_iff_iff]
 exact⟨fun x=>x.2,fun x=>⟨h,x⟩⟩
theorem zq (A:List (List Nat))(F:St→Prop)(d:Option Nat)(o:AOp)(r:List AOper)(T:List (List Nat×List Nat))(s:St):vcD P G A F (⟨d,o,none⟩::r) T s=eO P G (vcD P G A F r) T s d o:=_root_.id rfl
theorem tg (A:List (List Nat))(F:St→Prop)(d:Option Nat)(o:AOp)(i:Nat)(b:Bool)(r:List AOper)(T:List (List Nat×List Nat))(e:List (Nat×AV))(σ:List (Nat×Blk))(n:Nat) :
  vcD P G A F (⟨d,o,some (i,b)⟩::r) T ⟨e,σ,n⟩=aC (gj b (look i e)) (lu P G (vcD P G A F r) T ⟨e,σ,n⟩ d o):=_root_.id rfl
theorem rP (F:List (List Nat×List Nat)→St→Prop)(T:List (List Nat×List Nat))(s:St)(d:Option Nat)(o:AOp):lu P G F T s d o true=eO P G F T s d o:=_root_.id rfl
theorem nF (F:List (List Nat×List Nat)→St→Prop)(T:List (List Nat×List Nat))(e:List (Nat×AV))(σ:List (Nat×Blk))(n:Nat)(d:Nat)(o:AOp):lu P G F T ⟨e,σ,n⟩ (some d) o false=F (T++[([],[])]) ⟨(d,.pv .undef)::e,σ,n⟩:=_root_.id rfl
theorem lr (F:List (List Nat×List Nat)→St→Prop)(T:List (List Nat×List Nat))(s:St)(o:AOp):lu P G F T s none o false=F (T++[([],[])]) s:=_root_.id rfl
theorem Gy (F:List (List Nat×List Nat)→St→Prop)(T:List (List Nat×List Nat))(e:List (Nat×AV))(σ:List (Nat×Blk))(n:Nat)(d:Option Nat)(o:TOp):eO P G F T ⟨e,σ,n⟩ d (.t o)=aC (dP e o) (tF F T ⟨e,σ,n⟩ d):=by
 rw[← tx e σ n];rfl
def cW (e:List (Nat×AV)):XOp→List Nat
 | .cap _ x=>(evE e x).name
 | .resl _ x _=>(evE e x).name
 | .copy _ x y | .apart x y=>(evE e x).name++(evE e y).name
 | .appz _ _ _ _ x _=>(evE e x).name
 | .ucast _ _ _ x | .apps _ _ x _ | .ustr _ x _ | .same x=>(evE e x).name
 | .noesc _ | .peq _ _ _ | .anyc | .sdata _ | .ofStr _ | .fnil _ _ _ | .inil _ _ _ | .idxb _ _ | .mki _ _ | .mkmap | .bslf _ _ _=>[]
 | .mlook _ _ _ x _ | .mset _ x _ _=>(evE e x).name
def ca (e:List (Nat×AV)):MOp→List Nat
 | .xop o=>cW e o
 | .load _ _ x | .sliceA _ _ x _ _ | .clear _ _ x | .toStr x=>(evE e x).name
 | .append _ _ _ _ x y=>(evE e x).name++(evE e y).name
 | .store _ x _=>(evE e x).name
 | .alloc _ _ | .box _ _ | .cbox _ _ | .bslice _ _ _ _ _ | .mk _ _ _ _ _ _ _=>[]
theorem vW (e:List (Nat×AV))(mu:Bool)(t sz b:Nat)(zs:List PV)(x y:AX):ca e (.mk mu t sz b zs x y)=[]:=_root_.id rfl
theorem kW (e:List (Nat×AV))(x:AX):ca e (.toStr x)=(evE e x).name:=_root_.id rfl
theorem kY (e:List (Nat×AV))(sz:Nat)(zs:List PV)(x:AX):ca e (.clear sz zs x)=(evE e x).name:=_root_.id rfl
theorem nl (e:List (Nat×AV))(g:Bool)(sz:Nat)(x:AX):ca e (.load g sz x)=(evE e x).name:=_root_.id rfl
theorem q0 (e:List (Nat×AV))(T:Nat)(x:AX):ca e (.box T x)=[]:=_root_.id rfl
theorem np (e:List (Nat×AV))(T:Nat)(x:AX):ca e (.cbox T x)=[]:=_root_.id rfl
theorem kZ (e:List (Nat×AV))(T:Nat)(x:List PV):ca e (.alloc T x)=[]:=_root_.id rfl
theorem kX (e:List (Nat×AV))(sz:Nat)(x v:AX):ca e (.store sz x v)=(evE e x).name:=_root_.id rfl
theorem js (e:List (Nat×AV))(mu:Bool)(t sz b:Nat)(x y:AX):ca e (.append mu t sz b x y)=(evE e x).name++(evE e y).name:=_root_.id rfl
theorem jr (e:List (Nat×AV))(mu:Bool)(t sz b:Nat)(x:List AX):ca e (.bslice mu t sz b x)=[]:=_root_.id rfl
theorem FO (p:PV):(AV.pv p).name=[]:=_root_.id rfl
theorem BF (r o:Nat):(AV.ptr r o).name=[r]:=_root_.id rfl
theorem BE (r s o n:Nat):(AV.row r s o n).name=[r]:=_root_.id rfl
theorem qQ (r s:Nat)(l:List PV):(AV.olist r s l).name=[r]:=_root_.id rfl
theorem wo:aJ ([]:List (Nat×Blk))=[]:=_root_.id rfl
theorem rn (r:Nat)(B:Blk)(q:List (Nat×Blk)):aJ ((r,B)::q)=r::aJ q:=_root_.id rfl
theorem Gz (F:List (List Nat×List Nat)→St→Prop)(T:List (List Nat×List Nat))(e:List (Nat×AV))(σ:List (Nat×Blk))(n:Nat)(d:Option Nat)(o:MOp):eO P G F T ⟨e,σ,n⟩ d (.m o)=aC (il G e σ n o) (tG F T ⟨e,σ,n⟩ d (aP o) (ca e o)):=by
 have:ca e o=o.reads (St.E ⟨e,σ,n⟩):=by
  cases o<;>simp only[ca,MOp.reads,fQ]
  rename_i o
  cases o<;>simp only[cW,XOp.reads,fQ]
 rw[← vU G e σ n,this];rfl
theorem rN (F:List (List Nat×List Nat)→St→Prop)(T:List (List Nat×List Nat))(e:List (Nat×AV))(σ:List (Nat×Blk))(n:Nat)(d:Option Nat)(f:AX)(xs:List AX):eO P G F T ⟨e,σ,n⟩ d (.call f xs)=aC (bT (evE e f)) (iZ P G F T ⟨e,σ,n⟩ d (evL e xs)):=by
 rw[← fQ e σ n,← xb e σ n];rfl
def rY (e:List (Nat×AV)):List Nat→List (Nat×AV)
 | []=>[]
 | k::r=>(k,look k e)::rY e r
theorem xD (e:List (Nat×AV)):rY e []=[]:=_root_.id rfl
theorem rX (e:List (Nat×AV))(k:Nat)(r:List Nat):rY e (k::r)=(k,look k e)::rY e r:=_root_.id rfl
theorem oX (e:List (Nat×AV))(σ:List (Nat×Blk))(n:Nat):∀ (l:List Nat),l.map (fun i=>(i,St.E ⟨e,σ,n⟩ i))=rY e l
 | []=>rfl
 | k::r=>by rw[List.map_cons,oX e σ n r];rfl
theorem xE (seen:List Nat):fI seen []=[]:=_root_.id rfl
theorem rZ (seen:List Nat)(k:Nat)(b:Blk)(r:List (Nat×Blk)):fI seen ((k,b)::r)=rU k b (fI (k::seen) r) (oC k seen):=_root_.id rfl
theorem GC (k:Nat)(b:Blk)(r:List (Nat×Blk)):rU k b r true=r:=_root_.id rfl
theorem GD (k:Nat)(b:Blk)(r:List (Nat×Blk)):rU k b r false=(k,b)::r:=_root_.id rfl
theorem BH (k:Nat):oC k []=false:=_root_.id rfl
theorem I8 (k j:Nat)(r:List Nat):oC k (j::r)=if j=k then true else oC k r:=_root_.id rfl
theorem Bm (Q:AExit→St→Prop)(keep:List Nat)(e:List (Nat×AV))(σ:List (Nat×Blk))(n:Nat):mQ Q keep ⟨e,σ,n⟩=Q .norm ⟨rY e keep,fI [] σ,n⟩:=by
 rw[← oX e σ n];rfl
theorem yD (F:St→Prop)(Q:AExit→St→Prop)(s:St):Kv F Q .norm s=F s:=_root_.id rfl
theorem yE (F:St→Prop)(Q:AExit→St→Prop)(i:Nat)(s:St):Kv F Q (.exit i) s=Q (.exit i) s:=_root_.id rfl
theorem Da (F:St→Prop)(Q:AExit→St→Prop)(s:St):Kv F Q .ret s=Q .ret s:=_root_.id rfl
theorem nY (id:Nat)(Q:AExit→St→Prop)(s:St):ic id Q .norm s=Q .norm s:=_root_.id rfl
theorem nZ (id:Nat)(Q:AExit→St→Prop)(i:Nat)(s:St):ic id Q (.exit i) s=if i=id then Q .norm s else Q (.exit i) s:=_root_.id rfl
theorem sC (id:Nat)(Q:AExit→St→Prop)(s:St):ic id Q .ret s=Q .ret s:=_root_.id rfl
theorem Ec (m0:Nat)(Q:AExit→St→Prop)(s:St):vc P G m0 .skip Q s=Q .norm s:=_root_.id rfl
theorem H7 (m0:Nat)(l:List AOper)(keep:List Nat)(Q:AExit→St→Prop)(s:St):vc P G m0 (.ops l keep) Q s=bY P G l (mQ Q keep) s:=_root_.id rfl
theorem Ee (m0:Nat)(A:List (List Nat))(l l2:List AOper)(keep:List Nat)(Q:AExit→St→Prop)(s:St):vc P G m0 (.draw A l l2 keep) Q s=vcD P G A (bY P G l2 (mQ Q keep)) l [] s:=_root_.id rfl
theorem Gx (F:St→Prop)(e:List (Nat×AV))(σ:List (Nat×Blk))(n:Nat)(d:Option Nat)(g:Option (Bool×Nat))(x:AX):ig P G F ⟨e,σ,n⟩ d (.fz g x)=aC (DM G (fun r=>lookB r σ) g (evE e x)) (qL F ⟨e,σ,n⟩ d):=by
 rw[← fQ e σ n];rfl
theorem H5 (m0:Nat)(a b:ACode)(Q:AExit→St→Prop)(s:St):vc P G m0 (.seq a b) Q s=vc P G m0 a (Kv (vc P G m0 b Q) Q) s:=_root_.id rfl
theorem Ef (m0:Nat)(x:AX)(a b:ACode)(Q:AExit→St→Prop)(e:List (Nat×AV))(σ:List (Nat×Blk))(n:Nat):vc P G m0 (.cond x a b) Q ⟨e,σ,n⟩=kB (evE e x) (vc P G m0 a Q) (vc P G m0 b Q) ⟨e,σ,n⟩:=by
 rw[← fQ e σ n];rfl
theorem zm (m0 id:Nat)(b:ACode)(Q:AExit→St→Prop)(s:St):vc P G m0 (.block id b) Q s=vc P G m0 b (ic id Q) s:=_root_.id rfl
theorem Ed (m0 id:Nat)(Q:AExit→St→Prop)(s:St):vc P G m0 (.exit id) Q s=Q (.exit id) s:=_root_.id rfl
theorem H6 (m0:Nat)(Q:AExit→St→Prop)(s:St):vc P G m0 .ret Q s=Q .ret s:=_root_.id rfl
theorem Bk (b:Bool)(F H:St→Prop)(s:St):kB (.pv (.bool b)) F H s=ifB b F H s:=by cases b<;>rfl
theorem Me (F H:St→Prop)(s:St):ifB true F H s=F s:=_root_.id rfl
theorem Mf (F H:St→Prop)(s:St):ifB false F H s=H s:=_root_.id rfl
def IL (G:Nat→List PV)(e:List (Nat×AV))(σ:List (Nat×Blk)):ARes→Option AV
 | .tmp t=>some (look t e)
 | .cell t g sz=>cE G g sz (fun r=>lookB r σ) (look t e)
theorem As (e:List (Nat×AV))(σ:List (Nat×Blk))(t:Nat):IL G e σ (.tmp t)=some (look t e):=_root_.id rfl
theorem t8 (e:List (Nat×AV))(σ:List (Nat×Blk))(t:Nat)(g:Bool)(sz:Nat):IL G e σ (.cell t g sz)=cE G g sz (fun r=>lookB r σ) (look t e):=_root_.id rfl
theorem Dc (res:List ARes)(R:AV→List (Nat×Blk)→Nat→Prop)(s:St):FnK G res R .norm s=aC (dq G s res) (Du R s):=_root_.id rfl
theorem GZ (res:List ARes)(R:AV→List (Nat×Blk)→Nat→Prop)(s:St):FnK G res R .ret s=aC (dq G s res) (Du R s):=_root_.id rfl
theorem E6 (R:AV→List (Nat×Blk)→Nat→Prop)(e:List (Nat×AV))(σ:List (Nat×Blk))(n:Nat)(l:List AV):Du R ⟨e,σ,n⟩ l=R (sF l) σ n:=_root_.id rfl
theorem IH (x:AV):sF [x]=x:=_root_.id rfl
theorem II:sF [] = .pv (.tup []):=_root_.id rfl
theorem IG (x y:AV)(r:List AV):sF (x::y::r)=kJ (x::y::r):=_root_.id rfl
def JJ:Option AV→Option (List AV)→Option (List AV)
 | some a,some b=>some (a::b)
 | _,_=>none
theorem rV (a:AV)(b:List AV):JJ (some a) (some b)=some (a::b):=_root_.id rfl
theorem tZ (s:St):dq G s []=some []:=_root_.id rfl
theorem pT (e:List (Nat×AV))(σ:List (Nat×Blk))(n:Nat)(r:ARes)(q:List ARes):dq G ⟨e,σ,n⟩ (r::q)=JJ (IL G e σ r) (dq G ⟨e,σ,n⟩ q):=by
 have:IK G ⟨e,σ,n⟩ r=IL G e σ r:=by cases r<;>rfl
 show (match IK G ⟨e,σ,n⟩ r,dq G ⟨e,σ,n⟩ q with | some a,some b=>some (a::b) | _,_=>none)=_
 rw[this]
 cases IL G e σ r<;>cases dq G ⟨e,σ,n⟩ q<;>rfl
theorem A5 (r:PV)(v:AV)(σ:List (Nat×Blk))(n:Nat):IU r v σ n=isR r σ v:=_root_.id rfl
theorem Ji (r p:PV)(σ:List (Nat×Blk)):isR r σ (.pv p)=Nz p r:=propext ⟨fun ⟨q,h,g⟩=>by cases h;exact g,fun h=>⟨(p,[]),rfl,h⟩⟩
theorem ww (r:PV)(k sz:Nat)(l:List PV)(σ:List (Nat×Blk)):isR r σ (.olist k sz l)=Nz (.list l) r:=propext ⟨fun ⟨q,h,g⟩=>by cases h;exact g,fun h=>⟨(.list l,[]),rfl,h⟩⟩
def Jk (r:PV):Option (PV×List Nat)→Prop
 | some q=>Nz q.1 r
 | none=>False
theorem wz (r p:PV)(l:List Nat):Jk r (some (p,l))=Nz p r:=_root_.id rfl
theorem wy (r:PV)(σ:List (Nat×Blk))(v:AV):isR r σ v=Jk r (nx (fun r=>lookB r σ) v):=by
 unfold isR Jk
 cases nx (fun r=>lookB r σ) v with
 | none=>simp
 | some q=>simp
theorem F7 (r:PV)(cs:List AV)(σ:List (Nat×Blk)):isR r σ (.agg cs)=Jk r ((yX (fun r=>lookB r σ) cs).map fun p=>(.agg p.1,p.2)):=wy _ _ _
theorem F6 (r:PV)(k sz len:Nat)(σ:List (Nat×Blk)):isR r σ (.row k sz 0 len)=Jk r (Jn sz len k (lookB k σ)):=wy _ _ _
def rr:List AV→Nat→List (Nat×AV)
 | [],_=>[]
 | x::r,k=>(k,x)::rr r (k+1)
theorem wC (k:Nat):rr [] k=[]:=_root_.id rfl
theorem rq (x:AV)(r:List AV)(k:Nat):rr (x::r) k=(k,x)::rr r (k+1):=_root_.id rfl
theorem wB:∀ (args:List AV) (k:Nat),((args.zipIdx k).map fun p=>(p.2,p.1))=rr args k
 | [],k=>rfl
 | x::r,k=>by rw[List.zipIdx_cons,List.map_cons,wB r (k+1)];rfl
theorem rp (args:List AV):bP args=rr args 0:=wB args 0
theorem LH {ι:Type}(S:ι→St)(Inv:ι→Prop)(μ:ι→Nat)(x0:ι){m0:Nat}{keep:List Nat}{b:ACode}{Q:AExit→St→Prop}{s:St}(h0:Wk m0 s (S x0))(hi:Inv x0)
  (h:∀ x,Inv x→vc P G m0 b (fun e s'=>match e with
   | .norm=>∃ x',Wk m0 s' (S x')∧Inv x'∧μ x'<μ x
   | .exit i=>Q (.exit i) s'
   | .ret=>Q .ret s') (S x)):vc P G m0 (.loop keep b) Q s:=by
 refine⟨fun n s=>∃ x,s=S x∧Inv x∧μ x=n,⟨μ x0,S x0,h0,x0,rfl,hi,rfl⟩,?_⟩
 rintro n s ⟨x,rfl,hx,rfl⟩
 refine bI b (fun e s' hs=>?_) _ (h x hx)
 cases e with
 | norm=>
   obtain⟨x',h1,h2,h3⟩:=hs
   exact⟨_,_,h3,h1,x',rfl,h2,rfl⟩
 | exit i=>exact⟨s',Wk.of (Wx.refl s') m0,hs⟩
 | ret=>exact hs
def Hd (A:List (Nat×Nat×Nat×Nat))(m0:Nat)(keep:List Nat)(s t:St):Prop:=Wk m0 s t
theorem bQ {A:List (Nat×Nat×Nat×Nat)}{m0:Nat}{keep:List Nat}{s t:St}(h:StZ (cJ A m0 keep s) t):Hd A m0 keep s t:=Wk.head h
def i8 {ι:Type}(A:List (Nat×Nat×Nat×Nat))(S:ι→St)(Inv:ι→Prop)(μ:ι→Nat)(x:ι)(m0:Nat)(keep:List Nat)(Q:AExit→St→Prop):AExit→St→Prop
 | .norm,s'=>∃ x',Hd A m0 keep s' (S x')∧Inv x'∧μ x'<μ x
 | .exit i,s'=>Q (.exit i) s'
 | .ret,s'=>Q .ret s'
theorem nT {ι:Type}(A:List (Nat×Nat×Nat×Nat))(S:ι→St)(Inv:ι→Prop)(μ:ι→Nat)(x:ι)(m0:Nat)(keep:List Nat)(Q:AExit→St→Prop)(s:St):i8 A S Inv μ x m0 keep Q .norm s = ∃ x',Hd A m0 keep s (S x')∧Inv x'∧μ x'<μ x:=_root_.id rfl
theorem nU {ι:Type}(A:List (Nat×Nat×Nat×Nat))(S:ι→St)(Inv:ι→Prop)(μ:ι→Nat)(x:ι)(m0:Nat)(keep:List Nat)(Q:AExit→St→Prop)(i:Nat)(s:St):i8 A S Inv μ x m0 keep Q (.exit i) s=Q (.exit i) s:=_root_.id rfl
theorem sB {ι:Type}(A:List (Nat×Nat×Nat×Nat))(S:ι→St)(Inv:ι→Prop)(μ:ι→Nat)(x:ι)(m0:Nat)(keep:List Nat)(Q:AExit→St→Prop)(s:St):i8 A S Inv μ x m0 keep Q .ret s=Q .ret s:=_root_.id rfl
theorem tc {ι:Type}(A:List (Nat×Nat×Nat×Nat))(S:ι→St)(Inv:ι→Prop)(μ:ι→Nat)(x0:ι){m0:Nat}{keep:List Nat}{b:ACode}{Q:AExit→St→Prop}{s:St}(h0:Hd A m0 keep s (S x0))(hi:Inv x0)
  (h:∀ x,Inv x→vc P G m0 b (i8 A S Inv μ x m0 keep Q) (S x)):vc P G m0 (.loop keep b) Q s:=by
 refine LH S Inv μ x0 h0 hi fun x hx=>?_
 have e:(fun (e:AExit) (s':St)=>match e with
   | .norm=>∃ x',Wk m0 s' (S x')∧Inv x'∧μ x'<μ x
   | .exit i=>Q (.exit i) s'
   | .ret=>Q .ret s')=i8 A S Inv μ x m0 keep Q:=by
  funext e s'
  cases e<;>rfl
 rw[e];exact h x hx
def qw (k:Nat)(x:AV):List (Nat×AV)→AV
 | []=>x
 | p::r=>if p.1=k then p.2 else qw k x r
def ed:List (Nat×AV)→List (Nat×AV)→List (Nat×AV)
 | [],_=>[]
 | p::r,ch=>(p.1,qw p.1 p.2 ch)::ed r ch
def qy (k:Nat)(x:Blk):List (Nat×Blk)→Blk
 | []=>x
 | p::r=>if p.1=k then p.2 else qy k x r
def fa:List (Nat×Blk)→List (Nat×Blk)→List (Nat×Blk)
 | [],_=>[]
 | p::r,ch=>(p.1,qy p.1 p.2 ch)::fa r ch
theorem vd (k:Nat)(x:AV):qw k x []=x:=_root_.id rfl
theorem qv (k j:Nat)(x y:AV)(r:List (Nat×AV)):qw k x ((j,y)::r)=if j=k then y else qw k x r:=_root_.id rfl
theorem vj (ch:List (Nat×AV)):ed [] ch=[]:=_root_.id rfl
theorem qB (k:Nat)(x:AV)(r ch:List (Nat×AV)):ed ((k,x)::r) ch=(k,qw k x ch)::ed r ch:=_root_.id rfl
theorem ve (k:Nat)(x:Blk):qy k x []=x:=_root_.id rfl
theorem qx (k j:Nat)(x y:Blk)(r:List (Nat×Blk)):qy k x ((j,y)::r)=if j=k then y else qy k x r:=_root_.id rfl
theorem vm (ch:List (Nat×Blk)):fa [] ch=[]:=_root_.id rfl
theorem qC (k:Nat)(x:Blk)(r ch:List (Nat×Blk)):fa ((k,x)::r) ch=(k,qy k x ch)::fa r ch:=_root_.id rfl
theorem aB {ι:Type}(A:List (Nat×Nat×Nat×Nat))(ch:ι→List (Nat×AV))(chB:ι→List (Nat×Blk))(Inv:ι→Prop)(μ:ι→Nat)(x0:ι){m0:Nat}{keep:List Nat}{b:ACode}{Q:AExit→St→Prop}{s:St}
  (h:∀ e0 σ0 n0,cJ A m0 keep s=⟨e0,σ0,n0⟩→StZ ⟨e0,σ0,n0⟩ ⟨ed e0 (ch x0),fa σ0 (chB x0),n0⟩∧Inv x0 ∧
   ∀ x,Inv x→vc P G m0 b (i8 A (fun x=>⟨ed e0 (ch x),fa σ0 (chB x),n0⟩) Inv μ x m0 keep Q) ⟨ed e0 (ch x),fa σ0 (chB x),n0⟩):vc P G m0 (.loop keep b) Q s:=by
 obtain⟨h1,h2,h3⟩:=h (cJ A m0 keep s).env (cJ A m0 keep s).sto (cJ A m0 keep s).next rfl
 exact tc A (fun x=>⟨ed (cJ A m0 keep s).env (ch x),fa (cJ A m0 keep s).sto (chB x),(cJ A m0 keep s).next⟩) Inv μ x0 (bQ h1) h2 h3
end
end Go.Ab
namespace Go.Ab
open Go Go.RowKit
theorem AD (k k':IntKind)(x y:Int):Fj (.pv (.int k x)) (.pv (.int k' y))=some (.pv (.int k (min x y))):=by
 simp only[Fj,Option.some.injEq,AV.pv.injEq,PV.int.injEq,true_and]
 split<;>omega
theorem AE (k k':IntKind)(x y:Int):Fk (.pv (.int k x)) (.pv (.int k' y))=some (.pv (.int k (max x y))):=by
 simp only[Fk,Option.some.injEq,AV.pv.injEq,PV.int.injEq,true_and]
 split<;>omega
theorem pA (a:Nat)(b:Int):(min (a:Int) b).toNat=min a b.toNat:=by omega
theorem l9 (a:Nat)(b:Int):(min b (a:Int)).toNat=min b.toNat a:=by omega
theorem j0 {α:Type}(l:List α)(n:Nat):l.take (min l.length n)=l.take n:=by
 rcases Nat.le_total l.length n with h | h
 ·rw[Nat.min_eq_left h,List.take_length,List.take_of_length_le h]
 ·rw[Nat.min_eq_right h]
theorem tq {α:Type}(l:List α)(n:Nat):l.take (min n l.length)=l.take n:=by rw[Nat.min_comm,j0]
theorem map_take {α β:Type}(f:α→β)(l:List α)(n:Nat):(l.map f).take n=(l.take n).map f:=List.map_take.symm
theorem map_drop {α β:Type}(f:α→β)(l:List α)(n:Nat):(l.map f).drop n=(l.drop n).map f:=List.map_drop.symm
theorem vB {α β:Type}(f:α→β):(none:Option α).map f=none:=_root_.id rfl
def dC (mu:Bool)(e sz by_ new:Nat)(σ:ap)(x:AV):Option (List PV)→Option (AV×List (Nat×Blk))
 | some ys=>match mu,x with
   | false,.pv .nils=>match ys with
     | []=>some (.pv .nils,[])
     | y::r=>if iA 0 (r.length+1) by_=true then some (.olist new sz (y::r),[(new,.tok e sz)]) else none
   | false,.olist q s l=>match σ q with
     | .tok e' sz'=>if e'=e∧sz'=sz∧s=sz∧iA l.length ys.length by_=true then some (.olist new sz (l++ys),[(q,.none),(new,.tok e sz)]) else none
     | _=>none
   | true,.pv .nils=>match ys with
     | []=>some (.pv .nils,[])
     | y::r=>if iA 0 (r.length+1) by_=true then some (.row new sz 0 (r.length+1),[(new,.cells e false (cj (y::r)))]) else none
   | true,.row q s off len=>match σ q with
     | .cells e' _ l=>if e'=e∧s=sz∧off=0∧len*sz≤l.length∧iA len ys.length by_=true then some (.row new sz 0 (len+ys.length),[(q,.none),(new,.cells e false (l.take (len*sz)++cj ys))]) else none
     | _=>none
   | _,_=>none
 | none=>none
def CX (e sz by_ new q s:Nat)(l ys:List PV):Blk→Option (AV×List (Nat×Blk))
 | .tok e' sz'=>if e'=e∧sz'=sz∧s=sz∧iA l.length ys.length by_=true then some (.olist new sz (l++ys),[(q,.none),(new,.tok e sz)]) else none
 | _=>none
def su (e sz by_ new q s off len:Nat)(ys:List PV):Blk→Option (AV×List (Nat×Blk))
 | .cells e' _ l=>if e'=e∧s=sz∧off=0∧len*sz≤l.length∧iA len ys.length by_=true then some (.row new sz 0 (len+ys.length),[(q,.none),(new,.cells e false (l.take (len*sz)++cj ys))]) else none
 | _=>none
theorem qr (mu:Bool)(e sz by_ new:Nat)(σ:ap)(x y:AV):cf mu e sz by_ new σ x y=dC mu e sz by_ new σ x (aN σ sz y):=by
 unfold cf dC
 cases aN σ sz y<;>rfl
theorem Kh (e sz by_ new:Nat)(σ:ap)(q s:Nat)(l ys:List PV):dC false e sz by_ new σ (.olist q s l) (some ys)=CX e sz by_ new q s l ys (σ q):=by
 simp only[dC,CX]
theorem CW {e sz by_ new q:Nat}{l ys:List PV}(h1:l.length+ys.length≤9223372036854775807)(h2:(l.length+ys.length)*by_≤140737488355328):CX e sz by_ new q sz l ys (.tok e sz)=some (.olist new sz (l++ys),[(q,.none),(new,.tok e sz)]):=by
 simp[CX,ea h1 h2]
theorem CU (e sz by_ new:Nat)(σ:ap):dC false e sz by_ new σ (.pv .nils) (some [])=some (.pv .nils,[]):=_root_.id rfl
theorem CT {e sz by_ new:Nat}{σ:ap}{y:PV}{r:List PV}(h1:r.length+1≤9223372036854775807)(h2:(r.length+1)*by_≤140737488355328):dC false e sz by_ new σ (.pv .nils) (some (y::r))=some (.olist new sz (y::r),[(new,.tok e sz)]):=by
 simp only[dC];rw[if_pos (ea (by omega) (by simpa using h2))]
theorem GP (e sz by_ new:Nat)(σ:ap)(q s off len:Nat)(ys:List PV):dC true e sz by_ new σ (.row q s off len) (some ys)=su e sz by_ new q s off len ys (σ q):=by
 simp only[dC,su]
theorem CV {e sz by_ new q len:Nat}{f:Bool}{l:List AV}{ys:List PV}(h0:len*sz≤l.length)(h1:len+ys.length≤9223372036854775807)(h2:(len+ys.length)*by_≤140737488355328) :
  su e sz by_ new q sz 0 len ys (.cells e f l)=some (.row new sz 0 (len+ys.length),[(q,.none),(new,.cells e false (l.take (len*sz)++cj ys))]):=by
 simp[su,h0,ea h1 h2]
theorem sr {e sz by_ new q:Nat}{f:Bool}{l:List AV}{ys:List PV}(h1:ys.length≤9223372036854775807)(h2:ys.length*by_≤140737488355328) :
  su e sz by_ new q sz 0 0 ys (.cells e f l)=some (.row new sz 0 ys.length,[(q,.none),(new,.cells e false (cj ys))]):=by
 have:=ea (n:=0) (m:=ys.length) (by_:=by_) (by omega) (by simpa using h2)
 simp[su,this]
def oT (l:List PV):Bool→Option (List PV)
 | true=>some l
 | false=>none
theorem rH (σ:ap)(sz:Nat):aN σ sz (.pv .nils)=some []:=_root_.id rfl
theorem rI (σ:ap)(sz:Nat)(l:List PV):aN σ sz (.pv (.list l))=oT l (l.all fun y=>y.cells.length == sz):=by
 simp only[aN]
 cases l.all (fun y=>y.cells.length == sz)<;>rfl
theorem rJ (l:List PV):oT l true=some l:=_root_.id rfl
theorem nC (σ:ap)(sz r:Nat)(l:List PV):aN σ sz (.olist r sz l)=some l:=by simp[aN]
def J8 (e sz new:Nat):Option (List PV)→Option (AV×List (Nat×Blk))
 | some ps=>if ps.all (fun p=>p.cells.length == sz&&p.cells.all PV.one)=true then some (.olist new sz ps,[(new,.tok e sz)]) else none
 | none=>none
theorem MG {e sz len new:Nat}{vs:List AV}(h:vs.length=len)(h2:len≤9223372036854775807):bL false e sz len new vs=J8 e sz new (pvs vs):=by
 simp only[bL,h,h2,true_and,if_true,J8]
 cases pvs vs<;>rfl
def Nt (e sz new:Nat)(ps:List PV):Bool→Option (AV×List (Nat×Blk))
 | true=>some (.olist new sz ps,[(new,.tok e sz)])
 | false=>none
theorem J7 (e sz new:Nat)(ps:List PV):Nt e sz new ps true=some (.olist new sz ps,[(new,.tok e sz)]):=_root_.id rfl
theorem x9 (e sz new:Nat)(ps:List PV):J8 e sz new (some ps)=Nt e sz new ps (ps.all fun p=>p.cells.length == sz&&p.cells.all PV.one):=by
 simp only[J8]
 cases ps.all (fun p=>p.cells.length == sz&&p.cells.all PV.one)<;>rfl
theorem ya (e sz new:Nat):J8 e sz new none=none:=_root_.id rfl
theorem J6 {e sz new:Nat}:bL true e sz 0 new []=some (.row new sz 0 0,[(new,.cells e true [])]):=by
 simp[bL]
theorem cH (b:Bool):PV.one (.bool b)=true:=_root_.id rfl
theorem eg (k:IntKind)(n:Int):PV.one (.int k n)=true:=_root_.id rfl
theorem ef (s:List UInt8):PV.one (.str s)=true:=_root_.id rfl
theorem Bf:PV.one .nils=true:=_root_.id rfl
theorem cG (l:List PV):PV.one (.list l)=true:=_root_.id rfl
theorem FB (p:PV):AV.one (.pv p)=p.one:=_root_.id rfl
theorem Bi (r o:Nat):AV.one (.ptr r o)=true:=_root_.id rfl
theorem Bh (r s o n:Nat):AV.one (.row r s o n)=true:=_root_.id rfl
theorem qF (r s:Nat)(l:List PV):AV.one (.olist r s l)=true:=_root_.id rfl
theorem Bj (f:Nat)(a b:List AV):AV.one (.clo f a b)=true:=_root_.id rfl
def mO (sz:Nat)(l:List PV)(h:Nat):Option Nat→Option AV
 | some a=>if HS sz l a=true then some (.pv (.list ((l.take h).drop a))) else none
 | none=>none
def kA (sz:Nat)(l:List PV)(lo:Option AV):Option Nat→Option AV
 | some h=>mO sz l h (aM 0 h lo)
 | none=>none
theorem kj (sz:Nat)(l:List PV)(lo hi:Option AV):bK sz (.pv (.list l)) lo hi=kA sz l lo (aM l.length l.length hi):=by
 show Dz sz l lo hi=_
 unfold Dz kA mO
 cases aM l.length l.length hi with
 | none=>rfl
 | some h=>simp only;cases aM 0 h lo<;>rfl
theorem jk (sz r s:Nat)(l:List PV)(lo hi:Option AV):bK sz (.olist r s l) lo hi=kA sz l lo (aM l.length l.length hi):=by
 show Dz sz l lo hi=_
 unfold Dz kA mO
 cases aM l.length l.length hi with
 | none=>rfl
 | some h=>simp only;cases aM 0 h lo<;>rfl
theorem mN (sz:Nat)(l:List PV)(lo:Option AV)(h:Nat):kA sz l lo (some h)=mO sz l h (aM 0 h lo):=_root_.id rfl
theorem qH (sz:Nat)(l:List PV)(h:Nat):mO sz l h (some 0)=some (.pv (.list (l.take h))):=by
 simp[mO,HS]
theorem qI {sz:Nat}{l:List PV}{h a:Nat}(hs:HS sz l a=true):mO sz l h (some a)=some (.pv (.list ((l.take h).drop a))):=if_pos hs
theorem qG (sz:Nat)(l:List PV)(i:Nat)(y:PV):kz sz l i (some y)=if y.cells.length=sz then some (.pv (.eptr l i 0)) else none:=_root_.id rfl
theorem C0 {α β:Type}(f:α→β)(p:β→Bool)(l:List α):(l.map f).all p=l.all fun x=>p (f x):=by
 rw[List.all_map];rfl
theorem Ki {α:Type}(l:List α):(l.all fun _=>true)=true:=by simp
theorem Kd (n:Nat):(n == n)=true:=by simp
def Jd (sz:Nat)(e:PV):Bool→Option AV
 | true=>some (.pv e)
 | false=>bM true sz 0 (e.cells.map .pv)
theorem FX (sz:Nat)(e:PV):Jd sz e true=some (.pv e):=_root_.id rfl
theorem BO (sz:Nat)(e:PV):io true sz 0 e=Jd sz e (e.isAgg&&decide (e.cells.length=sz)):=by
 simp only[io,true_and]
 by_cases h:e.isAgg=true∧e.cells.length=sz
 ·rw[if_pos h,h.1,decide_eq_true h.2];rfl
 ·rw[if_neg h]
  have:(e.isAgg&&decide (e.cells.length=sz))=false:=by
   rw[Bool.eq_false_iff]
   intro hh
   simp only[Bool.and_eq_true,decide_eq_true_eq] at hh
   exact h hh
  rw[this];rfl
theorem wA (cs:List PV):(PV.agg cs).isAgg=true:=_root_.id rfl
def fzO (σ:ap):Option AV→Option (AV×List (Nat×Blk))
 | some v=>(nx σ v).map DI
 | none=>none
theorem Jq (G:Nat→List PV)(σ:ap)(v:AV):DM G σ none v=(nx σ v).map DI:=_root_.id rfl
theorem Jr (G:Nat→List PV)(σ:ap)(g:Bool)(sz:Nat)(v:AV):DM G σ (some (g,sz)) v=fzO σ (cE G g sz σ v):=by
 simp only[DM,fzO];cases cE G g sz σ v<;>rfl
theorem Cf (σ:ap)(v:AV):fzO σ (some v)=(nx σ v).map DI:=_root_.id rfl
theorem Ch (σ:ap)(cs:List AV):nx σ (.agg cs)=(yX σ cs).map fun p=>(.agg p.1,p.2):=_root_.id rfl
theorem Gg (σ:ap)(p:PV):nx σ (.pv p)=some (p,[]):=_root_.id rfl
theorem Gh (σ:ap)(r s:Nat)(l:List PV):nx σ (.olist r s l)=some (.list l,[]):=_root_.id rfl
theorem Cg (σ:ap)(r s n:Nat):nx σ (.row r s 0 n)=Jn s n r (σ r):=_root_.id rfl
theorem Gj (σ:ap)(p:PV):DJ σ (.pv p)=some (p,[]):=_root_.id rfl
theorem Gk (σ:ap)(r s:Nat)(l:List PV):DJ σ (.olist r s l)=some (.list l,[]):=_root_.id rfl
theorem Ck (σ:ap)(r s n:Nat):DJ σ (.row r s 0 n)=Jn s n r (σ r):=_root_.id rfl
theorem Ci (σ:ap):yX σ []=some ([],[]):=_root_.id rfl
theorem wO (σ:ap)(x:AV)(r:List AV):yX σ (x::r)=Lp (DJ σ x) (yX σ r):=_root_.id rfl
theorem wP (p:PV)(a:List Nat)(q:List PV)(b:List Nat):Lp (some (p,a)) (some (q,b))=some (p::q,a++b):=_root_.id rfl
theorem Gi (p:PV)(l:List Nat):DI (p,l)=(.pv p,l.map fun r=>(r,.none)):=_root_.id rfl
theorem BC (p:PV):(AV.pv p).names=[]:=_root_.id rfl
theorem vK (r o:Nat):(AV.ptr r o).names=[r]:=_root_.id rfl
theorem vJ (r a b c:Nat):(AV.row r a b c).names=[r]:=_root_.id rfl
theorem BD (r a:Nat)(l:List PV):(AV.olist r a l).names=[r]:=_root_.id rfl
theorem vN (cs:List AV):(AV.agg cs).names=AV.namesL cs:=by simp only[AV.names]
theorem vI (cs:List AV):(AV.tup cs).names=AV.namesL cs:=by simp only[AV.names]
theorem vL (f:Nat)(fs cs:List AV):(AV.clo f fs cs).names=AV.namesL fs++AV.namesL cs:=by simp only[AV.names]
theorem vM:AV.any.names=[]:=_root_.id rfl
theorem qN:AV.namesL []=[]:=_root_.id rfl
theorem gE (x:AV)(r:List AV):AV.namesL (x::r)=x.names++AV.namesL r:=by simp only[AV.namesL]
theorem gD:∀ l:List PV,AV.namesL (l.map .pv)=[]
 | []=>rfl
 | x::r=>by rw[List.map_cons,gE,gD r];rfl
theorem mR (l:List PV):AV.namesL (cj l)=[]:=gD _
theorem kG (T:Nat)(f:Bool)(l:List AV):(Blk.cells T f l).names=AV.namesL l:=_root_.id rfl
theorem qO (e s:Nat):(Blk.tok e s).names=[]:=_root_.id rfl
theorem mT:Blk.none.names=[]:=_root_.id rfl
theorem C3 (acc:List Nat):aY acc []=acc:=_root_.id rfl
def GU (acc:List Nat)(n:Nat):Bool→List Nat
 | true=>acc
 | false=>acc++[n]
theorem fH (x:Nat):∀ l:List Nat,l.contains x=oC x l
 | []=>rfl
 | y::r=>by
   rw[List.contains_cons,fH x r,kM]
   by_cases h:y=x
   ·simp[h]
   ·have h':¬ x=y:=fun e=>h e.symm
    simp[h,h']
theorem yu (acc:List Nat)(n:Nat)(r:List Nat):aY acc (n::r)=aY (GU acc n (oC n acc)) r:=by
 simp only[aY,fH]
 cases oC n acc<;>rfl
theorem GR (acc:List Nat)(n:Nat):GU acc n true=acc:=_root_.id rfl
theorem GS (acc:List Nat)(n:Nat):GU acc n false=acc++[n]:=_root_.id rfl
def geN (m0:Nat):List Nat→List Nat
 | []=>[]
 | x::r=>if m0≤x then x::geN m0 r else geN m0 r
theorem Gc (m0:Nat):geN m0 []=[]:=_root_.id rfl
theorem oI (m0 x:Nat)(r:List Nat):geN m0 (x::r)=if m0≤x then x::geN m0 r else geN m0 r:=_root_.id rfl
theorem wN (m0:Nat):∀ l:List Nat,l.filter (fun r=>decide (m0≤r))=geN m0 l
 | []=>rfl
 | x::r=>by rw[List.filter_cons,wN m0 r,oI];simp
def ce (sto:List (Nat×Blk)):List Nat→List Nat
 | []=>[]
 | r::q=>(lookB r sto).names++ce sto q
theorem lE (sto:List (Nat×Blk)):ce sto []=[]:=_root_.id rfl
theorem eR (sto:List (Nat×Blk))(r:Nat)(q:List Nat):ce sto (r::q)=(lookB r sto).names++ce sto q:=_root_.id rfl
theorem er (sto:List (Nat×Blk)):∀ l:List Nat,(l.flatMap fun r=>(lookB r sto).names)=ce sto l
 | []=>rfl
 | r::q=>by rw[List.flatMap_cons,er sto q,eR]
theorem Fe (m0:Nat)(sto:List (Nat×Blk))(acc:List Nat):dV m0 sto 0 acc=acc:=_root_.id rfl
theorem Fd (m0:Nat)(sto:List (Nat×Blk))(k:Nat)(acc:List Nat):dV m0 sto (k+1) acc=dV m0 sto k (aY acc (geN m0 (ce sto acc))):=by
 rw[← wN,← er];rfl
def cP (e:List (Nat×AV)):List Nat→List Nat
 | []=>[]
 | k::r=>(look k e).names++cP e r
theorem ln (e:List (Nat×AV)):cP e []=[]:=_root_.id rfl
theorem jG (e:List (Nat×AV))(k:Nat)(r:List Nat):cP e (k::r)=(look k e).names++cP e r:=_root_.id rfl
theorem gV (e:List (Nat×AV))(σ:List (Nat×Blk))(n:Nat):∀ l:List Nat,(l.flatMap fun i=>((⟨e,σ,n⟩:St).E i).names)=cP e l
 | []=>rfl
 | k::r=>by rw[List.flatMap_cons,gV e σ n r];rfl
def tX:Nat→Nat→List Nat
 | 0,_=>[]
 | n+1,k=>k::tX n (k+1)
theorem L0 (k:Nat):tX 0 k=[]:=_root_.id rfl
theorem IF (n k:Nat):tX (n+1) k=k::tX n (k+1):=_root_.id rfl
theorem tW:∀ n k:Nat,tX n k=List.range' k n
 | 0,k=>rfl
 | n+1,k=>by rw[IF,tW n,List.range'_succ]
theorem Dt (n:Nat):List.range n=tX n 0:=by rw[tW,List.range_eq_range']
theorem FE (m0:Nat)(keep:List Nat)(e:List (Nat×AV))(σ:List (Nat×Blk))(n:Nat):I1 m0 keep ⟨e,σ,n⟩=dV m0 σ σ.length (aY [] (geN m0 (cP e keep++ce σ (tX m0 0)))):=by
 rw[← wN,← gV e σ n,← er,← Dt];rfl
def kE (f:Nat→Option Nat)(e:List (Nat×AV)):List Nat→List (Nat×AV)
 | []=>[]
 | k::r=>(k,(look k e).ren f)::kE f e r
theorem vE (f:Nat→Option Nat)(e:List (Nat×AV)):kE f e []=[]:=_root_.id rfl
theorem qJ (f:Nat→Option Nat)(e:List (Nat×AV))(k:Nat)(r:List Nat):kE f e (k::r)=(k,(look k e).ren f)::kE f e r:=_root_.id rfl
def vD (m0:Nat)(keep:List Nat)(e:List (Nat×AV))(σ:List (Nat×Blk))(os:List Nat):St:=⟨kE (cg m0 os) e keep,dc m0 (cg m0 os) σ (tX m0 0++os) 0,m0+os.length⟩
theorem FJ (m0:Nat)(keep:List Nat)(e:List (Nat×AV))(σ:List (Nat×Blk))(n:Nat):norm m0 keep ⟨e,σ,n⟩=vD m0 keep e σ (dV m0 σ σ.length (aY [] (geN m0 (cP e keep++ce σ (tX m0 0))))):=by
 rw[← FE m0 keep e σ n]
 have hE:∀ (f:Nat→Option Nat) (l:List Nat),(l.map fun i=>(i,((⟨e,σ,n⟩:St).E i).ren f))=kE f e l:=by
  intro f l
  induction l with
  | nil=>rfl
  | cons k r ih=>rw[List.map_cons,ih];rfl
 simp only[norm,vD,hE,Dt]
theorem FL (m0:Nat)(keep:List Nat)(e:List (Nat×AV))(σ:List (Nat×Blk))(x:Nat)(r:List Nat):vD m0 keep e σ (x::r)=⟨kE (cg m0 (x::r)) e keep,dc m0 (cg m0 (x::r)) σ (tX m0 0++(x::r)) 0,m0+(x::r).length⟩:=_root_.id rfl
theorem FK (m0:Nat)(keep:List Nat)(e:List (Nat×AV))(σ:List (Nat×Blk)):vD m0 keep e σ []=⟨kE (cg m0 []) e keep,dc m0 (cg m0 []) σ (tX m0 0) 0,m0⟩:=by
 simp only[vD,List.append_nil];rfl
theorem pU (m0:Nat)(f:Nat→Option Nat)(σ:List (Nat×Blk))(k:Nat):dc m0 f σ [] k=[]:=_root_.id rfl
theorem mo (m0:Nat)(f:Nat→Option Nat)(σ:List (Nat×Blk))(r:Nat)(q:List Nat)(k:Nat):dc m0 f σ (r::q) k=(k,(lookB r σ).ren f)::dc m0 f σ q (k+1):=_root_.id rfl
theorem qM (m0:Nat)(os:List Nat)(r:Nat):cg m0 os r=if r<m0 then some r else B3 r os m0:=_root_.id rfl
theorem B2 (x k:Nat):B3 x [] k=none:=_root_.id rfl
theorem wF (x y:Nat)(r:List Nat)(k:Nat):B3 x (y::r) k=if y=x then some k else B3 x r (k+1):=_root_.id rfl
def L4 (o:Nat):Option Nat→AV
 | some q=>.ptr q o
 | none=>.any
def L3 (a b c:Nat):Option Nat→AV
 | some q=>.row q a b c
 | none=>.any
def L5 (a:Nat)(l:List PV):Option Nat→AV
 | some q=>.olist q a l
 | none=>.pv (.list l)
theorem Dx (f:Nat→Option Nat)(p:PV):(AV.pv p).ren f = .pv p:=by simp only[AV.ren]
theorem Fb (f:Nat→Option Nat):AV.any.ren f = .any:=by simp only[AV.ren]
theorem E9 (f:Nat→Option Nat)(r o:Nat):(AV.ptr r o).ren f=L4 o (f r):=by simp only[AV.ren,L4]<;>(cases f r<;>rfl)
theorem E8 (f:Nat→Option Nat)(r a b c:Nat):(AV.row r a b c).ren f=L3 a b c (f r):=by simp only[AV.ren,L3]<;>(cases f r<;>rfl)
theorem IR (f:Nat→Option Nat)(r a:Nat)(l:List PV):(AV.olist r a l).ren f=L5 a l (f r):=by simp only[AV.ren,L5]<;>(cases f r<;>rfl)
theorem Fc (f:Nat→Option Nat)(cs:List AV):(AV.agg cs).ren f = .agg (AV.renL f cs):=by simp only[AV.ren]
theorem E7 (f:Nat→Option Nat)(cs:List AV):(AV.tup cs).ren f = .tup (AV.renL f cs):=by simp only[AV.ren]
theorem Fa (f:Nat→Option Nat)(g:Nat)(fs cs:List AV):(AV.clo g fs cs).ren f = .clo g (AV.renL f fs) (AV.renL f cs):=by simp only[AV.ren]
theorem uc (o q:Nat):L4 o (some q) = .ptr q o:=_root_.id rfl
theorem ub (a b c q:Nat):L3 a b c (some q) = .row q a b c:=_root_.id rfl
theorem ud (a:Nat)(l:List PV)(q:Nat):L5 a l (some q) = .olist q a l:=_root_.id rfl
theorem Aw (f:Nat→Option Nat):AV.renL f []=[]:=_root_.id rfl
theorem kf (f:Nat→Option Nat)(x:AV)(r:List AV):AV.renL f (x::r)=x.ren f::AV.renL f r:=by simp only[AV.renL]
theorem mq (f:Nat→Option Nat):∀ l:List PV,AV.renL f (l.map .pv)=l.map .pv
 | []=>rfl
 | x::r=>by rw[List.map_cons,kf,mq f r,Dx]
theorem ue (f:Nat→Option Nat)(l:List PV):AV.renL f (cj l)=cj l:=mq f _
theorem pV (f:Nat→Option Nat)(T:Nat)(b:Bool)(l:List AV):(Blk.cells T b l).ren f = .cells T b (AV.renL f l):=_root_.id rfl
theorem Ax (f:Nat→Option Nat)(e s:Nat):(Blk.tok e s).ren f = .tok e s:=_root_.id rfl
theorem uf (f:Nat→Option Nat):Blk.none.ren f = .none:=_root_.id rfl
theorem Bp (A:List (Nat×Nat×Nat×Nat))(m0:Nat)(keep:List Nat)(s:St):cJ A m0 keep s=norm m0 keep (C5 A s):=_root_.id rfl
theorem C4 (s:St):C5 [] s=s:=_root_.id rfl
theorem yv (k e sz:Nat)(r:List (Nat×Nat×Nat×Nat))(env:List (Nat×AV))(σ:List (Nat×Blk))(n:Nat):C5 ((k,0,e,sz)::r) ⟨env,σ,n⟩=C5 r (GX k e sz ⟨env,σ,n⟩ (look k env)):=_root_.id rfl
theorem yw (k j e sz:Nat)(r:List (Nat×Nat×Nat×Nat))(env:List (Nat×AV))(σ:List (Nat×Blk))(n:Nat):C5 ((k,j+1,e,sz)::r) ⟨env,σ,n⟩=C5 r (Kq j e sz ⟨env,σ,n⟩ (look k env)):=_root_.id rfl
theorem yz (k e sz:Nat)(env:List (Nat×AV))(σ:List (Nat×Blk))(n:Nat):GX k e sz ⟨env,σ,n⟩ (.pv .nils)=⟨(k,fe n e sz)::env,(n,bC e sz)::σ,n+1⟩:=_root_.id rfl
theorem C9 (k e sz r a b c:Nat)(s:St):GX k e sz s (.row r a b c)=s:=_root_.id rfl
theorem FN {n e sz:Nat}(h:e<1000000):fe n e sz = .olist n sz []:=if_pos h
theorem FM {n e sz:Nat}(h:1000000≤e):fe n e sz = .row n sz 0 0:=if_neg (Nat.not_lt.2 h)
theorem Bs {e sz:Nat}(h:e<1000000):bC e sz = .tok e sz:=if_pos h
theorem Br {e sz:Nat}(h:1000000≤e):bC e sz = .cells (e - 1000000) false []:=if_neg (Nat.not_lt.2 h)
theorem GW (k e sz r a:Nat)(l:List PV)(s:St):GX k e sz s (.olist r a l)=s:=_root_.id rfl
theorem C7 (o e sz r b:Nat)(env:List (Nat×AV))(σ:List (Nat×Blk))(n:Nat):Kq o e sz ⟨env,σ,n⟩ (.ptr r b)=accB r (b+o) e sz ⟨env,σ,n⟩ (lookB r σ):=_root_.id rfl
theorem sx (r o e sz T:Nat)(f:Bool)(l:List AV)(s:St):accB r o e sz s (.cells T f l)=H1 r T f l o e sz s l[o]?:=_root_.id rfl
theorem yy (r T:Nat)(f:Bool)(l:List AV)(o e sz:Nat)(env:List (Nat×AV))(σ:List (Nat×Blk))(n:Nat):H1 r T f l o e sz ⟨env,σ,n⟩ (some (.pv .nils))=⟨env,(r,.cells T f (l.set o (fe n e sz)))::(n,bC e sz)::σ,n+1⟩:=_root_.id rfl
theorem C8 (r T:Nat)(f:Bool)(l:List AV)(o e sz:Nat)(s:St)(q a b c:Nat):H1 r T f l o e sz s (some (.row q a b c))=s:=_root_.id rfl
theorem GV (r T:Nat)(f:Bool)(l:List AV)(o e sz:Nat)(s:St)(q a:Nat)(k:List PV):H1 r T f l o e sz s (some (.olist q a k))=s:=_root_.id rfl
theorem Nx {α:Type}(x y:α)(r:List α):(x::r).set 0 y=y::r:=_root_.id rfl
theorem Nw {α:Type}(x y:α)(r:List α)(n:Nat):(x::r).set (n+1) y=x::r.set n y:=_root_.id rfl
theorem LJ (e e':List (Nat×AV))(σ σ':List (Nat×Blk))(n n':Nat):(St.mk e σ n=St.mk e' σ' n')=(e=e'∧σ=σ'∧n=n'):=by rw[St.mk.injEq]
theorem JC {a b:Nat}(h:a<b):decide (a<b)=true:=decide_eq_true h
theorem JD {a b:Nat}(h:¬ a<b):decide (a<b)=false:=decide_eq_false h
theorem JE {a b:Nat}(h:a≤b):decide (a≤b)=true:=decide_eq_true h
theorem JF {a b:Nat}(h:¬ a≤b):decide (a≤b)=false:=decide_eq_false h
theorem JG {a b:Nat}(h:a=b):decide (a=b)=true:=decide_eq_true h
theorem JH {a b:Nat}(h:¬ a=b):decide (a=b)=false:=decide_eq_false h
theorem aU {α:Type}{l:List α}{m:Nat}{x:α}(h:l[m]? = some x):l.take (m+1)=l.take m++[x]:=by
 obtain⟨h1,h2⟩:=List.getElem?_eq_some_iff.1 h
 rw[List.take_succ_eq_append_getElem h1,h2]
def Jp (cells:List AV)(off sz:Nat)(r:List (Nat×Nat×AV))(xc:List AV):Bool→Option (List AV)
 | true=>en (cells.take off++xc++cells.drop (off+sz)) r
 | false=>none
theorem Gr (cells:List AV)(off sz:Nat)(r:List (Nat×Nat×AV))(xc:List AV):Jp cells off sz r xc true=en (cells.take off++xc++cells.drop (off+sz)) r:=_root_.id rfl
theorem w7 (cells:List AV):en cells []=some cells:=_root_.id rfl
theorem rB (cells:List AV)(off sz:Nat)(x:AV)(r:List (Nat×Nat×AV)):en cells ((off,sz,x)::r)=Jp cells off sz r x.cells (x.known&&decide (x.cells.length=sz)&&decide (off+sz≤cells.length)):=by
 simp only[en]
 by_cases h:x.known=true∧x.cells.length=sz∧off+sz≤cells.length
 ·rw[if_pos h,h.1,decide_eq_true h.2.1,decide_eq_true h.2.2];rfl
 ·rw[if_neg h]
  have:(x.known&&decide (x.cells.length=sz)&&decide (off+sz≤cells.length))=false:=by
   rw[Bool.eq_false_iff]
   intro hh
   simp only[Bool.and_eq_true,decide_eq_true_eq] at hh
   exact h ⟨hh.1.1,hh.1.2,hh.2⟩
  rw[this];rfl
theorem Ba (sz off:Nat)(cs:List AV):IW sz off cs=if off+sz≤cs.length then some (fL ((cs.drop off).take sz)) else none:=_root_.id rfl
section
variable {P:Program}{G:Nat→List PV}
def yF {ι:Type}(A:List (Nat×Nat×Nat×Nat))(S:ι→St)(Inv:ι→Prop)(μ:ι→Nat)(x:ι)(m0:Nat)(keep:List Nat)(id:Nat)(keepX:List Nat)(fin:ι→Prop)(Q:AExit→St→Prop):AExit→St→Prop
 | .norm,s'=>∃ x',Hd A m0 keep s' (S x')∧Inv x'∧μ x'<μ x
 | .exit i,s'=>if i=id then ∃ x',fin x'∧norm m0 keepX s'=norm m0 keepX (S x') else Q (.exit i) s'
 | .ret,s'=>Q .ret s'
theorem nP {ι:Type}(A:List (Nat×Nat×Nat×Nat))(S:ι→St)(Inv:ι→Prop)(μ:ι→Nat)(x:ι)(m0:Nat)(keep:List Nat)(id:Nat)(keepX:List Nat)(fin:ι→Prop)(Q:AExit→St→Prop)(s:St):yF A S Inv μ x m0 keep id keepX fin Q .norm s = ∃ x',Hd A m0 keep s (S x')∧Inv x'∧μ x'<μ x:=_root_.id rfl
theorem nQ {ι:Type}(A:List (Nat×Nat×Nat×Nat))(S:ι→St)(Inv:ι→Prop)(μ:ι→Nat)(x:ι)(m0:Nat)(keep:List Nat)(id:Nat)(keepX:List Nat)(fin:ι→Prop)(Q:AExit→St→Prop)(i:Nat)(s:St):yF A S Inv μ x m0 keep id keepX fin Q (.exit i) s=if i=id then (∃ x',fin x'∧norm m0 keepX s=norm m0 keepX (S x')) else Q (.exit i) s:=_root_.id rfl
theorem sy {ι:Type}(A:List (Nat×Nat×Nat×Nat))(S:ι→St)(Inv:ι→Prop)(μ:ι→Nat)(x:ι)(m0:Nat)(keep:List Nat)(id:Nat)(keepX:List Nat)(fin:ι→Prop)(Q:AExit→St→Prop)(s:St):yF A S Inv μ x m0 keep id keepX fin Q .ret s=Q .ret s:=_root_.id rfl
end
end Go.Ab
namespace Go.Ab
open Go Go.RowKit
def Kap.cut (κ:Kap)(k:Nat):Kap:=⟨κ.w,fun r=>if r<k then κ.nm r else none,κ.imm⟩
theorem Kap.cut_ext (κ:Kap)(k:Nat):Ext (κ.cut k) κ:=by
 refine⟨fun _ _ h=>h,fun _ _ _ _ h=>h,fun r d h=>?_,fun _ _ h _=>h⟩
 simp only[Kap.cut] at h
 split at h
 ·exact h
 ·cases h
theorem Kap.cut_none (κ:Kap)(k r:Nat)(h:k≤r):(κ.cut k).nm r=none:=by simp only[Kap.cut];rw[if_neg (by omega)]
def lN (P:Program)(G:Nat→List PV)(k:Nat)(f:Nat)(args:List AV)(sto:List (Nat×Blk))(next:Nat)(Q:AV→List (Nat×Blk)→Nat→Prop):Prop:=
 bd P f=true∧∀ (κ:Kap) (vals:Array Value),SRel (bn κ (fun r=>lookB r sto) G) κ (fun r=>lookB r sto)→(∀ r,next≤r→κ.nm r=none)→vals.size=args.length →
  (∀ (i:Nat) (x:AV),args[i]? = some x→ARel κ x (vals.getD i Go.undef)) →
  Calls P f vals κ.w fun e w'=>∃ u v κ' sto' next',e = .returned u∧κ'.w=w'∧Ext (κ.cut k) κ'∧Left (bn κ (fun r=>lookB r sto) G) κ.imm κ'∧ARel κ' v u ∧
   SRel (bn κ (fun r=>lookB r sto) G) κ' (fun r=>lookB r sto')∧(∀ r,next'≤r→κ'.nm r=none)∧Q v sto' next'
section
variable {P:Program}{G:Nat→List PV}
theorem lN.of_code {muts:List Nat}{k f:Nat}{fn:AFn}{args:List AV}{sto:List (Nat×Blk)}{next:Nat}{R:AV→List (Nat×Blk)→Nat→Prop}(hc:cFn P muts f=some fn)(hn:args.length≤fn.N)
  (hv:vc P G k fn.body (FnK G fn.res R) ⟨bP args,sto,next⟩):lN P G k f args sto next R:=by
 unfold cFn at hc
 split at hc
 ·rename_i fnc hfn
  split at hc
  ·rename_i co hco
   split at hc
   ·rename_i rs hrs
    split at hc
    ·rename_i hok
     split at hc
     ·rename_i b li hb
      cases hc
      refine⟨hok,fun κ vals hS hf hsz hargs=>?_⟩
      refine callsIn_wide.1 (callsIn_of_wp_marks (n:=0) hfn hco trivial ?_ rfl)
      let c:=bn κ (fun r=>lookB r sto) G
      have hsize:(vals++Array.replicate (fnc.ntmps - vals.size) Go.undef).size=fnc.ntmps:=by
       simp only at hn
       simp only[Array.size_append,Array.size_replicate];omega
      have hR:Rel c (κ.cut k) fnc.ntmps ⟨bP args,sto,next⟩ ⟨vals++Array.replicate (fnc.ntmps - vals.size) Go.undef,[]⟩ κ.w κ:=by
       refine⟨rfl,κ.cut_ext k,hS,⟨rfl,rfl,rfl,Nat.le_refl _,fun _ _ _=>rfl,fun _ _ h=>.inl h⟩,fun i=>?_,hsize,bW.nil _ _,hf⟩
       show ARel κ (look i ((args.zipIdx 0).map fun p=>(p.2,p.1))) _
       rw[gG,if_pos (Nat.zero_le _),Nat.sub_zero]
       cases hx:args[i]? with
       | none=>exact .any _
       | some x=>
         have hi:i<vals.size:=by rw[hsz];exact (List.getElem?_eq_some_iff.1 hx).1
         have:=hargs i x hx
         have e:(vals++Array.replicate (fnc.ntmps - vals.size) Go.undef).getD i Go.undef=vals.getD i Go.undef:=by
          simp only[Array.getD_eq_getD_getElem?]
          rw[Array.getElem?_append_left hi]
         rw[e];exact this
      refine Go.wpIn_mono (n6 (P:=P) (N:=fnc.ntmps) co c (κ.cut k) k none 0 b [] (eY rs) li (FnK G rs R) _ _ κ.w κ (.inl rfl) (fun r hr=>κ.cut_none k r hr) (Nat.le_refl _) hb hR hv) ?_
      have fin:∀ (s:St) (κ':Kap) (a:Act) (w:World),Rel c (κ.cut k) fnc.ntmps s a w κ'→aC (dq G s rs) (Du R s)→∃ v,(results fnc a.tmps).run P w = .ok v w ∧
        ∃ u v' κ'' sto' next',Ending.returned v = .returned u∧κ''.w=w∧Ext (κ.cut k) κ''∧Left c κ.imm κ''∧ARel κ'' v' u∧SRel c κ'' (fun r=>lookB r sto')∧(∀ r,next'≤r→κ''.nm r=none)∧R v' sto' next':=by
       intro s κ' a w hR hF
       simp only[aC] at hF
       split at hF
       ·rename_i vs hvs
        obtain⟨us,h1,h2,h3⟩:=gu (P:=P) hR fnc.results.toList rs vs hrs hvs
        have hrun:(results fnc a.tmps).run P w = .ok (if h:us.toArray.size=1 then us.toArray[0] else .tuple us.toArray) w:=by
         rw[iB,Sem.run_bind,Array.mapM_eq_mapM_toList]
         simp only[Sem.run_bind,Sem.run_map]
         rw[h1]
         simp
        refine⟨_,hrun,_,sF vs,κ',s.sto,s.next,rfl,hR.w_eq,hR.ext0,hR.left,?_,hR.rel,hR.fresh,hF⟩
        by_cases hl:vs.length=1
        ·obtain⟨v,rfl⟩:=List.length_eq_one_iff.1 hl
         obtain⟨u,rfl⟩:=List.length_eq_one_iff.1 (h2.trans hl)
         have:=h3 0 v rfl
         exact this
        ·have hul:¬ us.toArray.size=1:=by simpa[h2] using hl
         rw[dif_neg hul]
         have hrv:sF vs=kJ vs:=by
          unfold sF
          split
          ·simp at hl
          ·rfl
         rw[hrv]
         exact kH (.tup _ _ (by simpa using h2) (fun i x hx=>by rw[aw];simpa using h3 i x hx))
       ·exact hF.elim
      intro e a w hq
      cases e with
      | normal=>
        obtain⟨s,κ',hR,hF⟩:=hq
        exact eI (Nat.le_refl _) rfl hR fun w' κ'' hR'=>fin s κ'' ⟨a.tmps,[]⟩ w' hR' hF
      | ret=>
        obtain⟨s,κ',hR,hF⟩:=hq
        exact eI (Nat.le_refl _) rfl hR fun w' κ'' hR'=>fin s κ'' ⟨a.tmps,[]⟩ w' hR' hF
      | exit id=>
        obtain⟨s,κ',hR,hF⟩:=hq
        exact hF.elim
      | goto l=>exact hq.elim
      | panic ch=>exact hq.elim
      | outgrown=>exact hq.elim
     ·cases hc
    ·cases hc
   ·cases hc
  ·cases hc
 ·cases hc
def bA:List Blk→Nat→List (Nat×Blk)
 | [],_=>[]
 | b::r,k=>(k,b)::bA r (k+1)
theorem iK:∀ (bs:List Blk) (k i:Nat),lookB i (bA bs k)=if k≤i then bs.getD (i - k) .none else .none
 | [],k,i=>by simp[bA,lookB]
 | b::r,k,i=>by
   simp only[bA,lookB]
   by_cases h:k=i
   ·subst h;simp
   ·rw[if_neg h,iK r (k+1) i]
    by_cases hk:k≤i
    ·rw[if_pos (by omega),if_pos hk,show i - k=(i - (k+1))+1 by omega];simp
    ·rw[if_neg (by omega),if_neg hk]
theorem eh (bs:List Blk):(fun r=>lookB r (bA bs 0))=fun r=>bs.getD r .none:=by
 funext r;rw[iK];simp
def cm (P:Program)(G:Nat→List PV)(k f:Nat)(args:List AV)(bs:List Blk)(v:AV)(bs':List Blk):Prop:=
 lN P G k f args (bA bs 0) bs.length fun v' sto' next'=>v'=v∧sto'=bA bs' 0∧next'=bs'.length
def F1 (k:Nat)(v:AV)(bs':List Blk)(v':AV)(sto':List (Nat×Blk))(next':Nat):Prop:=
 Wk k ⟨[(0,v')],sto',next'⟩ ⟨[(0,v)],bA bs' 0,bs'.length⟩
theorem cm.of_lcalls {k f:Nat}{args:List AV}{bs:List Blk}{v:AV}{bs':List Blk}(h:lN P G k f args (bA bs 0) bs.length (F1 k v bs')):cm P G k f args bs v bs':=by
 obtain⟨hcal,h⟩:=h
 refine⟨hcal,fun κ vals hS hf hsz hargs=>(h κ vals hS hf hsz hargs).mono ?_⟩
 rintro e w' ⟨u,v',κ',sto',next',rfl,rfl,he,hL,hv,hS',hf',hw⟩
 obtain⟨κ'',hR⟩:=hw _ (κ.cut k) κ' 1 ⟨#[u],[]⟩ κ'.w (fun r hr=>κ.cut_none k r hr) ⟨rfl,he,hS',hL,fun i=>by
  show ARel κ' (look i [(0,v')]) _
  by_cases hi:0=i
  ·subst hi;simpa[look] using hv
  ·simp only[look,if_neg hi];exact .any _,rfl,bW.nil _ _,hf'⟩
 refine⟨u,v,κ'',_,_,rfl,hR.w_eq,hR.ext0,hR.left,?_,hR.rel,hR.fresh,rfl,rfl,rfl⟩
 have:=hR.env 0
 simpa[St.E,look] using this
theorem cm.intro {muts:List Nat}{k f:Nat}{fn:AFn}{args:List AV}{bs:List Blk}{v:AV}{bs':List Blk}(hc:cFn P muts f=some fn)(hn:args.length≤fn.N)
  (hv:vc P G k fn.body (FnK G fn.res (F1 k v bs')) ⟨bP args,bA bs 0,bs.length⟩):cm P G k f args bs v bs':=
 cm.of_lcalls (lN.of_code hc hn hv)
def gIn (next:Nat):List Nat→Nat→Nat
 | [],i=>next+i
 | r::_,0=>r
 | _::q,i+1=>gIn next q i
def gSo (next:Nat)(rs:List Nat)(r:Nat):Option Nat:=some (gIn next rs r)
theorem gO (next:Nat):∀ (rs:List Nat) (i:Nat) (r:Nat),rs[i]? = some r→gIn next rs i=r
 | [],i,r,h=>by simp at h
 | x::q,0,r,h=>by simpa[gIn] using h
 | x::q,i+1,r,h=>by simpa[gIn] using gO next q i r (by simpa using h)
theorem iM (next:Nat):∀ (rs:List Nat) (i:Nat),rs.length≤i→gIn next rs i=next+(i - rs.length)
 | [],i,h=>by simp[gIn]
 | x::q,0,h=>by simp at h
 | x::q,i+1,h=>by
   simp only[List.length_cons] at h
   rw[gIn,iM next q i (by omega)]
   simp
mutual
theorem unren {κ κ':Kap}(hw:κ'.w=κ.w)(hi:κ'.imm=κ.imm){g:Nat→Nat}(hf:∀ r,κ'.nm r=κ.nm (g r)):∀ (x:AV) (v:Value),ARel κ (x.ren fun r=>some (g r)) v→ARel κ' x v
 | .pv p,v,h=>by
   simp only[AV.ren] at h
   cases h with
   | pv _ _ hp=>exact .pv _ _ (by rw[hw,hi];exact hp)
 | .any,v,h=>.any v
 | .ptr r o,v,h=>by
   simp only[AV.ren] at h
   cases h with
   | ptr _ _ b n hn=>exact .ptr _ _ b n (by rw[hf r];exact hn)
 | .row r a b c,v,h=>by
   simp only[AV.ren] at h
   cases h with
   | row _ _ _ _ bb n cap hn h1 h2 h3 h4=>exact .row _ _ _ _ bb n cap (by rw[hf r];exact hn) h1 h2 h3 h4
   | row0 _ _ hn=>exact .row0 _ _ (by rw[hf r];exact hn)
 | .olist r a l,v,h=>by
   simp only[AV.ren] at h
   cases h with
   | olist _ _ _ _ hn hp hs=>exact .olist _ _ _ _ (by rw[hf r];exact hn) (by rw[hw,hi];exact hp) hs
 | .mp r,v,h=>by
   simp only[AV.ren] at h
   cases h with
   | mp _ b hn=>exact .mp _ _ (by rw[hf r];exact hn)
 | .agg cs,v,h=>by
   simp only[AV.ren] at h
   cases h with
   | agg _ vs hl hr=>
     obtain⟨h1,h2⟩:=gl hw hi hf cs vs hr
     exact .agg _ _ (by rw[← h1];exact hl) h2
 | .tup cs,v,h=>by
   simp only[AV.ren] at h
   cases h with
   | tup _ vs hl hr=>
     obtain⟨h1,h2⟩:=gl hw hi hf cs vs hr
     exact .tup _ _ (by rw[← h1];exact hl) h2
 | .clo g fs cs,v,h=>by
   simp only[AV.ren] at h
   cases h with
   | clo _ _ _ vs us hl hr hl' hr'=>
     obtain⟨h1,h2⟩:=gl hw hi hf fs vs hr
     obtain⟨h3,h4⟩:=gl hw hi hf cs us hr'
     exact .clo _ _ _ _ _ (by rw[← h1];exact hl) h2 (by rw[← h3];exact hl') h4
theorem gl {κ κ':Kap}(hw:κ'.w=κ.w)(hi:κ'.imm=κ.imm){g:Nat→Nat}(hf:∀ r,κ'.nm r=κ.nm (g r)):∀ (xs:List AV) (vs:Array Value),
  (∀ (i:Nat) (x:AV),(AV.renL (fun r=>some (g r)) xs)[i]? = some x→ARel κ x (vs.getD i Go.undef))→(AV.renL (fun r=>some (g r)) xs).length=xs.length∧∀ (i:Nat) (x:AV),xs[i]? = some x→ARel κ' x (vs.getD i Go.undef)
 | [],vs,h=>by simp[AV.renL]
 | x::r,vs,h=>by
   have e:∀ i,(vs.extract 1 vs.size).getD i Go.undef=vs.getD (i+1) Go.undef:=by
    intro i
    simp only[Array.getD_eq_getD_getElem?,Array.getElem?_extract]
    by_cases hh:i<min vs.size vs.size - 1
    ·rw[if_pos hh];congr 2;omega
    ·rw[if_neg hh,Array.getElem?_eq_none (by omega)]
   obtain⟨h1,h2⟩:=gl hw hi hf r (vs.extract 1 vs.size) (fun i y hy=>by
    have:=h (i+1) y (by simpa[AV.renL] using hy)
    rw[e];exact this)
   refine⟨by simp[AV.renL,h1],fun i y hy=>?_⟩
   cases i with
   | zero=>
     simp only[List.getElem?_cons_zero,Option.some.injEq] at hy
     subst hy
     exact unren hw hi hf x _ (h 0 _ (by simp[AV.renL]))
   | succ i=>
     simp only[List.getElem?_cons_succ] at hy
     have:=h2 i y hy
     rw[e] at this;exact this
end
theorem dj.unren {κ κ':Kap}(hw:κ'.w=κ.w)(hi:κ'.imm=κ.imm){g:Nat→Nat}(hf:∀ r,κ'.nm r=κ.nm (g r)){r:Nat}{B:Blk}(h:dj κ (g r) (B.ren fun r=>some (g r))):dj κ' r B:=by
 cases B with
 | none=>trivial
 | cells T f l=>
   simp only[Blk.ren] at h
   rcases h with ⟨h1,h2,h3⟩ | ⟨b,n,cs,h1,h2,h3,h4,h5,h6,h7⟩
   ·refine .inl ⟨h1,?_,by rw[hf];exact h3⟩
    cases l with
    | nil=>rfl
    | cons x r=>simp[AV.renL] at h2
   ·obtain⟨q1,q2⟩:=gl hw hi hf l cs h6
    exact .inr ⟨b,n,cs,by rw[hf];exact h1,by rw[hw];exact h2,h3,by rw[← q1];exact h4,fun hb=>by rw[← q1];exact h5 hb,q2,by rw[hi];exact h7⟩
 | tok e sz=>
   simp only[Blk.ren] at h
   rcases h with h | ⟨g',n,cap,cur,h1,h2,h3⟩
   ·exact .inl (by rw[hf];exact h)
   ·exact .inr ⟨g',n,cap,cur,by rw[hf];exact h1,by rw[hw];exact h2,by rw[hi];exact h3⟩
 | mp l=>
   obtain⟨b,es,ck,h1,h2⟩:=h
   exact⟨b,es,ck,by rw[hf];exact h1,by rw[hw,hi];exact h2⟩
 | bts e l=>
   obtain⟨b,n,cs,fz,h1,h2⟩:=h
   exact⟨b,n,cs,fz,by rw[hf];exact h1,by rw[hw,hi];exact h2⟩
theorem dj.ren {κ κ':Kap}(hw:κ'.w=κ.w)(hi:κ'.imm=κ.imm){g:Nat→Nat}(hf:∀ r,κ'.nm (g r)=κ.nm r){r:Nat}{B:Blk}(h:dj κ r B):dj κ' (g r) (B.ren fun r=>some (g r)):=by
 have hf':∀ r r',(fun r=>some (g r)) r=some r'→κ'.nm r'=κ.nm r:=fun r r' h=>by cases h;exact hf r
 cases B with
 | none=>trivial
 | cells T f l=>
   simp only[Blk.ren]
   rcases h with ⟨h1,h2,h3⟩ | ⟨b,n,cs,h1,h2,h3,h4,h5,h6,h7⟩
   ·exact .inl ⟨h1,by rw[h2];simp only[AV.renL],by rw[hf];exact h3⟩
   ·obtain⟨q1,q2⟩:=cD hw hi hf' l cs h6
    exact .inr ⟨b,n,cs,by rw[hf];exact h1,by rw[hw];exact h2,h3,by rw[q1];exact h4,fun hb=>by rw[q1];exact h5 hb,q2,by rw[hi];exact h7⟩
 | tok e sz=>
   simp only[Blk.ren]
   rcases h with h | ⟨g',n,cap,cur,h1,h2,h3⟩
   ·exact .inl (by rw[hf];exact h)
   ·exact .inr ⟨g',n,cap,cur,by rw[hf];exact h1,by rw[hw];exact h2,by rw[hi];exact h3⟩
 | mp l=>
   obtain⟨b,es,ck,h1,h2⟩:=h
   exact⟨b,es,ck,by rw[hf];exact h1,by rw[hw,hi];exact h2⟩
 | bts e l=>
   obtain⟨b,n,cs,fz,h1,h2⟩:=h
   exact⟨b,n,cs,fz,by rw[hf];exact h1,by rw[hw,hi];exact h2⟩
def qE (f:Nat→Option Nat):List Blk→Nat→(Nat→Nat)→List (Nat×Blk)
 | [],_,_=>[]
 | b::r,i,g=>(g i,b.ren f)::qE f r (i+1) g
def fc:List Nat→List (Nat×Blk)
 | []=>[]
 | r::q=>(r,.none)::fc q
def eT (sto:List (Nat×Blk))(f:Nat→Option Nat):List Nat→List Blk→Prop
 | [],[]=>True
 | r::rs,b::bs=>BlkZ (lookB r sto) (b.ren f)∧eT sto f rs bs
 | _,_=>False
theorem eT.get {sto:List (Nat×Blk)}{f:Nat→Option Nat}:∀ {rs:List Nat} {bs:List Blk},eT sto f rs bs→rs.length=bs.length∧∀ (i r:Nat) (b:Blk),rs[i]? = some r→bs[i]? = some b→BlkZ (lookB r sto) (b.ren f)
 | [],[],h=>⟨rfl,by simp⟩
 | r::rs,b::bs,h=>by
   obtain⟨h1,h2⟩:=h
   obtain⟨h3,h4⟩:=eT.get h2
   refine⟨by simp[h3],fun i q d hq hd=>?_⟩
   cases i with
   | zero=>simp at hq hd;subst hq;subst hd;exact h1
   | succ i=>exact h4 i q d (by simpa using hq) (by simpa using hd)
 | [],_::_,h=>h.elim
 | _::_,[],h=>h.elim
end
end Go.Ab
namespace Go.Ab
open Go Go.RowKit
section
variable {P:Program}{G:Nat→List PV}
theorem dj.named {κ:Kap}{r:Nat}{B:Blk}(h:dj κ r B)(hB:B≠.none):∃ d,κ.nm r=some d:=by
 cases B with
 | none=>exact absurd rfl hB
 | cells T f l=>
   rcases h with ⟨_,_,h⟩ | ⟨b,n,cs,h,_⟩
   ·exact⟨_,h⟩
   ·exact⟨_,h⟩
 | tok e sz=>
   rcases h with h | ⟨g,n,cap,cur,h,_⟩
   ·exact⟨_,h⟩
   ·exact⟨_,h⟩
 | mp l=>
   obtain⟨b,es,ck,h,_⟩:=h
   exact⟨_,h⟩
 | bts e l=>
   obtain⟨b,n,cs,fz,h,_⟩:=h
   exact⟨_,h⟩
theorem Blk.ren_ne {f:Nat→Option Nat}{b:Blk}:b.ren f≠.none↔b≠.none:=by
 cases b<;>simp[Blk.ren]
theorem Ge {next:Nat}{rs:List Nat}(hnd:rs.Nodup)(hlt:∀ r∈rs,r<next){i j:Nat}(h:gIn next rs i=gIn next rs j):i=j:=by
 by_cases hi:i<rs.length
 ·have ei:=gO next rs i _ (List.getElem?_eq_getElem hi)
  have hi':=hlt _ (List.getElem_mem hi)
  by_cases hj:j<rs.length
  ·have ej:=gO next rs j _ (List.getElem?_eq_getElem hj)
   rw[ei,ej] at h
   exact (List.getElem_inj hnd).1 h
  ·have ej:=iM next rs j (by omega)
   omega
 ·have ei:=iM next rs i (by omega)
  by_cases hj:j<rs.length
  ·have ej:=gO next rs j _ (List.getElem?_eq_getElem hj)
   have hj':=hlt _ (List.getElem_mem hj)
   omega
  ·have ej:=iM next rs j (by omega)
   omega
theorem k8 {f:Nat→Option Nat}{g:Nat→Nat}(hg:∀ i j,g i=g j→i=j)(rest:List (Nat×Blk))(r:Nat):∀ (bs:List Blk) (k:Nat),
  (∀ i b,bs[i]? = some b→g (k+i)=r→lookB r (qE f bs k g++rest)=b.ren f)∧((∀ i,i<bs.length→g (k+i)≠r)→lookB r (qE f bs k g++rest)=lookB r rest)
 | [],k=>⟨by simp,fun _=>rfl⟩
 | b::q,k=>by
   obtain⟨h1,h2⟩:=k8 hg rest r q (k+1)
   refine⟨fun i b' hi hr=>?_,fun h=>?_⟩
   ·simp only[qE,List.cons_append,lookB]
    cases i with
    | zero=>
      simp only[List.getElem?_cons_zero,Option.some.injEq] at hi
      subst hi
      rw[if_pos (by simpa using hr)]
    | succ i=>
      rw[if_neg (fun e=>by have:=hg _ _ (e.trans hr.symm);omega)]
      exact h1 i b' (by simpa using hi) (by rw[← hr];congr 1;omega)
   ·simp only[qE,List.cons_append,lookB]
    rw[if_neg (by have:=h 0 (by simp);simpa using this)]
    exact h2 fun i hi=>by
     have:=h (i+1) (by simp;omega)
     rwa [show k+(i+1)=k+1+i by omega] at this
theorem iJ (rest:List (Nat×Blk))(r:Nat):∀ (l:List Nat),lookB r (fc l++rest)=if r∈l then .none else lookB r rest
 | []=>by simp[fc]
 | x::q=>by
   simp only[fc,List.cons_append,lookB,iJ rest r q,List.mem_cons]
   by_cases h:x=r
   ·subst h;simp
   ·rw[if_neg h]
    by_cases hq:r∈q
    ·simp[hq]
    ·have:¬ (r=x∨r∈q):=by rintro (e | e);exact h e.symm;exact hq e
     rw[if_neg hq,if_neg this]
theorem cm.frame {k f:Nat}{args0:List AV}{bs:List Blk}{v:AV}{bs':List Blk}(h:cm P G k f args0 bs v bs'){rs:List Nat}{args:List AV}{sto:List (Nat×Blk)}{next:Nat}
  (hargs:AVzL args (AV.renL (gSo next rs) args0)) (hbs:eT sto (gSo next rs) rs bs) (hnd:rs.Nodup) (hlt:∀ r∈rs,r<next) (hk:k≤bs.length) (hk':k≤bs'.length) (hne:∀ b∈bs.take k,b≠.none) :
  bq P G f args sto next fun v' sto' next'=>v'=v.ren (gSo next (rs.take k))∧sto'=qE (gSo next (rs.take k)) bs' 0 (gIn next (rs.take k))++(fc (rs.drop k)++sto)∧next'=next+(bs'.length - k):=by
 obtain⟨hcal,h⟩:=h
 refine⟨hcal,fun κ vals hS hf hsz hvals=>?_⟩
 obtain⟨hrl,hat⟩:=hbs.get
 let κ1:Kap:=⟨κ.w,fun i=>κ.nm (gIn next rs i),κ.imm⟩
 have hσ1:(fun r=>lookB r (bA bs 0))=fun r=>bs.getD r .none:=eh bs
 have hlook:∀ i b,bs[i]? = some b→∃ r,rs[i]? = some r∧gIn next rs i=r∧dj κ r (b.ren (gSo next rs))∧(b≠.none→lookB r sto≠.none):=by
  intro i b hb
  have hi:i<rs.length:=by rw[hrl];exact (List.getElem?_eq_some_iff.1 hb).1
  have hr:=List.getElem?_eq_getElem hi
  obtain⟨q1,q2⟩:=(hat i _ b hr hb).rel (hS.blk rs[i])
  exact⟨rs[i],hr,gO next rs i _ hr,q1,fun hb'=>q2 (Blk.ren_ne.2 hb')⟩
 have hlive:∀ i,bs.getD i .none≠.none→∃ b,bs[i]? = some b∧b≠.none:=by
  intro i hi
  rw[List.getD_eq_getElem?_getD] at hi
  cases hb:bs[i]? with
  | none=>rw[hb] at hi;exact absurd rfl hi
  | some b=>rw[hb] at hi;exact⟨b,rfl,hi⟩
 have hB1:∀ i b,bs[i]? = some b→dj κ1 i b:=by
  intro i b hb
  obtain⟨r,hr,hgr,hB,_⟩:=hlook i b hb
  exact dj.unren (κ:=κ) (κ':=κ1) rfl rfl (g:=gIn next rs) (fun _=>rfl) (by rw[hgr];exact hB)
 have hl1:∀ b,(bn κ1 (fun r=>lookB r (bA bs 0)) G).lent b→(bn κ (fun r=>lookB r sto) G).lent b:=by
  rintro b ⟨i,d,h1,h2,h3⟩
  simp only[congrFun hσ1 i] at h1
  obtain⟨b',hb,hbn⟩:=hlive i h1
  obtain⟨r,hr,hgr,_,hn⟩:=hlook i b' hb
  exact⟨r,d,hn hbn,by rw[← hgr];exact h2,h3⟩
 have hm1:∀ b,(bn κ1 (fun r=>lookB r (bA bs 0)) G).mine b→(bn κ (fun r=>lookB r sto) G).mine b:=fun b hb=>hb.elim .inl (fun h=>.inr (hl1 b h))
 have hS1:SRel (bn κ1 (fun r=>lookB r (bA bs 0)) G) κ1 (fun r=>lookB r (bA bs 0)):=by
  refine⟨fun i=>?_,fun i j d d' b h1 h2 hij hd hd' hb=>?_,fun i d b h1 hd hb=>.inr ⟨i,d,h1,hd,hb⟩,hS.immLt,?_⟩
  ·rw[congrFun hσ1 i]
   show dj κ1 i (bs.getD i .none)
   rw[List.getD_eq_getElem?_getD]
   cases hb:bs[i]? with
   | none=>trivial
   | some b=>exact hB1 i b hb
  ·simp only[congrFun hσ1 i] at h1
   simp only[congrFun hσ1 j] at h2
   obtain⟨b1,hb1,hn1⟩:=hlive i h1
   obtain⟨b2,hb2,hn2⟩:=hlive j h2
   obtain⟨r,hr,hgr,_,hn⟩:=hlook i b1 hb1
   obtain⟨r',hr',hgr',_,hn'⟩:=hlook j b2 hb2
   refine hS.apart r r' d d' b (hn hn1) (hn' hn2) (fun e=>hij ?_) (by rw[← hgr];exact hd) (by rw[← hgr'];exact hd') hb
   obtain⟨hi,ei⟩:=List.getElem?_eq_some_iff.1 hr
   obtain⟨hj,ej⟩:=List.getElem?_eq_some_iff.1 hr'
   exact (List.getElem_inj hnd).1 (ei.trans (e.trans ej.symm))
  ·refine⟨fun g o p hp=>?_,fun g hg=>?_⟩
   ·exact hS.glob.1 g o p hp
   ·obtain⟨h1,h2,h3⟩:=hS.glob.2 g hg
    exact⟨h1,fun hl=>h2 (hl1 g hl),h3⟩
 have hf1:∀ r,bs.length≤r→κ1.nm r=none:=fun r hr=>by
  show κ.nm (gIn next rs r)=none
  rw[iM next rs r (by omega)]
  exact hf _ (by omega)
 have hlen0:args0.length=args.length:=by
  rw[hargs.length]
  have:∀ (f:Nat→Option Nat) (l:List AV),(AV.renL f l).length=l.length:=by
   intro f l
   induction l with
   | nil=>simp[AV.renL]
   | cons x r ih=>simp[AV.renL,ih]
  rw[this]
 have hv1:∀ (i:Nat) (x:AV),args0[i]? = some x→ARel κ1 x (vals.getD i Go.undef):=
  (gl (κ:=κ) (κ':=κ1) rfl rfl (g:=gIn next rs) (fun _=>rfl) args0 vals (fun i x hx=>by
   obtain⟨y,hy,hyx⟩:=hargs.get i x hx
   exact hyx.rel (hvals i y hy))).2
 refine (h κ1 vals hS1 hf1 (by omega) hv1).mono ?_
 rintro e w' ⟨u,v',κ1',sto',next',rfl,rfl,he,hL,hv,hS',hf',rfl,rfl,rfl⟩
 obtain⟨g,hgdef⟩:∃ g,g=gIn next (rs.take k):=⟨_,rfl⟩
 have htl:(rs.take k).length=k:=by rw[List.length_take];omega
 have hg1:∀ i,i<k→∃ r,rs[i]? = some r∧g i=r∧r<next:=by
  intro i hi
  have hi':i<rs.length:=by omega
  have hr:=List.getElem?_eq_getElem hi'
  refine⟨rs[i],hr,?_,hlt _ (List.getElem_mem hi')⟩
  rw[hgdef]
  exact gO next _ i _ (by rw[List.getElem?_take,if_pos hi];exact hr)
 have hg2:∀ i,k≤i→g i=next+(i - k):=fun i hi=>by rw[hgdef,iM next _ i (by omega),htl]
 have hginj:∀ i j,g i=g j→i=j:=fun i j hij=>by
  rw[hgdef] at hij
  exact Ge (hnd.sublist (List.take_sublist _ _)) (fun r hr=>hlt r (List.mem_of_mem_take hr)) hij
 have hso:gSo next (rs.take k)=fun r=>some (g r):=by rw[hgdef];rfl
 rw[hso,← hgdef]
 let κ':Kap:=⟨κ1'.w,fun r=>if r<next then κ.nm r else κ1'.nm (k+(r - next)),κ1'.imm⟩
 have hnmk:∀ i,i<k→κ1'.nm i=κ1.nm i:=by
  intro i hi
  have hib:i<bs.length:=by omega
  have hb:=List.getElem?_eq_getElem hib
  obtain⟨d,hd⟩:=(hB1 i _ hb).named (hne _ (List.mem_take_iff_getElem.2 ⟨i,by omega,rfl⟩))
  rw[hd]
  exact he.nm i d (by simp only[Kap.cut];rw[if_pos hi];exact hd)
 have hnm':∀ i,κ'.nm (g i)=κ1'.nm i:=by
  intro i
  by_cases hi:i<k
  ·obtain⟨r,hr,hgr,hrn⟩:=hg1 i hi
   show (if g i<next then κ.nm (g i) else κ1'.nm (k+(g i - next)))=_
   rw[hgr,if_pos hrn,hnmk i hi]
   show κ.nm r=κ.nm (gIn next rs i)
   rw[gO next rs i r hr]
  ·show (if g i<next then κ.nm (g i) else κ1'.nm (k+(g i - next)))=_
   rw[hg2 i (by omega),if_neg (by omega)]
   congr 1;omega
 have hext:Ext κ κ':=⟨fun b o hi=>he.imm b o hi,fun b o v hi hc=>he.cell b o v hi hc,fun r d hd=>by
  have hr:r<next:=by
   rcases Nat.lt_or_ge r next with h | h
   ·exact h
   ·rw[hf r h] at hd;cases hd
  show (if r<next then κ.nm r else _)=_
  rw[if_pos hr];exact hd,fun b o ho hc=>he.obj b o ho hc⟩
 have hout:∀ r d b,lookB r sto≠.none→r∉rs→κ.nm r=some d→d.block=some b→b<κ.w.heap.size∧¬ (bn κ1 (fun r=>lookB r (bA bs 0)) G).lent b:=by
  intro r d b h1 h2 h3 h4
  refine⟨(hS.blk r).lt h1 h3 h4,?_⟩
  rintro⟨i,d',q1,q2,q3⟩
  simp only[congrFun hσ1 i] at q1
  obtain⟨b',hb,hbn⟩:=hlive i q1
  obtain⟨r',hr',hgr,_,hn⟩:=hlook i b' hb
  refine hS.apart r r' d d' b h1 (hn hbn) (fun e=>h2 (e▸List.mem_of_getElem? hr')) h3 (by rw[← hgr];exact q2) h4 q3
 have hmem:∀ r,r∈rs→(∃ i,i<bs'.length∧g i=r)∨r∈rs.drop k:=by
  intro r hr
  obtain⟨i,hi⟩:=List.getElem?_of_mem hr
  by_cases hik:i<k
  ·obtain⟨r',hr',hgr,_⟩:=hg1 i hik
   rw[hi] at hr';cases hr'
   exact .inl ⟨i,by omega,hgr⟩
  ·refine .inr (List.mem_of_getElem? (i:=i - k) ?_)
   rw[List.getElem?_drop,show k+(i - k)=i by omega];exact hi
 have hσ':∀ r,(∃ i b,bs'[i]? = some b∧g i=r∧lookB r (qE (fun r=>some (g r)) bs' 0 g++(fc (rs.drop k)++sto))=b.ren (fun r=>some (g r))) ∨
   lookB r (qE (fun r=>some (g r)) bs' 0 g++(fc (rs.drop k)++sto)) = .none∨(r∉rs∧(∀ i,i<bs'.length→g i≠r)∧lookB r (qE (fun r=>some (g r)) bs' 0 g++(fc (rs.drop k)++sto))=lookB r sto):=by
  intro r
  obtain⟨q1,q2⟩:=k8 (f:=fun r=>some (g r)) hginj (fc (rs.drop k)++sto) r bs' 0
  by_cases hi:∃ i,i<bs'.length∧g i=r
  ·obtain⟨i,hi,hgi⟩:=hi
   exact .inl ⟨i,bs'[i],List.getElem?_eq_getElem hi,hgi,q1 i _ (List.getElem?_eq_getElem hi) (by rw[Nat.zero_add];exact hgi)⟩
  ·have hni:∀ i,i<bs'.length→g i≠r:=fun i h1 h2=>hi ⟨i,h1,h2⟩
   have e:=q2 (fun i h1=>by rw[Nat.zero_add];exact hni i h1)
   rw[iJ] at e
   by_cases hr:r∈rs.drop k
   ·rw[if_pos hr] at e;exact .inr (.inl e)
   ·rw[if_neg hr] at e
    exact .inr (.inr ⟨fun h=>(hmem r h).elim hi hr,hni,e⟩)
 have hlive':∀ i b,bs'[i]? = some b→b.ren (fun r=>some (g r))≠.none→lookB i (bA bs' 0)≠.none:=by
  intro i b hb hbn
  have e2:lookB i (bA bs' 0)=bs'.getD i .none:=congrFun (eh bs') i
  rw[e2,List.getD_eq_getElem?_getD,hb]
  exact Blk.ren_ne.1 hbn
 refine⟨u,_,κ',_,_,rfl,rfl,hext,⟨hL.os,hL.tape,hL.output,hL.size,fun b hb hl=>hL.block b hb fun h=>hl (hl1 b h),fun b o hi=>(hL.imm b o hi).imp id (hm1 b)⟩,
  mm (κ:=κ1') (κ':=κ') rfl rfl (fun r r' hr=>by cases hr;exact hnm' r) v' u hv,?_,fun r hr=>?_,rfl,rfl,rfl⟩
 ·refine⟨fun r=>?_,fun r r' d d' b h1 h2 hrr hd hd' hb=>?_,fun r d b h1 hd hb=>?_,hS'.immLt,?_⟩
  ·show dj κ' r (lookB r _)
   rcases hσ' r with ⟨i,b,hb,hgi,e⟩ | e | ⟨hr,hni,e⟩
   ·rw[e,← hgi]
    refine dj.ren (κ:=κ1') (κ':=κ') rfl rfl hnm' ?_
    have:=hS'.blk i
    have e2:lookB i (bA bs' 0)=bs'.getD i .none:=congrFun (eh bs') i
    simp only[e2,List.getD_eq_getElem?_getD,hb] at this
    exact this
   ·rw[e];trivial
   ·rw[e]
    refine (hS.blk r).keep hext fun hbn d b hd hb=>?_
    obtain⟨q1,q2⟩:=hout r d b hbn hr hd hb
    refine⟨hL.block b q1 q2,fun o ho=>?_⟩
    rcases hL.imm b o ho with h | h | h
    ·exact h
    ·exact absurd q1 (Nat.not_lt.2 h)
    ·exact absurd h q2
  ·have cal:∀ r i b0 d,bs'[i]? = some b0→g i=r→b0.ren (fun r=>some (g r))≠.none→κ'.nm r=some d→lookB i (bA bs' 0)≠.none∧κ1'.nm i=some d:=by
    intro r i b0 d hb0 hgi hbn hd
    exact⟨hlive' i b0 hb0 hbn,by rw[← hnm' i,hgi];exact hd⟩
   have own:∀ r d,r∉rs→lookB r sto≠.none→κ'.nm r=some d→κ.nm r=some d:=by
    intro r d hr hbn hd
    obtain⟨d',hd'⟩:=(hS.blk r).named hbn
    have:=hext.nm r d' hd'
    rw[this] at hd;cases hd;exact hd'
   have mix:∀ r i b0 d d' b,bs'[i]? = some b0→b0.ren (fun r=>some (g r))≠.none→κ1'.nm i=some d→d.block=some b→lookB i (bA bs' 0)≠.none→r∉rs→lookB r sto≠.none→κ.nm r=some d'→d'.block≠some b:=by
    intro r i b0 d d' b hb0 hbn hd hdb hl hr hrl hd' hdb'
    obtain⟨q1,q2⟩:=hout r d' b hrl hr hd' hdb'
    rcases hS'.mine i d b hl hd hdb with h | h
    ·exact absurd q1 (Nat.not_lt.2 h)
    ·exact q2 h
   rcases hσ' r with ⟨i,b1,hb1,hgi,e⟩ | e | ⟨hr,hni,e⟩
   ·have h1':b1.ren (fun r=>some (g r))≠.none:=by
     intro h0;exact h1 (e.trans h0)
    obtain⟨p1,p2⟩:=cal r i b1 d hb1 hgi h1' hd
    rcases hσ' r' with ⟨j,b2,hb2,hgj,e'⟩ | e' | ⟨hr',hni',e'⟩
    ·have h2':b2.ren (fun r=>some (g r))≠.none:=by
      intro h0;exact h2 (e'.trans h0)
     obtain⟨p3,p4⟩:=cal r' j b2 d' hb2 hgj h2' hd'
     exact hS'.apart i j d d' b p1 p3 (fun hij=>hrr (by rw[← hgi,← hgj,hij])) p2 p4 hb
    ·exact absurd e' h2
    ·have h2':lookB r' sto≠.none:=by intro h0;exact h2 (e'.trans h0)
     exact mix r' i b1 d d' b hb1 h1' p2 hb p1 hr' h2' (own r' d' hr' h2' hd')
   ·exact absurd e h1
   ·have h1':lookB r sto≠.none:=by intro h0;exact h1 (e.trans h0)
    have hd0:=own r d hr h1' hd
    rcases hσ' r' with ⟨j,b2,hb2,hgj,e'⟩ | e' | ⟨hr',hni',e'⟩
    ·have h2':b2.ren (fun r=>some (g r))≠.none:=by
      intro h0;exact h2 (e'.trans h0)
     obtain⟨p3,p4⟩:=cal r' j b2 d' hb2 hgj h2' hd'
     intro hb'
     exact mix r j b2 d' d b hb2 h2' p4 hb' p3 hr h1' hd0 hb
    ·exact absurd e' h2
    ·have h2':lookB r' sto≠.none:=by intro h0;exact h2 (e'.trans h0)
     exact hS.apart r r' d d' b h1' h2' hrr hd0 (own r' d' hr' h2' hd') hb
  ·rcases hσ' r with ⟨i,b1,hb1,hgi,e⟩ | e | ⟨hr,hni,e⟩
   ·have h1':b1.ren (fun r=>some (g r))≠.none:=by
     intro h0;exact h1 (e.trans h0)
    refine hm1 b (hS'.mine i d b (hlive' i b1 hb1 h1') (by rw[← hnm' i,hgi];exact hd) hb)
   ·exact absurd e h1
   ·have h1':lookB r sto≠.none:=by intro h0;exact h1 (e.trans h0)
    obtain⟨d',hd'⟩:=(hS.blk r).named h1'
    have:=hext.nm r d' hd'
    rw[this] at hd;cases hd
    exact .inr ⟨r,d,h1',hd',hb⟩
  ·refine⟨hS'.glob.1,fun g' hg'=>?_⟩
   obtain⟨h1,h2,cs,T,fz,h3,h4⟩:=hS.glob.2 g' hg'
   exact⟨h1,h2,cs,T,fz,(hL.block g' h1 fun h=>h2 (hl1 g' h)).trans h3,h4⟩
 ·show (if r<next then κ.nm r else κ1'.nm (k+(r - next)))=none
  rw[if_neg (by omega)]
  exact hf' _ (by omega)
def DE (k:Nat)(rs:List Nat)(bs bs':List Blk)(next:Nat):Bool:=
 decide (k≤bs.length)&&decide (k≤bs'.length)&&(bs.take k).all (fun b=>match b with | .none=>false | _=>true)&&rs.all (fun r=>decide (r<next))&&decide rs.Nodup
theorem ab.lentK {k f:Nat}{args0:List AV}{bs:List Blk}{v:AV}{bs':List Blk}(h:cm P G k f args0 bs v bs')(rs:List Nat){args:List AV}{env:List (Nat×AV)}{sto:List (Nat×Blk)}{next:Nat}{K:AV→St→Prop}
  (hok:DE k rs bs bs' next=true) (hargs:AVzL args (AV.renL (gSo next rs) args0)) (hbs:eT sto (gSo next rs) rs bs)
  (hK:K (v.ren (gSo next (rs.take k))) ⟨env,qE (gSo next (rs.take k)) bs' 0 (gIn next (rs.take k))++(fc (rs.drop k)++sto),next+(bs'.length - k)⟩):ab P G f args ⟨env,sto,next⟩ K:=by
 simp only[DE,Bool.and_eq_true,decide_eq_true_eq,List.all_eq_true] at hok
 obtain⟨⟨⟨⟨h1,h2⟩,h3⟩,h4⟩,h5⟩:=hok
 refine ab.lent (h.frame hargs hbs h5 h4 h1 h2 (fun b hb e=>?_)) ?_
 ·have:=h3 b hb
  subst e;cases this
 ·rintro v' sto' next' ⟨rfl,rfl,rfl⟩
  exact hK
theorem ab.weak {f:Nat}{args args':List AV}{s s':St}{K:AV→St→Prop}(hw:WkC s args s' args')(h:ab P G f args' s' K):ab P G f args s K:=by
 obtain⟨s2,args2,hw2,h2⟩:=h
 refine⟨s2,args2,⟨hw2.1.trans hw.1,hw2.2.1.trans hw.2.1,fun c κ0 κ N a w vals hR hv=>?_⟩,?_⟩
 ·obtain⟨κ1,h3,h4⟩:=hw.2.2 c κ0 κ N a w vals hR hv
  exact hw2.2.2 c κ0 κ1 N a w vals h3 h4
 ·rcases h2 with ⟨ps,r,k1,k2,k3⟩ | ⟨Q,k1,k2⟩
  ·exact .inl ⟨ps,r,k1,k2,k3⟩
  ·refine .inr ⟨Q,k1,fun v sto' next' hq=>?_⟩
   have:=k2 v sto' next' hq
   rw[hw.2.1] at this
   exact this
end
end Go.Ab
namespace Go.Ab
open Go
theorem xm (k:Nat):bA [] k=[]:=_root_.id rfl
theorem rF (b:Blk)(r:List Blk)(k:Nat):bA (b::r) k=(k,b)::bA r (k+1):=_root_.id rfl
theorem ri (sto:List (Nat×Blk))(f:Nat→Option Nat):eT sto f [] []=True:=_root_.id rfl
theorem nr (sto:List (Nat×Blk))(f:Nat→Option Nat)(r:Nat)(rs:List Nat)(b:Blk)(bs:List Blk):eT sto f (r::rs) (b::bs)=(BlkZ (lookB r sto) (b.ren f)∧eT sto f rs bs):=_root_.id rfl
theorem Be (f:Nat→Option Nat)(i:Nat)(g:Nat→Nat):qE f [] i g=[]:=_root_.id rfl
theorem vo (f:Nat→Option Nat)(b:Blk)(r:List Blk)(i:Nat)(g:Nat→Nat):qE f (b::r) i g=(g i,b.ren f)::qE f r (i+1) g:=_root_.id rfl
theorem vF:fc []=[]:=_root_.id rfl
theorem qK (r:Nat)(q:List Nat):fc (r::q)=(r,.none)::fc q:=_root_.id rfl
theorem Jm (next:Nat)(rs:List Nat)(r:Nat):gSo next rs r=some (gIn next rs r):=_root_.id rfl
theorem Gd (next i:Nat):gIn next [] i=next+i:=_root_.id rfl
theorem Mj (next r:Nat)(q:List Nat):gIn next (r::q) 0=r:=_root_.id rfl
theorem Mi (next r i:Nat)(q:List Nat):gIn next (r::q) (i+1)=gIn next q i:=_root_.id rfl
def lp (s sz off len:Nat):Blk→Option (List PV)
 | .cells _ _ l=>if s=1∧sz=1∧off+len≤l.length∧((l.drop off).take len).all AV.one=true then pvs ((l.drop off).take len) else none
 | _=>none
theorem nD (σ:ap)(sz r s off len:Nat):aN σ sz (.row r s off len)=lp s sz off len (σ r):=by
 simp only[aN,lp]
 cases σ r<;>rfl
theorem hU (k:IntKind)(l:List Int):(l.map (PV.int k)).all PV.one=true:=by
 rw[List.all_eq_true];intro x hx;obtain⟨n,_,rfl⟩:=List.mem_map.1 hx;rfl
theorem xp {T:Nat}{f:Bool}{l:List PV}{n:Nat}(h:n≤l.length)(h1:l.all PV.one=true):lp 1 1 0 n (.cells T f (l.map .pv))=some (l.take n):=by
 have h2:(((l.map AV.pv).drop 0).take n)=(l.take n).map .pv:=by rw[List.drop_zero,List.map_take]
 have h3:((l.take n).map AV.pv).all AV.one=true:=by
  rw[List.all_eq_true] at h1 ⊢
  intro x hx
  obtain⟨y,hy,rfl⟩:=List.mem_map.1 hx
  exact h1 y (List.mem_of_mem_take hy)
 have h4:∀ k:List PV,pvs (k.map .pv)=some k:=by
  intro k
  induction k with
  | nil=>rfl
  | cons a r ih=>simp[pvs,AV.toPV,ih]
 simp only[lp]
 rw[if_pos (by refine⟨trivial,trivial,by simp;omega,by rw[h2];exact h3⟩),h2,h4]
theorem rK {T:Nat}{f:Bool}{k:IntKind}{p:List Int}{n:Nat}(h:n=p.length):lp 1 1 0 n (.cells T f ((p.map (PV.int k)).map .pv))=some (p.map (PV.int k)):=by
 rw[xp (by simp;omega) (hU k p),List.take_of_length_le (by simp;omega)]
theorem jj {sz r off n:Nat}{k:IntKind}{h:Int}(h0:0≤h)(h1:h≤n)(hs:0<sz):bK sz (.row r sz off n) none (some (.pv (.int k h)))=some (.row r sz off h.toNat):=by
 simp[bK,aM,h0,h1,hs]
theorem zJ (n:Nat):((n:Int)+1).toNat=n+1:=by omega
theorem C2 (n:Int):n+1 - 1=n:=by omega
def HU:List Nat→List Nat→List Nat
 | [],a=>a
 | x::r,a=>HU r (x::a)
theorem Ar (a:List Nat):HU [] a=a:=_root_.id rfl
theorem ka (x:Nat)(r a:List Nat):HU (x::r) a=HU r (x::a):=_root_.id rfl
theorem tY:∀ (l a:List Nat),l.reverse++a=HU l a
 | [],a=>rfl
 | x::r,a=>by rw[ka,← tY r (x::a)];simp
theorem wn (l:List (Nat×Blk)):aJ l.reverse=HU (aJ l) []:=by
 rw[← tY,List.append_nil];simp[aJ]
theorem Aq (ks rs:List Nat):dp 2 ks rs=(0::ks.map (· + 1),rs.map (· + 1)):=by simp[dp]
theorem aL (A:List (Nat×Nat×Nat×Nat)){k:Nat}{v v':AV}{bs':List Blk}{sto':List (Nat×Blk)}{next':Nat}(h:StZ (cJ A k [0] ⟨[(0,v')],sto',next'⟩) ⟨[(0,v)],bA bs' 0,bs'.length⟩):F1 k v bs' v' sto' next':=Wk.head h
theorem ab.nilB (r o e sz:Nat){P:Program}{G:Nat→List PV}{f:Nat}{args:List AV}{s:St}{K:AV→St→Prop}(he:(accB r o e sz s (lookB r s.sto)).env=s.env)(h:ab P G f args (accB r o e sz s (lookB r s.sto)) K):ab P G f args s K:=
 ab.weak (WkC.of (sW r o e sz s) he args) h
end Go.Ab
namespace Go.Ab
open Go Go.RowKit
section
variable {P:Program}{G:Nat→List PV}
theorem yR (F:St→Prop)(s:St):Ni F .norm s=F s:=_root_.id rfl
theorem CL (b:ACode)(Q:AExit→St→Prop)(e:List (Nat×AV))(σ:List (Nat×Blk))(n:Nat):GM (fun m=>vc P G m b) Q ⟨e,σ,n⟩=vc P G n b Q ⟨e,σ,n⟩:=_root_.id rfl
theorem A3 (e:List (Nat×AV)):A4 [] [] e=e:=_root_.id rfl
theorem u7 (p:Nat)(ps:List Nat)(x:PV)(xs:List PV)(e:List (Nat×AV)):A4 (p::ps) (x::xs) e=A4 ps xs ((p,.pv x)::e):=_root_.id rfl
def Lr {ι:Type}(A:List (Nat×Nat×Nat×Nat))(S:ι→St)(Inv:Nat→ι→Prop)(i m0:Nat)(keep:List Nat)(Q:AExit→St→Prop)(e0:List (Nat×AV)):AExit→St→Prop
 | .norm,s'=>∃ x',Hd A m0 keep ⟨e0,s'.sto,s'.next⟩ (S x')∧Inv (i+1) x'
 | .exit j,s'=>Q (.exit j) ⟨e0,s'.sto,s'.next⟩
 | .ret,s'=>Q .ret ⟨e0,s'.sto,s'.next⟩
theorem yH {ι:Type}(A:List (Nat×Nat×Nat×Nat))(S:ι→St)(Inv:Nat→ι→Prop)(i m0:Nat)(keep:List Nat)(Q:AExit→St→Prop)(e0 e:List (Nat×AV))(σ:List (Nat×Blk))(n:Nat):Lr A S Inv i m0 keep Q e0 .norm ⟨e,σ,n⟩ = ∃ x',Hd A m0 keep ⟨e0,σ,n⟩ (S x')∧Inv (i+1) x':=_root_.id rfl
theorem yI {ι:Type}(A:List (Nat×Nat×Nat×Nat))(S:ι→St)(Inv:Nat→ι→Prop)(i m0:Nat)(keep:List Nat)(Q:AExit→St→Prop)(e0:List (Nat×AV))(j:Nat)(e:List (Nat×AV))(σ:List (Nat×Blk))(n:Nat):Lr A S Inv i m0 keep Q e0 (.exit j) ⟨e,σ,n⟩=Q (.exit j) ⟨e0,σ,n⟩:=_root_.id rfl
theorem Db {ι:Type}(A:List (Nat×Nat×Nat×Nat))(S:ι→St)(Inv:Nat→ι→Prop)(i m0:Nat)(keep:List Nat)(Q:AExit→St→Prop)(e0 e:List (Nat×AV))(σ:List (Nat×Blk))(n:Nat):Lr A S Inv i m0 keep Q e0 .ret ⟨e,σ,n⟩=Q .ret ⟨e0,σ,n⟩:=_root_.id rfl
theorem Jl:∀ (lb:List PV),pvs (lb.map AV.pv)=some lb
 | []=>rfl
 | p::r=>by simp[pvs,AV.toPV,Jl r]
theorem Dh {ι:Type}(A:List (Nat×Nat×Nat×Nat))(ch:ι→List (Nat×AV))(chB:ι→List (Nat×Blk))(Inv:Nat→ι→Prop)(x0:ι){gf:Nat}{lb:List PV}{xs:List (List PV)}(hs:MJ P G gf lb xs)
  {m0:Nat} {f:AX} {ps keep:List Nat} {a b:ACode} {Q:AExit→St→Prop} {s:St}
  (h:∀ e0 σ0 n0,cJ A m0 keep s=⟨e0,σ0,n0⟩→StZ ⟨e0,σ0,n0⟩ ⟨ed e0 (ch x0),fa σ0 (chB x0),n0⟩∧Inv 0 x0∧bT (f.ev (fun i=>look i (ed e0 (ch x0))))=some (gf,[],lb.map AV.pv) ∧
   (∀ i x y,xs[i]? = some y→Inv i x→y.length=ps.length∧vc P G n0 a (Ni (GM (fun m=>vc P G m b) (Lr A (fun x=>⟨ed e0 (ch x),fa σ0 (chB x),n0⟩) Inv i m0 keep Q (ed e0 (ch x))))) ⟨A4 ps y (ed e0 (ch x)),fa σ0 (chB x),n0⟩) ∧
   ∀ x,Inv xs.length x→Q .norm ⟨ed e0 (ch x),fa σ0 (chB x),n0⟩):vc P G m0 (.range f ps keep a b) Q s:=by
 obtain⟨h1,h2,h3,h4,h5⟩:=h (cJ A m0 keep s).env (cJ A m0 keep s).sto (cJ A m0 keep s).next rfl
 let S:ι→St:=fun x=>⟨ed (cJ A m0 keep s).env (ch x),fa (cJ A m0 keep s).sto (chB x),(cJ A m0 keep s).next⟩
 refine⟨fun i t=>∃ x,t=S x∧Inv i x,S x0,bQ h1,⟨x0,rfl,h2⟩,?_⟩
 have e:bT (f.ev (S x0).E)=some (gf,[],lb.map AV.pv):=h3
 rw[e]
 refine⟨rfl,lb,xs,Jl lb,hs,?_,?_⟩
 ·rintro i y t hy ⟨x,rfl,hx⟩
  obtain⟨k1,k2⟩:=h4 i x y hy hx
  refine⟨k1,bI a (fun e s hs=>?_) _ k2⟩
  cases e with
  | norm=>
    refine bI b (fun e s hs=>?_) s hs
    cases e with
    | norm=>
      obtain⟨x',q1,q2⟩:=hs
      exact⟨S x',q1,x',rfl,q2⟩
    | exit j=>exact hs
    | ret=>exact hs
  | exit j=>exact hs.elim
  | ret=>exact hs.elim
 ·rintro t ⟨x,rfl,hx⟩
  exact h5 x hx
end
end Go.Ab
namespace Go.Ab
open Go
attribute [push_cast] ze zf sZ zc zd Mp Mq Mr Ms Mt Mu v7
 BL re v8 Mm Mo Mn q8 q9 rc Cp Cq Gu Cs Gt Co Et
 tr pK pH pG pF me pE mc zW tt tv tw
 mb ma z1 z6 Fr Fs zU zP pJ tz tA uU
 Cv xd Cw Cu yo mf mF pI zZ zY pD Ff
 Fg qj mE mD uE uF Fv Fw kr qk mC ko
 p9 AF uB uA p8 AG mG mH xB yb mx AZ
 AL AP AN AM AY Fq AK mI AW AO AQ AR
 AS AU uO uN uI uJ uK uL uM uT A1 uR
 uQ uS qo A0 uP AC uo uH ql AA ut ur
 uq AB Fl Fm vA qT m6 ND NC Ft uZ u6
 qu ot Ep py zG zF zI zE zH FS m4 m5
 FP mV mW FQ mX mY kK xS sk se sg sf
 lC sh ae sd xQ xO r4 r7 r5 r6 xR r9
 r8 nq rg uz p7 p6 FZ FY pq pp qZ J9
 BI sl vV BR wl wh wj wi nt wk vT qX
 qn qY nj nk FT Fi pX j2 Ac ea zu tm
 CC CD FC Bv Bu By Bx BA Bz CI tf pw
 s9 ta s8 l6 xx rO nE kx ky Bq A2 Jz
 JA xw Ae Ad Ag Af IE ID IC m8 kP kO
 kU jo kV qV nh jp jq vS Eg zq tg rP
 nF lr Gy vW kW kY nl q0 np kZ kX js
 jr FO BF BE qQ wo rn Gz rN xD rX xE
 rZ GC GD BH I8 Bm yD yE Da nY nZ sC
 Ec H7 Ee Gx H5 Ef zm Ed H6 Bk Me Mf
 As t8 Dc GZ E6 IH II IG rV tZ pT A5
 Ji ww wz F7 F6 wC rq rp nT nU sB vd
 qv vj qB ve qx vm qC mP FF I5 I2 FG
 I4 I3 FH Bl AD AE pA l9 j0 tq map_take map_drop
 vB qr Kh CW CU CT GP CV sr rH rI rJ
 nC MG J7 x9 ya J6 cH eg ef Bf cG FB
 Bi Bh qF Bj kj jk mN qH qI qG C0 Ki
 Kd FX BO wA Jq Jr Cf Ch Gg Gh Cg Gj
 Gk Ck Ci wO wP Gi BC vK vJ BD vN vI
 vL vM qN gE gD mR kG qO mT C3 yu GR
 GS Gc oI lE eR Fe Fd ln jG L0 IF vE
 qJ FJ FL FK pU mo qM B2 wF Dx Fb E9
 E8 IR Fc E7 Fa uc ub ud Aw kf mq ue
 pV Ax uf Bp C4 yv yw yz C9 FN FM Bs
 Br GW C7 sx yy C8 GV Nx Nw LJ JC JD
 JE JF JG JH Gr w7 rB Ba nP nQ sy CM
 Ke CN CR yj Cx xj yc Ka Kc Kb CP yg
 ye CQ yh Aa tE Ic xm rF ri nr Be vo
 vF qK Jm Gd Mj Mi nD hU rK jj zJ C2
 Ar ka wn Aq Nat.zero_add Nat.add_zero List.length_cons List.length_nil List.nil_append List.cons_append List.append_nil List.append_assoc
 List.getElem?_map List.length_map List.map_nil List.map_cons List.take_succ_cons List.take_zero List.drop_succ_cons List.drop_zero List.take_nil List.drop_nil List.all_cons List.all_nil
 Bool.and_true Bool.true_and Bool.and_false Bool.false_and Bool.not_true Bool.not_false decide_true decide_false Bool.not_not Int.natCast_add Int.cast_ofNat_Int Int.toNat_natCast
 Option.some.injEq and_true true_and ge_iff_le Nat.le_refl Nat.zero_le Nat.not_lt_zero and_self
attribute [push_cast] yR CL A3 u7 yH yI Db
attribute [push_cast high] Int.cast_ofNat_Int
end Go.Ab

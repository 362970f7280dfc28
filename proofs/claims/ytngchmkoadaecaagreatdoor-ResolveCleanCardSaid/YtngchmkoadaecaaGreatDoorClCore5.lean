/- A program logic over the model: part 5 (a proof is built on it; nothing of the statement is said here). -/
import Derived.Test.YtngchmkoadaecaaGreatDoorClCore4
set_option linter.unusedVariables false
set_option linter.unusedSimpArgs false
open Bool renaming true_and->Vz,false_and->Vy,and_eq_true->UK
open List renaming map_cons->UQ,take_of_length_le->Ux,mem_map->UO,getElem?_map->UE,length_map->U0,getElem?_eq_some_iff->Ur,getElem?_eq_getElem->Uq,getElem?_eq_none->Vp,all_eq_true->UD,length_cons->UC,flatMap_cons->Vx,append_nil->UU,getElem?_cons_zero->UW,cons_append->U2,getD_eq_getElem?_getD->Uv,mem_of_mem_take->Vf,mem_of_getElem?->Us,drop_zero->Vc
open Option.some renaming injEq->Uu
open Nat renaming lt_or_ge->U6,mul_le_mul_right->UA,succ_mul->Vo,le_refl->UI,zero_le->Vn,zero_add->UN
open Array renaming replicate->Vr,getD_eq_getD_getElem?->Uw
namespace Go.Ab
open Go Go.RowKit
theorem Ed {n:Int}(h1:-9223372036854775808<=n)(h2:n<=9223372036854775807):IntKind.i64.wrap n=n:=by
 show (if (true&&decide (n % 18446744073709551616>=9223372036854775808))=true then n % 18446744073709551616 - 18446744073709551616 else n % 18446744073709551616)=n
 simp only[Vz,decide_eq_true_eq]
 split<;>omega
theorem Ee {n:Int}(h1:-2147483648<=n)(h2:n<=2147483647):IntKind.i32.wrap n=n:=by
 show (if (true&&decide (n % 4294967296>=2147483648))=true then n % 4294967296 - 4294967296 else n % 4294967296)=n
 simp only[Vz,decide_eq_true_eq]
 split<;>omega
theorem Jl {n:Int}(h1:0<=n)(h2:n<=255):IntKind.u8.wrap n=n:=by
 show (if (false&&decide (n % 256>=128))=true then n % 256 - 256 else n % 256)=n
 simp only[Vy]
 simp;omega
theorem Eb {n:Int}(h1:0<=n)(h2:n<=18446744073709551615):IntKind.u64.wrap n=n:=by
 show (if (false&&decide (n % 18446744073709551616>=9223372036854775808))=true then n % 18446744073709551616 - 18446744073709551616 else n % 18446744073709551616)=n
 simp only[Vy]
 simp;omega
theorem Ec {n:Int}(h1:0<=n)(h2:n<=4294967295):IntKind.u32.wrap n=n:=by
 show (if (false&&decide (n % 4294967296>=2147483648))=true then n % 4294967296 - 4294967296 else n % 4294967296)=n
 simp only[Vy]
 simp;omega
theorem R4 {a b:Int}(h:a<b):decide (a<b)=true:=decide_eq_true h
theorem R5 {a b:Int}(h:¬ a<b):decide (a<b)=false:=decide_eq_false h
theorem R6 {a b:Int}(h:a<=b):decide (a<=b)=true:=decide_eq_true h
theorem R7 {a b:Int}(h:¬ a<=b):decide (a<=b)=false:=decide_eq_false h
theorem R8 {a b:Int}(h:a=b):decide (a=b)=true:=decide_eq_true h
theorem R9 {a b:Int}(h:¬ a=b):decide (a=b)=false:=decide_eq_false h
def Chk (b:Bool):Prop:=b=true
theorem Mt:Chk true:=_root_.id rfl
theorem BH (i k:Nat)(x:AV)(r:List (Nat×AV)):look i ((k,x)::r)=if k=i then x else look i r:=_root_.id rfl
theorem GA (i:Nat):look i [] = .any:=_root_.id rfl
theorem we (i k:Nat)(x:Blk)(r:List (Nat×Blk)):lookB i ((k,x)::r)=if k=i then x else lookB i r:=_root_.id rfl
theorem BI (i:Nat):lookB i [] = .none:=_root_.id rfl
def evE (e:List (Nat×AV)):AX->AV
 | .t i=>look i e
 | .c p=>.pv p
 | .m i tb=>Nf tb (look i e)
theorem R2 (e:List (Nat×AV))(i:Nat)(tb:List (Nat×Nat)):evE e (.m i tb)=Nf tb (look i e):=_root_.id rfl
theorem vY (tb:List (Nat×Nat))(T:Nat)(p:PV):Nf tb (.pv (.iface T p))=BG p (jH T tb):=_root_.id rfl
theorem wc (t a b:Nat)(r:List (Nat×Nat)):jH t ((a,b)::r)=if a=t then some b else jH t r:=_root_.id rfl
theorem vZ (p:PV)(f:Nat):BG p (some f) = .clo f [.pv p] []:=_root_.id rfl
theorem R1 (e:List (Nat×AV))(i:Nat):evE e (.t i)=look i e:=_root_.id rfl
theorem R3 (e:List (Nat×AV))(p:PV):evE e (.c p) = .pv p:=_root_.id rfl
def evO (e:List (Nat×AV)):Option AX->Option AV
 | some x=>some (evE e x)
 | none=>none
theorem Hs (e:List (Nat×AV))(x:AX):evO e (some x)=some (evE e x):=_root_.id rfl
theorem Ht (e:List (Nat×AV)):evO e none=none:=_root_.id rfl
def evL (e:List (Nat×AV)):List AX->List AV
 | []=>[]
 | x::r=>evE e x::evL e r
theorem Mg (e:List (Nat×AV)):evL e []=[]:=_root_.id rfl
theorem Hv (e:List (Nat×AV))(x:AX)(r:List AX):evL e (x::r)=evE e x::evL e r:=_root_.id rfl
theorem iM (e:List (Nat×AV))(σ:List (Nat×Blk))(n:Nat)(x:AX):x.ev (St.E ⟨e,σ,n⟩)=evE e x:=by cases x<;>rfl
theorem CH (e:List (Nat×AV))(σ:List (Nat×Blk))(n:Nat):∀ (l:List AX),l.map (·.ev (St.E ⟨e,σ,n⟩))=evL e l
 | []=>rfl
 | x::r=>by rw[UQ,CH e σ n r,iM];rfl
def evP (e:List (Nat×AV)):List (Nat×Nat×AX)->List (Nat×Nat×AV)
 | []=>[]
 | (a,b,x)::r=>(a,b,evE e x)::evP e r
theorem Mf (e:List (Nat×AV)):evP e []=[]:=_root_.id rfl
theorem Hr (e:List (Nat×AV))(a b:Nat)(x:AX)(r:List (Nat×Nat×AX)):evP e ((a,b,x)::r)=(a,b,evE e x)::evP e r:=_root_.id rfl
def fA (e:List (Nat×AV)):TOp->Option AV
 | .mv x=>some (evE e x)
 | .pick c a b=>qd (evE e c) (evE e a) (evE e b)
 | .build zs ps=>(fX (zs.map .pv) (evP e ps)).map iI
 | .faddr off x=>iq off (evE e x)
 | .field g sz off x=>jw g sz off (evE e x)
 | .iaddr sz x i=>gn sz (evE e x) (evE e i)
 | .iaddrA n sz x i=>gY n sz (evE e x) (evE e i)
 | .index x i=>gm (evE e x) (evE e i)
 | .indexA g n sz x i=>gX g n sz (evE e x) (evE e i)
 | .len st x=>D2 st (evE e x)
 | .lenC n=>some (.pv (.int .i64 n))
 | .imin x y=>K4 (evE e x) (evE e y)
 | .imax x y=>K5 (evE e x) (evE e y)
 | .sliceL sz x lo hi=>dd sz (evE e x) (evO e lo) (evO e hi)
 | .sliceS x lo hi=>fU (evE e x) (evO e lo) (evO e hi)
 | .bin op x y=>dw op (evE e x) (evE e y)
 | .beq kd ng x y=>(qt kd (evE e x) (evE e y)).map fun b=>.pv (.bool (if ng then !b else b))
 | .neg x=>Nd (evE e x)
 | .not x=>Nc (evE e x)
 | .compl x=>nJ (evE e x)
 | .conv k x=>uV k (evE e x)
 | .convS x=>k9 (evE e x)
 | .convIS x=>gZ (evE e x)
 | .beqS ng ks x y=>(qq ks (evE e x) (evE e y)).map fun b=>.pv (.bool (if ng then !b else b))
 | .clo f fs cs=>some (qL f (evL e fs) (evL e cs))
 | .ext x i=>K8 i (evE e x)
 | .nilck x=>D1 (evE e x)
theorem Hu (e:List (Nat×AV)):∀ (l:List AX),l.map (fun x=>evE e x)=evL e l
 | []=>rfl
 | x::r=>by rw[UQ,Hu e r];rfl
theorem Pk (e:List (Nat×AV))(l:Option AX):l.map (fun x=>evE e x)=evO e l:=by cases l<;>rfl
theorem Pj (e:List (Nat×AV)):∀ (l:List (Nat×Nat×AX)),(l.map fun p=>(p.1,p.2.1,evE e p.2.2))=evP e l
 | []=>rfl
 | (a,b,x)::r=>by rw[UQ,Pj e r];rfl
theorem yS (e:List (Nat×AV))(σ:List (Nat×Blk))(n:Nat)(o:TOp):o.run (St.E ⟨e,σ,n⟩)=fA e o:=by
 cases o<;>simp only[TOp.run,fA,iM,Hu,Pk,Pj]
theorem JE (e:List (Nat×AV))(x:AX):fA e (.mv x)=some (evE e x):=_root_.id rfl
theorem yO (e:List (Nat×AV))(c a b:AX):fA e (.pick c a b)=qd (evE e c) (evE e a) (evE e b):=_root_.id rfl
theorem uq (e:List (Nat×AV))(zs:List PV)(ps:List (Nat×Nat×AX)):fA e (.build zs ps)=(fX (zs.map .pv) (evP e ps)).map iI:=_root_.id rfl
theorem um (e:List (Nat×AV))(off:Nat)(x:AX):fA e (.faddr off x)=iq off (evE e x):=_root_.id rfl
theorem ul (e:List (Nat×AV))(g:Bool)(sz off:Nat)(x:AX):fA e (.field g sz off x)=jw g sz off (evE e x):=_root_.id rfl
theorem uj (e:List (Nat×AV))(sz:Nat)(x i:AX):fA e (.iaddr sz x i)=gn sz (evE e x) (evE e i):=_root_.id rfl
theorem pT (e:List (Nat×AV))(n sz:Nat)(x i:AX):fA e (.iaddrA n sz x i)=gY n sz (evE e x) (evE e i):=_root_.id rfl
theorem uh (e:List (Nat×AV))(x i:AX):fA e (.index x i)=gm (evE e x) (evE e i):=_root_.id rfl
theorem pS (e:List (Nat×AV))(g:Bool)(n sz:Nat)(x i:AX):fA e (.indexA g n sz x i)=gX g n sz (evE e x) (evE e i):=_root_.id rfl
theorem EE (e:List (Nat×AV))(st:Bool)(x:AX):fA e (.len st x)=D2 st (evE e x):=_root_.id rfl
theorem yP (e:List (Nat×AV))(n:Nat):fA e (.lenC n)=some (.pv (.int .i64 n)):=_root_.id rfl
theorem yQ (e:List (Nat×AV))(x y:AX):fA e (.imin x y)=K4 (evE e x) (evE e y):=_root_.id rfl
theorem yR (e:List (Nat×AV))(x y:AX):fA e (.imax x y)=K5 (evE e x) (evE e y):=_root_.id rfl
theorem pR (e:List (Nat×AV))(sz:Nat)(x:AX)(lo hi:Option AX):fA e (.sliceL sz x lo hi)=dd sz (evE e x) (evO e lo) (evO e hi):=_root_.id rfl
theorem pQ (e:List (Nat×AV))(x:AX)(lo hi:Option AX):fA e (.sliceS x lo hi)=fU (evE e x) (evO e lo) (evO e hi):=_root_.id rfl
theorem EH (e:List (Nat×AV))(op:BinOp)(x y:AX):fA e (.bin op x y)=dw op (evE e x) (evE e y):=_root_.id rfl
def AG (ng:Bool):Option Bool->Option AV
 | some b=>some (.pv (.bool (if ng then !b else b)))
 | none=>none
theorem EI (e:List (Nat×AV))(kd:Nat)(ng:Bool)(x y:AX):fA e (.beq kd ng x y)=AG ng (qt kd (evE e x) (evE e y)):=by
 simp only[fA];cases qt kd (evE e x) (evE e y)<;>rfl
theorem La (b:Bool):AG true (some b)=some (.pv (.bool (!b))):=_root_.id rfl
theorem Lb (b:Bool):AG false (some b)=some (.pv (.bool b)):=_root_.id rfl
theorem ED (e:List (Nat×AV))(x:AX):fA e (.neg x)=Nd (evE e x):=_root_.id rfl
theorem EC (e:List (Nat×AV))(x:AX):fA e (.not x)=Nc (evE e x):=_root_.id rfl
theorem up (e:List (Nat×AV))(x:AX):fA e (.compl x)=nJ (evE e x):=_root_.id rfl
theorem yU (e:List (Nat×AV))(k:IntKind)(x:AX):fA e (.conv k x)=uV k (evE e x):=_root_.id rfl
theorem yW (e:List (Nat×AV))(ng:Bool)(ks:List Nat)(x y:AX):fA e (.beqS ng ks x y)=AG ng (qq ks (evE e x) (evE e y)):=by
 simp only[fA];cases qq ks (evE e x) (evE e y)<;>rfl
theorem AF (ks:List Nat)(ps qs:List PV):qq ks (.pv (.agg ps)) (.pv (.agg qs))=oF ks ps qs:=_root_.id rfl
theorem Hy:oF [] [] []=some true:=_root_.id rfl
theorem CI (l:List Nat)(a b:Bool)(r s:List PV):oF (0::l) (.bool a::r) (.bool b::s)=I7 (some (a == b)) (oF l r s):=_root_.id rfl
theorem Hz (l:List Nat)(k:IntKind)(a b:Int)(r s:List PV):oF (1::l) (.int k a::r) (.int k b::s)=I7 (some (decide (a=b))) (oF l r s):=by
 simp only[oF,Nh,if_true];congr 2
theorem Hx (l:List Nat)(a b:List UInt8)(r s:List PV):oF (2::l) (.str a::r) (.str b::s)=I7 (some (a == b)) (oF l r s):=_root_.id rfl
theorem DJ (a b:Bool):I7 (some a) (some b)=some (a&&b):=_root_.id rfl
theorem pU (e:List (Nat×AV))(x:AX):fA e (.convIS x)=gZ (evE e x):=_root_.id rfl
theorem ql (k:IntKind)(n:Int):gZ (.pv (.int k n))=some (.pv (.str (Utf8.encode n).data.toList)):=_root_.id rfl
theorem uo (e:List (Nat×AV))(x:AX):fA e (.convS x)=k9 (evE e x):=_root_.id rfl
theorem EG (e:List (Nat×AV))(f:Nat)(fs cs:List AX):fA e (.clo f fs cs)=some (qL f (evL e fs) (evL e cs)):=_root_.id rfl
theorem EF (e:List (Nat×AV))(x:AX)(i:Nat):fA e (.ext x i)=K8 i (evE e x):=_root_.id rfl
theorem ug (e:List (Nat×AV))(x:AX):fA e (.nilck x)=D1 (evE e x):=_root_.id rfl
theorem K0 (x y:AV):qd (.pv (.bool true)) x y=some x:=_root_.id rfl
theorem K1 (x y:AV):qd (.pv (.bool false)) x y=some y:=_root_.id rfl
theorem uS (off r o:Nat):iq off (.ptr r o)=some (.ptr r (o+off)):=_root_.id rfl
theorem qk (off:Nat)(l:List PV)(i o:Nat):iq off (.pv (.eptr l i o))=some (.pv (.eptr l i (o+off))):=_root_.id rfl
theorem qj (off g o:Nat):iq off (.pv (.gptr g o))=some (.pv (.gptr g (o+off))):=_root_.id rfl
theorem Ap (g:Bool)(sz off:Nat)(ps:List PV):jw g sz off (.pv (.agg ps))=dg g sz off (ps.map .pv):=_root_.id rfl
theorem Aq (g:Bool)(sz off:Nat)(ps:List AV):jw g sz off (.agg ps)=dg g sz off ps:=_root_.id rfl
def OC (sz off:Nat)(cs:List AV):Option AV:=if off+sz<=cs.length then some (iI ((cs.drop off).take sz)) else none
theorem Le (sz off:Nat)(cs:List AV):dg true sz off cs=OC sz off cs:=_root_.id rfl
theorem Lf (sz off:Nat)(cs:List AV):dg false sz off cs=cs[off]?:=_root_.id rfl
def jA (sz:Nat)(l:List PV)(i:Nat):Option PV->Option AV
 | some y=>if y.cells.length=sz then some (.pv (.eptr l i 0)) else none
 | none=>none
theorem nG (sz:Nat)(l:List PV)(i:Nat):gp sz l (i:Int)=jA sz l i l[i]?:=by
 unfold gp jA
 rw[if_pos (by omega)]
 simp only[Int.toNat_natCast]
 cases l[i]? <;> rfl
theorem cz (sz:Nat)(l:List PV):gp sz l 0=jA sz l 0 l[0]?:=_root_.id rfl
theorem uT (sz:Nat)(l:List PV)(i:Nat):gp sz l ((i:Int)+1)=jA sz l (i+1) l[i+1]?:=nG sz l (i+1)
theorem nH (sz:Nat)(l:List PV){n:Int}(h:0<=n):gp sz l n=jA sz l n.toNat l[n.toNat]?:=by
 unfold gp jA
 rw[if_pos h]
 cases l[n.toNat]? <;> rfl
theorem qi (sz:Nat)(l:List PV)(k:IntKind)(n:Int):gn sz (.pv (.list l)) (.pv (.int k n))=gp sz l n:=_root_.id rfl
theorem nE (sz r s:Nat)(l:List PV)(k:IntKind)(n:Int):gn sz (.olist r s l) (.pv (.int k n))=gp sz l n:=_root_.id rfl
theorem uR (sz r off len:Nat)(k:IntKind){n:Int}(h:0<=n)(h':n.toNat<len):gn sz (.row r sz off len) (.pv (.int k n))=some (.ptr r (off+n.toNat*sz)):=by
 simp[gn,h,h']
theorem Ft (l:List UInt8):D2 true (.pv (.str l))=some (.pv (.int .i64 l.length)):=_root_.id rfl
theorem Al (l:List PV):D2 false (.pv (.list l))=some (.pv (.int .i64 l.length)):=_root_.id rfl
theorem Ak:D2 false (.pv .nils)=some (.pv (.int .i64 0)):=_root_.id rfl
theorem uQ (r s:Nat)(l:List PV):D2 false (.olist r s l)=some (.pv (.int .i64 l.length)):=_root_.id rfl
theorem Fu (r s o n:Nat):D2 false (.row r s o n)=some (.pv (.int .i64 n)):=_root_.id rfl
theorem qn {d top:Nat}{k:IntKind}{n:Int}(h0:0<=n)(h1:n<=top):bd d top (some (.pv (.int k n)))=some n.toNat:=by
 simp[bd,h0,h1]
theorem qo {d top:Nat}:bd d top none=some d:=_root_.id rfl
def Sa {α:Type}(l:List α)(f:List α->AV):Option Nat->Option Nat->Option AV
 | some h,some a=>some (f ((l.take h).drop a))
 | _,_=>none
theorem C3 {α:Type}(l:List α)(f:List α->AV)(h a:Nat):Sa l f (some h) (some a)=some (f ((l.take h).drop a)):=_root_.id rfl
def Sr (l:Nat)(lo:Option AV):Option Nat->Option Nat
 | some h=>bd 0 h lo
 | none=>none
theorem DA (l:Nat)(lo:Option AV)(h:Nat):Sr l lo (some h)=bd 0 h lo:=_root_.id rfl
theorem qb (l:List UInt8)(lo hi:Option AV):fU (.pv (.str l)) lo hi=Sa l (fun x=>.pv (.str x)) (bd l.length l.length hi) (Sr l.length lo (bd l.length l.length hi)):=by
 unfold fU Sa Sr
 simp only
 split<;>rename_i h
 ·rw[h];simp only;cases bd 0 _ lo<;>rfl
 ·rw[h]
theorem FK (k:IntKind)(a b:Int):dw .add (.pv (.int k a)) (.pv (.int k b))=some (.pv (.int k (k.wrap (a+b)))):=by simp[dw,mW]
theorem Fz (k:IntKind)(a b:Int):dw .sub (.pv (.int k a)) (.pv (.int k b))=some (.pv (.int k (k.wrap (a - b)))):=by simp[dw,mW]
theorem FD (k:IntKind)(a b:Int):dw .mul (.pv (.int k a)) (.pv (.int k b))=some (.pv (.int k (k.wrap (a*b)))):=by simp[dw,mW]
theorem FB {k:IntKind}{a b:Int}(h:¬ b=0):dw .quo (.pv (.int k a)) (.pv (.int k b))=some (.pv (.int k (k.wrap (a.tdiv b)))):=by simp[dw,mW,h]
theorem FA {k:IntKind}{a b:Int}(h:¬ b=0):dw .rem (.pv (.int k a)) (.pv (.int k b))=some (.pv (.int k (a.tmod b))):=by simp[dw,mW,h]
theorem FJ (k:IntKind)(a b:Int):dw .and (.pv (.int k a)) (.pv (.int k b))=some (.pv (.int k (bits .and k a b))):=by simp[dw,mW]
theorem K9 (k:IntKind)(a b:Int):dw .or (.pv (.int k a)) (.pv (.int k b))=some (.pv (.int k (bits .or k a b))):=by simp[dw,mW]
theorem Fy (k:IntKind)(a b:Int):dw .xor (.pv (.int k a)) (.pv (.int k b))=some (.pv (.int k (bits .xor k a b))):=by simp[dw,mW]
theorem qp (k:IntKind)(a b:Int):dw .andNot (.pv (.int k a)) (.pv (.int k b))=some (.pv (.int k (bits .andNot k a b))):=by simp[dw,mW]
theorem FI (k:IntKind)(a b:Int):dw .eql (.pv (.int k a)) (.pv (.int k b))=some (.pv (.bool (decide (a=b)))):=by simp[dw,mW];rfl
theorem FC (k:IntKind)(a b:Int):dw .neq (.pv (.int k a)) (.pv (.int k b))=some (.pv (.bool (!decide (a=b)))):=by simp[dw,mW];rfl
theorem FE (k:IntKind)(a b:Int):dw .lss (.pv (.int k a)) (.pv (.int k b))=some (.pv (.bool (decide (a<b)))):=by simp[dw,mW]
theorem FF (k:IntKind)(a b:Int):dw .leq (.pv (.int k a)) (.pv (.int k b))=some (.pv (.bool (decide (a<=b)))):=by simp[dw,mW]
theorem FG (k:IntKind)(a b:Int):dw .gtr (.pv (.int k a)) (.pv (.int k b))=some (.pv (.bool (decide (b<a)))):=by simp[dw,mW]
theorem FH (k:IntKind)(a b:Int):dw .geq (.pv (.int k a)) (.pv (.int k b))=some (.pv (.bool (decide (b<=a)))):=by simp[dw,mW]
theorem Az {a b:List UInt8}(h:a.length+b.length<=9223372036854775807):dw .add (.pv (.str a)) (.pv (.str b))=some (.pv (.str (a++b))):=by
 have:a.length+b.length<=maxLen:=by unfold maxLen;omega
 simp[dw,Nb,this]
theorem Ay (a b:List UInt8):dw .eql (.pv (.str a)) (.pv (.str b))=some (.pv (.bool (decide (a=b)))):=by
 simp[dw,Nb];rw[Bool.eq_iff_iff];simp
theorem At (a b:List UInt8):dw .neq (.pv (.str a)) (.pv (.str b))=some (.pv (.bool (!decide (a=b)))):=by
 simp[dw,Nb];rw[Bool.eq_iff_iff];simp
theorem Au (a b:List UInt8):dw .lss (.pv (.str a)) (.pv (.str b))=some (.pv (.bool (ca a b))):=_root_.id rfl
theorem Av (a b:List UInt8):dw .leq (.pv (.str a)) (.pv (.str b))=some (.pv (.bool (ca a b||a == b))):=_root_.id rfl
theorem Aw (a b:List UInt8):dw .gtr (.pv (.str a)) (.pv (.str b))=some (.pv (.bool (!(ca a b||a == b)))):=_root_.id rfl
theorem Ax (a b:List UInt8):dw .geq (.pv (.str a)) (.pv (.str b))=some (.pv (.bool (!(ca a b)))):=_root_.id rfl
theorem AE (a b:Bool):qt 0 (.pv (.bool a)) (.pv (.bool b))=some (a == b):=_root_.id rfl
theorem FM (r o:Nat):qt 1 (.ptr r o) (.pv .nilp)=some false:=_root_.id rfl
theorem AC (l:List PV)(i o:Nat):qt 1 (.pv (.eptr l i o)) (.pv .nilp)=some false:=_root_.id rfl
theorem AB:qt 1 (.pv .nilp) (.pv .nilp)=some true:=_root_.id rfl
theorem AD (x:PV)(l:List PV):qt 2 (.pv (.list (x::l))) (.pv .nils)=some false:=_root_.id rfl
theorem uX (r s:Nat)(x:PV)(l:List PV):qt 2 (.olist r s (x::l)) (.pv .nils)=some false:=_root_.id rfl
theorem FL {r s o n:Nat}(h:0<n):qt 2 (.row r s o n) (.pv .nils)=some false:=by
 cases n with
 | zero=>exact absurd h (Nat.lt_irrefl _)
 | succ n=>rfl
theorem AA:qt 2 (.pv .nils) (.pv .nils)=some true:=_root_.id rfl
theorem Fm (k:IntKind)(n:Int):Nd (.pv (.int k n))=some (.pv (.int k (k.wrap (0 - n)))):=_root_.id rfl
theorem Af (b:Bool):Nc (.pv (.bool b))=some (.pv (.bool (!b))):=_root_.id rfl
theorem As (k k':IntKind)(n:Int):uV k (.pv (.int k' n))=some (.pv (.int k (k.wrap n))):=_root_.id rfl
theorem uU (s:List UInt8):k9 (.pv (.str s))=some (.pv (.str s)):=_root_.id rfl
theorem Fk (r o:Nat):D1 (.ptr r o)=some (.ptr r o):=_root_.id rfl
theorem Ai (l:List PV)(i o:Nat):D1 (.pv (.eptr l i o))=some (.pv (.eptr l i o)):=_root_.id rfl
theorem Ah (g o:Nat):D1 (.pv (.gptr g o))=some (.pv (.gptr g o)):=_root_.id rfl
theorem Ag (f:Nat)(a b:List PV):D1 (.pv (.clo f a b))=some (.pv (.clo f a b)):=_root_.id rfl
theorem Fl (f:Nat)(a b:List AV):D1 (.clo f a b)=some (.clo f a b):=_root_.id rfl
theorem K6 (i:Nat)(ps:List PV):K8 i (.pv (.tup ps))=(ps[i]?).map .pv:=_root_.id rfl
theorem K7 (i:Nat)(ps:List AV):K8 i (.tup ps)=ps[i]?:=_root_.id rfl
theorem nP {α β:Type}(f:α->β)(a:α):(some a).map f=some (f a):=_root_.id rfl
theorem vP:[].map AV.pv=[]:=_root_.id rfl
theorem qO (x:PV)(r:List PV):(x::r).map AV.pv = .pv x::r.map AV.pv:=_root_.id rfl
theorem Tn {α:Type}(x:α)(r:List α):(x::r)[0]? = some x:=_root_.id rfl
theorem TC {α:Type}(x:α)(r:List α)(n:Nat):(x::r)[n+1]? = r[n]?:=_root_.id rfl
theorem Lc:pvs []=some []:=_root_.id rfl
def Q3:Option PV->Option (List PV)->Option (List PV)
 | some p,some ps=>some (p::ps)
 | _,_=>none
theorem AJ (p:PV)(ps:List PV):Q3 (some p) (some ps)=some (p::ps):=_root_.id rfl
theorem AK (x:Option (List PV)):Q3 none x=none:=_root_.id rfl
theorem vg (x:Option PV):Q3 x none=none:=by cases x<;>rfl
theorem eg (x:AV)(r:List AV):pvs (x::r)=Q3 x.toPV (pvs r):=by
 show (match x.toPV,pvs r with | some p,some ps=>some (p::ps) | _,_=>none)=_
 cases x.toPV<;>cases pvs r<;>rfl
theorem eZ:∀ (ps:List PV),pvs (ps.map .pv)=some ps
 | []=>rfl
 | x::r=>by rw[UQ,eg,eZ r];rfl
theorem JB (p:PV):(AV.pv p).toPV=some p:=_root_.id rfl
theorem ub (r s:Nat)(l:List PV):(AV.olist r s l).toPV=some (.list l):=_root_.id rfl
theorem Ew (r o:Nat):(AV.ptr r o).toPV=none:=_root_.id rfl
theorem Ev (r s o n:Nat):(AV.row r s o n).toPV=none:=_root_.id rfl
theorem Ey (cs:List AV):(AV.agg cs).toPV=none:=_root_.id rfl
theorem Eu (cs:List AV):(AV.tup cs).toPV=none:=_root_.id rfl
theorem Ex (f:Nat)(a b:List AV):(AV.clo f a b).toPV=none:=_root_.id rfl
def Bu (cs:List AV):Option (List PV)->AV
 | some ps=>.pv (.agg ps)
 | none=>.agg cs
theorem Lz (cs:List AV):iI cs=Bu cs (pvs cs):=by unfold iI;cases pvs cs<;>rfl
theorem qM (cs:List AV)(ps:List PV):Bu cs (some ps) = .pv (.agg ps):=_root_.id rfl
theorem qN (cs:List AV):Bu cs none = .agg cs:=_root_.id rfl
def Bs (cs:List AV):Option (List PV)->AV
 | some ps=>.pv (.tup ps)
 | none=>.tup cs
theorem Lx (cs:List AV):nT cs=Bs cs (pvs cs):=by unfold nT;cases pvs cs<;>rfl
theorem qH (cs:List AV)(ps:List PV):Bs cs (some ps) = .pv (.tup ps):=_root_.id rfl
theorem qI (cs:List AV):Bs cs none = .tup cs:=_root_.id rfl
def nV (f:Nat)(fs cs:List AV):Option (List PV)->Option (List PV)->AV
 | some a,some b=>.pv (.clo f a b)
 | _,_=>.clo f fs cs
theorem Ly (f:Nat)(fs cs:List AV):qL f fs cs=nV f fs cs (pvs fs) (pvs cs):=by unfold qL nV;cases pvs fs<;>cases pvs cs<;>rfl
theorem qJ (f:Nat)(fs cs:List AV)(a b:List PV):nV f fs cs (some a) (some b) = .pv (.clo f a b):=_root_.id rfl
theorem qK (f:Nat)(fs cs:List AV)(a:Option (List PV)):nV f fs cs a none = .clo f fs cs:=by cases a<;>rfl
theorem nU (f:Nat)(fs cs:List AV)(a:Option (List PV)):nV f fs cs none a = .clo f fs cs:=by cases a<;>rfl
theorem Dj (p:PV):(AV.pv p).cells=p.cells.map .pv:=_root_.id rfl
theorem xw (cs:List AV):(AV.agg cs).cells=cs:=_root_.id rfl
theorem xq (cs:List AV):(AV.tup cs).cells=[.tup cs]:=_root_.id rfl
theorem xu (r o:Nat):(AV.ptr r o).cells=[.ptr r o]:=_root_.id rfl
theorem xr (r s o n:Nat):(AV.row r s o n).cells=[.row r s o n]:=_root_.id rfl
theorem oU (r s:Nat)(l:List PV):(AV.olist r s l).cells=[.olist r s l]:=_root_.id rfl
theorem xv (f:Nat)(a b:List AV):(AV.clo f a b).cells=[.clo f a b]:=_root_.id rfl
theorem ae (cs:List PV):(PV.agg cs).cells=cs:=_root_.id rfl
theorem xp (b:Bool):(PV.bool b).cells=[.bool b]:=_root_.id rfl
theorem Dh (k:IntKind)(n:Int):(PV.int k n).cells=[.int k n]:=_root_.id rfl
theorem Df (s:List UInt8):(PV.str s).cells=[.str s]:=_root_.id rfl
theorem xe:PV.nils.cells=[.nils]:=_root_.id rfl
theorem xj (l:List PV):(PV.list l).cells=[.list l]:=_root_.id rfl
theorem xg:PV.nilp.cells=[.nilp]:=_root_.id rfl
theorem xh:PV.nilf.cells=[.nilf]:=_root_.id rfl
theorem Di (f:Nat)(a b:List PV):(PV.clo f a b).cells=[.clo f a b]:=_root_.id rfl
theorem xo (l:List PV)(i o:Nat):(PV.eptr l i o).cells=[.eptr l i o]:=_root_.id rfl
theorem xm (g o:Nat):(PV.gptr g o).cells=[.gptr g o]:=_root_.id rfl
def LI (g:Bool)(sz o:Nat):Blk->Option AV
 | .cells _ _ l=>dg g sz o l
 | _=>none
theorem rg (g:Bool)(sz o T:Nat)(f:Bool)(l:List AV):LI g sz o (.cells T f l)=dg g sz o l:=_root_.id rfl
def LD (g:Bool)(sz o:Nat):Option PV->Option AV
 | some e=>ky g sz o e
 | none=>none
theorem wg (g:Bool)(sz o:Nat)(e:PV):LD g sz o (some e)=ky g sz o e:=_root_.id rfl
theorem Aj (G:Nat->List PV)(g:Bool)(sz:Nat)(σ:aq)(r o:Nat):ef G g sz σ (.ptr r o)=LI g sz o (σ r):=by
 simp only[ef,LI];cases σ r<;>rfl
theorem uP (G:Nat->List PV)(g:Bool)(sz:Nat)(σ:aq)(l:List PV)(i o:Nat):ef G g sz σ (.pv (.eptr l i o))=LD g sz o l[i]?:=by
 simp only[ef,LD];cases l[i]? <;> rfl
theorem uO (G:Nat->List PV)(g:Bool)(sz:Nat)(σ:aq)(b o:Nat):ef G g sz σ (.pv (.gptr b o))=dg g sz o ((G b).map .pv):=_root_.id rfl
theorem LH (sz o:Nat)(e:PV):ky false sz o e=dg false sz o (e.cells.map .pv):=by simp[ky]
theorem LG {sz o:Nat}{cs:List PV}(h:0<o):ky true sz o (.agg cs)=dg true sz o (cs.map .pv):=by
 simp[ky,PV.cells];omega
def eQ (e:List (Nat×AV))(σ:List (Nat×Blk))(new:Nat):XOp->Option (AV×List (Nat×Blk))
 | .cap sz x=>(Fx sz (fun r=>lookB r σ) (evE e x)).map fun v=>(v,[])
 | .resl sz x h=>(l7 sz (fun r=>lookB r σ) (evE e x) (evE e h)).map fun v=>(v,[])
 | .copy sz x y=>nI sz (fun r=>lookB r σ) (evE e x) (evE e y)
 | .apart x y=>(gr (fun r=>lookB r σ) (evE e x) (evE e y)).map fun v=>(v,[])
 | .appz t sz by_ zs x k=>nK t sz by_ zs new (fun r=>lookB r σ) (evE e x) (evE e k)
 | .noesc x=>some (evE e x,[])
 | .ucast u n b x=>(eY u n b (fun r=>lookB r σ) (evE e x)).map fun v=>(v,[])
 | .peq ng x y=>(K2 ng (evE e x) (evE e y)).map fun v=>(v,[])
 | .anyc=>some (.any,[])
 | .apps t by_ x y=>kw t by_ new (fun r=>lookB r σ) (evE e x) (evE e y)
 | .sdata x=>(gl (evE e x)).map fun v=>(v,[])
 | .ustr t x k=>nC t (fun r=>lookB r σ) (evE e x) (evE e k)
 | .ofStr x=>ju new (evE e x)
 | .fnil ng x y=>(nF ng (evE e x) (evE e y)).map fun v=>(v,[])
 | .inil ng x y=>(Fv ng (evE e x) (evE e y)).map fun v=>(v,[])
 | .idxb x y=>(qh (evE e x) (evE e y)).map fun v=>(v,[])
 | .mki T x=>(Q2 T (evE e x)).map fun v=>(v,[])
 | .mkmap=>some (.mp new,[(new,.mp [])])
 | .mlook kd co z x k=>(ma kd co z (fun r=>lookB r σ) (evE e x) (evE e k)).map fun v=>(v,[])
 | .mset kd x k v=>(l8 kd (fun r=>lookB r σ) (evE e x) (evE e k) (evE e v)).map fun d=>(.pv .undef,d)
 | .bslf sz len xs=>qm sz len (evL e xs)
 | .same x=>qc (fun r=>lookB r σ) (evE e x)
 | .mlen x=>(l9 (fun r=>lookB r σ) (evE e x)).map fun v=>(v,[])
theorem Jh (e:List (Nat×AV))(σ:List (Nat×Blk))(n new:Nat)(o:XOp):o.run new (St.E ⟨e,σ,n⟩) (St.σ ⟨e,σ,n⟩)=eQ e σ new o:=by
 cases o<;>simp only[XOp.run,eQ,iM,Hu]<;>rfl
def kx (G:Nat->List PV)(e:List (Nat×AV))(σ:List (Nat×Blk))(new:Nat):MOp->Option (AV×List (Nat×Blk))
 | .alloc T zs=>some (.ptr new 0,[(new,.cells T true (zs.map .pv))])
 | .box T x=>if (evE e x).known=true then some (.ptr new 0,[(new,.cells T true (evE e x).cells)]) else none
 | .cbox T x=>match (evE e x).toPV with
   | some p=>if p.cells.all PV.one=true then some (.pv (.eptr [p] 0 0),[(new,.none)]) else none
   | none=>none
 | .load g sz x=>(ef G g sz (fun r=>lookB r σ) (evE e x)).map fun v=>(v,[])
 | .store sz x v=>(gj sz (fun r=>lookB r σ) (evE e x) (evE e v)).map fun d=>(.pv .undef,d)
 | .clear sz zs x=>(gq sz zs (fun r=>lookB r σ) (evE e x)).map fun d=>(.pv (.tup []),d)
 | .toStr x=>(eI (fun r=>lookB r σ) (evE e x)).map fun v=>(v,[])
 | .xop o=>eQ e σ new o
 | .bslice mu t sz len xs=>de mu t sz len new (evL e xs)
 | .append mu t sz by_ x y=>dE mu t sz by_ new (fun r=>lookB r σ) (evE e x) (evE e y)
 | .mk mu t sz by_ zs x y=>rMk mu t sz by_ zs new (evE e x) (evE e y)
 | .sliceA n sz x lo hi=>match evE e x with
   | .ptr r o=>match lookB r σ with
     | .cells _ f l=>if f=true/\o+n*sz<=l.length/\(o=0->n*sz=l.length)/\n<=9223372036854775807 then (dd sz (.row r sz o n) (evO e lo) (evO e hi)).map fun v=>(v,[]) else none
     | _=>none
   | _=>none
theorem BA (G:Nat->List PV)(e:List (Nat×AV))(σ:List (Nat×Blk))(n new:Nat)(o:MOp):o.run G new (St.E ⟨e,σ,n⟩) (St.σ ⟨e,σ,n⟩)=kx G e σ new o:=by
 cases o<;>first | (simp only[MOp.run,kx,iM,Hu,Pk]<;>rfl) | exact Jh e σ n new _
def da (δ:List (Nat×Blk)):Option AV->Option (AV×List (Nat×Blk))
 | some v=>some (v,δ)
 | none=>none
theorem tY (δ:List (Nat×Blk))(v:AV):da δ (some v)=some (v,δ):=_root_.id rfl
def tX (v:AV):Option (List (Nat×Blk))->Option (AV×List (Nat×Blk))
 | some δ=>some (v,δ)
 | none=>none
theorem tW (δ:List (Nat×Blk))(v:AV):tX v (some δ)=some (v,δ):=_root_.id rfl
theorem vV (G:Nat->List PV)(e:List (Nat×AV))(σ:List (Nat×Blk))(new T:Nat)(zs:List PV):kx G e σ new (.alloc T zs)=some (.ptr new 0,[(new,.cells T true (zs.map .pv))]):=_root_.id rfl
def Tu (new T:Nat)(v:AV):Bool->Option (AV×List (Nat×Blk))
 | true=>some (.ptr new 0,[(new,.cells T true v.cells)])
 | false=>none
theorem Qc (new T:Nat)(v:AV):Tu new T v true=some (.ptr new 0,[(new,.cells T true v.cells)]):=_root_.id rfl
theorem Gx (G:Nat->List PV)(e:List (Nat×AV))(σ:List (Nat×Blk))(new T:Nat)(x:AX):kx G e σ new (.box T x)=Tu new T (evE e x) (evE e x).known:=by
 simp only[kx];cases (evE e x).known<;>rfl
def MC (new:Nat):Option PV->Option (AV×List (Nat×Blk))
 | some p=>if p.cells.all PV.one=true then some (.pv (.eptr [p] 0 0),[(new,.none)]) else none
 | none=>none
theorem xx (new:Nat)(p:PV):MC new (some p)=if p.cells.all PV.one=true then some (.pv (.eptr [p] 0 0),[(new,.none)]) else none:=_root_.id rfl
theorem BB (G:Nat->List PV)(e:List (Nat×AV))(σ:List (Nat×Blk))(new T:Nat)(x:AX):kx G e σ new (.cbox T x)=MC new (evE e x).toPV:=by
 simp only[kx,MC]
theorem GL (p:PV):(AV.pv p).known=true:=_root_.id rfl
theorem BT (cs:List AV):(AV.agg cs).known=true:=_root_.id rfl
theorem BP (cs:List AV):(AV.tup cs).known=true:=_root_.id rfl
theorem BR (r o:Nat):(AV.ptr r o).known=true:=_root_.id rfl
theorem BQ (r s o n:Nat):(AV.row r s o n).known=true:=_root_.id rfl
theorem rj (r s:Nat)(l:List PV):(AV.olist r s l).known=true:=_root_.id rfl
theorem BS (f:Nat)(a b:List AV):(AV.clo f a b).known=true:=_root_.id rfl
theorem Bz (G:Nat->List PV)(e:List (Nat×AV))(σ:List (Nat×Blk))(new:Nat)(g:Bool)(sz:Nat)(x:AX):kx G e σ new (.load g sz x)=da [] (ef G g sz (fun r=>lookB r σ) (evE e x)):=by
 simp only[kx];cases ef G g sz (fun r=>lookB r σ) (evE e x)<;>rfl
theorem vT (G:Nat->List PV)(e:List (Nat×AV))(σ:List (Nat×Blk))(new sz:Nat)(x v:AX):kx G e σ new (.store sz x v)=tX (.pv .undef) (gj sz (fun r=>lookB r σ) (evE e x) (evE e v)):=by
 simp only[kx];cases gj sz (fun r=>lookB r σ) (evE e x) (evE e v)<;>rfl
def I0 (sz:Nat)(zs:List PV)(r s off len:Nat):Blk->Option (List (Nat×Blk))
 | .cells T f l=>if s=sz/\0<len/\zs.length=sz/\off+len*sz<=l.length/\zs.all PV.one=true then some [(r,.cells T f (l.take off++(List.replicate len zs).flatten.map .pv++l.drop (off+len*sz)))] else none
 | _=>none
theorem uW (sz:Nat)(zs:List PV)(σ:aq)(r s off len:Nat):gq sz zs σ (.row r s off len)=I0 sz zs r s off len (σ r):=by
 simp only[gq,I0];cases σ r<;>rfl
theorem vU (G:Nat->List PV)(e:List (Nat×AV))(σ:List (Nat×Blk))(new sz:Nat)(zs:List PV)(x:AX):kx G e σ new (.clear sz zs x)=tX (.pv (.tup [])) (gq sz zs (fun r=>lookB r σ) (evE e x)):=by
 simp only[kx,tX];cases gq sz zs (fun r=>lookB r σ) (evE e x)<;>rfl
theorem q8 (G:Nat->List PV)(e:List (Nat×AV))(σ:List (Nat×Blk))(new:Nat)(mu:Bool)(t sz len:Nat)(xs:List AX):kx G e σ new (.bslice mu t sz len xs)=de mu t sz len new (evL e xs):=_root_.id rfl
theorem q9 (G:Nat->List PV)(e:List (Nat×AV))(σ:List (Nat×Blk))(new:Nat)(mu:Bool)(t sz by_:Nat)(x y:AX):kx G e σ new (.append mu t sz by_ x y)=dE mu t sz by_ new (fun r=>lookB r σ) (evE e x) (evE e y):=_root_.id rfl
theorem LA (G:Nat->List PV)(e:List (Nat×AV))(σ:List (Nat×Blk))(new:Nat)(mu:Bool)(t sz by_:Nat)(zs:List PV)(x y:AX):kx G e σ new (.mk mu t sz by_ zs x y)=rMk mu t sz by_ zs new (evE e x) (evE e y):=_root_.id rfl
theorem K3 {e sz by_:Nat}{zs:List PV}{new:Nat}{k k':IntKind}{c:Int}(h:0<=c)(h1:(by_:Int)*c<=281474976710656)(h2:c<=9223372036854775807):rMk false e sz by_ zs new (.pv (.int k 0)) (.pv (.int k' c))=some (.olist new sz [],[(new,.tok e sz)]):=by
 simp[rMk,h,h1,h2]
def sf (sz r o:Nat)(v:AV):Blk->Option (List (Nat×Blk))
 | .cells T f l=>if v.known=true/\v.cells.length=sz/\v.cells.all AV.one=true/\o+sz<=l.length then some [(r,.cells T f (l.take o++v.cells++l.drop (o+sz)))] else none
 | _=>none
theorem uL (sz:Nat)(σ:aq)(r o:Nat)(v:AV):gj sz σ (.ptr r o) v=sf sz r o v (σ r):=by
 simp only[gj,sf];cases σ r<;>rfl
def Ir (r T:Nat)(f:Bool)(l:List AV)(sz o:Nat)(cs:List AV):Bool->Option (List (Nat×Blk))
 | true=>some [(r,.cells T f (l.take o++cs++l.drop (o+sz)))]
 | false=>none
theorem nh (sz r o:Nat)(v:AV)(T:Nat)(f:Bool)(l:List AV):sf sz r o v (.cells T f l)=Ir r T f l sz o v.cells (v.known&&decide (v.cells.length=sz)&&v.cells.all AV.one&&decide (o+sz<=l.length)):=by
 simp only[sf]
 by_cases h:v.known=true/\v.cells.length=sz/\v.cells.all AV.one=true/\o+sz<=l.length
 ·rw[if_pos h]
  have:(v.known&&decide (v.cells.length=sz)&&v.cells.all AV.one&&decide (o+sz<=l.length))=true:=by simp only[UK,decide_eq_true_eq];exact⟨⟨⟨h.1,h.2.1⟩,h.2.2.1⟩,h.2.2.2⟩
  rw[this];rfl
 ·rw[if_neg h]
  have:(v.known&&decide (v.cells.length=sz)&&v.cells.all AV.one&&decide (o+sz<=l.length))=false:=by
   rw[Bool.eq_false_iff]
   intro hh
   simp only[UK,decide_eq_true_eq] at hh
   exact h ⟨hh.1.1.1,hh.1.1.2,hh.1.2,hh.2⟩
  rw[this];rfl
theorem EM (r T:Nat)(f:Bool)(l:List AV)(sz o:Nat)(cs:List AV):Ir r T f l sz o cs true=some [(r,.cells T f (l.take o++cs++l.drop (o+sz)))]:=_root_.id rfl
theorem fS {n m by_:Nat}(h1:n+m<=9223372036854775807)(h2:(n+m)*by_<=140737488355328):kY n m by_=true:=by
 simp[kY,h1,h2]
theorem Em (l:List (Nat×Blk)):je l []=l:=_root_.id rfl
theorem yI (l:List (Nat×Blk))(p:Nat×Blk)(r:List (Nat×Blk)):je l (p::r)=je (p::l) r:=_root_.id rfl
theorem HG (f:Nat)(a b:List PV):dn (.pv (.clo f a b))=some (f,a.map .pv,b.map .pv):=_root_.id rfl
theorem HH (f:Nat)(a b:List AV):dn (.clo f a b)=some (f,a,b):=_root_.id rfl
theorem Lj {α:Type}(a:α)(k:α->Prop):aK (some a) k=k a:=_root_.id rfl
section
variable {P:Program}{G:Nat->List PV}
theorem Ge (F:St->Prop)(e:List (Nat×AV))(σ:List (Nat×Blk))(n d:Nat)(v:AV):Gf F ⟨e,σ,n⟩ (some d) v=F ⟨(d,v)::e,σ,n⟩:=_root_.id rfl
theorem Gd (F:St->Prop)(e:List (Nat×AV))(σ:List (Nat×Blk))(n:Nat)(v:AV):Gf F ⟨e,σ,n⟩ none v=F ⟨e,σ,n⟩:=_root_.id rfl
theorem Gh (F:St->Prop)(e:List (Nat×AV))(σ:List (Nat×Blk))(n d:Nat)(v:AV)(δ:List (Nat×Blk)):vH F ⟨e,σ,n⟩ (some d) (v,δ)=F ⟨(d,v)::e,je σ δ,n+1⟩:=_root_.id rfl
theorem Gg (F:St->Prop)(e:List (Nat×AV))(σ:List (Nat×Blk))(n:Nat)(v:AV)(δ:List (Nat×Blk)):vH F ⟨e,σ,n⟩ none (v,δ)=F ⟨e,je σ δ,n+1⟩:=_root_.id rfl
theorem Gj (F:St->Prop)(e:List (Nat×AV))(σ:List (Nat×Blk))(n d:Nat)(v:AV):Gk F (some d) v ⟨e,σ,n⟩=F ⟨(d,v)::e,σ,n⟩:=_root_.id rfl
theorem Gi (F:St->Prop)(e:List (Nat×AV))(σ:List (Nat×Blk))(n:Nat)(v:AV):Gk F none v ⟨e,σ,n⟩=F ⟨e,σ,n⟩:=_root_.id rfl
theorem HL (args:List AV)(s:St)(K:AV->St->Prop)(f:Nat)(a b:List AV):Dp P G args s K (f,a,b)=ab P G f (a++args++b) s K:=_root_.id rfl
theorem yD (F:St->Prop)(s:St):dv P G [] F s=F s:=_root_.id rfl
theorem t8 (d:Option Nat)(o:AOp)(r:List AOper)(F:St->Prop)(s:St):dv P G (⟨d,o,none⟩::r) F s=ku P G (dv P G r F) s d o:=_root_.id rfl
def jc (b:Bool):AV->Option Bool
 | .pv (.bool x)=>some (x == b)
 | .pv .undef=>some false
 | _=>none
theorem yx (x:Bool):jc true (.pv (.bool x))=some x:=by cases x<;>rfl
theorem yy (x:Bool):jc false (.pv (.bool x))=some (!x):=by cases x<;>rfl
theorem yw (b:Bool):jc b (.pv .undef)=some false:=_root_.id rfl
theorem pM (d:Option Nat)(o:AOp)(i:Nat)(b:Bool)(r:List AOper)(F:St->Prop)(e:List (Nat×AV))(σ:List (Nat×Blk))(n:Nat) :
  dv P G (⟨d,o,some (i,b)⟩::r) F ⟨e,σ,n⟩=aK (jc b (look i e)) (IW P G (dv P G r F) ⟨e,σ,n⟩ d o):=_root_.id rfl
theorem CY (F:St->Prop)(s:St)(d:Option Nat)(o:AOp):IW P G F s d o true=ku P G F s d o:=_root_.id rfl
theorem wT (F:St->Prop)(e:List (Nat×AV))(σ:List (Nat×Blk))(n:Nat)(d:Nat)(o:AOp):IW P G F ⟨e,σ,n⟩ (some d) o false=F ⟨(d,.pv .undef)::e,σ,n⟩:=_root_.id rfl
theorem rC (F:St->Prop)(s:St)(o:AOp):IW P G F s none o false=F s:=_root_.id rfl
def OO (k:AV->Prop):AV->Prop
 | .pv (.list [])=>∀ b:Bool,k (.pv (.bool b))
 | _=>False
def mc (x:Option AV)(k:AV->Prop)(e:List (Nat×AV))(o:TOp):Prop:=
 match x with
 | some v=>k v
 | none=>match o with
   | .beq 2 _ y (.c .nils)=>OO k (evE e y)
   | _=>False
theorem nL (v:AV)(k:AV->Prop)(e:List (Nat×AV))(o:TOp):mc (some v) k e o=k v:=_root_.id rfl
theorem nM (k:AV->Prop)(e:List (Nat×AV))(ng:Bool)(y:AX):mc none k e (.beq 2 ng y (.c .nils))=OO k (evE e y):=_root_.id rfl
theorem F9 (k:AV->Prop):OO k (.pv (.list [])) = ∀ b:Bool,k (.pv (.bool b)):=_root_.id rfl
theorem FN (ng:Bool):AG ng (qt 2 (.pv (.list [])) (.pv .nils))=none:=_root_.id rfl
theorem Pp (F:St->Prop)(e:List (Nat×AV))(σ:List (Nat×Blk))(n:Nat)(d:Option Nat)(o:TOp):ku P G F ⟨e,σ,n⟩ d (.t o)=mc (fA e o) (Gf F ⟨e,σ,n⟩ d) e o:=by
 rw[<- yS e σ n]
 show g8 (o.run (St.E ⟨e,σ,n⟩)) _ _=_
 cases hr:o.run (St.E ⟨e,σ,n⟩) with
 | some v=>rfl
 | none=>
   simp only[g8,mc]
   refine propext ⟨fun h=>?_,fun h=>?_⟩
   ·obtain⟨h1,h2⟩:=h
    unfold nilB at h1
    split at h1
    ·split at h1
     ·rename_i hev
      rw[iM] at hev
      show OO _ _
      rw[hev];exact h2
     ·cases h1
    ·cases h1
   ·split at h
    ·rename_i y
     unfold OO at h
     split at h
     ·rename_i hev
      refine⟨?_,h⟩
      simp only[nilB]
      rw[iM,hev]
     ·exact h.elim
    ·exact h.elim
theorem Pq (F:St->Prop)(e:List (Nat×AV))(σ:List (Nat×Blk))(n:Nat)(d:Option Nat)(o:MOp):ku P G F ⟨e,σ,n⟩ d (.m o)=aK (kx G e σ n o) (vH F ⟨e,σ,n⟩ d):=by
 rw[<- BA G e σ n];rfl
theorem CX (F:St->Prop)(e:List (Nat×AV))(σ:List (Nat×Blk))(n:Nat)(d:Option Nat)(f:AX)(xs:List AX):ku P G F ⟨e,σ,n⟩ d (.call f xs)=aK (dn (evE e f)) (Dp P G (evL e xs) ⟨e,σ,n⟩ (Gk F d)):=by
 rw[<- iM e σ n,<- CH e σ n];rfl
theorem EO (F:List (List Nat×List Nat)->St->Prop)(T:List (List Nat×List Nat))(e:List (Nat×AV))(σ:List (Nat×Blk))(n d:Nat)(v:AV):zb F T ⟨e,σ,n⟩ (some d) v=F (T++[([],[])]) ⟨(d,v)::e,σ,n⟩:=_root_.id rfl
theorem EN (F:List (List Nat×List Nat)->St->Prop)(T:List (List Nat×List Nat))(e:List (Nat×AV))(σ:List (Nat×Blk))(n:Nat)(v:AV):zb F T ⟨e,σ,n⟩ none v=F (T++[([],[])]) ⟨e,σ,n⟩:=_root_.id rfl
theorem EQ (F:List (List Nat×List Nat)->St->Prop)(T:List (List Nat×List Nat))(e:List (Nat×AV))(σ:List (Nat×Blk))(n d k:Nat)(rd:List Nat)(v:AV)(δ:List (Nat×Blk)):zc F T ⟨e,σ,n⟩ (some d) k rd (v,δ)=F (T++[eG k (aU δ) rd]) ⟨(d,v)::e,je σ δ,n+1⟩:=_root_.id rfl
theorem EP (F:List (List Nat×List Nat)->St->Prop)(T:List (List Nat×List Nat))(e:List (Nat×AV))(σ:List (Nat×Blk))(n k:Nat)(rd:List Nat)(v:AV)(δ:List (Nat×Blk)):zc F T ⟨e,σ,n⟩ none k rd (v,δ)=F (T++[eG k (aU δ) rd]) ⟨e,je σ δ,n+1⟩:=_root_.id rfl
theorem au {F:List (List Nat×List Nat)->St->Prop}{T:List (List Nat×List Nat)}{e:List (Nat×AV)}{σ:List (Nat×Blk)}{n d:Nat}{f:Nat}{a b args:List AV}{ps:List PV}{r:PV}(h:ap P G f ps r)(he:pvs (a++args++b)=some ps)
  (hk:F (T++[([],[])]) ⟨(d,.pv r)::e,σ,n⟩):gK P G F T ⟨e,σ,n⟩ (some d) args (f,a,b):=.inl ⟨ps,r,he,h,hk⟩
theorem ke {F:List (List Nat×List Nat)->St->Prop}{T:List (List Nat×List Nat)}{e:List (Nat×AV)}{σ:List (Nat×Blk)}{n d:Nat}{f:Nat}{a b args:List AV}{v:AV}{δ:List (Nat×Blk)}{top:Nat}(h:bW P G f (a++args++b) σ n (fun v' sto' n'=>v'=v/\sto'=je σ δ/\n'=top))(ht:n<=top)
  (hk:F (T++[eG 2 (aU δ) (σ.map (·.1))]) ⟨(d,v)::e,je σ δ,top⟩):gK P G F T ⟨e,σ,n⟩ (some d) args (f,a,b):=.inr ⟨v,δ,top,h,ht,hk⟩
theorem Oi (ks rs:List Nat):eG 0 ks rs=(ks.map (· + 1),rs.map (· + 1)):=_root_.id rfl
theorem Oh (ks rs:List Nat):eG 1 ks rs=(ks.map (· + 1),0::rs.map (· + 1)):=_root_.id rfl
theorem Og (ks rs:List Nat):eG 2 ks rs=(0::ks.map (· + 1),rs.map (· + 1)):=_root_.id rfl
theorem qT (g:Bool)(sz:Nat)(x:AX):aY (.load g sz x)=0:=_root_.id rfl
theorem nZ (sz:Nat)(x v:AX):aY (.store sz x v)=0:=_root_.id rfl
theorem nY (x:AX):aY (.toStr x)=0:=_root_.id rfl
theorem n9 (sz:Nat)(zs:List PV)(x:AX):aY (.clear sz zs x)=0:=_root_.id rfl
theorem mf (n sz:Nat)(x:AX)(l h:Option AX):aY (.sliceA n sz x l h)=0:=_root_.id rfl
theorem ob (T:Nat)(z:List PV):aY (.alloc T z)=1:=_root_.id rfl
theorem vR (T:Nat)(x:AX):aY (.box T x)=1:=_root_.id rfl
theorem qX (T:Nat)(x:AX):aY (.cbox T x)=1:=_root_.id rfl
theorem mg (m:Bool)(e s l:Nat)(x:List AX):aY (.bslice m e s l x)=1:=_root_.id rfl
theorem mh (m:Bool)(e s l:Nat)(x y:AX):aY (.append m e s l x y)=1:=_root_.id rfl
theorem By (m:Bool)(e s l:Nat)(z:List PV)(x y:AX):aY (.mk m e s l z x y)=1:=_root_.id rfl
theorem Jr {A:List (List Nat)}{F:St->Prop}{T:List (List Nat×List Nat)}{s:St}(h:Chk (okB A T)):vcD P G A F [] T s=F s:=by
 show (okB A T=true/\F s)=F s
 rw[eq_iff_iff]
 exact⟨fun x=>x.2,fun x=>⟨h,x⟩⟩
theorem Ej (A:List (List Nat))(F:St->Prop)(d:Option Nat)(o:AOp)(r:List AOper)(T:List (List Nat×List Nat))(s:St):vcD P G A F (⟨d,o,none⟩::r) T s=gG P G (vcD P G A F r) T s d o:=_root_.id rfl
theorem yE (A:List (List Nat))(F:St->Prop)(d:Option Nat)(o:AOp)(i:Nat)(b:Bool)(r:List AOper)(T:List (List Nat×List Nat))(e:List (Nat×AV))(σ:List (Nat×Blk))(n:Nat) :
  vcD P G A F (⟨d,o,some (i,b)⟩::r) T ⟨e,σ,n⟩=aK (jc b (look i e)) (oM P G (vcD P G A F r) T ⟨e,σ,n⟩ d o):=_root_.id rfl
theorem wU (F:List (List Nat×List Nat)->St->Prop)(T:List (List Nat×List Nat))(s:St)(d:Option Nat)(o:AOp):oM P G F T s d o true=gG P G F T s d o:=_root_.id rfl
theorem rD (F:List (List Nat×List Nat)->St->Prop)(T:List (List Nat×List Nat))(e:List (Nat×AV))(σ:List (Nat×Blk))(n:Nat)(d:Nat)(o:AOp):oM P G F T ⟨e,σ,n⟩ (some d) o false=F (T++[([],[])]) ⟨(d,.pv .undef)::e,σ,n⟩:=_root_.id rfl
theorem oL (F:List (List Nat×List Nat)->St->Prop)(T:List (List Nat×List Nat))(s:St)(o:AOp):oM P G F T s none o false=F (T++[([],[])]) s:=_root_.id rfl
theorem Mk (F:List (List Nat×List Nat)->St->Prop)(T:List (List Nat×List Nat))(e:List (Nat×AV))(σ:List (Nat×Blk))(n:Nat)(d:Option Nat)(o:TOp):gG P G F T ⟨e,σ,n⟩ d (.t o)=aK (fA e o) (zb F T ⟨e,σ,n⟩ d):=by
 rw[<- yS e σ n];rfl
def cp (e:List (Nat×AV)):XOp->List Nat
 | .cap _ x=>(evE e x).name
 | .resl _ x _=>(evE e x).name
 | .copy _ x y | .apart x y=>(evE e x).name++(evE e y).name
 | .appz _ _ _ _ x _=>(evE e x).name
 | .ucast _ _ _ x | .apps _ _ x _ | .ustr _ x _ | .same x | .mlen x=>(evE e x).name
 | .noesc _ | .peq _ _ _ | .anyc | .sdata _ | .ofStr _ | .fnil _ _ _ | .inil _ _ _ | .idxb _ _ | .mki _ _ | .mkmap | .bslf _ _ _=>[]
 | .mlook _ _ _ x _ | .mset _ x _ _=>(evE e x).name
def dz (e:List (Nat×AV)):MOp->List Nat
 | .xop o=>cp e o
 | .load _ _ x | .sliceA _ _ x _ _ | .clear _ _ x | .toStr x=>(evE e x).name
 | .append _ _ _ _ x y=>(evE e x).name++(evE e y).name
 | .store _ x _=>(evE e x).name
 | .alloc _ _ | .box _ _ | .cbox _ _ | .bslice _ _ _ _ _ | .mk _ _ _ _ _ _ _=>[]
theorem BC (e:List (Nat×AV))(mu:Bool)(t sz b:Nat)(zs:List PV)(x y:AX):dz e (.mk mu t sz b zs x y)=[]:=_root_.id rfl
theorem oc (e:List (Nat×AV))(x:AX):dz e (.toStr x)=(evE e x).name:=_root_.id rfl
theorem oe (e:List (Nat×AV))(sz:Nat)(zs:List PV)(x:AX):dz e (.clear sz zs x)=(evE e x).name:=_root_.id rfl
theorem rc (e:List (Nat×AV))(g:Bool)(sz:Nat)(x:AX):dz e (.load g sz x)=(evE e x).name:=_root_.id rfl
theorem vW (e:List (Nat×AV))(T:Nat)(x:AX):dz e (.box T x)=[]:=_root_.id rfl
theorem re (e:List (Nat×AV))(T:Nat)(x:AX):dz e (.cbox T x)=[]:=_root_.id rfl
theorem og (e:List (Nat×AV))(T:Nat)(x:List PV):dz e (.alloc T x)=[]:=_root_.id rfl
theorem od (e:List (Nat×AV))(sz:Nat)(x v:AX):dz e (.store sz x v)=(evE e x).name:=_root_.id rfl
theorem mj (e:List (Nat×AV))(mu:Bool)(t sz b:Nat)(x y:AX):dz e (.append mu t sz b x y)=(evE e x).name++(evE e y).name:=_root_.id rfl
theorem mi (e:List (Nat×AV))(mu:Bool)(t sz b:Nat)(x:List AX):dz e (.bslice mu t sz b x)=[]:=_root_.id rfl
theorem Lv (p:PV):(AV.pv p).name=[]:=_root_.id rfl
theorem Gq (r o:Nat):(AV.ptr r o).name=[r]:=_root_.id rfl
theorem Gp (r s o n:Nat):(AV.row r s o n).name=[r]:=_root_.id rfl
theorem vM (r s:Nat)(l:List PV):(AV.olist r s l).name=[r]:=_root_.id rfl
theorem BW:aU ([]:List (Nat×Blk))=[]:=_root_.id rfl
theorem wo (r:Nat)(B:Blk)(q:List (Nat×Blk)):aU ((r,B)::q)=r::aU q:=_root_.id rfl
theorem Ml (F:List (List Nat×List Nat)->St->Prop)(T:List (List Nat×List Nat))(e:List (Nat×AV))(σ:List (Nat×Blk))(n:Nat)(d:Option Nat)(o:MOp):gG P G F T ⟨e,σ,n⟩ d (.m o)=aK (kx G e σ n o) (zc F T ⟨e,σ,n⟩ d (aY o) (dz e o)):=by
 have:dz e o=o.reads (St.E ⟨e,σ,n⟩):=by
  cases o<;>simp only[dz,MOp.reads,iM]
  rename_i o
  cases o<;>simp only[cp,XOp.reads,iM]
 rw[<- BA G e σ n,this];rfl
theorem wS (F:List (List Nat×List Nat)->St->Prop)(T:List (List Nat×List Nat))(e:List (Nat×AV))(σ:List (Nat×Blk))(n:Nat)(d:Option Nat)(f:AX)(xs:List AX):gG P G F T ⟨e,σ,n⟩ d (.call f xs)=aK (dn (evE e f)) (gK P G F T ⟨e,σ,n⟩ d (evL e xs)):=by
 rw[<- iM e σ n,<- CH e σ n];rfl
def xb (e:List (Nat×AV)):List Nat->List (Nat×AV)
 | []=>[]
 | k::r=>(k,look k e)::xb e r
theorem C6 (e:List (Nat×AV)):xb e []=[]:=_root_.id rfl
theorem xa (e:List (Nat×AV))(k:Nat)(r:List Nat):xb e (k::r)=(k,look k e)::xb e r:=_root_.id rfl
theorem tr (e:List (Nat×AV))(σ:List (Nat×Blk))(n:Nat):∀ (l:List Nat),l.map (fun i=>(i,St.E ⟨e,σ,n⟩ i))=xb e l
 | []=>rfl
 | k::r=>by rw[UQ,tr e σ n r];rfl
theorem C7 (seen:List Nat):iF seen []=[]:=_root_.id rfl
theorem xd (seen:List Nat)(k:Nat)(b:Blk)(r:List (Nat×Blk)):iF seen ((k,b)::r)=wY k b (iF (k::seen) r) (sH k seen):=_root_.id rfl
theorem Mp (k:Nat)(b:Blk)(r:List (Nat×Blk)):wY k b r true=r:=_root_.id rfl
theorem Mq (k:Nat)(b:Blk)(r:List (Nat×Blk)):wY k b r false=(k,b)::r:=_root_.id rfl
theorem Gw (k:Nat):sH k []=false:=_root_.id rfl
theorem OQ (k j:Nat)(r:List Nat):sH k (j::r)=if j=k then true else sH k r:=_root_.id rfl
theorem F7 (Q:AExit->St->Prop)(keep:List Nat)(e:List (Nat×AV))(σ:List (Nat×Blk))(n:Nat):qC Q keep ⟨e,σ,n⟩=Q .norm ⟨xb e keep,iF [] σ,n⟩:=by
 rw[<- tr e σ n];rfl
theorem DT (F:St->Prop)(Q:AExit->St->Prop)(s:St):Ic F Q .norm s=F s:=_root_.id rfl
theorem DU (F:St->Prop)(Q:AExit->St->Prop)(i:Nat)(s:St):Ic F Q (.exit i) s=Q (.exit i) s:=_root_.id rfl
theorem Ib (F:St->Prop)(Q:AExit->St->Prop)(s:St):Ic F Q .ret s=Q .ret s:=_root_.id rfl
theorem r4 (id:Nat)(Q:AExit->St->Prop)(s:St):fj id Q .norm s=Q .norm s:=_root_.id rfl
theorem r5 (id:Nat)(Q:AExit->St->Prop)(i:Nat)(s:St):fj id Q (.exit i) s=if i=id then Q .norm s else Q (.exit i) s:=_root_.id rfl
theorem xL (id:Nat)(Q:AExit->St->Prop)(s:St):fj id Q .ret s=Q .ret s:=_root_.id rfl
theorem Jn (m0:Nat)(Q:AExit->St->Prop)(s:St):vc P G m0 .skip Q s=Q .norm s:=_root_.id rfl
theorem Nu (m0:Nat)(l:List AOper)(keep:List Nat)(Q:AExit->St->Prop)(s:St):vc P G m0 (.ops l keep) Q s=dv P G l (qC Q keep) s:=_root_.id rfl
theorem Jp (m0:Nat)(A:List (List Nat))(l l2:List AOper)(keep:List Nat)(Q:AExit->St->Prop)(s:St):vc P G m0 (.draw A l l2 keep) Q s=vcD P G A (dv P G l2 (qC Q keep)) l [] s:=_root_.id rfl
theorem Mj (F:St->Prop)(e:List (Nat×AV))(σ:List (Nat×Blk))(n:Nat)(d:Option Nat)(g:Option (Bool×Nat))(x:AX):ku P G F ⟨e,σ,n⟩ d (.fz g x)=aK (IS G (fun r=>lookB r σ) g (evE e x)) (vH F ⟨e,σ,n⟩ d):=by
 rw[<- iM e σ n];rfl
theorem Ns (m0:Nat)(a b:ACode)(Q:AExit->St->Prop)(s:St):vc P G m0 (.seq a b) Q s=vc P G m0 a (Ic (vc P G m0 b Q) Q) s:=_root_.id rfl
theorem Jq (m0:Nat)(x:AX)(a b:ACode)(Q:AExit->St->Prop)(e:List (Nat×AV))(σ:List (Nat×Blk))(n:Nat):vc P G m0 (.cond x a b) Q ⟨e,σ,n⟩=nO (evE e x) (vc P G m0 a Q) (vc P G m0 b Q) ⟨e,σ,n⟩:=by
 rw[<- iM e σ n];rfl
theorem Ei (m0 id:Nat)(b:ACode)(Q:AExit->St->Prop)(s:St):vc P G m0 (.block id b) Q s=vc P G m0 b (fj id Q) s:=_root_.id rfl
theorem Jo (m0 id:Nat)(Q:AExit->St->Prop)(s:St):vc P G m0 (.exit id) Q s=Q (.exit id) s:=_root_.id rfl
theorem Nt (m0:Nat)(Q:AExit->St->Prop)(s:St):vc P G m0 .ret Q s=Q .ret s:=_root_.id rfl
theorem F5 (b:Bool)(F H:St->Prop)(s:St):nO (.pv (.bool b)) F H s=ifB b F H s:=by cases b<;>rfl
theorem RQ (F H:St->Prop)(s:St):ifB true F H s=F s:=_root_.id rfl
theorem RR (F H:St->Prop)(s:St):ifB false F H s=H s:=_root_.id rfl
theorem e6 {b:Bool}{F H:St->Prop}{s:St}(h1:b=true->F s)(h2:b=false->H s):ifB b F H s:=by
 cases b
 ·exact h2 rfl
 ·exact h1 rfl
def Ot (G:Nat->List PV)(e:List (Nat×AV))(σ:List (Nat×Blk)):ARes->Option AV
 | .tmp t=>some (look t e)
 | .cell t g sz=>ef G g sz (fun r=>lookB r σ) (look t e)
theorem Fe (e:List (Nat×AV))(σ:List (Nat×Blk))(t:Nat):Ot G e σ (.tmp t)=some (look t e):=_root_.id rfl
theorem zJ (e:List (Nat×AV))(σ:List (Nat×Blk))(t:Nat)(g:Bool)(sz:Nat):Ot G e σ (.cell t g sz)=ef G g sz (fun r=>lookB r σ) (look t e):=_root_.id rfl
theorem Ih (res:List ARes)(R:AV->List (Nat×Blk)->Nat->Prop)(s:St):FnK G res R .norm s=aK (eX G s res) (Iz R s):=_root_.id rfl
theorem M3 (res:List ARes)(R:AV->List (Nat×Blk)->Nat->Prop)(s:St):FnK G res R .ret s=aK (eX G s res) (Iz R s):=_root_.id rfl
theorem KP (R:AV->List (Nat×Blk)->Nat->Prop)(e:List (Nat×AV))(σ:List (Nat×Blk))(n:Nat)(l:List AV):Iz R ⟨e,σ,n⟩ l=R (xO l) σ n:=_root_.id rfl
theorem Om (x:AV):xO [x]=x:=_root_.id rfl
theorem On:xO [] = .pv (.tup []):=_root_.id rfl
theorem Ol (x y:AV)(r:List AV):xO (x::y::r)=nT (x::y::r):=_root_.id rfl
def Py:Option AV->Option (List AV)->Option (List AV)
 | some a,some b=>some (a::b)
 | _,_=>none
theorem wZ (a:AV)(b:List AV):Py (some a) (some b)=some (a::b):=_root_.id rfl
theorem zI (s:St):eX G s []=some []:=_root_.id rfl
theorem uH (e:List (Nat×AV))(σ:List (Nat×Blk))(n:Nat)(r:ARes)(q:List ARes):eX G ⟨e,σ,n⟩ (r::q)=Py (Ot G e σ r) (eX G ⟨e,σ,n⟩ q):=by
 have:Oq G ⟨e,σ,n⟩ r=Ot G e σ r:=by cases r<;>rfl
 show (match Oq G ⟨e,σ,n⟩ r,eX G ⟨e,σ,n⟩ q with | some a,some b=>some (a::b) | _,_=>none)=_
 rw[this]
 cases Ot G e σ r<;>cases eX G ⟨e,σ,n⟩ q<;>rfl
theorem FQ (r:PV)(v:AV)(σ:List (Nat×Blk))(n:Nat):OA r v σ n=isR r σ v:=_root_.id rfl
theorem O4 (r p:PV)(σ:List (Nat×Blk)):isR r σ (.pv p)=Nz p r:=propext ⟨fun ⟨q,h,g⟩=>by cases h;exact g,fun h=>⟨(p,[]),rfl,h⟩⟩
theorem B4 (r:PV)(k sz:Nat)(l:List PV)(σ:List (Nat×Blk)):isR r σ (.olist k sz l)=Nz (.list l) r:=propext ⟨fun ⟨q,h,g⟩=>by cases h;exact g,fun h=>⟨(.list l,[]),rfl,h⟩⟩
def O7 (r:PV):Option (PV×List Nat)->Prop
 | some q=>Nz q.1 r
 | none=>False
theorem B6 (r p:PV)(l:List Nat):O7 r (some (p,l))=Nz p r:=_root_.id rfl
theorem B5 (r:PV)(σ:List (Nat×Blk))(v:AV):isR r σ v=O7 r (rr (fun r=>lookB r σ) v):=by
 unfold isR O7
 cases rr (fun r=>lookB r σ) v with
 | none=>simp
 | some q=>simp
theorem LR (r:PV)(cs:List AV)(σ:List (Nat×Blk)):isR r σ (.agg cs)=O7 r ((D5 (fun r=>lookB r σ) cs).map fun p=>(.agg p.1,p.2)):=B5 _ _ _
theorem LQ (r:PV)(k sz len:Nat)(σ:List (Nat×Blk)):isR r σ (.row k sz 0 len)=O7 r (L8 sz len k (lookB k σ)):=B5 _ _ _
def ww:List AV->Nat->List (Nat×AV)
 | [],_=>[]
 | x::r,k=>(k,x)::ww r (k+1)
theorem B9 (k:Nat):ww [] k=[]:=_root_.id rfl
theorem wv (x:AV)(r:List AV)(k:Nat):ww (x::r) k=(k,x)::ww r (k+1):=_root_.id rfl
theorem B8:∀ (args:List AV) (k:Nat),((args.zipIdx k).map fun p=>(p.2,p.1))=ww args k
 | [],k=>rfl
 | x::r,k=>by rw[List.zipIdx_cons,UQ,B8 r (k+1)];rfl
theorem wu (args:List AV):dk args=ww args 0:=B8 args 0
theorem Rn {ι:Type}(S:ι->St)(Inv:ι->Prop)(μ:ι->Nat)(x0:ι){m0:Nat}{keep:List Nat}{b:ACode}{Q:AExit->St->Prop}{s:St}(h0:Wk m0 s (S x0))(hi:Inv x0)
  (h:∀ x,Inv x->vc P G m0 b (fun e s'=>match e with
   | .norm=>∃ x',Wk m0 s' (S x')/\Inv x'/\μ x'<μ x
   | .exit i=>Q (.exit i) s'
   | .ret=>Q .ret s') (S x)):vc P G m0 (.loop keep b) Q s:=by
 refine⟨fun n s=>∃ x,s=S x/\Inv x/\μ x=n,⟨μ x0,S x0,h0,x0,rfl,hi,rfl⟩,?_⟩
 rintro n s ⟨x,rfl,hx,rfl⟩
 refine cK b (fun e s' hs=>?_) _ (h x hx)
 cases e with
 | norm=>
   obtain⟨x',h1,h2,h3⟩:=hs
   exact⟨_,_,h3,h1,x',rfl,h2,rfl⟩
 | exit i=>exact⟨s',Wk.of (Wx.refl s') m0,hs⟩
 | ret=>exact hs
def Hd (A:List (Nat×Nat×Nat×Nat))(m0:Nat)(keep:List Nat)(s t:St):Prop:=Wk m0 s t
theorem aN {A:List (Nat×Nat×Nat×Nat)}{m0:Nat}{keep:List Nat}{s t:St}(h:StZ (cC A m0 keep s) t):Hd A m0 keep s t:=Wk.head h
def lR {ι:Type}(A:List (Nat×Nat×Nat×Nat))(S:ι->St)(Inv:ι->Prop)(μ:ι->Nat)(x:ι)(m0:Nat)(keep:List Nat)(Q:AExit->St->Prop):AExit->St->Prop
 | .norm,s'=>∃ x',Hd A m0 keep s' (S x')/\Inv x'/\μ x'<μ x
 | .exit i,s'=>Q (.exit i) s'
 | .ret,s'=>Q .ret s'
theorem rY {ι:Type}(A:List (Nat×Nat×Nat×Nat))(S:ι->St)(Inv:ι->Prop)(μ:ι->Nat)(x:ι)(m0:Nat)(keep:List Nat)(Q:AExit->St->Prop)(s:St):lR A S Inv μ x m0 keep Q .norm s = ∃ x',Hd A m0 keep s (S x')/\Inv x'/\μ x'<μ x:=_root_.id rfl
theorem rZ {ι:Type}(A:List (Nat×Nat×Nat×Nat))(S:ι->St)(Inv:ι->Prop)(μ:ι->Nat)(x:ι)(m0:Nat)(keep:List Nat)(Q:AExit->St->Prop)(i:Nat)(s:St):lR A S Inv μ x m0 keep Q (.exit i) s=Q (.exit i) s:=_root_.id rfl
theorem xK {ι:Type}(A:List (Nat×Nat×Nat×Nat))(S:ι->St)(Inv:ι->Prop)(μ:ι->Nat)(x:ι)(m0:Nat)(keep:List Nat)(Q:AExit->St->Prop)(s:St):lR A S Inv μ x m0 keep Q .ret s=Q .ret s:=_root_.id rfl
theorem yz {ι:Type}(A:List (Nat×Nat×Nat×Nat))(S:ι->St)(Inv:ι->Prop)(μ:ι->Nat)(x0:ι){m0:Nat}{keep:List Nat}{b:ACode}{Q:AExit->St->Prop}{s:St}(h0:Hd A m0 keep s (S x0))(hi:Inv x0)
  (h:∀ x,Inv x->vc P G m0 b (lR A S Inv μ x m0 keep Q) (S x)):vc P G m0 (.loop keep b) Q s:=by
 refine Rn S Inv μ x0 h0 hi fun x hx=>?_
 have e:(fun (e:AExit) (s':St)=>match e with
   | .norm=>∃ x',Wk m0 s' (S x')/\Inv x'/\μ x'<μ x
   | .exit i=>Q (.exit i) s'
   | .ret=>Q .ret s')=lR A S Inv μ x m0 keep Q:=by
  funext e s'
  cases e<;>rfl
 rw[e];exact h x hx
def vj (k:Nat)(x:AV):List (Nat×AV)->AV
 | []=>x
 | p::r=>if p.1=k then p.2 else vj k x r
def dL:List (Nat×AV)->List (Nat×AV)->List (Nat×AV)
 | [],_=>[]
 | p::r,ch=>(p.1,vj p.1 p.2 ch)::dL r ch
def vo (k:Nat)(x:Blk):List (Nat×Blk)->Blk
 | []=>x
 | p::r=>if p.1=k then p.2 else vo k x r
def eM:List (Nat×Blk)->List (Nat×Blk)->List (Nat×Blk)
 | [],_=>[]
 | p::r,ch=>(p.1,vo p.1 p.2 ch)::eM r ch
theorem AQ (k:Nat)(x:AV):vj k x []=x:=_root_.id rfl
theorem vi (k j:Nat)(x y:AV)(r:List (Nat×AV)):vj k x ((j,y)::r)=if j=k then y else vj k x r:=_root_.id rfl
theorem AY (ch:List (Nat×AV)):dL [] ch=[]:=_root_.id rfl
theorem vu (k:Nat)(x:AV)(r ch:List (Nat×AV)):dL ((k,x)::r) ch=(k,vj k x ch)::dL r ch:=_root_.id rfl
theorem AR (k:Nat)(x:Blk):vo k x []=x:=_root_.id rfl
theorem vm (k j:Nat)(x y:Blk)(r:List (Nat×Blk)):vo k x ((j,y)::r)=if j=k then y else vo k x r:=_root_.id rfl
theorem AZ (ch:List (Nat×Blk)):eM [] ch=[]:=_root_.id rfl
theorem vw (k:Nat)(x:Blk)(r ch:List (Nat×Blk)):eM ((k,x)::r) ch=(k,vo k x ch)::eM r ch:=_root_.id rfl
theorem aw {ι:Type}(A:List (Nat×Nat×Nat×Nat))(ch:ι->List (Nat×AV))(chB:ι->List (Nat×Blk))(Inv:ι->Prop)(μ:ι->Nat)(x0:ι){m0:Nat}{keep:List Nat}{b:ACode}{Q:AExit->St->Prop}{s:St}
  (h:∀ e0 σ0 n0,cC A m0 keep s=⟨e0,σ0,n0⟩->StZ ⟨e0,σ0,n0⟩ ⟨dL e0 (ch x0),eM σ0 (chB x0),n0⟩/\Inv x0 /\
   ∀ x,Inv x->vc P G m0 b (lR A (fun x=>⟨dL e0 (ch x),eM σ0 (chB x),n0⟩) Inv μ x m0 keep Q) ⟨dL e0 (ch x),eM σ0 (chB x),n0⟩):vc P G m0 (.loop keep b) Q s:=by
 obtain⟨h1,h2,h3⟩:=h (cC A m0 keep s).env (cC A m0 keep s).sto (cC A m0 keep s).next rfl
 exact yz A (fun x=>⟨dL (cC A m0 keep s).env (ch x),eM (cC A m0 keep s).sto (chB x),(cC A m0 keep s).next⟩) Inv μ x0 (aN h1) h2 h3
end
theorem Fq (k k':IntKind)(x y:Int):K4 (.pv (.int k x)) (.pv (.int k' y))=some (.pv (.int k (min x y))):=by
 simp only[K4,Uu,AV.pv.injEq,PV.int.injEq,true_and]
 split<;>omega
theorem Fr (k k':IntKind)(x y:Int):K5 (.pv (.int k x)) (.pv (.int k' y))=some (.pv (.int k (max x y))):=by
 simp only[K5,Uu,AV.pv.injEq,PV.int.injEq,true_and]
 split<;>omega
theorem uc (a:Nat)(b:Int):(min (a:Int) b).toNat=min a b.toNat:=by omega
theorem pO (a:Nat)(b:Int):(min b (a:Int)).toNat=min b.toNat a:=by omega
theorem na {α:Type}(l:List α)(n:Nat):l.take (min l.length n)=l.take n:=by
 rcases Nat.le_total l.length n with h | h
 ·rw[Nat.min_eq_left h,List.take_length,Ux h]
 ·rw[Nat.min_eq_right h]
theorem yN {α:Type}(l:List α)(n:Nat):l.take (min n l.length)=l.take n:=by rw[Nat.min_comm,na]
theorem map_take {α β:Type}(f:α->β)(l:List α)(n:Nat):(l.map f).take n=(l.take n).map f:=List.map_take.symm
theorem map_drop {α β:Type}(f:α->β)(l:List α)(n:Nat):(l.map f).drop n=(l.drop n).map f:=List.map_drop.symm
theorem Ba {α β:Type}(f:α->β):(none:Option α).map f=none:=_root_.id rfl
def fe (mu:Bool)(e sz by_ new:Nat)(σ:aq)(x:AV):Option (List PV)->Option (AV×List (Nat×Blk))
 | some ys=>match mu,x with
   | false,.pv .nils=>match ys with
     | []=>some (.pv .nils,[])
     | y::r=>if kY 0 (r.length+1) by_=true then some (.olist new sz (y::r),[(new,.tok e sz)]) else none
   | false,.olist q s l=>match σ q with
     | .tok e' sz'=>if e'=e/\sz'=sz/\s=sz/\kY l.length ys.length by_=true then some (.olist new sz (l++ys),[(q,.none),(new,.tok e sz)]) else none
     | _=>none
   | true,.pv .nils=>match ys with
     | []=>some (.pv .nils,[])
     | y::r=>if kY 0 (r.length+1) by_=true then some (.row new sz 0 (r.length+1),[(new,.cells e false (cn (y::r)))]) else none
   | true,.row q s off len=>match σ q with
     | .cells e' _ l=>if e'=e/\s=sz/\off=0/\len*sz<=l.length/\kY len ys.length by_=true then some (.row new sz 0 (len+ys.length),[(q,.none),(new,.cells e false (l.take (len*sz)++cn ys))]) else none
     | _=>none
   | _,_=>none
 | none=>none
def H0 (e sz by_ new q s:Nat)(l ys:List PV):Blk->Option (AV×List (Nat×Blk))
 | .tok e' sz'=>if e'=e/\sz'=sz/\s=sz/\kY l.length ys.length by_=true then some (.olist new sz (l++ys),[(q,.none),(new,.tok e sz)]) else none
 | _=>none
def xE (e sz by_ new q s off len:Nat)(ys:List PV):Blk->Option (AV×List (Nat×Blk))
 | .cells e' _ l=>if e'=e/\s=sz/\off=0/\len*sz<=l.length/\kY len ys.length by_=true then some (.row new sz 0 (len+ys.length),[(q,.none),(new,.cells e false (l.take (len*sz)++cn ys))]) else none
 | _=>none
theorem u9 (mu:Bool)(e sz by_ new:Nat)(σ:aq)(x y:AV):dE mu e sz by_ new σ x y=fe mu e sz by_ new σ x (be σ sz y):=by
 unfold dE fe
 cases be σ sz y<;>rfl
theorem Ql (e sz by_ new:Nat)(σ:aq)(q s:Nat)(l ys:List PV):fe false e sz by_ new σ (.olist q s l) (some ys)=H0 e sz by_ new q s l ys (σ q):=by
 simp only[fe,H0]
theorem HZ {e sz by_ new q:Nat}{l ys:List PV}(h1:l.length+ys.length<=9223372036854775807)(h2:(l.length+ys.length)*by_<=140737488355328):H0 e sz by_ new q sz l ys (.tok e sz)=some (.olist new sz (l++ys),[(q,.none),(new,.tok e sz)]):=by
 simp[H0,fS h1 h2]
theorem HX (e sz by_ new:Nat)(σ:aq):fe false e sz by_ new σ (.pv .nils) (some [])=some (.pv .nils,[]):=_root_.id rfl
theorem HW {e sz by_ new:Nat}{σ:aq}{y:PV}{r:List PV}(h1:r.length+1<=9223372036854775807)(h2:(r.length+1)*by_<=140737488355328):fe false e sz by_ new σ (.pv .nils) (some (y::r))=some (.olist new sz (y::r),[(new,.tok e sz)]):=by
 simp only[fe];rw[if_pos (fS (by omega) (by simpa using h2))]
theorem MO (e sz by_ new:Nat)(σ:aq)(q s off len:Nat)(ys:List PV):fe true e sz by_ new σ (.row q s off len) (some ys)=xE e sz by_ new q s off len ys (σ q):=by
 simp only[fe,xE]
theorem HY {e sz by_ new q len:Nat}{f:Bool}{l:List AV}{ys:List PV}(h0:len*sz<=l.length)(h1:len+ys.length<=9223372036854775807)(h2:(len+ys.length)*by_<=140737488355328) :
  xE e sz by_ new q sz 0 len ys (.cells e f l)=some (.row new sz 0 (len+ys.length),[(q,.none),(new,.cells e false (l.take (len*sz)++cn ys))]):=by
 simp[xE,h0,fS h1 h2]
theorem xD {e sz by_ new q:Nat}{f:Bool}{l:List AV}{ys:List PV}(h1:ys.length<=9223372036854775807)(h2:ys.length*by_<=140737488355328) :
  xE e sz by_ new q sz 0 0 ys (.cells e f l)=some (.row new sz 0 ys.length,[(q,.none),(new,.cells e false (cn ys))]):=by
 have:=fS (n:=0) (m:=ys.length) (by_:=by_) (by omega) (by simpa using h2)
 simp[xE,this]
def tj (l:List PV):Bool->Option (List PV)
 | true=>some l
 | false=>none
theorem wM (σ:aq)(sz:Nat):be σ sz (.pv .nils)=some []:=_root_.id rfl
theorem wN (σ:aq)(sz:Nat)(l:List PV):be σ sz (.pv (.list l))=tj l (l.all fun y=>y.cells.length == sz):=by
 simp only[be]
 cases l.all (fun y=>y.cells.length == sz)<;>rfl
theorem wO (l:List PV):tj l true=some l:=_root_.id rfl
theorem rA (σ:aq)(sz r:Nat)(l:List PV):be σ sz (.olist r sz l)=some l:=by simp[be]
def Qb (e sz new:Nat):Option (List PV)->Option (AV×List (Nat×Blk))
 | some ps=>if ps.all (fun p=>p.cells.length == sz&&p.cells.all PV.one)=true then some (.olist new sz ps,[(new,.tok e sz)]) else none
 | none=>none
theorem Sq {e sz len new:Nat}{vs:List AV}(h:vs.length=len)(h2:len<=9223372036854775807):de false e sz len new vs=Qb e sz new (pvs vs):=by
 simp only[de,h,h2,true_and,if_true,Qb]
 cases pvs vs<;>rfl
def Tt (e sz new:Nat)(ps:List PV):Bool->Option (AV×List (Nat×Blk))
 | true=>some (.olist new sz ps,[(new,.tok e sz)])
 | false=>none
theorem Qa (e sz new:Nat)(ps:List PV):Tt e sz new ps true=some (.olist new sz ps,[(new,.tok e sz)]):=_root_.id rfl
theorem Dy (e sz new:Nat)(ps:List PV):Qb e sz new (some ps)=Tt e sz new ps (ps.all fun p=>p.cells.length == sz&&p.cells.all PV.one):=by
 simp only[Qb]
 cases ps.all (fun p=>p.cells.length == sz&&p.cells.all PV.one)<;>rfl
theorem Dz (e sz new:Nat):Qb e sz new none=none:=_root_.id rfl
theorem P9 {e sz new:Nat}:de true e sz 0 new []=some (.row new sz 0 0,[(new,.cells e true [])]):=by
 simp[de]
theorem bh (b:Bool):PV.one (.bool b)=true:=_root_.id rfl
theorem bG (k:IntKind)(n:Int):PV.one (.int k n)=true:=_root_.id rfl
theorem bF (s:List UInt8):PV.one (.str s)=true:=_root_.id rfl
theorem F0:PV.one .nils=true:=_root_.id rfl
theorem bg (l:List PV):PV.one (.list l)=true:=_root_.id rfl
theorem Li (p:PV):AV.one (.pv p)=p.one:=_root_.id rfl
theorem F3 (r o:Nat):AV.one (.ptr r o)=true:=_root_.id rfl
theorem F1 (r s o n:Nat):AV.one (.row r s o n)=true:=_root_.id rfl
theorem vA (r s:Nat)(l:List PV):AV.one (.olist r s l)=true:=_root_.id rfl
theorem F4 (f:Nat)(a b:List AV):AV.one (.clo f a b)=true:=_root_.id rfl
def qA (sz:Nat)(l:List PV)(h:Nat):Option Nat->Option AV
 | some a=>if M8 sz l a=true then some (.pv (.list ((l.take h).drop a))) else none
 | none=>none
def nN (sz:Nat)(l:List PV)(lo:Option AV):Option Nat->Option AV
 | some h=>qA sz l h (bd 0 h lo)
 | none=>none
theorem nD (sz:Nat)(l:List PV)(lo hi:Option AV):dd sz (.pv (.list l)) lo hi=nN sz l lo (bd l.length l.length hi):=by
 show IC sz l lo hi=_
 unfold IC nN qA
 cases bd l.length l.length hi with
 | none=>rfl
 | some h=>simp only;cases bd 0 h lo<;>rfl
theorem l0 (sz r s:Nat)(l:List PV)(lo hi:Option AV):dd sz (.olist r s l) lo hi=nN sz l lo (bd l.length l.length hi):=by
 show IC sz l lo hi=_
 unfold IC nN qA
 cases bd l.length l.length hi with
 | none=>rfl
 | some h=>simp only;cases bd 0 h lo<;>rfl
theorem qz (sz:Nat)(l:List PV)(lo:Option AV)(h:Nat):nN sz l lo (some h)=qA sz l h (bd 0 h lo):=_root_.id rfl
theorem vC (sz:Nat)(l:List PV)(h:Nat):qA sz l h (some 0)=some (.pv (.list (l.take h))):=by
 simp[qA,M8]
theorem vD {sz:Nat}{l:List PV}{h a:Nat}(hs:M8 sz l a=true):qA sz l h (some a)=some (.pv (.list ((l.take h).drop a))):=if_pos hs
theorem vB (sz:Nat)(l:List PV)(i:Nat)(y:PV):jA sz l i (some y)=if y.cells.length=sz then some (.pv (.eptr l i 0)) else none:=_root_.id rfl
theorem H2 {α β:Type}(f:α->β)(p:β->Bool)(l:List α):(l.map f).all p=l.all fun x=>p (f x):=by
 rw[List.all_map];rfl
theorem Qm {α:Type}(l:List α):(l.all fun _=>true)=true:=by simp
theorem Qg (n:Nat):(n == n)=true:=by simp
def OW (sz:Nat)(e:PV):Bool->Option AV
 | true=>some (.pv e)
 | false=>dg true sz 0 (e.cells.map .pv)
theorem LF (sz:Nat)(e:PV):OW sz e true=some (.pv e):=_root_.id rfl
theorem GD (sz:Nat)(e:PV):ky true sz 0 e=OW sz e (e.isAgg&&decide (e.cells.length=sz)):=by
 simp only[ky,true_and]
 by_cases h:e.isAgg=true/\e.cells.length=sz
 ·rw[if_pos h,h.1,decide_eq_true h.2];rfl
 ·rw[if_neg h]
  have:(e.isAgg&&decide (e.cells.length=sz))=false:=by
   rw[Bool.eq_false_iff]
   intro hh
   simp only[UK,decide_eq_true_eq] at hh
   exact h hh
  rw[this];rfl
theorem B7 (cs:List PV):(PV.agg cs).isAgg=true:=_root_.id rfl
theorem cH {α:Type}{sz:Nat}{f:α->PV}(hf:∀ x,(f x).cells.length=sz){l:List α}{i o:Nat}{x:α}(hx:l[i]? = some x)(ho:o<sz):(cn (l.map f))[i*sz+o]? = ((f x).cells[o]?).map .pv:=by
 have:=i1 (sz:=sz) (j:=o) ho ((l.map f).map PV.cells) i (by
  intro y hy
  simp only[UO] at hy
  obtain⟨p,⟨s,_,rfl⟩,rfl⟩:=hy
  exact hf s)
 have e:cn (l.map f)=(((l.map f).map PV.cells).flatten).map .pv:=by simp[cn,List.flatMap_def]
 rw[e,UE,this]
 simp[hx]
theorem dA {α:Type}{sz:Nat}{f:α->PV}(hf:∀ x,(f x).cells.length=sz)(l:List α):(cn (l.map f)).length=l.length*sz:=by
 have:=gB (sz:=sz) ((l.map f).map PV.cells) (by
  intro y hy
  simp only[UO] at hy
  obtain⟨p,⟨s,_,rfl⟩,rfl⟩:=hy
  exact hf s)
 simp only[cn,U0,List.flatMap_def] at this ⊢
 exact this
theorem oy {α:Type}{sz:Nat}{f:α->PV}(hf:∀ x,(f x).cells.length=sz){l:List α}{i o:Nat}{x y:α}{p:PV}(hx:l[i]? = some x)(ho:o<sz)(hy:(f y).cells=(f x).cells.set o p) :
  (cn (l.map f)).take (i*sz+o)++[.pv p]++(cn (l.map f)).drop (i*sz+o+1)=cn ((l.set i y).map f):=by
 have hlen:=dA hf l
 have hi:i<l.length:=(Ur.1 hx).1
 have hb:i*sz+o<l.length*sz:=ot hi ho
 have hset:∀ (L:List AV) (k:Nat) (z:AV),k<L.length->L.take k++[z]++L.drop (k+1)=L.set k z:=by
  intro L k z hk
  rw[List.set_eq_take_append_cons_drop,if_pos hk]
  simp
 rw[hset _ _ _ (by omega)]
 apply List.ext_getElem?
 intro j
 by_cases hj:j<l.length*sz
 ·have hsz:0<sz:=by omega
  have hq:j / sz<l.length:=Nat.div_lt_of_lt_mul (by rw[Nat.mul_comm];exact hj)
  have hr:j % sz<sz:=Nat.mod_lt _ hsz
  have hj':j=j / sz*sz+j % sz:=by rw[Nat.mul_comm];exact (Nat.div_add_mod j sz).symm
  generalize j / sz=a at *
  generalize j % sz=b at *
  subst hj'
  obtain⟨z,hz⟩:∃ z,l[a]? = some z:=⟨_,Uq hq⟩
  by_cases ha:a=i
  ·subst ha
   rw[hx] at hz;cases hz
   have hz':(l.set a y)[a]? = some y:=by rw[List.getElem?_set_self hq]
   rw[cH hf hz' hr,hy]
   by_cases hb':b=o
   ·subst hb'
    rw[List.getElem?_set_self (by omega),List.getElem?_set_self (by rw[hf];exact ho)];rfl
   ·rw[List.getElem?_set_ne (by omega),cH hf hx hr,List.getElem?_set_ne (by omega)]
  ·have hz':(l.set i y)[a]? = some z:=by rw[List.getElem?_set_ne (by omega)];exact hz
   rw[cH hf hz' hr]
   have hne:i*sz+o≠a*sz+b:=by
    intro he
    rcases U6 a i with h | h
    ·have:(a+1)*sz<=i*sz:=UA _ h
     rw[Vo] at this;omega
    ·have:(i+1)*sz<=a*sz:=UA _ (by omega)
     rw[Vo] at this;omega
   rw[List.getElem?_set_ne hne,cH hf hz hr]
 ·rw[Vp (by rw[List.length_set,hlen];omega),Vp (by rw[dA hf];simp;omega)]
def fzO (σ:aq):Option AV->Option (AV×List (Nat×Blk))
 | some v=>(rr σ v).map IP
 | none=>none
theorem Pf (G:Nat->List PV)(σ:aq)(v:AV):IS G σ none v=(rr σ v).map IP:=_root_.id rfl
theorem Pg (G:Nat->List PV)(σ:aq)(g:Bool)(sz:Nat)(v:AV):IS G σ (some (g,sz)) v=fzO σ (ef G g sz σ v):=by
 simp only[IS,fzO];cases ef G g sz σ v<;>rfl
theorem Hh (σ:aq)(v:AV):fzO σ (some v)=(rr σ v).map IP:=_root_.id rfl
theorem Hj (σ:aq)(cs:List AV):rr σ (.agg cs)=(D5 σ cs).map fun p=>(.agg p.1,p.2):=_root_.id rfl
theorem L3 (σ:aq)(p:PV):rr σ (.pv p)=some (p,[]):=_root_.id rfl
theorem L4 (σ:aq)(r s:Nat)(l:List PV):rr σ (.olist r s l)=some (.list l,[]):=_root_.id rfl
theorem Hi (σ:aq)(r s n:Nat):rr σ (.row r s 0 n)=L8 s n r (σ r):=_root_.id rfl
theorem L6 (σ:aq)(p:PV):IQ σ (.pv p)=some (p,[]):=_root_.id rfl
theorem L7 (σ:aq)(r s:Nat)(l:List PV):IQ σ (.olist r s l)=some (.list l,[]):=_root_.id rfl
theorem Hm (σ:aq)(r s n:Nat):IQ σ (.row r s 0 n)=L8 s n r (σ r):=_root_.id rfl
theorem Hk (σ:aq):D5 σ []=some ([],[]):=_root_.id rfl
theorem Co (σ:aq)(x:AV)(r:List AV):D5 σ (x::r)=Ra (IQ σ x) (D5 σ r):=_root_.id rfl
theorem Cp (p:PV)(a:List Nat)(q:List PV)(b:List Nat):Ra (some (p,a)) (some (q,b))=some (p::q,a++b):=_root_.id rfl
theorem L5 (p:PV)(l:List Nat):IP (p,l)=(.pv p,l.map fun r=>(r,.none)):=_root_.id rfl
theorem Hn {α:Type}{sz:Nat}{f:α->PV}(hf:∀ x,∃ cs,f x = .agg cs/\cs.length=sz/\∀ p∈cs,p.one=true)(hsz:2<=sz)(l:List α){n r T:Nat}{b:Bool}(hn:n=l.length) :
  L8 sz n r (.cells T b (cn (l.map f)))=some (.list (l.map f),[r]):=by
 have hlen:=dA (sz:=sz) (f:=f) (fun x=>by obtain⟨cs,h1,h2,_⟩:=hf x;rw[h1];exact h2) l
 subst hn
 have hone:(cn (l.map f)).all AV.one=true:=by
  rw[UD]
  intro x hx
  simp only[cn,UO,List.mem_flatMap] at hx
  obtain⟨p,⟨q,⟨s,_,rfl⟩,hq⟩,rfl⟩:=hx
  obtain⟨cs,h1,h2,h3⟩:=hf s
  rw[h1] at hq
  exact h3 p hq
 have hpv:pvs (cn (l.map f))=some ((l.map f).flatMap PV.cells):=eZ _
 have hch:∀ l:List α,ij sz l.length ((l.map f).flatMap PV.cells)=l.map f:=by
  intro l
  induction l with
  | nil=>rfl
  | cons x r ih=>
    obtain⟨cs,h1,h2,_⟩:=hf x
    simp only[UC,ij,UQ,Vx,h1,ae]
    rw[if_neg (by omega),List.take_left' h2,List.drop_left' h2,ih]
 simp only[L8]
 rw[if_pos ⟨by omega,by omega,by rw[Ux (by omega)];exact hone⟩,Ux (by omega),hpv]
 simp[hch]
theorem Gl (p:PV):(AV.pv p).names=[]:=_root_.id rfl
theorem Bj (r o:Nat):(AV.ptr r o).names=[r]:=_root_.id rfl
theorem Bi (r a b c:Nat):(AV.row r a b c).names=[r]:=_root_.id rfl
theorem Gm (r a:Nat)(l:List PV):(AV.olist r a l).names=[r]:=_root_.id rfl
theorem Bm (cs:List AV):(AV.agg cs).names=AV.namesL cs:=by simp only[AV.names]
theorem Bh (cs:List AV):(AV.tup cs).names=AV.namesL cs:=by simp only[AV.names]
theorem Bk (f:Nat)(fs cs:List AV):(AV.clo f fs cs).names=AV.namesL fs++AV.namesL cs:=by simp only[AV.names]
theorem Bl:AV.any.names=[]:=_root_.id rfl
theorem vJ:AV.namesL []=[]:=_root_.id rfl
theorem jD (x:AV)(r:List AV):AV.namesL (x::r)=x.names++AV.namesL r:=by simp only[AV.namesL]
theorem jC:∀ l:List PV,AV.namesL (l.map .pv)=[]
 | []=>rfl
 | x::r=>by rw[UQ,jD,jC r];rfl
theorem qD (l:List PV):AV.namesL (cn l)=[]:=jC _
theorem nR (T:Nat)(f:Bool)(l:List AV):(Blk.cells T f l).names=AV.namesL l:=_root_.id rfl
theorem vK (e s:Nat):(Blk.tok e s).names=[]:=_root_.id rfl
theorem qF:Blk.none.names=[]:=_root_.id rfl
theorem H4 (acc:List Nat):bK acc []=acc:=_root_.id rfl
def MX (acc:List Nat)(n:Nat):Bool->List Nat
 | true=>acc
 | false=>acc++[n]
theorem iE (x:Nat):∀ l:List Nat,l.contains x=sH x l
 | []=>rfl
 | y::r=>by
   rw[List.contains_cons,iE x r,nW]
   by_cases h:y=x
   ·simp[h]
   ·have h':¬ x=y:=fun e=>h e.symm
    simp[h,h']
theorem DN (acc:List Nat)(n:Nat)(r:List Nat):bK acc (n::r)=bK (MX acc n (sH n acc)) r:=by
 simp only[bK,iE]
 cases sH n acc<;>rfl
theorem MV (acc:List Nat)(n:Nat):MX acc n true=acc:=_root_.id rfl
theorem MW (acc:List Nat)(n:Nat):MX acc n false=acc++[n]:=_root_.id rfl
def geN (m0:Nat):List Nat->List Nat
 | []=>[]
 | x::r=>if m0<=x then x::geN m0 r else geN m0 r
theorem LZ (m0:Nat):geN m0 []=[]:=_root_.id rfl
theorem sO (m0 x:Nat)(r:List Nat):geN m0 (x::r)=if m0<=x then x::geN m0 r else geN m0 r:=_root_.id rfl
theorem Cn (m0:Nat):∀ l:List Nat,l.filter (fun r=>decide (m0<=r))=geN m0 l
 | []=>rfl
 | x::r=>by rw[List.filter_cons,Cn m0 r,sO];simp
def dB (sto:List (Nat×Blk)):List Nat->List Nat
 | []=>[]
 | r::q=>(lookB r sto).names++dB sto q
theorem pa (sto:List (Nat×Blk)):dB sto []=[]:=_root_.id rfl
theorem gL (sto:List (Nat×Blk))(r:Nat)(q:List Nat):dB sto (r::q)=(lookB r sto).names++dB sto q:=_root_.id rfl
theorem f0 (sto:List (Nat×Blk)):∀ l:List Nat,(l.flatMap fun r=>(lookB r sto).names)=dB sto l
 | []=>rfl
 | r::q=>by rw[Vx,f0 sto q,gL]
theorem KZ (m0:Nat)(sto:List (Nat×Blk))(acc:List Nat):fH m0 sto 0 acc=acc:=_root_.id rfl
theorem KY (m0:Nat)(sto:List (Nat×Blk))(k:Nat)(acc:List Nat):fH m0 sto (k+1) acc=fH m0 sto k (bK acc (geN m0 (dB sto acc))):=by
 rw[<- Cn,<- f0];rfl
def ew (e:List (Nat×AV)):List Nat->List Nat
 | []=>[]
 | k::r=>(look k e).names++ew e r
theorem oI (e:List (Nat×AV)):ew e []=[]:=_root_.id rfl
theorem mE (e:List (Nat×AV))(k:Nat)(r:List Nat):ew e (k::r)=(look k e).names++ew e r:=_root_.id rfl
theorem jY (e:List (Nat×AV))(σ:List (Nat×Blk))(n:Nat):∀ l:List Nat,(l.flatMap fun i=>((⟨e,σ,n⟩:St).E i).names)=ew e l
 | []=>rfl
 | k::r=>by rw[Vx,jY e σ n r];rfl
def zG:Nat->Nat->List Nat
 | 0,_=>[]
 | n+1,k=>k::zG n (k+1)
theorem RD (k:Nat):zG 0 k=[]:=_root_.id rfl
theorem Ok (n k:Nat):zG (n+1) k=k::zG n (k+1):=_root_.id rfl
theorem zF:∀ n k:Nat,zG n k=List.range' k n
 | 0,k=>rfl
 | n+1,k=>by rw[Ok,zF n,List.range'_succ]
theorem Iy (n:Nat):List.range n=zG n 0:=by rw[zF,List.range_eq_range']
theorem Ll (m0:Nat)(keep:List Nat)(e:List (Nat×AV))(σ:List (Nat×Blk))(n:Nat):OJ m0 keep ⟨e,σ,n⟩=fH m0 σ σ.length (bK [] (geN m0 (ew e keep++dB σ (zG m0 0)))):=by
 rw[<- Cn,<- jY e σ n,<- f0,<- Iy];rfl
def nQ (f:Nat->Option Nat)(e:List (Nat×AV)):List Nat->List (Nat×AV)
 | []=>[]
 | k::r=>(k,(look k e).ren f)::nQ f e r
theorem Bd (f:Nat->Option Nat)(e:List (Nat×AV)):nQ f e []=[]:=_root_.id rfl
theorem vE (f:Nat->Option Nat)(e:List (Nat×AV))(k:Nat)(r:List Nat):nQ f e (k::r)=(k,(look k e).ren f)::nQ f e r:=_root_.id rfl
def Bc (m0:Nat)(keep:List Nat)(e:List (Nat×AV))(σ:List (Nat×Blk))(os:List Nat):St:=⟨nQ (dF m0 os) e keep,eH m0 (dF m0 os) σ (zG m0 0++os) 0,m0+os.length⟩
theorem Lq (m0:Nat)(keep:List Nat)(e:List (Nat×AV))(σ:List (Nat×Blk))(n:Nat):norm m0 keep ⟨e,σ,n⟩=Bc m0 keep e σ (fH m0 σ σ.length (bK [] (geN m0 (ew e keep++dB σ (zG m0 0))))):=by
 rw[<- Ll m0 keep e σ n]
 have hE:∀ (f:Nat->Option Nat) (l:List Nat),(l.map fun i=>(i,((⟨e,σ,n⟩:St).E i).ren f))=nQ f e l:=by
  intro f l
  induction l with
  | nil=>rfl
  | cons k r ih=>rw[UQ,ih];rfl
 simp only[norm,Bc,hE,Iy]
theorem Ls (m0:Nat)(keep:List Nat)(e:List (Nat×AV))(σ:List (Nat×Blk))(x:Nat)(r:List Nat):Bc m0 keep e σ (x::r)=⟨nQ (dF m0 (x::r)) e keep,eH m0 (dF m0 (x::r)) σ (zG m0 0++(x::r)) 0,m0+(x::r).length⟩:=_root_.id rfl
theorem Lr (m0:Nat)(keep:List Nat)(e:List (Nat×AV))(σ:List (Nat×Blk)):Bc m0 keep e σ []=⟨nQ (dF m0 []) e keep,eH m0 (dF m0 []) σ (zG m0 0) 0,m0⟩:=by
 simp only[Bc,UU];rfl
theorem uI (m0:Nat)(f:Nat->Option Nat)(σ:List (Nat×Blk))(k:Nat):eH m0 f σ [] k=[]:=_root_.id rfl
theorem p7 (m0:Nat)(f:Nat->Option Nat)(σ:List (Nat×Blk))(r:Nat)(q:List Nat)(k:Nat):eH m0 f σ (r::q) k=(k,(lookB r σ).ren f)::eH m0 f σ q (k+1):=_root_.id rfl
theorem vI (m0:Nat)(os:List Nat)(r:Nat):dF m0 os r=if r<m0 then some r else GY r os m0:=_root_.id rfl
theorem GX (x k:Nat):GY x [] k=none:=_root_.id rfl
theorem Cd (x y:Nat)(r:List Nat)(k:Nat):GY x (y::r) k=if y=x then some k else GY x r (k+1):=_root_.id rfl
def RF (o:Nat):Option Nat->AV
 | some q=>.ptr q o
 | none=>.any
def RE (a b c:Nat):Option Nat->AV
 | some q=>.row q a b c
 | none=>.any
def RG (a:Nat)(l:List PV):Option Nat->AV
 | some q=>.olist q a l
 | none=>.pv (.list l)
theorem IA (f:Nat->Option Nat)(p:PV):(AV.pv p).ren f = .pv p:=by simp only[AV.ren]
theorem KV (f:Nat->Option Nat):AV.any.ren f = .any:=by simp only[AV.ren]
theorem KT (f:Nat->Option Nat)(r o:Nat):(AV.ptr r o).ren f=RF o (f r):=by simp only[AV.ren,RF]<;>(cases f r<;>rfl)
theorem KS (f:Nat->Option Nat)(r a b c:Nat):(AV.row r a b c).ren f=RE a b c (f r):=by simp only[AV.ren,RE]<;>(cases f r<;>rfl)
theorem Ou (f:Nat->Option Nat)(r a:Nat)(l:List PV):(AV.olist r a l).ren f=RG a l (f r):=by simp only[AV.ren,RG]<;>(cases f r<;>rfl)
theorem KW (f:Nat->Option Nat)(cs:List AV):(AV.agg cs).ren f = .agg (AV.renL f cs):=by simp only[AV.ren]
theorem KR (f:Nat->Option Nat)(cs:List AV):(AV.tup cs).ren f = .tup (AV.renL f cs):=by simp only[AV.ren]
theorem KU (f:Nat->Option Nat)(g:Nat)(fs cs:List AV):(AV.clo g fs cs).ren f = .clo g (AV.renL f fs) (AV.renL f cs):=by simp only[AV.ren]
theorem zP (o q:Nat):RF o (some q) = .ptr q o:=_root_.id rfl
theorem zO (a b c q:Nat):RE a b c (some q) = .row q a b c:=_root_.id rfl
theorem zU (a:Nat)(l:List PV)(q:Nat):RG a l (some q) = .olist q a l:=_root_.id rfl
theorem Ff (f:Nat->Option Nat):AV.renL f []=[]:=_root_.id rfl
theorem ny (f:Nat->Option Nat)(x:AV)(r:List AV):AV.renL f (x::r)=x.ren f::AV.renL f r:=by simp only[AV.renL]
theorem p8 (f:Nat->Option Nat):∀ l:List PV,AV.renL f (l.map .pv)=l.map .pv
 | []=>rfl
 | x::r=>by rw[UQ,ny,p8 f r,IA]
theorem zY (f:Nat->Option Nat)(l:List PV):AV.renL f (cn l)=cn l:=p8 f _
theorem uJ (f:Nat->Option Nat)(T:Nat)(b:Bool)(l:List AV):(Blk.cells T b l).ren f = .cells T b (AV.renL f l):=_root_.id rfl
theorem Fg (f:Nat->Option Nat)(e s:Nat):(Blk.tok e s).ren f = .tok e s:=_root_.id rfl
theorem zZ (f:Nat->Option Nat):Blk.none.ren f = .none:=_root_.id rfl
theorem F8 (A:List (Nat×Nat×Nat×Nat))(m0:Nat)(keep:List Nat)(s:St):cC A m0 keep s=norm m0 keep (H6 A s):=_root_.id rfl
theorem H5 (s:St):H6 [] s=s:=_root_.id rfl
theorem DO (k e sz:Nat)(r:List (Nat×Nat×Nat×Nat))(env:List (Nat×AV))(σ:List (Nat×Blk))(n:Nat):H6 ((k,0,e,sz)::r) ⟨env,σ,n⟩=H6 r (M0 k e sz ⟨env,σ,n⟩ (look k env)):=_root_.id rfl
theorem DP (k j e sz:Nat)(r:List (Nat×Nat×Nat×Nat))(env:List (Nat×AV))(σ:List (Nat×Blk))(n:Nat):H6 ((k,j+1,e,sz)::r) ⟨env,σ,n⟩=H6 r (QA j e sz ⟨env,σ,n⟩ (look k env)):=_root_.id rfl
theorem DS (k e sz:Nat)(env:List (Nat×AV))(σ:List (Nat×Blk))(n:Nat):M0 k e sz ⟨env,σ,n⟩ (.pv .nils)=⟨(k,g9 n e sz)::env,(n,cQ e sz)::σ,n+1⟩:=_root_.id rfl
theorem Ia (k e sz r a b c:Nat)(s:St):M0 k e sz s (.row r a b c)=s:=_root_.id rfl
theorem Lu {n e sz:Nat}(h:e<1000000):g9 n e sz = .olist n sz []:=if_pos h
theorem Lt {n e sz:Nat}(h:1000000<=e):g9 n e sz = .row n sz 0 0:=if_neg (Nat.not_lt.2 h)
theorem Gb {e sz:Nat}(h:e<1000000):cQ e sz = .tok e sz:=if_pos h
theorem Ga {e sz:Nat}(h:1000000<=e):cQ e sz = .cells (e - 1000000) false []:=if_neg (Nat.not_lt.2 h)
theorem MZ (k e sz r a:Nat)(l:List PV)(s:St):M0 k e sz s (.olist r a l)=s:=_root_.id rfl
theorem H8 (o e sz r b:Nat)(env:List (Nat×AV))(σ:List (Nat×Blk))(n:Nat):QA o e sz ⟨env,σ,n⟩ (.ptr r b)=accB r (b+o) e sz ⟨env,σ,n⟩ (lookB r σ):=_root_.id rfl
theorem xH (r o e sz T:Nat)(f:Bool)(l:List AV)(s:St):accB r o e sz s (.cells T f l)=Nj r T f l o e sz s l[o]?:=_root_.id rfl
theorem DR (r T:Nat)(f:Bool)(l:List AV)(o e sz:Nat)(env:List (Nat×AV))(σ:List (Nat×Blk))(n:Nat):Nj r T f l o e sz ⟨env,σ,n⟩ (some (.pv .nils))=⟨env,(r,.cells T f (l.set o (g9 n e sz)))::(n,cQ e sz)::σ,n+1⟩:=_root_.id rfl
theorem H9 (r T:Nat)(f:Bool)(l:List AV)(o e sz:Nat)(s:St)(q a b c:Nat):Nj r T f l o e sz s (some (.row q a b c))=s:=_root_.id rfl
theorem MY (r T:Nat)(f:Bool)(l:List AV)(o e sz:Nat)(s:St)(q a:Nat)(k:List PV):Nj r T f l o e sz s (some (.olist q a k))=s:=_root_.id rfl
theorem Ty {α:Type}(x y:α)(r:List α):(x::r).set 0 y=y::r:=_root_.id rfl
theorem Tx {α:Type}(x y:α)(r:List α)(n:Nat):(x::r).set (n+1) y=x::r.set n y:=_root_.id rfl
theorem Rp (e e':List (Nat×AV))(σ σ':List (Nat×Blk))(n n':Nat):(St.mk e σ n=St.mk e' σ' n')=(e=e'/\σ=σ'/\n=n'):=by rw[St.mk.injEq]
theorem Pr {a b:Nat}(h:a<b):decide (a<b)=true:=decide_eq_true h
theorem Ps {a b:Nat}(h:¬ a<b):decide (a<b)=false:=decide_eq_false h
theorem Pt {a b:Nat}(h:a<=b):decide (a<=b)=true:=decide_eq_true h
theorem Pu {a b:Nat}(h:¬ a<=b):decide (a<=b)=false:=decide_eq_false h
theorem Pv {a b:Nat}(h:a=b):decide (a=b)=true:=decide_eq_true h
theorem Pw {a b:Nat}(h:¬ a=b):decide (a=b)=false:=decide_eq_false h
theorem aC {α:Type}{l:List α}{m:Nat}{x:α}(h:l[m]? = some x):l.take (m+1)=l.take m++[x]:=by
 obtain⟨h1,h2⟩:=Ur.1 h
 rw[List.take_succ_eq_append_getElem h1,h2]
def Pe (cells:List AV)(off sz:Nat)(r:List (Nat×Nat×AV))(xc:List AV):Bool->Option (List AV)
 | true=>fX (cells.take off++xc++cells.drop (off+sz)) r
 | false=>none
theorem Md (cells:List AV)(off sz:Nat)(r:List (Nat×Nat×AV))(xc:List AV):Pe cells off sz r xc true=fX (cells.take off++xc++cells.drop (off+sz)) r:=_root_.id rfl
theorem CD (cells:List AV):fX cells []=some cells:=_root_.id rfl
theorem wF (cells:List AV)(off sz:Nat)(x:AV)(r:List (Nat×Nat×AV)):fX cells ((off,sz,x)::r)=Pe cells off sz r x.cells (x.known&&decide (x.cells.length=sz)&&decide (off+sz<=cells.length)):=by
 simp only[fX]
 by_cases h:x.known=true/\x.cells.length=sz/\off+sz<=cells.length
 ·rw[if_pos h,h.1,decide_eq_true h.2.1,decide_eq_true h.2.2];rfl
 ·rw[if_neg h]
  have:(x.known&&decide (x.cells.length=sz)&&decide (off+sz<=cells.length))=false:=by
   rw[Bool.eq_false_iff]
   intro hh
   simp only[UK,decide_eq_true_eq] at hh
   exact h ⟨hh.1.1,hh.1.2,hh.2⟩
  rw[this];rfl
theorem FW (sz off:Nat)(cs:List AV):OC sz off cs=if off+sz<=cs.length then some (iI ((cs.drop off).take sz)) else none:=_root_.id rfl
section
variable {P:Program}{G:Nat->List PV}
def pn {ι:Type}(A:List (Nat×Nat×Nat×Nat))(S:ι->St)(Inv:ι->Prop)(μ:ι->Nat)(x:ι)(m0:Nat)(keep:List Nat)(id:Nat)(keepX:List Nat)(fin:ι->Prop)(Q:AExit->St->Prop):AExit->St->Prop
 | .norm,s'=>∃ x',Hd A m0 keep s' (S x')/\Inv x'/\μ x'<μ x
 | .exit i,s'=>if i=id then ∃ x',fin x'/\norm m0 keepX s'=norm m0 keepX (S x') else Q (.exit i) s'
 | .ret,s'=>Q .ret s'
theorem rU {ι:Type}(A:List (Nat×Nat×Nat×Nat))(S:ι->St)(Inv:ι->Prop)(μ:ι->Nat)(x:ι)(m0:Nat)(keep:List Nat)(id:Nat)(keepX:List Nat)(fin:ι->Prop)(Q:AExit->St->Prop)(s:St):pn A S Inv μ x m0 keep id keepX fin Q .norm s = ∃ x',Hd A m0 keep s (S x')/\Inv x'/\μ x'<μ x:=_root_.id rfl
theorem rV {ι:Type}(A:List (Nat×Nat×Nat×Nat))(S:ι->St)(Inv:ι->Prop)(μ:ι->Nat)(x:ι)(m0:Nat)(keep:List Nat)(id:Nat)(keepX:List Nat)(fin:ι->Prop)(Q:AExit->St->Prop)(i:Nat)(s:St):pn A S Inv μ x m0 keep id keepX fin Q (.exit i) s=if i=id then (∃ x',fin x'/\norm m0 keepX s=norm m0 keepX (S x')) else Q (.exit i) s:=_root_.id rfl
theorem xI {ι:Type}(A:List (Nat×Nat×Nat×Nat))(S:ι->St)(Inv:ι->Prop)(μ:ι->Nat)(x:ι)(m0:Nat)(keep:List Nat)(id:Nat)(keepX:List Nat)(fin:ι->Prop)(Q:AExit->St->Prop)(s:St):pn A S Inv μ x m0 keep id keepX fin Q .ret s=Q .ret s:=_root_.id rfl
theorem dC {ι:Type}(A:List (Nat×Nat×Nat×Nat))(ch:ι->List (Nat×AV))(chB:ι->List (Nat×Blk))(Inv:ι->Prop)(μ:ι->Nat)(x0:ι)(keepX:List Nat)(fin:ι->Prop){m0 id:Nat}{keep:List Nat}{b:ACode}{F:St->Prop}{Q:AExit->St->Prop}{s:St}
  (h:∀ e0 σ0 n0,cC A m0 keep s=⟨e0,σ0,n0⟩->StZ ⟨e0,σ0,n0⟩ ⟨dL e0 (ch x0),eM σ0 (chB x0),n0⟩/\Inv x0 /\
   (∀ x,Inv x->vc P G m0 b (pn A (fun x=>⟨dL e0 (ch x),eM σ0 (chB x),n0⟩) Inv μ x m0 keep id keepX fin Q) ⟨dL e0 (ch x),eM σ0 (chB x),n0⟩) /\
   ∀ x,fin x->∀ s1,norm m0 keepX ⟨dL e0 (ch x),eM σ0 (chB x),n0⟩=s1->F s1):vc P G m0 (.loop keep b) (fj id (Ic F Q)) s:=by
 obtain⟨h1,h2,h3,h4⟩:=h (cC A m0 keep s).env (cC A m0 keep s).sto (cC A m0 keep s).next rfl
 refine⟨fun n s'=>∃ x,s'=⟨dL (cC A m0 keep s).env (ch x),eM (cC A m0 keep s).sto (chB x),(cC A m0 keep s).next⟩/\Inv x/\μ x=n,⟨μ x0,_,Wk.head (A:=A) (keep:=keep) h1,x0,rfl,h2,rfl⟩,?_⟩
 rintro n s' ⟨x,rfl,hx,rfl⟩
 refine cK b (fun e s' hs=>?_) _ (h3 x hx)
 cases e with
 | norm=>
   obtain⟨x',k1,k2,k3⟩:=hs
   exact⟨_,_,k3,k1,x',rfl,k2,rfl⟩
 | exit i=>
   simp only[pn] at hs
   split at hs
   ·rename_i hi
    obtain⟨x',k1,k2⟩:=hs
    refine⟨norm m0 keepX s',Wk.norm m0 keepX s',?_⟩
    simp only[fj,if_pos hi,Ic]
    exact h4 x' k1 _ k2.symm
   ·rename_i hi
    refine⟨s',Wk.of (Wx.refl s') m0,?_⟩
    simp only[fj,if_neg hi,Ic]
    exact hs
 | ret=>exact hs
end
def Kap.cut (κ:Kap)(k:Nat):Kap:=⟨κ.w,fun r=>if r<k then κ.nm r else none,κ.imm⟩
theorem Kap.cut_ext (κ:Kap)(k:Nat):Ext (κ.cut k) κ:=by
 refine⟨fun _ _ h=>h,fun _ _ _ _ h=>h,fun r d h=>?_,fun _ _ h _=>h⟩
 simp only[Kap.cut] at h
 split at h
 ·exact h
 ·cases h
theorem Kap.cut_none (κ:Kap)(k r:Nat)(h:k<=r):(κ.cut k).nm r=none:=by simp only[Kap.cut];rw[if_neg (by omega)]
def po (P:Program)(G:Nat->List PV)(k:Nat)(f:Nat)(args:List AV)(sto:List (Nat×Blk))(next:Nat)(Q:AV->List (Nat×Blk)->Nat->Prop):Prop:=
 bY P f=true/\∀ (κ:Kap) (vals:Array Value),SRel (cu κ (fun r=>lookB r sto) G) κ (fun r=>lookB r sto)->(∀ r,next<=r->κ.nm r=none)->vals.size=args.length ->
  (∀ (i:Nat) (x:AV),args[i]? = some x->ARel κ x (vals.getD i Go.undef)) ->
  Calls P f vals κ.w fun e w'=>∃ u v κ' sto' next',e = .returned u/\κ'.w=w'/\Ext (κ.cut k) κ'/\Left (cu κ (fun r=>lookB r sto) G) κ.imm κ'/\ARel κ' v u /\
   SRel (cu κ (fun r=>lookB r sto) G) κ' (fun r=>lookB r sto')/\(∀ r,next'<=r->κ'.nm r=none)/\Q v sto' next'
section
variable {P:Program}{G:Nat->List PV}
theorem po.of_code {muts:List Nat}{k f:Nat}{fn:AFn}{args:List AV}{sto:List (Nat×Blk)}{next:Nat}{R:AV->List (Nat×Blk)->Nat->Prop}(hc:cFn P muts f=some fn)(hn:args.length<=fn.N)
  (hv:vc P G k fn.body (FnK G fn.res R) ⟨dk args,sto,next⟩):po P G k f args sto next R:=by
 unfold cFn at hc
 split at hc
 ·rename_i fnc hfn
  split at hc
  ·rename_i co hco
   split at hc
   ·rename_i rs hrs
    split at hc
    ·rename_i hok
     split at hc
     ·rename_i b li hb
      cases hc
      refine⟨hok,fun κ vals hS hf hsz hargs=>?_⟩
      refine callsIn_wide.1 (callsIn_of_wp_marks (n:=0) hfn hco trivial ?_ rfl)
      let c:=cu κ (fun r=>lookB r sto) G
      have hsize:(vals++Vr (fnc.ntmps - vals.size) Go.undef).size=fnc.ntmps:=by
       simp only at hn
       simp only[Array.size_append,Array.size_replicate];omega
      have hR:Rel c (κ.cut k) fnc.ntmps ⟨dk args,sto,next⟩ ⟨vals++Vr (fnc.ntmps - vals.size) Go.undef,[]⟩ κ.w κ:=by
       refine⟨rfl,κ.cut_ext k,hS,⟨rfl,rfl,rfl,UI _,fun _ _ _=>rfl,fun _ _ h=>.inl h⟩,fun i=>?_,hsize,dt.nil _ _,hf⟩
       show ARel κ (look i ((args.zipIdx 0).map fun p=>(p.2,p.1))) _
       rw[jG,if_pos (Vn _),Nat.sub_zero]
       cases hx:args[i]? with
       | none=>exact .any _
       | some x=>
         have hi:i<vals.size:=by rw[hsz];exact (Ur.1 hx).1
         have:=hargs i x hx
         have e:(vals++Vr (fnc.ntmps - vals.size) Go.undef).getD i Go.undef=vals.getD i Go.undef:=by
          simp only[Uw]
          rw[Array.getElem?_append_left hi]
         rw[e];exact this
      refine Go.wpIn_mono (r6 (P:=P) (N:=fnc.ntmps) co c (κ.cut k) k none 0 b [] (gV rs) li (FnK G rs R) _ _ κ.w κ (.inl rfl) (fun r hr=>κ.cut_none k r hr) (UI _) hb hR hv) ?_
      have fin:∀ (s:St) (κ':Kap) (a:Act) (w:World),Rel c (κ.cut k) fnc.ntmps s a w κ'->aK (eX G s rs) (Iz R s)->∃ v,(results fnc a.tmps).run P w = .ok v w /\
        ∃ u v' κ'' sto' next',Ending.returned v = .returned u/\κ''.w=w/\Ext (κ.cut k) κ''/\Left c κ.imm κ''/\ARel κ'' v' u/\SRel c κ'' (fun r=>lookB r sto')/\(∀ r,next'<=r->κ''.nm r=none)/\R v' sto' next':=by
       intro s κ' a w hR hF
       simp only[aK] at hF
       split at hF
       ·rename_i vs hvs
        obtain⟨us,h1,h2,h3⟩:=jq (P:=P) hR fnc.results.toList rs vs hrs hvs
        have hrun:(results fnc a.tmps).run P w = .ok (if h:us.toArray.size=1 then us.toArray[0] else .tuple us.toArray) w:=by
         rw[kZ,Sem.run_bind,Array.mapM_eq_mapM_toList]
         simp only[Sem.run_bind,Sem.run_map]
         rw[h1]
         simp
        refine⟨_,hrun,_,xO vs,κ',s.sto,s.next,rfl,hR.w_eq,hR.ext0,hR.left,?_,hR.rel,hR.fresh,hF⟩
        by_cases hl:vs.length=1
        ·obtain⟨v,rfl⟩:=List.length_eq_one_iff.1 hl
         obtain⟨u,rfl⟩:=List.length_eq_one_iff.1 (h2.trans hl)
         have:=h3 0 v rfl
         exact this
        ·have hul:¬ us.toArray.size=1:=by simpa[h2] using hl
         rw[dif_neg hul]
         have hrv:xO vs=nT vs:=by
          unfold xO
          split
          ·simp at hl
          ·rfl
         rw[hrv]
         exact nS (.tup _ _ (by simpa using h2) (fun i x hx=>by rw[aA];simpa using h3 i x hx))
       ·exact hF.elim
      intro e a w hq
      cases e with
      | normal=>
        obtain⟨s,κ',hR,hF⟩:=hq
        exact gw (UI _) rfl hR fun w' κ'' hR'=>fin s κ'' ⟨a.tmps,[]⟩ w' hR' hF
      | ret=>
        obtain⟨s,κ',hR,hF⟩:=hq
        exact gw (UI _) rfl hR fun w' κ'' hR'=>fin s κ'' ⟨a.tmps,[]⟩ w' hR' hF
      | exit id=>
        obtain⟨s,κ',hR,hF⟩:=hq
        exact hF.elim
      | goto l=>exact hq.elim
      | panic ch=>exact hq.elim
      | outgrown=>exact hq.elim
     ·cases hc
    ·cases hc
   ·cases hc
  ·cases hc
 ·cases hc
def cI:List Blk->Nat->List (Nat×Blk)
 | [],_=>[]
 | b::r,k=>(k,b)::cI r (k+1)
theorem lm:∀ (bs:List Blk) (k i:Nat),lookB i (cI bs k)=if k<=i then bs.getD (i - k) .none else .none
 | [],k,i=>by simp[cI,lookB]
 | b::r,k,i=>by
   simp only[cI,lookB]
   by_cases h:k=i
   ·subst h;simp
   ·rw[if_neg h,lm r (k+1) i]
    by_cases hk:k<=i
    ·rw[if_pos (by omega),if_pos hk,show i - k=(i - (k+1))+1 by omega];simp
    ·rw[if_neg (by omega),if_neg hk]
theorem fV (bs:List Blk):(fun r=>lookB r (cI bs 0))=fun r=>bs.getD r .none:=by
 funext r;rw[lm];simp
def bA (P:Program)(G:Nat->List PV)(k f:Nat)(args:List AV)(bs:List Blk)(v:AV)(bs':List Blk):Prop:=
 po P G k f args (cI bs 0) bs.length fun v' sto' next'=>v'=v/\sto'=cI bs' 0/\next'=bs'.length
def GG (k:Nat)(v:AV)(bs':List Blk)(v':AV)(sto':List (Nat×Blk))(next':Nat):Prop:=
 Wk k ⟨[(0,v')],sto',next'⟩ ⟨[(0,v)],cI bs' 0,bs'.length⟩
theorem bA.of_lcalls {k f:Nat}{args:List AV}{bs:List Blk}{v:AV}{bs':List Blk}(h:po P G k f args (cI bs 0) bs.length (GG k v bs')):bA P G k f args bs v bs':=by
 obtain⟨hcal,h⟩:=h
 refine⟨hcal,fun κ vals hS hf hsz hargs=>(h κ vals hS hf hsz hargs).mono ?_⟩
 rintro e w' ⟨u,v',κ',sto',next',rfl,rfl,he,hL,hv,hS',hf',hw⟩
 obtain⟨κ'',hR⟩:=hw _ (κ.cut k) κ' 1 ⟨#[u],[]⟩ κ'.w (fun r hr=>κ.cut_none k r hr) ⟨rfl,he,hS',hL,fun i=>by
  show ARel κ' (look i [(0,v')]) _
  by_cases hi:0=i
  ·subst hi;simpa[look] using hv
  ·simp only[look,if_neg hi];exact .any _,rfl,dt.nil _ _,hf'⟩
 refine⟨u,v,κ'',_,_,rfl,hR.w_eq,hR.ext0,hR.left,?_,hR.rel,hR.fresh,rfl,rfl,rfl⟩
 have:=hR.env 0
 simpa[St.E,look] using this
theorem bA.intro {muts:List Nat}{k f:Nat}{fn:AFn}{args:List AV}{bs:List Blk}{v:AV}{bs':List Blk}(hc:cFn P muts f=some fn)(hn:args.length<=fn.N)
  (hv:vc P G k fn.body (FnK G fn.res (GG k v bs')) ⟨dk args,cI bs 0,bs.length⟩):bA P G k f args bs v bs':=
 bA.of_lcalls (po.of_code hc hn hv)
def gIn (next:Nat):List Nat->Nat->Nat
 | [],i=>next+i
 | r::_,0=>r
 | _::q,i+1=>gIn next q i
def gSo (next:Nat)(rs:List Nat)(r:Nat):Option Nat:=some (gIn next rs r)
theorem jO (next:Nat):∀ (rs:List Nat) (i:Nat) (r:Nat),rs[i]? = some r->gIn next rs i=r
 | [],i,r,h=>by simp at h
 | x::q,0,r,h=>by simpa[gIn] using h
 | x::q,i+1,r,h=>by simpa[gIn] using jO next q i r (by simpa using h)
theorem ly (next:Nat):∀ (rs:List Nat) (i:Nat),rs.length<=i->gIn next rs i=next+(i - rs.length)
 | [],i,h=>by simp[gIn]
 | x::q,0,h=>by simp at h
 | x::q,i+1,h=>by
   simp only[UC] at h
   rw[gIn,ly next q i (by omega)]
   simp
mutual
theorem unren {κ κ':Kap}(hw:κ'.w=κ.w)(hi:κ'.imm=κ.imm){g:Nat->Nat}(hf:∀ r,κ'.nm r=κ.nm (g r)):∀ (x:AV) (v:Value),ARel κ (x.ren fun r=>some (g r)) v->ARel κ' x v
 | .pv p,v,h=>by
   simp only[AV.ren] at h
   cases h with
   | pv _ _ hp=>exact .pv _ _ (by rw[hw,hi];exact hp)
 | .any,v,h=>.any v
 | .ptr r o,v,h=>by
   simp only[AV.ren] at h
   cases h with
   | ptr _ _ b n hn=>exact .ptr _ _ b n (by rw[hf r];exact hn)
 | .row r a b c,v,h=>by
   simp only[AV.ren] at h
   cases h with
   | row _ _ _ _ bb n cap hn h1 h2 h3 h4=>exact .row _ _ _ _ bb n cap (by rw[hf r];exact hn) h1 h2 h3 h4
   | row0 _ _ hn=>exact .row0 _ _ (by rw[hf r];exact hn)
 | .olist r a l,v,h=>by
   simp only[AV.ren] at h
   cases h with
   | olist _ _ _ _ hn hp hs=>exact .olist _ _ _ _ (by rw[hf r];exact hn) (by rw[hw,hi];exact hp) hs
 | .mp r,v,h=>by
   simp only[AV.ren] at h
   cases h with
   | mp _ b hn=>exact .mp _ _ (by rw[hf r];exact hn)
 | .agg cs,v,h=>by
   simp only[AV.ren] at h
   cases h with
   | agg _ vs hl hr=>
     obtain⟨h1,h2⟩:=jf hw hi hf cs vs hr
     exact .agg _ _ (by rw[<- h1];exact hl) h2
 | .tup cs,v,h=>by
   simp only[AV.ren] at h
   cases h with
   | tup _ vs hl hr=>
     obtain⟨h1,h2⟩:=jf hw hi hf cs vs hr
     exact .tup _ _ (by rw[<- h1];exact hl) h2
 | .clo g fs cs,v,h=>by
   simp only[AV.ren] at h
   cases h with
   | clo _ _ _ vs us hl hr hl' hr'=>
     obtain⟨h1,h2⟩:=jf hw hi hf fs vs hr
     obtain⟨h3,h4⟩:=jf hw hi hf cs us hr'
     exact .clo _ _ _ _ _ (by rw[<- h1];exact hl) h2 (by rw[<- h3];exact hl') h4
theorem jf {κ κ':Kap}(hw:κ'.w=κ.w)(hi:κ'.imm=κ.imm){g:Nat->Nat}(hf:∀ r,κ'.nm r=κ.nm (g r)):∀ (xs:List AV) (vs:Array Value),
  (∀ (i:Nat) (x:AV),(AV.renL (fun r=>some (g r)) xs)[i]? = some x->ARel κ x (vs.getD i Go.undef))->(AV.renL (fun r=>some (g r)) xs).length=xs.length/\∀ (i:Nat) (x:AV),xs[i]? = some x->ARel κ' x (vs.getD i Go.undef)
 | [],vs,h=>by simp[AV.renL]
 | x::r,vs,h=>by
   have e:∀ i,(vs.extract 1 vs.size).getD i Go.undef=vs.getD (i+1) Go.undef:=by
    intro i
    simp only[Uw,Array.getElem?_extract]
    by_cases hh:i<min vs.size vs.size - 1
    ·rw[if_pos hh];congr 2;omega
    ·rw[if_neg hh,Array.getElem?_eq_none (by omega)]
   obtain⟨h1,h2⟩:=jf hw hi hf r (vs.extract 1 vs.size) (fun i y hy=>by
    have:=h (i+1) y (by simpa[AV.renL] using hy)
    rw[e];exact this)
   refine⟨by simp[AV.renL,h1],fun i y hy=>?_⟩
   cases i with
   | zero=>
     simp only[UW,Uu] at hy
     subst hy
     exact unren hw hi hf x _ (h 0 _ (by simp[AV.renL]))
   | succ i=>
     simp only[List.getElem?_cons_succ] at hy
     have:=h2 i y hy
     rw[e] at this;exact this
end
theorem eP.unren {κ κ':Kap}(hw:κ'.w=κ.w)(hi:κ'.imm=κ.imm){g:Nat->Nat}(hf:∀ r,κ'.nm r=κ.nm (g r)){r:Nat}{B:Blk}(h:eP κ (g r) (B.ren fun r=>some (g r))):eP κ' r B:=by
 cases B with
 | none=>trivial
 | cells T f l=>
   simp only[Blk.ren] at h
   rcases h with ⟨h1,h2,h3⟩ | ⟨b,n,cs,h1,h2,h3,h4,h5,h6,h7⟩
   ·refine .inl ⟨h1,?_,by rw[hf];exact h3⟩
    cases l with
    | nil=>rfl
    | cons x r=>simp[AV.renL] at h2
   ·obtain⟨q1,q2⟩:=jf hw hi hf l cs h6
    exact .inr ⟨b,n,cs,by rw[hf];exact h1,by rw[hw];exact h2,h3,by rw[<- q1];exact h4,fun hb=>by rw[<- q1];exact h5 hb,q2,by rw[hi];exact h7⟩
 | tok e sz=>
   simp only[Blk.ren] at h
   rcases h with h | ⟨g',n,cap,cur,h1,h2,h3⟩
   ·exact .inl (by rw[hf];exact h)
   ·exact .inr ⟨g',n,cap,cur,by rw[hf];exact h1,by rw[hw];exact h2,by rw[hi];exact h3⟩
 | mp l=>
   obtain⟨b,es,ck,h1,h2⟩:=h
   exact⟨b,es,ck,by rw[hf];exact h1,by rw[hw,hi];exact h2⟩
 | bts e l=>
   obtain⟨b,n,cs,fz,h1,h2⟩:=h
   exact⟨b,n,cs,fz,by rw[hf];exact h1,by rw[hw,hi];exact h2⟩
theorem eP.ren {κ κ':Kap}(hw:κ'.w=κ.w)(hi:κ'.imm=κ.imm){g:Nat->Nat}(hf:∀ r,κ'.nm (g r)=κ.nm r){r:Nat}{B:Blk}(h:eP κ r B):eP κ' (g r) (B.ren fun r=>some (g r)):=by
 have hf':∀ r r',(fun r=>some (g r)) r=some r'->κ'.nm r'=κ.nm r:=fun r r' h=>by cases h;exact hf r
 cases B with
 | none=>trivial
 | cells T f l=>
   simp only[Blk.ren]
   rcases h with ⟨h1,h2,h3⟩ | ⟨b,n,cs,h1,h2,h3,h4,h5,h6,h7⟩
   ·exact .inl ⟨h1,by rw[h2];simp only[AV.renL],by rw[hf];exact h3⟩
   ·obtain⟨q1,q2⟩:=ee hw hi hf' l cs h6
    exact .inr ⟨b,n,cs,by rw[hf];exact h1,by rw[hw];exact h2,h3,by rw[q1];exact h4,fun hb=>by rw[q1];exact h5 hb,q2,by rw[hi];exact h7⟩
 | tok e sz=>
   simp only[Blk.ren]
   rcases h with h | ⟨g',n,cap,cur,h1,h2,h3⟩
   ·exact .inl (by rw[hf];exact h)
   ·exact .inr ⟨g',n,cap,cur,by rw[hf];exact h1,by rw[hw];exact h2,by rw[hi];exact h3⟩
 | mp l=>
   obtain⟨b,es,ck,h1,h2⟩:=h
   exact⟨b,es,ck,by rw[hf];exact h1,by rw[hw,hi];exact h2⟩
 | bts e l=>
   obtain⟨b,n,cs,fz,h1,h2⟩:=h
   exact⟨b,n,cs,fz,by rw[hf];exact h1,by rw[hw,hi];exact h2⟩
def mb (f:Nat->Option Nat):List Blk->Nat->(Nat->Nat)->List (Nat×Blk)
 | [],_,_=>[]
 | b::r,i,g=>(g i,b.ren f)::mb f r (i+1) g
def eo:List Nat->List (Nat×Blk)
 | []=>[]
 | r::q=>(r,.none)::eo q
def fh (sto:List (Nat×Blk))(f:Nat->Option Nat):List Nat->List Blk->Prop
 | [],[]=>True
 | r::rs,b::bs=>BlkZ (lookB r sto) (b.ren f)/\fh sto f rs bs
 | _,_=>False
theorem fh.get {sto:List (Nat×Blk)}{f:Nat->Option Nat}:∀ {rs:List Nat} {bs:List Blk},fh sto f rs bs->rs.length=bs.length/\∀ (i r:Nat) (b:Blk),rs[i]? = some r->bs[i]? = some b->BlkZ (lookB r sto) (b.ren f)
 | [],[],h=>⟨rfl,by simp⟩
 | r::rs,b::bs,h=>by
   obtain⟨h1,h2⟩:=h
   obtain⟨h3,h4⟩:=fh.get h2
   refine⟨by simp[h3],fun i q d hq hd=>?_⟩
   cases i with
   | zero=>simp at hq hd;subst hq;subst hd;exact h1
   | succ i=>exact h4 i q d (by simpa using hq) (by simpa using hd)
 | [],_::_,h=>h.elim
 | _::_,[],h=>h.elim
end
section
variable {P:Program}{G:Nat->List PV}
theorem eP.named {κ:Kap}{r:Nat}{B:Blk}(h:eP κ r B)(hB:B≠.none):∃ d,κ.nm r=some d:=by
 cases B with
 | none=>exact absurd rfl hB
 | cells T f l=>
   rcases h with ⟨_,_,h⟩ | ⟨b,n,cs,h,_⟩
   ·exact⟨_,h⟩
   ·exact⟨_,h⟩
 | tok e sz=>
   rcases h with h | ⟨g,n,cap,cur,h,_⟩
   ·exact⟨_,h⟩
   ·exact⟨_,h⟩
 | mp l=>
   obtain⟨b,es,ck,h,_⟩:=h
   exact⟨_,h⟩
 | bts e l=>
   obtain⟨b,n,cs,fz,h,_⟩:=h
   exact⟨_,h⟩
theorem TN {f:Nat->Option Nat}{b:Blk}:b.ren f≠.none↔b≠.none:=by
 cases b<;>simp[Blk.ren]
theorem L1 {next:Nat}{rs:List Nat}(hnd:rs.Nodup)(hlt:∀ r∈rs,r<next){i j:Nat}(h:gIn next rs i=gIn next rs j):i=j:=by
 by_cases hi:i<rs.length
 ·have ei:=jO next rs i _ (Uq hi)
  have hi':=hlt _ (List.getElem_mem hi)
  by_cases hj:j<rs.length
  ·have ej:=jO next rs j _ (Uq hj)
   rw[ei,ej] at h
   exact (List.getElem_inj hnd).1 h
  ·have ej:=ly next rs j (by omega)
   omega
 ·have ei:=ly next rs i (by omega)
  by_cases hj:j<rs.length
  ·have ej:=jO next rs j _ (Uq hj)
   have hj':=hlt _ (List.getElem_mem hj)
   omega
  ·have ej:=ly next rs j (by omega)
   omega
theorem oh {f:Nat->Option Nat}{g:Nat->Nat}(hg:∀ i j,g i=g j->i=j)(rest:List (Nat×Blk))(r:Nat):∀ (bs:List Blk) (k:Nat),
  (∀ i b,bs[i]? = some b->g (k+i)=r->lookB r (mb f bs k g++rest)=b.ren f)/\((∀ i,i<bs.length->g (k+i)≠r)->lookB r (mb f bs k g++rest)=lookB r rest)
 | [],k=>⟨by simp,fun _=>rfl⟩
 | b::q,k=>by
   obtain⟨h1,h2⟩:=oh hg rest r q (k+1)
   refine⟨fun i b' hi hr=>?_,fun h=>?_⟩
   ·simp only[mb,U2,lookB]
    cases i with
    | zero=>
      simp only[UW,Uu] at hi
      subst hi
      rw[if_pos (by simpa using hr)]
    | succ i=>
      rw[if_neg (fun e=>by have:=hg _ _ (e.trans hr.symm);omega)]
      exact h1 i b' (by simpa using hi) (by rw[<- hr];congr 1;omega)
   ·simp only[mb,U2,lookB]
    rw[if_neg (by have:=h 0 (by simp);simpa using this)]
    exact h2 fun i hi=>by
     have:=h (i+1) (by simp;omega)
     rwa [show k+(i+1)=k+1+i by omega] at this
theorem ll (rest:List (Nat×Blk))(r:Nat):∀ (l:List Nat),lookB r (eo l++rest)=if r∈l then .none else lookB r rest
 | []=>by simp[eo]
 | x::q=>by
   simp only[eo,U2,lookB,ll rest r q,List.mem_cons]
   by_cases h:x=r
   ·subst h;simp
   ·rw[if_neg h]
    by_cases hq:r∈q
    ·simp[hq]
    ·have:¬ (r=x\/r∈q):=by rintro (e | e);exact h e.symm;exact hq e
     rw[if_neg hq,if_neg this]
theorem bA.frame {k f:Nat}{args0:List AV}{bs:List Blk}{v:AV}{bs':List Blk}(h:bA P G k f args0 bs v bs'){rs:List Nat}{args:List AV}{sto:List (Nat×Blk)}{next:Nat}
  (hargs:AVzL args (AV.renL (gSo next rs) args0)) (hbs:fh sto (gSo next rs) rs bs) (hnd:rs.Nodup) (hlt:∀ r∈rs,r<next) (hk:k<=bs.length) (hk':k<=bs'.length) (hne:∀ b∈bs.take k,b≠.none) :
  bW P G f args sto next fun v' sto' next'=>v'=v.ren (gSo next (rs.take k))/\sto'=mb (gSo next (rs.take k)) bs' 0 (gIn next (rs.take k))++(eo (rs.drop k)++sto)/\next'=next+(bs'.length - k):=by
 obtain⟨hcal,h⟩:=h
 refine⟨hcal,fun κ vals hS hf hsz hvals=>?_⟩
 obtain⟨hrl,hat⟩:=hbs.get
 let κ1:Kap:=⟨κ.w,fun i=>κ.nm (gIn next rs i),κ.imm⟩
 have hσ1:(fun r=>lookB r (cI bs 0))=fun r=>bs.getD r .none:=fV bs
 have hlook:∀ i b,bs[i]? = some b->∃ r,rs[i]? = some r/\gIn next rs i=r/\eP κ r (b.ren (gSo next rs))/\(b≠.none->lookB r sto≠.none):=by
  intro i b hb
  have hi:i<rs.length:=by rw[hrl];exact (Ur.1 hb).1
  have hr:=Uq hi
  obtain⟨q1,q2⟩:=(hat i _ b hr hb).rel (hS.blk rs[i])
  exact⟨rs[i],hr,jO next rs i _ hr,q1,fun hb'=>q2 (TN.2 hb')⟩
 have hlive:∀ i,bs.getD i .none≠.none->∃ b,bs[i]? = some b/\b≠.none:=by
  intro i hi
  rw[Uv] at hi
  cases hb:bs[i]? with
  | none=>rw[hb] at hi;exact absurd rfl hi
  | some b=>rw[hb] at hi;exact⟨b,rfl,hi⟩
 have hB1:∀ i b,bs[i]? = some b->eP κ1 i b:=by
  intro i b hb
  obtain⟨r,hr,hgr,hB,_⟩:=hlook i b hb
  exact eP.unren (κ:=κ) (κ':=κ1) rfl rfl (g:=gIn next rs) (fun _=>rfl) (by rw[hgr];exact hB)
 have hl1:∀ b,(cu κ1 (fun r=>lookB r (cI bs 0)) G).lent b->(cu κ (fun r=>lookB r sto) G).lent b:=by
  rintro b ⟨i,d,h1,h2,h3⟩
  simp only[congrFun hσ1 i] at h1
  obtain⟨b',hb,hbn⟩:=hlive i h1
  obtain⟨r,hr,hgr,_,hn⟩:=hlook i b' hb
  exact⟨r,d,hn hbn,by rw[<- hgr];exact h2,h3⟩
 have hm1:∀ b,(cu κ1 (fun r=>lookB r (cI bs 0)) G).mine b->(cu κ (fun r=>lookB r sto) G).mine b:=fun b hb=>hb.elim .inl (fun h=>.inr (hl1 b h))
 have hS1:SRel (cu κ1 (fun r=>lookB r (cI bs 0)) G) κ1 (fun r=>lookB r (cI bs 0)):=by
  refine⟨fun i=>?_,fun i j d d' b h1 h2 hij hd hd' hb=>?_,fun i d b h1 hd hb=>.inr ⟨i,d,h1,hd,hb⟩,hS.immLt,?_⟩
  ·rw[congrFun hσ1 i]
   show eP κ1 i (bs.getD i .none)
   rw[Uv]
   cases hb:bs[i]? with
   | none=>trivial
   | some b=>exact hB1 i b hb
  ·simp only[congrFun hσ1 i] at h1
   simp only[congrFun hσ1 j] at h2
   obtain⟨b1,hb1,hn1⟩:=hlive i h1
   obtain⟨b2,hb2,hn2⟩:=hlive j h2
   obtain⟨r,hr,hgr,_,hn⟩:=hlook i b1 hb1
   obtain⟨r',hr',hgr',_,hn'⟩:=hlook j b2 hb2
   refine hS.apart r r' d d' b (hn hn1) (hn' hn2) (fun e=>hij ?_) (by rw[<- hgr];exact hd) (by rw[<- hgr'];exact hd') hb
   obtain⟨hi,ei⟩:=Ur.1 hr
   obtain⟨hj,ej⟩:=Ur.1 hr'
   exact (List.getElem_inj hnd).1 (ei.trans (e.trans ej.symm))
  ·refine⟨fun g o p hp=>?_,fun g hg=>?_⟩
   ·exact hS.glob.1 g o p hp
   ·obtain⟨h1,h2,h3⟩:=hS.glob.2 g hg
    exact⟨h1,fun hl=>h2 (hl1 g hl),h3⟩
 have hf1:∀ r,bs.length<=r->κ1.nm r=none:=fun r hr=>by
  show κ.nm (gIn next rs r)=none
  rw[ly next rs r (by omega)]
  exact hf _ (by omega)
 have hlen0:args0.length=args.length:=by
  rw[hargs.length]
  have:∀ (f:Nat->Option Nat) (l:List AV),(AV.renL f l).length=l.length:=by
   intro f l
   induction l with
   | nil=>simp[AV.renL]
   | cons x r ih=>simp[AV.renL,ih]
  rw[this]
 have hv1:∀ (i:Nat) (x:AV),args0[i]? = some x->ARel κ1 x (vals.getD i Go.undef):=
  (jf (κ:=κ) (κ':=κ1) rfl rfl (g:=gIn next rs) (fun _=>rfl) args0 vals (fun i x hx=>by
   obtain⟨y,hy,hyx⟩:=hargs.get i x hx
   exact hyx.rel (hvals i y hy))).2
 refine (h κ1 vals hS1 hf1 (by omega) hv1).mono ?_
 rintro e w' ⟨u,v',κ1',sto',next',rfl,rfl,he,hL,hv,hS',hf',rfl,rfl,rfl⟩
 obtain⟨g,hgdef⟩:∃ g,g=gIn next (rs.take k):=⟨_,rfl⟩
 have htl:(rs.take k).length=k:=by rw[List.length_take];omega
 have hg1:∀ i,i<k->∃ r,rs[i]? = some r/\g i=r/\r<next:=by
  intro i hi
  have hi':i<rs.length:=by omega
  have hr:=Uq hi'
  refine⟨rs[i],hr,?_,hlt _ (List.getElem_mem hi')⟩
  rw[hgdef]
  exact jO next _ i _ (by rw[List.getElem?_take,if_pos hi];exact hr)
 have hg2:∀ i,k<=i->g i=next+(i - k):=fun i hi=>by rw[hgdef,ly next _ i (by omega),htl]
 have hginj:∀ i j,g i=g j->i=j:=fun i j hij=>by
  rw[hgdef] at hij
  exact L1 (hnd.sublist (List.take_sublist _ _)) (fun r hr=>hlt r (Vf hr)) hij
 have hso:gSo next (rs.take k)=fun r=>some (g r):=by rw[hgdef];rfl
 rw[hso,<- hgdef]
 let κ':Kap:=⟨κ1'.w,fun r=>if r<next then κ.nm r else κ1'.nm (k+(r - next)),κ1'.imm⟩
 have hnmk:∀ i,i<k->κ1'.nm i=κ1.nm i:=by
  intro i hi
  have hib:i<bs.length:=by omega
  have hb:=Uq hib
  obtain⟨d,hd⟩:=(hB1 i _ hb).named (hne _ (List.mem_take_iff_getElem.2 ⟨i,by omega,rfl⟩))
  rw[hd]
  exact he.nm i d (by simp only[Kap.cut];rw[if_pos hi];exact hd)
 have hnm':∀ i,κ'.nm (g i)=κ1'.nm i:=by
  intro i
  by_cases hi:i<k
  ·obtain⟨r,hr,hgr,hrn⟩:=hg1 i hi
   show (if g i<next then κ.nm (g i) else κ1'.nm (k+(g i - next)))=_
   rw[hgr,if_pos hrn,hnmk i hi]
   show κ.nm r=κ.nm (gIn next rs i)
   rw[jO next rs i r hr]
  ·show (if g i<next then κ.nm (g i) else κ1'.nm (k+(g i - next)))=_
   rw[hg2 i (by omega),if_neg (by omega)]
   congr 1;omega
 have hext:Ext κ κ':=⟨fun b o hi=>he.imm b o hi,fun b o v hi hc=>he.cell b o v hi hc,fun r d hd=>by
  have hr:r<next:=by
   rcases U6 r next with h | h
   ·exact h
   ·rw[hf r h] at hd;cases hd
  show (if r<next then κ.nm r else _)=_
  rw[if_pos hr];exact hd,fun b o ho hc=>he.obj b o ho hc⟩
 have hout:∀ r d b,lookB r sto≠.none->r∉rs->κ.nm r=some d->d.block=some b->b<κ.w.heap.size/\¬ (cu κ1 (fun r=>lookB r (cI bs 0)) G).lent b:=by
  intro r d b h1 h2 h3 h4
  refine⟨(hS.blk r).lt h1 h3 h4,?_⟩
  rintro⟨i,d',q1,q2,q3⟩
  simp only[congrFun hσ1 i] at q1
  obtain⟨b',hb,hbn⟩:=hlive i q1
  obtain⟨r',hr',hgr,_,hn⟩:=hlook i b' hb
  refine hS.apart r r' d d' b h1 (hn hbn) (fun e=>h2 (e▸Us hr')) h3 (by rw[<- hgr];exact q2) h4 q3
 have hmem:∀ r,r∈rs->(∃ i,i<bs'.length/\g i=r)\/r∈rs.drop k:=by
  intro r hr
  obtain⟨i,hi⟩:=List.getElem?_of_mem hr
  by_cases hik:i<k
  ·obtain⟨r',hr',hgr,_⟩:=hg1 i hik
   rw[hi] at hr';cases hr'
   exact .inl ⟨i,by omega,hgr⟩
  ·refine .inr (Us (i:=i - k) ?_)
   rw[List.getElem?_drop,show k+(i - k)=i by omega];exact hi
 have hσ':∀ r,(∃ i b,bs'[i]? = some b/\g i=r/\lookB r (mb (fun r=>some (g r)) bs' 0 g++(eo (rs.drop k)++sto))=b.ren (fun r=>some (g r))) \/
   lookB r (mb (fun r=>some (g r)) bs' 0 g++(eo (rs.drop k)++sto)) = .none\/(r∉rs/\(∀ i,i<bs'.length->g i≠r)/\lookB r (mb (fun r=>some (g r)) bs' 0 g++(eo (rs.drop k)++sto))=lookB r sto):=by
  intro r
  obtain⟨q1,q2⟩:=oh (f:=fun r=>some (g r)) hginj (eo (rs.drop k)++sto) r bs' 0
  by_cases hi:∃ i,i<bs'.length/\g i=r
  ·obtain⟨i,hi,hgi⟩:=hi
   exact .inl ⟨i,bs'[i],Uq hi,hgi,q1 i _ (Uq hi) (by rw[UN];exact hgi)⟩
  ·have hni:∀ i,i<bs'.length->g i≠r:=fun i h1 h2=>hi ⟨i,h1,h2⟩
   have e:=q2 (fun i h1=>by rw[UN];exact hni i h1)
   rw[ll] at e
   by_cases hr:r∈rs.drop k
   ·rw[if_pos hr] at e;exact .inr (.inl e)
   ·rw[if_neg hr] at e
    exact .inr (.inr ⟨fun h=>(hmem r h).elim hi hr,hni,e⟩)
 have hlive':∀ i b,bs'[i]? = some b->b.ren (fun r=>some (g r))≠.none->lookB i (cI bs' 0)≠.none:=by
  intro i b hb hbn
  have e2:lookB i (cI bs' 0)=bs'.getD i .none:=congrFun (fV bs') i
  rw[e2,Uv,hb]
  exact TN.1 hbn
 refine⟨u,_,κ',_,_,rfl,rfl,hext,⟨hL.os,hL.tape,hL.output,hL.size,fun b hb hl=>hL.block b hb fun h=>hl (hl1 b h),fun b o hi=>(hL.imm b o hi).imp id (hm1 b)⟩,
  p6 (κ:=κ1') (κ':=κ') rfl rfl (fun r r' hr=>by cases hr;exact hnm' r) v' u hv,?_,fun r hr=>?_,rfl,rfl,rfl⟩
 ·refine⟨fun r=>?_,fun r r' d d' b h1 h2 hrr hd hd' hb=>?_,fun r d b h1 hd hb=>?_,hS'.immLt,?_⟩
  ·show eP κ' r (lookB r _)
   rcases hσ' r with ⟨i,b,hb,hgi,e⟩ | e | ⟨hr,hni,e⟩
   ·rw[e,<- hgi]
    refine eP.ren (κ:=κ1') (κ':=κ') rfl rfl hnm' ?_
    have:=hS'.blk i
    have e2:lookB i (cI bs' 0)=bs'.getD i .none:=congrFun (fV bs') i
    simp only[e2,Uv,hb] at this
    exact this
   ·rw[e];trivial
   ·rw[e]
    refine (hS.blk r).keep hext fun hbn d b hd hb=>?_
    obtain⟨q1,q2⟩:=hout r d b hbn hr hd hb
    refine⟨hL.block b q1 q2,fun o ho=>?_⟩
    rcases hL.imm b o ho with h | h | h
    ·exact h
    ·exact absurd q1 (Nat.not_lt.2 h)
    ·exact absurd h q2
  ·have cal:∀ r i b0 d,bs'[i]? = some b0->g i=r->b0.ren (fun r=>some (g r))≠.none->κ'.nm r=some d->lookB i (cI bs' 0)≠.none/\κ1'.nm i=some d:=by
    intro r i b0 d hb0 hgi hbn hd
    exact⟨hlive' i b0 hb0 hbn,by rw[<- hnm' i,hgi];exact hd⟩
   have own:∀ r d,r∉rs->lookB r sto≠.none->κ'.nm r=some d->κ.nm r=some d:=by
    intro r d hr hbn hd
    obtain⟨d',hd'⟩:=(hS.blk r).named hbn
    have:=hext.nm r d' hd'
    rw[this] at hd;cases hd;exact hd'
   have mix:∀ r i b0 d d' b,bs'[i]? = some b0->b0.ren (fun r=>some (g r))≠.none->κ1'.nm i=some d->d.block=some b->lookB i (cI bs' 0)≠.none->r∉rs->lookB r sto≠.none->κ.nm r=some d'->d'.block≠some b:=by
    intro r i b0 d d' b hb0 hbn hd hdb hl hr hrl hd' hdb'
    obtain⟨q1,q2⟩:=hout r d' b hrl hr hd' hdb'
    rcases hS'.mine i d b hl hd hdb with h | h
    ·exact absurd q1 (Nat.not_lt.2 h)
    ·exact q2 h
   rcases hσ' r with ⟨i,b1,hb1,hgi,e⟩ | e | ⟨hr,hni,e⟩
   ·have h1':b1.ren (fun r=>some (g r))≠.none:=by
     intro h0;exact h1 (e.trans h0)
    obtain⟨p1,p2⟩:=cal r i b1 d hb1 hgi h1' hd
    rcases hσ' r' with ⟨j,b2,hb2,hgj,e'⟩ | e' | ⟨hr',hni',e'⟩
    ·have h2':b2.ren (fun r=>some (g r))≠.none:=by
      intro h0;exact h2 (e'.trans h0)
     obtain⟨p3,p4⟩:=cal r' j b2 d' hb2 hgj h2' hd'
     exact hS'.apart i j d d' b p1 p3 (fun hij=>hrr (by rw[<- hgi,<- hgj,hij])) p2 p4 hb
    ·exact absurd e' h2
    ·have h2':lookB r' sto≠.none:=by intro h0;exact h2 (e'.trans h0)
     exact mix r' i b1 d d' b hb1 h1' p2 hb p1 hr' h2' (own r' d' hr' h2' hd')
   ·exact absurd e h1
   ·have h1':lookB r sto≠.none:=by intro h0;exact h1 (e.trans h0)
    have hd0:=own r d hr h1' hd
    rcases hσ' r' with ⟨j,b2,hb2,hgj,e'⟩ | e' | ⟨hr',hni',e'⟩
    ·have h2':b2.ren (fun r=>some (g r))≠.none:=by
      intro h0;exact h2 (e'.trans h0)
     obtain⟨p3,p4⟩:=cal r' j b2 d' hb2 hgj h2' hd'
     intro hb'
     exact mix r j b2 d' d b hb2 h2' p4 hb' p3 hr h1' hd0 hb
    ·exact absurd e' h2
    ·have h2':lookB r' sto≠.none:=by intro h0;exact h2 (e'.trans h0)
     exact hS.apart r r' d d' b h1' h2' hrr hd0 (own r' d' hr' h2' hd') hb
  ·rcases hσ' r with ⟨i,b1,hb1,hgi,e⟩ | e | ⟨hr,hni,e⟩
   ·have h1':b1.ren (fun r=>some (g r))≠.none:=by
     intro h0;exact h1 (e.trans h0)
    refine hm1 b (hS'.mine i d b (hlive' i b1 hb1 h1') (by rw[<- hnm' i,hgi];exact hd) hb)
   ·exact absurd e h1
   ·have h1':lookB r sto≠.none:=by intro h0;exact h1 (e.trans h0)
    obtain⟨d',hd'⟩:=(hS.blk r).named h1'
    have:=hext.nm r d' hd'
    rw[this] at hd;cases hd
    exact .inr ⟨r,d,h1',hd',hb⟩
  ·refine⟨hS'.glob.1,fun g' hg'=>?_⟩
   obtain⟨h1,h2,cs,T,fz,h3,h4⟩:=hS.glob.2 g' hg'
   exact⟨h1,h2,cs,T,fz,(hL.block g' h1 fun h=>h2 (hl1 g' h)).trans h3,h4⟩
 ·show (if r<next then κ.nm r else κ1'.nm (k+(r - next)))=none
  rw[if_neg (by omega)]
  exact hf' _ (by omega)
def lp (k:Nat)(rs:List Nat)(bs bs':List Blk)(next:Nat):Bool:=
 decide (k<=bs.length)&&decide (k<=bs'.length)&&(bs.take k).all (fun b=>match b with | .none=>false | _=>true)&&rs.all (fun r=>decide (r<next))&&decide rs.Nodup
theorem ab.lentK {k f:Nat}{args0:List AV}{bs:List Blk}{v:AV}{bs':List Blk}(h:bA P G k f args0 bs v bs')(rs:List Nat){args:List AV}{env:List (Nat×AV)}{sto:List (Nat×Blk)}{next:Nat}{K:AV->St->Prop}
  (hok:lp k rs bs bs' next=true) (hargs:AVzL args (AV.renL (gSo next rs) args0)) (hbs:fh sto (gSo next rs) rs bs)
  (hK:K (v.ren (gSo next (rs.take k))) ⟨env,mb (gSo next (rs.take k)) bs' 0 (gIn next (rs.take k))++(eo (rs.drop k)++sto),next+(bs'.length - k)⟩):ab P G f args ⟨env,sto,next⟩ K:=by
 simp only[lp,UK,decide_eq_true_eq,UD] at hok
 obtain⟨⟨⟨⟨h1,h2⟩,h3⟩,h4⟩,h5⟩:=hok
 refine ab.lent (h.frame hargs hbs h5 h4 h1 h2 (fun b hb e=>?_)) ?_
 ·have:=h3 b hb
  subst e;cases this
 ·rintro v' sto' next' ⟨rfl,rfl,rfl⟩
  exact hK
theorem ab.weak {f:Nat}{args args':List AV}{s s':St}{K:AV->St->Prop}(hw:WkC s args s' args')(h:ab P G f args' s' K):ab P G f args s K:=by
 obtain⟨s2,args2,hw2,h2⟩:=h
 refine⟨s2,args2,⟨hw2.1.trans hw.1,hw2.2.1.trans hw.2.1,fun c κ0 κ N a w vals hR hv=>?_⟩,?_⟩
 ·obtain⟨κ1,h3,h4⟩:=hw.2.2 c κ0 κ N a w vals hR hv
  exact hw2.2.2 c κ0 κ1 N a w vals h3 h4
 ·rcases h2 with ⟨ps,r,k1,k2,k3⟩ | ⟨Q,k1,k2⟩
  ·exact .inl ⟨ps,r,k1,k2,k3⟩
  ·refine .inr ⟨Q,k1,fun v sto' next' hq=>?_⟩
   have:=k2 v sto' next' hq
   rw[hw.2.1] at this
   exact this
end
theorem CN (k:Nat):cI [] k=[]:=_root_.id rfl
theorem wJ (b:Blk)(r:List Blk)(k:Nat):cI (b::r) k=(k,b)::cI r (k+1):=_root_.id rfl
theorem wj (sto:List (Nat×Blk))(f:Nat->Option Nat):fh sto f [] []=True:=_root_.id rfl
theorem rh (sto:List (Nat×Blk))(f:Nat->Option Nat)(r:Nat)(rs:List Nat)(b:Blk)(bs:List Blk):fh sto f (r::rs) (b::bs)=(BlkZ (lookB r sto) (b.ren f)/\fh sto f rs bs):=_root_.id rfl
theorem FZ (f:Nat->Option Nat)(i:Nat)(g:Nat->Nat):mb f [] i g=[]:=_root_.id rfl
theorem A4 (f:Nat->Option Nat)(b:Blk)(r:List Blk)(i:Nat)(g:Nat->Nat):mb f (b::r) i g=(g i,b.ren f)::mb f r (i+1) g:=_root_.id rfl
theorem Be:eo []=[]:=_root_.id rfl
theorem vF (r:Nat)(q:List Nat):eo (r::q)=(r,.none)::eo q:=_root_.id rfl
theorem O9 (next:Nat)(rs:List Nat)(r:Nat):gSo next rs r=some (gIn next rs r):=_root_.id rfl
theorem L0 (next i:Nat):gIn next [] i=next+i:=_root_.id rfl
theorem RZ (next r:Nat)(q:List Nat):gIn next (r::q) 0=r:=_root_.id rfl
theorem RY (next r i:Nat)(q:List Nat):gIn next (r::q) (i+1)=gIn next q i:=_root_.id rfl
def oJ (s sz off len:Nat):Blk->Option (List PV)
 | .cells _ _ l=>if s=1/\sz=1/\off+len<=l.length/\((l.drop off).take len).all AV.one=true then pvs ((l.drop off).take len) else none
 | _=>none
theorem rB (σ:aq)(sz r s off len:Nat):be σ sz (.row r s off len)=oJ s sz off len (σ r):=by
 simp only[be,oJ]
 cases σ r<;>rfl
theorem kj (k:IntKind)(l:List Int):(l.map (PV.int k)).all PV.one=true:=by
 rw[UD];intro x hx;obtain⟨n,_,rfl⟩:=UO.1 hx;rfl
theorem CQ {T:Nat}{f:Bool}{l:List PV}{n:Nat}(h:n<=l.length)(h1:l.all PV.one=true):oJ 1 1 0 n (.cells T f (l.map .pv))=some (l.take n):=by
 have h2:(((l.map AV.pv).drop 0).take n)=(l.take n).map .pv:=by rw[Vc,List.map_take]
 have h3:((l.take n).map AV.pv).all AV.one=true:=by
  rw[UD] at h1 ⊢
  intro x hx
  obtain⟨y,hy,rfl⟩:=UO.1 hx
  exact h1 y (Vf hy)
 have h4:∀ k:List PV,pvs (k.map .pv)=some k:=by
  intro k
  induction k with
  | nil=>rfl
  | cons a r ih=>simp[pvs,AV.toPV,ih]
 simp only[oJ]
 rw[if_pos (by refine⟨trivial,trivial,by simp;omega,by rw[h2];exact h3⟩),h2,h4]
theorem wP {T:Nat}{f:Bool}{k:IntKind}{p:List Int}{n:Nat}(h:n=p.length):oJ 1 1 0 n (.cells T f ((p.map (PV.int k)).map .pv))=some (p.map (PV.int k)):=by
 rw[CQ (by simp;omega) (kj k p),Ux (by simp;omega)]
theorem lZ {sz r off n:Nat}{k:IntKind}{h:Int}(h0:0<=h)(h1:h<=n)(hs:0<sz):dd sz (.row r sz off n) none (some (.pv (.int k h)))=some (.row r sz off h.toNat):=by
 simp[dd,bd,h0,h1,hs]
theorem Ez (n:Nat):((n:Int)+1).toNat=n+1:=by omega
theorem H3 (n:Int):n+1 - 1=n:=by omega
def M9:List Nat->List Nat->List Nat
 | [],a=>a
 | x::r,a=>M9 r (x::a)
theorem Fd (a:List Nat):M9 [] a=a:=_root_.id rfl
theorem nx (x:Nat)(r a:List Nat):M9 (x::r) a=M9 r (x::a):=_root_.id rfl
theorem zH:∀ (l a:List Nat),l.reverse++a=M9 l a
 | [],a=>rfl
 | x::r,a=>by rw[nx,<- zH r (x::a)];simp
theorem BV (l:List (Nat×Blk)):aU l.reverse=M9 (aU l) []:=by
 rw[<- zH,UU];simp[aU]
theorem E5 (ks rs:List Nat):eG 2 ks rs=(0::ks.map (· + 1),rs.map (· + 1)):=by simp[eG]
theorem aI (A:List (Nat×Nat×Nat×Nat)){k:Nat}{v v':AV}{bs':List Blk}{sto':List (Nat×Blk)}{next':Nat}(h:StZ (cC A k [0] ⟨[(0,v')],sto',next'⟩) ⟨[(0,v)],cI bs' 0,bs'.length⟩):GG k v bs' v' sto' next':=Wk.head h
theorem Wk.env0 {k:Nat}{v u:AV}{sto:List (Nat×Blk)}{next:Nat}(h:AVz v u):Wk k ⟨[(0,v)],sto,next⟩ ⟨[(0,u)],sto,next⟩:=
 Wk.of (StZ.wx (s:=⟨[(0,v)],sto,next⟩) (t:=⟨[(0,u)],sto,next⟩) ⟨EnvZ.cons 0 v u [] [] h EnvZ.nil,StoZ.refl sto,rfl⟩) k
theorem LK (A:List (Nat×Nat×Nat×Nat))(u:AV){k:Nat}{v v':AV}{bs':List Blk}{sto':List (Nat×Blk)}{next':Nat}(hu:AVz v' u)(h:StZ (cC A k [0] ⟨[(0,u)],sto',next'⟩) ⟨[(0,v)],cI bs' 0,bs'.length⟩):GG k v bs' v' sto' next':=
 (Wk.env0 hu).trans (Wk.head h)
theorem ab.nilB (r o e sz:Nat){P:Program}{G:Nat->List PV}{f:Nat}{args:List AV}{s:St}{K:AV->St->Prop}(he:(accB r o e sz s (lookB r s.sto)).env=s.env)(h:ab P G f args (accB r o e sz s (lookB r s.sto)) K):ab P G f args s K:=
 ab.weak (WkC.of (yv r o e sz s) he args) h
section
variable {P:Program}{G:Nat->List PV}
theorem DZ (F:St->Prop)(s:St):Tf F .norm s=F s:=_root_.id rfl
theorem HO (b:ACode)(Q:AExit->St->Prop)(e:List (Nat×AV))(σ:List (Nat×Blk))(n:Nat):MK (fun m=>vc P G m b) Q ⟨e,σ,n⟩=vc P G n b Q ⟨e,σ,n⟩:=_root_.id rfl
theorem FO (e:List (Nat×AV)):FP [] [] e=e:=_root_.id rfl
theorem AL (p:Nat)(ps:List Nat)(x:PV)(xs:List PV)(e:List (Nat×AV)):FP (p::ps) (x::xs) e=FP ps xs ((p,.pv x)::e):=_root_.id rfl
def Rb {ι:Type}(A:List (Nat×Nat×Nat×Nat))(S:ι->St)(Inv:Nat->ι->Prop)(i m0:Nat)(keep:List Nat)(Q:AExit->St->Prop)(e0:List (Nat×AV)):AExit->St->Prop
 | .norm,s'=>∃ x',Hd A m0 keep ⟨e0,s'.sto,s'.next⟩ (S x')/\Inv (i+1) x'
 | .exit j,s'=>Q (.exit j) ⟨e0,s'.sto,s'.next⟩
 | .ret,s'=>Q .ret ⟨e0,s'.sto,s'.next⟩
theorem DW {ι:Type}(A:List (Nat×Nat×Nat×Nat))(S:ι->St)(Inv:Nat->ι->Prop)(i m0:Nat)(keep:List Nat)(Q:AExit->St->Prop)(e0 e:List (Nat×AV))(σ:List (Nat×Blk))(n:Nat):Rb A S Inv i m0 keep Q e0 .norm ⟨e,σ,n⟩ = ∃ x',Hd A m0 keep ⟨e0,σ,n⟩ (S x')/\Inv (i+1) x':=_root_.id rfl
theorem DX {ι:Type}(A:List (Nat×Nat×Nat×Nat))(S:ι->St)(Inv:Nat->ι->Prop)(i m0:Nat)(keep:List Nat)(Q:AExit->St->Prop)(e0:List (Nat×AV))(j:Nat)(e:List (Nat×AV))(σ:List (Nat×Blk))(n:Nat):Rb A S Inv i m0 keep Q e0 (.exit j) ⟨e,σ,n⟩=Q (.exit j) ⟨e0,σ,n⟩:=_root_.id rfl
theorem Ie {ι:Type}(A:List (Nat×Nat×Nat×Nat))(S:ι->St)(Inv:Nat->ι->Prop)(i m0:Nat)(keep:List Nat)(Q:AExit->St->Prop)(e0 e:List (Nat×AV))(σ:List (Nat×Blk))(n:Nat):Rb A S Inv i m0 keep Q e0 .ret ⟨e,σ,n⟩=Q .ret ⟨e0,σ,n⟩:=_root_.id rfl
theorem O8:∀ (lb:List PV),pvs (lb.map AV.pv)=some lb
 | []=>rfl
 | p::r=>by simp[pvs,AV.toPV,O8 r]
theorem Ip {ι:Type}(A:List (Nat×Nat×Nat×Nat))(ch:ι->List (Nat×AV))(chB:ι->List (Nat×Blk))(Inv:Nat->ι->Prop)(x0:ι){gf:Nat}{lb:List PV}{xs:List (List PV)}(hs:Sv P G gf lb xs)
  {m0:Nat} {f:AX} {ps keep:List Nat} {a b:ACode} {Q:AExit->St->Prop} {s:St}
  (h:∀ e0 σ0 n0,cC A m0 keep s=⟨e0,σ0,n0⟩->StZ ⟨e0,σ0,n0⟩ ⟨dL e0 (ch x0),eM σ0 (chB x0),n0⟩/\Inv 0 x0/\dn (f.ev (fun i=>look i (dL e0 (ch x0))))=some (gf,[],lb.map AV.pv) /\
   (∀ i x y,xs[i]? = some y->Inv i x->y.length=ps.length/\vc P G n0 a (Tf (MK (fun m=>vc P G m b) (Rb A (fun x=>⟨dL e0 (ch x),eM σ0 (chB x),n0⟩) Inv i m0 keep Q (dL e0 (ch x))))) ⟨FP ps y (dL e0 (ch x)),eM σ0 (chB x),n0⟩) /\
   ∀ x,Inv xs.length x->Q .norm ⟨dL e0 (ch x),eM σ0 (chB x),n0⟩):vc P G m0 (.range f ps keep a b) Q s:=by
 obtain⟨h1,h2,h3,h4,h5⟩:=h (cC A m0 keep s).env (cC A m0 keep s).sto (cC A m0 keep s).next rfl
 let S:ι->St:=fun x=>⟨dL (cC A m0 keep s).env (ch x),eM (cC A m0 keep s).sto (chB x),(cC A m0 keep s).next⟩
 refine⟨fun i t=>∃ x,t=S x/\Inv i x,S x0,aN h1,⟨x0,rfl,h2⟩,?_⟩
 have e:dn (f.ev (S x0).E)=some (gf,[],lb.map AV.pv):=h3
 rw[e]
 refine⟨rfl,lb,xs,O8 lb,hs,?_,?_⟩
 ·rintro i y t hy ⟨x,rfl,hx⟩
  obtain⟨k1,k2⟩:=h4 i x y hy hx
  refine⟨k1,cK a (fun e s hs=>?_) _ k2⟩
  cases e with
  | norm=>
    refine cK b (fun e s hs=>?_) s hs
    cases e with
    | norm=>
      obtain⟨x',q1,q2⟩:=hs
      exact⟨S x',q1,x',rfl,q2⟩
    | exit j=>exact hs
    | ret=>exact hs
  | exit j=>exact hs.elim
  | ret=>exact hs.elim
 ·rintro t ⟨x,rfl,hx⟩
  exact h5 x hx
end
attribute [push_cast] Ed Ee Jl Eb Ec R4 R5 R6 R7 R8 R9 BH
 GA we BI R1 R3 R2 vY vZ wc Hs Ht Mg Hv Mf Hr JE
 yO uq um ul uj pT uh pS EE yP yQ yR
 pR pQ EH EI La Lb ED EC up yU yW AF
 Hy CI Hz Hx DJ pU ql uo EG EF ug K0
 K1 uS qk qj Ap Aq Le Lf nG uT qi nE
 uR Ft Al Ak uQ Fu qn qo C3 DA qb FK
 Fz FD FB FA FJ K9 Fy qp FI FC FE FF
 FG FH Az Ay At Au Av Aw Ax AE FM AC
 AB AD uX FL AA Fm Af As uU Fk Ai Ah
 Ag Fl K6 K7 nP vP qO Tn TC Lc AJ AK
 vg eg JB ub Ew Ev Ey Eu Ex Lz qM qN
 Lx qH qI Ly qJ qK nU Dj xw xq xu xr
 oU xv ae xp Dh Df xe xj xg xh Di xo
 xm rg wg Aj uP uO LH LG tY tW vV Qc
 Gx xx BB GL BT BP BR BQ rj BS Bz vT
 uW vU q8 q9 LA K3 uL nh EM fS Em yI
 HG HH Lj Ge Gd Gh Gg Gj Gi HL yD t8
 yx yy yw pM CY wT rC nL nM F9 FN Pp
 Pq CX EO EN EQ EP Oi Oh Og qT nZ nY
 n9 mf ob vR qX mg mh By Jr Ej yE wU
 rD oL Mk BC oc oe rc vW re og od mj
 mi Lv Gq Gp vM BW wo Ml wS C6 xa C7
 xd Mp Mq Gw OQ F7 DT DU Ib r4 r5 xL
 Jn Nu Jp Mj Ns Jq Ei Jo Nt F5 RQ RR
 Fe zJ Ih M3 KP Om On Ol wZ zI uH FQ
 O4 B4 B6 LR LQ B9 wv wu rY rZ xK AQ
 vi AY vu AR vm AZ vw qB Lm ON OK Ln
 OM OL Lo F6 Fq Fr uc pO na yN map_take map_drop
 Ba u9 Ql HZ HX HW MO HY xD wM wN wO
 rA Sq Qa Dy Dz P9 bh bG bF F0 bg Li
 F3 F1 vA F4 nD l0 qz vC vD vB H2 Qm
 Qg LF GD B7 Pf Pg Hh Hj L3 L4 Hi L6
 L7 Hm Hk Co Cp L5 Gl Bj Bi Gm Bm Bh
 Bk Bl vJ jD jC qD nR vK qF H4 DN MV
 MW LZ sO pa gL KZ KY oI mE RD Ok Bd
 vE Lq Ls Lr uI p7 vI GX Cd IA KV KT
 KS Ou KW KR KU zP zO zU Ff ny p8 zY
 uJ Fg zZ F8 H5 DO DP DS Ia Lu Lt Gb
 Ga MZ H8 xH DR H9 MY Ty Tx Rp Pr Ps
 Pt Pu Pv Pw Md CD wF FW rU rV xI HP
 Qi HQ HU DG HA CM DB Qd Qf Qe HS DE
 DD HT DF EL za NA CN wJ wj rh FZ A4
 Be vF O9 L0 RZ RY rB kj wP lZ Ez H3
 Fd nx BV E5 UN Nat.add_zero UC List.length_nil List.nil_append U2 UU List.append_assoc
 UE U0 List.map_nil UQ List.take_succ_cons List.take_zero List.drop_succ_cons Vc List.take_nil List.drop_nil List.all_cons List.all_nil
 Bool.and_true Vz Bool.and_false Vy Bool.not_true Bool.not_false decide_true decide_false Bool.not_not Int.natCast_add Int.cast_ofNat_Int Int.toNat_natCast
 Uu and_true true_and ge_iff_le UI Vn Nat.not_lt_zero and_self
attribute [push_cast] DZ HO FO AL DW DX Ie
attribute [push_cast high] Int.cast_ofNat_Int

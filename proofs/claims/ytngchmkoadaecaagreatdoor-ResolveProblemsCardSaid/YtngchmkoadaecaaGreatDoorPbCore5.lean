/- A program logic over the model: part 5 (a proof is built on it; nothing of the statement is said here). -/
import Derived.Test.YtngchmkoadaecaaGreatDoorPbCore4
set_option linter.unusedVariables false
set_option linter.unusedSimpArgs false
open Bool renaming true_and->Xv,false_and->XR,and_eq_true->Xk
open List renaming map_cons->Xq,take_of_length_le->WY,mem_map->Xp,getElem?_map->Xd,length_map->XB,getElem?_eq_some_iff->WU,getElem?_eq_getElem->WT,getElem?_eq_none->X0,all_eq_true->Xb,length_cons->Xa,flatMap_cons->X4,append_nil->Xc,getElem?_cons_zero->Xw,cons_append->XA,getD_eq_getElem?_getD->WZ,mem_of_mem_take->XL,mem_of_getElem?->WV,drop_zero->XN
open Option.some renaming injEq->WX
open Nat renaming lt_or_ge->XF,mul_le_mul_right->W8,succ_mul->XZ,le_refl->Xi,zero_le->XY,zero_add->Xo
open Array renaming replicate->X3,getD_eq_getD_getElem?->W4
namespace Go.Ab
open Go Go.RowKit
theorem Gb {n:Int}(h1:-9223372036854775808<=n)(h2:n<=9223372036854775807):IntKind.i64.wrap n=n:=by
 show (if (true&&decide (n % 18446744073709551616>=9223372036854775808))=true then n % 18446744073709551616 - 18446744073709551616 else n % 18446744073709551616)=n
 simp only[Xv,decide_eq_true_eq]
 split<;>omega
theorem Gc {n:Int}(h1:-2147483648<=n)(h2:n<=2147483647):IntKind.i32.wrap n=n:=by
 show (if (true&&decide (n % 4294967296>=2147483648))=true then n % 4294967296 - 4294967296 else n % 4294967296)=n
 simp only[Xv,decide_eq_true_eq]
 split<;>omega
theorem Lr {n:Int}(h1:0<=n)(h2:n<=255):IntKind.u8.wrap n=n:=by
 show (if (false&&decide (n % 256>=128))=true then n % 256 - 256 else n % 256)=n
 simp only[XR]
 simp;omega
theorem F9 {n:Int}(h1:0<=n)(h2:n<=18446744073709551615):IntKind.u64.wrap n=n:=by
 show (if (false&&decide (n % 18446744073709551616>=9223372036854775808))=true then n % 18446744073709551616 - 18446744073709551616 else n % 18446744073709551616)=n
 simp only[XR]
 simp;omega
theorem Ga {n:Int}(h1:0<=n)(h2:n<=4294967295):IntKind.u32.wrap n=n:=by
 show (if (false&&decide (n % 4294967296>=2147483648))=true then n % 4294967296 - 4294967296 else n % 4294967296)=n
 simp only[XR]
 simp;omega
theorem UB {a b:Int}(h:a<b):decide (a<b)=true:=decide_eq_true h
theorem UC {a b:Int}(h:¬ a<b):decide (a<b)=false:=decide_eq_false h
theorem UD {a b:Int}(h:a<=b):decide (a<=b)=true:=decide_eq_true h
theorem UE {a b:Int}(h:¬ a<=b):decide (a<=b)=false:=decide_eq_false h
theorem UF {a b:Int}(h:a=b):decide (a=b)=true:=decide_eq_true h
theorem UG {a b:Int}(h:¬ a=b):decide (a=b)=false:=decide_eq_false h
def Chk (b:Bool):Prop:=b=true
theorem OM:Chk true:=_root_.id rfl
theorem C8 (i k:Nat)(x:AV)(r:List (Nat×AV)):look i ((k,x)::r)=if k=i then x else look i r:=_root_.id rfl
theorem Iv (i:Nat):look i [] = .any:=_root_.id rfl
theorem ym (i k:Nat)(x:Blk)(r:List (Nat×Blk)):lookB i ((k,x)::r)=if k=i then x else lookB i r:=_root_.id rfl
theorem C9 (i:Nat):lookB i [] = .none:=_root_.id rfl
def evE (e:List (Nat×AV)):AX->AV
 | .t i=>look i e
 | .c p=>.pv p
 | .m i tb=>PD tb (look i e)
theorem Uz (e:List (Nat×AV))(i:Nat)(tb:List (Nat×Nat)):evE e (.m i tb)=PD tb (look i e):=_root_.id rfl
theorem ye (tb:List (Nat×Nat))(T:Nat)(p:PV):PD tb (.pv (.iface T p))=C7 p (kf T tb):=_root_.id rfl
theorem yh (t a b:Nat)(r:List (Nat×Nat)):kf t ((a,b)::r)=if a=t then some b else kf t r:=_root_.id rfl
theorem yg (p:PV)(f:Nat):C7 p (some f) = .clo f [.pv p] []:=_root_.id rfl
theorem Uy (e:List (Nat×AV))(i:Nat):evE e (.t i)=look i e:=_root_.id rfl
theorem UA (e:List (Nat×AV))(p:PV):evE e (.c p) = .pv p:=_root_.id rfl
def evO (e:List (Nat×AV)):Option AX->Option AV
 | some x=>some (evE e x)
 | none=>none
theorem Jv (e:List (Nat×AV))(x:AX):evO e (some x)=some (evE e x):=_root_.id rfl
theorem Jw (e:List (Nat×AV)):evO e none=none:=_root_.id rfl
def evL (e:List (Nat×AV)):List AX->List AV
 | []=>[]
 | x::r=>evE e x::evL e r
theorem Oy (e:List (Nat×AV)):evL e []=[]:=_root_.id rfl
theorem Jz (e:List (Nat×AV))(x:AX)(r:List AX):evL e (x::r)=evE e x::evL e r:=_root_.id rfl
theorem jl (e:List (Nat×AV))(σ:List (Nat×Blk))(n:Nat)(x:AX):x.ev (St.E ⟨e,σ,n⟩)=evE e x:=by cases x<;>rfl
theorem Eh (e:List (Nat×AV))(σ:List (Nat×Blk))(n:Nat):∀ (l:List AX),l.map (·.ev (St.E ⟨e,σ,n⟩))=evL e l
 | []=>rfl
 | x::r=>by rw[Xq,Eh e σ n r,jl];rfl
def evP (e:List (Nat×AV)):List (Nat×Nat×AX)->List (Nat×Nat×AV)
 | []=>[]
 | (a,b,x)::r=>(a,b,evE e x)::evP e r
theorem Ox (e:List (Nat×AV)):evP e []=[]:=_root_.id rfl
theorem Ju (e:List (Nat×AV))(a b:Nat)(x:AX)(r:List (Nat×Nat×AX)):evP e ((a,b,x)::r)=(a,b,evE e x)::evP e r:=_root_.id rfl
def fR (e:List (Nat×AV)):TOp->Option AV
 | .mv x=>some (evE e x)
 | .pick c a b=>rF (evE e c) (evE e a) (evE e b)
 | .build zs ps=>(gy (zs.map .pv) (evP e ps)).map jh
 | .faddr off x=>iQ off (evE e x)
 | .field g sz off x=>j2 g sz off (evE e x)
 | .iaddr sz x i=>gL sz (evE e x) (evE e i)
 | .iaddrA n sz x i=>ir n sz (evE e x) (evE e i)
 | .index x i=>gK (evE e x) (evE e i)
 | .indexA g n sz x i=>iq g n sz (evE e x) (evE e i)
 | .len st x=>FY st (evE e x)
 | .lenC n=>some (.pv (.int .i64 n))
 | .imin x y=>Nd (evE e x) (evE e y)
 | .imax x y=>Nf (evE e x) (evE e y)
 | .sliceL sz x lo hi=>dw sz (evE e x) (evO e lo) (evO e hi)
 | .sliceS x lo hi=>gv (evE e x) (evO e lo) (evO e hi)
 | .bin op x y=>dP op (evE e x) (evE e y)
 | .beq kd ng x y=>(rR kd (evE e x) (evE e y)).map fun b=>.pv (.bool (if ng then !b else b))
 | .neg x=>PC (evE e x)
 | .not x=>PB (evE e x)
 | .compl x=>oy (evE e x)
 | .conv k x=>xh k (evE e x)
 | .convS x=>lR (evE e x)
 | .convIS x=>iu (evE e x)
 | .beqS ng ks x y=>(rQ ks (evE e x) (evE e y)).map fun b=>.pv (.bool (if ng then !b else b))
 | .clo f fs cs=>some (se f (evL e fs) (evL e cs))
 | .ext x i=>Ni i (evE e x)
 | .nilck x=>FX (evE e x)
theorem Jy (e:List (Nat×AV)):∀ (l:List AX),l.map (fun x=>evE e x)=evL e l
 | []=>rfl
 | x::r=>by rw[Xq,Jy e r];rfl
theorem Ry (e:List (Nat×AV))(l:Option AX):l.map (fun x=>evE e x)=evO e l:=by cases l<;>rfl
theorem Rw (e:List (Nat×AV)):∀ (l:List (Nat×Nat×AX)),(l.map fun p=>(p.1,p.2.1,evE e p.2.2))=evP e l
 | []=>rfl
 | (a,b,x)::r=>by rw[Xq,Rw e r];rfl
theorem Ba (e:List (Nat×AV))(σ:List (Nat×Blk))(n:Nat)(o:TOp):o.run (St.E ⟨e,σ,n⟩)=fR e o:=by
 cases o<;>simp only[TOp.run,fR,jl,Jy,Ry,Rw]
theorem LJ (e:List (Nat×AV))(x:AX):fR e (.mv x)=some (evE e x):=_root_.id rfl
theorem A6 (e:List (Nat×AV))(c a b:AX):fR e (.pick c a b)=rF (evE e c) (evE e a) (evE e b):=_root_.id rfl
theorem wE (e:List (Nat×AV))(zs:List PV)(ps:List (Nat×Nat×AX)):fR e (.build zs ps)=(gy (zs.map .pv) (evP e ps)).map jh:=_root_.id rfl
theorem wB (e:List (Nat×AV))(off:Nat)(x:AX):fR e (.faddr off x)=iQ off (evE e x):=_root_.id rfl
theorem wA (e:List (Nat×AV))(g:Bool)(sz off:Nat)(x:AX):fR e (.field g sz off x)=j2 g sz off (evE e x):=_root_.id rfl
theorem wz (e:List (Nat×AV))(sz:Nat)(x i:AX):fR e (.iaddr sz x i)=gL sz (evE e x) (evE e i):=_root_.id rfl
theorem re (e:List (Nat×AV))(n sz:Nat)(x i:AX):fR e (.iaddrA n sz x i)=ir n sz (evE e x) (evE e i):=_root_.id rfl
theorem wy (e:List (Nat×AV))(x i:AX):fR e (.index x i)=gK (evE e x) (evE e i):=_root_.id rfl
theorem rc (e:List (Nat×AV))(g:Bool)(n sz:Nat)(x i:AX):fR e (.indexA g n sz x i)=iq g n sz (evE e x) (evE e i):=_root_.id rfl
theorem GA (e:List (Nat×AV))(st:Bool)(x:AX):fR e (.len st x)=FY st (evE e x):=_root_.id rfl
theorem A7 (e:List (Nat×AV))(n:Nat):fR e (.lenC n)=some (.pv (.int .i64 n)):=_root_.id rfl
theorem A8 (e:List (Nat×AV))(x y:AX):fR e (.imin x y)=Nd (evE e x) (evE e y):=_root_.id rfl
theorem A9 (e:List (Nat×AV))(x y:AX):fR e (.imax x y)=Nf (evE e x) (evE e y):=_root_.id rfl
theorem q9 (e:List (Nat×AV))(sz:Nat)(x:AX)(lo hi:Option AX):fR e (.sliceL sz x lo hi)=dw sz (evE e x) (evO e lo) (evO e hi):=_root_.id rfl
theorem q8 (e:List (Nat×AV))(x:AX)(lo hi:Option AX):fR e (.sliceS x lo hi)=gv (evE e x) (evO e lo) (evO e hi):=_root_.id rfl
theorem GD (e:List (Nat×AV))(op:BinOp)(x y:AX):fR e (.bin op x y)=dP op (evE e x) (evE e y):=_root_.id rfl
def Ck (ng:Bool):Option Bool->Option AV
 | some b=>some (.pv (.bool (if ng then !b else b)))
 | none=>none
theorem GF (e:List (Nat×AV))(kd:Nat)(ng:Bool)(x y:AX):fR e (.beq kd ng x y)=Ck ng (rR kd (evE e x) (evE e y)):=by
 simp only[fR];cases rR kd (evE e x) (evE e y)<;>rfl
theorem Nk (b:Bool):Ck true (some b)=some (.pv (.bool (!b))):=_root_.id rfl
theorem Nl (b:Bool):Ck false (some b)=some (.pv (.bool b)):=_root_.id rfl
theorem Gz (e:List (Nat×AV))(x:AX):fR e (.neg x)=PC (evE e x):=_root_.id rfl
theorem Gy (e:List (Nat×AV))(x:AX):fR e (.not x)=PB (evE e x):=_root_.id rfl
theorem wD (e:List (Nat×AV))(x:AX):fR e (.compl x)=oy (evE e x):=_root_.id rfl
theorem Bb (e:List (Nat×AV))(k:IntKind)(x:AX):fR e (.conv k x)=xh k (evE e x):=_root_.id rfl
theorem Bc (e:List (Nat×AV))(ng:Bool)(ks:List Nat)(x y:AX):fR e (.beqS ng ks x y)=Ck ng (rQ ks (evE e x) (evE e y)):=by
 simp only[fR];cases rQ ks (evE e x) (evE e y)<;>rfl
theorem Cj (ks:List Nat)(ps qs:List PV):rQ ks (.pv (.agg ps)) (.pv (.agg qs))=pE ks ps qs:=_root_.id rfl
theorem JC:pE [] [] []=some true:=_root_.id rfl
theorem Ei (l:List Nat)(a b:Bool)(r s:List PV):pE (0::l) (.bool a::r) (.bool b::s)=K6 (some (a == b)) (pE l r s):=_root_.id rfl
theorem JD (l:List Nat)(k:IntKind)(a b:Int)(r s:List PV):pE (1::l) (.int k a::r) (.int k b::s)=K6 (some (decide (a=b))) (pE l r s):=by
 simp only[pE,PF,if_true];congr 2
theorem JB (l:List Nat)(a b:List UInt8)(r s:List PV):pE (2::l) (.str a::r) (.str b::s)=K6 (some (a == b)) (pE l r s):=_root_.id rfl
theorem Fj (a b:Bool):K6 (some a) (some b)=some (a&&b):=_root_.id rfl
theorem rg (e:List (Nat×AV))(x:AX):fR e (.convIS x)=iu (evE e x):=_root_.id rfl
theorem rM (k:IntKind)(n:Int):iu (.pv (.int k n))=some (.pv (.str (Utf8.encode n).data.toList)):=_root_.id rfl
theorem wC (e:List (Nat×AV))(x:AX):fR e (.convS x)=lR (evE e x):=_root_.id rfl
theorem GC (e:List (Nat×AV))(f:Nat)(fs cs:List AX):fR e (.clo f fs cs)=some (se f (evL e fs) (evL e cs)):=_root_.id rfl
theorem GB (e:List (Nat×AV))(x:AX)(i:Nat):fR e (.ext x i)=Ni i (evE e x):=_root_.id rfl
theorem ww (e:List (Nat×AV))(x:AX):fR e (.nilck x)=FX (evE e x):=_root_.id rfl
theorem M9 (x y:AV):rF (.pv (.bool true)) x y=some x:=_root_.id rfl
theorem Na (x y:AV):rF (.pv (.bool false)) x y=some y:=_root_.id rfl
theorem xd (off r o:Nat):iQ off (.ptr r o)=some (.ptr r (o+off)):=_root_.id rfl
theorem rL (off:Nat)(l:List PV)(i o:Nat):iQ off (.pv (.eptr l i o))=some (.pv (.eptr l i (o+off))):=_root_.id rfl
theorem rK (off g o:Nat):iQ off (.pv (.gptr g o))=some (.pv (.gptr g (o+off))):=_root_.id rfl
theorem B3 (g:Bool)(sz off:Nat)(ps:List PV):j2 g sz off (.pv (.agg ps))=dy g sz off (ps.map .pv):=_root_.id rfl
theorem B4 (g:Bool)(sz off:Nat)(ps:List AV):j2 g sz off (.agg ps)=dy g sz off ps:=_root_.id rfl
def QO (sz off:Nat)(cs:List AV):Option AV:=if off+sz<=cs.length then some (jh ((cs.drop off).take sz)) else none
theorem Nq (sz off:Nat)(cs:List AV):dy true sz off cs=QO sz off cs:=_root_.id rfl
theorem Nr (sz off:Nat)(cs:List AV):dy false sz off cs=cs[off]?:=_root_.id rfl
def j6 (sz:Nat)(l:List PV)(i:Nat):Option PV->Option AV
 | some y=>if y.cells.length=sz then some (.pv (.eptr l i 0)) else none
 | none=>none
theorem ov (sz:Nat)(l:List PV)(i:Nat):gM sz l (i:Int)=j6 sz l i l[i]?:=by
 unfold gM j6
 rw[if_pos (by omega)]
 simp only[Int.toNat_natCast]
 cases l[i]? <;> rfl
theorem cP (sz:Nat)(l:List PV):gM sz l 0=j6 sz l 0 l[0]?:=_root_.id rfl
theorem xe (sz:Nat)(l:List PV)(i:Nat):gM sz l ((i:Int)+1)=j6 sz l (i+1) l[i+1]?:=ov sz l (i+1)
theorem ow (sz:Nat)(l:List PV){n:Int}(h:0<=n):gM sz l n=j6 sz l n.toNat l[n.toNat]?:=by
 unfold gM j6
 rw[if_pos h]
 cases l[n.toNat]? <;> rfl
theorem rJ (sz:Nat)(l:List PV)(k:IntKind)(n:Int):gL sz (.pv (.list l)) (.pv (.int k n))=gM sz l n:=_root_.id rfl
theorem ot (sz r s:Nat)(l:List PV)(k:IntKind)(n:Int):gL sz (.olist r s l) (.pv (.int k n))=gM sz l n:=_root_.id rfl
theorem xb (sz r off len:Nat)(k:IntKind){n:Int}(h:0<=n)(h':n.toNat<len):gL sz (.row r sz off len) (.pv (.int k n))=some (.ptr r (off+n.toNat*sz)):=by
 simp[gL,h,h']
theorem Hp (l:List UInt8):FY true (.pv (.str l))=some (.pv (.int .i64 l.length)):=_root_.id rfl
theorem BY (l:List PV):FY false (.pv (.list l))=some (.pv (.int .i64 l.length)):=_root_.id rfl
theorem BX:FY false (.pv .nils)=some (.pv (.int .i64 0)):=_root_.id rfl
theorem xa (r s:Nat)(l:List PV):FY false (.olist r s l)=some (.pv (.int .i64 l.length)):=_root_.id rfl
theorem Hq (r s o n:Nat):FY false (.row r s o n)=some (.pv (.int .i64 n)):=_root_.id rfl
theorem rN {d top:Nat}{k:IntKind}{n:Int}(h0:0<=n)(h1:n<=top):bm d top (some (.pv (.int k n)))=some n.toNat:=by
 simp[bm,h0,h1]
theorem rO {d top:Nat}:bm d top none=some d:=_root_.id rfl
def UH {α:Type}(l:List α)(f:List α->AV):Option Nat->Option Nat->Option AV
 | some h,some a=>some (f ((l.take h).drop a))
 | _,_=>none
theorem EE {α:Type}(l:List α)(f:List α->AV)(h a:Nat):UH l f (some h) (some a)=some (f ((l.take h).drop a)):=_root_.id rfl
def U0 (l:Nat)(lo:Option AV):Option Nat->Option Nat
 | some h=>bm 0 h lo
 | none=>none
theorem Fa (l:Nat)(lo:Option AV)(h:Nat):U0 l lo (some h)=bm 0 h lo:=_root_.id rfl
theorem rD (l:List UInt8)(lo hi:Option AV):gv (.pv (.str l)) lo hi=UH l (fun x=>.pv (.str x)) (bm l.length l.length hi) (U0 l.length lo (bm l.length l.length hi)):=by
 unfold gv UH U0
 simp only
 split<;>rename_i h
 ·rw[h];simp only;cases bm 0 _ lo<;>rfl
 ·rw[h]
theorem HG (k:IntKind)(a b:Int):dP .add (.pv (.int k a)) (.pv (.int k b))=some (.pv (.int k (k.wrap (a+b)))):=by simp[dP,nP]
theorem Hv (k:IntKind)(a b:Int):dP .sub (.pv (.int k a)) (.pv (.int k b))=some (.pv (.int k (k.wrap (a - b)))):=by simp[dP,nP]
theorem Hz (k:IntKind)(a b:Int):dP .mul (.pv (.int k a)) (.pv (.int k b))=some (.pv (.int k (k.wrap (a*b)))):=by simp[dP,nP]
theorem Hx {k:IntKind}{a b:Int}(h:¬ b=0):dP .quo (.pv (.int k a)) (.pv (.int k b))=some (.pv (.int k (k.wrap (a.tdiv b)))):=by simp[dP,nP,h]
theorem Hw {k:IntKind}{a b:Int}(h:¬ b=0):dP .rem (.pv (.int k a)) (.pv (.int k b))=some (.pv (.int k (a.tmod b))):=by simp[dP,nP,h]
theorem HF (k:IntKind)(a b:Int):dP .and (.pv (.int k a)) (.pv (.int k b))=some (.pv (.int k (bits .and k a b))):=by simp[dP,nP]
theorem Nj (k:IntKind)(a b:Int):dP .or (.pv (.int k a)) (.pv (.int k b))=some (.pv (.int k (bits .or k a b))):=by simp[dP,nP]
theorem Hu (k:IntKind)(a b:Int):dP .xor (.pv (.int k a)) (.pv (.int k b))=some (.pv (.int k (bits .xor k a b))):=by simp[dP,nP]
theorem rP (k:IntKind)(a b:Int):dP .andNot (.pv (.int k a)) (.pv (.int k b))=some (.pv (.int k (bits .andNot k a b))):=by simp[dP,nP]
theorem HE (k:IntKind)(a b:Int):dP .eql (.pv (.int k a)) (.pv (.int k b))=some (.pv (.bool (decide (a=b)))):=by simp[dP,nP];rfl
theorem Hy (k:IntKind)(a b:Int):dP .neq (.pv (.int k a)) (.pv (.int k b))=some (.pv (.bool (!decide (a=b)))):=by simp[dP,nP];rfl
theorem HA (k:IntKind)(a b:Int):dP .lss (.pv (.int k a)) (.pv (.int k b))=some (.pv (.bool (decide (a<b)))):=by simp[dP,nP]
theorem HB (k:IntKind)(a b:Int):dP .leq (.pv (.int k a)) (.pv (.int k b))=some (.pv (.bool (decide (a<=b)))):=by simp[dP,nP]
theorem HC (k:IntKind)(a b:Int):dP .gtr (.pv (.int k a)) (.pv (.int k b))=some (.pv (.bool (decide (b<a)))):=by simp[dP,nP]
theorem HD (k:IntKind)(a b:Int):dP .geq (.pv (.int k a)) (.pv (.int k b))=some (.pv (.bool (decide (b<=a)))):=by simp[dP,nP]
theorem Cd {a b:List UInt8}(h:a.length+b.length<=9223372036854775807):dP .add (.pv (.str a)) (.pv (.str b))=some (.pv (.str (a++b))):=by
 have:a.length+b.length<=maxLen:=by unfold maxLen;omega
 simp[dP,PA,this]
theorem Cc (a b:List UInt8):dP .eql (.pv (.str a)) (.pv (.str b))=some (.pv (.bool (decide (a=b)))):=by
 simp[dP,PA];rw[Bool.eq_iff_iff];simp
theorem B7 (a b:List UInt8):dP .neq (.pv (.str a)) (.pv (.str b))=some (.pv (.bool (!decide (a=b)))):=by
 simp[dP,PA];rw[Bool.eq_iff_iff];simp
theorem B8 (a b:List UInt8):dP .lss (.pv (.str a)) (.pv (.str b))=some (.pv (.bool (cx a b))):=_root_.id rfl
theorem B9 (a b:List UInt8):dP .leq (.pv (.str a)) (.pv (.str b))=some (.pv (.bool (cx a b||a == b))):=_root_.id rfl
theorem Ca (a b:List UInt8):dP .gtr (.pv (.str a)) (.pv (.str b))=some (.pv (.bool (!(cx a b||a == b)))):=_root_.id rfl
theorem Cb (a b:List UInt8):dP .geq (.pv (.str a)) (.pv (.str b))=some (.pv (.bool (!(cx a b)))):=_root_.id rfl
theorem Ci (a b:Bool):rR 0 (.pv (.bool a)) (.pv (.bool b))=some (a == b):=_root_.id rfl
theorem HI (r o:Nat):rR 1 (.ptr r o) (.pv .nilp)=some false:=_root_.id rfl
theorem Cg (l:List PV)(i o:Nat):rR 1 (.pv (.eptr l i o)) (.pv .nilp)=some false:=_root_.id rfl
theorem Cf:rR 1 (.pv .nilp) (.pv .nilp)=some true:=_root_.id rfl
theorem Ch (x:PV)(l:List PV):rR 2 (.pv (.list (x::l))) (.pv .nils)=some false:=_root_.id rfl
theorem xm (r s:Nat)(x:PV)(l:List PV):rR 2 (.olist r s (x::l)) (.pv .nils)=some false:=_root_.id rfl
theorem HH {r s o n:Nat}(h:0<n):rR 2 (.row r s o n) (.pv .nils)=some false:=by
 cases n with
 | zero=>exact absurd h (Nat.lt_irrefl _)
 | succ n=>rfl
theorem Ce:rR 2 (.pv .nils) (.pv .nils)=some true:=_root_.id rfl
theorem Hk (k:IntKind)(n:Int):PC (.pv (.int k n))=some (.pv (.int k (k.wrap (0 - n)))):=_root_.id rfl
theorem BS (b:Bool):PB (.pv (.bool b))=some (.pv (.bool (!b))):=_root_.id rfl
theorem B6 (k k':IntKind)(n:Int):xh k (.pv (.int k' n))=some (.pv (.int k (k.wrap n))):=_root_.id rfl
theorem xg (s:List UInt8):lR (.pv (.str s))=some (.pv (.str s)):=_root_.id rfl
theorem Hi (r o:Nat):FX (.ptr r o)=some (.ptr r o):=_root_.id rfl
theorem BV (l:List PV)(i o:Nat):FX (.pv (.eptr l i o))=some (.pv (.eptr l i o)):=_root_.id rfl
theorem BU (g o:Nat):FX (.pv (.gptr g o))=some (.pv (.gptr g o)):=_root_.id rfl
theorem BT (f:Nat)(a b:List PV):FX (.pv (.clo f a b))=some (.pv (.clo f a b)):=_root_.id rfl
theorem Hj (f:Nat)(a b:List AV):FX (.clo f a b)=some (.clo f a b):=_root_.id rfl
theorem Ng (i:Nat)(ps:List PV):Ni i (.pv (.tup ps))=(ps[i]?).map .pv:=_root_.id rfl
theorem Nh (i:Nat)(ps:List AV):Ni i (.tup ps)=ps[i]?:=_root_.id rfl
theorem oK {α β:Type}(f:α->β)(a:α):(some a).map f=some (f a):=_root_.id rfl
theorem xT:[].map AV.pv=[]:=_root_.id rfl
theorem sk (x:PV)(r:List PV):(x::r).map AV.pv = .pv x::r.map AV.pv:=_root_.id rfl
theorem VV {α:Type}(x:α)(r:List α):(x::r)[0]? = some x:=_root_.id rfl
theorem V9 {α:Type}(x:α)(r:List α)(n:Nat):(x::r)[n+1]? = r[n]?:=_root_.id rfl
theorem Nm:pvs []=some []:=_root_.id rfl
def TB:Option PV->Option (List PV)->Option (List PV)
 | some p,some ps=>some (p::ps)
 | _,_=>none
theorem Cn (p:PV)(ps:List PV):TB (some p) (some ps)=some (p::ps):=_root_.id rfl
theorem Co (x:Option (List PV)):TB none x=none:=_root_.id rfl
theorem xu (x:Option PV):TB x none=none:=by cases x<;>rfl
theorem eE (x:AV)(r:List AV):pvs (x::r)=TB x.toPV (pvs r):=by
 show (match x.toPV,pvs r with | some p,some ps=>some (p::ps) | _,_=>none)=_
 cases x.toPV<;>cases pvs r<;>rfl
theorem fq:∀ (ps:List PV),pvs (ps.map .pv)=some ps
 | []=>rfl
 | x::r=>by rw[Xq,eE,fq r];rfl
theorem LH (p:PV):(AV.pv p).toPV=some p:=_root_.id rfl
theorem wp (r s:Nat)(l:List PV):(AV.olist r s l).toPV=some (.list l):=_root_.id rfl
theorem Gs (r o:Nat):(AV.ptr r o).toPV=none:=_root_.id rfl
theorem Gr (r s o n:Nat):(AV.row r s o n).toPV=none:=_root_.id rfl
theorem Gu (cs:List AV):(AV.agg cs).toPV=none:=_root_.id rfl
theorem Gq (cs:List AV):(AV.tup cs).toPV=none:=_root_.id rfl
theorem Gt (f:Nat)(a b:List AV):(AV.clo f a b).toPV=none:=_root_.id rfl
def CX (cs:List AV):Option (List PV)->AV
 | some ps=>.pv (.agg ps)
 | none=>.agg cs
theorem NO (cs:List AV):jh cs=CX cs (pvs cs):=by unfold jh;cases pvs cs<;>rfl
theorem sf (cs:List AV)(ps:List PV):CX cs (some ps) = .pv (.agg ps):=_root_.id rfl
theorem sg (cs:List AV):CX cs none = .agg cs:=_root_.id rfl
def CV (cs:List AV):Option (List PV)->AV
 | some ps=>.pv (.tup ps)
 | none=>.tup cs
theorem NM (cs:List AV):oO cs=CV cs (pvs cs):=by unfold oO;cases pvs cs<;>rfl
theorem r7 (cs:List AV)(ps:List PV):CV cs (some ps) = .pv (.tup ps):=_root_.id rfl
theorem r8 (cs:List AV):CV cs none = .tup cs:=_root_.id rfl
def oQ (f:Nat)(fs cs:List AV):Option (List PV)->Option (List PV)->AV
 | some a,some b=>.pv (.clo f a b)
 | _,_=>.clo f fs cs
theorem NN (f:Nat)(fs cs:List AV):se f fs cs=oQ f fs cs (pvs fs) (pvs cs):=by unfold se oQ;cases pvs fs<;>cases pvs cs<;>rfl
theorem r9 (f:Nat)(fs cs:List AV)(a b:List PV):oQ f fs cs (some a) (some b) = .pv (.clo f a b):=_root_.id rfl
theorem sd (f:Nat)(fs cs:List AV)(a:Option (List PV)):oQ f fs cs a none = .clo f fs cs:=by cases a<;>rfl
theorem oP (f:Nat)(fs cs:List AV)(a:Option (List PV)):oQ f fs cs none a = .clo f fs cs:=by cases a<;>rfl
theorem EU (p:PV):(AV.pv p).cells=p.cells.map .pv:=_root_.id rfl
theorem zU (cs:List AV):(AV.agg cs).cells=cs:=_root_.id rfl
theorem zI (cs:List AV):(AV.tup cs).cells=[.tup cs]:=_root_.id rfl
theorem zO (r o:Nat):(AV.ptr r o).cells=[.ptr r o]:=_root_.id rfl
theorem zJ (r s o n:Nat):(AV.row r s o n).cells=[.row r s o n]:=_root_.id rfl
theorem pT (r s:Nat)(l:List PV):(AV.olist r s l).cells=[.olist r s l]:=_root_.id rfl
theorem zP (f:Nat)(a b:List AV):(AV.clo f a b).cells=[.clo f a b]:=_root_.id rfl
theorem ae (cs:List PV):(PV.agg cs).cells=cs:=_root_.id rfl
theorem zH (b:Bool):(PV.bool b).cells=[.bool b]:=_root_.id rfl
theorem ER (k:IntKind)(n:Int):(PV.int k n).cells=[.int k n]:=_root_.id rfl
theorem EP (s:List UInt8):(PV.str s).cells=[.str s]:=_root_.id rfl
theorem zy:PV.nils.cells=[.nils]:=_root_.id rfl
theorem zE (l:List PV):(PV.list l).cells=[.list l]:=_root_.id rfl
theorem zz:PV.nilp.cells=[.nilp]:=_root_.id rfl
theorem zD:PV.nilf.cells=[.nilf]:=_root_.id rfl
theorem ET (f:Nat)(a b:List PV):(PV.clo f a b).cells=[.clo f a b]:=_root_.id rfl
theorem zG (l:List PV)(i o:Nat):(PV.eptr l i o).cells=[.eptr l i o]:=_root_.id rfl
theorem zF (g o:Nat):(PV.gptr g o).cells=[.gptr g o]:=_root_.id rfl
def NY (g:Bool)(sz o:Nat):Blk->Option AV
 | .cells _ _ l=>dy g sz o l
 | _=>none
theorem sJ (g:Bool)(sz o T:Nat)(f:Bool)(l:List AV):NY g sz o (.cells T f l)=dy g sz o l:=_root_.id rfl
def NU (g:Bool)(sz o:Nat):Option PV->Option AV
 | some e=>lr g sz o e
 | none=>none
theorem yo (g:Bool)(sz o:Nat)(e:PV):NU g sz o (some e)=lr g sz o e:=_root_.id rfl
theorem BW (G:Nat->List PV)(g:Bool)(sz:Nat)(σ:aw)(r o:Nat):eD G g sz σ (.ptr r o)=NY g sz o (σ r):=by
 simp only[eD,NY];cases σ r<;>rfl
theorem wZ (G:Nat->List PV)(g:Bool)(sz:Nat)(σ:aw)(l:List PV)(i o:Nat):eD G g sz σ (.pv (.eptr l i o))=NU g sz o l[i]?:=by
 simp only[eD,NU];cases l[i]? <;> rfl
theorem wY (G:Nat->List PV)(g:Bool)(sz:Nat)(σ:aw)(b o:Nat):eD G g sz σ (.pv (.gptr b o))=dy g sz o ((G b).map .pv):=_root_.id rfl
theorem NX (sz o:Nat)(e:PV):lr false sz o e=dy false sz o (e.cells.map .pv):=by simp[lr]
theorem NW {sz o:Nat}{cs:List PV}(h:0<o):lr true sz o (.agg cs)=dy true sz o (cs.map .pv):=by
 simp[lr,PV.cells];omega
def fH (e:List (Nat×AV))(σ:List (Nat×Blk))(new:Nat):XOp->Option (AV×List (Nat×Blk))
 | .cap sz x=>(Ht sz (fun r=>lookB r σ) (evE e x)).map fun v=>(v,[])
 | .resl sz x h=>(mS sz (fun r=>lookB r σ) (evE e x) (evE e h)).map fun v=>(v,[])
 | .copy sz x y=>ox sz (fun r=>lookB r σ) (evE e x) (evE e y)
 | .apart x y=>(gO (fun r=>lookB r σ) (evE e x) (evE e y)).map fun v=>(v,[])
 | .appz t sz by_ zs x k=>oA t sz by_ zs new (fun r=>lookB r σ) (evE e x) (evE e k)
 | .noesc x=>some (evE e x,[])
 | .ucast u n b x=>(fp u n b (fun r=>lookB r σ) (evE e x)).map fun v=>(v,[])
 | .peq ng x y=>(Nb ng (evE e x) (evE e y)).map fun v=>(v,[])
 | .anyc=>some (.any,[])
 | .apps t by_ x y=>ll t by_ new (fun r=>lookB r σ) (evE e x) (evE e y)
 | .sdata x=>(gJ (evE e x)).map fun v=>(v,[])
 | .ustr t x k=>om t (fun r=>lookB r σ) (evE e x) (evE e k)
 | .ofStr x=>j0 new (evE e x)
 | .fnil ng x y=>(ou ng (evE e x) (evE e y)).map fun v=>(v,[])
 | .inil ng x y=>(Hr ng (evE e x) (evE e y)).map fun v=>(v,[])
 | .idxb x y=>(rI (evE e x) (evE e y)).map fun v=>(v,[])
 | .mki T x=>(TA T (evE e x)).map fun v=>(v,[])
 | .mkmap=>some (.mp new,[(new,.mp [])])
 | .mlook kd co z x k=>(mU kd co z (fun r=>lookB r σ) (evE e x) (evE e k)).map fun v=>(v,[])
 | .mset kd x k v=>(mT kd (fun r=>lookB r σ) (evE e x) (evE e k) (evE e v)).map fun d=>(.pv .undef,d)
 | .bslf sz len xs=>mV sz len (evL e xs)
 | .same x=>rE (fun r=>lookB r σ) (evE e x)
theorem Ln (e:List (Nat×AV))(σ:List (Nat×Blk))(n new:Nat)(o:XOp):o.run new (St.E ⟨e,σ,n⟩) (St.σ ⟨e,σ,n⟩)=fH e σ new o:=by
 cases o<;>simp only[XOp.run,fH,jl,Jy]<;>rfl
def lp (G:Nat->List PV)(e:List (Nat×AV))(σ:List (Nat×Blk))(new:Nat):MOp->Option (AV×List (Nat×Blk))
 | .alloc T zs=>some (.ptr new 0,[(new,.cells T true (zs.map .pv))])
 | .box T x=>if (evE e x).known=true then some (.ptr new 0,[(new,.cells T true (evE e x).cells)]) else none
 | .cbox T x=>match (evE e x).toPV with
   | some p=>if p.cells.all PV.one=true then some (.pv (.eptr [p] 0 0),[(new,.none)]) else none
   | none=>none
 | .load g sz x=>(eD G g sz (fun r=>lookB r σ) (evE e x)).map fun v=>(v,[])
 | .store sz x v=>(gI sz (fun r=>lookB r σ) (evE e x) (evE e v)).map fun d=>(.pv .undef,d)
 | .clear sz zs x=>(gN sz zs (fun r=>lookB r σ) (evE e x)).map fun d=>(.pv (.tup []),d)
 | .toStr x=>(eZ (fun r=>lookB r σ) (evE e x)).map fun v=>(v,[])
 | .xop o=>fH e σ new o
 | .bslice mu t sz len xs=>dx mu t sz len new (evL e xs)
 | .append mu t sz by_ x y=>dZ mu t sz by_ new (fun r=>lookB r σ) (evE e x) (evE e y)
 | .mk mu t sz by_ zs x y=>rMk mu t sz by_ zs new (evE e x) (evE e y)
 | .sliceA n sz x lo hi=>match evE e x with
   | .ptr r o=>match lookB r σ with
     | .cells _ f l=>if f=true/\o+n*sz<=l.length/\(o=0->n*sz=l.length)/\n<=9223372036854775807 then (dw sz (.row r sz o n) (evO e lo) (evO e hi)).map fun v=>(v,[]) else none
     | _=>none
   | _=>none
theorem C2 (G:Nat->List PV)(e:List (Nat×AV))(σ:List (Nat×Blk))(n new:Nat)(o:MOp):o.run G new (St.E ⟨e,σ,n⟩) (St.σ ⟨e,σ,n⟩)=lp G e σ new o:=by
 cases o<;>first | (simp only[MOp.run,lp,jl,Jy,Ry]<;>rfl) | exact Ln e σ n new _
def dX (δ:List (Nat×Blk)):Option AV->Option (AV×List (Nat×Blk))
 | some v=>some (v,δ)
 | none=>none
theorem wk (δ:List (Nat×Blk))(v:AV):dX δ (some v)=some (v,δ):=_root_.id rfl
def wj (v:AV):Option (List (Nat×Blk))->Option (AV×List (Nat×Blk))
 | some δ=>some (v,δ)
 | none=>none
theorem wi (δ:List (Nat×Blk))(v:AV):wj v (some δ)=some (v,δ):=_root_.id rfl
theorem xZ (G:Nat->List PV)(e:List (Nat×AV))(σ:List (Nat×Blk))(new T:Nat)(zs:List PV):lp G e σ new (.alloc T zs)=some (.ptr new 0,[(new,.cells T true (zs.map .pv))]):=_root_.id rfl
def V1 (new T:Nat)(v:AV):Bool->Option (AV×List (Nat×Blk))
 | true=>some (.ptr new 0,[(new,.cells T true v.cells)])
 | false=>none
theorem Sq (new T:Nat)(v:AV):V1 new T v true=some (.ptr new 0,[(new,.cells T true v.cells)]):=_root_.id rfl
theorem Is (G:Nat->List PV)(e:List (Nat×AV))(σ:List (Nat×Blk))(new T:Nat)(x:AX):lp G e σ new (.box T x)=V1 new T (evE e x) (evE e x).known:=by
 simp only[lp];cases (evE e x).known<;>rfl
def OV (new:Nat):Option PV->Option (AV×List (Nat×Blk))
 | some p=>if p.cells.all PV.one=true then some (.pv (.eptr [p] 0 0),[(new,.none)]) else none
 | none=>none
theorem zW (new:Nat)(p:PV):OV new (some p)=if p.cells.all PV.one=true then some (.pv (.eptr [p] 0 0),[(new,.none)]) else none:=_root_.id rfl
theorem C3 (G:Nat->List PV)(e:List (Nat×AV))(σ:List (Nat×Blk))(new T:Nat)(x:AX):lp G e σ new (.cbox T x)=OV new (evE e x).toPV:=by
 simp only[lp,OV]
theorem IF (p:PV):(AV.pv p).known=true:=_root_.id rfl
theorem Dn (cs:List AV):(AV.agg cs).known=true:=_root_.id rfl
theorem Dj (cs:List AV):(AV.tup cs).known=true:=_root_.id rfl
theorem Dl (r o:Nat):(AV.ptr r o).known=true:=_root_.id rfl
theorem Dk (r s o n:Nat):(AV.row r s o n).known=true:=_root_.id rfl
theorem sO (r s:Nat)(l:List PV):(AV.olist r s l).known=true:=_root_.id rfl
theorem Dm (f:Nat)(a b:List AV):(AV.clo f a b).known=true:=_root_.id rfl
theorem C1 (G:Nat->List PV)(e:List (Nat×AV))(σ:List (Nat×Blk))(new:Nat)(g:Bool)(sz:Nat)(x:AX):lp G e σ new (.load g sz x)=dX [] (eD G g sz (fun r=>lookB r σ) (evE e x)):=by
 simp only[lp];cases eD G g sz (fun r=>lookB r σ) (evE e x)<;>rfl
theorem xX (G:Nat->List PV)(e:List (Nat×AV))(σ:List (Nat×Blk))(new sz:Nat)(x v:AX):lp G e σ new (.store sz x v)=wj (.pv .undef) (gI sz (fun r=>lookB r σ) (evE e x) (evE e v)):=by
 simp only[lp];cases gI sz (fun r=>lookB r σ) (evE e x) (evE e v)<;>rfl
def KY (sz:Nat)(zs:List PV)(r s off len:Nat):Blk->Option (List (Nat×Blk))
 | .cells T f l=>if s=sz/\0<len/\zs.length=sz/\off+len*sz<=l.length/\zs.all PV.one=true then some [(r,.cells T f (l.take off++(List.replicate len zs).flatten.map .pv++l.drop (off+len*sz)))] else none
 | _=>none
theorem xj (sz:Nat)(zs:List PV)(σ:aw)(r s off len:Nat):gN sz zs σ (.row r s off len)=KY sz zs r s off len (σ r):=by
 simp only[gN,KY];cases σ r<;>rfl
theorem xY (G:Nat->List PV)(e:List (Nat×AV))(σ:List (Nat×Blk))(new sz:Nat)(zs:List PV)(x:AX):lp G e σ new (.clear sz zs x)=wj (.pv (.tup [])) (gN sz zs (fun r=>lookB r σ) (evE e x)):=by
 simp only[lp,wj];cases gN sz zs (fun r=>lookB r σ) (evE e x)<;>rfl
theorem sE (G:Nat->List PV)(e:List (Nat×AV))(σ:List (Nat×Blk))(new:Nat)(mu:Bool)(t sz len:Nat)(xs:List AX):lp G e σ new (.bslice mu t sz len xs)=dx mu t sz len new (evL e xs):=_root_.id rfl
theorem sF (G:Nat->List PV)(e:List (Nat×AV))(σ:List (Nat×Blk))(new:Nat)(mu:Bool)(t sz by_:Nat)(x y:AX):lp G e σ new (.append mu t sz by_ x y)=dZ mu t sz by_ new (fun r=>lookB r σ) (evE e x) (evE e y):=_root_.id rfl
theorem NP (G:Nat->List PV)(e:List (Nat×AV))(σ:List (Nat×Blk))(new:Nat)(mu:Bool)(t sz by_:Nat)(zs:List PV)(x y:AX):lp G e σ new (.mk mu t sz by_ zs x y)=rMk mu t sz by_ zs new (evE e x) (evE e y):=_root_.id rfl
theorem Nc {e sz by_:Nat}{zs:List PV}{new:Nat}{k k':IntKind}{c:Int}(h:0<=c)(h1:(by_:Int)*c<=281474976710656)(h2:c<=9223372036854775807):rMk false e sz by_ zs new (.pv (.int k 0)) (.pv (.int k' c))=some (.olist new sz [],[(new,.tok e sz)]):=by
 simp[rMk,h,h1,h2]
def tT (sz r o:Nat)(v:AV):Blk->Option (List (Nat×Blk))
 | .cells T f l=>if v.known=true/\v.cells.length=sz/\v.cells.all AV.one=true/\o+sz<=l.length then some [(r,.cells T f (l.take o++v.cells++l.drop (o+sz)))] else none
 | _=>none
theorem wV (sz:Nat)(σ:aw)(r o:Nat)(v:AV):gI sz σ (.ptr r o) v=tT sz r o v (σ r):=by
 simp only[gI,tT];cases σ r<;>rfl
def Kq (r T:Nat)(f:Bool)(l:List AV)(sz o:Nat)(cs:List AV):Bool->Option (List (Nat×Blk))
 | true=>some [(r,.cells T f (l.take o++cs++l.drop (o+sz)))]
 | false=>none
theorem nZ (sz r o:Nat)(v:AV)(T:Nat)(f:Bool)(l:List AV):tT sz r o v (.cells T f l)=Kq r T f l sz o v.cells (v.known&&decide (v.cells.length=sz)&&v.cells.all AV.one&&decide (o+sz<=l.length)):=by
 simp only[tT]
 by_cases h:v.known=true/\v.cells.length=sz/\v.cells.all AV.one=true/\o+sz<=l.length
 ·rw[if_pos h]
  have:(v.known&&decide (v.cells.length=sz)&&v.cells.all AV.one&&decide (o+sz<=l.length))=true:=by simp only[Xk,decide_eq_true_eq];exact⟨⟨⟨h.1,h.2.1⟩,h.2.2.1⟩,h.2.2.2⟩
  rw[this];rfl
 ·rw[if_neg h]
  have:(v.known&&decide (v.cells.length=sz)&&v.cells.all AV.one&&decide (o+sz<=l.length))=false:=by
   rw[Bool.eq_false_iff]
   intro hh
   simp only[Xk,decide_eq_true_eq] at hh
   exact h ⟨hh.1.1.1,hh.1.1.2,hh.1.2,hh.2⟩
  rw[this];rfl
theorem GJ (r T:Nat)(f:Bool)(l:List AV)(sz o:Nat)(cs:List AV):Kq r T f l sz o cs true=some [(r,.cells T f (l.take o++cs++l.drop (o+sz)))]:=_root_.id rfl
theorem gr {n m by_:Nat}(h1:n+m<=9223372036854775807)(h2:(n+m)*by_<=140737488355328):lP n m by_=true:=by
 simp[lP,h1,h2]
theorem Gj (l:List (Nat×Blk)):jJ l []=l:=_root_.id rfl
theorem AY (l:List (Nat×Blk))(p:Nat×Blk)(r:List (Nat×Blk)):jJ l (p::r)=jJ (p::l) r:=_root_.id rfl
theorem JK (f:Nat)(a b:List PV):dJ (.pv (.clo f a b))=some (f,a.map .pv,b.map .pv):=_root_.id rfl
theorem JL (f:Nat)(a b:List AV):dJ (.clo f a b)=some (f,a,b):=_root_.id rfl
theorem Nv {α:Type}(a:α)(k:α->Prop):aM (some a) k=k a:=_root_.id rfl
section
variable {P:Program}{G:Nat->List PV}
theorem H9 (F:St->Prop)(e:List (Nat×AV))(σ:List (Nat×Blk))(n d:Nat)(v:AV):Ia F ⟨e,σ,n⟩ (some d) v=F ⟨(d,v)::e,σ,n⟩:=_root_.id rfl
theorem H8 (F:St->Prop)(e:List (Nat×AV))(σ:List (Nat×Blk))(n:Nat)(v:AV):Ia F ⟨e,σ,n⟩ none v=F ⟨e,σ,n⟩:=_root_.id rfl
theorem Ic (F:St->Prop)(e:List (Nat×AV))(σ:List (Nat×Blk))(n d:Nat)(v:AV)(δ:List (Nat×Blk)):xL F ⟨e,σ,n⟩ (some d) (v,δ)=F ⟨(d,v)::e,jJ σ δ,n+1⟩:=_root_.id rfl
theorem Ib (F:St->Prop)(e:List (Nat×AV))(σ:List (Nat×Blk))(n:Nat)(v:AV)(δ:List (Nat×Blk)):xL F ⟨e,σ,n⟩ none (v,δ)=F ⟨e,jJ σ δ,n+1⟩:=_root_.id rfl
theorem If (F:St->Prop)(e:List (Nat×AV))(σ:List (Nat×Blk))(n d:Nat)(v:AV):Ig F (some d) v ⟨e,σ,n⟩=F ⟨(d,v)::e,σ,n⟩:=_root_.id rfl
theorem Ie (F:St->Prop)(e:List (Nat×AV))(σ:List (Nat×Blk))(n:Nat)(v:AV):Ig F none v ⟨e,σ,n⟩=F ⟨e,σ,n⟩:=_root_.id rfl
theorem JO (args:List AV)(s:St)(K:AV->St->Prop)(f:Nat)(a b:List AV):E0 P G args s K (f,a,b)=ab P G f (a++args++b) s K:=_root_.id rfl
theorem AQ (F:St->Prop)(s:St):dO P G [] F s=F s:=_root_.id rfl
theorem wm (d:Option Nat)(o:AOp)(r:List AOper)(F:St->Prop)(s:St):dO P G (⟨d,o,none⟩::r) F s=lk P G (dO P G r F) s d o:=_root_.id rfl
def jH (b:Bool):AV->Option Bool
 | .pv (.bool x)=>some (x == b)
 | .pv .undef=>some false
 | _=>none
theorem AN (x:Bool):jH true (.pv (.bool x))=some x:=by cases x<;>rfl
theorem AO (x:Bool):jH false (.pv (.bool x))=some (!x):=by cases x<;>rfl
theorem AM (b:Bool):jH b (.pv .undef)=some false:=_root_.id rfl
theorem qW (d:Option Nat)(o:AOp)(i:Nat)(b:Bool)(r:List AOper)(F:St->Prop)(e:List (Nat×AV))(σ:List (Nat×Blk))(n:Nat) :
  dO P G (⟨d,o,some (i,b)⟩::r) F ⟨e,σ,n⟩=aM (jH b (look i e)) (KU P G (dO P G r F) ⟨e,σ,n⟩ d o):=_root_.id rfl
theorem Ez (F:St->Prop)(s:St)(d:Option Nat)(o:AOp):KU P G F s d o true=lk P G F s d o:=_root_.id rfl
theorem zf (F:St->Prop)(e:List (Nat×AV))(σ:List (Nat×Blk))(n:Nat)(d:Nat)(o:AOp):KU P G F ⟨e,σ,n⟩ (some d) o false=F ⟨(d,.pv .undef)::e,σ,n⟩:=_root_.id rfl
theorem sZ (F:St->Prop)(s:St)(o:AOp):KU P G F s none o false=F s:=_root_.id rfl
def QY (k:AV->Prop):AV->Prop
 | .pv (.list [])=>∀ b:Bool,k (.pv (.bool b))
 | _=>False
def mX (x:Option AV)(k:AV->Prop)(e:List (Nat×AV))(o:TOp):Prop:=
 match x with
 | some v=>k v
 | none=>match o with
   | .beq 2 _ y (.c .nils)=>QY k (evE e y)
   | _=>False
theorem oG (v:AV)(k:AV->Prop)(e:List (Nat×AV))(o:TOp):mX (some v) k e o=k v:=_root_.id rfl
theorem oH (k:AV->Prop)(e:List (Nat×AV))(ng:Bool)(y:AX):mX none k e (.beq 2 ng y (.c .nils))=QY k (evE e y):=_root_.id rfl
theorem H4 (k:AV->Prop):QY k (.pv (.list [])) = ∀ b:Bool,k (.pv (.bool b)):=_root_.id rfl
theorem HJ (ng:Bool):Ck ng (rR 2 (.pv (.list [])) (.pv .nils))=none:=_root_.id rfl
theorem RC (F:St->Prop)(e:List (Nat×AV))(σ:List (Nat×Blk))(n:Nat)(d:Option Nat)(o:TOp):lk P G F ⟨e,σ,n⟩ d (.t o)=mX (fR e o) (Ia F ⟨e,σ,n⟩ d) e o:=by
 rw[<- Ba e σ n]
 show iz (o.run (St.E ⟨e,σ,n⟩)) _ _=_
 cases hr:o.run (St.E ⟨e,σ,n⟩) with
 | some v=>rfl
 | none=>
   simp only[iz,mX]
   refine propext ⟨fun h=>?_,fun h=>?_⟩
   ·obtain⟨h1,h2⟩:=h
    unfold nilB at h1
    split at h1
    ·split at h1
     ·rename_i hev
      rw[jl] at hev
      show QY _ _
      rw[hev];exact h2
     ·cases h1
    ·cases h1
   ·split at h
    ·rename_i y
     unfold QY at h
     split at h
     ·rename_i hev
      refine⟨?_,h⟩
      simp only[nilB]
      rw[jl,hev]
     ·exact h.elim
    ·exact h.elim
theorem RD (F:St->Prop)(e:List (Nat×AV))(σ:List (Nat×Blk))(n:Nat)(d:Option Nat)(o:MOp):lk P G F ⟨e,σ,n⟩ d (.m o)=aM (lp G e σ n o) (xL F ⟨e,σ,n⟩ d):=by
 rw[<- C2 G e σ n];rfl
theorem Ey (F:St->Prop)(e:List (Nat×AV))(σ:List (Nat×Blk))(n:Nat)(d:Option Nat)(f:AX)(xs:List AX):lk P G F ⟨e,σ,n⟩ d (.call f xs)=aM (dJ (evE e f)) (E0 P G (evL e xs) ⟨e,σ,n⟩ (Ig F d)):=by
 rw[<- jl e σ n,<- Eh e σ n];rfl
theorem GL (F:List (List Nat×List Nat)->St->Prop)(T:List (List Nat×List Nat))(e:List (Nat×AV))(σ:List (Nat×Blk))(n d:Nat)(v:AV):Bi F T ⟨e,σ,n⟩ (some d) v=F (T++[([],[])]) ⟨(d,v)::e,σ,n⟩:=_root_.id rfl
theorem GK (F:List (List Nat×List Nat)->St->Prop)(T:List (List Nat×List Nat))(e:List (Nat×AV))(σ:List (Nat×Blk))(n:Nat)(v:AV):Bi F T ⟨e,σ,n⟩ none v=F (T++[([],[])]) ⟨e,σ,n⟩:=_root_.id rfl
theorem GN (F:List (List Nat×List Nat)->St->Prop)(T:List (List Nat×List Nat))(e:List (Nat×AV))(σ:List (Nat×Blk))(n d k:Nat)(rd:List Nat)(v:AV)(δ:List (Nat×Blk)):Bj F T ⟨e,σ,n⟩ (some d) k rd (v,δ)=F (T++[eX k (aZ δ) rd]) ⟨(d,v)::e,jJ σ δ,n+1⟩:=_root_.id rfl
theorem GM (F:List (List Nat×List Nat)->St->Prop)(T:List (List Nat×List Nat))(e:List (Nat×AV))(σ:List (Nat×Blk))(n k:Nat)(rd:List Nat)(v:AV)(δ:List (Nat×Blk)):Bj F T ⟨e,σ,n⟩ none k rd (v,δ)=F (T++[eX k (aZ δ) rd]) ⟨e,jJ σ δ,n+1⟩:=_root_.id rfl
theorem ag {F:List (List Nat×List Nat)->St->Prop}{T:List (List Nat×List Nat)}{e:List (Nat×AV)}{σ:List (Nat×Blk)}{n d:Nat}{f:Nat}{a b args:List AV}{ps:List PV}{r:PV}(h:ap P G f ps r)(he:pvs (a++args++b)=some ps)
  (hk:F (T++[([],[])]) ⟨(d,.pv r)::e,σ,n⟩):g9 P G F T ⟨e,σ,n⟩ (some d) args (f,a,b):=.inl ⟨ps,r,he,h,hk⟩
theorem kR {F:List (List Nat×List Nat)->St->Prop}{T:List (List Nat×List Nat)}{e:List (Nat×AV)}{σ:List (Nat×Blk)}{n d:Nat}{f:Nat}{a b args:List AV}{v:AV}{δ:List (Nat×Blk)}{top:Nat}(h:cn P G f (a++args++b) σ n (fun v' sto' n'=>v'=v/\sto'=jJ σ δ/\n'=top))(ht:n<=top)
  (hk:F (T++[eX 2 (aZ δ) (σ.map (·.1))]) ⟨(d,v)::e,jJ σ δ,top⟩):g9 P G F T ⟨e,σ,n⟩ (some d) args (f,a,b):=.inr ⟨v,δ,top,h,ht,hk⟩
theorem Qw (ks rs:List Nat):eX 0 ks rs=(ks.map (· + 1),rs.map (· + 1)):=_root_.id rfl
theorem Qv (ks rs:List Nat):eX 1 ks rs=(ks.map (· + 1),0::rs.map (· + 1)):=_root_.id rfl
theorem Qu (ks rs:List Nat):eX 2 ks rs=(0::ks.map (· + 1),rs.map (· + 1)):=_root_.id rfl
theorem su (g:Bool)(sz:Nat)(x:AX):bg (.load g sz x)=0:=_root_.id rfl
theorem oU (sz:Nat)(x v:AX):bg (.store sz x v)=0:=_root_.id rfl
theorem oT (x:AX):bg (.toStr x)=0:=_root_.id rfl
theorem oZ (sz:Nat)(zs:List PV)(x:AX):bg (.clear sz zs x)=0:=_root_.id rfl
theorem mZ (n sz:Nat)(x:AX)(l h:Option AX):bg (.sliceA n sz x l h)=0:=_root_.id rfl
theorem o8 (T:Nat)(z:List PV):bg (.alloc T z)=1:=_root_.id rfl
theorem xV (T:Nat)(x:AX):bg (.box T x)=1:=_root_.id rfl
theorem sA (T:Nat)(x:AX):bg (.cbox T x)=1:=_root_.id rfl
theorem m4 (m:Bool)(e s l:Nat)(x:List AX):bg (.bslice m e s l x)=1:=_root_.id rfl
theorem m5 (m:Bool)(e s l:Nat)(x y:AX):bg (.append m e s l x y)=1:=_root_.id rfl
theorem C0 (m:Bool)(e s l:Nat)(z:List PV)(x y:AX):bg (.mk m e s l z x y)=1:=_root_.id rfl
theorem Lx {A:List (List Nat)}{F:St->Prop}{T:List (List Nat×List Nat)}{s:St}(h:Chk (okB A T)):vcD P G A F [] T s=F s:=by
 show (okB A T=true/\F s)=F s
 rw[eq_iff_iff]
 exact⟨fun x=>x.2,fun x=>⟨h,x⟩⟩
theorem Gh (A:List (List Nat))(F:St->Prop)(d:Option Nat)(o:AOp)(r:List AOper)(T:List (List Nat×List Nat))(s:St):vcD P G A F (⟨d,o,none⟩::r) T s=gZ P G (vcD P G A F r) T s d o:=_root_.id rfl
theorem AR (A:List (List Nat))(F:St->Prop)(d:Option Nat)(o:AOp)(i:Nat)(b:Bool)(r:List AOper)(T:List (List Nat×List Nat))(e:List (Nat×AV))(σ:List (Nat×Blk))(n:Nat) :
  vcD P G A F (⟨d,o,some (i,b)⟩::r) T ⟨e,σ,n⟩=aM (jH b (look i e)) (pL P G (vcD P G A F r) T ⟨e,σ,n⟩ d o):=_root_.id rfl
theorem zg (F:List (List Nat×List Nat)->St->Prop)(T:List (List Nat×List Nat))(s:St)(d:Option Nat)(o:AOp):pL P G F T s d o true=gZ P G F T s d o:=_root_.id rfl
theorem tc (F:List (List Nat×List Nat)->St->Prop)(T:List (List Nat×List Nat))(e:List (Nat×AV))(σ:List (Nat×Blk))(n:Nat)(d:Nat)(o:AOp):pL P G F T ⟨e,σ,n⟩ (some d) o false=F (T++[([],[])]) ⟨(d,.pv .undef)::e,σ,n⟩:=_root_.id rfl
theorem pK (F:List (List Nat×List Nat)->St->Prop)(T:List (List Nat×List Nat))(s:St)(o:AOp):pL P G F T s none o false=F (T++[([],[])]) s:=_root_.id rfl
theorem OD (F:List (List Nat×List Nat)->St->Prop)(T:List (List Nat×List Nat))(e:List (Nat×AV))(σ:List (Nat×Blk))(n:Nat)(d:Option Nat)(o:TOp):gZ P G F T ⟨e,σ,n⟩ d (.t o)=aM (fR e o) (Bi F T ⟨e,σ,n⟩ d):=by
 rw[<- Ba e σ n];rfl
def cK (e:List (Nat×AV)):XOp->List Nat
 | .cap _ x=>(evE e x).name
 | .resl _ x _=>(evE e x).name
 | .copy _ x y | .apart x y=>(evE e x).name++(evE e y).name
 | .appz _ _ _ _ x _=>(evE e x).name
 | .ucast _ _ _ x | .apps _ _ x _ | .ustr _ x _ | .same x=>(evE e x).name
 | .noesc _ | .peq _ _ _ | .anyc | .sdata _ | .ofStr _ | .fnil _ _ _ | .inil _ _ _ | .idxb _ _ | .mki _ _ | .mkmap | .bslf _ _ _=>[]
 | .mlook _ _ _ x _ | .mset _ x _ _=>(evE e x).name
def dU (e:List (Nat×AV)):MOp->List Nat
 | .xop o=>cK e o
 | .load _ _ x | .sliceA _ _ x _ _ | .clear _ _ x | .toStr x=>(evE e x).name
 | .append _ _ _ _ x y=>(evE e x).name++(evE e y).name
 | .store _ x _=>(evE e x).name
 | .alloc _ _ | .box _ _ | .cbox _ _ | .bslice _ _ _ _ _ | .mk _ _ _ _ _ _ _=>[]
theorem C4 (e:List (Nat×AV))(mu:Bool)(t sz b:Nat)(zs:List PV)(x y:AX):dU e (.mk mu t sz b zs x y)=[]:=_root_.id rfl
theorem o9 (e:List (Nat×AV))(x:AX):dU e (.toStr x)=(evE e x).name:=_root_.id rfl
theorem pb (e:List (Nat×AV))(sz:Nat)(zs:List PV)(x:AX):dU e (.clear sz zs x)=(evE e x).name:=_root_.id rfl
theorem sG (e:List (Nat×AV))(g:Bool)(sz:Nat)(x:AX):dU e (.load g sz x)=(evE e x).name:=_root_.id rfl
theorem yc (e:List (Nat×AV))(T:Nat)(x:AX):dU e (.box T x)=[]:=_root_.id rfl
theorem sH (e:List (Nat×AV))(T:Nat)(x:AX):dU e (.cbox T x)=[]:=_root_.id rfl
theorem pd (e:List (Nat×AV))(T:Nat)(x:List PV):dU e (.alloc T x)=[]:=_root_.id rfl
theorem pa (e:List (Nat×AV))(sz:Nat)(x v:AX):dU e (.store sz x v)=(evE e x).name:=_root_.id rfl
theorem m7 (e:List (Nat×AV))(mu:Bool)(t sz b:Nat)(x y:AX):dU e (.append mu t sz b x y)=(evE e x).name++(evE e y).name:=_root_.id rfl
theorem m6 (e:List (Nat×AV))(mu:Bool)(t sz b:Nat)(x:List AX):dU e (.bslice mu t sz b x)=[]:=_root_.id rfl
theorem NK (p:PV):(AV.pv p).name=[]:=_root_.id rfl
theorem Il (r o:Nat):(AV.ptr r o).name=[r]:=_root_.id rfl
theorem Ik (r s o n:Nat):(AV.row r s o n).name=[r]:=_root_.id rfl
theorem xQ (r s:Nat)(l:List PV):(AV.olist r s l).name=[r]:=_root_.id rfl
theorem Dq:aZ ([]:List (Nat×Blk))=[]:=_root_.id rfl
theorem yx (r:Nat)(B:Blk)(q:List (Nat×Blk)):aZ ((r,B)::q)=r::aZ q:=_root_.id rfl
theorem OE (F:List (List Nat×List Nat)->St->Prop)(T:List (List Nat×List Nat))(e:List (Nat×AV))(σ:List (Nat×Blk))(n:Nat)(d:Option Nat)(o:MOp):gZ P G F T ⟨e,σ,n⟩ d (.m o)=aM (lp G e σ n o) (Bj F T ⟨e,σ,n⟩ d (bg o) (dU e o)):=by
 have:dU e o=o.reads (St.E ⟨e,σ,n⟩):=by
  cases o<;>simp only[dU,MOp.reads,jl]
  rename_i o
  cases o<;>simp only[cK,XOp.reads,jl]
 rw[<- C2 G e σ n,this];rfl
theorem zd (F:List (List Nat×List Nat)->St->Prop)(T:List (List Nat×List Nat))(e:List (Nat×AV))(σ:List (Nat×Blk))(n:Nat)(d:Option Nat)(f:AX)(xs:List AX):gZ P G F T ⟨e,σ,n⟩ d (.call f xs)=aM (dJ (evE e f)) (g9 P G F T ⟨e,σ,n⟩ d (evL e xs)):=by
 rw[<- jl e σ n,<- Eh e σ n];rfl
def zw (e:List (Nat×AV)):List Nat->List (Nat×AV)
 | []=>[]
 | k::r=>(k,look k e)::zw e r
theorem EH (e:List (Nat×AV)):zw e []=[]:=_root_.id rfl
theorem zu (e:List (Nat×AV))(k:Nat)(r:List Nat):zw e (k::r)=(k,look k e)::zw e r:=_root_.id rfl
theorem uY (e:List (Nat×AV))(σ:List (Nat×Blk))(n:Nat):∀ (l:List Nat),l.map (fun i=>(i,St.E ⟨e,σ,n⟩ i))=zw e l
 | []=>rfl
 | k::r=>by rw[Xq,uY e σ n r];rfl
theorem EI (seen:List Nat):i8 seen []=[]:=_root_.id rfl
theorem zx (seen:List Nat)(k:Nat)(b:Blk)(r:List (Nat×Blk)):i8 seen ((k,b)::r)=zq k b (i8 (k::seen) r) (uw k seen):=_root_.id rfl
theorem OI (k:Nat)(b:Blk)(r:List (Nat×Blk)):zq k b r true=r:=_root_.id rfl
theorem OJ (k:Nat)(b:Blk)(r:List (Nat×Blk)):zq k b r false=(k,b)::r:=_root_.id rfl
theorem Ir (k:Nat):uw k []=false:=_root_.id rfl
theorem Q0 (k j:Nat)(r:List Nat):uw k (j::r)=if j=k then true else uw k r:=_root_.id rfl
theorem H2 (Q:AExit->St->Prop)(keep:List Nat)(e:List (Nat×AV))(σ:List (Nat×Blk))(n:Nat):rY Q keep ⟨e,σ,n⟩=Q .norm ⟨zw e keep,i8 [] σ,n⟩:=by
 rw[<- uY e σ n];rfl
theorem Fv (F:St->Prop)(Q:AExit->St->Prop)(s:St):Kf F Q .norm s=F s:=_root_.id rfl
theorem Fw (F:St->Prop)(Q:AExit->St->Prop)(i:Nat)(s:St):Kf F Q (.exit i) s=Q (.exit i) s:=_root_.id rfl
theorem Ke (F:St->Prop)(Q:AExit->St->Prop)(s:St):Kf F Q .ret s=Q .ret s:=_root_.id rfl
theorem tJ (id:Nat)(Q:AExit->St->Prop)(s:St):fG id Q .norm s=Q .norm s:=_root_.id rfl
theorem tK (id:Nat)(Q:AExit->St->Prop)(i:Nat)(s:St):fG id Q (.exit i) s=if i=id then Q .norm s else Q (.exit i) s:=_root_.id rfl
theorem Al (id:Nat)(Q:AExit->St->Prop)(s:St):fG id Q .ret s=Q .ret s:=_root_.id rfl
theorem Lt (m0:Nat)(Q:AExit->St->Prop)(s:St):vc P G m0 .skip Q s=Q .norm s:=_root_.id rfl
theorem PT (m0:Nat)(l:List AOper)(keep:List Nat)(Q:AExit->St->Prop)(s:St):vc P G m0 (.ops l keep) Q s=dO P G l (rY Q keep) s:=_root_.id rfl
theorem Lv (m0:Nat)(A:List (List Nat))(l l2:List AOper)(keep:List Nat)(Q:AExit->St->Prop)(s:St):vc P G m0 (.draw A l l2 keep) Q s=vcD P G A (dO P G l2 (rY Q keep)) l [] s:=_root_.id rfl
theorem OC (F:St->Prop)(e:List (Nat×AV))(σ:List (Nat×Blk))(n:Nat)(d:Option Nat)(g:Option (Bool×Nat))(x:AX):lk P G F ⟨e,σ,n⟩ d (.fz g x)=aM (KR G (fun r=>lookB r σ) g (evE e x)) (xL F ⟨e,σ,n⟩ d):=by
 rw[<- jl e σ n];rfl
theorem PR (m0:Nat)(a b:ACode)(Q:AExit->St->Prop)(s:St):vc P G m0 (.seq a b) Q s=vc P G m0 a (Kf (vc P G m0 b Q) Q) s:=_root_.id rfl
theorem Lw (m0:Nat)(x:AX)(a b:ACode)(Q:AExit->St->Prop)(e:List (Nat×AV))(σ:List (Nat×Blk))(n:Nat):vc P G m0 (.cond x a b) Q ⟨e,σ,n⟩=oJ (evE e x) (vc P G m0 a Q) (vc P G m0 b Q) ⟨e,σ,n⟩:=by
 rw[<- jl e σ n];rfl
theorem Gg (m0 id:Nat)(b:ACode)(Q:AExit->St->Prop)(s:St):vc P G m0 (.block id b) Q s=vc P G m0 b (fG id Q) s:=_root_.id rfl
theorem Lu (m0 id:Nat)(Q:AExit->St->Prop)(s:St):vc P G m0 (.exit id) Q s=Q (.exit id) s:=_root_.id rfl
theorem PS (m0:Nat)(Q:AExit->St->Prop)(s:St):vc P G m0 .ret Q s=Q .ret s:=_root_.id rfl
theorem H0 (b:Bool)(F H:St->Prop)(s:St):oJ (.pv (.bool b)) F H s=ifB b F H s:=by cases b<;>rfl
theorem Uo (F H:St->Prop)(s:St):ifB true F H s=F s:=_root_.id rfl
theorem Up (F H:St->Prop)(s:St):ifB false F H s=H s:=_root_.id rfl
theorem fu {b:Bool}{F H:St->Prop}{s:St}(h1:b=true->F s)(h2:b=false->H s):ifB b F H s:=by
 cases b
 ·exact h2 rfl
 ·exact h1 rfl
def QE (G:Nat->List PV)(e:List (Nat×AV))(σ:List (Nat×Blk)):ARes->Option AV
 | .tmp t=>some (look t e)
 | .cell t g sz=>eD G g sz (fun r=>lookB r σ) (look t e)
theorem Hb (e:List (Nat×AV))(σ:List (Nat×Blk))(t:Nat):QE G e σ (.tmp t)=some (look t e):=_root_.id rfl
theorem BG (e:List (Nat×AV))(σ:List (Nat×Blk))(t:Nat)(g:Bool)(sz:Nat):QE G e σ (.cell t g sz)=eD G g sz (fun r=>lookB r σ) (look t e):=_root_.id rfl
theorem Kj (res:List ARes)(R:AV->List (Nat×Blk)->Nat->Prop)(s:St):FnK G res R .norm s=aM (fm G s res) (Ky R s):=_root_.id rfl
theorem Pq (res:List ARes)(R:AV->List (Nat×Blk)->Nat->Prop)(s:St):FnK G res R .ret s=aM (fm G s res) (Ky R s):=_root_.id rfl
theorem MZ (R:AV->List (Nat×Blk)->Nat->Prop)(e:List (Nat×AV))(σ:List (Nat×Blk))(n:Nat)(l:List AV):Ky R ⟨e,σ,n⟩ l=R (Ao l) σ n:=_root_.id rfl
theorem QA (x:AV):Ao [x]=x:=_root_.id rfl
theorem QB:Ao [] = .pv (.tup []):=_root_.id rfl
theorem Qz (x y:AV)(r:List AV):Ao (x::y::r)=oO (x::y::r):=_root_.id rfl
def RM:Option AV->Option (List AV)->Option (List AV)
 | some a,some b=>some (a::b)
 | _,_=>none
theorem zr (a:AV)(b:List AV):RM (some a) (some b)=some (a::b):=_root_.id rfl
theorem BF (s:St):fm G s []=some []:=_root_.id rfl
theorem wR (e:List (Nat×AV))(σ:List (Nat×Blk))(n:Nat)(r:ARes)(q:List ARes):fm G ⟨e,σ,n⟩ (r::q)=RM (QE G e σ r) (fm G ⟨e,σ,n⟩ q):=by
 have:QD G ⟨e,σ,n⟩ r=QE G e σ r:=by cases r<;>rfl
 show (match QD G ⟨e,σ,n⟩ r,fm G ⟨e,σ,n⟩ q with | some a,some b=>some (a::b) | _,_=>none)=_
 rw[this]
 cases QE G e σ r<;>cases fm G ⟨e,σ,n⟩ q<;>rfl
theorem HM (r:PV)(v:AV)(σ:List (Nat×Blk))(n:Nat):QL r v σ n=isR r σ v:=_root_.id rfl
theorem Rh (r p:PV)(σ:List (Nat×Blk)):isR r σ (.pv p)=Nz p r:=propext ⟨fun ⟨q,h,g⟩=>by cases h;exact g,fun h=>⟨(p,[]),rfl,h⟩⟩
theorem Dy (r:PV)(k sz:Nat)(l:List PV)(σ:List (Nat×Blk)):isR r σ (.olist k sz l)=Nz (.list l) r:=propext ⟨fun ⟨q,h,g⟩=>by cases h;exact g,fun h=>⟨(.list l,[]),rfl,h⟩⟩
def Rj (r:PV):Option (PV×List Nat)->Prop
 | some q=>Nz q.1 r
 | none=>False
theorem DA (r p:PV)(l:List Nat):Rj r (some (p,l))=Nz p r:=_root_.id rfl
theorem Dz (r:PV)(σ:List (Nat×Blk))(v:AV):isR r σ v=Rj r (sQ (fun r=>lookB r σ) v):=by
 unfold isR Rj
 cases sQ (fun r=>lookB r σ) v with
 | none=>simp
 | some q=>simp
theorem N7 (r:PV)(cs:List AV)(σ:List (Nat×Blk)):isR r σ (.agg cs)=Rj r ((F0 (fun r=>lookB r σ) cs).map fun p=>(.agg p.1,p.2)):=Dz _ _ _
theorem N6 (r:PV)(k sz len:Nat)(σ:List (Nat×Blk)):isR r σ (.row k sz 0 len)=Rj r (On sz len k (lookB k σ)):=Dz _ _ _
def yE:List AV->Nat->List (Nat×AV)
 | [],_=>[]
 | x::r,k=>(k,x)::yE r (k+1)
theorem DD (k:Nat):yE [] k=[]:=_root_.id rfl
theorem yD (x:AV)(r:List AV)(k:Nat):yE (x::r) k=(k,x)::yE r (k+1):=_root_.id rfl
theorem DC:∀ (args:List AV) (k:Nat),((args.zipIdx k).map fun p=>(p.2,p.1))=yE args k
 | [],k=>rfl
 | x::r,k=>by rw[List.zipIdx_cons,Xq,DC r (k+1)];rfl
theorem yz (args:List AV):dC args=yE args 0:=DC args 0
theorem TS {ι:Type}(S:ι->St)(Inv:ι->Prop)(μ:ι->Nat)(x0:ι){m0:Nat}{keep:List Nat}{b:ACode}{Q:AExit->St->Prop}{s:St}(h0:Wk m0 s (S x0))(hi:Inv x0)
  (h:∀ x,Inv x->vc P G m0 b (fun e s'=>match e with
   | .norm=>∃ x',Wk m0 s' (S x')/\Inv x'/\μ x'<μ x
   | .exit i=>Q (.exit i) s'
   | .ret=>Q .ret s') (S x)):vc P G m0 (.loop keep b) Q s:=by
 refine⟨fun n s=>∃ x,s=S x/\Inv x/\μ x=n,⟨μ x0,S x0,h0,x0,rfl,hi,rfl⟩,?_⟩
 rintro n s ⟨x,rfl,hx,rfl⟩
 refine dg b (fun e s' hs=>?_) _ (h x hx)
 cases e with
 | norm=>
   obtain⟨x',h1,h2,h3⟩:=hs
   exact⟨_,_,h3,h1,x',rfl,h2,rfl⟩
 | exit i=>exact⟨s',Wk.of (Wx.refl s') m0,hs⟩
 | ret=>exact hs
def Hd (A:List (Nat×Nat×Nat×Nat))(m0:Nat)(keep:List Nat)(s t:St):Prop:=Wk m0 s t
theorem aJ {A:List (Nat×Nat×Nat×Nat)}{m0:Nat}{keep:List Nat}{s t:St}(h:StZ (cR A m0 keep s) t):Hd A m0 keep s t:=Wk.head h
def mD {ι:Type}(A:List (Nat×Nat×Nat×Nat))(S:ι->St)(Inv:ι->Prop)(μ:ι->Nat)(x:ι)(m0:Nat)(keep:List Nat)(Q:AExit->St->Prop):AExit->St->Prop
 | .norm,s'=>∃ x',Hd A m0 keep s' (S x')/\Inv x'/\μ x'<μ x
 | .exit i,s'=>Q (.exit i) s'
 | .ret,s'=>Q .ret s'
theorem tH {ι:Type}(A:List (Nat×Nat×Nat×Nat))(S:ι->St)(Inv:ι->Prop)(μ:ι->Nat)(x:ι)(m0:Nat)(keep:List Nat)(Q:AExit->St->Prop)(s:St):mD A S Inv μ x m0 keep Q .norm s = ∃ x',Hd A m0 keep s (S x')/\Inv x'/\μ x'<μ x:=_root_.id rfl
theorem tI {ι:Type}(A:List (Nat×Nat×Nat×Nat))(S:ι->St)(Inv:ι->Prop)(μ:ι->Nat)(x:ι)(m0:Nat)(keep:List Nat)(Q:AExit->St->Prop)(i:Nat)(s:St):mD A S Inv μ x m0 keep Q (.exit i) s=Q (.exit i) s:=_root_.id rfl
theorem Ak {ι:Type}(A:List (Nat×Nat×Nat×Nat))(S:ι->St)(Inv:ι->Prop)(μ:ι->Nat)(x:ι)(m0:Nat)(keep:List Nat)(Q:AExit->St->Prop)(s:St):mD A S Inv μ x m0 keep Q .ret s=Q .ret s:=_root_.id rfl
theorem AP {ι:Type}(A:List (Nat×Nat×Nat×Nat))(S:ι->St)(Inv:ι->Prop)(μ:ι->Nat)(x0:ι){m0:Nat}{keep:List Nat}{b:ACode}{Q:AExit->St->Prop}{s:St}(h0:Hd A m0 keep s (S x0))(hi:Inv x0)
  (h:∀ x,Inv x->vc P G m0 b (mD A S Inv μ x m0 keep Q) (S x)):vc P G m0 (.loop keep b) Q s:=by
 refine TS S Inv μ x0 h0 hi fun x hx=>?_
 have e:(fun (e:AExit) (s':St)=>match e with
   | .norm=>∃ x',Wk m0 s' (S x')/\Inv x'/\μ x'<μ x
   | .exit i=>Q (.exit i) s'
   | .ret=>Q .ret s')=mD A S Inv μ x m0 keep Q:=by
  funext e s'
  cases e<;>rfl
 rw[e];exact h x hx
def xx (k:Nat)(x:AV):List (Nat×AV)->AV
 | []=>x
 | p::r=>if p.1=k then p.2 else xx k x r
def ef:List (Nat×AV)->List (Nat×AV)->List (Nat×AV)
 | [],_=>[]
 | p::r,ch=>(p.1,xx p.1 p.2 ch)::ef r ch
def xz (k:Nat)(x:Blk):List (Nat×Blk)->Blk
 | []=>x
 | p::r=>if p.1=k then p.2 else xz k x r
def fa:List (Nat×Blk)->List (Nat×Blk)->List (Nat×Blk)
 | [],_=>[]
 | p::r,ch=>(p.1,xz p.1 p.2 ch)::fa r ch
theorem Ct (k:Nat)(x:AV):xx k x []=x:=_root_.id rfl
theorem xw (k j:Nat)(x y:AV)(r:List (Nat×AV)):xx k x ((j,y)::r)=if j=k then y else xx k x r:=_root_.id rfl
theorem Cy (ch:List (Nat×AV)):ef [] ch=[]:=_root_.id rfl
theorem xC (k:Nat)(x:AV)(r ch:List (Nat×AV)):ef ((k,x)::r) ch=(k,xx k x ch)::ef r ch:=_root_.id rfl
theorem Cu (k:Nat)(x:Blk):xz k x []=x:=_root_.id rfl
theorem xy (k j:Nat)(x y:Blk)(r:List (Nat×Blk)):xz k x ((j,y)::r)=if j=k then y else xz k x r:=_root_.id rfl
theorem Cz (ch:List (Nat×Blk)):fa [] ch=[]:=_root_.id rfl
theorem xD (k:Nat)(x:Blk)(r ch:List (Nat×Blk)):fa ((k,x)::r) ch=(k,xz k x ch)::fa r ch:=_root_.id rfl
theorem au {ι:Type}(A:List (Nat×Nat×Nat×Nat))(ch:ι->List (Nat×AV))(chB:ι->List (Nat×Blk))(Inv:ι->Prop)(μ:ι->Nat)(x0:ι){m0:Nat}{keep:List Nat}{b:ACode}{Q:AExit->St->Prop}{s:St}
  (h:∀ e0 σ0 n0,cR A m0 keep s=⟨e0,σ0,n0⟩->StZ ⟨e0,σ0,n0⟩ ⟨ef e0 (ch x0),fa σ0 (chB x0),n0⟩/\Inv x0 /\
   ∀ x,Inv x->vc P G m0 b (mD A (fun x=>⟨ef e0 (ch x),fa σ0 (chB x),n0⟩) Inv μ x m0 keep Q) ⟨ef e0 (ch x),fa σ0 (chB x),n0⟩):vc P G m0 (.loop keep b) Q s:=by
 obtain⟨h1,h2,h3⟩:=h (cR A m0 keep s).env (cR A m0 keep s).sto (cR A m0 keep s).next rfl
 exact AP A (fun x=>⟨ef (cR A m0 keep s).env (ch x),fa (cR A m0 keep s).sto (chB x),(cR A m0 keep s).next⟩) Inv μ x0 (aJ h1) h2 h3
end
theorem Hm (k k':IntKind)(x y:Int):Nd (.pv (.int k x)) (.pv (.int k' y))=some (.pv (.int k (min x y))):=by
 simp only[Nd,WX,AV.pv.injEq,PV.int.injEq,true_and]
 split<;>omega
theorem Hn (k k':IntKind)(x y:Int):Nf (.pv (.int k x)) (.pv (.int k' y))=some (.pv (.int k (max x y))):=by
 simp only[Nf,WX,AV.pv.injEq,PV.int.injEq,true_and]
 split<;>omega
theorem wq (a:Nat)(b:Int):(min (a:Int) b).toNat=min a b.toNat:=by omega
theorem qZ (a:Nat)(b:Int):(min b (a:Int)).toNat=min b.toNat a:=by omega
theorem nX {α:Type}(l:List α)(n:Nat):l.take (min l.length n)=l.take n:=by
 rcases Nat.le_total l.length n with h | h
 ·rw[Nat.min_eq_left h,List.take_length,WY h]
 ·rw[Nat.min_eq_right h]
theorem A5 {α:Type}(l:List α)(n:Nat):l.take (min n l.length)=l.take n:=by rw[Nat.min_comm,nX]
theorem map_take {α β:Type}(f:α->β)(l:List α)(n:Nat):(l.map f).take n=(l.take n).map f:=List.map_take.symm
theorem map_drop {α β:Type}(f:α->β)(l:List α)(n:Nat):(l.map f).drop n=(l.drop n).map f:=List.map_drop.symm
theorem CG {α β:Type}(f:α->β):(none:Option α).map f=none:=_root_.id rfl
def fB (mu:Bool)(e sz by_ new:Nat)(σ:aw)(x:AV):Option (List PV)->Option (AV×List (Nat×Blk))
 | some ys=>match mu,x with
   | false,.pv .nils=>match ys with
     | []=>some (.pv .nils,[])
     | y::r=>if lP 0 (r.length+1) by_=true then some (.olist new sz (y::r),[(new,.tok e sz)]) else none
   | false,.olist q s l=>match σ q with
     | .tok e' sz'=>if e'=e/\sz'=sz/\s=sz/\lP l.length ys.length by_=true then some (.olist new sz (l++ys),[(q,.none),(new,.tok e sz)]) else none
     | _=>none
   | true,.pv .nils=>match ys with
     | []=>some (.pv .nils,[])
     | y::r=>if lP 0 (r.length+1) by_=true then some (.row new sz 0 (r.length+1),[(new,.cells e false (cw (y::r)))]) else none
   | true,.row q s off len=>match σ q with
     | .cells e' _ l=>if e'=e/\s=sz/\off=0/\len*sz<=l.length/\lP len ys.length by_=true then some (.row new sz 0 (len+ys.length),[(q,.none),(new,.cells e false (l.take (len*sz)++cw ys))]) else none
     | _=>none
   | _,_=>none
 | none=>none
def J3 (e sz by_ new q s:Nat)(l ys:List PV):Blk->Option (AV×List (Nat×Blk))
 | .tok e' sz'=>if e'=e/\sz'=sz/\s=sz/\lP l.length ys.length by_=true then some (.olist new sz (l++ys),[(q,.none),(new,.tok e sz)]) else none
 | _=>none
def Ae (e sz by_ new q s off len:Nat)(ys:List PV):Blk->Option (AV×List (Nat×Blk))
 | .cells e' _ l=>if e'=e/\s=sz/\off=0/\len*sz<=l.length/\lP len ys.length by_=true then some (.row new sz 0 (len+ys.length),[(q,.none),(new,.cells e false (l.take (len*sz)++cw ys))]) else none
 | _=>none
theorem xq (mu:Bool)(e sz by_ new:Nat)(σ:aw)(x y:AV):dZ mu e sz by_ new σ x y=fB mu e sz by_ new σ x (bp σ sz y):=by
 unfold dZ fB
 cases bp σ sz y<;>rfl
theorem Sz (e sz by_ new:Nat)(σ:aw)(q s:Nat)(l ys:List PV):fB false e sz by_ new σ (.olist q s l) (some ys)=J3 e sz by_ new q s l ys (σ q):=by
 simp only[fB,J3]
theorem J2 {e sz by_ new q:Nat}{l ys:List PV}(h1:l.length+ys.length<=9223372036854775807)(h2:(l.length+ys.length)*by_<=140737488355328):J3 e sz by_ new q sz l ys (.tok e sz)=some (.olist new sz (l++ys),[(q,.none),(new,.tok e sz)]):=by
 simp[J3,gr h1 h2]
theorem J0 (e sz by_ new:Nat)(σ:aw):fB false e sz by_ new σ (.pv .nils) (some [])=some (.pv .nils,[]):=_root_.id rfl
theorem JZ {e sz by_ new:Nat}{σ:aw}{y:PV}{r:List PV}(h1:r.length+1<=9223372036854775807)(h2:(r.length+1)*by_<=140737488355328):fB false e sz by_ new σ (.pv .nils) (some (y::r))=some (.olist new sz (y::r),[(new,.tok e sz)]):=by
 simp only[fB];rw[if_pos (gr (by omega) (by simpa using h2))]
theorem O9 (e sz by_ new:Nat)(σ:aw)(q s off len:Nat)(ys:List PV):fB true e sz by_ new σ (.row q s off len) (some ys)=Ae e sz by_ new q s off len ys (σ q):=by
 simp only[fB,Ae]
theorem J1 {e sz by_ new q len:Nat}{f:Bool}{l:List AV}{ys:List PV}(h0:len*sz<=l.length)(h1:len+ys.length<=9223372036854775807)(h2:(len+ys.length)*by_<=140737488355328) :
  Ae e sz by_ new q sz 0 len ys (.cells e f l)=some (.row new sz 0 (len+ys.length),[(q,.none),(new,.cells e false (l.take (len*sz)++cw ys))]):=by
 simp[Ae,h0,gr h1 h2]
theorem Ad {e sz by_ new q:Nat}{f:Bool}{l:List AV}{ys:List PV}(h1:ys.length<=9223372036854775807)(h2:ys.length*by_<=140737488355328) :
  Ae e sz by_ new q sz 0 0 ys (.cells e f l)=some (.row new sz 0 ys.length,[(q,.none),(new,.cells e false (cw ys))]):=by
 have:=gr (n:=0) (m:=ys.length) (by_:=by_) (by omega) (by simpa using h2)
 simp[Ae,this]
def uS (l:List PV):Bool->Option (List PV)
 | true=>some l
 | false=>none
theorem yX (σ:aw)(sz:Nat):bp σ sz (.pv .nils)=some []:=_root_.id rfl
theorem yY (σ:aw)(sz:Nat)(l:List PV):bp σ sz (.pv (.list l))=uS l (l.all fun y=>y.cells.length == sz):=by
 simp only[bp]
 cases l.all (fun y=>y.cells.length == sz)<;>rfl
theorem yZ (l:List PV):uS l true=some l:=_root_.id rfl
theorem sX (σ:aw)(sz r:Nat)(l:List PV):bp σ sz (.olist r sz l)=some l:=by simp[bp]
def Sp (e sz new:Nat):Option (List PV)->Option (AV×List (Nat×Blk))
 | some ps=>if ps.all (fun p=>p.cells.length == sz&&p.cells.all PV.one)=true then some (.olist new sz ps,[(new,.tok e sz)]) else none
 | none=>none
theorem UX {e sz len new:Nat}{vs:List AV}(h:vs.length=len)(h2:len<=9223372036854775807):dx false e sz len new vs=Sp e sz new (pvs vs):=by
 simp only[dx,h,h2,true_and,if_true,Sp]
 cases pvs vs<;>rfl
def V0 (e sz new:Nat)(ps:List PV):Bool->Option (AV×List (Nat×Blk))
 | true=>some (.olist new sz ps,[(new,.tok e sz)])
 | false=>none
theorem So (e sz new:Nat)(ps:List PV):V0 e sz new ps true=some (.olist new sz ps,[(new,.tok e sz)]):=_root_.id rfl
theorem E8 (e sz new:Nat)(ps:List PV):Sp e sz new (some ps)=V0 e sz new ps (ps.all fun p=>p.cells.length == sz&&p.cells.all PV.one):=by
 simp only[Sp]
 cases ps.all (fun p=>p.cells.length == sz&&p.cells.all PV.one)<;>rfl
theorem E9 (e sz new:Nat):Sp e sz new none=none:=_root_.id rfl
theorem Sn {e sz new:Nat}:dx true e sz 0 new []=some (.row new sz 0 0,[(new,.cells e true [])]):=by
 simp[dx]
theorem bu (b:Bool):PV.one (.bool b)=true:=_root_.id rfl
theorem bQ (k:IntKind)(n:Int):PV.one (.int k n)=true:=_root_.id rfl
theorem bP (s:List UInt8):PV.one (.str s)=true:=_root_.id rfl
theorem HW:PV.one .nils=true:=_root_.id rfl
theorem bq (l:List PV):PV.one (.list l)=true:=_root_.id rfl
theorem Nu (p:PV):AV.one (.pv p)=p.one:=_root_.id rfl
theorem HY (r o:Nat):AV.one (.ptr r o)=true:=_root_.id rfl
theorem HX (r s o n:Nat):AV.one (.row r s o n)=true:=_root_.id rfl
theorem xF (r s:Nat)(l:List PV):AV.one (.olist r s l)=true:=_root_.id rfl
theorem HZ (f:Nat)(a b:List AV):AV.one (.clo f a b)=true:=_root_.id rfl
def rW (sz:Nat)(l:List PV)(h:Nat):Option Nat->Option AV
 | some a=>if Pv sz l a=true then some (.pv (.list ((l.take h).drop a))) else none
 | none=>none
def oI (sz:Nat)(l:List PV)(lo:Option AV):Option Nat->Option AV
 | some h=>rW sz l h (bm 0 h lo)
 | none=>none
theorem oq (sz:Nat)(l:List PV)(lo hi:Option AV):dw sz (.pv (.list l)) lo hi=oI sz l lo (bm l.length l.length hi):=by
 show KB sz l lo hi=_
 unfold KB oI rW
 cases bm l.length l.length hi with
 | none=>rfl
 | some h=>simp only;cases bm 0 h lo<;>rfl
theorem mR (sz r s:Nat)(l:List PV)(lo hi:Option AV):dw sz (.olist r s l) lo hi=oI sz l lo (bm l.length l.length hi):=by
 show KB sz l lo hi=_
 unfold KB oI rW
 cases bm l.length l.length hi with
 | none=>rfl
 | some h=>simp only;cases bm 0 h lo<;>rfl
theorem rV (sz:Nat)(l:List PV)(lo:Option AV)(h:Nat):oI sz l lo (some h)=rW sz l h (bm 0 h lo):=_root_.id rfl
theorem xH (sz:Nat)(l:List PV)(h:Nat):rW sz l h (some 0)=some (.pv (.list (l.take h))):=by
 simp[rW,Pv]
theorem xI {sz:Nat}{l:List PV}{h a:Nat}(hs:Pv sz l a=true):rW sz l h (some a)=some (.pv (.list ((l.take h).drop a))):=if_pos hs
theorem xG (sz:Nat)(l:List PV)(i:Nat)(y:PV):j6 sz l i (some y)=if y.cells.length=sz then some (.pv (.eptr l i 0)) else none:=_root_.id rfl
theorem J5 {α β:Type}(f:α->β)(p:β->Bool)(l:List α):(l.map f).all p=l.all fun x=>p (f x):=by
 rw[List.all_map];rfl
theorem SA {α:Type}(l:List α):(l.all fun _=>true)=true:=by simp
theorem Sv (n:Nat):(n == n)=true:=by simp
def Ra (sz:Nat)(e:PV):Bool->Option AV
 | true=>some (.pv e)
 | false=>dy true sz 0 (e.cells.map .pv)
theorem NV (sz:Nat)(e:PV):Ra sz e true=some (.pv e):=_root_.id rfl
theorem Iy (sz:Nat)(e:PV):lr true sz 0 e=Ra sz e (e.isAgg&&decide (e.cells.length=sz)):=by
 simp only[lr,true_and]
 by_cases h:e.isAgg=true/\e.cells.length=sz
 ·rw[if_pos h,h.1,decide_eq_true h.2];rfl
 ·rw[if_neg h]
  have:(e.isAgg&&decide (e.cells.length=sz))=false:=by
   rw[Bool.eq_false_iff]
   intro hh
   simp only[Xk,decide_eq_true_eq] at hh
   exact h hh
  rw[this];rfl
theorem DB (cs:List PV):(PV.agg cs).isAgg=true:=_root_.id rfl
theorem dc {α:Type}{sz:Nat}{f:α->PV}(hf:∀ x,(f x).cells.length=sz){l:List α}{i o:Nat}{x:α}(hx:l[i]? = some x)(ho:o<sz):(cw (l.map f))[i*sz+o]? = ((f x).cells[o]?).map .pv:=by
 have:=jA (sz:=sz) (j:=o) ho ((l.map f).map PV.cells) i (by
  intro y hy
  simp only[Xp] at hy
  obtain⟨p,⟨s,_,rfl⟩,rfl⟩:=hy
  exact hf s)
 have e:cw (l.map f)=(((l.map f).map PV.cells).flatten).map .pv:=by simp[cw,List.flatMap_def]
 rw[e,Xd,this]
 simp[hx]
theorem dV {α:Type}{sz:Nat}{f:α->PV}(hf:∀ x,(f x).cells.length=sz)(l:List α):(cw (l.map f)).length=l.length*sz:=by
 have:=gV (sz:=sz) ((l.map f).map PV.cells) (by
  intro y hy
  simp only[Xp] at hy
  obtain⟨p,⟨s,_,rfl⟩,rfl⟩:=hy
  exact hf s)
 simp only[cw,XB,List.flatMap_def] at this ⊢
 exact this
theorem py {α:Type}{sz:Nat}{f:α->PV}(hf:∀ x,(f x).cells.length=sz){l:List α}{i o:Nat}{x y:α}{p:PV}(hx:l[i]? = some x)(ho:o<sz)(hy:(f y).cells=(f x).cells.set o p) :
  (cw (l.map f)).take (i*sz+o)++[.pv p]++(cw (l.map f)).drop (i*sz+o+1)=cw ((l.set i y).map f):=by
 have hlen:=dV hf l
 have hi:i<l.length:=(WU.1 hx).1
 have hb:i*sz+o<l.length*sz:=pn hi ho
 have hset:∀ (L:List AV) (k:Nat) (z:AV),k<L.length->L.take k++[z]++L.drop (k+1)=L.set k z:=by
  intro L k z hk
  rw[List.set_eq_take_append_cons_drop,if_pos hk]
  simp
 rw[hset _ _ _ (by omega)]
 apply List.ext_getElem?
 intro j
 by_cases hj:j<l.length*sz
 ·have hsz:0<sz:=by omega
  have hq:j / sz<l.length:=Nat.div_lt_of_lt_mul (by rw[Nat.mul_comm];exact hj)
  have hr:j % sz<sz:=Nat.mod_lt _ hsz
  have hj':j=j / sz*sz+j % sz:=by rw[Nat.mul_comm];exact (Nat.div_add_mod j sz).symm
  generalize j / sz=a at *
  generalize j % sz=b at *
  subst hj'
  obtain⟨z,hz⟩:∃ z,l[a]? = some z:=⟨_,WT hq⟩
  by_cases ha:a=i
  ·subst ha
   rw[hx] at hz;cases hz
   have hz':(l.set a y)[a]? = some y:=by rw[List.getElem?_set_self hq]
   rw[dc hf hz' hr,hy]
   by_cases hb':b=o
   ·subst hb'
    rw[List.getElem?_set_self (by omega),List.getElem?_set_self (by rw[hf];exact ho)];rfl
   ·rw[List.getElem?_set_ne (by omega),dc hf hx hr,List.getElem?_set_ne (by omega)]
  ·have hz':(l.set i y)[a]? = some z:=by rw[List.getElem?_set_ne (by omega)];exact hz
   rw[dc hf hz' hr]
   have hne:i*sz+o≠a*sz+b:=by
    intro he
    rcases XF a i with h | h
    ·have:(a+1)*sz<=i*sz:=W8 _ h
     rw[XZ] at this;omega
    ·have:(i+1)*sz<=a*sz:=W8 _ (by omega)
     rw[XZ] at this;omega
   rw[List.getElem?_set_ne hne,dc hf hz hr]
 ·rw[X0 (by rw[List.length_set,hlen];omega),X0 (by rw[dV hf];simp;omega)]
def fzO (σ:aw):Option AV->Option (AV×List (Nat×Blk))
 | some v=>(sQ σ v).map KO
 | none=>none
theorem Rs (G:Nat->List PV)(σ:aw)(v:AV):KR G σ none v=(sQ σ v).map KO:=_root_.id rfl
theorem Rt (G:Nat->List PV)(σ:aw)(g:Bool)(sz:Nat)(v:AV):KR G σ (some (g,sz)) v=fzO σ (eD G g sz σ v):=by
 simp only[KR,fzO];cases eD G g sz σ v<;>rfl
theorem Jb (σ:aw)(v:AV):fzO σ (some v)=(sQ σ v).map KO:=_root_.id rfl
theorem Jd (σ:aw)(cs:List AV):sQ σ (.agg cs)=(F0 σ cs).map fun p=>(.agg p.1,p.2):=_root_.id rfl
theorem Oi (σ:aw)(p:PV):sQ σ (.pv p)=some (p,[]):=_root_.id rfl
theorem Oj (σ:aw)(r s:Nat)(l:List PV):sQ σ (.olist r s l)=some (.list l,[]):=_root_.id rfl
theorem Jc (σ:aw)(r s n:Nat):sQ σ (.row r s 0 n)=On s n r (σ r):=_root_.id rfl
theorem Ol (σ:aw)(p:PV):KP σ (.pv p)=some (p,[]):=_root_.id rfl
theorem Om (σ:aw)(r s:Nat)(l:List PV):KP σ (.olist r s l)=some (.list l,[]):=_root_.id rfl
theorem Jg (σ:aw)(r s n:Nat):KP σ (.row r s 0 n)=On s n r (σ r):=_root_.id rfl
theorem Je (σ:aw):F0 σ []=some ([],[]):=_root_.id rfl
theorem DS (σ:aw)(x:AV)(r:List AV):F0 σ (x::r)=TF (KP σ x) (F0 σ r):=_root_.id rfl
theorem DT (p:PV)(a:List Nat)(q:List PV)(b:List Nat):TF (some (p,a)) (some (q,b))=some (p::q,a++b):=_root_.id rfl
theorem Ok (p:PV)(l:List Nat):KO (p,l)=(.pv p,l.map fun r=>(r,.none)):=_root_.id rfl
theorem Jh {α:Type}{sz:Nat}{f:α->PV}(hf:∀ x,∃ cs,f x = .agg cs/\cs.length=sz/\∀ p∈cs,p.one=true)(hsz:2<=sz)(l:List α){n r T:Nat}{b:Bool}(hn:n=l.length) :
  On sz n r (.cells T b (cw (l.map f)))=some (.list (l.map f),[r]):=by
 have hlen:=dV (sz:=sz) (f:=f) (fun x=>by obtain⟨cs,h1,h2,_⟩:=hf x;rw[h1];exact h2) l
 subst hn
 have hone:(cw (l.map f)).all AV.one=true:=by
  rw[Xb]
  intro x hx
  simp only[cw,Xp,List.mem_flatMap] at hx
  obtain⟨p,⟨q,⟨s,_,rfl⟩,hq⟩,rfl⟩:=hx
  obtain⟨cs,h1,h2,h3⟩:=hf s
  rw[h1] at hq
  exact h3 p hq
 have hpv:pvs (cw (l.map f))=some ((l.map f).flatMap PV.cells):=fq _
 have hch:∀ l:List α,iL sz l.length ((l.map f).flatMap PV.cells)=l.map f:=by
  intro l
  induction l with
  | nil=>rfl
  | cons x r ih=>
    obtain⟨cs,h1,h2,_⟩:=hf x
    simp only[Xa,iL,Xq,X4,h1,ae]
    rw[if_neg (by omega),List.take_left' h2,List.drop_left' h2,ih]
 simp only[On]
 rw[if_pos ⟨by omega,by omega,by rw[WY (by omega)];exact hone⟩,WY (by omega),hpv]
 simp[hch]
theorem Ih (p:PV):(AV.pv p).names=[]:=_root_.id rfl
theorem CP (r o:Nat):(AV.ptr r o).names=[r]:=_root_.id rfl
theorem CO (r a b c:Nat):(AV.row r a b c).names=[r]:=_root_.id rfl
theorem Ii (r a:Nat)(l:List PV):(AV.olist r a l).names=[r]:=_root_.id rfl
theorem CS (cs:List AV):(AV.agg cs).names=AV.namesL cs:=by simp only[AV.names]
theorem CN (cs:List AV):(AV.tup cs).names=AV.namesL cs:=by simp only[AV.names]
theorem CQ (f:Nat)(fs cs:List AV):(AV.clo f fs cs).names=AV.namesL fs++AV.namesL cs:=by simp only[AV.names]
theorem CR:AV.any.names=[]:=_root_.id rfl
theorem xN:AV.namesL []=[]:=_root_.id rfl
theorem j9 (x:AV)(r:List AV):AV.namesL (x::r)=x.names++AV.namesL r:=by simp only[AV.namesL]
theorem j8:∀ l:List PV,AV.namesL (l.map .pv)=[]
 | []=>rfl
 | x::r=>by rw[Xq,j9,j8 r];rfl
theorem rZ (l:List PV):AV.namesL (cw l)=[]:=j8 _
theorem oM (T:Nat)(f:Bool)(l:List AV):(Blk.cells T f l).names=AV.namesL l:=_root_.id rfl
theorem xO (e s:Nat):(Blk.tok e s).names=[]:=_root_.id rfl
theorem r5:Blk.none.names=[]:=_root_.id rfl
theorem J7 (acc:List Nat):bU acc []=acc:=_root_.id rfl
def Pi (acc:List Nat)(n:Nat):Bool->List Nat
 | true=>acc
 | false=>acc++[n]
theorem i7 (x:Nat):∀ l:List Nat,l.contains x=uw x l
 | []=>rfl
 | y::r=>by
   rw[List.contains_cons,i7 x r,oR]
   by_cases h:y=x
   ·simp[h]
   ·have h':¬ x=y:=fun e=>h e.symm
    simp[h,h']
theorem Fp (acc:List Nat)(n:Nat)(r:List Nat):bU acc (n::r)=bU (Pi acc n (uw n acc)) r:=by
 simp only[bU,i7]
 cases uw n acc<;>rfl
theorem Pg (acc:List Nat)(n:Nat):Pi acc n true=acc:=_root_.id rfl
theorem Ph (acc:List Nat)(n:Nat):Pi acc n false=acc++[n]:=_root_.id rfl
def geN (m0:Nat):List Nat->List Nat
 | []=>[]
 | x::r=>if m0<=x then x::geN m0 r else geN m0 r
theorem Oe (m0:Nat):geN m0 []=[]:=_root_.id rfl
theorem uD (m0 x:Nat)(r:List Nat):geN m0 (x::r)=if m0<=x then x::geN m0 r else geN m0 r:=_root_.id rfl
theorem DR (m0:Nat):∀ l:List Nat,l.filter (fun r=>decide (m0<=r))=geN m0 l
 | []=>rfl
 | x::r=>by rw[List.filter_cons,DR m0 r,uD];simp
def dW (sto:List (Nat×Blk)):List Nat->List Nat
 | []=>[]
 | r::q=>(lookB r sto).names++dW sto q
theorem p5 (sto:List (Nat×Blk)):dW sto []=[]:=_root_.id rfl
theorem hH (sto:List (Nat×Blk))(r:Nat)(q:List Nat):dW sto (r::q)=(lookB r sto).names++dW sto q:=_root_.id rfl
theorem gB (sto:List (Nat×Blk)):∀ l:List Nat,(l.flatMap fun r=>(lookB r sto).names)=dW sto l
 | []=>rfl
 | r::q=>by rw[X4,gB sto q,hH]
theorem M8 (m0:Nat)(sto:List (Nat×Blk))(acc:List Nat):fZ m0 sto 0 acc=acc:=_root_.id rfl
theorem M7 (m0:Nat)(sto:List (Nat×Blk))(k:Nat)(acc:List Nat):fZ m0 sto (k+1) acc=fZ m0 sto k (bU acc (geN m0 (dW sto acc))):=by
 rw[<- DR,<- gB];rfl
def eO (e:List (Nat×AV)):List Nat->List Nat
 | []=>[]
 | k::r=>(look k e).names++eO e r
theorem pH (e:List (Nat×AV)):eO e []=[]:=_root_.id rfl
theorem nw (e:List (Nat×AV))(k:Nat)(r:List Nat):eO e (k::r)=(look k e).names++eO e r:=_root_.id rfl
theorem kB (e:List (Nat×AV))(σ:List (Nat×Blk))(n:Nat):∀ l:List Nat,(l.flatMap fun i=>((⟨e,σ,n⟩:St).E i).names)=eO e l
 | []=>rfl
 | k::r=>by rw[X4,kB e σ n r];rfl
def BC:Nat->Nat->List Nat
 | 0,_=>[]
 | n+1,k=>k::BC n (k+1)
theorem Uc (k:Nat):BC 0 k=[]:=_root_.id rfl
theorem Qy (n k:Nat):BC (n+1) k=k::BC n (k+1):=_root_.id rfl
theorem BB:∀ n k:Nat,BC n k=List.range' k n
 | 0,k=>rfl
 | n+1,k=>by rw[Qy,BB n,List.range'_succ]
theorem Kx (n:Nat):List.range n=BC n 0:=by rw[BB,List.range_eq_range']
theorem Nx (m0:Nat)(keep:List Nat)(e:List (Nat×AV))(σ:List (Nat×Blk))(n:Nat):QT m0 keep ⟨e,σ,n⟩=fZ m0 σ σ.length (bU [] (geN m0 (eO e keep++dW σ (BC m0 0)))):=by
 rw[<- DR,<- kB e σ n,<- gB,<- Kx];rfl
def oL (f:Nat->Option Nat)(e:List (Nat×AV)):List Nat->List (Nat×AV)
 | []=>[]
 | k::r=>(k,(look k e).ren f)::oL f e r
theorem CJ (f:Nat->Option Nat)(e:List (Nat×AV)):oL f e []=[]:=_root_.id rfl
theorem xJ (f:Nat->Option Nat)(e:List (Nat×AV))(k:Nat)(r:List Nat):oL f e (k::r)=(k,(look k e).ren f)::oL f e r:=_root_.id rfl
def CI (m0:Nat)(keep:List Nat)(e:List (Nat×AV))(σ:List (Nat×Blk))(os:List Nat):St:=⟨oL (d6 m0 os) e keep,eY m0 (d6 m0 os) σ (BC m0 0++os) 0,m0+os.length⟩
theorem NF (m0:Nat)(keep:List Nat)(e:List (Nat×AV))(σ:List (Nat×Blk))(n:Nat):norm m0 keep ⟨e,σ,n⟩=CI m0 keep e σ (fZ m0 σ σ.length (bU [] (geN m0 (eO e keep++dW σ (BC m0 0))))):=by
 rw[<- Nx m0 keep e σ n]
 have hE:∀ (f:Nat->Option Nat) (l:List Nat),(l.map fun i=>(i,((⟨e,σ,n⟩:St).E i).ren f))=oL f e l:=by
  intro f l
  induction l with
  | nil=>rfl
  | cons k r ih=>rw[Xq,ih];rfl
 simp only[norm,CI,hE,Kx]
theorem NH (m0:Nat)(keep:List Nat)(e:List (Nat×AV))(σ:List (Nat×Blk))(x:Nat)(r:List Nat):CI m0 keep e σ (x::r)=⟨oL (d6 m0 (x::r)) e keep,eY m0 (d6 m0 (x::r)) σ (BC m0 0++(x::r)) 0,m0+(x::r).length⟩:=_root_.id rfl
theorem NG (m0:Nat)(keep:List Nat)(e:List (Nat×AV))(σ:List (Nat×Blk)):CI m0 keep e σ []=⟨oL (d6 m0 []) e keep,eY m0 (d6 m0 []) σ (BC m0 0) 0,m0⟩:=by
 simp only[CI,Xc];rfl
theorem wS (m0:Nat)(f:Nat->Option Nat)(σ:List (Nat×Blk))(k:Nat):eY m0 f σ [] k=[]:=_root_.id rfl
theorem rz (m0:Nat)(f:Nat->Option Nat)(σ:List (Nat×Blk))(r:Nat)(q:List Nat)(k:Nat):eY m0 f σ (r::q) k=(k,(lookB r σ).ren f)::eY m0 f σ q (k+1):=_root_.id rfl
theorem xM (m0:Nat)(os:List Nat)(r:Nat):d6 m0 os r=if r<m0 then some r else IT r os m0:=_root_.id rfl
theorem IS (x k:Nat):IT x [] k=none:=_root_.id rfl
theorem DH (x y:Nat)(r:List Nat)(k:Nat):IT x (y::r) k=if y=x then some k else IT x r (k+1):=_root_.id rfl
def Ue (o:Nat):Option Nat->AV
 | some q=>.ptr q o
 | none=>.any
def Ud (a b c:Nat):Option Nat->AV
 | some q=>.row q a b c
 | none=>.any
def Uf (a:Nat)(l:List PV):Option Nat->AV
 | some q=>.olist q a l
 | none=>.pv (.list l)
theorem Kz (f:Nat->Option Nat)(p:PV):(AV.pv p).ren f = .pv p:=by simp only[AV.ren]
theorem M4 (f:Nat->Option Nat):AV.any.ren f = .any:=by simp only[AV.ren]
theorem M2 (f:Nat->Option Nat)(r o:Nat):(AV.ptr r o).ren f=Ue o (f r):=by simp only[AV.ren,Ue]<;>(cases f r<;>rfl)
theorem M1 (f:Nat->Option Nat)(r a b c:Nat):(AV.row r a b c).ren f=Ud a b c (f r):=by simp only[AV.ren,Ud]<;>(cases f r<;>rfl)
theorem QF (f:Nat->Option Nat)(r a:Nat)(l:List PV):(AV.olist r a l).ren f=Uf a l (f r):=by simp only[AV.ren,Uf]<;>(cases f r<;>rfl)
theorem M5 (f:Nat->Option Nat)(cs:List AV):(AV.agg cs).ren f = .agg (AV.renL f cs):=by simp only[AV.ren]
theorem M0 (f:Nat->Option Nat)(cs:List AV):(AV.tup cs).ren f = .tup (AV.renL f cs):=by simp only[AV.ren]
theorem M3 (f:Nat->Option Nat)(g:Nat)(fs cs:List AV):(AV.clo g fs cs).ren f = .clo g (AV.renL f fs) (AV.renL f cs):=by simp only[AV.ren]
theorem BI (o q:Nat):Ue o (some q) = .ptr q o:=_root_.id rfl
theorem BH (a b c q:Nat):Ud a b c (some q) = .row q a b c:=_root_.id rfl
theorem BJ (a:Nat)(l:List PV)(q:Nat):Uf a l (some q) = .olist q a l:=_root_.id rfl
theorem Hc (f:Nat->Option Nat):AV.renL f []=[]:=_root_.id rfl
theorem oh (f:Nat->Option Nat)(x:AV)(r:List AV):AV.renL f (x::r)=x.ren f::AV.renL f r:=by simp only[AV.renL]
theorem rA (f:Nat->Option Nat):∀ l:List PV,AV.renL f (l.map .pv)=l.map .pv
 | []=>rfl
 | x::r=>by rw[Xq,oh,rA f r,Kz]
theorem BL (f:Nat->Option Nat)(l:List PV):AV.renL f (cw l)=cw l:=rA f _
theorem wT (f:Nat->Option Nat)(T:Nat)(b:Bool)(l:List AV):(Blk.cells T b l).ren f = .cells T b (AV.renL f l):=_root_.id rfl
theorem He (f:Nat->Option Nat)(e s:Nat):(Blk.tok e s).ren f = .tok e s:=_root_.id rfl
theorem BM (f:Nat->Option Nat):Blk.none.ren f = .none:=_root_.id rfl
theorem H3 (A:List (Nat×Nat×Nat×Nat))(m0:Nat)(keep:List Nat)(s:St):cR A m0 keep s=norm m0 keep (J9 A s):=_root_.id rfl
theorem J8 (s:St):J9 [] s=s:=_root_.id rfl
theorem Fq (k e sz:Nat)(r:List (Nat×Nat×Nat×Nat))(env:List (Nat×AV))(σ:List (Nat×Blk))(n:Nat):J9 ((k,0,e,sz)::r) ⟨env,σ,n⟩=J9 r (Pm k e sz ⟨env,σ,n⟩ (look k env)):=_root_.id rfl
theorem Fr (k j e sz:Nat)(r:List (Nat×Nat×Nat×Nat))(env:List (Nat×AV))(σ:List (Nat×Blk))(n:Nat):J9 ((k,j+1,e,sz)::r) ⟨env,σ,n⟩=J9 r (SO j e sz ⟨env,σ,n⟩ (look k env)):=_root_.id rfl
theorem Fu (k e sz:Nat)(env:List (Nat×AV))(σ:List (Nat×Blk))(n:Nat):Pm k e sz ⟨env,σ,n⟩ (.pv .nils)=⟨(k,iA n e sz)::env,(n,dk e sz)::σ,n+1⟩:=_root_.id rfl
theorem Kd (k e sz r a b c:Nat)(s:St):Pm k e sz s (.row r a b c)=s:=_root_.id rfl
theorem NJ {n e sz:Nat}(h:e<1000000):iA n e sz = .olist n sz []:=if_pos h
theorem NI {n e sz:Nat}(h:1000000<=e):iA n e sz = .row n sz 0 0:=if_neg (Nat.not_lt.2 h)
theorem H6 {e sz:Nat}(h:e<1000000):dk e sz = .tok e sz:=if_pos h
theorem H5 {e sz:Nat}(h:1000000<=e):dk e sz = .cells (e - 1000000) false []:=if_neg (Nat.not_lt.2 h)
theorem Pk (k e sz r a:Nat)(l:List PV)(s:St):Pm k e sz s (.olist r a l)=s:=_root_.id rfl
theorem Kb (o e sz r b:Nat)(env:List (Nat×AV))(σ:List (Nat×Blk))(n:Nat):SO o e sz ⟨env,σ,n⟩ (.ptr r b)=accB r (b+o) e sz ⟨env,σ,n⟩ (lookB r σ):=_root_.id rfl
theorem Ah (r o e sz T:Nat)(f:Bool)(l:List AV)(s:St):accB r o e sz s (.cells T f l)=PI r T f l o e sz s l[o]?:=_root_.id rfl
theorem Ft (r T:Nat)(f:Bool)(l:List AV)(o e sz:Nat)(env:List (Nat×AV))(σ:List (Nat×Blk))(n:Nat):PI r T f l o e sz ⟨env,σ,n⟩ (some (.pv .nils))=⟨env,(r,.cells T f (l.set o (iA n e sz)))::(n,dk e sz)::σ,n+1⟩:=_root_.id rfl
theorem Kc (r T:Nat)(f:Bool)(l:List AV)(o e sz:Nat)(s:St)(q a b c:Nat):PI r T f l o e sz s (some (.row q a b c))=s:=_root_.id rfl
theorem Pj (r T:Nat)(f:Bool)(l:List AV)(o e sz:Nat)(s:St)(q a:Nat)(k:List PV):PI r T f l o e sz s (some (.olist q a k))=s:=_root_.id rfl
theorem V5 {α:Type}(x y:α)(r:List α):(x::r).set 0 y=y::r:=_root_.id rfl
theorem V4 {α:Type}(x y:α)(r:List α)(n:Nat):(x::r).set (n+1) y=x::r.set n y:=_root_.id rfl
theorem TU (e e':List (Nat×AV))(σ σ':List (Nat×Blk))(n n':Nat):(St.mk e σ n=St.mk e' σ' n')=(e=e'/\σ=σ'/\n=n'):=by rw[St.mk.injEq]
theorem RE {a b:Nat}(h:a<b):decide (a<b)=true:=decide_eq_true h
theorem RF {a b:Nat}(h:¬ a<b):decide (a<b)=false:=decide_eq_false h
theorem RG {a b:Nat}(h:a<=b):decide (a<=b)=true:=decide_eq_true h
theorem RH {a b:Nat}(h:¬ a<=b):decide (a<=b)=false:=decide_eq_false h
theorem RI {a b:Nat}(h:a=b):decide (a=b)=true:=decide_eq_true h
theorem RJ {a b:Nat}(h:¬ a=b):decide (a=b)=false:=decide_eq_false h
theorem aE {α:Type}{l:List α}{m:Nat}{x:α}(h:l[m]? = some x):l.take (m+1)=l.take m++[x]:=by
 obtain⟨h1,h2⟩:=WU.1 h
 rw[List.take_succ_eq_append_getElem h1,h2]
def Rr (cells:List AV)(off sz:Nat)(r:List (Nat×Nat×AV))(xc:List AV):Bool->Option (List AV)
 | true=>gy (cells.take off++xc++cells.drop (off+sz)) r
 | false=>none
theorem Ov (cells:List AV)(off sz:Nat)(r:List (Nat×Nat×AV))(xc:List AV):Rr cells off sz r xc true=gy (cells.take off++xc++cells.drop (off+sz)) r:=_root_.id rfl
theorem Ed (cells:List AV):gy cells []=some cells:=_root_.id rfl
theorem yO (cells:List AV)(off sz:Nat)(x:AV)(r:List (Nat×Nat×AV)):gy cells ((off,sz,x)::r)=Rr cells off sz r x.cells (x.known&&decide (x.cells.length=sz)&&decide (off+sz<=cells.length)):=by
 simp only[gy]
 by_cases h:x.known=true/\x.cells.length=sz/\off+sz<=cells.length
 ·rw[if_pos h,h.1,decide_eq_true h.2.1,decide_eq_true h.2.2];rfl
 ·rw[if_neg h]
  have:(x.known&&decide (x.cells.length=sz)&&decide (off+sz<=cells.length))=false:=by
   rw[Bool.eq_false_iff]
   intro hh
   simp only[Xk,decide_eq_true_eq] at hh
   exact h ⟨hh.1.1,hh.1.2,hh.2⟩
  rw[this];rfl
theorem HS (sz off:Nat)(cs:List AV):QO sz off cs=if off+sz<=cs.length then some (jh ((cs.drop off).take sz)) else none:=_root_.id rfl
section
variable {P:Program}{G:Nat->List PV}
def qj {ι:Type}(A:List (Nat×Nat×Nat×Nat))(S:ι->St)(Inv:ι->Prop)(μ:ι->Nat)(x:ι)(m0:Nat)(keep:List Nat)(id:Nat)(keepX:List Nat)(fin:ι->Prop)(Q:AExit->St->Prop):AExit->St->Prop
 | .norm,s'=>∃ x',Hd A m0 keep s' (S x')/\Inv x'/\μ x'<μ x
 | .exit i,s'=>if i=id then ∃ x',fin x'/\norm m0 keepX s'=norm m0 keepX (S x') else Q (.exit i) s'
 | .ret,s'=>Q .ret s'
theorem tD {ι:Type}(A:List (Nat×Nat×Nat×Nat))(S:ι->St)(Inv:ι->Prop)(μ:ι->Nat)(x:ι)(m0:Nat)(keep:List Nat)(id:Nat)(keepX:List Nat)(fin:ι->Prop)(Q:AExit->St->Prop)(s:St):qj A S Inv μ x m0 keep id keepX fin Q .norm s = ∃ x',Hd A m0 keep s (S x')/\Inv x'/\μ x'<μ x:=_root_.id rfl
theorem tE {ι:Type}(A:List (Nat×Nat×Nat×Nat))(S:ι->St)(Inv:ι->Prop)(μ:ι->Nat)(x:ι)(m0:Nat)(keep:List Nat)(id:Nat)(keepX:List Nat)(fin:ι->Prop)(Q:AExit->St->Prop)(i:Nat)(s:St):qj A S Inv μ x m0 keep id keepX fin Q (.exit i) s=if i=id then (∃ x',fin x'/\norm m0 keepX s=norm m0 keepX (S x')) else Q (.exit i) s:=_root_.id rfl
theorem Ai {ι:Type}(A:List (Nat×Nat×Nat×Nat))(S:ι->St)(Inv:ι->Prop)(μ:ι->Nat)(x:ι)(m0:Nat)(keep:List Nat)(id:Nat)(keepX:List Nat)(fin:ι->Prop)(Q:AExit->St->Prop)(s:St):qj A S Inv μ x m0 keep id keepX fin Q .ret s=Q .ret s:=_root_.id rfl
theorem dY {ι:Type}(A:List (Nat×Nat×Nat×Nat))(ch:ι->List (Nat×AV))(chB:ι->List (Nat×Blk))(Inv:ι->Prop)(μ:ι->Nat)(x0:ι)(keepX:List Nat)(fin:ι->Prop){m0 id:Nat}{keep:List Nat}{b:ACode}{F:St->Prop}{Q:AExit->St->Prop}{s:St}
  (h:∀ e0 σ0 n0,cR A m0 keep s=⟨e0,σ0,n0⟩->StZ ⟨e0,σ0,n0⟩ ⟨ef e0 (ch x0),fa σ0 (chB x0),n0⟩/\Inv x0 /\
   (∀ x,Inv x->vc P G m0 b (qj A (fun x=>⟨ef e0 (ch x),fa σ0 (chB x),n0⟩) Inv μ x m0 keep id keepX fin Q) ⟨ef e0 (ch x),fa σ0 (chB x),n0⟩) /\
   ∀ x,fin x->∀ s1,norm m0 keepX ⟨ef e0 (ch x),fa σ0 (chB x),n0⟩=s1->F s1):vc P G m0 (.loop keep b) (fG id (Kf F Q)) s:=by
 obtain⟨h1,h2,h3,h4⟩:=h (cR A m0 keep s).env (cR A m0 keep s).sto (cR A m0 keep s).next rfl
 refine⟨fun n s'=>∃ x,s'=⟨ef (cR A m0 keep s).env (ch x),fa (cR A m0 keep s).sto (chB x),(cR A m0 keep s).next⟩/\Inv x/\μ x=n,⟨μ x0,_,Wk.head (A:=A) (keep:=keep) h1,x0,rfl,h2,rfl⟩,?_⟩
 rintro n s' ⟨x,rfl,hx,rfl⟩
 refine dg b (fun e s' hs=>?_) _ (h3 x hx)
 cases e with
 | norm=>
   obtain⟨x',k1,k2,k3⟩:=hs
   exact⟨_,_,k3,k1,x',rfl,k2,rfl⟩
 | exit i=>
   simp only[qj] at hs
   split at hs
   ·rename_i hi
    obtain⟨x',k1,k2⟩:=hs
    refine⟨norm m0 keepX s',Wk.norm m0 keepX s',?_⟩
    simp only[fG,if_pos hi,Kf]
    exact h4 x' k1 _ k2.symm
   ·rename_i hi
    refine⟨s',Wk.of (Wx.refl s') m0,?_⟩
    simp only[fG,if_neg hi,Kf]
    exact hs
 | ret=>exact hs
end
def Kap.cut (κ:Kap)(k:Nat):Kap:=⟨κ.w,fun r=>if r<k then κ.nm r else none,κ.imm⟩
theorem Kap.cut_ext (κ:Kap)(k:Nat):Ext (κ.cut k) κ:=by
 refine⟨fun _ _ h=>h,fun _ _ _ _ h=>h,fun r d h=>?_,fun _ _ h _=>h⟩
 simp only[Kap.cut] at h
 split at h
 ·exact h
 ·cases h
theorem Kap.cut_none (κ:Kap)(k r:Nat)(h:k<=r):(κ.cut k).nm r=none:=by simp only[Kap.cut];rw[if_neg (by omega)]
def qo (P:Program)(G:Nat->List PV)(k:Nat)(f:Nat)(args:List AV)(sto:List (Nat×Blk))(next:Nat)(Q:AV->List (Nat×Blk)->Nat->Prop):Prop:=
 cq P f=true/\∀ (κ:Kap) (vals:Array Value),SRel (cJ κ (fun r=>lookB r sto) G) κ (fun r=>lookB r sto)->(∀ r,next<=r->κ.nm r=none)->vals.size=args.length ->
  (∀ (i:Nat) (x:AV),args[i]? = some x->ARel κ x (vals.getD i Go.undef)) ->
  Calls P f vals κ.w fun e w'=>∃ u v κ' sto' next',e = .returned u/\κ'.w=w'/\Ext (κ.cut k) κ'/\Left (cJ κ (fun r=>lookB r sto) G) κ.imm κ'/\ARel κ' v u /\
   SRel (cJ κ (fun r=>lookB r sto) G) κ' (fun r=>lookB r sto')/\(∀ r,next'<=r->κ'.nm r=none)/\Q v sto' next'
section
variable {P:Program}{G:Nat->List PV}
theorem qo.of_code {muts:List Nat}{k f:Nat}{fn:AFn}{args:List AV}{sto:List (Nat×Blk)}{next:Nat}{R:AV->List (Nat×Blk)->Nat->Prop}(hc:cFn P muts f=some fn)(hn:args.length<=fn.N)
  (hv:vc P G k fn.body (FnK G fn.res R) ⟨dC args,sto,next⟩):qo P G k f args sto next R:=by
 unfold cFn at hc
 split at hc
 ·rename_i fnc hfn
  split at hc
  ·rename_i co hco
   split at hc
   ·rename_i rs hrs
    split at hc
    ·rename_i hok
     split at hc
     ·rename_i b li hb
      cases hc
      refine⟨hok,fun κ vals hS hf hsz hargs=>?_⟩
      refine callsIn_wide.1 (callsIn_of_wp_marks (n:=0) hfn hco trivial ?_ rfl)
      let c:=cJ κ (fun r=>lookB r sto) G
      have hsize:(vals++X3 (fnc.ntmps - vals.size) Go.undef).size=fnc.ntmps:=by
       simp only at hn
       simp only[Array.size_append,Array.size_replicate];omega
      have hR:Rel c (κ.cut k) fnc.ntmps ⟨dC args,sto,next⟩ ⟨vals++X3 (fnc.ntmps - vals.size) Go.undef,[]⟩ κ.w κ:=by
       refine⟨rfl,κ.cut_ext k,hS,⟨rfl,rfl,rfl,Xi _,fun _ _ _=>rfl,fun _ _ h=>.inl h⟩,fun i=>?_,hsize,dM.nil _ _,hf⟩
       show ARel κ (look i ((args.zipIdx 0).map fun p=>(p.2,p.1))) _
       rw[ke,if_pos (XY _),Nat.sub_zero]
       cases hx:args[i]? with
       | none=>exact .any _
       | some x=>
         have hi:i<vals.size:=by rw[hsz];exact (WU.1 hx).1
         have:=hargs i x hx
         have e:(vals++X3 (fnc.ntmps - vals.size) Go.undef).getD i Go.undef=vals.getD i Go.undef:=by
          simp only[W4]
          rw[Array.getElem?_append_left hi]
         rw[e];exact this
      refine Go.wpIn_mono (tL (P:=P) (N:=fnc.ntmps) co c (κ.cut k) k none 0 b [] (io rs) li (FnK G rs R) _ _ κ.w κ (.inl rfl) (fun r hr=>κ.cut_none k r hr) (Xi _) hb hR hv) ?_
      have fin:∀ (s:St) (κ':Kap) (a:Act) (w:World),Rel c (κ.cut k) fnc.ntmps s a w κ'->aM (fm G s rs) (Ky R s)->∃ v,(results fnc a.tmps).run P w = .ok v w /\
        ∃ u v' κ'' sto' next',Ending.returned v = .returned u/\κ''.w=w/\Ext (κ.cut k) κ''/\Left c κ.imm κ''/\ARel κ'' v' u/\SRel c κ'' (fun r=>lookB r sto')/\(∀ r,next'<=r->κ''.nm r=none)/\R v' sto' next':=by
       intro s κ' a w hR hF
       simp only[aM] at hF
       split at hF
       ·rename_i vs hvs
        obtain⟨us,h1,h2,h3⟩:=jW (P:=P) hR fnc.results.toList rs vs hrs hvs
        have hrun:(results fnc a.tmps).run P w = .ok (if h:us.toArray.size=1 then us.toArray[0] else .tuple us.toArray) w:=by
         rw[lQ,Sem.run_bind,Array.mapM_eq_mapM_toList]
         simp only[Sem.run_bind,Sem.run_map]
         rw[h1]
         simp
        refine⟨_,hrun,_,Ao vs,κ',s.sto,s.next,rfl,hR.w_eq,hR.ext0,hR.left,?_,hR.rel,hR.fresh,hF⟩
        by_cases hl:vs.length=1
        ·obtain⟨v,rfl⟩:=List.length_eq_one_iff.1 hl
         obtain⟨u,rfl⟩:=List.length_eq_one_iff.1 (h2.trans hl)
         have:=h3 0 v rfl
         exact this
        ·have hul:¬ us.toArray.size=1:=by simpa[h2] using hl
         rw[dif_neg hul]
         have hrv:Ao vs=oO vs:=by
          unfold Ao
          split
          ·simp at hl
          ·rfl
         rw[hrv]
         exact oN (.tup _ _ (by simpa using h2) (fun i x hx=>by rw[aD];simpa using h3 i x hx))
       ·exact hF.elim
      intro e a w hq
      cases e with
      | normal=>
        obtain⟨s,κ',hR,hF⟩:=hq
        exact gR (Xi _) rfl hR fun w' κ'' hR'=>fin s κ'' ⟨a.tmps,[]⟩ w' hR' hF
      | ret=>
        obtain⟨s,κ',hR,hF⟩:=hq
        exact gR (Xi _) rfl hR fun w' κ'' hR'=>fin s κ'' ⟨a.tmps,[]⟩ w' hR' hF
      | exit id=>
        obtain⟨s,κ',hR,hF⟩:=hq
        exact hF.elim
      | goto l=>exact hq.elim
      | panic ch=>exact hq.elim
      | outgrown=>exact hq.elim
     ·cases hc
    ·cases hc
   ·cases hc
  ·cases hc
 ·cases hc
def dd:List Blk->Nat->List (Nat×Blk)
 | [],_=>[]
 | b::r,k=>(k,b)::dd r (k+1)
theorem l0:∀ (bs:List Blk) (k i:Nat),lookB i (dd bs k)=if k<=i then bs.getD (i - k) .none else .none
 | [],k,i=>by simp[dd,lookB]
 | b::r,k,i=>by
   simp only[dd,lookB]
   by_cases h:k=i
   ·subst h;simp
   ·rw[if_neg h,l0 r (k+1) i]
    by_cases hk:k<=i
    ·rw[if_pos (by omega),if_pos hk,show i - k=(i - (k+1))+1 by omega];simp
    ·rw[if_neg (by omega),if_neg hk]
theorem gw (bs:List Blk):(fun r=>lookB r (dd bs 0))=fun r=>bs.getD r .none:=by
 funext r;rw[l0];simp
def bz (P:Program)(G:Nat->List PV)(k f:Nat)(args:List AV)(bs:List Blk)(v:AV)(bs':List Blk):Prop:=
 qo P G k f args (dd bs 0) bs.length fun v' sto' next'=>v'=v/\sto'=dd bs' 0/\next'=bs'.length
def IB (k:Nat)(v:AV)(bs':List Blk)(v':AV)(sto':List (Nat×Blk))(next':Nat):Prop:=
 Wk k ⟨[(0,v')],sto',next'⟩ ⟨[(0,v)],dd bs' 0,bs'.length⟩
theorem bz.of_lcalls {k f:Nat}{args:List AV}{bs:List Blk}{v:AV}{bs':List Blk}(h:qo P G k f args (dd bs 0) bs.length (IB k v bs')):bz P G k f args bs v bs':=by
 obtain⟨hcal,h⟩:=h
 refine⟨hcal,fun κ vals hS hf hsz hargs=>(h κ vals hS hf hsz hargs).mono ?_⟩
 rintro e w' ⟨u,v',κ',sto',next',rfl,rfl,he,hL,hv,hS',hf',hw⟩
 obtain⟨κ'',hR⟩:=hw _ (κ.cut k) κ' 1 ⟨#[u],[]⟩ κ'.w (fun r hr=>κ.cut_none k r hr) ⟨rfl,he,hS',hL,fun i=>by
  show ARel κ' (look i [(0,v')]) _
  by_cases hi:0=i
  ·subst hi;simpa[look] using hv
  ·simp only[look,if_neg hi];exact .any _,rfl,dM.nil _ _,hf'⟩
 refine⟨u,v,κ'',_,_,rfl,hR.w_eq,hR.ext0,hR.left,?_,hR.rel,hR.fresh,rfl,rfl,rfl⟩
 have:=hR.env 0
 simpa[St.E,look] using this
theorem bz.intro {muts:List Nat}{k f:Nat}{fn:AFn}{args:List AV}{bs:List Blk}{v:AV}{bs':List Blk}(hc:cFn P muts f=some fn)(hn:args.length<=fn.N)
  (hv:vc P G k fn.body (FnK G fn.res (IB k v bs')) ⟨dC args,dd bs 0,bs.length⟩):bz P G k f args bs v bs':=
 bz.of_lcalls (qo.of_code hc hn hv)
def gIn (next:Nat):List Nat->Nat->Nat
 | [],i=>next+i
 | r::_,0=>r
 | _::q,i+1=>gIn next q i
def gSo (next:Nat)(rs:List Nat)(r:Nat):Option Nat:=some (gIn next rs r)
theorem kq (next:Nat):∀ (rs:List Nat) (i:Nat) (r:Nat),rs[i]? = some r->gIn next rs i=r
 | [],i,r,h=>by simp at h
 | x::q,0,r,h=>by simpa[gIn] using h
 | x::q,i+1,r,h=>by simpa[gIn] using kq next q i r (by simpa using h)
theorem mb (next:Nat):∀ (rs:List Nat) (i:Nat),rs.length<=i->gIn next rs i=next+(i - rs.length)
 | [],i,h=>by simp[gIn]
 | x::q,0,h=>by simp at h
 | x::q,i+1,h=>by
   simp only[Xa] at h
   rw[gIn,mb next q i (by omega)]
   simp
mutual
theorem unren {κ κ':Kap}(hw:κ'.w=κ.w)(hi:κ'.imm=κ.imm){g:Nat->Nat}(hf:∀ r,κ'.nm r=κ.nm (g r)):∀ (x:AV) (v:Value),ARel κ (x.ren fun r=>some (g r)) v->ARel κ' x v
 | .pv p,v,h=>by
   simp only[AV.ren] at h
   cases h with
   | pv _ _ hp=>exact .pv _ _ (by rw[hw,hi];exact hp)
 | .any,v,h=>.any v
 | .ptr r o,v,h=>by
   simp only[AV.ren] at h
   cases h with
   | ptr _ _ b n hn=>exact .ptr _ _ b n (by rw[hf r];exact hn)
 | .row r a b c,v,h=>by
   simp only[AV.ren] at h
   cases h with
   | row _ _ _ _ bb n cap hn h1 h2 h3 h4=>exact .row _ _ _ _ bb n cap (by rw[hf r];exact hn) h1 h2 h3 h4
   | row0 _ _ hn=>exact .row0 _ _ (by rw[hf r];exact hn)
 | .olist r a l,v,h=>by
   simp only[AV.ren] at h
   cases h with
   | olist _ _ _ _ hn hp hs=>exact .olist _ _ _ _ (by rw[hf r];exact hn) (by rw[hw,hi];exact hp) hs
 | .mp r,v,h=>by
   simp only[AV.ren] at h
   cases h with
   | mp _ b hn=>exact .mp _ _ (by rw[hf r];exact hn)
 | .agg cs,v,h=>by
   simp only[AV.ren] at h
   cases h with
   | agg _ vs hl hr=>
     obtain⟨h1,h2⟩:=jK hw hi hf cs vs hr
     exact .agg _ _ (by rw[<- h1];exact hl) h2
 | .tup cs,v,h=>by
   simp only[AV.ren] at h
   cases h with
   | tup _ vs hl hr=>
     obtain⟨h1,h2⟩:=jK hw hi hf cs vs hr
     exact .tup _ _ (by rw[<- h1];exact hl) h2
 | .clo g fs cs,v,h=>by
   simp only[AV.ren] at h
   cases h with
   | clo _ _ _ vs us hl hr hl' hr'=>
     obtain⟨h1,h2⟩:=jK hw hi hf fs vs hr
     obtain⟨h3,h4⟩:=jK hw hi hf cs us hr'
     exact .clo _ _ _ _ _ (by rw[<- h1];exact hl) h2 (by rw[<- h3];exact hl') h4
theorem jK {κ κ':Kap}(hw:κ'.w=κ.w)(hi:κ'.imm=κ.imm){g:Nat->Nat}(hf:∀ r,κ'.nm r=κ.nm (g r)):∀ (xs:List AV) (vs:Array Value),
  (∀ (i:Nat) (x:AV),(AV.renL (fun r=>some (g r)) xs)[i]? = some x->ARel κ x (vs.getD i Go.undef))->(AV.renL (fun r=>some (g r)) xs).length=xs.length/\∀ (i:Nat) (x:AV),xs[i]? = some x->ARel κ' x (vs.getD i Go.undef)
 | [],vs,h=>by simp[AV.renL]
 | x::r,vs,h=>by
   have e:∀ i,(vs.extract 1 vs.size).getD i Go.undef=vs.getD (i+1) Go.undef:=by
    intro i
    simp only[W4,Array.getElem?_extract]
    by_cases hh:i<min vs.size vs.size - 1
    ·rw[if_pos hh];congr 2;omega
    ·rw[if_neg hh,Array.getElem?_eq_none (by omega)]
   obtain⟨h1,h2⟩:=jK hw hi hf r (vs.extract 1 vs.size) (fun i y hy=>by
    have:=h (i+1) y (by simpa[AV.renL] using hy)
    rw[e];exact this)
   refine⟨by simp[AV.renL,h1],fun i y hy=>?_⟩
   cases i with
   | zero=>
     simp only[Xw,WX] at hy
     subst hy
     exact unren hw hi hf x _ (h 0 _ (by simp[AV.renL]))
   | succ i=>
     simp only[List.getElem?_cons_succ] at hy
     have:=h2 i y hy
     rw[e] at this;exact this
end
theorem fc.unren {κ κ':Kap}(hw:κ'.w=κ.w)(hi:κ'.imm=κ.imm){g:Nat->Nat}(hf:∀ r,κ'.nm r=κ.nm (g r)){r:Nat}{B:Blk}(h:fc κ (g r) (B.ren fun r=>some (g r))):fc κ' r B:=by
 cases B with
 | none=>trivial
 | cells T f l=>
   simp only[Blk.ren] at h
   rcases h with ⟨h1,h2,h3⟩ | ⟨b,n,cs,h1,h2,h3,h4,h5,h6,h7⟩
   ·refine .inl ⟨h1,?_,by rw[hf];exact h3⟩
    cases l with
    | nil=>rfl
    | cons x r=>simp[AV.renL] at h2
   ·obtain⟨q1,q2⟩:=jK hw hi hf l cs h6
    exact .inr ⟨b,n,cs,by rw[hf];exact h1,by rw[hw];exact h2,h3,by rw[<- q1];exact h4,fun hb=>by rw[<- q1];exact h5 hb,q2,by rw[hi];exact h7⟩
 | tok e sz=>
   simp only[Blk.ren] at h
   rcases h with h | ⟨g',n,cap,cur,h1,h2,h3⟩
   ·exact .inl (by rw[hf];exact h)
   ·exact .inr ⟨g',n,cap,cur,by rw[hf];exact h1,by rw[hw];exact h2,by rw[hi];exact h3⟩
 | mp l=>
   obtain⟨b,es,ck,h1,h2⟩:=h
   exact⟨b,es,ck,by rw[hf];exact h1,by rw[hw,hi];exact h2⟩
 | bts e l=>
   obtain⟨b,n,cs,fz,h1,h2⟩:=h
   exact⟨b,n,cs,fz,by rw[hf];exact h1,by rw[hw,hi];exact h2⟩
theorem fc.ren {κ κ':Kap}(hw:κ'.w=κ.w)(hi:κ'.imm=κ.imm){g:Nat->Nat}(hf:∀ r,κ'.nm (g r)=κ.nm r){r:Nat}{B:Blk}(h:fc κ r B):fc κ' (g r) (B.ren fun r=>some (g r)):=by
 have hf':∀ r r',(fun r=>some (g r)) r=some r'->κ'.nm r'=κ.nm r:=fun r r' h=>by cases h;exact hf r
 cases B with
 | none=>trivial
 | cells T f l=>
   simp only[Blk.ren]
   rcases h with ⟨h1,h2,h3⟩ | ⟨b,n,cs,h1,h2,h3,h4,h5,h6,h7⟩
   ·exact .inl ⟨h1,by rw[h2];simp only[AV.renL],by rw[hf];exact h3⟩
   ·obtain⟨q1,q2⟩:=eC hw hi hf' l cs h6
    exact .inr ⟨b,n,cs,by rw[hf];exact h1,by rw[hw];exact h2,h3,by rw[q1];exact h4,fun hb=>by rw[q1];exact h5 hb,q2,by rw[hi];exact h7⟩
 | tok e sz=>
   simp only[Blk.ren]
   rcases h with h | ⟨g',n,cap,cur,h1,h2,h3⟩
   ·exact .inl (by rw[hf];exact h)
   ·exact .inr ⟨g',n,cap,cur,by rw[hf];exact h1,by rw[hw];exact h2,by rw[hi];exact h3⟩
 | mp l=>
   obtain⟨b,es,ck,h1,h2⟩:=h
   exact⟨b,es,ck,by rw[hf];exact h1,by rw[hw,hi];exact h2⟩
 | bts e l=>
   obtain⟨b,n,cs,fz,h1,h2⟩:=h
   exact⟨b,n,cs,fz,by rw[hf];exact h1,by rw[hw,hi];exact h2⟩
def mW (f:Nat->Option Nat):List Blk->Nat->(Nat->Nat)->List (Nat×Blk)
 | [],_,_=>[]
 | b::r,i,g=>(g i,b.ren f)::mW f r (i+1) g
def eJ:List Nat->List (Nat×Blk)
 | []=>[]
 | r::q=>(r,.none)::eJ q
def fD (sto:List (Nat×Blk))(f:Nat->Option Nat):List Nat->List Blk->Prop
 | [],[]=>True
 | r::rs,b::bs=>BlkZ (lookB r sto) (b.ren f)/\fD sto f rs bs
 | _,_=>False
theorem fD.get {sto:List (Nat×Blk)}{f:Nat->Option Nat}:∀ {rs:List Nat} {bs:List Blk},fD sto f rs bs->rs.length=bs.length/\∀ (i r:Nat) (b:Blk),rs[i]? = some r->bs[i]? = some b->BlkZ (lookB r sto) (b.ren f)
 | [],[],h=>⟨rfl,by simp⟩
 | r::rs,b::bs,h=>by
   obtain⟨h1,h2⟩:=h
   obtain⟨h3,h4⟩:=fD.get h2
   refine⟨by simp[h3],fun i q d hq hd=>?_⟩
   cases i with
   | zero=>simp at hq hd;subst hq;subst hd;exact h1
   | succ i=>exact h4 i q d (by simpa using hq) (by simpa using hd)
 | [],_::_,h=>h.elim
 | _::_,[],h=>h.elim
end
section
variable {P:Program}{G:Nat->List PV}
theorem fc.named {κ:Kap}{r:Nat}{B:Blk}(h:fc κ r B)(hB:B≠.none):∃ d,κ.nm r=some d:=by
 cases B with
 | none=>exact absurd rfl hB
 | cells T f l=>
   rcases h with ⟨_,_,h⟩ | ⟨b,n,cs,h,_⟩
   ·exact⟨_,h⟩
   ·exact⟨_,h⟩
 | tok e sz=>
   rcases h with h | ⟨g,n,cap,cur,h,_⟩
   ·exact⟨_,h⟩
   ·exact⟨_,h⟩
 | mp l=>
   obtain⟨b,es,ck,h,_⟩:=h
   exact⟨_,h⟩
 | bts e l=>
   obtain⟨b,n,cs,fz,h,_⟩:=h
   exact⟨_,h⟩
theorem Wf {f:Nat->Option Nat}{b:Blk}:b.ren f≠.none↔b≠.none:=by
 cases b<;>simp[Blk.ren]
theorem Og {next:Nat}{rs:List Nat}(hnd:rs.Nodup)(hlt:∀ r∈rs,r<next){i j:Nat}(h:gIn next rs i=gIn next rs j):i=j:=by
 by_cases hi:i<rs.length
 ·have ei:=kq next rs i _ (WT hi)
  have hi':=hlt _ (List.getElem_mem hi)
  by_cases hj:j<rs.length
  ·have ej:=kq next rs j _ (WT hj)
   rw[ei,ej] at h
   exact (List.getElem_inj hnd).1 h
  ·have ej:=mb next rs j (by omega)
   omega
 ·have ei:=mb next rs i (by omega)
  by_cases hj:j<rs.length
  ·have ej:=kq next rs j _ (WT hj)
   have hj':=hlt _ (List.getElem_mem hj)
   omega
  ·have ej:=mb next rs j (by omega)
   omega
theorem pg {f:Nat->Option Nat}{g:Nat->Nat}(hg:∀ i j,g i=g j->i=j)(rest:List (Nat×Blk))(r:Nat):∀ (bs:List Blk) (k:Nat),
  (∀ i b,bs[i]? = some b->g (k+i)=r->lookB r (mW f bs k g++rest)=b.ren f)/\((∀ i,i<bs.length->g (k+i)≠r)->lookB r (mW f bs k g++rest)=lookB r rest)
 | [],k=>⟨by simp,fun _=>rfl⟩
 | b::q,k=>by
   obtain⟨h1,h2⟩:=pg hg rest r q (k+1)
   refine⟨fun i b' hi hr=>?_,fun h=>?_⟩
   ·simp only[mW,XA,lookB]
    cases i with
    | zero=>
      simp only[Xw,WX] at hi
      subst hi
      rw[if_pos (by simpa using hr)]
    | succ i=>
      rw[if_neg (fun e=>by have:=hg _ _ (e.trans hr.symm);omega)]
      exact h1 i b' (by simpa using hi) (by rw[<- hr];congr 1;omega)
   ·simp only[mW,XA,lookB]
    rw[if_neg (by have:=h 0 (by simp);simpa using this)]
    exact h2 fun i hi=>by
     have:=h (i+1) (by simp;omega)
     rwa [show k+(i+1)=k+1+i by omega] at this
theorem lZ (rest:List (Nat×Blk))(r:Nat):∀ (l:List Nat),lookB r (eJ l++rest)=if r∈l then .none else lookB r rest
 | []=>by simp[eJ]
 | x::q=>by
   simp only[eJ,XA,lookB,lZ rest r q,List.mem_cons]
   by_cases h:x=r
   ·subst h;simp
   ·rw[if_neg h]
    by_cases hq:r∈q
    ·simp[hq]
    ·have:¬ (r=x\/r∈q):=by rintro (e | e);exact h e.symm;exact hq e
     rw[if_neg hq,if_neg this]
theorem bz.frame {k f:Nat}{args0:List AV}{bs:List Blk}{v:AV}{bs':List Blk}(h:bz P G k f args0 bs v bs'){rs:List Nat}{args:List AV}{sto:List (Nat×Blk)}{next:Nat}
  (hargs:AVzL args (AV.renL (gSo next rs) args0)) (hbs:fD sto (gSo next rs) rs bs) (hnd:rs.Nodup) (hlt:∀ r∈rs,r<next) (hk:k<=bs.length) (hk':k<=bs'.length) (hne:∀ b∈bs.take k,b≠.none) :
  cn P G f args sto next fun v' sto' next'=>v'=v.ren (gSo next (rs.take k))/\sto'=mW (gSo next (rs.take k)) bs' 0 (gIn next (rs.take k))++(eJ (rs.drop k)++sto)/\next'=next+(bs'.length - k):=by
 obtain⟨hcal,h⟩:=h
 refine⟨hcal,fun κ vals hS hf hsz hvals=>?_⟩
 obtain⟨hrl,hat⟩:=hbs.get
 let κ1:Kap:=⟨κ.w,fun i=>κ.nm (gIn next rs i),κ.imm⟩
 have hσ1:(fun r=>lookB r (dd bs 0))=fun r=>bs.getD r .none:=gw bs
 have hlook:∀ i b,bs[i]? = some b->∃ r,rs[i]? = some r/\gIn next rs i=r/\fc κ r (b.ren (gSo next rs))/\(b≠.none->lookB r sto≠.none):=by
  intro i b hb
  have hi:i<rs.length:=by rw[hrl];exact (WU.1 hb).1
  have hr:=WT hi
  obtain⟨q1,q2⟩:=(hat i _ b hr hb).rel (hS.blk rs[i])
  exact⟨rs[i],hr,kq next rs i _ hr,q1,fun hb'=>q2 (Wf.2 hb')⟩
 have hlive:∀ i,bs.getD i .none≠.none->∃ b,bs[i]? = some b/\b≠.none:=by
  intro i hi
  rw[WZ] at hi
  cases hb:bs[i]? with
  | none=>rw[hb] at hi;exact absurd rfl hi
  | some b=>rw[hb] at hi;exact⟨b,rfl,hi⟩
 have hB1:∀ i b,bs[i]? = some b->fc κ1 i b:=by
  intro i b hb
  obtain⟨r,hr,hgr,hB,_⟩:=hlook i b hb
  exact fc.unren (κ:=κ) (κ':=κ1) rfl rfl (g:=gIn next rs) (fun _=>rfl) (by rw[hgr];exact hB)
 have hl1:∀ b,(cJ κ1 (fun r=>lookB r (dd bs 0)) G).lent b->(cJ κ (fun r=>lookB r sto) G).lent b:=by
  rintro b ⟨i,d,h1,h2,h3⟩
  simp only[congrFun hσ1 i] at h1
  obtain⟨b',hb,hbn⟩:=hlive i h1
  obtain⟨r,hr,hgr,_,hn⟩:=hlook i b' hb
  exact⟨r,d,hn hbn,by rw[<- hgr];exact h2,h3⟩
 have hm1:∀ b,(cJ κ1 (fun r=>lookB r (dd bs 0)) G).mine b->(cJ κ (fun r=>lookB r sto) G).mine b:=fun b hb=>hb.elim .inl (fun h=>.inr (hl1 b h))
 have hS1:SRel (cJ κ1 (fun r=>lookB r (dd bs 0)) G) κ1 (fun r=>lookB r (dd bs 0)):=by
  refine⟨fun i=>?_,fun i j d d' b h1 h2 hij hd hd' hb=>?_,fun i d b h1 hd hb=>.inr ⟨i,d,h1,hd,hb⟩,hS.immLt,?_⟩
  ·rw[congrFun hσ1 i]
   show fc κ1 i (bs.getD i .none)
   rw[WZ]
   cases hb:bs[i]? with
   | none=>trivial
   | some b=>exact hB1 i b hb
  ·simp only[congrFun hσ1 i] at h1
   simp only[congrFun hσ1 j] at h2
   obtain⟨b1,hb1,hn1⟩:=hlive i h1
   obtain⟨b2,hb2,hn2⟩:=hlive j h2
   obtain⟨r,hr,hgr,_,hn⟩:=hlook i b1 hb1
   obtain⟨r',hr',hgr',_,hn'⟩:=hlook j b2 hb2
   refine hS.apart r r' d d' b (hn hn1) (hn' hn2) (fun e=>hij ?_) (by rw[<- hgr];exact hd) (by rw[<- hgr'];exact hd') hb
   obtain⟨hi,ei⟩:=WU.1 hr
   obtain⟨hj,ej⟩:=WU.1 hr'
   exact (List.getElem_inj hnd).1 (ei.trans (e.trans ej.symm))
  ·refine⟨fun g o p hp=>?_,fun g hg=>?_⟩
   ·exact hS.glob.1 g o p hp
   ·obtain⟨h1,h2,h3⟩:=hS.glob.2 g hg
    exact⟨h1,fun hl=>h2 (hl1 g hl),h3⟩
 have hf1:∀ r,bs.length<=r->κ1.nm r=none:=fun r hr=>by
  show κ.nm (gIn next rs r)=none
  rw[mb next rs r (by omega)]
  exact hf _ (by omega)
 have hlen0:args0.length=args.length:=by
  rw[hargs.length]
  have:∀ (f:Nat->Option Nat) (l:List AV),(AV.renL f l).length=l.length:=by
   intro f l
   induction l with
   | nil=>simp[AV.renL]
   | cons x r ih=>simp[AV.renL,ih]
  rw[this]
 have hv1:∀ (i:Nat) (x:AV),args0[i]? = some x->ARel κ1 x (vals.getD i Go.undef):=
  (jK (κ:=κ) (κ':=κ1) rfl rfl (g:=gIn next rs) (fun _=>rfl) args0 vals (fun i x hx=>by
   obtain⟨y,hy,hyx⟩:=hargs.get i x hx
   exact hyx.rel (hvals i y hy))).2
 refine (h κ1 vals hS1 hf1 (by omega) hv1).mono ?_
 rintro e w' ⟨u,v',κ1',sto',next',rfl,rfl,he,hL,hv,hS',hf',rfl,rfl,rfl⟩
 obtain⟨g,hgdef⟩:∃ g,g=gIn next (rs.take k):=⟨_,rfl⟩
 have htl:(rs.take k).length=k:=by rw[List.length_take];omega
 have hg1:∀ i,i<k->∃ r,rs[i]? = some r/\g i=r/\r<next:=by
  intro i hi
  have hi':i<rs.length:=by omega
  have hr:=WT hi'
  refine⟨rs[i],hr,?_,hlt _ (List.getElem_mem hi')⟩
  rw[hgdef]
  exact kq next _ i _ (by rw[List.getElem?_take,if_pos hi];exact hr)
 have hg2:∀ i,k<=i->g i=next+(i - k):=fun i hi=>by rw[hgdef,mb next _ i (by omega),htl]
 have hginj:∀ i j,g i=g j->i=j:=fun i j hij=>by
  rw[hgdef] at hij
  exact Og (hnd.sublist (List.take_sublist _ _)) (fun r hr=>hlt r (XL hr)) hij
 have hso:gSo next (rs.take k)=fun r=>some (g r):=by rw[hgdef];rfl
 rw[hso,<- hgdef]
 let κ':Kap:=⟨κ1'.w,fun r=>if r<next then κ.nm r else κ1'.nm (k+(r - next)),κ1'.imm⟩
 have hnmk:∀ i,i<k->κ1'.nm i=κ1.nm i:=by
  intro i hi
  have hib:i<bs.length:=by omega
  have hb:=WT hib
  obtain⟨d,hd⟩:=(hB1 i _ hb).named (hne _ (List.mem_take_iff_getElem.2 ⟨i,by omega,rfl⟩))
  rw[hd]
  exact he.nm i d (by simp only[Kap.cut];rw[if_pos hi];exact hd)
 have hnm':∀ i,κ'.nm (g i)=κ1'.nm i:=by
  intro i
  by_cases hi:i<k
  ·obtain⟨r,hr,hgr,hrn⟩:=hg1 i hi
   show (if g i<next then κ.nm (g i) else κ1'.nm (k+(g i - next)))=_
   rw[hgr,if_pos hrn,hnmk i hi]
   show κ.nm r=κ.nm (gIn next rs i)
   rw[kq next rs i r hr]
  ·show (if g i<next then κ.nm (g i) else κ1'.nm (k+(g i - next)))=_
   rw[hg2 i (by omega),if_neg (by omega)]
   congr 1;omega
 have hext:Ext κ κ':=⟨fun b o hi=>he.imm b o hi,fun b o v hi hc=>he.cell b o v hi hc,fun r d hd=>by
  have hr:r<next:=by
   rcases XF r next with h | h
   ·exact h
   ·rw[hf r h] at hd;cases hd
  show (if r<next then κ.nm r else _)=_
  rw[if_pos hr];exact hd,fun b o ho hc=>he.obj b o ho hc⟩
 have hout:∀ r d b,lookB r sto≠.none->r∉rs->κ.nm r=some d->d.block=some b->b<κ.w.heap.size/\¬ (cJ κ1 (fun r=>lookB r (dd bs 0)) G).lent b:=by
  intro r d b h1 h2 h3 h4
  refine⟨(hS.blk r).lt h1 h3 h4,?_⟩
  rintro⟨i,d',q1,q2,q3⟩
  simp only[congrFun hσ1 i] at q1
  obtain⟨b',hb,hbn⟩:=hlive i q1
  obtain⟨r',hr',hgr,_,hn⟩:=hlook i b' hb
  refine hS.apart r r' d d' b h1 (hn hbn) (fun e=>h2 (e▸WV hr')) h3 (by rw[<- hgr];exact q2) h4 q3
 have hmem:∀ r,r∈rs->(∃ i,i<bs'.length/\g i=r)\/r∈rs.drop k:=by
  intro r hr
  obtain⟨i,hi⟩:=List.getElem?_of_mem hr
  by_cases hik:i<k
  ·obtain⟨r',hr',hgr,_⟩:=hg1 i hik
   rw[hi] at hr';cases hr'
   exact .inl ⟨i,by omega,hgr⟩
  ·refine .inr (WV (i:=i - k) ?_)
   rw[List.getElem?_drop,show k+(i - k)=i by omega];exact hi
 have hσ':∀ r,(∃ i b,bs'[i]? = some b/\g i=r/\lookB r (mW (fun r=>some (g r)) bs' 0 g++(eJ (rs.drop k)++sto))=b.ren (fun r=>some (g r))) \/
   lookB r (mW (fun r=>some (g r)) bs' 0 g++(eJ (rs.drop k)++sto)) = .none\/(r∉rs/\(∀ i,i<bs'.length->g i≠r)/\lookB r (mW (fun r=>some (g r)) bs' 0 g++(eJ (rs.drop k)++sto))=lookB r sto):=by
  intro r
  obtain⟨q1,q2⟩:=pg (f:=fun r=>some (g r)) hginj (eJ (rs.drop k)++sto) r bs' 0
  by_cases hi:∃ i,i<bs'.length/\g i=r
  ·obtain⟨i,hi,hgi⟩:=hi
   exact .inl ⟨i,bs'[i],WT hi,hgi,q1 i _ (WT hi) (by rw[Xo];exact hgi)⟩
  ·have hni:∀ i,i<bs'.length->g i≠r:=fun i h1 h2=>hi ⟨i,h1,h2⟩
   have e:=q2 (fun i h1=>by rw[Xo];exact hni i h1)
   rw[lZ] at e
   by_cases hr:r∈rs.drop k
   ·rw[if_pos hr] at e;exact .inr (.inl e)
   ·rw[if_neg hr] at e
    exact .inr (.inr ⟨fun h=>(hmem r h).elim hi hr,hni,e⟩)
 have hlive':∀ i b,bs'[i]? = some b->b.ren (fun r=>some (g r))≠.none->lookB i (dd bs' 0)≠.none:=by
  intro i b hb hbn
  have e2:lookB i (dd bs' 0)=bs'.getD i .none:=congrFun (gw bs') i
  rw[e2,WZ,hb]
  exact Wf.1 hbn
 refine⟨u,_,κ',_,_,rfl,rfl,hext,⟨hL.os,hL.tape,hL.output,hL.size,fun b hb hl=>hL.block b hb fun h=>hl (hl1 b h),fun b o hi=>(hL.imm b o hi).imp id (hm1 b)⟩,
  ry (κ:=κ1') (κ':=κ') rfl rfl (fun r r' hr=>by cases hr;exact hnm' r) v' u hv,?_,fun r hr=>?_,rfl,rfl,rfl⟩
 ·refine⟨fun r=>?_,fun r r' d d' b h1 h2 hrr hd hd' hb=>?_,fun r d b h1 hd hb=>?_,hS'.immLt,?_⟩
  ·show fc κ' r (lookB r _)
   rcases hσ' r with ⟨i,b,hb,hgi,e⟩ | e | ⟨hr,hni,e⟩
   ·rw[e,<- hgi]
    refine fc.ren (κ:=κ1') (κ':=κ') rfl rfl hnm' ?_
    have:=hS'.blk i
    have e2:lookB i (dd bs' 0)=bs'.getD i .none:=congrFun (gw bs') i
    simp only[e2,WZ,hb] at this
    exact this
   ·rw[e];trivial
   ·rw[e]
    refine (hS.blk r).keep hext fun hbn d b hd hb=>?_
    obtain⟨q1,q2⟩:=hout r d b hbn hr hd hb
    refine⟨hL.block b q1 q2,fun o ho=>?_⟩
    rcases hL.imm b o ho with h | h | h
    ·exact h
    ·exact absurd q1 (Nat.not_lt.2 h)
    ·exact absurd h q2
  ·have cal:∀ r i b0 d,bs'[i]? = some b0->g i=r->b0.ren (fun r=>some (g r))≠.none->κ'.nm r=some d->lookB i (dd bs' 0)≠.none/\κ1'.nm i=some d:=by
    intro r i b0 d hb0 hgi hbn hd
    exact⟨hlive' i b0 hb0 hbn,by rw[<- hnm' i,hgi];exact hd⟩
   have own:∀ r d,r∉rs->lookB r sto≠.none->κ'.nm r=some d->κ.nm r=some d:=by
    intro r d hr hbn hd
    obtain⟨d',hd'⟩:=(hS.blk r).named hbn
    have:=hext.nm r d' hd'
    rw[this] at hd;cases hd;exact hd'
   have mix:∀ r i b0 d d' b,bs'[i]? = some b0->b0.ren (fun r=>some (g r))≠.none->κ1'.nm i=some d->d.block=some b->lookB i (dd bs' 0)≠.none->r∉rs->lookB r sto≠.none->κ.nm r=some d'->d'.block≠some b:=by
    intro r i b0 d d' b hb0 hbn hd hdb hl hr hrl hd' hdb'
    obtain⟨q1,q2⟩:=hout r d' b hrl hr hd' hdb'
    rcases hS'.mine i d b hl hd hdb with h | h
    ·exact absurd q1 (Nat.not_lt.2 h)
    ·exact q2 h
   rcases hσ' r with ⟨i,b1,hb1,hgi,e⟩ | e | ⟨hr,hni,e⟩
   ·have h1':b1.ren (fun r=>some (g r))≠.none:=by
     intro h0;exact h1 (e.trans h0)
    obtain⟨p1,p2⟩:=cal r i b1 d hb1 hgi h1' hd
    rcases hσ' r' with ⟨j,b2,hb2,hgj,e'⟩ | e' | ⟨hr',hni',e'⟩
    ·have h2':b2.ren (fun r=>some (g r))≠.none:=by
      intro h0;exact h2 (e'.trans h0)
     obtain⟨p3,p4⟩:=cal r' j b2 d' hb2 hgj h2' hd'
     exact hS'.apart i j d d' b p1 p3 (fun hij=>hrr (by rw[<- hgi,<- hgj,hij])) p2 p4 hb
    ·exact absurd e' h2
    ·have h2':lookB r' sto≠.none:=by intro h0;exact h2 (e'.trans h0)
     exact mix r' i b1 d d' b hb1 h1' p2 hb p1 hr' h2' (own r' d' hr' h2' hd')
   ·exact absurd e h1
   ·have h1':lookB r sto≠.none:=by intro h0;exact h1 (e.trans h0)
    have hd0:=own r d hr h1' hd
    rcases hσ' r' with ⟨j,b2,hb2,hgj,e'⟩ | e' | ⟨hr',hni',e'⟩
    ·have h2':b2.ren (fun r=>some (g r))≠.none:=by
      intro h0;exact h2 (e'.trans h0)
     obtain⟨p3,p4⟩:=cal r' j b2 d' hb2 hgj h2' hd'
     intro hb'
     exact mix r j b2 d' d b hb2 h2' p4 hb' p3 hr h1' hd0 hb
    ·exact absurd e' h2
    ·have h2':lookB r' sto≠.none:=by intro h0;exact h2 (e'.trans h0)
     exact hS.apart r r' d d' b h1' h2' hrr hd0 (own r' d' hr' h2' hd') hb
  ·rcases hσ' r with ⟨i,b1,hb1,hgi,e⟩ | e | ⟨hr,hni,e⟩
   ·have h1':b1.ren (fun r=>some (g r))≠.none:=by
     intro h0;exact h1 (e.trans h0)
    refine hm1 b (hS'.mine i d b (hlive' i b1 hb1 h1') (by rw[<- hnm' i,hgi];exact hd) hb)
   ·exact absurd e h1
   ·have h1':lookB r sto≠.none:=by intro h0;exact h1 (e.trans h0)
    obtain⟨d',hd'⟩:=(hS.blk r).named h1'
    have:=hext.nm r d' hd'
    rw[this] at hd;cases hd
    exact .inr ⟨r,d,h1',hd',hb⟩
  ·refine⟨hS'.glob.1,fun g' hg'=>?_⟩
   obtain⟨h1,h2,cs,T,fz,h3,h4⟩:=hS.glob.2 g' hg'
   exact⟨h1,h2,cs,T,fz,(hL.block g' h1 fun h=>h2 (hl1 g' h)).trans h3,h4⟩
 ·show (if r<next then κ.nm r else κ1'.nm (k+(r - next)))=none
  rw[if_neg (by omega)]
  exact hf' _ (by omega)
def l7 (k:Nat)(rs:List Nat)(bs bs':List Blk)(next:Nat):Bool:=
 decide (k<=bs.length)&&decide (k<=bs'.length)&&(bs.take k).all (fun b=>match b with | .none=>false | _=>true)&&rs.all (fun r=>decide (r<next))&&decide rs.Nodup
theorem ab.lentK {k f:Nat}{args0:List AV}{bs:List Blk}{v:AV}{bs':List Blk}(h:bz P G k f args0 bs v bs')(rs:List Nat){args:List AV}{env:List (Nat×AV)}{sto:List (Nat×Blk)}{next:Nat}{K:AV->St->Prop}
  (hok:l7 k rs bs bs' next=true) (hargs:AVzL args (AV.renL (gSo next rs) args0)) (hbs:fD sto (gSo next rs) rs bs)
  (hK:K (v.ren (gSo next (rs.take k))) ⟨env,mW (gSo next (rs.take k)) bs' 0 (gIn next (rs.take k))++(eJ (rs.drop k)++sto),next+(bs'.length - k)⟩):ab P G f args ⟨env,sto,next⟩ K:=by
 simp only[l7,Xk,decide_eq_true_eq,Xb] at hok
 obtain⟨⟨⟨⟨h1,h2⟩,h3⟩,h4⟩,h5⟩:=hok
 refine ab.lent (h.frame hargs hbs h5 h4 h1 h2 (fun b hb e=>?_)) ?_
 ·have:=h3 b hb
  subst e;cases this
 ·rintro v' sto' next' ⟨rfl,rfl,rfl⟩
  exact hK
theorem ab.weak {f:Nat}{args args':List AV}{s s':St}{K:AV->St->Prop}(hw:WkC s args s' args')(h:ab P G f args' s' K):ab P G f args s K:=by
 obtain⟨s2,args2,hw2,h2⟩:=h
 refine⟨s2,args2,⟨hw2.1.trans hw.1,hw2.2.1.trans hw.2.1,fun c κ0 κ N a w vals hR hv=>?_⟩,?_⟩
 ·obtain⟨κ1,h3,h4⟩:=hw.2.2 c κ0 κ N a w vals hR hv
  exact hw2.2.2 c κ0 κ1 N a w vals h3 h4
 ·rcases h2 with ⟨ps,r,k1,k2,k3⟩ | ⟨Q,k1,k2⟩
  ·exact .inl ⟨ps,r,k1,k2,k3⟩
  ·refine .inr ⟨Q,k1,fun v sto' next' hq=>?_⟩
   have:=k2 v sto' next' hq
   rw[hw.2.1] at this
   exact this
end
theorem El (k:Nat):dd [] k=[]:=_root_.id rfl
theorem yS (b:Blk)(r:List Blk)(k:Nat):dd (b::r) k=(k,b)::dd r (k+1):=_root_.id rfl
theorem yr (sto:List (Nat×Blk))(f:Nat->Option Nat):fD sto f [] []=True:=_root_.id rfl
theorem sL (sto:List (Nat×Blk))(f:Nat->Option Nat)(r:Nat)(rs:List Nat)(b:Blk)(bs:List Blk):fD sto f (r::rs) (b::bs)=(BlkZ (lookB r sto) (b.ren f)/\fD sto f rs bs):=_root_.id rfl
theorem HV (f:Nat->Option Nat)(i:Nat)(g:Nat->Nat):mW f [] i g=[]:=_root_.id rfl
theorem CA (f:Nat->Option Nat)(b:Blk)(r:List Blk)(i:Nat)(g:Nat->Nat):mW f (b::r) i g=(g i,b.ren f)::mW f r (i+1) g:=_root_.id rfl
theorem CK:eJ []=[]:=_root_.id rfl
theorem xK (r:Nat)(q:List Nat):eJ (r::q)=(r,.none)::eJ q:=_root_.id rfl
theorem Rl (next:Nat)(rs:List Nat)(r:Nat):gSo next rs r=some (gIn next rs r):=_root_.id rfl
theorem Of (next i:Nat):gIn next [] i=next+i:=_root_.id rfl
theorem Uw (next r:Nat)(q:List Nat):gIn next (r::q) 0=r:=_root_.id rfl
theorem Uv (next r i:Nat)(q:List Nat):gIn next (r::q) (i+1)=gIn next q i:=_root_.id rfl
def pI (s sz off len:Nat):Blk->Option (List PV)
 | .cells _ _ l=>if s=1/\sz=1/\off+len<=l.length/\((l.drop off).take len).all AV.one=true then pvs ((l.drop off).take len) else none
 | _=>none
theorem sY (σ:aw)(sz r s off len:Nat):bp σ sz (.row r s off len)=pI s sz off len (σ r):=by
 simp only[bp,pI]
 cases σ r<;>rfl
theorem kY (k:IntKind)(l:List Int):(l.map (PV.int k)).all PV.one=true:=by
 rw[Xb];intro x hx;obtain⟨n,_,rfl⟩:=Xp.1 hx;rfl
theorem Ep {T:Nat}{f:Bool}{l:List PV}{n:Nat}(h:n<=l.length)(h1:l.all PV.one=true):pI 1 1 0 n (.cells T f (l.map .pv))=some (l.take n):=by
 have h2:(((l.map AV.pv).drop 0).take n)=(l.take n).map .pv:=by rw[XN,List.map_take]
 have h3:((l.take n).map AV.pv).all AV.one=true:=by
  rw[Xb] at h1 ⊢
  intro x hx
  obtain⟨y,hy,rfl⟩:=Xp.1 hx
  exact h1 y (XL hy)
 have h4:∀ k:List PV,pvs (k.map .pv)=some k:=by
  intro k
  induction k with
  | nil=>rfl
  | cons a r ih=>simp[pvs,AV.toPV,ih]
 simp only[pI]
 rw[if_pos (by refine⟨trivial,trivial,by simp;omega,by rw[h2];exact h3⟩),h2,h4]
theorem za {T:Nat}{f:Bool}{k:IntKind}{p:List Int}{n:Nat}(h:n=p.length):pI 1 1 0 n (.cells T f ((p.map (PV.int k)).map .pv))=some (p.map (PV.int k)):=by
 rw[Ep (by simp;omega) (kY k p),WY (by simp;omega)]
theorem mQ {sz r off n:Nat}{k:IntKind}{h:Int}(h0:0<=h)(h1:h<=n)(hs:0<sz):dw sz (.row r sz off n) none (some (.pv (.int k h)))=some (.row r sz off h.toNat):=by
 simp[dw,bm,h0,h1,hs]
theorem Gv (n:Nat):((n:Int)+1).toNat=n+1:=by omega
theorem J6 (n:Int):n+1 - 1=n:=by omega
def Py:List Nat->List Nat->List Nat
 | [],a=>a
 | x::r,a=>Py r (x::a)
theorem Ha (a:List Nat):Py [] a=a:=_root_.id rfl
theorem og (x:Nat)(r a:List Nat):Py (x::r) a=Py r (x::a):=_root_.id rfl
theorem BD:∀ (l a:List Nat),l.reverse++a=Py l a
 | [],a=>rfl
 | x::r,a=>by rw[og,<- BD r (x::a)];simp
theorem Dp (l:List (Nat×Blk)):aZ l.reverse=Py (aZ l) []:=by
 rw[<- BD,Xc];simp[aZ]
theorem G2 (ks rs:List Nat):eX 2 ks rs=(0::ks.map (· + 1),rs.map (· + 1)):=by simp[eX]
theorem aH (A:List (Nat×Nat×Nat×Nat)){k:Nat}{v v':AV}{bs':List Blk}{sto':List (Nat×Blk)}{next':Nat}(h:StZ (cR A k [0] ⟨[(0,v')],sto',next'⟩) ⟨[(0,v)],dd bs' 0,bs'.length⟩):IB k v bs' v' sto' next':=Wk.head h
theorem Wk.env0 {k:Nat}{v u:AV}{sto:List (Nat×Blk)}{next:Nat}(h:AVz v u):Wk k ⟨[(0,v)],sto,next⟩ ⟨[(0,u)],sto,next⟩:=
 Wk.of (StZ.wx (s:=⟨[(0,v)],sto,next⟩) (t:=⟨[(0,u)],sto,next⟩) ⟨EnvZ.cons 0 v u [] [] h EnvZ.nil,StoZ.refl sto,rfl⟩) k
theorem sK (A:List (Nat×Nat×Nat×Nat))(u:AV){k:Nat}{v v':AV}{bs':List Blk}{sto':List (Nat×Blk)}{next':Nat}(hu:AVz v' u)(h:StZ (cR A k [0] ⟨[(0,u)],sto',next'⟩) ⟨[(0,v)],dd bs' 0,bs'.length⟩):IB k v bs' v' sto' next':=
 (Wk.env0 hu).trans (Wk.head h)
theorem ab.nilB (r o e sz:Nat){P:Program}{G:Nat->List PV}{f:Nat}{args:List AV}{s:St}{K:AV->St->Prop}(he:(accB r o e sz s (lookB r s.sto)).env=s.env)(h:ab P G f args (accB r o e sz s (lookB r s.sto)) K):ab P G f args s K:=
 ab.weak (WkC.of (AL r o e sz s) he args) h
section
variable {P:Program}{G:Nat->List PV}
theorem FV (F:St->Prop)(s:St):VN F .norm s=F s:=_root_.id rfl
theorem JR (b:ACode)(Q:AExit->St->Prop)(e:List (Nat×AV))(σ:List (Nat×Blk))(n:Nat):O4 (fun m=>vc P G m b) Q ⟨e,σ,n⟩=vc P G n b Q ⟨e,σ,n⟩:=_root_.id rfl
theorem HK (e:List (Nat×AV)):HL [] [] e=e:=_root_.id rfl
theorem Cp (p:Nat)(ps:List Nat)(x:PV)(xs:List PV)(e:List (Nat×AV)):HL (p::ps) (x::xs) e=HL ps xs ((p,.pv x)::e):=_root_.id rfl
def TG {ι:Type}(A:List (Nat×Nat×Nat×Nat))(S:ι->St)(Inv:Nat->ι->Prop)(i m0:Nat)(keep:List Nat)(Q:AExit->St->Prop)(e0:List (Nat×AV)):AExit->St->Prop
 | .norm,s'=>∃ x',Hd A m0 keep ⟨e0,s'.sto,s'.next⟩ (S x')/\Inv (i+1) x'
 | .exit j,s'=>Q (.exit j) ⟨e0,s'.sto,s'.next⟩
 | .ret,s'=>Q .ret ⟨e0,s'.sto,s'.next⟩
theorem Fy {ι:Type}(A:List (Nat×Nat×Nat×Nat))(S:ι->St)(Inv:Nat->ι->Prop)(i m0:Nat)(keep:List Nat)(Q:AExit->St->Prop)(e0 e:List (Nat×AV))(σ:List (Nat×Blk))(n:Nat):TG A S Inv i m0 keep Q e0 .norm ⟨e,σ,n⟩ = ∃ x',Hd A m0 keep ⟨e0,σ,n⟩ (S x')/\Inv (i+1) x':=_root_.id rfl
theorem Fz {ι:Type}(A:List (Nat×Nat×Nat×Nat))(S:ι->St)(Inv:Nat->ι->Prop)(i m0:Nat)(keep:List Nat)(Q:AExit->St->Prop)(e0:List (Nat×AV))(j:Nat)(e:List (Nat×AV))(σ:List (Nat×Blk))(n:Nat):TG A S Inv i m0 keep Q e0 (.exit j) ⟨e,σ,n⟩=Q (.exit j) ⟨e0,σ,n⟩:=_root_.id rfl
theorem Kg {ι:Type}(A:List (Nat×Nat×Nat×Nat))(S:ι->St)(Inv:Nat->ι->Prop)(i m0:Nat)(keep:List Nat)(Q:AExit->St->Prop)(e0 e:List (Nat×AV))(σ:List (Nat×Blk))(n:Nat):TG A S Inv i m0 keep Q e0 .ret ⟨e,σ,n⟩=Q .ret ⟨e0,σ,n⟩:=_root_.id rfl
theorem Rk:∀ (lb:List PV),pvs (lb.map AV.pv)=some lb
 | []=>rfl
 | p::r=>by simp[pvs,AV.toPV,Rk r]
theorem Ko {ι:Type}(A:List (Nat×Nat×Nat×Nat))(ch:ι->List (Nat×AV))(chB:ι->List (Nat×Blk))(Inv:Nat->ι->Prop)(x0:ι){gf:Nat}{lb:List PV}{xs:List (List PV)}(hs:U3 P G gf lb xs)
  {m0:Nat} {f:AX} {ps keep:List Nat} {a b:ACode} {Q:AExit->St->Prop} {s:St}
  (h:∀ e0 σ0 n0,cR A m0 keep s=⟨e0,σ0,n0⟩->StZ ⟨e0,σ0,n0⟩ ⟨ef e0 (ch x0),fa σ0 (chB x0),n0⟩/\Inv 0 x0/\dJ (f.ev (fun i=>look i (ef e0 (ch x0))))=some (gf,[],lb.map AV.pv) /\
   (∀ i x y,xs[i]? = some y->Inv i x->y.length=ps.length/\vc P G n0 a (VN (O4 (fun m=>vc P G m b) (TG A (fun x=>⟨ef e0 (ch x),fa σ0 (chB x),n0⟩) Inv i m0 keep Q (ef e0 (ch x))))) ⟨HL ps y (ef e0 (ch x)),fa σ0 (chB x),n0⟩) /\
   ∀ x,Inv xs.length x->Q .norm ⟨ef e0 (ch x),fa σ0 (chB x),n0⟩):vc P G m0 (.range f ps keep a b) Q s:=by
 obtain⟨h1,h2,h3,h4,h5⟩:=h (cR A m0 keep s).env (cR A m0 keep s).sto (cR A m0 keep s).next rfl
 let S:ι->St:=fun x=>⟨ef (cR A m0 keep s).env (ch x),fa (cR A m0 keep s).sto (chB x),(cR A m0 keep s).next⟩
 refine⟨fun i t=>∃ x,t=S x/\Inv i x,S x0,aJ h1,⟨x0,rfl,h2⟩,?_⟩
 have e:dJ (f.ev (S x0).E)=some (gf,[],lb.map AV.pv):=h3
 rw[e]
 refine⟨rfl,lb,xs,Rk lb,hs,?_,?_⟩
 ·rintro i y t hy ⟨x,rfl,hx⟩
  obtain⟨k1,k2⟩:=h4 i x y hy hx
  refine⟨k1,dg a (fun e s hs=>?_) _ k2⟩
  cases e with
  | norm=>
    refine dg b (fun e s hs=>?_) s hs
    cases e with
    | norm=>
      obtain⟨x',q1,q2⟩:=hs
      exact⟨S x',q1,x',rfl,q2⟩
    | exit j=>exact hs
    | ret=>exact hs
  | exit j=>exact hs.elim
  | ret=>exact hs.elim
 ·rintro t ⟨x,rfl,hx⟩
  exact h5 x hx
end
attribute [push_cast] Gb Gc Lr F9 Ga UB UC UD UE UF UG C8
 Iv ym C9 Uy UA Uz ye yg yh Jv Jw Oy Jz Ox Ju LJ
 A6 wE wB wA wz re wy rc GA A7 A8 A9
 q9 q8 GD GF Nk Nl Gz Gy wD Bb Bc Cj
 JC Ei JD JB Fj rg rM wC GC GB ww M9
 Na xd rL rK B3 B4 Nq Nr ov xe rJ ot
 xb Hp BY BX xa Hq rN rO EE Fa rD HG
 Hv Hz Hx Hw HF Nj Hu rP HE Hy HA HB
 HC HD Cd Cc B7 B8 B9 Ca Cb Ci HI Cg
 Cf Ch xm HH Ce Hk BS B6 xg Hi BV BU
 BT Hj Ng Nh oK xT sk VV V9 Nm Cn Co
 xu eE LH wp Gs Gr Gu Gq Gt NO sf sg
 NM r7 r8 NN r9 sd oP EU zU zI zO zJ
 pT zP ae zH ER EP zy zE zz zD ET zG
 zF sJ yo BW wZ wY NX NW wk wi xZ Sq
 Is zW C3 IF Dn Dj Dl Dk sO Dm C1 xX
 xj xY sE sF NP Nc wV nZ GJ gr Gj AY
 JK JL Nv H9 H8 Ic Ib If Ie JO AQ wm
 AN AO AM qW Ez zf sZ oG oH H4 HJ RC
 RD Ey GL GK GN GM Qw Qv Qu su oU oT
 oZ mZ o8 xV sA m4 m5 C0 Lx Gh AR zg
 tc pK OD C4 o9 pb sG yc sH pd pa m7
 m6 NK Il Ik xQ Dq yx OE zd EH zu EI
 zx OI OJ Ir Q0 H2 Fv Fw Ke tJ tK Al
 Lt PT Lv OC PR Lw Gg Lu PS H0 Uo Up
 Hb BG Kj Pq MZ QA QB Qz zr BF wR HM
 Rh Dy DA N7 N6 DD yD yz tH tI Ak Ct
 xw Cy xC Cu xy Cz xD rX Ny QX QU NA
 QW QV NB H1 Hm Hn wq qZ nX A5 map_take map_drop
 CG xq Sz J2 J0 JZ O9 J1 Ad yX yY yZ
 sX UX So E8 E9 Sn bu bQ bP HW bq Nu
 HY HX xF HZ oq mR rV xH xI xG J5 SA
 Sv NV Iy DB Rs Rt Jb Jd Oi Oj Jc Ol
 Om Jg Je DS DT Ok Ih CP CO Ii CS CN
 CQ CR xN j9 j8 rZ oM xO r5 J7 Fp Pg
 Ph Oe uD p5 hH M8 M7 pH nw Uc Qy CJ
 xJ NF NH NG wS rz xM IS DH Kz M4 M2
 M1 QF M5 M0 M3 BI BH BJ Hc oh rA BL
 wT He BM H3 J8 Fq Fr Fu Kd NJ NI H6
 H5 Pk Kb Ah Ft Kc Pj V5 V4 TU RE RF
 RG RH RI RJ Ov Ed yO HS tD tE Ai JS
 Sw JT JX Fg JE Ek Fb Sr Su Ss JV Fe
 Fd JW Ff GI Bg PZ El yS yr sL HV CA
 CK xK Rl Of Uw Uv sY kY za mQ Gv J6
 Ha og Dp G2 Xo Nat.add_zero Xa List.length_nil List.nil_append XA Xc List.append_assoc
 Xd XB List.map_nil Xq List.take_succ_cons List.take_zero List.drop_succ_cons XN List.take_nil List.drop_nil List.all_cons List.all_nil
 Bool.and_true Xv Bool.and_false XR Bool.not_true Bool.not_false decide_true decide_false Bool.not_not Int.natCast_add Int.cast_ofNat_Int Int.toNat_natCast
 WX and_true true_and ge_iff_le Xi XY Nat.not_lt_zero and_self
attribute [push_cast] FV JR HK Cp Fy Fz Kg
attribute [push_cast high] Int.cast_ofNat_Int

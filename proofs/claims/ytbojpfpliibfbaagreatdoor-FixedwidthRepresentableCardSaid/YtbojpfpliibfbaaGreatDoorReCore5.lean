/- A program logic over the model: part 5 (a proof is built on it; nothing of the statement is said here). -/
import Derived.Test.YtbojpfpliibfbaaGreatDoorReCore4
set_option linter.unusedVariables false
set_option linter.unusedSimpArgs false
namespace Go.Ab
open Go Go.RowKit
theorem yy {n:Int}(h1:-9223372036854775808≤n)(h2:n≤9223372036854775807):IntKind.i64.wrap n=n:=by
 show (if (true&&decide (n % 18446744073709551616≥9223372036854775808))=true then n % 18446744073709551616 - 18446744073709551616 else n % 18446744073709551616)=n
 simp only[Bool.true_and,decide_eq_true_eq]
 split<;>omega
theorem Mj {a b:Int}(h:a<b):decide (a<b)=true:=decide_eq_true h
theorem Mk {a b:Int}(h:¬ a<b):decide (a<b)=false:=decide_eq_false h
theorem Ml {a b:Int}(h:a≤b):decide (a≤b)=true:=decide_eq_true h
theorem Mm {a b:Int}(h:¬ a≤b):decide (a≤b)=false:=decide_eq_false h
theorem Mn {a b:Int}(h:a=b):decide (a=b)=true:=decide_eq_true h
theorem Mo {a b:Int}(h:¬ a=b):decide (a=b)=false:=decide_eq_false h
def Chk (b:Bool):Prop:=b=true
theorem FT:Chk true:=_root_.id rfl
theorem vP (i k:Nat)(x:AV)(r:List (Nat×AV)):look i ((k,x)::r)=if k=i then x else look i r:=_root_.id rfl
theorem Br (i:Nat):look i [] = .any:=_root_.id rfl
theorem rx (i k:Nat)(x:Blk)(r:List (Nat×Blk)):lookB i ((k,x)::r)=if k=i then x else lookB i r:=_root_.id rfl
theorem vQ (i:Nat):lookB i [] = .none:=_root_.id rfl
def evE (e:List (Nat×AV)):AX→AV
 | .t i=>look i e
 | .c p=>.pv p
 | .m i tb=>Li tb (look i e)
theorem Mh (e:List (Nat×AV))(i:Nat):evE e (.t i)=look i e:=_root_.id rfl
theorem Mi (e:List (Nat×AV))(p:PV):evE e (.c p) = .pv p:=_root_.id rfl
def evO (e:List (Nat×AV)):Option AX→Option AV
 | some x=>some (evE e x)
 | none=>none
theorem B1 (e:List (Nat×AV))(x:AX):evO e (some x)=some (evE e x):=_root_.id rfl
theorem B2 (e:List (Nat×AV)):evO e none=none:=_root_.id rfl
def evL (e:List (Nat×AV)):List AX→List AV
 | []=>[]
 | x::r=>evE e x::evL e r
theorem FJ (e:List (Nat×AV)):evL e []=[]:=_root_.id rfl
theorem B4 (e:List (Nat×AV))(x:AX)(r:List AX):evL e (x::r)=evE e x::evL e r:=_root_.id rfl
theorem gE (e:List (Nat×AV))(σ:List (Nat×Blk))(n:Nat)(x:AX):x.ev (St.E ⟨e,σ,n⟩)=evE e x:=by cases x<;>rfl
theorem wJ (e:List (Nat×AV))(σ:List (Nat×Blk))(n:Nat):∀ (l:List AX),l.map (·.ev (St.E ⟨e,σ,n⟩))=evL e l
 | []=>rfl
 | x::r=>by rw[List.map_cons,wJ e σ n r,gE];rfl
def evP (e:List (Nat×AV)):List (Nat×Nat×AX)→List (Nat×Nat×AV)
 | []=>[]
 | (a,b,x)::r=>(a,b,evE e x)::evP e r
theorem FI (e:List (Nat×AV)):evP e []=[]:=_root_.id rfl
theorem B0 (e:List (Nat×AV))(a b:Nat)(x:AX)(r:List (Nat×Nat×AX)):evP e ((a,b,x)::r)=(a,b,evE e x)::evP e r:=_root_.id rfl
def gd (e:List (Nat×AV)):TOp→Option AV
 | .mv x=>some (evE e x)
 | .pick c a b=>nt (evE e c) (evE e a) (evE e b)
 | .build zs ps=>(e6 (zs.map .pv) (evP e ps)).map gA
 | .faddr off x=>iv off (evE e x)
 | .field g sz off x=>oK g sz off (evE e x)
 | .iaddr sz x i=>gi sz (evE e x) (evE e i)
 | .iaddrA n sz x i=>fN n sz (evE e x) (evE e i)
 | .index x i=>gh (evE e x) (evE e i)
 | .indexA g n sz x i=>bv g n sz (evE e x) (evE e i)
 | .len st x=>C1 st (evE e x)
 | .lenC n=>some (.pv (.int .i64 n))
 | .imin x y=>EM (evE e x) (evE e y)
 | .imax x y=>EN (evE e x) (evE e y)
 | .sliceL sz x lo hi=>di sz (evE e x) (evO e lo) (evO e hi)
 | .sliceS x lo hi=>eX (evE e x) (evO e lo) (evO e hi)
 | .bin op x y=>eD op (evE e x) (evE e y)
 | .beq kd ng x y=>(C2 kd (evE e x) (evE e y)).map fun b=>.pv (.bool (if ng then !b else b))
 | .neg x=>HL (evE e x)
 | .not x=>HJ (evE e x)
 | .compl x=>oM (evE e x)
 | .conv k x=>qO k (evE e x)
 | .convS x=>oL (evE e x)
 | .convIS x=>kq (evE e x)
 | .beqS ng ks x y=>(Ak ks (evE e x) (evE e y)).map fun b=>.pv (.bool (if ng then !b else b))
 | .clo f fs cs=>some (nJ f (evL e fs) (evL e cs))
 | .ext x i=>HM i (evE e x)
 | .nilck x=>HK (evE e x)
theorem B3 (e:List (Nat×AV)):∀ (l:List AX),l.map (fun x=>evE e x)=evL e l
 | []=>rfl
 | x::r=>by rw[List.map_cons,B3 e r];rfl
theorem Jg (e:List (Nat×AV))(l:Option AX):l.map (fun x=>evE e x)=evO e l:=by cases l<;>rfl
theorem Jf (e:List (Nat×AV)):∀ (l:List (Nat×Nat×AX)),(l.map fun p=>(p.1,p.2.1,evE e p.2.2))=evP e l
 | []=>rfl
 | (a,b,x)::r=>by rw[List.map_cons,Jf e r];rfl
theorem tB (e:List (Nat×AV))(σ:List (Nat×Blk))(n:Nat)(o:TOp):o.run (St.E ⟨e,σ,n⟩)=gd e o:=by
 cases o<;>simp only[TOp.run,gd,gE,B3,Jg,Jf]
theorem DY (e:List (Nat×AV))(x:AX):gd e (.mv x)=some (evE e x):=_root_.id rfl
theorem tx (e:List (Nat×AV))(c a b:AX):gd e (.pick c a b)=nt (evE e c) (evE e a) (evE e b):=_root_.id rfl
theorem qw (e:List (Nat×AV))(zs:List PV)(ps:List (Nat×Nat×AX)):gd e (.build zs ps)=(e6 (zs.map .pv) (evP e ps)).map gA:=_root_.id rfl
theorem qv (e:List (Nat×AV))(off:Nat)(x:AX):gd e (.faddr off x)=iv off (evE e x):=_root_.id rfl
theorem qu (e:List (Nat×AV))(sz:Nat)(x i:AX):gd e (.iaddr sz x i)=gi sz (evE e x) (evE e i):=_root_.id rfl
theorem nh (e:List (Nat×AV))(n sz:Nat)(x i:AX):gd e (.iaddrA n sz x i)=fN n sz (evE e x) (evE e i):=_root_.id rfl
theorem qr (e:List (Nat×AV))(x i:AX):gd e (.index x i)=gh (evE e x) (evE e i):=_root_.id rfl
theorem ne (e:List (Nat×AV))(g:Bool)(n sz:Nat)(x i:AX):gd e (.indexA g n sz x i)=bv g n sz (evE e x) (evE e i):=_root_.id rfl
theorem yS (e:List (Nat×AV))(st:Bool)(x:AX):gd e (.len st x)=C1 st (evE e x):=_root_.id rfl
theorem tz (e:List (Nat×AV))(x y:AX):gd e (.imin x y)=EM (evE e x) (evE e y):=_root_.id rfl
theorem tA (e:List (Nat×AV))(x y:AX):gd e (.imax x y)=EN (evE e x) (evE e y):=_root_.id rfl
theorem nc (e:List (Nat×AV))(sz:Nat)(x:AX)(lo hi:Option AX):gd e (.sliceL sz x lo hi)=di sz (evE e x) (evO e lo) (evO e hi):=_root_.id rfl
theorem na (e:List (Nat×AV))(x:AX)(lo hi:Option AX):gd e (.sliceS x lo hi)=eX (evE e x) (evO e lo) (evO e hi):=_root_.id rfl
theorem yX (e:List (Nat×AV))(op:BinOp)(x y:AX):gd e (.bin op x y)=eD op (evE e x) (evE e y):=_root_.id rfl
def ER (ng:Bool):Option Bool→Option AV
 | some b=>some (.pv (.bool (if ng then !b else b)))
 | none=>none
theorem yY (e:List (Nat×AV))(kd:Nat)(ng:Bool)(x y:AX):gd e (.beq kd ng x y)=ER ng (C2 kd (evE e x) (evE e y)):=by
 simp only[gd];cases C2 kd (evE e x) (evE e y)<;>rfl
theorem EQ (b:Bool):ER false (some b)=some (.pv (.bool b)):=_root_.id rfl
theorem yR (e:List (Nat×AV))(x:AX):gd e (.neg x)=HL (evE e x):=_root_.id rfl
theorem yQ (e:List (Nat×AV))(x:AX):gd e (.not x)=HJ (evE e x):=_root_.id rfl
theorem tC (e:List (Nat×AV))(k:IntKind)(x:AX):gd e (.conv k x)=qO k (evE e x):=_root_.id rfl
theorem yW (e:List (Nat×AV))(f:Nat)(fs cs:List AX):gd e (.clo f fs cs)=some (nJ f (evL e fs) (evL e cs)):=_root_.id rfl
theorem yU (e:List (Nat×AV))(x:AX)(i:Nat):gd e (.ext x i)=HM i (evE e x):=_root_.id rfl
theorem qq (e:List (Nat×AV))(x:AX):gd e (.nilck x)=HK (evE e x):=_root_.id rfl
theorem EJ (x y:AV):nt (.pv (.bool true)) x y=some x:=_root_.id rfl
theorem EK (x y:AV):nt (.pv (.bool false)) x y=some y:=_root_.id rfl
theorem qM (off r o:Nat):iv off (.ptr r o)=some (.ptr r (o+off)):=_root_.id rfl
theorem nw (off:Nat)(l:List PV)(i o:Nat):iv off (.pv (.eptr l i o))=some (.pv (.eptr l i (o+off))):=_root_.id rfl
def EV (sz off:Nat)(cs:List AV):Option AV:=if off+sz≤cs.length then some (gA ((cs.drop off).take sz)) else none
theorem uP (sz off:Nat)(cs:List AV):dk true sz off cs=EV sz off cs:=_root_.id rfl
theorem EW (sz off:Nat)(cs:List AV):dk false sz off cs=cs[off]?:=_root_.id rfl
def iz (sz:Nat)(l:List PV)(i:Nat):Option PV→Option AV
 | some y=>if y.cells.length=sz then some (.pv (.eptr l i 0)) else none
 | none=>none
theorem lG (sz:Nat)(l:List PV)(i:Nat):iw sz l (i:Int)=iz sz l i l[i]?:=by
 unfold iw iz
 rw[if_pos (by omega)]
 simp only[Int.toNat_natCast]
 cases l[i]? <;> rfl
theorem aK (sz:Nat)(l:List PV):iw sz l 0=iz sz l 0 l[0]?:=_root_.id rfl
theorem qN (sz:Nat)(l:List PV)(i:Nat):iw sz l ((i:Int)+1)=iz sz l (i+1) l[i+1]?:=lG sz l (i+1)
theorem nv (sz:Nat)(l:List PV)(k:IntKind)(n:Int):gi sz (.pv (.list l)) (.pv (.int k n))=iw sz l n:=_root_.id rfl
theorem qL (sz r off len:Nat)(k:IntKind){n:Int}(h:0≤n)(h':n.toNat<len):gi sz (.row r sz off len) (.pv (.int k n))=some (.ptr r (off+n.toNat*sz)):=by
 simp[gi,h,h']
theorem zU (l:List UInt8):C1 true (.pv (.str l))=some (.pv (.int .i64 l.length)):=_root_.id rfl
theorem ur (l:List PV):C1 false (.pv (.list l))=some (.pv (.int .i64 l.length)):=_root_.id rfl
theorem zW (r s o n:Nat):C1 false (.row r s o n)=some (.pv (.int .i64 n)):=_root_.id rfl
theorem nx {d top:Nat}{k:IntKind}{n:Int}(h0:0≤n)(h1:n≤top):aZ d top (some (.pv (.int k n)))=some n.toNat:=by
 simp[aZ,h0,h1]
theorem ny {d top:Nat}:aZ d top none=some d:=_root_.id rfl
def Mq {α:Type}(l:List α)(f:List α→AV):Option Nat→Option Nat→Option AV
 | some h,some a=>some (f ((l.take h).drop a))
 | _,_=>none
theorem wZ {α:Type}(l:List α)(f:List α→AV)(h a:Nat):Mq l f (some h) (some a)=some (f ((l.take h).drop a)):=_root_.id rfl
def MC (l:Nat)(lo:Option AV):Option Nat→Option Nat
 | some h=>aZ 0 h lo
 | none=>none
theorem xJ (l:Nat)(lo:Option AV)(h:Nat):MC l lo (some h)=aZ 0 h lo:=_root_.id rfl
theorem nr (l:List UInt8)(lo hi:Option AV):eX (.pv (.str l)) lo hi=Mq l (fun x=>.pv (.str x)) (aZ l.length l.length hi) (MC l.length lo (aZ l.length l.length hi)):=by
 unfold eX Mq MC
 simp only
 split<;>rename_i h
 ·rw[h];simp only;cases aZ 0 _ lo<;>rfl
 ·rw[h]
theorem Ai (k:IntKind)(a b:Int):eD .add (.pv (.int k a)) (.pv (.int k b))=some (.pv (.int k (k.wrap (a+b)))):=by simp[eD,oJ]
theorem z6 (k:IntKind)(a b:Int):eD .sub (.pv (.int k a)) (.pv (.int k b))=some (.pv (.int k (k.wrap (a - b)))):=by simp[eD,oJ]
theorem Ac (k:IntKind)(a b:Int):eD .mul (.pv (.int k a)) (.pv (.int k b))=some (.pv (.int k (k.wrap (a*b)))):=by simp[eD,oJ]
theorem z8 {k:IntKind}{a b:Int}(h:¬ b=0):eD .quo (.pv (.int k a)) (.pv (.int k b))=some (.pv (.int k (k.wrap (a.tdiv b)))):=by simp[eD,oJ,h]
theorem z7 {k:IntKind}{a b:Int}(h:¬ b=0):eD .rem (.pv (.int k a)) (.pv (.int k b))=some (.pv (.int k (a.tmod b))):=by simp[eD,oJ,h]
theorem Ah (k:IntKind)(a b:Int):eD .eql (.pv (.int k a)) (.pv (.int k b))=some (.pv (.bool (decide (a=b)))):=by simp[eD,oJ];rfl
theorem Aa (k:IntKind)(a b:Int):eD .neq (.pv (.int k a)) (.pv (.int k b))=some (.pv (.bool (!decide (a=b)))):=by simp[eD,oJ];rfl
theorem Ad (k:IntKind)(a b:Int):eD .lss (.pv (.int k a)) (.pv (.int k b))=some (.pv (.bool (decide (a<b)))):=by simp[eD,oJ]
theorem Ae (k:IntKind)(a b:Int):eD .leq (.pv (.int k a)) (.pv (.int k b))=some (.pv (.bool (decide (a≤b)))):=by simp[eD,oJ]
theorem Af (k:IntKind)(a b:Int):eD .gtr (.pv (.int k a)) (.pv (.int k b))=some (.pv (.bool (decide (b<a)))):=by simp[eD,oJ]
theorem Ag (k:IntKind)(a b:Int):eD .geq (.pv (.int k a)) (.pv (.int k b))=some (.pv (.bool (decide (b≤a)))):=by simp[eD,oJ]
theorem uB {a b:List UInt8}(h:a.length+b.length≤9223372036854775807):eD .add (.pv (.str a)) (.pv (.str b))=some (.pv (.str (a++b))):=by
 have:a.length+b.length≤maxLen:=by unfold maxLen;omega
 simp[eD,HI,this]
theorem uA (a b:List UInt8):eD .eql (.pv (.str a)) (.pv (.str b))=some (.pv (.bool (decide (a=b)))):=by
 simp[eD,HI];rw[Bool.eq_iff_iff];simp
theorem uw (a b:List UInt8):eD .neq (.pv (.str a)) (.pv (.str b))=some (.pv (.bool (!decide (a=b)))):=by
 simp[eD,HI];rw[Bool.eq_iff_iff];simp
theorem uz (a b:List UInt8):eD .lss (.pv (.str a)) (.pv (.str b))=some (.pv (.bool (bV a b))):=_root_.id rfl
theorem uC (x:PV)(l:List PV):C2 2 (.pv (.list (x::l))) (.pv .nils)=some false:=_root_.id rfl
theorem zJ (k:IntKind)(n:Int):HL (.pv (.int k n))=some (.pv (.int k (k.wrap (0 - n)))):=_root_.id rfl
theorem un (b:Bool):HJ (.pv (.bool b))=some (.pv (.bool (!b))):=_root_.id rfl
theorem uu (k k':IntKind)(n:Int):qO k (.pv (.int k' n))=some (.pv (.int k (k.wrap n))):=_root_.id rfl
theorem zI (r o:Nat):HK (.ptr r o)=some (.ptr r o):=_root_.id rfl
theorem EO (i:Nat)(ps:List PV):HM i (.pv (.tup ps))=(ps[i]?).map .pv:=_root_.id rfl
theorem vq {α β:Type}(f:α→β)(a:α):(some a).map f=some (f a):=_root_.id rfl
theorem ND {α:Type}(x:α)(r:List α):(x::r)[0]? = some x:=_root_.id rfl
theorem NC {α:Type}(x:α)(r:List α)(n:Nat):(x::r)[n+1]? = r[n]?:=_root_.id rfl
theorem ES:pvs []=some []:=_root_.id rfl
def LZ:Option PV→Option (List PV)→Option (List PV)
 | some p,some ps=>some (p::ps)
 | _,_=>none
theorem uE (p:PV)(ps:List PV):LZ (some p) (some ps)=some (p::ps):=_root_.id rfl
theorem uF (x:Option (List PV)):LZ none x=none:=_root_.id rfl
theorem kr (x:AV)(r:List AV):pvs (x::r)=LZ x.toPV (pvs r):=by
 show (match x.toPV,pvs r with | some p,some ps=>some (p::ps) | _,_=>none)=_
 cases x.toPV<;>cases pvs r<;>rfl
theorem pvs_map:∀ (ps:List PV),pvs (ps.map .pv)=some ps
 | []=>rfl
 | x::r=>by rw[List.map_cons,kr,pvs_map r];rfl
theorem DU (p:PV):(AV.pv p).toPV=some p:=_root_.id rfl
theorem qj (r s:Nat)(l:List PV):(AV.olist r s l).toPV=some (.list l):=_root_.id rfl
theorem yO (r o:Nat):(AV.ptr r o).toPV=none:=_root_.id rfl
def C6 (cs:List AV):Option (List PV)→AV
 | some ps=>.pv (.agg ps)
 | none=>.agg cs
theorem vJ (cs:List AV):gA cs=C6 cs (pvs cs):=by unfold gA;cases pvs cs<;>rfl
theorem iF (cs:List AV)(ps:List PV):C6 cs (some ps) = .pv (.agg ps):=_root_.id rfl
def C5 (cs:List AV):Option (List PV)→AV
 | some ps=>.pv (.tup ps)
 | none=>.tup cs
theorem Fe (cs:List AV):lU cs=C5 cs (pvs cs):=by unfold lU;cases pvs cs<;>rfl
theorem nG (cs:List AV)(ps:List PV):C5 cs (some ps) = .pv (.tup ps):=_root_.id rfl
def o7 (f:Nat)(fs cs:List AV):Option (List PV)→Option (List PV)→AV
 | some a,some b=>.pv (.clo f a b)
 | _,_=>.clo f fs cs
theorem Ff (f:Nat)(fs cs:List AV):nJ f fs cs=o7 f fs cs (pvs fs) (pvs cs):=by unfold nJ o7;cases pvs fs<;>cases pvs cs<;>rfl
theorem nH (f:Nat)(fs cs:List AV)(a b:List PV):o7 f fs cs (some a) (some b) = .pv (.clo f a b):=_root_.id rfl
theorem nI (f:Nat)(fs cs:List AV)(a:Option (List PV)):o7 f fs cs a none = .clo f fs cs:=by cases a<;>rfl
theorem xx (p:PV):(AV.pv p).cells=p.cells.map .pv:=_root_.id rfl
theorem sn (r o:Nat):(AV.ptr r o).cells=[.ptr r o]:=_root_.id rfl
theorem sm (r s o n:Nat):(AV.row r s o n).cells=[.row r s o n]:=_root_.id rfl
theorem mt (r s:Nat)(l:List PV):(AV.olist r s l).cells=[.olist r s l]:=_root_.id rfl
theorem ae (cs:List PV):(PV.agg cs).cells=cs:=_root_.id rfl
theorem sl (b:Bool):(PV.bool b).cells=[.bool b]:=_root_.id rfl
theorem xv (k:IntKind)(n:Int):(PV.int k n).cells=[.int k n]:=_root_.id rfl
theorem xq (s:List UInt8):(PV.str s).cells=[.str s]:=_root_.id rfl
theorem sh:PV.nils.cells=[.nils]:=_root_.id rfl
theorem sk (l:List PV):(PV.list l).cells=[.list l]:=_root_.id rfl
theorem xw (f:Nat)(a b:List PV):(PV.clo f a b).cells=[.clo f a b]:=_root_.id rfl
def Fo (g:Bool)(sz o:Nat):Blk→Option AV
 | .cells _ _ l=>dk g sz o l
 | _=>none
theorem nP (g:Bool)(sz o T:Nat)(f:Bool)(l:List AV):Fo g sz o (.cells T f l)=dk g sz o l:=_root_.id rfl
def Fj (g:Bool)(sz o:Nat):Option PV→Option AV
 | some e=>jr g sz o e
 | none=>none
theorem ry (g:Bool)(sz o:Nat)(e:PV):Fj g sz o (some e)=jr g sz o e:=_root_.id rfl
theorem uq (G:Nat→List PV)(g:Bool)(sz:Nat)(σ:aC)(r o:Nat):eb G g sz σ (.ptr r o)=Fo g sz o (σ r):=by
 simp only[eb,Fo];cases σ r<;>rfl
theorem qK (G:Nat→List PV)(g:Bool)(sz:Nat)(σ:aC)(l:List PV)(i o:Nat):eb G g sz σ (.pv (.eptr l i o))=Fj g sz o l[i]?:=by
 simp only[eb,Fj];cases l[i]? <;> rfl
theorem Fm (sz o:Nat)(e:PV):jr false sz o e=dk false sz o (e.cells.map .pv):=by simp[jr]
theorem Fl {sz o:Nat}{cs:List PV}(h:0<o):jr true sz o (.agg cs)=dk true sz o (cs.map .pv):=by
 simp[jr,PV.cells];omega
def HE (e:List (Nat×AV))(σ:List (Nat×Blk))(new:Nat):XOp→Option (AV×List (Nat×Blk))
 | .cap sz x=>(IC sz (fun r=>lookB r σ) (evE e x)).map fun v=>(v,[])
 | .resl sz x h=>(ul sz (fun r=>lookB r σ) (evE e x) (evE e h)).map fun v=>(v,[])
 | .copy sz x y=>ut sz (fun r=>lookB r σ) (evE e x) (evE e y)
 | .apart x y=>(lI (fun r=>lookB r σ) (evE e x) (evE e y)).map fun v=>(v,[])
 | .appz t sz by_ zs x k=>uD t sz by_ zs new (fun r=>lookB r σ) (evE e x) (evE e k)
 | .noesc x=>some (evE e x,[])
 | .ucast u n b x=>(ir u n b (fun r=>lookB r σ) (evE e x)).map fun v=>(v,[])
 | .peq ng x y=>(Lc ng (evE e x) (evE e y)).map fun v=>(v,[])
 | .anyc=>some (.any,[])
 | .apps t by_ x y=>Al t by_ new (fun r=>lookB r σ) (evE e x) (evE e y)
 | .sdata x=>(oI (evE e x)).map fun v=>(v,[])
 | .ustr t x k=>uh t (fun r=>lookB r σ) (evE e x) (evE e k)
 | .ofStr x=>eQ new (evE e x)
 | .fnil ng x y=>(z1 ng (evE e x) (evE e y)).map fun v=>(v,[])
 | .inil ng x y=>(zY ng (evE e x) (evE e y)).map fun v=>(v,[])
 | .idxb x y=>(zZ (evE e x) (evE e y)).map fun v=>(v,[])
 | .mki T x=>(Ld T (evE e x)).map fun v=>(v,[])
 | .mkmap=>some (.mp new,[(new,.mp [])])
 | .mlook kd co z x k=>(up kd co z (fun r=>lookB r σ) (evE e x) (evE e k)).map fun v=>(v,[])
 | .mset kd x k v=>(uo kd (fun r=>lookB r σ) (evE e x) (evE e k) (evE e v)).map fun d=>(.pv .undef,d)
 | .bslf sz len xs=>EP sz len (evL e xs)
 | .same x=>uj (fun r=>lookB r σ) (evE e x)
theorem Dz (e:List (Nat×AV))(σ:List (Nat×Blk))(n new:Nat)(o:XOp):o.run new (St.E ⟨e,σ,n⟩) (St.σ ⟨e,σ,n⟩)=HE e σ new o:=by
 cases o<;>simp only[XOp.run,HE,gE,B3]<;>rfl
def ky (G:Nat→List PV)(e:List (Nat×AV))(σ:List (Nat×Blk))(new:Nat):MOp→Option (AV×List (Nat×Blk))
 | .alloc T zs=>some (.ptr new 0,[(new,.cells T true (zs.map .pv))])
 | .box T x=>if (evE e x).known=true then some (.ptr new 0,[(new,.cells T true (evE e x).cells)]) else none
 | .cbox T x=>match (evE e x).toPV with
   | some p=>if p.cells.all PV.one=true then some (.pv (.eptr [p] 0 0),[(new,.none)]) else none
   | none=>none
 | .load g sz x=>(eb G g sz (fun r=>lookB r σ) (evE e x)).map fun v=>(v,[])
 | .store sz x v=>(fo sz (fun r=>lookB r σ) (evE e x) (evE e v)).map fun d=>(.pv .undef,d)
 | .clear sz zs x=>(lH sz zs (fun r=>lookB r σ) (evE e x)).map fun d=>(.pv (.tup []),d)
 | .toStr x=>(fm (fun r=>lookB r σ) (evE e x)).map fun v=>(v,[])
 | .xop o=>HE e σ new o
 | .bslice mu t sz len xs=>dN mu t sz len new (evL e xs)
 | .append mu t sz by_ x y=>dj mu t sz by_ new (fun r=>lookB r σ) (evE e x) (evE e y)
 | .mk mu t sz by_ zs x y=>rMk mu t sz by_ zs new (evE e x) (evE e y)
 | .sliceA n sz x lo hi=>match evE e x with
   | .ptr r o=>match lookB r σ with
     | .cells _ f l=>if f=true∧o+n*sz≤l.length∧(o=0→n*sz=l.length)∧n≤9223372036854775807 then (di sz (.row r sz o n) (evO e lo) (evO e hi)).map fun v=>(v,[]) else none
     | _=>none
   | _=>none
theorem vM (G:Nat→List PV)(e:List (Nat×AV))(σ:List (Nat×Blk))(n new:Nat)(o:MOp):o.run G new (St.E ⟨e,σ,n⟩) (St.σ ⟨e,σ,n⟩)=ky G e σ new o:=by
 cases o<;>first | (simp only[MOp.run,ky,gE,B3,Jg]<;>rfl) | exact Dz e σ n new _
def DE (δ:List (Nat×Blk)):Option AV→Option (AV×List (Nat×Blk))
 | some v=>some (v,δ)
 | none=>none
theorem p5 (δ:List (Nat×Blk))(v:AV):DE δ (some v)=some (v,δ):=_root_.id rfl
def HV (v:AV):Option (List (Nat×Blk))→Option (AV×List (Nat×Blk))
 | some δ=>some (v,δ)
 | none=>none
theorem pZ (δ:List (Nat×Blk))(v:AV):HV v (some δ)=some (v,δ):=_root_.id rfl
theorem rt (G:Nat→List PV)(e:List (Nat×AV))(σ:List (Nat×Blk))(new T:Nat)(zs:List PV):ky G e σ new (.alloc T zs)=some (.ptr new 0,[(new,.cells T true (zs.map .pv))]):=_root_.id rfl
def Nu (new T:Nat)(v:AV):Bool→Option (AV×List (Nat×Blk))
 | true=>some (.ptr new 0,[(new,.cells T true v.cells)])
 | false=>none
theorem JP (new T:Nat)(v:AV):Nu new T v true=some (.ptr new 0,[(new,.cells T true v.cells)]):=_root_.id rfl
theorem Bp (G:Nat→List PV)(e:List (Nat×AV))(σ:List (Nat×Blk))(new T:Nat)(x:AX):ky G e σ new (.box T x)=Nu new T (evE e x) (evE e x).known:=by
 simp only[ky];cases (evE e x).known<;>rfl
def F1 (new:Nat):Option PV→Option (AV×List (Nat×Blk))
 | some p=>if p.cells.all PV.one=true then some (.pv (.eptr [p] 0 0),[(new,.none)]) else none
 | none=>none
theorem sq (new:Nat)(p:PV):F1 new (some p)=if p.cells.all PV.one=true then some (.pv (.eptr [p] 0 0),[(new,.none)]) else none:=_root_.id rfl
theorem vN (G:Nat→List PV)(e:List (Nat×AV))(σ:List (Nat×Blk))(new T:Nat)(x:AX):ky G e σ new (.cbox T x)=F1 new (evE e x).toPV:=by
 simp only[ky,F1]
theorem Bx (p:PV):(AV.pv p).known=true:=_root_.id rfl
theorem vV (r o:Nat):(AV.ptr r o).known=true:=_root_.id rfl
theorem vU (r s o n:Nat):(AV.row r s o n).known=true:=_root_.id rfl
theorem nR (r s:Nat)(l:List PV):(AV.olist r s l).known=true:=_root_.id rfl
theorem vL (G:Nat→List PV)(e:List (Nat×AV))(σ:List (Nat×Blk))(new:Nat)(g:Bool)(sz:Nat)(x:AX):ky G e σ new (.load g sz x)=DE [] (eb G g sz (fun r=>lookB r σ) (evE e x)):=by
 simp only[ky];cases eb G g sz (fun r=>lookB r σ) (evE e x)<;>rfl
theorem rr (G:Nat→List PV)(e:List (Nat×AV))(σ:List (Nat×Blk))(new sz:Nat)(x v:AX):ky G e σ new (.store sz x v)=HV (.pv .undef) (fo sz (fun r=>lookB r σ) (evE e x) (evE e v)):=by
 simp only[ky];cases fo sz (fun r=>lookB r σ) (evE e x) (evE e v)<;>rfl
theorem nL (G:Nat→List PV)(e:List (Nat×AV))(σ:List (Nat×Blk))(new:Nat)(mu:Bool)(t sz len:Nat)(xs:List AX):ky G e σ new (.bslice mu t sz len xs)=dN mu t sz len new (evL e xs):=_root_.id rfl
theorem nM (G:Nat→List PV)(e:List (Nat×AV))(σ:List (Nat×Blk))(new:Nat)(mu:Bool)(t sz by_:Nat)(x y:AX):ky G e σ new (.append mu t sz by_ x y)=dj mu t sz by_ new (fun r=>lookB r σ) (evE e x) (evE e y):=_root_.id rfl
theorem Fg (G:Nat→List PV)(e:List (Nat×AV))(σ:List (Nat×Blk))(new:Nat)(mu:Bool)(t sz by_:Nat)(zs:List PV)(x y:AX):ky G e σ new (.mk mu t sz by_ zs x y)=rMk mu t sz by_ zs new (evE e x) (evE e y):=_root_.id rfl
theorem EL {e sz by_:Nat}{zs:List PV}{new:Nat}{k k':IntKind}{c:Int}(h:0≤c)(h1:(by_:Int)*c≤281474976710656)(h2:c≤9223372036854775807):rMk false e sz by_ zs new (.pv (.int k 0)) (.pv (.int k' c))=some (.olist new sz [],[(new,.tok e sz)]):=by
 simp[rMk,h,h1,h2]
def oz (sz r o:Nat)(v:AV):Blk→Option (List (Nat×Blk))
 | .cells T f l=>if v.known=true∧v.cells.length=sz∧v.cells.all AV.one=true∧o+sz≤l.length then some [(r,.cells T f (l.take o++v.cells++l.drop (o+sz)))] else none
 | _=>none
theorem qI (sz:Nat)(σ:aC)(r o:Nat)(v:AV):fo sz σ (.ptr r o) v=oz sz r o v (σ r):=by
 simp only[fo,oz];cases σ r<;>rfl
def CL (r T:Nat)(f:Bool)(l:List AV)(sz o:Nat)(cs:List AV):Bool→Option (List (Nat×Blk))
 | true=>some [(r,.cells T f (l.take o++cs++l.drop (o+sz)))]
 | false=>none
theorem lk (sz r o:Nat)(v:AV)(T:Nat)(f:Bool)(l:List AV):oz sz r o v (.cells T f l)=CL r T f l sz o v.cells (v.known&&decide (v.cells.length=sz)&&v.cells.all AV.one&&decide (o+sz≤l.length)):=by
 simp only[oz]
 by_cases h:v.known=true∧v.cells.length=sz∧v.cells.all AV.one=true∧o+sz≤l.length
 ·rw[if_pos h]
  have:(v.known&&decide (v.cells.length=sz)&&v.cells.all AV.one&&decide (o+sz≤l.length))=true:=by simp only[Bool.and_eq_true,decide_eq_true_eq];exact⟨⟨⟨h.1,h.2.1⟩,h.2.2.1⟩,h.2.2.2⟩
  rw[this];rfl
 ·rw[if_neg h]
  have:(v.known&&decide (v.cells.length=sz)&&v.cells.all AV.one&&decide (o+sz≤l.length))=false:=by
   rw[Bool.eq_false_iff]
   intro hh
   simp only[Bool.and_eq_true,decide_eq_true_eq] at hh
   exact h ⟨hh.1.1.1,hh.1.1.2,hh.1.2,hh.2⟩
  rw[this];rfl
theorem zb (r T:Nat)(f:Bool)(l:List AV)(sz o:Nat)(cs:List AV):CL r T f l sz o cs true=some [(r,.cells T f (l.take o++cs++l.drop (o+sz)))]:=_root_.id rfl
theorem km {n m by_:Nat}(h1:n+m≤9223372036854775807)(h2:(n+m)*by_≤140737488355328):k9 n m by_=true:=by
 simp[k9,h1,h2]
theorem yH (l:List (Nat×Blk)):ke l []=l:=_root_.id rfl
theorem tq (l:List (Nat×Blk))(p:Nat×Blk)(r:List (Nat×Blk)):ke l (p::r)=ke (p::l) r:=_root_.id rfl
theorem Cd (f:Nat)(a b:List PV):cN (.pv (.clo f a b))=some (f,a.map .pv,b.map .pv):=_root_.id rfl
theorem Ce (f:Nat)(a b:List AV):cN (.clo f a b)=some (f,a,b):=_root_.id rfl
theorem EZ {α:Type}(a:α)(k:α→Prop):aH (some a) k=k a:=_root_.id rfl
section
variable {P:Program}{G:Nat→List PV}
theorem Bd (F:St→Prop)(e:List (Nat×AV))(σ:List (Nat×Blk))(n d:Nat)(v:AV):Fb F ⟨e,σ,n⟩ (some d) v=F ⟨(d,v)::e,σ,n⟩:=_root_.id rfl
theorem Bf (F:St→Prop)(e:List (Nat×AV))(σ:List (Nat×Blk))(n d:Nat)(v:AV)(δ:List (Nat×Blk)):rh F ⟨e,σ,n⟩ (some d) (v,δ)=F ⟨(d,v)::e,ke σ δ,n+1⟩:=_root_.id rfl
theorem Be (F:St→Prop)(e:List (Nat×AV))(σ:List (Nat×Blk))(n:Nat)(v:AV)(δ:List (Nat×Blk)):rh F ⟨e,σ,n⟩ none (v,δ)=F ⟨e,ke σ δ,n+1⟩:=_root_.id rfl
theorem Bg (F:St→Prop)(e:List (Nat×AV))(σ:List (Nat×Blk))(n d:Nat)(v:AV):Fc F (some d) v ⟨e,σ,n⟩=F ⟨(d,v)::e,σ,n⟩:=_root_.id rfl
theorem Ch (args:List AV)(s:St)(K:AV→St→Prop)(f:Nat)(a b:List AV):xz P G args s K (f,a,b)=ab P G f (a++args++b) s K:=_root_.id rfl
theorem s7 (F:St→Prop)(s:St):cZ P G [] F s=F s:=_root_.id rfl
theorem p7 (d:Option Nat)(o:AOp)(r:List AOper)(F:St→Prop)(s:St):cZ P G (⟨d,o,none⟩::r) F s=jk P G (cZ P G r F) s d o:=_root_.id rfl
def g9 (b:Bool):AV→Option Bool
 | .pv (.bool x)=>some (x == b)
 | .pv .undef=>some false
 | _=>none
theorem sP (x:Bool):g9 true (.pv (.bool x))=some x:=by cases x<;>rfl
theorem sQ (x:Bool):g9 false (.pv (.bool x))=some (!x):=by cases x<;>rfl
theorem sO (b:Bool):g9 b (.pv .undef)=some false:=_root_.id rfl
theorem mL (d:Option Nat)(o:AOp)(i:Nat)(b:Bool)(r:List AOper)(F:St→Prop)(e:List (Nat×AV))(σ:List (Nat×Blk))(n:Nat) :
  cZ P G (⟨d,o,some (i,b)⟩::r) F ⟨e,σ,n⟩=aH (g9 b (look i e)) (FP P G (cZ P G r F) ⟨e,σ,n⟩ d o):=_root_.id rfl
theorem wU (F:St→Prop)(s:St)(d:Option Nat)(o:AOp):FP P G F s d o true=jk P G F s d o:=_root_.id rfl
theorem rY (F:St→Prop)(e:List (Nat×AV))(σ:List (Nat×Blk))(n:Nat)(d:Nat)(o:AOp):FP P G F ⟨e,σ,n⟩ (some d) o false=F ⟨(d,.pv .undef)::e,σ,n⟩:=_root_.id rfl
def IO (k:AV→Prop):AV→Prop
 | .pv (.list [])=>∀ b:Bool,k (.pv (.bool b))
 | _=>False
def ku (x:Option AV)(k:AV→Prop)(e:List (Nat×AV))(o:TOp):Prop:=
 match x with
 | some v=>k v
 | none=>match o with
   | .beq 2 _ y (.c .nils)=>IO k (evE e y)
   | _=>False
theorem lK (v:AV)(k:AV→Prop)(e:List (Nat×AV))(o:TOp):ku (some v) k e o=k v:=_root_.id rfl
theorem lL (k:AV→Prop)(e:List (Nat×AV))(ng:Bool)(y:AX):ku none k e (.beq 2 ng y (.c .nils))=IO k (evE e y):=_root_.id rfl
theorem A9 (k:AV→Prop):IO k (.pv (.list [])) = ∀ b:Bool,k (.pv (.bool b)):=_root_.id rfl
theorem Aj (ng:Bool):ER ng (C2 2 (.pv (.list [])) (.pv .nils))=none:=_root_.id rfl
theorem Jl (F:St→Prop)(e:List (Nat×AV))(σ:List (Nat×Blk))(n:Nat)(d:Option Nat)(o:TOp):jk P G F ⟨e,σ,n⟩ d (.t o)=ku (gd e o) (Fb F ⟨e,σ,n⟩ d) e o:=by
 rw[← tB e σ n]
 show fR (o.run (St.E ⟨e,σ,n⟩)) _ _=_
 cases hr:o.run (St.E ⟨e,σ,n⟩) with
 | some v=>rfl
 | none=>
   simp only[fR,ku]
   refine propext ⟨fun h=>?_,fun h=>?_⟩
   ·obtain⟨h1,h2⟩:=h
    unfold IP at h1
    split at h1
    ·split at h1
     ·rename_i hev
      rw[gE] at hev
      show IO _ _
      rw[hev];exact h2
     ·cases h1
    ·cases h1
   ·split at h
    ·rename_i y
     unfold IO at h
     split at h
     ·rename_i hev
      refine⟨?_,h⟩
      simp only[IP]
      rw[gE,hev]
     ·exact h.elim
    ·exact h.elim
theorem Jm (F:St→Prop)(e:List (Nat×AV))(σ:List (Nat×Blk))(n:Nat)(d:Option Nat)(o:MOp):jk P G F ⟨e,σ,n⟩ d (.m o)=aH (ky G e σ n o) (rh F ⟨e,σ,n⟩ d):=by
 rw[← vM G e σ n];rfl
theorem wT (F:St→Prop)(e:List (Nat×AV))(σ:List (Nat×Blk))(n:Nat)(d:Option Nat)(f:AX)(xs:List AX):jk P G F ⟨e,σ,n⟩ d (.call f xs)=aH (cN (evE e f)) (xz P G (evL e xs) ⟨e,σ,n⟩ (Fc F d)):=by
 rw[← gE e σ n,← wJ e σ n];rfl
theorem zd (F:List (List Nat×List Nat)→St→Prop)(T:List (List Nat×List Nat))(e:List (Nat×AV))(σ:List (Nat×Blk))(n d:Nat)(v:AV):ze F T ⟨e,σ,n⟩ (some d) v=F (T++[([],[])]) ⟨(d,v)::e,σ,n⟩:=_root_.id rfl
theorem zg (F:List (List Nat×List Nat)→St→Prop)(T:List (List Nat×List Nat))(e:List (Nat×AV))(σ:List (Nat×Blk))(n d k:Nat)(rd:List Nat)(v:AV)(δ:List (Nat×Blk)):tK F T ⟨e,σ,n⟩ (some d) k rd (v,δ)=F (T++[eO k (aS δ) rd]) ⟨(d,v)::e,ke σ δ,n+1⟩:=_root_.id rfl
theorem zf (F:List (List Nat×List Nat)→St→Prop)(T:List (List Nat×List Nat))(e:List (Nat×AV))(σ:List (Nat×Blk))(n k:Nat)(rd:List Nat)(v:AV)(δ:List (Nat×Blk)):tK F T ⟨e,σ,n⟩ none k rd (v,δ)=F (T++[eO k (aS δ) rd]) ⟨e,ke σ δ,n+1⟩:=_root_.id rfl
theorem aA {F:List (List Nat×List Nat)→St→Prop}{T:List (List Nat×List Nat)}{e:List (Nat×AV)}{σ:List (Nat×Blk)}{n d:Nat}{f:Nat}{a b args:List AV}{ps:List PV}{r:PV}(h:ag P G f ps r)(he:pvs (a++args++b)=some ps)
  (hk:F (T++[([],[])]) ⟨(d,.pv r)::e,σ,n⟩):j3 P G F T ⟨e,σ,n⟩ (some d) args (f,a,b):=.inl ⟨ps,r,he,h,hk⟩
theorem Ip (ks rs:List Nat):eO 0 ks rs=(ks.map (· + 1),rs.map (· + 1)):=_root_.id rfl
theorem Io (ks rs:List Nat):eO 1 ks rs=(ks.map (· + 1),0::rs.map (· + 1)):=_root_.id rfl
theorem nK (g:Bool)(sz:Nat)(x:AX):dD (.load g sz x)=0:=_root_.id rfl
theorem lW (sz:Nat)(x v:AX):dD (.store sz x v)=0:=_root_.id rfl
theorem lX (T:Nat)(z:List PV):dD (.alloc T z)=1:=_root_.id rfl
theorem kw (m:Bool)(e s l:Nat)(x:List AX):dD (.bslice m e s l x)=1:=_root_.id rfl
theorem kx (m:Bool)(e s l:Nat)(x y:AX):dD (.append m e s l x y)=1:=_root_.id rfl
theorem DK {A:List (List Nat)}{F:St→Prop}{T:List (List Nat×List Nat)}{s:St}(h:Chk (okB A T)):vcD P G A F [] T s=F s:=by
 show (okB A T=true∧F s)=F s
 rw[eq_iff_iff]
 exact⟨fun x=>x.2,fun x=>⟨h,x⟩⟩
theorem yG (A:List (List Nat))(F:St→Prop)(d:Option Nat)(o:AOp)(r:List AOper)(T:List (List Nat×List Nat))(s:St):vcD P G A F (⟨d,o,none⟩::r) T s=fD P G (vcD P G A F r) T s d o:=_root_.id rfl
theorem s8 (A:List (List Nat))(F:St→Prop)(d:Option Nat)(o:AOp)(i:Nat)(b:Bool)(r:List AOper)(T:List (List Nat×List Nat))(e:List (Nat×AV))(σ:List (Nat×Blk))(n:Nat) :
  vcD P G A F (⟨d,o,some (i,b)⟩::r) T ⟨e,σ,n⟩=aH (g9 b (look i e)) (nZ P G (vcD P G A F r) T ⟨e,σ,n⟩ d o):=_root_.id rfl
theorem rZ (F:List (List Nat×List Nat)→St→Prop)(T:List (List Nat×List Nat))(s:St)(d:Option Nat)(o:AOp):nZ P G F T s d o true=fD P G F T s d o:=_root_.id rfl
theorem nY (F:List (List Nat×List Nat)→St→Prop)(T:List (List Nat×List Nat))(e:List (Nat×AV))(σ:List (Nat×Blk))(n:Nat)(d:Nat)(o:AOp):nZ P G F T ⟨e,σ,n⟩ (some d) o false=F (T++[([],[])]) ⟨(d,.pv .undef)::e,σ,n⟩:=_root_.id rfl
theorem FN (F:List (List Nat×List Nat)→St→Prop)(T:List (List Nat×List Nat))(e:List (Nat×AV))(σ:List (Nat×Blk))(n:Nat)(d:Option Nat)(o:TOp):fD P G F T ⟨e,σ,n⟩ d (.t o)=aH (gd e o) (ze F T ⟨e,σ,n⟩ d):=by
 rw[← tB e σ n];rfl
def CF (e:List (Nat×AV)):XOp→List Nat
 | .cap _ x=>(evE e x).name
 | .resl _ x _=>(evE e x).name
 | .copy _ x y | .apart x y=>(evE e x).name++(evE e y).name
 | .appz _ _ _ _ x _=>(evE e x).name
 | .ucast _ _ _ x | .apps _ _ x _ | .ustr _ x _ | .same x=>(evE e x).name
 | .noesc _ | .peq _ _ _ | .anyc | .sdata _ | .ofStr _ | .fnil _ _ _ | .inil _ _ _ | .idxb _ _ | .mki _ _ | .mkmap | .bslf _ _ _=>[]
 | .mlook _ _ _ x _ | .mset _ x _ _=>(evE e x).name
def gm (e:List (Nat×AV)):MOp→List Nat
 | .xop o=>CF e o
 | .load _ _ x | .sliceA _ _ x _ _ | .clear _ _ x | .toStr x=>(evE e x).name
 | .append _ _ _ _ x y=>(evE e x).name++(evE e y).name
 | .store _ x _=>(evE e x).name
 | .alloc _ _ | .box _ _ | .cbox _ _ | .bslice _ _ _ _ _ | .mk _ _ _ _ _ _ _=>[]
theorem nN (e:List (Nat×AV))(g:Bool)(sz:Nat)(x:AX):gm e (.load g sz x)=(evE e x).name:=_root_.id rfl
theorem l6 (e:List (Nat×AV))(T:Nat)(x:List PV):gm e (.alloc T x)=[]:=_root_.id rfl
theorem lY (e:List (Nat×AV))(sz:Nat)(x v:AX):gm e (.store sz x v)=(evE e x).name:=_root_.id rfl
theorem kA (e:List (Nat×AV))(mu:Bool)(t sz b:Nat)(x y:AX):gm e (.append mu t sz b x y)=(evE e x).name++(evE e y).name:=_root_.id rfl
theorem kz (e:List (Nat×AV))(mu:Bool)(t sz b:Nat)(x:List AX):gm e (.bslice mu t sz b x)=[]:=_root_.id rfl
theorem Fd (p:PV):(AV.pv p).name=[]:=_root_.id rfl
theorem Bk (r o:Nat):(AV.ptr r o).name=[r]:=_root_.id rfl
theorem Bj (r s o n:Nat):(AV.row r s o n).name=[r]:=_root_.id rfl
theorem rm (r s:Nat)(l:List PV):(AV.olist r s l).name=[r]:=_root_.id rfl
theorem vX:aS ([]:List (Nat×Blk))=[]:=_root_.id rfl
theorem rD (r:Nat)(B:Blk)(q:List (Nat×Blk)):aS ((r,B)::q)=r::aS q:=_root_.id rfl
theorem FO (F:List (List Nat×List Nat)→St→Prop)(T:List (List Nat×List Nat))(e:List (Nat×AV))(σ:List (Nat×Blk))(n:Nat)(d:Option Nat)(o:MOp):fD P G F T ⟨e,σ,n⟩ d (.m o)=aH (ky G e σ n o) (tK F T ⟨e,σ,n⟩ d (dD o) (gm e o)):=by
 have:gm e o=o.reads (St.E ⟨e,σ,n⟩):=by
  cases o<;>simp only[gm,MOp.reads,gE]
  rename_i o
  cases o<;>simp only[CF,XOp.reads,gE]
 rw[← vM G e σ n,this];rfl
theorem rX (F:List (List Nat×List Nat)→St→Prop)(T:List (List Nat×List Nat))(e:List (Nat×AV))(σ:List (Nat×Blk))(n:Nat)(d:Option Nat)(f:AX)(xs:List AX):fD P G F T ⟨e,σ,n⟩ d (.call f xs)=aH (cN (evE e f)) (j3 P G F T ⟨e,σ,n⟩ d (evL e xs)):=by
 rw[← gE e σ n,← wJ e σ n];rfl
def se (e:List (Nat×AV)):List Nat→List (Nat×AV)
 | []=>[]
 | k::r=>(k,look k e)::se e r
theorem w8 (e:List (Nat×AV)):se e []=[]:=_root_.id rfl
theorem sd (e:List (Nat×AV))(k:Nat)(r:List Nat):se e (k::r)=(k,look k e)::se e r:=_root_.id rfl
theorem pB (e:List (Nat×AV))(σ:List (Nat×Blk))(n:Nat):∀ (l:List Nat),l.map (fun i=>(i,St.E ⟨e,σ,n⟩ i))=se e l
 | []=>rfl
 | k::r=>by rw[List.map_cons,pB e σ n r];rfl
theorem w9 (seen:List Nat):gu seen []=[]:=_root_.id rfl
theorem sf (seen:List Nat)(k:Nat)(b:Blk)(r:List (Nat×Blk)):gu seen ((k,b)::r)=r7 k b (gu (k::seen) r) (o8 k seen):=_root_.id rfl
theorem FQ (k:Nat)(b:Blk)(r:List (Nat×Blk)):r7 k b r true=r:=_root_.id rfl
theorem FS (k:Nat)(b:Blk)(r:List (Nat×Blk)):r7 k b r false=(k,b)::r:=_root_.id rfl
theorem Bm (k:Nat):o8 k []=false:=_root_.id rfl
theorem IR (k j:Nat)(r:List Nat):o8 k (j::r)=if j=k then true else o8 k r:=_root_.id rfl
theorem A7 (Q:AExit→St→Prop)(keep:List Nat)(e:List (Nat×AV))(σ:List (Nat×Blk))(n:Nat):nC Q keep ⟨e,σ,n⟩=Q .norm ⟨se e keep,gu [] σ,n⟩:=by
 rw[← pB e σ n];rfl
theorem xZ (F:St→Prop)(Q:AExit→St→Prop)(s:St):J5 F Q .norm s=F s:=_root_.id rfl
theorem x4 (F:St→Prop)(Q:AExit→St→Prop)(i:Nat)(s:St):J5 F Q (.exit i) s=Q (.exit i) s:=_root_.id rfl
theorem Cy (F:St→Prop)(Q:AExit→St→Prop)(s:St):J5 F Q .ret s=Q .ret s:=_root_.id rfl
theorem oo (id:Nat)(Q:AExit→St→Prop)(s:St):ji id Q .norm s=Q .norm s:=_root_.id rfl
theorem oq (id:Nat)(Q:AExit→St→Prop)(i:Nat)(s:St):ji id Q (.exit i) s=if i=id then Q .norm s else Q (.exit i) s:=_root_.id rfl
theorem sD (id:Nat)(Q:AExit→St→Prop)(s:St):ji id Q .ret s=Q .ret s:=_root_.id rfl
theorem DG (m0:Nat)(Q:AExit→St→Prop)(s:St):vc P G m0 .skip Q s=Q .norm s:=_root_.id rfl
theorem H0 (m0:Nat)(l:List AOper)(keep:List Nat)(Q:AExit→St→Prop)(s:St):vc P G m0 (.ops l keep) Q s=cZ P G l (nC Q keep) s:=_root_.id rfl
theorem DI (m0:Nat)(A:List (List Nat))(l l2:List AOper)(keep:List Nat)(Q:AExit→St→Prop)(s:St):vc P G m0 (.draw A l l2 keep) Q s=vcD P G A (cZ P G l2 (nC Q keep)) l [] s:=_root_.id rfl
theorem FM (F:St→Prop)(e:List (Nat×AV))(σ:List (Nat×Blk))(n:Nat)(d:Option Nat)(g:Option (Bool×Nat))(x:AX):jk P G F ⟨e,σ,n⟩ d (.fz g x)=aH (FG G (fun r=>lookB r σ) g (evE e x)) (rh F ⟨e,σ,n⟩ d):=by
 rw[← gE e σ n];rfl
theorem HY (m0:Nat)(a b:ACode)(Q:AExit→St→Prop)(s:St):vc P G m0 (.seq a b) Q s=vc P G m0 a (J5 (vc P G m0 b Q) Q) s:=_root_.id rfl
theorem DJ (m0:Nat)(x:AX)(a b:ACode)(Q:AExit→St→Prop)(e:List (Nat×AV))(σ:List (Nat×Blk))(n:Nat):vc P G m0 (.cond x a b) Q ⟨e,σ,n⟩=lM (evE e x) (vc P G m0 a Q) (vc P G m0 b Q) ⟨e,σ,n⟩:=by
 rw[← gE e σ n];rfl
theorem yF (m0 id:Nat)(b:ACode)(Q:AExit→St→Prop)(s:St):vc P G m0 (.block id b) Q s=vc P G m0 b (ji id Q) s:=_root_.id rfl
theorem DH (m0 id:Nat)(Q:AExit→St→Prop)(s:St):vc P G m0 (.exit id) Q s=Q (.exit id) s:=_root_.id rfl
theorem HZ (m0:Nat)(Q:AExit→St→Prop)(s:St):vc P G m0 .ret Q s=Q .ret s:=_root_.id rfl
theorem A5 (b:Bool)(F H:St→Prop)(s:St):lM (.pv (.bool b)) F H s=ifB b F H s:=by cases b<;>rfl
theorem Mb (F H:St→Prop)(s:St):ifB true F H s=F s:=_root_.id rfl
theorem Mc (F H:St→Prop)(s:St):ifB false F H s=H s:=_root_.id rfl
def Iw (G:Nat→List PV)(e:List (Nat×AV))(σ:List (Nat×Blk)):ARes→Option AV
 | .tmp t=>some (look t e)
 | .cell t g sz=>eb G g sz (fun r=>lookB r σ) (look t e)
theorem zz (e:List (Nat×AV))(σ:List (Nat×Blk))(t:Nat):Iw G e σ (.tmp t)=some (look t e):=_root_.id rfl
theorem ua (e:List (Nat×AV))(σ:List (Nat×Blk))(t:Nat)(g:Bool)(sz:Nat):Iw G e σ (.cell t g sz)=eb G g sz (fun r=>lookB r σ) (look t e):=_root_.id rfl
theorem CC (res:List ARes)(R:AV→List (Nat×Blk)→Nat→Prop)(s:St):FnK G res R .norm s=aH (en G s res) (CY R s):=_root_.id rfl
theorem Gp (res:List ARes)(R:AV→List (Nat×Blk)→Nat→Prop)(s:St):FnK G res R .ret s=aH (en G s res) (CY R s):=_root_.id rfl
theorem EB (R:AV→List (Nat×Blk)→Nat→Prop)(e:List (Nat×AV))(σ:List (Nat×Blk))(n:Nat)(l:List AV):CY R ⟨e,σ,n⟩ l=R (sE l) σ n:=_root_.id rfl
theorem It (x:AV):sE [x]=x:=_root_.id rfl
theorem Iu:sE [] = .pv (.tup []):=_root_.id rfl
theorem Is (x y:AV)(r:List AV):sE (x::y::r)=lU (x::y::r):=_root_.id rfl
def Jr:Option AV→Option (List AV)→Option (List AV)
 | some a,some b=>some (a::b)
 | _,_=>none
theorem r8 (a:AV)(b:List AV):Jr (some a) (some b)=some (a::b):=_root_.id rfl
theorem t8 (s:St):en G s []=some []:=_root_.id rfl
theorem qD (e:List (Nat×AV))(σ:List (Nat×Blk))(n:Nat)(r:ARes)(q:List ARes):en G ⟨e,σ,n⟩ (r::q)=Jr (Iw G e σ r) (en G ⟨e,σ,n⟩ q):=by
 have:Iv G ⟨e,σ,n⟩ r=Iw G e σ r:=by cases r<;>rfl
 show (match Iv G ⟨e,σ,n⟩ r,en G ⟨e,σ,n⟩ q with | some a,some b=>some (a::b) | _,_=>none)=_
 rw[this]
 cases Iw G e σ r<;>cases en G ⟨e,σ,n⟩ q<;>rfl
theorem Ao (r:PV)(v:AV)(σ:List (Nat×Blk))(n:Nat):IE r v σ n=isR r σ v:=_root_.id rfl
theorem I1 (r p:PV)(σ:List (Nat×Blk)):isR r σ (.pv p)=Nz p r:=propext ⟨fun ⟨q,h,g⟩=>by cases h;exact g,fun h=>⟨(p,[]),rfl,h⟩⟩
theorem v8 (r:PV)(k sz:Nat)(l:List PV)(σ:List (Nat×Blk)):isR r σ (.olist k sz l)=Nz (.list l) r:=propext ⟨fun ⟨q,h,g⟩=>by cases h;exact g,fun h=>⟨(.list l,[]),rfl,h⟩⟩
def rH:List AV→Nat→List (Nat×AV)
 | [],_=>[]
 | x::r,k=>(k,x)::rH r (k+1)
theorem wc (k:Nat):rH [] k=[]:=_root_.id rfl
theorem rG (x:AV)(r:List AV)(k:Nat):rH (x::r) k=(k,x)::rH r (k+1):=_root_.id rfl
theorem wb:∀ (args:List AV) (k:Nat),((args.zipIdx k).map fun p=>(p.2,p.1))=rH args k
 | [],k=>rfl
 | x::r,k=>by rw[List.zipIdx_cons,List.map_cons,wb r (k+1)];rfl
theorem rF (args:List AV):cJ args=rH args 0:=wb args 0
theorem LF {ι:Type}(S:ι→St)(Inv:ι→Prop)(μ:ι→Nat)(x0:ι){m0:Nat}{keep:List Nat}{b:ACode}{Q:AExit→St→Prop}{s:St}(h0:Wk m0 s (S x0))(hi:Inv x0)
  (h:∀ x,Inv x→vc P G m0 b (fun e s'=>match e with
   | .norm=>∃ x',Wk m0 s' (S x')∧Inv x'∧μ x'<μ x
   | .exit i=>Q (.exit i) s'
   | .ret=>Q .ret s') (S x)):vc P G m0 (.loop keep b) Q s:=by
 refine⟨fun n s=>∃ x,s=S x∧Inv x∧μ x=n,⟨μ x0,S x0,h0,x0,rfl,hi,rfl⟩,?_⟩
 rintro n s ⟨x,rfl,hx,rfl⟩
 refine cD b (fun e s' hs=>?_) _ (h x hx)
 cases e with
 | norm=>
   obtain⟨x',h1,h2,h3⟩:=hs
   exact⟨_,_,h3,h1,x',rfl,h2,rfl⟩
 | exit i=>exact⟨s',Wk.of (Wx.refl s') m0,hs⟩
 | ret=>exact hs
def Hd (A:List (Nat×Nat×Nat×Nat))(m0:Nat)(keep:List Nat)(s t:St):Prop:=Wk m0 s t
theorem aT {A:List (Nat×Nat×Nat×Nat)}{m0:Nat}{keep:List Nat}{s t:St}(h:StZ (dR A m0 keep s) t):Hd A m0 keep s t:=Wk.head h
def j7 {ι:Type}(A:List (Nat×Nat×Nat×Nat))(S:ι→St)(Inv:ι→Prop)(μ:ι→Nat)(x:ι)(m0:Nat)(keep:List Nat)(Q:AExit→St→Prop):AExit→St→Prop
 | .norm,s'=>∃ x',Hd A m0 keep s' (S x')∧Inv x'∧μ x'<μ x
 | .exit i,s'=>Q (.exit i) s'
 | .ret,s'=>Q .ret s'
theorem og {ι:Type}(A:List (Nat×Nat×Nat×Nat))(S:ι→St)(Inv:ι→Prop)(μ:ι→Nat)(x:ι)(m0:Nat)(keep:List Nat)(Q:AExit→St→Prop)(s:St):j7 A S Inv μ x m0 keep Q .norm s = ∃ x',Hd A m0 keep s (S x')∧Inv x'∧μ x'<μ x:=_root_.id rfl
theorem oh {ι:Type}(A:List (Nat×Nat×Nat×Nat))(S:ι→St)(Inv:ι→Prop)(μ:ι→Nat)(x:ι)(m0:Nat)(keep:List Nat)(Q:AExit→St→Prop)(i:Nat)(s:St):j7 A S Inv μ x m0 keep Q (.exit i) s=Q (.exit i) s:=_root_.id rfl
theorem sB {ι:Type}(A:List (Nat×Nat×Nat×Nat))(S:ι→St)(Inv:ι→Prop)(μ:ι→Nat)(x:ι)(m0:Nat)(keep:List Nat)(Q:AExit→St→Prop)(s:St):j7 A S Inv μ x m0 keep Q .ret s=Q .ret s:=_root_.id rfl
theorem sY {ι:Type}(A:List (Nat×Nat×Nat×Nat))(S:ι→St)(Inv:ι→Prop)(μ:ι→Nat)(x0:ι){m0:Nat}{keep:List Nat}{b:ACode}{Q:AExit→St→Prop}{s:St}(h0:Hd A m0 keep s (S x0))(hi:Inv x0)
  (h:∀ x,Inv x→vc P G m0 b (j7 A S Inv μ x m0 keep Q) (S x)):vc P G m0 (.loop keep b) Q s:=by
 refine LF S Inv μ x0 h0 hi fun x hx=>?_
 have e:(fun (e:AExit) (s':St)=>match e with
   | .norm=>∃ x',Wk m0 s' (S x')∧Inv x'∧μ x'<μ x
   | .exit i=>Q (.exit i) s'
   | .ret=>Q .ret s')=j7 A S Inv μ x m0 keep Q:=by
  funext e s'
  cases e<;>rfl
 rw[e];exact h x hx
def qS (k:Nat)(x:AV):List (Nat×AV)→AV
 | []=>x
 | p::r=>if p.1=k then p.2 else qS k x r
def eY:List (Nat×AV)→List (Nat×AV)→List (Nat×AV)
 | [],_=>[]
 | p::r,ch=>(p.1,qS p.1 p.2 ch)::eY r ch
def qU (k:Nat)(x:Blk):List (Nat×Blk)→Blk
 | []=>x
 | p::r=>if p.1=k then p.2 else qU k x r
def fP:List (Nat×Blk)→List (Nat×Blk)→List (Nat×Blk)
 | [],_=>[]
 | p::r,ch=>(p.1,qU p.1 p.2 ch)::fP r ch
theorem uL (k:Nat)(x:AV):qS k x []=x:=_root_.id rfl
theorem qR (k j:Nat)(x y:AV)(r:List (Nat×AV)):qS k x ((j,y)::r)=if j=k then y else qS k x r:=_root_.id rfl
theorem uZ (ch:List (Nat×AV)):eY [] ch=[]:=_root_.id rfl
theorem qZ (k:Nat)(x:AV)(r ch:List (Nat×AV)):eY ((k,x)::r) ch=(k,qS k x ch)::eY r ch:=_root_.id rfl
theorem uM (k:Nat)(x:Blk):qU k x []=x:=_root_.id rfl
theorem qT (k j:Nat)(x y:Blk)(r:List (Nat×Blk)):qU k x ((j,y)::r)=if j=k then y else qU k x r:=_root_.id rfl
theorem u6 (ch:List (Nat×Blk)):fP [] ch=[]:=_root_.id rfl
theorem q0 (k:Nat)(x:Blk)(r ch:List (Nat×Blk)):fP ((k,x)::r) ch=(k,qU k x ch)::fP r ch:=_root_.id rfl
theorem aw {ι:Type}(A:List (Nat×Nat×Nat×Nat))(ch:ι→List (Nat×AV))(chB:ι→List (Nat×Blk))(Inv:ι→Prop)(μ:ι→Nat)(x0:ι){m0:Nat}{keep:List Nat}{b:ACode}{Q:AExit→St→Prop}{s:St}
  (h:∀ e0 σ0 n0,dR A m0 keep s=⟨e0,σ0,n0⟩→StZ ⟨e0,σ0,n0⟩ ⟨eY e0 (ch x0),fP σ0 (chB x0),n0⟩∧Inv x0 ∧
   ∀ x,Inv x→vc P G m0 b (j7 A (fun x=>⟨eY e0 (ch x),fP σ0 (chB x),n0⟩) Inv μ x m0 keep Q) ⟨eY e0 (ch x),fP σ0 (chB x),n0⟩):vc P G m0 (.loop keep b) Q s:=by
 obtain⟨h1,h2,h3⟩:=h (dR A m0 keep s).env (dR A m0 keep s).sto (dR A m0 keep s).next rfl
 exact sY A (fun x=>⟨eY (dR A m0 keep s).env (ch x),fP (dR A m0 keep s).sto (chB x),(dR A m0 keep s).next⟩) Inv μ x0 (aT h1) h2 h3
end
end Go.Ab
namespace Go.Ab
open Go Go.RowKit
theorem zO (k k':IntKind)(x y:Int):EM (.pv (.int k x)) (.pv (.int k' y))=some (.pv (.int k (min x y))):=by
 simp only[EM,Option.some.injEq,AV.pv.injEq,PV.int.injEq,true_and]
 split<;>omega
theorem zP (k k':IntKind)(x y:Int):EN (.pv (.int k x)) (.pv (.int k' y))=some (.pv (.int k (max x y))):=by
 simp only[EN,Option.some.injEq,AV.pv.injEq,PV.int.injEq,true_and]
 split<;>omega
theorem map_take {α β:Type}(f:α→β)(l:List α)(n:Nat):(l.map f).take n=(l.take n).map f:=List.map_take.symm
theorem map_drop {α β:Type}(f:α→β)(l:List α)(n:Nat):(l.map f).drop n=(l.drop n).map f:=List.map_drop.symm
theorem vu {α β:Type}(f:α→β):(none:Option α).map f=none:=_root_.id rfl
def fH (mu:Bool)(e sz by_ new:Nat)(σ:aC)(x:AV):Option (List PV)→Option (AV×List (Nat×Blk))
 | some ys=>match mu,x with
   | false,.pv .nils=>match ys with
     | []=>some (.pv .nils,[])
     | y::r=>if k9 0 (r.length+1) by_=true then some (.olist new sz (y::r),[(new,.tok e sz)]) else none
   | false,.olist q s l=>match σ q with
     | .tok e' sz'=>if e'=e∧sz'=sz∧s=sz∧k9 l.length ys.length by_=true then some (.olist new sz (l++ys),[(q,.none),(new,.tok e sz)]) else none
     | _=>none
   | true,.pv .nils=>match ys with
     | []=>some (.pv .nils,[])
     | y::r=>if k9 0 (r.length+1) by_=true then some (.row new sz 0 (r.length+1),[(new,.cells e false (eh (y::r)))]) else none
   | true,.row q s off len=>match σ q with
     | .cells e' _ l=>if e'=e∧s=sz∧off=0∧len*sz≤l.length∧k9 len ys.length by_=true then some (.row new sz 0 (len+ys.length),[(q,.none),(new,.cells e false (l.take (len*sz)++eh ys))]) else none
     | _=>none
   | _,_=>none
 | none=>none
def Cp (e sz by_ new q s:Nat)(l ys:List PV):Blk→Option (AV×List (Nat×Blk))
 | .tok e' sz'=>if e'=e∧sz'=sz∧s=sz∧k9 l.length ys.length by_=true then some (.olist new sz (l++ys),[(q,.none),(new,.tok e sz)]) else none
 | _=>none
def xP (e sz by_ new q s off len:Nat)(ys:List PV):Blk→Option (AV×List (Nat×Blk))
 | .cells e' _ l=>if e'=e∧s=sz∧off=0∧len*sz≤l.length∧k9 len ys.length by_=true then some (.row new sz 0 (len+ys.length),[(q,.none),(new,.cells e false (l.take (len*sz)++eh ys))]) else none
 | _=>none
theorem qP (mu:Bool)(e sz by_ new:Nat)(σ:aC)(x y:AV):dj mu e sz by_ new σ x y=fH mu e sz by_ new σ x (bk σ sz y):=by
 unfold dj fH
 cases bk σ sz y<;>rfl
theorem JS (e sz by_ new:Nat)(σ:aC)(q s:Nat)(l ys:List PV):fH false e sz by_ new σ (.olist q s l) (some ys)=Cp e sz by_ new q s l ys (σ q):=by
 simp only[fH,Cp]
theorem Co {e sz by_ new q:Nat}{l ys:List PV}(h1:l.length+ys.length≤9223372036854775807)(h2:(l.length+ys.length)*by_≤140737488355328):Cp e sz by_ new q sz l ys (.tok e sz)=some (.olist new sz (l++ys),[(q,.none),(new,.tok e sz)]):=by
 simp[Cp,km h1 h2]
theorem Cm (e sz by_ new:Nat)(σ:aC):fH false e sz by_ new σ (.pv .nils) (some [])=some (.pv .nils,[]):=_root_.id rfl
theorem Cl {e sz by_ new:Nat}{σ:aC}{y:PV}{r:List PV}(h1:r.length+1≤9223372036854775807)(h2:(r.length+1)*by_≤140737488355328):fH false e sz by_ new σ (.pv .nils) (some (y::r))=some (.olist new sz (y::r),[(new,.tok e sz)]):=by
 simp only[fH];rw[if_pos (km (by omega) (by simpa using h2))]
theorem Ga (e sz by_ new:Nat)(σ:aC)(q s off len:Nat)(ys:List PV):fH true e sz by_ new σ (.row q s off len) (some ys)=xP e sz by_ new q s off len ys (σ q):=by
 simp only[fH,xP]
theorem pP {e sz by_ new q len:Nat}{f:Bool}{l:List AV}{ys:List PV}(h0:len*sz≤l.length)(h1:len+ys.length≤9223372036854775807)(h2:(len+ys.length)*by_≤140737488355328) :
  xP e sz by_ new q sz 0 len ys (.cells e f l)=some (.row new sz 0 (len+ys.length),[(q,.none),(new,.cells e false (l.take (len*sz)++eh ys))]):=by
 simp[xP,h0,km h1 h2]
def pr (l:List PV):Bool→Option (List PV)
 | true=>some l
 | false=>none
theorem rT (σ:aC)(sz:Nat)(l:List PV):bk σ sz (.pv (.list l))=pr l (l.all fun y=>y.cells.length == sz):=by
 simp only[bk]
 cases l.all (fun y=>y.cells.length == sz)<;>rfl
theorem rU (l:List PV):pr l true=some l:=_root_.id rfl
theorem nX (σ:aC)(sz r:Nat)(l:List PV):bk σ sz (.olist r sz l)=some l:=by simp[bk]
def Lm (e sz new:Nat):Option (List PV)→Option (AV×List (Nat×Blk))
 | some ps=>if ps.all (fun p=>p.cells.length == sz&&p.cells.all PV.one)=true then some (.olist new sz ps,[(new,.tok e sz)]) else none
 | none=>none
theorem MB {e sz len new:Nat}{vs:List AV}(h:vs.length=len)(h2:len≤9223372036854775807):dN false e sz len new vs=Lm e sz new (pvs vs):=by
 simp only[dN,h,h2,true_and,if_true,Lm]
 cases pvs vs<;>rfl
def Nt (e sz new:Nat)(ps:List PV):Bool→Option (AV×List (Nat×Blk))
 | true=>some (.olist new sz ps,[(new,.tok e sz)])
 | false=>none
theorem JO (e sz new:Nat)(ps:List PV):Nt e sz new ps true=some (.olist new sz ps,[(new,.tok e sz)]):=_root_.id rfl
theorem xI (e sz new:Nat)(ps:List PV):Lm e sz new (some ps)=Nt e sz new ps (ps.all fun p=>p.cells.length == sz&&p.cells.all PV.one):=by
 simp only[Lm]
 cases ps.all (fun p=>p.cells.length == sz&&p.cells.all PV.one)<;>rfl
theorem oU (b:Bool):PV.one (.bool b)=true:=_root_.id rfl
theorem vg (k:IntKind)(n:Int):PV.one (.int k n)=true:=_root_.id rfl
theorem vd (s:List UInt8):PV.one (.str s)=true:=_root_.id rfl
theorem A1:PV.one .nils=true:=_root_.id rfl
theorem oT (l:List PV):PV.one (.list l)=true:=_root_.id rfl
theorem EY (p:PV):AV.one (.pv p)=p.one:=_root_.id rfl
theorem A4 (r o:Nat):AV.one (.ptr r o)=true:=_root_.id rfl
theorem A3 (r s o n:Nat):AV.one (.row r s o n)=true:=_root_.id rfl
theorem q9 (r s:Nat)(l:List PV):AV.one (.olist r s l)=true:=_root_.id rfl
def vo (sz:Nat)(l:List PV)(h:Nat):Option Nat→Option AV
 | some a=>if H3 sz l a=true then some (.pv (.list ((l.take h).drop a))) else none
 | none=>none
def vm (sz:Nat)(l:List PV)(lo:Option AV):Option Nat→Option AV
 | some h=>vo sz l h (aZ 0 h lo)
 | none=>none
theorem lF (sz:Nat)(l:List PV)(lo hi:Option AV):di sz (.pv (.list l)) lo hi=vm sz l lo (aZ l.length l.length hi):=by
 show HN sz l lo hi=_
 unfold HN vm vo
 cases aZ l.length l.length hi with
 | none=>rfl
 | some h=>simp only;cases aZ 0 h lo<;>rfl
theorem nB (sz:Nat)(l:List PV)(lo:Option AV)(h:Nat):vm sz l lo (some h)=vo sz l h (aZ 0 h lo):=_root_.id rfl
theorem re (sz:Nat)(l:List PV)(h:Nat):vo sz l h (some 0)=some (.pv (.list (l.take h))):=by
 simp[vo,H3]
theorem rc (sz:Nat)(l:List PV)(i:Nat)(y:PV):iz sz l i (some y)=if y.cells.length=sz then some (.pv (.eptr l i 0)) else none:=_root_.id rfl
theorem Cq {α β:Type}(f:α→β)(p:β→Bool)(l:List α):(l.map f).all p=l.all fun x=>p (f x):=by
 rw[List.all_map];rfl
theorem JT {α:Type}(l:List α):(l.all fun _=>true)=true:=by simp
theorem JR (n:Nat):(n == n)=true:=by simp
def IW (sz:Nat)(e:PV):Bool→Option AV
 | true=>some (.pv e)
 | false=>dk true sz 0 (e.cells.map .pv)
theorem Fk (sz:Nat)(e:PV):IW sz e true=some (.pv e):=_root_.id rfl
theorem Bu (sz:Nat)(e:PV):jr true sz 0 e=IW sz e (e.isAgg&&decide (e.cells.length=sz)):=by
 simp only[jr,true_and]
 by_cases h:e.isAgg=true∧e.cells.length=sz
 ·rw[if_pos h,h.1,decide_eq_true h.2];rfl
 ·rw[if_neg h]
  have:(e.isAgg&&decide (e.cells.length=sz))=false:=by
   rw[Bool.eq_false_iff]
   intro hh
   simp only[Bool.and_eq_true,decide_eq_true_eq] at hh
   exact h hh
  rw[this];rfl
theorem wa (cs:List PV):(PV.agg cs).isAgg=true:=_root_.id rfl
def fzO (σ:aC):Option AV→Option (AV×List (Nat×Blk))
 | some v=>(BW σ v).map Fy
 | none=>none
theorem Ja (G:Nat→List PV)(σ:aC)(g:Bool)(sz:Nat)(v:AV):FG G σ (some (g,sz)) v=fzO σ (eb G g sz σ v):=by
 simp only[FG,fzO];cases eb G g sz σ v<;>rfl
theorem BU (σ:aC)(v:AV):fzO σ (some v)=(BW σ v).map Fy:=_root_.id rfl
theorem BV (σ:aC)(r s n:Nat):BW σ (.row r s 0 n)=Lk s n r (σ r):=_root_.id rfl
theorem Fx (p:PV)(l:List Nat):Fy (p,l)=(.pv p,l.map fun r=>(r,.none)):=_root_.id rfl
theorem Bh (p:PV):(AV.pv p).names=[]:=_root_.id rfl
theorem vF (r o:Nat):(AV.ptr r o).names=[r]:=_root_.id rfl
theorem vE (r a b c:Nat):(AV.row r a b c).names=[r]:=_root_.id rfl
theorem Bi (r a:Nat)(l:List PV):(AV.olist r a l).names=[r]:=_root_.id rfl
theorem vG (f:Nat)(fs cs:List AV):(AV.clo f fs cs).names=AV.namesL fs++AV.namesL cs:=by simp only[AV.names]
theorem vH:AV.any.names=[]:=_root_.id rfl
theorem rj:AV.namesL []=[]:=_root_.id rfl
theorem iC (x:AV)(r:List AV):AV.namesL (x::r)=x.names++AV.namesL r:=by simp only[AV.namesL]
theorem lR:∀ l:List PV,AV.namesL (l.map .pv)=[]
 | []=>rfl
 | x::r=>by rw[List.map_cons,iC,lR r];rfl
theorem lS (T:Nat)(f:Bool)(l:List AV):(Blk.cells T f l).names=AV.namesL l:=_root_.id rfl
theorem rk (e s:Nat):(Blk.tok e s).names=[]:=_root_.id rfl
theorem Cs (acc:List Nat):bp acc []=acc:=_root_.id rfl
def Gh (acc:List Nat)(n:Nat):Bool→List Nat
 | true=>acc
 | false=>acc++[n]
theorem gr (x:Nat):∀ l:List Nat,l.contains x=o8 x l
 | []=>rfl
 | y::r=>by
   rw[List.contains_cons,gr x r,lV]
   by_cases h:y=x
   ·simp[h]
   ·have h':¬ x=y:=fun e=>h e.symm
    simp[h,h']
theorem xT (acc:List Nat)(n:Nat)(r:List Nat):bp acc (n::r)=bp (Gh acc n (o8 n acc)) r:=by
 simp only[bp,gr]
 cases o8 n acc<;>rfl
theorem Gf (acc:List Nat)(n:Nat):Gh acc n true=acc:=_root_.id rfl
theorem Gg (acc:List Nat)(n:Nat):Gh acc n false=acc++[n]:=_root_.id rfl
def geN (m0:Nat):List Nat→List Nat
 | []=>[]
 | x::r=>if m0≤x then x::geN m0 r else geN m0 r
theorem Fu (m0:Nat):geN m0 []=[]:=_root_.id rfl
theorem pg (m0 x:Nat)(r:List Nat):geN m0 (x::r)=if m0≤x then x::geN m0 r else geN m0 r:=_root_.id rfl
theorem wu (m0:Nat):∀ l:List Nat,l.filter (fun r=>decide (m0≤r))=geN m0 l
 | []=>rfl
 | x::r=>by rw[List.filter_cons,wu m0 r,pg];simp
def dg (sto:List (Nat×Blk)):List Nat→List Nat
 | []=>[]
 | r::q=>(lookB r sto).names++dg sto q
theorem mx (sto:List (Nat×Blk)):dg sto []=[]:=_root_.id rfl
theorem fG (sto:List (Nat×Blk))(r:Nat)(q:List Nat):dg sto (r::q)=(lookB r sto).names++dg sto q:=_root_.id rfl
theorem fb (sto:List (Nat×Blk)):∀ l:List Nat,(l.flatMap fun r=>(lookB r sto).names)=dg sto l
 | []=>rfl
 | r::q=>by rw[List.flatMap_cons,fb sto q,fG]
theorem EI (m0:Nat)(sto:List (Nat×Blk))(acc:List Nat):eP m0 sto 0 acc=acc:=_root_.id rfl
theorem EH (m0:Nat)(sto:List (Nat×Blk))(k:Nat)(acc:List Nat):eP m0 sto (k+1) acc=eP m0 sto k (bp acc (geN m0 (dg sto acc))):=by
 rw[← wu,← fb];rfl
def dV (e:List (Nat×AV)):List Nat→List Nat
 | []=>[]
 | k::r=>(look k e).names++dV e r
theorem mo (e:List (Nat×AV)):dV e []=[]:=_root_.id rfl
theorem kN (e:List (Nat×AV))(k:Nat)(r:List Nat):dV e (k::r)=(look k e).names++dV e r:=_root_.id rfl
theorem iY (e:List (Nat×AV))(σ:List (Nat×Blk))(n:Nat):∀ l:List Nat,(l.flatMap fun i=>((⟨e,σ,n⟩:St).E i).names)=dV e l
 | []=>rfl
 | k::r=>by rw[List.flatMap_cons,iY e σ n r];rfl
def tY:Nat→Nat→List Nat
 | 0,_=>[]
 | n+1,k=>k::tY n (k+1)
theorem LV (k:Nat):tY 0 k=[]:=_root_.id rfl
theorem Ir (n k:Nat):tY (n+1) k=k::tY n (k+1):=_root_.id rfl
theorem tX:∀ n k:Nat,tY n k=List.range' k n
 | 0,k=>rfl
 | n+1,k=>by rw[Ir,tX n,List.range'_succ]
theorem CX (n:Nat):List.range n=tY n 0:=by rw[tX,List.range_eq_range']
theorem E1 (m0:Nat)(keep:List Nat)(e:List (Nat×AV))(σ:List (Nat×Blk))(n:Nat):IJ m0 keep ⟨e,σ,n⟩=eP m0 σ σ.length (bp [] (geN m0 (dV e keep++dg σ (tY m0 0)))):=by
 rw[← wu,← iY e σ n,← fb,← CX];rfl
def lQ (f:Nat→Option Nat)(e:List (Nat×AV)):List Nat→List (Nat×AV)
 | []=>[]
 | k::r=>(k,(look k e).ren f)::lQ f e r
theorem vA (f:Nat→Option Nat)(e:List (Nat×AV)):lQ f e []=[]:=_root_.id rfl
theorem rg (f:Nat→Option Nat)(e:List (Nat×AV))(k:Nat)(r:List Nat):lQ f e (k::r)=(k,(look k e).ren f)::lQ f e r:=_root_.id rfl
def vz (m0:Nat)(keep:List Nat)(e:List (Nat×AV))(σ:List (Nat×Blk))(os:List Nat):St:=⟨lQ (dm m0 os) e keep,d6 m0 (dm m0 os) σ (tY m0 0++os) 0,m0+os.length⟩
theorem E6 (m0:Nat)(keep:List Nat)(e:List (Nat×AV))(σ:List (Nat×Blk))(n:Nat):norm m0 keep ⟨e,σ,n⟩=vz m0 keep e σ (eP m0 σ σ.length (bp [] (geN m0 (dV e keep++dg σ (tY m0 0))))):=by
 rw[← E1 m0 keep e σ n]
 have hE:∀ (f:Nat→Option Nat) (l:List Nat),(l.map fun i=>(i,((⟨e,σ,n⟩:St).E i).ren f))=lQ f e l:=by
  intro f l
  induction l with
  | nil=>rfl
  | cons k r ih=>rw[List.map_cons,ih];rfl
 simp only[norm,vz,hE,CX]
theorem E8 (m0:Nat)(keep:List Nat)(e:List (Nat×AV))(σ:List (Nat×Blk))(x:Nat)(r:List Nat):vz m0 keep e σ (x::r)=⟨lQ (dm m0 (x::r)) e keep,d6 m0 (dm m0 (x::r)) σ (tY m0 0++(x::r)) 0,m0+(x::r).length⟩:=_root_.id rfl
theorem E7 (m0:Nat)(keep:List Nat)(e:List (Nat×AV))(σ:List (Nat×Blk)):vz m0 keep e σ []=⟨lQ (dm m0 []) e keep,d6 m0 (dm m0 []) σ (tY m0 0) 0,m0⟩:=by
 simp only[vz,List.append_nil];rfl
theorem qF (m0:Nat)(f:Nat→Option Nat)(σ:List (Nat×Blk))(k:Nat):d6 m0 f σ [] k=[]:=_root_.id rfl
theorem np (m0:Nat)(f:Nat→Option Nat)(σ:List (Nat×Blk))(r:Nat)(q:List Nat)(k:Nat):d6 m0 f σ (r::q) k=(k,(lookB r σ).ren f)::d6 m0 f σ q (k+1):=_root_.id rfl
theorem ri (m0:Nat)(os:List Nat)(r:Nat):dm m0 os r=if r<m0 then some r else Db r os m0:=_root_.id rfl
theorem wh (x y:Nat)(r:List Nat)(k:Nat):Db x (y::r) k=if y=x then some k else Db x r (k+1):=_root_.id rfl
def LX (o:Nat):Option Nat→AV
 | some q=>.ptr q o
 | none=>.any
def LW (a b c:Nat):Option Nat→AV
 | some q=>.row q a b c
 | none=>.any
def LY (a:Nat)(l:List PV):Option Nat→AV
 | some q=>.olist q a l
 | none=>.pv (.list l)
theorem CZ (f:Nat→Option Nat)(p:PV):(AV.pv p).ren f = .pv p:=by simp only[AV.ren]
theorem EF (f:Nat→Option Nat):AV.any.ren f = .any:=by simp only[AV.ren]
theorem ED (f:Nat→Option Nat)(r o:Nat):(AV.ptr r o).ren f=LX o (f r):=by simp only[AV.ren,LX]<;>(cases f r<;>rfl)
theorem EC (f:Nat→Option Nat)(r a b c:Nat):(AV.row r a b c).ren f=LW a b c (f r):=by simp only[AV.ren,LW]<;>(cases f r<;>rfl)
theorem IA (f:Nat→Option Nat)(r a:Nat)(l:List PV):(AV.olist r a l).ren f=LY a l (f r):=by simp only[AV.ren,LY]<;>(cases f r<;>rfl)
theorem EE (f:Nat→Option Nat)(g:Nat)(fs cs:List AV):(AV.clo g fs cs).ren f = .clo g (AV.renL f fs) (AV.renL f cs):=by simp only[AV.ren]
theorem uc (o q:Nat):LX o (some q) = .ptr q o:=_root_.id rfl
theorem ub (a b c q:Nat):LW a b c (some q) = .row q a b c:=_root_.id rfl
theorem ud (a:Nat)(l:List PV)(q:Nat):LY a l (some q) = .olist q a l:=_root_.id rfl
theorem zF (f:Nat→Option Nat):AV.renL f []=[]:=_root_.id rfl
theorem lB (f:Nat→Option Nat)(x:AV)(r:List AV):AV.renL f (x::r)=x.ren f::AV.renL f r:=by simp only[AV.renL]
theorem ue (f:Nat→Option Nat):∀ l:List PV,AV.renL f (l.map .pv)=l.map .pv
 | []=>rfl
 | x::r=>by rw[List.map_cons,lB,ue f r,CZ]
theorem qG (f:Nat→Option Nat)(T:Nat)(b:Bool)(l:List AV):(Blk.cells T b l).ren f = .cells T b (AV.renL f l):=_root_.id rfl
theorem zG (f:Nat→Option Nat)(e s:Nat):(Blk.tok e s).ren f = .tok e s:=_root_.id rfl
theorem A8 (A:List (Nat×Nat×Nat×Nat))(m0:Nat)(keep:List Nat)(s:St):dR A m0 keep s=norm m0 keep (Cu A s):=_root_.id rfl
theorem Ct (s:St):Cu [] s=s:=_root_.id rfl
theorem xU (k e sz:Nat)(r:List (Nat×Nat×Nat×Nat))(env:List (Nat×AV))(σ:List (Nat×Blk))(n:Nat):Cu ((k,0,e,sz)::r) ⟨env,σ,n⟩=Cu r (HQ k e sz ⟨env,σ,n⟩ (look k env)):=_root_.id rfl
theorem xV (k j e sz:Nat)(r:List (Nat×Nat×Nat×Nat))(env:List (Nat×AV))(σ:List (Nat×Blk))(n:Nat):Cu ((k,j+1,e,sz)::r) ⟨env,σ,n⟩=Cu r (J1 j e sz ⟨env,σ,n⟩ (look k env)):=_root_.id rfl
theorem xY (k e sz:Nat)(env:List (Nat×AV))(σ:List (Nat×Blk))(n:Nat):HQ k e sz ⟨env,σ,n⟩ (.pv .nils)=⟨(k,fT n e sz)::env,(n,ct e sz)::σ,n+1⟩:=_root_.id rfl
theorem Fa {n e sz:Nat}(h:e<1000000):fT n e sz = .olist n sz []:=if_pos h
theorem E9 {n e sz:Nat}(h:1000000≤e):fT n e sz = .row n sz 0 0:=if_neg (Nat.not_lt.2 h)
theorem Bb {e sz:Nat}(h:e<1000000):ct e sz = .tok e sz:=if_pos h
theorem Ba {e sz:Nat}(h:1000000≤e):ct e sz = .cells (e - 1000000) false []:=if_neg (Nat.not_lt.2 h)
theorem Gj (k e sz r a:Nat)(l:List PV)(s:St):HQ k e sz s (.olist r a l)=s:=_root_.id rfl
theorem Cw (o e sz r b:Nat)(env:List (Nat×AV))(σ:List (Nat×Blk))(n:Nat):J1 o e sz ⟨env,σ,n⟩ (.ptr r b)=accB r (b+o) e sz ⟨env,σ,n⟩ (lookB r σ):=_root_.id rfl
theorem sA (r o e sz T:Nat)(f:Bool)(l:List AV)(s:St):accB r o e sz s (.cells T f l)=HP r T f l o e sz s l[o]?:=_root_.id rfl
theorem xX (r T:Nat)(f:Bool)(l:List AV)(o e sz:Nat)(env:List (Nat×AV))(σ:List (Nat×Blk))(n:Nat):HP r T f l o e sz ⟨env,σ,n⟩ (some (.pv .nils))=⟨env,(r,.cells T f (l.set o (fT n e sz)))::(n,ct e sz)::σ,n+1⟩:=_root_.id rfl
theorem Cx (r T:Nat)(f:Bool)(l:List AV)(o e sz:Nat)(s:St)(q a b c:Nat):HP r T f l o e sz s (some (.row q a b c))=s:=_root_.id rfl
theorem Gi (r T:Nat)(f:Bool)(l:List AV)(o e sz:Nat)(s:St)(q a:Nat)(k:List PV):HP r T f l o e sz s (some (.olist q a k))=s:=_root_.id rfl
theorem Nx {α:Type}(x y:α)(r:List α):(x::r).set 0 y=y::r:=_root_.id rfl
theorem Nw {α:Type}(x y:α)(r:List α)(n:Nat):(x::r).set (n+1) y=x::r.set n y:=_root_.id rfl
theorem LI (e e':List (Nat×AV))(σ σ':List (Nat×Blk))(n n':Nat):(St.mk e σ n=St.mk e' σ' n')=(e=e'∧σ=σ'∧n=n'):=by rw[St.mk.injEq]
theorem Jo {a b:Nat}(h:a<b):decide (a<b)=true:=decide_eq_true h
theorem Jp {a b:Nat}(h:¬ a<b):decide (a<b)=false:=decide_eq_false h
theorem aI {α:Type}{l:List α}{m:Nat}{x:α}(h:l[m]? = some x):l.take (m+1)=l.take m++[x]:=by
 obtain⟨h1,h2⟩:=List.getElem?_eq_some_iff.1 h
 rw[List.take_succ_eq_append_getElem h1,h2]
def I9 (cells:List AV)(off sz:Nat)(r:List (Nat×Nat×AV))(xc:List AV):Bool→Option (List AV)
 | true=>e6 (cells.take off++xc++cells.drop (off+sz)) r
 | false=>none
theorem FF (cells:List AV)(off sz:Nat)(r:List (Nat×Nat×AV))(xc:List AV):I9 cells off sz r xc true=e6 (cells.take off++xc++cells.drop (off+sz)) r:=_root_.id rfl
theorem wD (cells:List AV):e6 cells []=some cells:=_root_.id rfl
theorem rN (cells:List AV)(off sz:Nat)(x:AV)(r:List (Nat×Nat×AV)):e6 cells ((off,sz,x)::r)=I9 cells off sz r x.cells (x.known&&decide (x.cells.length=sz)&&decide (off+sz≤cells.length)):=by
 simp only[e6]
 by_cases h:x.known=true∧x.cells.length=sz∧off+sz≤cells.length
 ·rw[if_pos h,h.1,decide_eq_true h.2.1,decide_eq_true h.2.2];rfl
 ·rw[if_neg h]
  have:(x.known&&decide (x.cells.length=sz)&&decide (off+sz≤cells.length))=false:=by
   rw[Bool.eq_false_iff]
   intro hh
   simp only[Bool.and_eq_true,decide_eq_true_eq] at hh
   exact h ⟨hh.1.1,hh.1.2,hh.2⟩
  rw[this];rfl
theorem At (sz off:Nat)(cs:List AV):EV sz off cs=if off+sz≤cs.length then some (gA ((cs.drop off).take sz)) else none:=_root_.id rfl
section
variable {P:Program}{G:Nat→List PV}
end
end Go.Ab
namespace Go.Ab
open Go Go.RowKit
def Kap.cut (κ:Kap)(k:Nat):Kap:=⟨κ.w,fun r=>if r<k then κ.nm r else none,κ.imm⟩
theorem Kap.cut_ext (κ:Kap)(k:Nat):Ext (κ.cut k) κ:=by
 refine⟨fun _ _ h=>h,fun _ _ _ _ h=>h,fun r d h=>?_,fun _ _ h _=>h⟩
 simp only[Kap.cut] at h
 split at h
 ·exact h
 ·cases h
theorem Kap.cut_none (κ:Kap)(k r:Nat)(h:k≤r):(κ.cut k).nm r=none:=by simp only[Kap.cut];rw[if_neg (by omega)]
def mG (P:Program)(G:Nat→List PV)(k:Nat)(f:Nat)(args:List AV)(sto:List (Nat×Blk))(next:Nat)(Q:AV→List (Nat×Blk)→Nat→Prop):Prop:=
 bK P f=true∧∀ (κ:Kap) (vals:Array Value),SRel (bZ κ (fun r=>lookB r sto) G) κ (fun r=>lookB r sto)→(∀ r,next≤r→κ.nm r=none)→vals.size=args.length →
  (∀ (i:Nat) (x:AV),args[i]? = some x→ARel κ x (vals.getD i Go.undef)) →
  Calls P f vals κ.w fun e w'=>∃ u v κ' sto' next',e = .returned u∧κ'.w=w'∧Ext (κ.cut k) κ'∧Left (bZ κ (fun r=>lookB r sto) G) κ.imm κ'∧ARel κ' v u ∧
   SRel (bZ κ (fun r=>lookB r sto) G) κ' (fun r=>lookB r sto')∧(∀ r,next'≤r→κ'.nm r=none)∧Q v sto' next'
section
variable {P:Program}{G:Nat→List PV}
theorem mG.of_code {muts:List Nat}{k f:Nat}{fn:AFn}{args:List AV}{sto:List (Nat×Blk)}{next:Nat}{R:AV→List (Nat×Blk)→Nat→Prop}(hc:cFn P muts f=some fn)(hn:args.length≤fn.N)
  (hv:vc P G k fn.body (FnK G fn.res R) ⟨cJ args,sto,next⟩):mG P G k f args sto next R:=by
 unfold cFn at hc
 split at hc
 ·rename_i fnc hfn
  split at hc
  ·rename_i co hco
   split at hc
   ·rename_i rs hrs
    split at hc
    ·rename_i hok
     split at hc
     ·rename_i b li hb
      cases hc
      refine⟨hok,fun κ vals hS hf hsz hargs=>?_⟩
      refine callsIn_wide.1 (callsIn_of_wp_marks (n:=0) hfn hco trivial ?_ rfl)
      let c:=bZ κ (fun r=>lookB r sto) G
      have hsize:(vals++Array.replicate (fnc.ntmps - vals.size) Go.undef).size=fnc.ntmps:=by
       simp only at hn
       simp only[Array.size_append,Array.size_replicate];omega
      have hR:Rel c (κ.cut k) fnc.ntmps ⟨cJ args,sto,next⟩ ⟨vals++Array.replicate (fnc.ntmps - vals.size) Go.undef,[]⟩ κ.w κ:=by
       refine⟨rfl,κ.cut_ext k,hS,⟨rfl,rfl,rfl,Nat.le_refl _,fun _ _ _=>rfl,fun _ _ h=>.inl h⟩,fun i=>?_,hsize,cS.nil _ _,hf⟩
       show ARel κ (look i ((args.zipIdx 0).map fun p=>(p.2,p.1))) _
       rw[iG,if_pos (Nat.zero_le _),Nat.sub_zero]
       cases hx:args[i]? with
       | none=>exact .any _
       | some x=>
         have hi:i<vals.size:=by rw[hsz];exact (List.getElem?_eq_some_iff.1 hx).1
         have:=hargs i x hx
         have e:(vals++Array.replicate (fnc.ntmps - vals.size) Go.undef).getD i Go.undef=vals.getD i Go.undef:=by
          simp only[Array.getD_eq_getD_getElem?]
          rw[Array.getElem?_append_left hi]
         rw[e];exact this
      refine Go.wpIn_mono (ov (P:=P) (N:=fnc.ntmps) co c (κ.cut k) k none 0 b [] (fM rs) li (FnK G rs R) _ _ κ.w κ (.inl rfl) (fun r hr=>κ.cut_none k r hr) (Nat.le_refl _) hb hR hv) ?_
      have fin:∀ (s:St) (κ':Kap) (a:Act) (w:World),Rel c (κ.cut k) fnc.ntmps s a w κ'→aH (en G s rs) (CY R s)→∃ v,(results fnc a.tmps).run P w = .ok v w ∧
        ∃ u v' κ'' sto' next',Ending.returned v = .returned u∧κ''.w=w∧Ext (κ.cut k) κ''∧Left c κ.imm κ''∧ARel κ'' v' u∧SRel c κ'' (fun r=>lookB r sto')∧(∀ r,next'≤r→κ''.nm r=none)∧R v' sto' next':=by
       intro s κ' a w hR hF
       simp only[aH] at hF
       split at hF
       ·rename_i vs hvs
        obtain⟨us,h1,h2,h3⟩:=ik (P:=P) hR fnc.results.toList rs vs hrs hvs
        have hrun:(results fnc a.tmps).run P w = .ok (if h:us.toArray.size=1 then us.toArray[0] else .tuple us.toArray) w:=by
         rw[jC,Sem.run_bind,Array.mapM_eq_mapM_toList]
         simp only[Sem.run_bind,Sem.run_map]
         rw[h1]
         simp
        refine⟨_,hrun,_,sE vs,κ',s.sto,s.next,rfl,hR.w_eq,hR.ext0,hR.left,?_,hR.rel,hR.fresh,hF⟩
        by_cases hl:vs.length=1
        ·obtain⟨v,rfl⟩:=List.length_eq_one_iff.1 hl
         obtain⟨u,rfl⟩:=List.length_eq_one_iff.1 (h2.trans hl)
         have:=h3 0 v rfl
         exact this
        ·have hul:¬ us.toArray.size=1:=by simpa[h2] using hl
         rw[dif_neg hul]
         have hrv:sE vs=lU vs:=by
          unfold sE
          split
          ·simp at hl
          ·rfl
         rw[hrv]
         exact lT (.tup _ _ (by simpa using h2) (fun i x hx=>by rw[aE];simpa using h3 i x hx))
       ·exact hF.elim
      intro e a w hq
      cases e with
      | normal=>
        obtain⟨s,κ',hR,hF⟩:=hq
        exact fx (Nat.le_refl _) rfl hR fun w' κ'' hR'=>fin s κ'' ⟨a.tmps,[]⟩ w' hR' hF
      | ret=>
        obtain⟨s,κ',hR,hF⟩:=hq
        exact fx (Nat.le_refl _) rfl hR fun w' κ'' hR'=>fin s κ'' ⟨a.tmps,[]⟩ w' hR' hF
      | exit id=>
        obtain⟨s,κ',hR,hF⟩:=hq
        exact hF.elim
      | goto l=>exact hq.elim
      | panic ch=>exact hq.elim
      | outgrown=>exact hq.elim
     ·cases hc
    ·cases hc
   ·cases hc
  ·cases hc
 ·cases hc
def cp:List Blk→Nat→List (Nat×Blk)
 | [],_=>[]
 | b::r,k=>(k,b)::cp r (k+1)
theorem jJ:∀ (bs:List Blk) (k i:Nat),lookB i (cp bs k)=if k≤i then bs.getD (i - k) .none else .none
 | [],k,i=>by simp[cp,lookB]
 | b::r,k,i=>by
   simp only[cp,lookB]
   by_cases h:k=i
   ·subst h;simp
   ·rw[if_neg h,jJ r (k+1) i]
    by_cases hk:k≤i
    ·rw[if_pos (by omega),if_pos hk,show i - k=(i - (k+1))+1 by omega];simp
    ·rw[if_neg (by omega),if_neg hk]
theorem eZ (bs:List Blk):(fun r=>lookB r (cp bs 0))=fun r=>bs.getD r .none:=by
 funext r;rw[jJ];simp
def dz (P:Program)(G:Nat→List PV)(k f:Nat)(args:List AV)(bs:List Blk)(v:AV)(bs':List Blk):Prop:=
 mG P G k f args (cp bs 0) bs.length fun v' sto' next'=>v'=v∧sto'=cp bs' 0∧next'=bs'.length
def Fq (k:Nat)(v:AV)(bs':List Blk)(v':AV)(sto':List (Nat×Blk))(next':Nat):Prop:=
 Wk k ⟨[(0,v')],sto',next'⟩ ⟨[(0,v)],cp bs' 0,bs'.length⟩
theorem dz.of_lcalls {k f:Nat}{args:List AV}{bs:List Blk}{v:AV}{bs':List Blk}(h:mG P G k f args (cp bs 0) bs.length (Fq k v bs')):dz P G k f args bs v bs':=by
 obtain⟨hcal,h⟩:=h
 refine⟨hcal,fun κ vals hS hf hsz hargs=>(h κ vals hS hf hsz hargs).mono ?_⟩
 rintro e w' ⟨u,v',κ',sto',next',rfl,rfl,he,hL,hv,hS',hf',hw⟩
 obtain⟨κ'',hR⟩:=hw _ (κ.cut k) κ' 1 ⟨#[u],[]⟩ κ'.w (fun r hr=>κ.cut_none k r hr) ⟨rfl,he,hS',hL,fun i=>by
  show ARel κ' (look i [(0,v')]) _
  by_cases hi:0=i
  ·subst hi;simpa[look] using hv
  ·simp only[look,if_neg hi];exact .any _,rfl,cS.nil _ _,hf'⟩
 refine⟨u,v,κ'',_,_,rfl,hR.w_eq,hR.ext0,hR.left,?_,hR.rel,hR.fresh,rfl,rfl,rfl⟩
 have:=hR.env 0
 simpa[St.E,look] using this
theorem dz.intro {muts:List Nat}{k f:Nat}{fn:AFn}{args:List AV}{bs:List Blk}{v:AV}{bs':List Blk}(hc:cFn P muts f=some fn)(hn:args.length≤fn.N)
  (hv:vc P G k fn.body (FnK G fn.res (Fq k v bs')) ⟨cJ args,cp bs 0,bs.length⟩):dz P G k f args bs v bs':=
 dz.of_lcalls (mG.of_code hc hn hv)
def gIn (next:Nat):List Nat→Nat→Nat
 | [],i=>next+i
 | r::_,0=>r
 | _::q,i+1=>gIn next q i
def gSo (next:Nat)(rs:List Nat)(r:Nat):Option Nat:=some (gIn next rs r)
theorem iP (next:Nat):∀ (rs:List Nat) (i:Nat) (r:Nat),rs[i]? = some r→gIn next rs i=r
 | [],i,r,h=>by simp at h
 | x::q,0,r,h=>by simpa[gIn] using h
 | x::q,i+1,r,h=>by simpa[gIn] using iP next q i r (by simpa using h)
theorem jN (next:Nat):∀ (rs:List Nat) (i:Nat),rs.length≤i→gIn next rs i=next+(i - rs.length)
 | [],i,h=>by simp[gIn]
 | x::q,0,h=>by simp at h
 | x::q,i+1,h=>by
   simp only[List.length_cons] at h
   rw[gIn,jN next q i (by omega)]
   simp
mutual
theorem unren {κ κ':Kap}(hw:κ'.w=κ.w)(hi:κ'.imm=κ.imm){g:Nat→Nat}(hf:∀ r,κ'.nm r=κ.nm (g r)):∀ (x:AV) (v:Value),ARel κ (x.ren fun r=>some (g r)) v→ARel κ' x v
 | .pv p,v,h=>by
   simp only[AV.ren] at h
   cases h with
   | pv _ _ hp=>exact .pv _ _ (by rw[hw,hi];exact hp)
 | .any,v,h=>.any v
 | .ptr r o,v,h=>by
   simp only[AV.ren] at h
   cases h with
   | ptr _ _ b n hn=>exact .ptr _ _ b n (by rw[hf r];exact hn)
 | .row r a b c,v,h=>by
   simp only[AV.ren] at h
   cases h with
   | row _ _ _ _ bb n cap hn h1 h2 h3 h4=>exact .row _ _ _ _ bb n cap (by rw[hf r];exact hn) h1 h2 h3 h4
   | row0 _ _ hn=>exact .row0 _ _ (by rw[hf r];exact hn)
 | .olist r a l,v,h=>by
   simp only[AV.ren] at h
   cases h with
   | olist _ _ _ _ hn hp hs=>exact .olist _ _ _ _ (by rw[hf r];exact hn) (by rw[hw,hi];exact hp) hs
 | .mp r,v,h=>by
   simp only[AV.ren] at h
   cases h with
   | mp _ b hn=>exact .mp _ _ (by rw[hf r];exact hn)
 | .agg cs,v,h=>by
   simp only[AV.ren] at h
   cases h with
   | agg _ vs hl hr=>
     obtain⟨h1,h2⟩:=hH hw hi hf cs vs hr
     exact .agg _ _ (by rw[← h1];exact hl) h2
 | .tup cs,v,h=>by
   simp only[AV.ren] at h
   cases h with
   | tup _ vs hl hr=>
     obtain⟨h1,h2⟩:=hH hw hi hf cs vs hr
     exact .tup _ _ (by rw[← h1];exact hl) h2
 | .clo g fs cs,v,h=>by
   simp only[AV.ren] at h
   cases h with
   | clo _ _ _ vs us hl hr hl' hr'=>
     obtain⟨h1,h2⟩:=hH hw hi hf fs vs hr
     obtain⟨h3,h4⟩:=hH hw hi hf cs us hr'
     exact .clo _ _ _ _ _ (by rw[← h1];exact hl) h2 (by rw[← h3];exact hl') h4
theorem hH {κ κ':Kap}(hw:κ'.w=κ.w)(hi:κ'.imm=κ.imm){g:Nat→Nat}(hf:∀ r,κ'.nm r=κ.nm (g r)):∀ (xs:List AV) (vs:Array Value),
  (∀ (i:Nat) (x:AV),(AV.renL (fun r=>some (g r)) xs)[i]? = some x→ARel κ x (vs.getD i Go.undef))→(AV.renL (fun r=>some (g r)) xs).length=xs.length∧∀ (i:Nat) (x:AV),xs[i]? = some x→ARel κ' x (vs.getD i Go.undef)
 | [],vs,h=>by simp[AV.renL]
 | x::r,vs,h=>by
   have e:∀ i,(vs.extract 1 vs.size).getD i Go.undef=vs.getD (i+1) Go.undef:=by
    intro i
    simp only[Array.getD_eq_getD_getElem?,Array.getElem?_extract]
    by_cases hh:i<min vs.size vs.size - 1
    ·rw[if_pos hh];congr 2;omega
    ·rw[if_neg hh,Array.getElem?_eq_none (by omega)]
   obtain⟨h1,h2⟩:=hH hw hi hf r (vs.extract 1 vs.size) (fun i y hy=>by
    have:=h (i+1) y (by simpa[AV.renL] using hy)
    rw[e];exact this)
   refine⟨by simp[AV.renL,h1],fun i y hy=>?_⟩
   cases i with
   | zero=>
     simp only[List.getElem?_cons_zero,Option.some.injEq] at hy
     subst hy
     exact unren hw hi hf x _ (h 0 _ (by simp[AV.renL]))
   | succ i=>
     simp only[List.getElem?_cons_succ] at hy
     have:=h2 i y hy
     rw[e] at this;exact this
end
theorem ef.unren {κ κ':Kap}(hw:κ'.w=κ.w)(hi:κ'.imm=κ.imm){g:Nat→Nat}(hf:∀ r,κ'.nm r=κ.nm (g r)){r:Nat}{B:Blk}(h:ef κ (g r) (B.ren fun r=>some (g r))):ef κ' r B:=by
 cases B with
 | none=>trivial
 | cells T f l=>
   simp only[Blk.ren] at h
   rcases h with ⟨h1,h2,h3⟩ | ⟨b,n,cs,h1,h2,h3,h4,h5,h6,h7⟩
   ·refine .inl ⟨h1,?_,by rw[hf];exact h3⟩
    cases l with
    | nil=>rfl
    | cons x r=>simp[AV.renL] at h2
   ·obtain⟨q1,q2⟩:=hH hw hi hf l cs h6
    exact .inr ⟨b,n,cs,by rw[hf];exact h1,by rw[hw];exact h2,h3,by rw[← q1];exact h4,fun hb=>by rw[← q1];exact h5 hb,q2,by rw[hi];exact h7⟩
 | tok e sz=>
   simp only[Blk.ren] at h
   rcases h with h | ⟨g',n,cap,cur,h1,h2,h3⟩
   ·exact .inl (by rw[hf];exact h)
   ·exact .inr ⟨g',n,cap,cur,by rw[hf];exact h1,by rw[hw];exact h2,by rw[hi];exact h3⟩
 | mp l=>
   obtain⟨b,es,ck,h1,h2⟩:=h
   exact⟨b,es,ck,by rw[hf];exact h1,by rw[hw,hi];exact h2⟩
 | bts e l=>
   obtain⟨b,n,cs,fz,h1,h2⟩:=h
   exact⟨b,n,cs,fz,by rw[hf];exact h1,by rw[hw,hi];exact h2⟩
theorem ef.ren {κ κ':Kap}(hw:κ'.w=κ.w)(hi:κ'.imm=κ.imm){g:Nat→Nat}(hf:∀ r,κ'.nm (g r)=κ.nm r){r:Nat}{B:Blk}(h:ef κ r B):ef κ' (g r) (B.ren fun r=>some (g r)):=by
 have hf':∀ r r',(fun r=>some (g r)) r=some r'→κ'.nm r'=κ.nm r:=fun r r' h=>by cases h;exact hf r
 cases B with
 | none=>trivial
 | cells T f l=>
   simp only[Blk.ren]
   rcases h with ⟨h1,h2,h3⟩ | ⟨b,n,cs,h1,h2,h3,h4,h5,h6,h7⟩
   ·exact .inl ⟨h1,by rw[h2];simp only[AV.renL],by rw[hf];exact h3⟩
   ·obtain⟨q1,q2⟩:=dM hw hi hf' l cs h6
    exact .inr ⟨b,n,cs,by rw[hf];exact h1,by rw[hw];exact h2,h3,by rw[q1];exact h4,fun hb=>by rw[q1];exact h5 hb,q2,by rw[hi];exact h7⟩
 | tok e sz=>
   simp only[Blk.ren]
   rcases h with h | ⟨g',n,cap,cur,h1,h2,h3⟩
   ·exact .inl (by rw[hf];exact h)
   ·exact .inr ⟨g',n,cap,cur,by rw[hf];exact h1,by rw[hw];exact h2,by rw[hi];exact h3⟩
 | mp l=>
   obtain⟨b,es,ck,h1,h2⟩:=h
   exact⟨b,es,ck,by rw[hf];exact h1,by rw[hw,hi];exact h2⟩
 | bts e l=>
   obtain⟨b,n,cs,fz,h1,h2⟩:=h
   exact⟨b,n,cs,fz,by rw[hf];exact h1,by rw[hw,hi];exact h2⟩
def q8 (f:Nat→Option Nat):List Blk→Nat→(Nat→Nat)→List (Nat×Blk)
 | [],_,_=>[]
 | b::r,i,g=>(g i,b.ren f)::q8 f r (i+1) g
def iB:List Nat→List (Nat×Blk)
 | []=>[]
 | r::q=>(r,.none)::iB q
def fJ (sto:List (Nat×Blk))(f:Nat→Option Nat):List Nat→List Blk→Prop
 | [],[]=>True
 | r::rs,b::bs=>BlkZ (lookB r sto) (b.ren f)∧fJ sto f rs bs
 | _,_=>False
theorem fJ.get {sto:List (Nat×Blk)}{f:Nat→Option Nat}:∀ {rs:List Nat} {bs:List Blk},fJ sto f rs bs→rs.length=bs.length∧∀ (i r:Nat) (b:Blk),rs[i]? = some r→bs[i]? = some b→BlkZ (lookB r sto) (b.ren f)
 | [],[],h=>⟨rfl,by simp⟩
 | r::rs,b::bs,h=>by
   obtain⟨h1,h2⟩:=h
   obtain⟨h3,h4⟩:=fJ.get h2
   refine⟨by simp[h3],fun i q d hq hd=>?_⟩
   cases i with
   | zero=>simp at hq hd;subst hq;subst hd;exact h1
   | succ i=>exact h4 i q d (by simpa using hq) (by simpa using hd)
 | [],_::_,h=>h.elim
 | _::_,[],h=>h.elim
end
end Go.Ab
namespace Go.Ab
open Go Go.RowKit
section
variable {P:Program}{G:Nat→List PV}
theorem ef.named {κ:Kap}{r:Nat}{B:Blk}(h:ef κ r B)(hB:B≠.none):∃ d,κ.nm r=some d:=by
 cases B with
 | none=>exact absurd rfl hB
 | cells T f l=>
   rcases h with ⟨_,_,h⟩ | ⟨b,n,cs,h,_⟩
   ·exact⟨_,h⟩
   ·exact⟨_,h⟩
 | tok e sz=>
   rcases h with h | ⟨g,n,cap,cur,h,_⟩
   ·exact⟨_,h⟩
   ·exact⟨_,h⟩
 | mp l=>
   obtain⟨b,es,ck,h,_⟩:=h
   exact⟨_,h⟩
 | bts e l=>
   obtain⟨b,n,cs,fz,h,_⟩:=h
   exact⟨_,h⟩
theorem Blk.ren_ne {f:Nat→Option Nat}{b:Blk}:b.ren f≠.none↔b≠.none:=by
 cases b<;>simp[Blk.ren]
theorem Fv {next:Nat}{rs:List Nat}(hnd:rs.Nodup)(hlt:∀ r∈rs,r<next){i j:Nat}(h:gIn next rs i=gIn next rs j):i=j:=by
 by_cases hi:i<rs.length
 ·have ei:=iP next rs i _ (List.getElem?_eq_getElem hi)
  have hi':=hlt _ (List.getElem_mem hi)
  by_cases hj:j<rs.length
  ·have ej:=iP next rs j _ (List.getElem?_eq_getElem hj)
   rw[ei,ej] at h
   exact (List.getElem_inj hnd).1 h
  ·have ej:=jN next rs j (by omega)
   omega
 ·have ei:=jN next rs i (by omega)
  by_cases hj:j<rs.length
  ·have ej:=iP next rs j _ (List.getElem?_eq_getElem hj)
   have hj':=hlt _ (List.getElem_mem hj)
   omega
  ·have ej:=jN next rs j (by omega)
   omega
theorem l8 {f:Nat→Option Nat}{g:Nat→Nat}(hg:∀ i j,g i=g j→i=j)(rest:List (Nat×Blk))(r:Nat):∀ (bs:List Blk) (k:Nat),
  (∀ i b,bs[i]? = some b→g (k+i)=r→lookB r (q8 f bs k g++rest)=b.ren f)∧((∀ i,i<bs.length→g (k+i)≠r)→lookB r (q8 f bs k g++rest)=lookB r rest)
 | [],k=>⟨by simp,fun _=>rfl⟩
 | b::q,k=>by
   obtain⟨h1,h2⟩:=l8 hg rest r q (k+1)
   refine⟨fun i b' hi hr=>?_,fun h=>?_⟩
   ·simp only[q8,List.cons_append,lookB]
    cases i with
    | zero=>
      simp only[List.getElem?_cons_zero,Option.some.injEq] at hi
      subst hi
      rw[if_pos (by simpa using hr)]
    | succ i=>
      rw[if_neg (fun e=>by have:=hg _ _ (e.trans hr.symm);omega)]
      exact h1 i b' (by simpa using hi) (by rw[← hr];congr 1;omega)
   ·simp only[q8,List.cons_append,lookB]
    rw[if_neg (by have:=h 0 (by simp);simpa using this)]
    exact h2 fun i hi=>by
     have:=h (i+1) (by simp;omega)
     rwa [show k+(i+1)=k+1+i by omega] at this
theorem jI (rest:List (Nat×Blk))(r:Nat):∀ (l:List Nat),lookB r (iB l++rest)=if r∈l then .none else lookB r rest
 | []=>by simp[iB]
 | x::q=>by
   simp only[iB,List.cons_append,lookB,jI rest r q,List.mem_cons]
   by_cases h:x=r
   ·subst h;simp
   ·rw[if_neg h]
    by_cases hq:r∈q
    ·simp[hq]
    ·have:¬ (r=x∨r∈q):=by rintro (e | e);exact h e.symm;exact hq e
     rw[if_neg hq,if_neg this]
theorem dz.frame {k f:Nat}{args0:List AV}{bs:List Blk}{v:AV}{bs':List Blk}(h:dz P G k f args0 bs v bs'){rs:List Nat}{args:List AV}{sto:List (Nat×Blk)}{next:Nat}
  (hargs:AVzL args (AV.renL (gSo next rs) args0)) (hbs:fJ sto (gSo next rs) rs bs) (hnd:rs.Nodup) (hlt:∀ r∈rs,r<next) (hk:k≤bs.length) (hk':k≤bs'.length) (hne:∀ b∈bs.take k,b≠.none) :
  cb P G f args sto next fun v' sto' next'=>v'=v.ren (gSo next (rs.take k))∧sto'=q8 (gSo next (rs.take k)) bs' 0 (gIn next (rs.take k))++(iB (rs.drop k)++sto)∧next'=next+(bs'.length - k):=by
 obtain⟨hcal,h⟩:=h
 refine⟨hcal,fun κ vals hS hf hsz hvals=>?_⟩
 obtain⟨hrl,hat⟩:=hbs.get
 let κ1:Kap:=⟨κ.w,fun i=>κ.nm (gIn next rs i),κ.imm⟩
 have hσ1:(fun r=>lookB r (cp bs 0))=fun r=>bs.getD r .none:=eZ bs
 have hlook:∀ i b,bs[i]? = some b→∃ r,rs[i]? = some r∧gIn next rs i=r∧ef κ r (b.ren (gSo next rs))∧(b≠.none→lookB r sto≠.none):=by
  intro i b hb
  have hi:i<rs.length:=by rw[hrl];exact (List.getElem?_eq_some_iff.1 hb).1
  have hr:=List.getElem?_eq_getElem hi
  obtain⟨q1,q2⟩:=(hat i _ b hr hb).rel (hS.blk rs[i])
  exact⟨rs[i],hr,iP next rs i _ hr,q1,fun hb'=>q2 (Blk.ren_ne.2 hb')⟩
 have hlive:∀ i,bs.getD i .none≠.none→∃ b,bs[i]? = some b∧b≠.none:=by
  intro i hi
  rw[List.getD_eq_getElem?_getD] at hi
  cases hb:bs[i]? with
  | none=>rw[hb] at hi;exact absurd rfl hi
  | some b=>rw[hb] at hi;exact⟨b,rfl,hi⟩
 have hB1:∀ i b,bs[i]? = some b→ef κ1 i b:=by
  intro i b hb
  obtain⟨r,hr,hgr,hB,_⟩:=hlook i b hb
  exact ef.unren (κ:=κ) (κ':=κ1) rfl rfl (g:=gIn next rs) (fun _=>rfl) (by rw[hgr];exact hB)
 have hl1:∀ b,(bZ κ1 (fun r=>lookB r (cp bs 0)) G).lent b→(bZ κ (fun r=>lookB r sto) G).lent b:=by
  rintro b ⟨i,d,h1,h2,h3⟩
  simp only[congrFun hσ1 i] at h1
  obtain⟨b',hb,hbn⟩:=hlive i h1
  obtain⟨r,hr,hgr,_,hn⟩:=hlook i b' hb
  exact⟨r,d,hn hbn,by rw[← hgr];exact h2,h3⟩
 have hm1:∀ b,(bZ κ1 (fun r=>lookB r (cp bs 0)) G).mine b→(bZ κ (fun r=>lookB r sto) G).mine b:=fun b hb=>hb.elim .inl (fun h=>.inr (hl1 b h))
 have hS1:SRel (bZ κ1 (fun r=>lookB r (cp bs 0)) G) κ1 (fun r=>lookB r (cp bs 0)):=by
  refine⟨fun i=>?_,fun i j d d' b h1 h2 hij hd hd' hb=>?_,fun i d b h1 hd hb=>.inr ⟨i,d,h1,hd,hb⟩,hS.immLt,?_⟩
  ·rw[congrFun hσ1 i]
   show ef κ1 i (bs.getD i .none)
   rw[List.getD_eq_getElem?_getD]
   cases hb:bs[i]? with
   | none=>trivial
   | some b=>exact hB1 i b hb
  ·simp only[congrFun hσ1 i] at h1
   simp only[congrFun hσ1 j] at h2
   obtain⟨b1,hb1,hn1⟩:=hlive i h1
   obtain⟨b2,hb2,hn2⟩:=hlive j h2
   obtain⟨r,hr,hgr,_,hn⟩:=hlook i b1 hb1
   obtain⟨r',hr',hgr',_,hn'⟩:=hlook j b2 hb2
   refine hS.apart r r' d d' b (hn hn1) (hn' hn2) (fun e=>hij ?_) (by rw[← hgr];exact hd) (by rw[← hgr'];exact hd') hb
   obtain⟨hi,ei⟩:=List.getElem?_eq_some_iff.1 hr
   obtain⟨hj,ej⟩:=List.getElem?_eq_some_iff.1 hr'
   exact (List.getElem_inj hnd).1 (ei.trans (e.trans ej.symm))
  ·refine⟨fun g o p hp=>?_,fun g hg=>?_⟩
   ·exact hS.glob.1 g o p hp
   ·obtain⟨h1,h2,h3⟩:=hS.glob.2 g hg
    exact⟨h1,fun hl=>h2 (hl1 g hl),h3⟩
 have hf1:∀ r,bs.length≤r→κ1.nm r=none:=fun r hr=>by
  show κ.nm (gIn next rs r)=none
  rw[jN next rs r (by omega)]
  exact hf _ (by omega)
 have hlen0:args0.length=args.length:=by
  rw[hargs.length]
  have:∀ (f:Nat→Option Nat) (l:List AV),(AV.renL f l).length=l.length:=by
   intro f l
   induction l with
   | nil=>simp[AV.renL]
   | cons x r ih=>simp[AV.renL,ih]
  rw[this]
 have hv1:∀ (i:Nat) (x:AV),args0[i]? = some x→ARel κ1 x (vals.getD i Go.undef):=
  (hH (κ:=κ) (κ':=κ1) rfl rfl (g:=gIn next rs) (fun _=>rfl) args0 vals (fun i x hx=>by
   obtain⟨y,hy,hyx⟩:=hargs.get i x hx
   exact hyx.rel (hvals i y hy))).2
 refine (h κ1 vals hS1 hf1 (by omega) hv1).mono ?_
 rintro e w' ⟨u,v',κ1',sto',next',rfl,rfl,he,hL,hv,hS',hf',rfl,rfl,rfl⟩
 obtain⟨g,hgdef⟩:∃ g,g=gIn next (rs.take k):=⟨_,rfl⟩
 have htl:(rs.take k).length=k:=by rw[List.length_take];omega
 have hg1:∀ i,i<k→∃ r,rs[i]? = some r∧g i=r∧r<next:=by
  intro i hi
  have hi':i<rs.length:=by omega
  have hr:=List.getElem?_eq_getElem hi'
  refine⟨rs[i],hr,?_,hlt _ (List.getElem_mem hi')⟩
  rw[hgdef]
  exact iP next _ i _ (by rw[List.getElem?_take,if_pos hi];exact hr)
 have hg2:∀ i,k≤i→g i=next+(i - k):=fun i hi=>by rw[hgdef,jN next _ i (by omega),htl]
 have hginj:∀ i j,g i=g j→i=j:=fun i j hij=>by
  rw[hgdef] at hij
  exact Fv (hnd.sublist (List.take_sublist _ _)) (fun r hr=>hlt r (List.mem_of_mem_take hr)) hij
 have hso:gSo next (rs.take k)=fun r=>some (g r):=by rw[hgdef];rfl
 rw[hso,← hgdef]
 let κ':Kap:=⟨κ1'.w,fun r=>if r<next then κ.nm r else κ1'.nm (k+(r - next)),κ1'.imm⟩
 have hnmk:∀ i,i<k→κ1'.nm i=κ1.nm i:=by
  intro i hi
  have hib:i<bs.length:=by omega
  have hb:=List.getElem?_eq_getElem hib
  obtain⟨d,hd⟩:=(hB1 i _ hb).named (hne _ (List.mem_take_iff_getElem.2 ⟨i,by omega,rfl⟩))
  rw[hd]
  exact he.nm i d (by simp only[Kap.cut];rw[if_pos hi];exact hd)
 have hnm':∀ i,κ'.nm (g i)=κ1'.nm i:=by
  intro i
  by_cases hi:i<k
  ·obtain⟨r,hr,hgr,hrn⟩:=hg1 i hi
   show (if g i<next then κ.nm (g i) else κ1'.nm (k+(g i - next)))=_
   rw[hgr,if_pos hrn,hnmk i hi]
   show κ.nm r=κ.nm (gIn next rs i)
   rw[iP next rs i r hr]
  ·show (if g i<next then κ.nm (g i) else κ1'.nm (k+(g i - next)))=_
   rw[hg2 i (by omega),if_neg (by omega)]
   congr 1;omega
 have hext:Ext κ κ':=⟨fun b o hi=>he.imm b o hi,fun b o v hi hc=>he.cell b o v hi hc,fun r d hd=>by
  have hr:r<next:=by
   rcases Nat.lt_or_ge r next with h | h
   ·exact h
   ·rw[hf r h] at hd;cases hd
  show (if r<next then κ.nm r else _)=_
  rw[if_pos hr];exact hd,fun b o ho hc=>he.obj b o ho hc⟩
 have hout:∀ r d b,lookB r sto≠.none→r∉rs→κ.nm r=some d→d.block=some b→b<κ.w.heap.size∧¬ (bZ κ1 (fun r=>lookB r (cp bs 0)) G).lent b:=by
  intro r d b h1 h2 h3 h4
  refine⟨(hS.blk r).lt h1 h3 h4,?_⟩
  rintro⟨i,d',q1,q2,q3⟩
  simp only[congrFun hσ1 i] at q1
  obtain⟨b',hb,hbn⟩:=hlive i q1
  obtain⟨r',hr',hgr,_,hn⟩:=hlook i b' hb
  refine hS.apart r r' d d' b h1 (hn hbn) (fun e=>h2 (e▸List.mem_of_getElem? hr')) h3 (by rw[← hgr];exact q2) h4 q3
 have hmem:∀ r,r∈rs→(∃ i,i<bs'.length∧g i=r)∨r∈rs.drop k:=by
  intro r hr
  obtain⟨i,hi⟩:=List.getElem?_of_mem hr
  by_cases hik:i<k
  ·obtain⟨r',hr',hgr,_⟩:=hg1 i hik
   rw[hi] at hr';cases hr'
   exact .inl ⟨i,by omega,hgr⟩
  ·refine .inr (List.mem_of_getElem? (i:=i - k) ?_)
   rw[List.getElem?_drop,show k+(i - k)=i by omega];exact hi
 have hσ':∀ r,(∃ i b,bs'[i]? = some b∧g i=r∧lookB r (q8 (fun r=>some (g r)) bs' 0 g++(iB (rs.drop k)++sto))=b.ren (fun r=>some (g r))) ∨
   lookB r (q8 (fun r=>some (g r)) bs' 0 g++(iB (rs.drop k)++sto)) = .none∨(r∉rs∧(∀ i,i<bs'.length→g i≠r)∧lookB r (q8 (fun r=>some (g r)) bs' 0 g++(iB (rs.drop k)++sto))=lookB r sto):=by
  intro r
  obtain⟨q1,q2⟩:=l8 (f:=fun r=>some (g r)) hginj (iB (rs.drop k)++sto) r bs' 0
  by_cases hi:∃ i,i<bs'.length∧g i=r
  ·obtain⟨i,hi,hgi⟩:=hi
   exact .inl ⟨i,bs'[i],List.getElem?_eq_getElem hi,hgi,q1 i _ (List.getElem?_eq_getElem hi) (by rw[Nat.zero_add];exact hgi)⟩
  ·have hni:∀ i,i<bs'.length→g i≠r:=fun i h1 h2=>hi ⟨i,h1,h2⟩
   have e:=q2 (fun i h1=>by rw[Nat.zero_add];exact hni i h1)
   rw[jI] at e
   by_cases hr:r∈rs.drop k
   ·rw[if_pos hr] at e;exact .inr (.inl e)
   ·rw[if_neg hr] at e
    exact .inr (.inr ⟨fun h=>(hmem r h).elim hi hr,hni,e⟩)
 have hlive':∀ i b,bs'[i]? = some b→b.ren (fun r=>some (g r))≠.none→lookB i (cp bs' 0)≠.none:=by
  intro i b hb hbn
  have e2:lookB i (cp bs' 0)=bs'.getD i .none:=congrFun (eZ bs') i
  rw[e2,List.getD_eq_getElem?_getD,hb]
  exact Blk.ren_ne.1 hbn
 refine⟨u,_,κ',_,_,rfl,rfl,hext,⟨hL.os,hL.tape,hL.output,hL.size,fun b hb hl=>hL.block b hb fun h=>hl (hl1 b h),fun b o hi=>(hL.imm b o hi).imp id (hm1 b)⟩,
  nl (κ:=κ1') (κ':=κ') rfl rfl (fun r r' hr=>by cases hr;exact hnm' r) v' u hv,?_,fun r hr=>?_,rfl,rfl,rfl⟩
 ·refine⟨fun r=>?_,fun r r' d d' b h1 h2 hrr hd hd' hb=>?_,fun r d b h1 hd hb=>?_,hS'.immLt,?_⟩
  ·show ef κ' r (lookB r _)
   rcases hσ' r with ⟨i,b,hb,hgi,e⟩ | e | ⟨hr,hni,e⟩
   ·rw[e,← hgi]
    refine ef.ren (κ:=κ1') (κ':=κ') rfl rfl hnm' ?_
    have:=hS'.blk i
    have e2:lookB i (cp bs' 0)=bs'.getD i .none:=congrFun (eZ bs') i
    simp only[e2,List.getD_eq_getElem?_getD,hb] at this
    exact this
   ·rw[e];trivial
   ·rw[e]
    refine (hS.blk r).keep hext fun hbn d b hd hb=>?_
    obtain⟨q1,q2⟩:=hout r d b hbn hr hd hb
    refine⟨hL.block b q1 q2,fun o ho=>?_⟩
    rcases hL.imm b o ho with h | h | h
    ·exact h
    ·exact absurd q1 (Nat.not_lt.2 h)
    ·exact absurd h q2
  ·have cal:∀ r i b0 d,bs'[i]? = some b0→g i=r→b0.ren (fun r=>some (g r))≠.none→κ'.nm r=some d→lookB i (cp bs' 0)≠.none∧κ1'.nm i=some d:=by
    intro r i b0 d hb0 hgi hbn hd
    exact⟨hlive' i b0 hb0 hbn,by rw[← hnm' i,hgi];exact hd⟩
   have own:∀ r d,r∉rs→lookB r sto≠.none→κ'.nm r=some d→κ.nm r=some d:=by
    intro r d hr hbn hd
    obtain⟨d',hd'⟩:=(hS.blk r).named hbn
    have:=hext.nm r d' hd'
    rw[this] at hd;cases hd;exact hd'
   have mix:∀ r i b0 d d' b,bs'[i]? = some b0→b0.ren (fun r=>some (g r))≠.none→κ1'.nm i=some d→d.block=some b→lookB i (cp bs' 0)≠.none→r∉rs→lookB r sto≠.none→κ.nm r=some d'→d'.block≠some b:=by
    intro r i b0 d d' b hb0 hbn hd hdb hl hr hrl hd' hdb'
    obtain⟨q1,q2⟩:=hout r d' b hrl hr hd' hdb'
    rcases hS'.mine i d b hl hd hdb with h | h
    ·exact absurd q1 (Nat.not_lt.2 h)
    ·exact q2 h
   rcases hσ' r with ⟨i,b1,hb1,hgi,e⟩ | e | ⟨hr,hni,e⟩
   ·have h1':b1.ren (fun r=>some (g r))≠.none:=by
     intro h0;exact h1 (e.trans h0)
    obtain⟨p1,p2⟩:=cal r i b1 d hb1 hgi h1' hd
    rcases hσ' r' with ⟨j,b2,hb2,hgj,e'⟩ | e' | ⟨hr',hni',e'⟩
    ·have h2':b2.ren (fun r=>some (g r))≠.none:=by
      intro h0;exact h2 (e'.trans h0)
     obtain⟨p3,p4⟩:=cal r' j b2 d' hb2 hgj h2' hd'
     exact hS'.apart i j d d' b p1 p3 (fun hij=>hrr (by rw[← hgi,← hgj,hij])) p2 p4 hb
    ·exact absurd e' h2
    ·have h2':lookB r' sto≠.none:=by intro h0;exact h2 (e'.trans h0)
     exact mix r' i b1 d d' b hb1 h1' p2 hb p1 hr' h2' (own r' d' hr' h2' hd')
   ·exact absurd e h1
   ·have h1':lookB r sto≠.none:=by intro h0;exact h1 (e.trans h0)
    have hd0:=own r d hr h1' hd
    rcases hσ' r' with ⟨j,b2,hb2,hgj,e'⟩ | e' | ⟨hr',hni',e'⟩
    ·have h2':b2.ren (fun r=>some (g r))≠.none:=by
      intro h0;exact h2 (e'.trans h0)
     obtain⟨p3,p4⟩:=cal r' j b2 d' hb2 hgj h2' hd'
     intro hb'
     exact mix r j b2 d' d b hb2 h2' p4 hb' p3 hr h1' hd0 hb
    ·exact absurd e' h2
    ·have h2':lookB r' sto≠.none:=by intro h0;exact h2 (e'.trans h0)
     exact hS.apart r r' d d' b h1' h2' hrr hd0 (own r' d' hr' h2' hd') hb
  ·rcases hσ' r with ⟨i,b1,hb1,hgi,e⟩ | e | ⟨hr,hni,e⟩
   ·have h1':b1.ren (fun r=>some (g r))≠.none:=by
     intro h0;exact h1 (e.trans h0)
    refine hm1 b (hS'.mine i d b (hlive' i b1 hb1 h1') (by rw[← hnm' i,hgi];exact hd) hb)
   ·exact absurd e h1
   ·have h1':lookB r sto≠.none:=by intro h0;exact h1 (e.trans h0)
    obtain⟨d',hd'⟩:=(hS.blk r).named h1'
    have:=hext.nm r d' hd'
    rw[this] at hd;cases hd
    exact .inr ⟨r,d,h1',hd',hb⟩
  ·refine⟨hS'.glob.1,fun g' hg'=>?_⟩
   obtain⟨h1,h2,cs,T,fz,h3,h4⟩:=hS.glob.2 g' hg'
   exact⟨h1,h2,cs,T,fz,(hL.block g' h1 fun h=>h2 (hl1 g' h)).trans h3,h4⟩
 ·show (if r<next then κ.nm r else κ1'.nm (k+(r - next)))=none
  rw[if_neg (by omega)]
  exact hf' _ (by omega)
def C9 (k:Nat)(rs:List Nat)(bs bs':List Blk)(next:Nat):Bool:=
 decide (k≤bs.length)&&decide (k≤bs'.length)&&(bs.take k).all (fun b=>match b with | .none=>false | _=>true)&&rs.all (fun r=>decide (r<next))&&decide rs.Nodup
theorem ab.lentK {k f:Nat}{args0:List AV}{bs:List Blk}{v:AV}{bs':List Blk}(h:dz P G k f args0 bs v bs')(rs:List Nat){args:List AV}{env:List (Nat×AV)}{sto:List (Nat×Blk)}{next:Nat}{K:AV→St→Prop}
  (hok:C9 k rs bs bs' next=true) (hargs:AVzL args (AV.renL (gSo next rs) args0)) (hbs:fJ sto (gSo next rs) rs bs)
  (hK:K (v.ren (gSo next (rs.take k))) ⟨env,q8 (gSo next (rs.take k)) bs' 0 (gIn next (rs.take k))++(iB (rs.drop k)++sto),next+(bs'.length - k)⟩):ab P G f args ⟨env,sto,next⟩ K:=by
 simp only[C9,Bool.and_eq_true,decide_eq_true_eq,List.all_eq_true] at hok
 obtain⟨⟨⟨⟨h1,h2⟩,h3⟩,h4⟩,h5⟩:=hok
 refine ab.lent (h.frame hargs hbs h5 h4 h1 h2 (fun b hb e=>?_)) ?_
 ·have:=h3 b hb
  subst e;cases this
 ·rintro v' sto' next' ⟨rfl,rfl,rfl⟩
  exact hK
end
end Go.Ab
namespace Go.Ab
open Go
theorem wN (k:Nat):cp [] k=[]:=_root_.id rfl
theorem rR (b:Blk)(r:List Blk)(k:Nat):cp (b::r) k=(k,b)::cp r (k+1):=_root_.id rfl
theorem rA (sto:List (Nat×Blk))(f:Nat→Option Nat):fJ sto f [] []=True:=_root_.id rfl
theorem nQ (sto:List (Nat×Blk))(f:Nat→Option Nat)(r:Nat)(rs:List Nat)(b:Blk)(bs:List Blk):fJ sto f (r::rs) (b::bs)=(BlkZ (lookB r sto) (b.ren f)∧fJ sto f rs bs):=_root_.id rfl
theorem A0 (f:Nat→Option Nat)(i:Nat)(g:Nat→Nat):q8 f [] i g=[]:=_root_.id rfl
theorem u7 (f:Nat→Option Nat)(b:Blk)(r:List Blk)(i:Nat)(g:Nat→Nat):q8 f (b::r) i g=(g i,b.ren f)::q8 f r (i+1) g:=_root_.id rfl
theorem vB:iB []=[]:=_root_.id rfl
theorem I4 (next:Nat)(rs:List Nat)(r:Nat):gSo next rs r=some (gIn next rs r):=_root_.id rfl
theorem Mf (next r:Nat)(q:List Nat):gIn next (r::q) 0=r:=_root_.id rfl
theorem ko {sz r off n:Nat}{k:IntKind}{h:Int}(h0:0≤h)(h1:h≤n)(hs:0<sz):di sz (.row r sz off n) none (some (.pv (.int k h)))=some (.row r sz off h.toNat):=by
 simp[di,aZ,h0,h1,hs]
theorem Cr (n:Int):n+1 - 1=n:=by omega
theorem bd (A:List (Nat×Nat×Nat×Nat)){k:Nat}{v v':AV}{bs':List Blk}{sto':List (Nat×Blk)}{next':Nat}(h:StZ (dR A k [0] ⟨[(0,v')],sto',next'⟩) ⟨[(0,v)],cp bs' 0,bs'.length⟩):Fq k v bs' v' sto' next':=Wk.head h
end Go.Ab
namespace Go.Ab
open Go Go.RowKit
section
variable {P:Program}{G:Nat→List PV}
theorem yp (F:St→Prop)(s:St):Nl F .norm s=F s:=_root_.id rfl
theorem Cj (b:ACode)(Q:AExit→St→Prop)(e:List (Nat×AV))(σ:List (Nat×Blk))(n:Nat):F6 (fun m=>vc P G m b) Q ⟨e,σ,n⟩=vc P G n b Q ⟨e,σ,n⟩:=_root_.id rfl
theorem Am (e:List (Nat×AV)):An [] [] e=e:=_root_.id rfl
theorem uG (p:Nat)(ps:List Nat)(x:PV)(xs:List PV)(e:List (Nat×AV)):An (p::ps) (x::xs) e=An ps xs ((p,.pv x)::e):=_root_.id rfl
def MF {ι:Type}(A:List (Nat×Nat×Nat×Nat))(S:ι→St)(Inv:Nat→ι→Prop)(i m0:Nat)(keep:List Nat)(Q:AExit→St→Prop)(e0:List (Nat×AV)):AExit→St→Prop
 | .norm,s'=>∃ x',Hd A m0 keep ⟨e0,s'.sto,s'.next⟩ (S x')∧Inv (i+1) x'
 | .exit j,s'=>Q (.exit j) ⟨e0,s'.sto,s'.next⟩
 | .ret,s'=>Q .ret ⟨e0,s'.sto,s'.next⟩
theorem x6 {ι:Type}(A:List (Nat×Nat×Nat×Nat))(S:ι→St)(Inv:Nat→ι→Prop)(i m0:Nat)(keep:List Nat)(Q:AExit→St→Prop)(e0 e:List (Nat×AV))(σ:List (Nat×Blk))(n:Nat):MF A S Inv i m0 keep Q e0 .norm ⟨e,σ,n⟩ = ∃ x',Hd A m0 keep ⟨e0,σ,n⟩ (S x')∧Inv (i+1) x':=_root_.id rfl
theorem CA {ι:Type}(A:List (Nat×Nat×Nat×Nat))(S:ι→St)(Inv:Nat→ι→Prop)(i m0:Nat)(keep:List Nat)(Q:AExit→St→Prop)(e0 e:List (Nat×AV))(σ:List (Nat×Blk))(n:Nat):MF A S Inv i m0 keep Q e0 .ret ⟨e,σ,n⟩=Q .ret ⟨e0,σ,n⟩:=_root_.id rfl
theorem I3:∀ (lb:List PV),pvs (lb.map AV.pv)=some lb
 | []=>rfl
 | p::r=>by simp[pvs,AV.toPV,I3 r]
theorem sZ {ι:Type}(A:List (Nat×Nat×Nat×Nat))(ch:ι→List (Nat×AV))(chB:ι→List (Nat×Blk))(Inv:Nat→ι→Prop)(x0:ι){gf:Nat}{lb:List PV}{xs:List (List PV)}(hs:Lp P G gf lb xs)
  {m0:Nat} {f:AX} {ps keep:List Nat} {a b:ACode} {Q:AExit→St→Prop} {s:St}
  (h:∀ e0 σ0 n0,dR A m0 keep s=⟨e0,σ0,n0⟩→StZ ⟨e0,σ0,n0⟩ ⟨eY e0 (ch x0),fP σ0 (chB x0),n0⟩∧Inv 0 x0∧cN (f.ev (fun i=>look i (eY e0 (ch x0))))=some (gf,[],lb.map AV.pv) ∧
   (∀ i x y,xs[i]? = some y→Inv i x→y.length=ps.length∧vc P G n0 a (Nl (F6 (fun m=>vc P G m b) (MF A (fun x=>⟨eY e0 (ch x),fP σ0 (chB x),n0⟩) Inv i m0 keep Q (eY e0 (ch x))))) ⟨An ps y (eY e0 (ch x)),fP σ0 (chB x),n0⟩) ∧
   ∀ x,Inv xs.length x→Q .norm ⟨eY e0 (ch x),fP σ0 (chB x),n0⟩):vc P G m0 (.range f ps keep a b) Q s:=by
 obtain⟨h1,h2,h3,h4,h5⟩:=h (dR A m0 keep s).env (dR A m0 keep s).sto (dR A m0 keep s).next rfl
 let S:ι→St:=fun x=>⟨eY (dR A m0 keep s).env (ch x),fP (dR A m0 keep s).sto (chB x),(dR A m0 keep s).next⟩
 refine⟨fun i t=>∃ x,t=S x∧Inv i x,S x0,aT h1,⟨x0,rfl,h2⟩,?_⟩
 have e:cN (f.ev (S x0).E)=some (gf,[],lb.map AV.pv):=h3
 rw[e]
 refine⟨rfl,lb,xs,I3 lb,hs,?_,?_⟩
 ·rintro i y t hy ⟨x,rfl,hx⟩
  obtain⟨k1,k2⟩:=h4 i x y hy hx
  refine⟨k1,cD a (fun e s hs=>?_) _ k2⟩
  cases e with
  | norm=>
    refine cD b (fun e s hs=>?_) s hs
    cases e with
    | norm=>
      obtain⟨x',q1,q2⟩:=hs
      exact⟨S x',q1,x',rfl,q2⟩
    | exit j=>exact hs
    | ret=>exact hs
  | exit j=>exact hs.elim
  | ret=>exact hs.elim
 ·rintro t ⟨x,rfl,hx⟩
  exact h5 x hx
end
end Go.Ab
namespace Go.Ab
open Go
attribute [push_cast] yy Mj Mk Ml Mm Mn Mo vP
 Br rx vQ Mh Mi B1 B2 FJ B4 FI B0 DY
 tx qw qv qu nh qr ne yS tz tA
 nc na yX yY EQ yR yQ tC
 yW yU qq EJ
 EK qM nw uP EW lG qN nv
 qL zU ur zW nx ny wZ xJ nr Ai
 z6 Ac z8 z7 Ah Aa Ad Ae
 Af Ag uB uA uw uz
 uC zJ un uu zI
 EO vq ND NC ES uE uF
 kr DU qj yO vJ iF
 Fe nG Ff nH nI xx sn sm
 mt ae sl xv xq sh sk xw
 nP ry uq qK Fm Fl p5 pZ rt JP
 Bp sq vN Bx vV vU nR vL rr
 nL nM Fg EL qI lk zb km yH tq
 Cd Ce EZ Bd Bf Be Bg Ch s7 p7
 sP sQ sO mL wU rY lK lL A9 Aj Jl
 Jm wT zd zg zf Ip Io nK lW
 lX kw kx DK yG s8 rZ
 nY FN nN l6 lY kA
 kz Fd Bk Bj rm vX rD FO rX w8 sd w9
 sf FQ FS Bm IR A7 xZ x4 Cy oo oq sD
 DG H0 DI FM HY DJ yF DH HZ A5 Mb Mc
 zz ua CC Gp EB It Iu Is r8 t8 qD Ao
 I1 v8 wc rG rF og oh sB uL
 qR uZ qZ uM qT u6 q0 kv E2 IM IK E3
 IL E4 A6 zO zP map_take map_drop
 vu qP JS Co Cm Cl Ga pP rT rU
 nX MB JO xI oU vg vd A1 oT EY
 A4 A3 q9 lF nB re rc Cq JT
 JR Fk Bu wa Ja BU BV
 Fx Bh vF vE Bi
 vG vH rj iC lR lS rk Cs xT Gf
 Gg Fu pg mx fG EI EH mo kN LV Ir vA
 rg E6 E8 E7 qF np ri wh CZ EF ED
 EC IA EE uc ub ud zF lB ue
 qG zG A8 Ct xU xV xY Fa E9 Bb
 Ba Gj Cw sA xX Cx Gi Nx Nw LI Jo Jp
 FF wD rN At Ck
 B6 wM xK JQ
 xM xN za tJ H4 wN rR rA nQ A0 u7
 vB I4 Mf ko Cr
 Nat.zero_add Nat.add_zero List.length_cons List.length_nil List.nil_append List.cons_append List.append_nil List.append_assoc
 List.getElem?_map List.length_map List.map_nil List.map_cons List.take_succ_cons List.take_zero List.drop_succ_cons List.drop_zero List.take_nil List.drop_nil List.all_cons List.all_nil
 Bool.and_true Bool.true_and Bool.and_false Bool.false_and Bool.not_true Bool.not_false decide_true decide_false Bool.not_not Int.natCast_add Int.cast_ofNat_Int Int.toNat_natCast
 Option.some.injEq and_true true_and ge_iff_le Nat.le_refl Nat.zero_le Nat.not_lt_zero and_self
attribute [push_cast] yp Cj Am uG x6 CA
attribute [push_cast high] Int.cast_ofNat_Int
end Go.Ab

/- A program logic over the model: part 5 (a proof is built on it; nothing of the statement is said here). -/
import Derived.Test.YtbojpfpliibfbaaGreatDoorWiCore4
set_option linter.unusedVariables false
set_option linter.unusedSimpArgs false
namespace Go.Ab
open Go Go.RowKit
theorem yh {n:Int}(h1:-9223372036854775808≤n)(h2:n≤9223372036854775807):IntKind.i64.wrap n=n:=by
 show (if (true&&decide (n % 18446744073709551616≥9223372036854775808))=true then n % 18446744073709551616 - 18446744073709551616 else n % 18446744073709551616)=n
 simp only[Bool.true_and,decide_eq_true_eq]
 split<;>omega
theorem LO {a b:Int}(h:a<b):decide (a<b)=true:=decide_eq_true h
theorem LP {a b:Int}(h:¬ a<b):decide (a<b)=false:=decide_eq_false h
theorem LQ {a b:Int}(h:a≤b):decide (a≤b)=true:=decide_eq_true h
theorem LR {a b:Int}(h:¬ a≤b):decide (a≤b)=false:=decide_eq_false h
theorem LS {a b:Int}(h:a=b):decide (a=b)=true:=decide_eq_true h
theorem LT {a b:Int}(h:¬ a=b):decide (a=b)=false:=decide_eq_false h
def Chk (b:Bool):Prop:=b=true
theorem FA:Chk true:=_root_.id rfl
theorem vG (i k:Nat)(x:AV)(r:List (Nat×AV)):look i ((k,x)::r)=if k=i then x else look i r:=_root_.id rfl
theorem Bf (i:Nat):look i [] = .any:=_root_.id rfl
theorem rm (i k:Nat)(x:Blk)(r:List (Nat×Blk)):lookB i ((k,x)::r)=if k=i then x else lookB i r:=_root_.id rfl
theorem vH (i:Nat):lookB i [] = .none:=_root_.id rfl
def evE (e:List (Nat×AV)):AX→AV
 | .t i=>look i e
 | .c p=>.pv p
 | .m i tb=>KP tb (look i e)
theorem LM (e:List (Nat×AV))(i:Nat):evE e (.t i)=look i e:=_root_.id rfl
theorem LN (e:List (Nat×AV))(p:PV):evE e (.c p) = .pv p:=_root_.id rfl
def evO (e:List (Nat×AV)):Option AX→Option AV
 | some x=>some (evE e x)
 | none=>none
theorem BQ (e:List (Nat×AV))(x:AX):evO e (some x)=some (evE e x):=_root_.id rfl
theorem BR (e:List (Nat×AV)):evO e none=none:=_root_.id rfl
def evL (e:List (Nat×AV)):List AX→List AV
 | []=>[]
 | x::r=>evE e x::evL e r
theorem Fs (e:List (Nat×AV)):evL e []=[]:=_root_.id rfl
theorem BT (e:List (Nat×AV))(x:AX)(r:List AX):evL e (x::r)=evE e x::evL e r:=_root_.id rfl
theorem gC (e:List (Nat×AV))(σ:List (Nat×Blk))(n:Nat)(x:AX):x.ev (St.E ⟨e,σ,n⟩)=evE e x:=by cases x<;>rfl
theorem wA (e:List (Nat×AV))(σ:List (Nat×Blk))(n:Nat):∀ (l:List AX),l.map (·.ev (St.E ⟨e,σ,n⟩))=evL e l
 | []=>rfl
 | x::r=>by rw[List.map_cons,wA e σ n r,gC];rfl
def evP (e:List (Nat×AV)):List (Nat×Nat×AX)→List (Nat×Nat×AV)
 | []=>[]
 | (a,b,x)::r=>(a,b,evE e x)::evP e r
theorem Fr (e:List (Nat×AV)):evP e []=[]:=_root_.id rfl
theorem BP (e:List (Nat×AV))(a b:Nat)(x:AX)(r:List (Nat×Nat×AX)):evP e ((a,b,x)::r)=(a,b,evE e x)::evP e r:=_root_.id rfl
def gd (e:List (Nat×AV)):TOp→Option AV
 | .mv x=>some (evE e x)
 | .pick c a b=>nr (evE e c) (evE e a) (evE e b)
 | .build zs ps=>(eX (zs.map .pv) (evP e ps)).map gy
 | .faddr off x=>iv off (evE e x)
 | .field g sz off x=>oI g sz off (evE e x)
 | .iaddr sz x i=>gi sz (evE e x) (evE e i)
 | .iaddrA n sz x i=>fL n sz (evE e x) (evE e i)
 | .index x i=>gh (evE e x) (evE e i)
 | .indexA g n sz x i=>bu g n sz (evE e x) (evE e i)
 | .len st x=>zz st (evE e x)
 | .lenC n=>some (.pv (.int .i64 n))
 | .imin x y=>Ex (evE e x) (evE e y)
 | .imax x y=>Ey (evE e x) (evE e y)
 | .sliceL sz x lo hi=>de sz (evE e x) (evO e lo) (evO e hi)
 | .sliceS x lo hi=>eU (evE e x) (evO e lo) (evO e hi)
 | .bin op x y=>eB op (evE e x) (evE e y)
 | .beq kd ng x y=>(CM kd (evE e x) (evE e y)).map fun b=>.pv (.bool (if ng then !b else b))
 | .neg x=>Hq (evE e x)
 | .not x=>Ho (evE e x)
 | .compl x=>oK (evE e x)
 | .conv k x=>qH k (evE e x)
 | .convS x=>oJ (evE e x)
 | .convIS x=>ko (evE e x)
 | .beqS ng ks x y=>(z7 ks (evE e x) (evE e y)).map fun b=>.pv (.bool (if ng then !b else b))
 | .clo f fs cs=>some (nI f (evL e fs) (evL e cs))
 | .ext x i=>Hr i (evE e x)
 | .nilck x=>Hp (evE e x)
theorem BS (e:List (Nat×AV)):∀ (l:List AX),l.map (fun x=>evE e x)=evL e l
 | []=>rfl
 | x::r=>by rw[List.map_cons,BS e r];rfl
theorem IY (e:List (Nat×AV))(l:Option AX):l.map (fun x=>evE e x)=evO e l:=by cases l<;>rfl
theorem IX (e:List (Nat×AV)):∀ (l:List (Nat×Nat×AX)),(l.map fun p=>(p.1,p.2.1,evE e p.2.2))=evP e l
 | []=>rfl
 | (a,b,x)::r=>by rw[List.map_cons,IX e r];rfl
theorem tp (e:List (Nat×AV))(σ:List (Nat×Blk))(n:Nat)(o:TOp):o.run (St.E ⟨e,σ,n⟩)=gd e o:=by
 cases o<;>simp only[TOp.run,gd,gC,BS,IY,IX]
theorem DI (e:List (Nat×AV))(x:AX):gd e (.mv x)=some (evE e x):=_root_.id rfl
theorem tk (e:List (Nat×AV))(c a b:AX):gd e (.pick c a b)=nr (evE e c) (evE e a) (evE e b):=_root_.id rfl
theorem qp (e:List (Nat×AV))(zs:List PV)(ps:List (Nat×Nat×AX)):gd e (.build zs ps)=(eX (zs.map .pv) (evP e ps)).map gy:=_root_.id rfl
theorem qo (e:List (Nat×AV))(off:Nat)(x:AX):gd e (.faddr off x)=iv off (evE e x):=_root_.id rfl
theorem qm (e:List (Nat×AV))(sz:Nat)(x i:AX):gd e (.iaddr sz x i)=gi sz (evE e x) (evE e i):=_root_.id rfl
theorem ne (e:List (Nat×AV))(n sz:Nat)(x i:AX):gd e (.iaddrA n sz x i)=fL n sz (evE e x) (evE e i):=_root_.id rfl
theorem qj (e:List (Nat×AV))(x i:AX):gd e (.index x i)=gh (evE e x) (evE e i):=_root_.id rfl
theorem nc (e:List (Nat×AV))(g:Bool)(n sz:Nat)(x i:AX):gd e (.indexA g n sz x i)=bu g n sz (evE e x) (evE e i):=_root_.id rfl
theorem yF (e:List (Nat×AV))(st:Bool)(x:AX):gd e (.len st x)=zz st (evE e x):=_root_.id rfl
theorem tl (e:List (Nat×AV))(x y:AX):gd e (.imin x y)=Ex (evE e x) (evE e y):=_root_.id rfl
theorem tm (e:List (Nat×AV))(x y:AX):gd e (.imax x y)=Ey (evE e x) (evE e y):=_root_.id rfl
theorem na (e:List (Nat×AV))(sz:Nat)(x:AX)(lo hi:Option AX):gd e (.sliceL sz x lo hi)=de sz (evE e x) (evO e lo) (evO e hi):=_root_.id rfl
theorem m9 (e:List (Nat×AV))(x:AX)(lo hi:Option AX):gd e (.sliceS x lo hi)=eU (evE e x) (evO e lo) (evO e hi):=_root_.id rfl
theorem yI (e:List (Nat×AV))(op:BinOp)(x y:AX):gd e (.bin op x y)=eB op (evE e x) (evE e y):=_root_.id rfl
def EC (ng:Bool):Option Bool→Option AV
 | some b=>some (.pv (.bool (if ng then !b else b)))
 | none=>none
theorem yJ (e:List (Nat×AV))(kd:Nat)(ng:Bool)(x y:AX):gd e (.beq kd ng x y)=EC ng (CM kd (evE e x) (evE e y)):=by
 simp only[gd];cases CM kd (evE e x) (evE e y)<;>rfl
theorem EB (b:Bool):EC false (some b)=some (.pv (.bool b)):=_root_.id rfl
theorem yE (e:List (Nat×AV))(x:AX):gd e (.neg x)=Hq (evE e x):=_root_.id rfl
theorem yD (e:List (Nat×AV))(x:AX):gd e (.not x)=Ho (evE e x):=_root_.id rfl
theorem tq (e:List (Nat×AV))(k:IntKind)(x:AX):gd e (.conv k x)=qH k (evE e x):=_root_.id rfl
theorem yH (e:List (Nat×AV))(f:Nat)(fs cs:List AX):gd e (.clo f fs cs)=some (nI f (evL e fs) (evL e cs)):=_root_.id rfl
theorem yG (e:List (Nat×AV))(x:AX)(i:Nat):gd e (.ext x i)=Hr i (evE e x):=_root_.id rfl
theorem p8 (e:List (Nat×AV))(x:AX):gd e (.nilck x)=Hp (evE e x):=_root_.id rfl
theorem Eu (x y:AV):nr (.pv (.bool true)) x y=some x:=_root_.id rfl
theorem Ev (x y:AV):nr (.pv (.bool false)) x y=some y:=_root_.id rfl
theorem qF (off r o:Nat):iv off (.ptr r o)=some (.ptr r (o+off)):=_root_.id rfl
theorem nv (off:Nat)(l:List PV)(i o:Nat):iv off (.pv (.eptr l i o))=some (.pv (.eptr l i (o+off))):=_root_.id rfl
def EG (sz off:Nat)(cs:List AV):Option AV:=if off+sz≤cs.length then some (gy ((cs.drop off).take sz)) else none
theorem uH (sz off:Nat)(cs:List AV):dg true sz off cs=EG sz off cs:=_root_.id rfl
theorem EH (sz off:Nat)(cs:List AV):dg false sz off cs=cs[off]?:=_root_.id rfl
def iz (sz:Nat)(l:List PV)(i:Nat):Option PV→Option AV
 | some y=>if y.cells.length=sz then some (.pv (.eptr l i 0)) else none
 | none=>none
theorem lF (sz:Nat)(l:List PV)(i:Nat):iw sz l (i:Int)=iz sz l i l[i]?:=by
 unfold iw iz
 rw[if_pos (by omega)]
 simp only[Int.toNat_natCast]
 cases l[i]? <;> rfl
theorem aJ (sz:Nat)(l:List PV):iw sz l 0=iz sz l 0 l[0]?:=_root_.id rfl
theorem qG (sz:Nat)(l:List PV)(i:Nat):iw sz l ((i:Int)+1)=iz sz l (i+1) l[i+1]?:=lF sz l (i+1)
theorem nu (sz:Nat)(l:List PV)(k:IntKind)(n:Int):gi sz (.pv (.list l)) (.pv (.int k n))=iw sz l n:=_root_.id rfl
theorem qE (sz r off len:Nat)(k:IntKind){n:Int}(h:0≤n)(h':n.toNat<len):gi sz (.row r sz off len) (.pv (.int k n))=some (.ptr r (off+n.toNat*sz)):=by
 simp[gi,h,h']
theorem zx (l:List UInt8):zz true (.pv (.str l))=some (.pv (.int .i64 l.length)):=_root_.id rfl
theorem uh (l:List PV):zz false (.pv (.list l))=some (.pv (.int .i64 l.length)):=_root_.id rfl
theorem ug:zz false (.pv .nils)=some (.pv (.int .i64 0)):=_root_.id rfl
theorem zy (r s o n:Nat):zz false (.row r s o n)=some (.pv (.int .i64 n)):=_root_.id rfl
theorem nw {d top:Nat}{k:IntKind}{n:Int}(h0:0≤n)(h1:n≤top):aX d top (some (.pv (.int k n)))=some n.toNat:=by
 simp[aX,h0,h1]
theorem nx {d top:Nat}:aX d top none=some d:=_root_.id rfl
def LV {α:Type}(l:List α)(f:List α→AV):Option Nat→Option Nat→Option AV
 | some h,some a=>some (f ((l.take h).drop a))
 | _,_=>none
theorem wP {α:Type}(l:List α)(f:List α→AV)(h a:Nat):LV l f (some h) (some a)=some (f ((l.take h).drop a)):=_root_.id rfl
def L4 (l:Nat)(lo:Option AV):Option Nat→Option Nat
 | some h=>aX 0 h lo
 | none=>none
theorem xy (l:Nat)(lo:Option AV)(h:Nat):L4 l lo (some h)=aX 0 h lo:=_root_.id rfl
theorem nq (l:List UInt8)(lo hi:Option AV):eU (.pv (.str l)) lo hi=LV l (fun x=>.pv (.str x)) (aX l.length l.length hi) (L4 l.length lo (aX l.length l.length hi)):=by
 unfold eU LV L4
 simp only
 split<;>rename_i h
 ·rw[h];simp only;cases aX 0 _ lo<;>rfl
 ·rw[h]
theorem z1 (k:IntKind)(a b:Int):eB .add (.pv (.int k a)) (.pv (.int k b))=some (.pv (.int k (k.wrap (a+b)))):=by simp[eB,oH]
theorem zG (k:IntKind)(a b:Int):eB .sub (.pv (.int k a)) (.pv (.int k b))=some (.pv (.int k (k.wrap (a - b)))):=by simp[eB,oH]
theorem zO (k:IntKind)(a b:Int):eB .mul (.pv (.int k a)) (.pv (.int k b))=some (.pv (.int k (k.wrap (a*b)))):=by simp[eB,oH]
theorem zI {k:IntKind}{a b:Int}(h:¬ b=0):eB .quo (.pv (.int k a)) (.pv (.int k b))=some (.pv (.int k (k.wrap (a.tdiv b)))):=by simp[eB,oH,h]
theorem zH {k:IntKind}{a b:Int}(h:¬ b=0):eB .rem (.pv (.int k a)) (.pv (.int k b))=some (.pv (.int k (a.tmod b))):=by simp[eB,oH,h]
theorem zZ (k:IntKind)(a b:Int):eB .eql (.pv (.int k a)) (.pv (.int k b))=some (.pv (.bool (decide (a=b)))):=by simp[eB,oH];rfl
theorem zJ (k:IntKind)(a b:Int):eB .neq (.pv (.int k a)) (.pv (.int k b))=some (.pv (.bool (!decide (a=b)))):=by simp[eB,oH];rfl
theorem zP (k:IntKind)(a b:Int):eB .lss (.pv (.int k a)) (.pv (.int k b))=some (.pv (.bool (decide (a<b)))):=by simp[eB,oH]
theorem zU (k:IntKind)(a b:Int):eB .leq (.pv (.int k a)) (.pv (.int k b))=some (.pv (.bool (decide (a≤b)))):=by simp[eB,oH]
theorem zW (k:IntKind)(a b:Int):eB .gtr (.pv (.int k a)) (.pv (.int k b))=some (.pv (.bool (decide (b<a)))):=by simp[eB,oH]
theorem zY (k:IntKind)(a b:Int):eB .geq (.pv (.int k a)) (.pv (.int k b))=some (.pv (.bool (decide (b≤a)))):=by simp[eB,oH]
theorem up {a b:List UInt8}(h:a.length+b.length≤9223372036854775807):eB .add (.pv (.str a)) (.pv (.str b))=some (.pv (.str (a++b))):=by
 have:a.length+b.length≤maxLen:=by unfold maxLen;omega
 simp[eB,Hn,this]
theorem uo (a b:List UInt8):eB .eql (.pv (.str a)) (.pv (.str b))=some (.pv (.bool (decide (a=b)))):=by
 simp[eB,Hn];rw[Bool.eq_iff_iff];simp
theorem um (a b:List UInt8):eB .neq (.pv (.str a)) (.pv (.str b))=some (.pv (.bool (!decide (a=b)))):=by
 simp[eB,Hn];rw[Bool.eq_iff_iff];simp
theorem un (a b:List UInt8):eB .lss (.pv (.str a)) (.pv (.str b))=some (.pv (.bool (bU a b))):=_root_.id rfl
theorem uq (x:PV)(l:List PV):CM 2 (.pv (.list (x::l))) (.pv .nils)=some false:=_root_.id rfl
theorem zr (k:IntKind)(n:Int):Hq (.pv (.int k n))=some (.pv (.int k (k.wrap (0 - n)))):=_root_.id rfl
theorem uc (b:Bool):Ho (.pv (.bool b))=some (.pv (.bool (!b))):=_root_.id rfl
theorem ul (k k':IntKind)(n:Int):qH k (.pv (.int k' n))=some (.pv (.int k (k.wrap n))):=_root_.id rfl
theorem zq (r o:Nat):Hp (.ptr r o)=some (.ptr r o):=_root_.id rfl
theorem Ez (i:Nat)(ps:List PV):Hr i (.pv (.tup ps))=(ps[i]?).map .pv:=_root_.id rfl
theorem vd {α β:Type}(f:α→β)(a:α):(some a).map f=some (f a):=_root_.id rfl
theorem M2 {α:Type}(x:α)(r:List α):(x::r)[0]? = some x:=_root_.id rfl
theorem M1 {α:Type}(x:α)(r:List α)(n:Nat):(x::r)[n+1]? = r[n]?:=_root_.id rfl
theorem ED:pvs []=some []:=_root_.id rfl
def Lw:Option PV→Option (List PV)→Option (List PV)
 | some p,some ps=>some (p::ps)
 | _,_=>none
theorem ut (p:PV)(ps:List PV):Lw (some p) (some ps)=some (p::ps):=_root_.id rfl
theorem uu (x:Option (List PV)):Lw none x=none:=_root_.id rfl
theorem kq (x:AV)(r:List AV):pvs (x::r)=Lw x.toPV (pvs r):=by
 show (match x.toPV,pvs r with | some p,some ps=>some (p::ps) | _,_=>none)=_
 cases x.toPV<;>cases pvs r<;>rfl
theorem pvs_map:∀ (ps:List PV),pvs (ps.map .pv)=some ps
 | []=>rfl
 | x::r=>by rw[List.map_cons,kq,pvs_map r];rfl
theorem DE (p:PV):(AV.pv p).toPV=some p:=_root_.id rfl
theorem pZ (r s:Nat)(l:List PV):(AV.olist r s l).toPV=some (.list l):=_root_.id rfl
theorem yy (r o:Nat):(AV.ptr r o).toPV=none:=_root_.id rfl
def CQ (cs:List AV):Option (List PV)→AV
 | some ps=>.pv (.agg ps)
 | none=>.agg cs
theorem vA (cs:List AV):gy cs=CQ cs (pvs cs):=by unfold gy;cases pvs cs<;>rfl
theorem iF (cs:List AV)(ps:List PV):CQ cs (some ps) = .pv (.agg ps):=_root_.id rfl
def CP (cs:List AV):Option (List PV)→AV
 | some ps=>.pv (.tup ps)
 | none=>.tup cs
theorem EZ (cs:List AV):lT cs=CP cs (pvs cs):=by unfold lT;cases pvs cs<;>rfl
theorem nF (cs:List AV)(ps:List PV):CP cs (some ps) = .pv (.tup ps):=_root_.id rfl
def oX (f:Nat)(fs cs:List AV):Option (List PV)→Option (List PV)→AV
 | some a,some b=>.pv (.clo f a b)
 | _,_=>.clo f fs cs
theorem E0 (f:Nat)(fs cs:List AV):nI f fs cs=oX f fs cs (pvs fs) (pvs cs):=by unfold nI oX;cases pvs fs<;>cases pvs cs<;>rfl
theorem nG (f:Nat)(fs cs:List AV)(a b:List PV):oX f fs cs (some a) (some b) = .pv (.clo f a b):=_root_.id rfl
theorem nH (f:Nat)(fs cs:List AV)(a:Option (List PV)):oX f fs cs a none = .clo f fs cs:=by cases a<;>rfl
theorem xh (p:PV):(AV.pv p).cells=p.cells.map .pv:=_root_.id rfl
theorem r8 (r o:Nat):(AV.ptr r o).cells=[.ptr r o]:=_root_.id rfl
theorem r7 (r s o n:Nat):(AV.row r s o n).cells=[.row r s o n]:=_root_.id rfl
theorem mt (r s:Nat)(l:List PV):(AV.olist r s l).cells=[.olist r s l]:=_root_.id rfl
theorem ag (cs:List PV):(PV.agg cs).cells=cs:=_root_.id rfl
theorem r6 (b:Bool):(PV.bool b).cells=[.bool b]:=_root_.id rfl
theorem xe (k:IntKind)(n:Int):(PV.int k n).cells=[.int k n]:=_root_.id rfl
theorem w9 (s:List UInt8):(PV.str s).cells=[.str s]:=_root_.id rfl
theorem r4:PV.nils.cells=[.nils]:=_root_.id rfl
theorem r5 (l:List PV):(PV.list l).cells=[.list l]:=_root_.id rfl
theorem xg (f:Nat)(a b:List PV):(PV.clo f a b).cells=[.clo f a b]:=_root_.id rfl
def E8 (g:Bool)(sz o:Nat):Blk→Option AV
 | .cells _ _ l=>dg g sz o l
 | _=>none
theorem nN (g:Bool)(sz o T:Nat)(f:Bool)(l:List AV):E8 g sz o (.cells T f l)=dg g sz o l:=_root_.id rfl
def E4 (g:Bool)(sz o:Nat):Option PV→Option AV
 | some e=>jr g sz o e
 | none=>none
theorem rn (g:Bool)(sz o:Nat)(e:PV):E4 g sz o (some e)=jr g sz o e:=_root_.id rfl
theorem uf (G:Nat→List PV)(g:Bool)(sz:Nat)(σ:aB)(r o:Nat):dX G g sz σ (.ptr r o)=E8 g sz o (σ r):=by
 simp only[dX,E8];cases σ r<;>rfl
theorem qD (G:Nat→List PV)(g:Bool)(sz:Nat)(σ:aB)(l:List PV)(i o:Nat):dX G g sz σ (.pv (.eptr l i o))=E4 g sz o l[i]?:=by
 simp only[dX,E4];cases l[i]? <;> rfl
theorem E7 (sz o:Nat)(e:PV):jr false sz o e=dg false sz o (e.cells.map .pv):=by simp[jr]
theorem E6 {sz o:Nat}{cs:List PV}(h:0<o):jr true sz o (.agg cs)=dg true sz o (cs.map .pv):=by
 simp[jr,PV.cells];omega
def Hz (e:List (Nat×AV))(σ:List (Nat×Blk))(new:Nat):XOp→Option (AV×List (Nat×Blk))
 | .cap sz x=>(Ig sz (fun r=>lookB r σ) (evE e x)).map fun v=>(v,[])
 | .resl sz x h=>(ua sz (fun r=>lookB r σ) (evE e x) (evE e h)).map fun v=>(v,[])
 | .copy sz x y=>uj sz (fun r=>lookB r σ) (evE e x) (evE e y)
 | .apart x y=>(lH (fun r=>lookB r σ) (evE e x) (evE e y)).map fun v=>(v,[])
 | .appz t sz by_ zs x k=>ur t sz by_ zs new (fun r=>lookB r σ) (evE e x) (evE e k)
 | .noesc x=>some (evE e x,[])
 | .ucast u n b x=>(iq u n b (fun r=>lookB r σ) (evE e x)).map fun v=>(v,[])
 | .peq ng x y=>(KJ ng (evE e x) (evE e y)).map fun v=>(v,[])
 | .anyc=>some (.any,[])
 | .apps t by_ x y=>z8 t by_ new (fun r=>lookB r σ) (evE e x) (evE e y)
 | .sdata x=>(oG (evE e x)).map fun v=>(v,[])
 | .ustr t x k=>tZ t (fun r=>lookB r σ) (evE e x) (evE e k)
 | .ofStr x=>ir new (evE e x)
 | .fnil ng x y=>(zF ng (evE e x) (evE e y)).map fun v=>(v,[])
 | .inil ng x y=>(zD ng (evE e x) (evE e y)).map fun v=>(v,[])
 | .idxb x y=>(zE (evE e x) (evE e y)).map fun v=>(v,[])
 | .mki T x=>(KK T (evE e x)).map fun v=>(v,[])
 | .mkmap=>some (.mp new,[(new,.mp [])])
 | .mlook kd co z x k=>(ue kd co z (fun r=>lookB r σ) (evE e x) (evE e k)).map fun v=>(v,[])
 | .mset kd x k v=>(ud kd (fun r=>lookB r σ) (evE e x) (evE e k) (evE e v)).map fun d=>(.pv .undef,d)
 | .bslf sz len xs=>EA sz len (evL e xs)
 | .same x=>t8 (fun r=>lookB r σ) (evE e x)
theorem Di (e:List (Nat×AV))(σ:List (Nat×Blk))(n new:Nat)(o:XOp):o.run new (St.E ⟨e,σ,n⟩) (St.σ ⟨e,σ,n⟩)=Hz e σ new o:=by
 cases o<;>simp only[XOp.run,Hz,gC,BS]<;>rfl
def kx (G:Nat→List PV)(e:List (Nat×AV))(σ:List (Nat×Blk))(new:Nat):MOp→Option (AV×List (Nat×Blk))
 | .alloc T zs=>some (.ptr new 0,[(new,.cells T true (zs.map .pv))])
 | .box T x=>if (evE e x).known=true then some (.ptr new 0,[(new,.cells T true (evE e x).cells)]) else none
 | .cbox T x=>match (evE e x).toPV with
   | some p=>if p.cells.all PV.one=true then some (.pv (.eptr [p] 0 0),[(new,.none)]) else none
   | none=>none
 | .load g sz x=>(dX G g sz (fun r=>lookB r σ) (evE e x)).map fun v=>(v,[])
 | .store sz x v=>(fk sz (fun r=>lookB r σ) (evE e x) (evE e v)).map fun d=>(.pv .undef,d)
 | .clear sz zs x=>(lG sz zs (fun r=>lookB r σ) (evE e x)).map fun d=>(.pv (.tup []),d)
 | .toStr x=>(fj (fun r=>lookB r σ) (evE e x)).map fun v=>(v,[])
 | .xop o=>Hz e σ new o
 | .bslice mu t sz len xs=>dG mu t sz len new (evL e xs)
 | .append mu t sz by_ x y=>df mu t sz by_ new (fun r=>lookB r σ) (evE e x) (evE e y)
 | .mk mu t sz by_ zs x y=>rMk mu t sz by_ zs new (evE e x) (evE e y)
 | .sliceA n sz x lo hi=>match evE e x with
   | .ptr r o=>match lookB r σ with
     | .cells _ f l=>if f=true∧o+n*sz≤l.length∧(o=0→n*sz=l.length)∧n≤9223372036854775807 then (de sz (.row r sz o n) (evO e lo) (evO e hi)).map fun v=>(v,[]) else none
     | _=>none
   | _=>none
theorem vD (G:Nat→List PV)(e:List (Nat×AV))(σ:List (Nat×Blk))(n new:Nat)(o:MOp):o.run G new (St.E ⟨e,σ,n⟩) (St.σ ⟨e,σ,n⟩)=kx G e σ new o:=by
 cases o<;>first | (simp only[MOp.run,kx,gC,BS,IY]<;>rfl) | exact Di e σ n new _
def Dn (δ:List (Nat×Blk)):Option AV→Option (AV×List (Nat×Blk))
 | some v=>some (v,δ)
 | none=>none
theorem pV (δ:List (Nat×Blk))(v:AV):Dn δ (some v)=some (v,δ):=_root_.id rfl
def HA (v:AV):Option (List (Nat×Blk))→Option (AV×List (Nat×Blk))
 | some δ=>some (v,δ)
 | none=>none
theorem pU (δ:List (Nat×Blk))(v:AV):HA v (some δ)=some (v,δ):=_root_.id rfl
theorem rj (G:Nat→List PV)(e:List (Nat×AV))(σ:List (Nat×Blk))(new T:Nat)(zs:List PV):kx G e σ new (.alloc T zs)=some (.ptr new 0,[(new,.cells T true (zs.map .pv))]):=_root_.id rfl
def MU (new T:Nat)(v:AV):Bool→Option (AV×List (Nat×Blk))
 | true=>some (.ptr new 0,[(new,.cells T true v.cells)])
 | false=>none
theorem Jw (new T:Nat)(v:AV):MU new T v true=some (.ptr new 0,[(new,.cells T true v.cells)]):=_root_.id rfl
theorem Bd (G:Nat→List PV)(e:List (Nat×AV))(σ:List (Nat×Blk))(new T:Nat)(x:AX):kx G e σ new (.box T x)=MU new T (evE e x) (evE e x).known:=by
 simp only[kx];cases (evE e x).known<;>rfl
def FH (new:Nat):Option PV→Option (AV×List (Nat×Blk))
 | some p=>if p.cells.all PV.one=true then some (.pv (.eptr [p] 0 0),[(new,.none)]) else none
 | none=>none
theorem r9 (new:Nat)(p:PV):FH new (some p)=if p.cells.all PV.one=true then some (.pv (.eptr [p] 0 0),[(new,.none)]) else none:=_root_.id rfl
theorem vE (G:Nat→List PV)(e:List (Nat×AV))(σ:List (Nat×Blk))(new T:Nat)(x:AX):kx G e σ new (.cbox T x)=FH new (evE e x).toPV:=by
 simp only[kx,FH]
theorem Bl (p:PV):(AV.pv p).known=true:=_root_.id rfl
theorem vM (r o:Nat):(AV.ptr r o).known=true:=_root_.id rfl
theorem vL (r s o n:Nat):(AV.row r s o n).known=true:=_root_.id rfl
theorem nP (r s:Nat)(l:List PV):(AV.olist r s l).known=true:=_root_.id rfl
theorem vC (G:Nat→List PV)(e:List (Nat×AV))(σ:List (Nat×Blk))(new:Nat)(g:Bool)(sz:Nat)(x:AX):kx G e σ new (.load g sz x)=Dn [] (dX G g sz (fun r=>lookB r σ) (evE e x)):=by
 simp only[kx];cases dX G g sz (fun r=>lookB r σ) (evE e x)<;>rfl
theorem ri (G:Nat→List PV)(e:List (Nat×AV))(σ:List (Nat×Blk))(new sz:Nat)(x v:AX):kx G e σ new (.store sz x v)=HA (.pv .undef) (fk sz (fun r=>lookB r σ) (evE e x) (evE e v)):=by
 simp only[kx];cases fk sz (fun r=>lookB r σ) (evE e x) (evE e v)<;>rfl
theorem nK (G:Nat→List PV)(e:List (Nat×AV))(σ:List (Nat×Blk))(new:Nat)(mu:Bool)(t sz len:Nat)(xs:List AX):kx G e σ new (.bslice mu t sz len xs)=dG mu t sz len new (evL e xs):=_root_.id rfl
theorem nL (G:Nat→List PV)(e:List (Nat×AV))(σ:List (Nat×Blk))(new:Nat)(mu:Bool)(t sz by_:Nat)(x y:AX):kx G e σ new (.append mu t sz by_ x y)=df mu t sz by_ new (fun r=>lookB r σ) (evE e x) (evE e y):=_root_.id rfl
theorem E1 (G:Nat→List PV)(e:List (Nat×AV))(σ:List (Nat×Blk))(new:Nat)(mu:Bool)(t sz by_:Nat)(zs:List PV)(x y:AX):kx G e σ new (.mk mu t sz by_ zs x y)=rMk mu t sz by_ zs new (evE e x) (evE e y):=_root_.id rfl
theorem Ew {e sz by_:Nat}{zs:List PV}{new:Nat}{k k':IntKind}{c:Int}(h:0≤c)(h1:(by_:Int)*c≤281474976710656)(h2:c≤9223372036854775807):rMk false e sz by_ zs new (.pv (.int k 0)) (.pv (.int k' c))=some (.olist new sz [],[(new,.tok e sz)]):=by
 simp[rMk,h,h1,h2]
def oy (sz r o:Nat)(v:AV):Blk→Option (List (Nat×Blk))
 | .cells T f l=>if v.known=true∧v.cells.length=sz∧v.cells.all AV.one=true∧o+sz≤l.length then some [(r,.cells T f (l.take o++v.cells++l.drop (o+sz)))] else none
 | _=>none
theorem qC (sz:Nat)(σ:aB)(r o:Nat)(v:AV):fk sz σ (.ptr r o) v=oy sz r o v (σ r):=by
 simp only[fk,oy];cases σ r<;>rfl
def Cx (r T:Nat)(f:Bool)(l:List AV)(sz o:Nat)(cs:List AV):Bool→Option (List (Nat×Blk))
 | true=>some [(r,.cells T f (l.take o++cs++l.drop (o+sz)))]
 | false=>none
theorem ll (sz r o:Nat)(v:AV)(T:Nat)(f:Bool)(l:List AV):oy sz r o v (.cells T f l)=Cx r T f l sz o v.cells (v.known&&decide (v.cells.length=sz)&&v.cells.all AV.one&&decide (o+sz≤l.length)):=by
 simp only[oy]
 by_cases h:v.known=true∧v.cells.length=sz∧v.cells.all AV.one=true∧o+sz≤l.length
 ·rw[if_pos h]
  have:(v.known&&decide (v.cells.length=sz)&&v.cells.all AV.one&&decide (o+sz≤l.length))=true:=by simp only[Bool.and_eq_true,decide_eq_true_eq];exact⟨⟨⟨h.1,h.2.1⟩,h.2.2.1⟩,h.2.2.2⟩
  rw[this];rfl
 ·rw[if_neg h]
  have:(v.known&&decide (v.cells.length=sz)&&v.cells.all AV.one&&decide (o+sz≤l.length))=false:=by
   rw[Bool.eq_false_iff]
   intro hh
   simp only[Bool.and_eq_true,decide_eq_true_eq] at hh
   exact h ⟨hh.1.1.1,hh.1.1.2,hh.1.2,hh.2⟩
  rw[this];rfl
theorem yP (r T:Nat)(f:Bool)(l:List AV)(sz o:Nat)(cs:List AV):Cx r T f l sz o cs true=some [(r,.cells T f (l.take o++cs++l.drop (o+sz)))]:=_root_.id rfl
theorem kj {n m by_:Nat}(h1:n+m≤9223372036854775807)(h2:(n+m)*by_≤140737488355328):lc n m by_=true:=by
 simp[lc,h1,h2]
theorem yr (l:List (Nat×Blk)):kb l []=l:=_root_.id rfl
theorem tf (l:List (Nat×Blk))(p:Nat×Blk)(r:List (Nat×Blk)):kb l (p::r)=kb (p::l) r:=_root_.id rfl
theorem B2 (f:Nat)(a b:List PV):cJ (.pv (.clo f a b))=some (f,a.map .pv,b.map .pv):=_root_.id rfl
theorem B3 (f:Nat)(a b:List AV):cJ (.clo f a b)=some (f,a,b):=_root_.id rfl
theorem EK {α:Type}(a:α)(k:α→Prop):aH (some a) k=k a:=_root_.id rfl
section
variable {P:Program}{G:Nat→List PV}
theorem A3 (F:St→Prop)(e:List (Nat×AV))(σ:List (Nat×Blk))(n d:Nat)(v:AV):EW F ⟨e,σ,n⟩ (some d) v=F ⟨(d,v)::e,σ,n⟩:=_root_.id rfl
theorem A5 (F:St→Prop)(e:List (Nat×AV))(σ:List (Nat×Blk))(n d:Nat)(v:AV)(δ:List (Nat×Blk)):q0 F ⟨e,σ,n⟩ (some d) (v,δ)=F ⟨(d,v)::e,kb σ δ,n+1⟩:=_root_.id rfl
theorem A4 (F:St→Prop)(e:List (Nat×AV))(σ:List (Nat×Blk))(n:Nat)(v:AV)(δ:List (Nat×Blk)):q0 F ⟨e,σ,n⟩ none (v,δ)=F ⟨e,kb σ δ,n+1⟩:=_root_.id rfl
theorem A6 (F:St→Prop)(e:List (Nat×AV))(σ:List (Nat×Blk))(n d:Nat)(v:AV):EX F (some d) v ⟨e,σ,n⟩=F ⟨(d,v)::e,σ,n⟩:=_root_.id rfl
theorem B6 (args:List AV)(s:St)(K:AV→St→Prop)(f:Nat)(a b:List AV):xm P G args s K (f,a,b)=ab P G f (a++args++b) s K:=_root_.id rfl
theorem sP (F:St→Prop)(s:St):cU P G [] F s=F s:=_root_.id rfl
theorem pX (d:Option Nat)(o:AOp)(r:List AOper)(F:St→Prop)(s:St):cU P G (⟨d,o,none⟩::r) F s=jj P G (cU P G r F) s d o:=_root_.id rfl
def g8 (b:Bool):AV→Option Bool
 | .pv (.bool x)=>some (x == b)
 | .pv .undef=>some false
 | _=>none
theorem sG (x:Bool):g8 true (.pv (.bool x))=some x:=by cases x<;>rfl
theorem sH (x:Bool):g8 false (.pv (.bool x))=some (!x):=by cases x<;>rfl
theorem sF (b:Bool):g8 b (.pv .undef)=some false:=_root_.id rfl
theorem mK (d:Option Nat)(o:AOp)(i:Nat)(b:Bool)(r:List AOper)(F:St→Prop)(e:List (Nat×AV))(σ:List (Nat×Blk))(n:Nat) :
  cU P G (⟨d,o,some (i,b)⟩::r) F ⟨e,σ,n⟩=aH (g8 b (look i e)) (Fx P G (cU P G r F) ⟨e,σ,n⟩ d o):=_root_.id rfl
theorem wK (F:St→Prop)(s:St)(d:Option Nat)(o:AOp):Fx P G F s d o true=jj P G F s d o:=_root_.id rfl
theorem rQ (F:St→Prop)(e:List (Nat×AV))(σ:List (Nat×Blk))(n:Nat)(d:Nat)(o:AOp):Fx P G F ⟨e,σ,n⟩ (some d) o false=F ⟨(d,.pv .undef)::e,σ,n⟩:=_root_.id rfl
def Ir (k:AV→Prop):AV→Prop
 | .pv (.list [])=>∀ b:Bool,k (.pv (.bool b))
 | _=>False
def kr (x:Option AV)(k:AV→Prop)(e:List (Nat×AV))(o:TOp):Prop:=
 match x with
 | some v=>k v
 | none=>match o with
   | .beq 2 _ y (.c .nils)=>Ir k (evE e y)
   | _=>False
theorem lJ (v:AV)(k:AV→Prop)(e:List (Nat×AV))(o:TOp):kr (some v) k e o=k v:=_root_.id rfl
theorem lK (k:AV→Prop)(e:List (Nat×AV))(ng:Bool)(y:AX):kr none k e (.beq 2 ng y (.c .nils))=Ir k (evE e y):=_root_.id rfl
theorem AZ (k:AV→Prop):Ir k (.pv (.list [])) = ∀ b:Bool,k (.pv (.bool b)):=_root_.id rfl
theorem z6 (ng:Bool):EC ng (CM 2 (.pv (.list [])) (.pv .nils))=none:=_root_.id rfl
theorem I3 (F:St→Prop)(e:List (Nat×AV))(σ:List (Nat×Blk))(n:Nat)(d:Option Nat)(o:TOp):jj P G F ⟨e,σ,n⟩ d (.t o)=kr (gd e o) (EW F ⟨e,σ,n⟩ d) e o:=by
 rw[← tp e σ n]
 show fP (o.run (St.E ⟨e,σ,n⟩)) _ _=_
 cases hr:o.run (St.E ⟨e,σ,n⟩) with
 | some v=>rfl
 | none=>
   simp only[fP,kr]
   refine propext ⟨fun h=>?_,fun h=>?_⟩
   ·obtain⟨h1,h2⟩:=h
    unfold Is at h1
    split at h1
    ·split at h1
     ·rename_i hev
      rw[gC] at hev
      show Ir _ _
      rw[hev];exact h2
     ·cases h1
    ·cases h1
   ·split at h
    ·rename_i y
     unfold Ir at h
     split at h
     ·rename_i hev
      refine⟨?_,h⟩
      simp only[Is]
      rw[gC,hev]
     ·exact h.elim
    ·exact h.elim
theorem I4 (F:St→Prop)(e:List (Nat×AV))(σ:List (Nat×Blk))(n:Nat)(d:Option Nat)(o:MOp):jj P G F ⟨e,σ,n⟩ d (.m o)=aH (kx G e σ n o) (q0 F ⟨e,σ,n⟩ d):=by
 rw[← vD G e σ n];rfl
theorem wJ (F:St→Prop)(e:List (Nat×AV))(σ:List (Nat×Blk))(n:Nat)(d:Option Nat)(f:AX)(xs:List AX):jj P G F ⟨e,σ,n⟩ d (.call f xs)=aH (cJ (evE e f)) (xm P G (evL e xs) ⟨e,σ,n⟩ (EX F d)):=by
 rw[← gC e σ n,← wA e σ n];rfl
theorem yR (F:List (List Nat×List Nat)→St→Prop)(T:List (List Nat×List Nat))(e:List (Nat×AV))(σ:List (Nat×Blk))(n d:Nat)(v:AV):yS F T ⟨e,σ,n⟩ (some d) v=F (T++[([],[])]) ⟨(d,v)::e,σ,n⟩:=_root_.id rfl
theorem yW (F:List (List Nat×List Nat)→St→Prop)(T:List (List Nat×List Nat))(e:List (Nat×AV))(σ:List (Nat×Blk))(n d k:Nat)(rd:List Nat)(v:AV)(δ:List (Nat×Blk)):tA F T ⟨e,σ,n⟩ (some d) k rd (v,δ)=F (T++[eM k (aS δ) rd]) ⟨(d,v)::e,kb σ δ,n+1⟩:=_root_.id rfl
theorem yU (F:List (List Nat×List Nat)→St→Prop)(T:List (List Nat×List Nat))(e:List (Nat×AV))(σ:List (Nat×Blk))(n k:Nat)(rd:List Nat)(v:AV)(δ:List (Nat×Blk)):tA F T ⟨e,σ,n⟩ none k rd (v,δ)=F (T++[eM k (aS δ) rd]) ⟨e,kb σ δ,n+1⟩:=_root_.id rfl
theorem aF {F:List (List Nat×List Nat)→St→Prop}{T:List (List Nat×List Nat)}{e:List (Nat×AV)}{σ:List (Nat×Blk)}{n d:Nat}{f:Nat}{a b args:List AV}{ps:List PV}{r:PV}(h:ae P G f ps r)(he:pvs (a++args++b)=some ps)
  (hk:F (T++[([],[])]) ⟨(d,.pv r)::e,σ,n⟩):j2 P G F T ⟨e,σ,n⟩ (some d) args (f,a,b):=.inl ⟨ps,r,he,h,hk⟩
theorem H5 (ks rs:List Nat):eM 0 ks rs=(ks.map (· + 1),rs.map (· + 1)):=_root_.id rfl
theorem H4 (ks rs:List Nat):eM 1 ks rs=(ks.map (· + 1),0::rs.map (· + 1)):=_root_.id rfl
theorem nJ (g:Bool)(sz:Nat)(x:AX):dx (.load g sz x)=0:=_root_.id rfl
theorem lV (sz:Nat)(x v:AX):dx (.store sz x v)=0:=_root_.id rfl
theorem lW (T:Nat)(z:List PV):dx (.alloc T z)=1:=_root_.id rfl
theorem kv (m:Bool)(e s l:Nat)(x:List AX):dx (.bslice m e s l x)=1:=_root_.id rfl
theorem kw (m:Bool)(e s l:Nat)(x y:AX):dx (.append m e s l x y)=1:=_root_.id rfl
theorem Du {A:List (List Nat)}{F:St→Prop}{T:List (List Nat×List Nat)}{s:St}(h:Chk (okB A T)):vcD P G A F [] T s=F s:=by
 show (okB A T=true∧F s)=F s
 rw[eq_iff_iff]
 exact⟨fun x=>x.2,fun x=>⟨h,x⟩⟩
theorem yq (A:List (List Nat))(F:St→Prop)(d:Option Nat)(o:AOp)(r:List AOper)(T:List (List Nat×List Nat))(s:St):vcD P G A F (⟨d,o,none⟩::r) T s=fB P G (vcD P G A F r) T s d o:=_root_.id rfl
theorem sQ (A:List (List Nat))(F:St→Prop)(d:Option Nat)(o:AOp)(i:Nat)(b:Bool)(r:List AOper)(T:List (List Nat×List Nat))(e:List (Nat×AV))(σ:List (Nat×Blk))(n:Nat) :
  vcD P G A F (⟨d,o,some (i,b)⟩::r) T ⟨e,σ,n⟩=aH (g8 b (look i e)) (nX P G (vcD P G A F r) T ⟨e,σ,n⟩ d o):=_root_.id rfl
theorem rR (F:List (List Nat×List Nat)→St→Prop)(T:List (List Nat×List Nat))(s:St)(d:Option Nat)(o:AOp):nX P G F T s d o true=fB P G F T s d o:=_root_.id rfl
theorem nW (F:List (List Nat×List Nat)→St→Prop)(T:List (List Nat×List Nat))(e:List (Nat×AV))(σ:List (Nat×Blk))(n:Nat)(d:Nat)(o:AOp):nX P G F T ⟨e,σ,n⟩ (some d) o false=F (T++[([],[])]) ⟨(d,.pv .undef)::e,σ,n⟩:=_root_.id rfl
theorem Fv (F:List (List Nat×List Nat)→St→Prop)(T:List (List Nat×List Nat))(e:List (Nat×AV))(σ:List (Nat×Blk))(n:Nat)(d:Option Nat)(o:TOp):fB P G F T ⟨e,σ,n⟩ d (.t o)=aH (gd e o) (yS F T ⟨e,σ,n⟩ d):=by
 rw[← tp e σ n];rfl
def Cs (e:List (Nat×AV)):XOp→List Nat
 | .cap _ x=>(evE e x).name
 | .resl _ x _=>(evE e x).name
 | .copy _ x y | .apart x y=>(evE e x).name++(evE e y).name
 | .appz _ _ _ _ x _=>(evE e x).name
 | .ucast _ _ _ x | .apps _ _ x _ | .ustr _ x _ | .same x=>(evE e x).name
 | .noesc _ | .peq _ _ _ | .anyc | .sdata _ | .ofStr _ | .fnil _ _ _ | .inil _ _ _ | .idxb _ _ | .mki _ _ | .mkmap | .bslf _ _ _=>[]
 | .mlook _ _ _ x _ | .mset _ x _ _=>(evE e x).name
def gm (e:List (Nat×AV)):MOp→List Nat
 | .xop o=>Cs e o
 | .load _ _ x | .sliceA _ _ x _ _ | .clear _ _ x | .toStr x=>(evE e x).name
 | .append _ _ _ _ x y=>(evE e x).name++(evE e y).name
 | .store _ x _=>(evE e x).name
 | .alloc _ _ | .box _ _ | .cbox _ _ | .bslice _ _ _ _ _ | .mk _ _ _ _ _ _ _=>[]
theorem nM (e:List (Nat×AV))(g:Bool)(sz:Nat)(x:AX):gm e (.load g sz x)=(evE e x).name:=_root_.id rfl
theorem lY (e:List (Nat×AV))(T:Nat)(x:List PV):gm e (.alloc T x)=[]:=_root_.id rfl
theorem lX (e:List (Nat×AV))(sz:Nat)(x v:AX):gm e (.store sz x v)=(evE e x).name:=_root_.id rfl
theorem kz (e:List (Nat×AV))(mu:Bool)(t sz b:Nat)(x y:AX):gm e (.append mu t sz b x y)=(evE e x).name++(evE e y).name:=_root_.id rfl
theorem ky (e:List (Nat×AV))(mu:Bool)(t sz b:Nat)(x:List AX):gm e (.bslice mu t sz b x)=[]:=_root_.id rfl
theorem EY (p:PV):(AV.pv p).name=[]:=_root_.id rfl
theorem Ba (r o:Nat):(AV.ptr r o).name=[r]:=_root_.id rfl
theorem A9 (r s o n:Nat):(AV.row r s o n).name=[r]:=_root_.id rfl
theorem rc (r s:Nat)(l:List PV):(AV.olist r s l).name=[r]:=_root_.id rfl
theorem vO:aS ([]:List (Nat×Blk))=[]:=_root_.id rfl
theorem ru (r:Nat)(B:Blk)(q:List (Nat×Blk)):aS ((r,B)::q)=r::aS q:=_root_.id rfl
theorem Fw (F:List (List Nat×List Nat)→St→Prop)(T:List (List Nat×List Nat))(e:List (Nat×AV))(σ:List (Nat×Blk))(n:Nat)(d:Option Nat)(o:MOp):fB P G F T ⟨e,σ,n⟩ d (.m o)=aH (kx G e σ n o) (tA F T ⟨e,σ,n⟩ d (dx o) (gm e o)):=by
 have:gm e o=o.reads (St.E ⟨e,σ,n⟩):=by
  cases o<;>simp only[gm,MOp.reads,gC]
  rename_i o
  cases o<;>simp only[Cs,XOp.reads,gC]
 rw[← vD G e σ n,this];rfl
theorem rP (F:List (List Nat×List Nat)→St→Prop)(T:List (List Nat×List Nat))(e:List (Nat×AV))(σ:List (Nat×Blk))(n:Nat)(d:Option Nat)(f:AX)(xs:List AX):fB P G F T ⟨e,σ,n⟩ d (.call f xs)=aH (cJ (evE e f)) (j2 P G F T ⟨e,σ,n⟩ d (evL e xs)):=by
 rw[← gC e σ n,← wA e σ n];rfl
def rY (e:List (Nat×AV)):List Nat→List (Nat×AV)
 | []=>[]
 | k::r=>(k,look k e)::rY e r
theorem wR (e:List (Nat×AV)):rY e []=[]:=_root_.id rfl
theorem rX (e:List (Nat×AV))(k:Nat)(r:List Nat):rY e (k::r)=(k,look k e)::rY e r:=_root_.id rfl
theorem px (e:List (Nat×AV))(σ:List (Nat×Blk))(n:Nat):∀ (l:List Nat),l.map (fun i=>(i,St.E ⟨e,σ,n⟩ i))=rY e l
 | []=>rfl
 | k::r=>by rw[List.map_cons,px e σ n r];rfl
theorem wS (seen:List Nat):gu seen []=[]:=_root_.id rfl
theorem rZ (seen:List Nat)(k:Nat)(b:Blk)(r:List (Nat×Blk)):gu seen ((k,b)::r)=rU k b (gu (k::seen) r) (oY k seen):=_root_.id rfl
theorem Fy (k:Nat)(b:Blk)(r:List (Nat×Blk)):rU k b r true=r:=_root_.id rfl
theorem Fz (k:Nat)(b:Blk)(r:List (Nat×Blk)):rU k b r false=(k,b)::r:=_root_.id rfl
theorem Bc (k:Nat):oY k []=false:=_root_.id rfl
theorem Iu (k j:Nat)(r:List Nat):oY k (j::r)=if j=k then true else oY k r:=_root_.id rfl
theorem AW (Q:AExit→St→Prop)(keep:List Nat)(e:List (Nat×AV))(σ:List (Nat×Blk))(n:Nat):nB Q keep ⟨e,σ,n⟩=Q .norm ⟨rY e keep,gu [] σ,n⟩:=by
 rw[← px e σ n];rfl
theorem xO (F:St→Prop)(Q:AExit→St→Prop)(s:St):JM F Q .norm s=F s:=_root_.id rfl
theorem xP (F:St→Prop)(Q:AExit→St→Prop)(i:Nat)(s:St):JM F Q (.exit i) s=Q (.exit i) s:=_root_.id rfl
theorem Cm (F:St→Prop)(Q:AExit→St→Prop)(s:St):JM F Q .ret s=Q .ret s:=_root_.id rfl
theorem om (id:Nat)(Q:AExit→St→Prop)(s:St):ji id Q .norm s=Q .norm s:=_root_.id rfl
theorem oo (id:Nat)(Q:AExit→St→Prop)(i:Nat)(s:St):ji id Q (.exit i) s=if i=id then Q .norm s else Q (.exit i) s:=_root_.id rfl
theorem sr (id:Nat)(Q:AExit→St→Prop)(s:St):ji id Q .ret s=Q .ret s:=_root_.id rfl
theorem Dp (m0:Nat)(Q:AExit→St→Prop)(s:St):vc P G m0 .skip Q s=Q .norm s:=_root_.id rfl
theorem HE (m0:Nat)(l:List AOper)(keep:List Nat)(Q:AExit→St→Prop)(s:St):vc P G m0 (.ops l keep) Q s=cU P G l (nB Q keep) s:=_root_.id rfl
theorem Dr (m0:Nat)(A:List (List Nat))(l l2:List AOper)(keep:List Nat)(Q:AExit→St→Prop)(s:St):vc P G m0 (.draw A l l2 keep) Q s=vcD P G A (cU P G l2 (nB Q keep)) l [] s:=_root_.id rfl
theorem Fu (F:St→Prop)(e:List (Nat×AV))(σ:List (Nat×Blk))(n:Nat)(d:Option Nat)(g:Option (Bool×Nat))(x:AX):jj P G F ⟨e,σ,n⟩ d (.fz g x)=aH (Fp G (fun r=>lookB r σ) g (evE e x)) (q0 F ⟨e,σ,n⟩ d):=by
 rw[← gC e σ n];rfl
theorem HC (m0:Nat)(a b:ACode)(Q:AExit→St→Prop)(s:St):vc P G m0 (.seq a b) Q s=vc P G m0 a (JM (vc P G m0 b Q) Q) s:=_root_.id rfl
theorem Dt (m0:Nat)(x:AX)(a b:ACode)(Q:AExit→St→Prop)(e:List (Nat×AV))(σ:List (Nat×Blk))(n:Nat):vc P G m0 (.cond x a b) Q ⟨e,σ,n⟩=lL (evE e x) (vc P G m0 a Q) (vc P G m0 b Q) ⟨e,σ,n⟩:=by
 rw[← gC e σ n];rfl
theorem yp (m0 id:Nat)(b:ACode)(Q:AExit→St→Prop)(s:St):vc P G m0 (.block id b) Q s=vc P G m0 b (ji id Q) s:=_root_.id rfl
theorem Dq (m0 id:Nat)(Q:AExit→St→Prop)(s:St):vc P G m0 (.exit id) Q s=Q (.exit id) s:=_root_.id rfl
theorem HD (m0:Nat)(Q:AExit→St→Prop)(s:St):vc P G m0 .ret Q s=Q .ret s:=_root_.id rfl
theorem AS (b:Bool)(F H:St→Prop)(s:St):lL (.pv (.bool b)) F H s=ifB b F H s:=by cases b<;>rfl
theorem LG (F H:St→Prop)(s:St):ifB true F H s=F s:=_root_.id rfl
theorem LH (F H:St→Prop)(s:St):ifB false F H s=H s:=_root_.id rfl
def Ic (G:Nat→List PV)(e:List (Nat×AV))(σ:List (Nat×Blk)):ARes→Option AV
 | .tmp t=>some (look t e)
 | .cell t g sz=>dX G g sz (fun r=>lookB r σ) (look t e)
theorem zf (e:List (Nat×AV))(σ:List (Nat×Blk))(t:Nat):Ic G e σ (.tmp t)=some (look t e):=_root_.id rfl
theorem tQ (e:List (Nat×AV))(σ:List (Nat×Blk))(t:Nat)(g:Bool)(sz:Nat):Ic G e σ (.cell t g sz)=dX G g sz (fun r=>lookB r σ) (look t e):=_root_.id rfl
theorem Co (res:List ARes)(R:AV→List (Nat×Blk)→Nat→Prop)(s:St):FnK G res R .norm s=aH (ef G s res) (CJ R s):=_root_.id rfl
theorem F4 (res:List ARes)(R:AV→List (Nat×Blk)→Nat→Prop)(s:St):FnK G res R .ret s=aH (ef G s res) (CJ R s):=_root_.id rfl
theorem Ek (R:AV→List (Nat×Blk)→Nat→Prop)(e:List (Nat×AV))(σ:List (Nat×Blk))(n:Nat)(l:List AV):CJ R ⟨e,σ,n⟩ l=R (su l) σ n:=_root_.id rfl
theorem H9 (x:AV):su [x]=x:=_root_.id rfl
theorem Ia:su [] = .pv (.tup []):=_root_.id rfl
theorem H8 (x y:AV)(r:List AV):su (x::y::r)=lT (x::y::r):=_root_.id rfl
def I9:Option AV→Option (List AV)→Option (List AV)
 | some a,some b=>some (a::b)
 | _,_=>none
theorem rV (a:AV)(b:List AV):I9 (some a) (some b)=some (a::b):=_root_.id rfl
theorem tP (s:St):ef G s []=some []:=_root_.id rfl
theorem qy (e:List (Nat×AV))(σ:List (Nat×Blk))(n:Nat)(r:ARes)(q:List ARes):ef G ⟨e,σ,n⟩ (r::q)=I9 (Ic G e σ r) (ef G ⟨e,σ,n⟩ q):=by
 have:Ib G ⟨e,σ,n⟩ r=Ic G e σ r:=by cases r<;>rfl
 show (match Ib G ⟨e,σ,n⟩ r,ef G ⟨e,σ,n⟩ q with | some a,some b=>some (a::b) | _,_=>none)=_
 rw[this]
 cases Ic G e σ r<;>cases ef G ⟨e,σ,n⟩ q<;>rfl
theorem Ad (r:PV)(v:AV)(σ:List (Nat×Blk))(n:Nat):Ii r v σ n=isR r σ v:=_root_.id rfl
theorem II (r p:PV)(σ:List (Nat×Blk)):isR r σ (.pv p)=Nz p r:=propext ⟨fun ⟨q,h,g⟩=>by cases h;exact g,fun h=>⟨(p,[]),rfl,h⟩⟩
theorem vS (r:PV)(k sz:Nat)(l:List PV)(σ:List (Nat×Blk)):isR r σ (.olist k sz l)=Nz (.list l) r:=propext ⟨fun ⟨q,h,g⟩=>by cases h;exact g,fun h=>⟨(.list l,[]),rfl,h⟩⟩
def rz:List AV→Nat→List (Nat×AV)
 | [],_=>[]
 | x::r,k=>(k,x)::rz r (k+1)
theorem vV (k:Nat):rz [] k=[]:=_root_.id rfl
theorem ry (x:AV)(r:List AV)(k:Nat):rz (x::r) k=(k,x)::rz r (k+1):=_root_.id rfl
theorem vU:∀ (args:List AV) (k:Nat),((args.zipIdx k).map fun p=>(p.2,p.1))=rz args k
 | [],k=>rfl
 | x::r,k=>by rw[List.zipIdx_cons,List.map_cons,vU r (k+1)];rfl
theorem rx (args:List AV):cG args=rz args 0:=vU args 0
theorem Lc {ι:Type}(S:ι→St)(Inv:ι→Prop)(μ:ι→Nat)(x0:ι){m0:Nat}{keep:List Nat}{b:ACode}{Q:AExit→St→Prop}{s:St}(h0:Wk m0 s (S x0))(hi:Inv x0)
  (h:∀ x,Inv x→vc P G m0 b (fun e s'=>match e with
   | .norm=>∃ x',Wk m0 s' (S x')∧Inv x'∧μ x'<μ x
   | .exit i=>Q (.exit i) s'
   | .ret=>Q .ret s') (S x)):vc P G m0 (.loop keep b) Q s:=by
 refine⟨fun n s=>∃ x,s=S x∧Inv x∧μ x=n,⟨μ x0,S x0,h0,x0,rfl,hi,rfl⟩,?_⟩
 rintro n s ⟨x,rfl,hx,rfl⟩
 refine cz b (fun e s' hs=>?_) _ (h x hx)
 cases e with
 | norm=>
   obtain⟨x',h1,h2,h3⟩:=hs
   exact⟨_,_,h3,h1,x',rfl,h2,rfl⟩
 | exit i=>exact⟨s',Wk.of (Wx.refl s') m0,hs⟩
 | ret=>exact hs
def Hd (A:List (Nat×Nat×Nat×Nat))(m0:Nat)(keep:List Nat)(s t:St):Prop:=Wk m0 s t
theorem aV {A:List (Nat×Nat×Nat×Nat)}{m0:Nat}{keep:List Nat}{s t:St}(h:StZ (dL A m0 keep s) t):Hd A m0 keep s t:=Wk.head h
def j6 {ι:Type}(A:List (Nat×Nat×Nat×Nat))(S:ι→St)(Inv:ι→Prop)(μ:ι→Nat)(x:ι)(m0:Nat)(keep:List Nat)(Q:AExit→St→Prop):AExit→St→Prop
 | .norm,s'=>∃ x',Hd A m0 keep s' (S x')∧Inv x'∧μ x'<μ x
 | .exit i,s'=>Q (.exit i) s'
 | .ret,s'=>Q .ret s'
theorem oe {ι:Type}(A:List (Nat×Nat×Nat×Nat))(S:ι→St)(Inv:ι→Prop)(μ:ι→Nat)(x:ι)(m0:Nat)(keep:List Nat)(Q:AExit→St→Prop)(s:St):j6 A S Inv μ x m0 keep Q .norm s = ∃ x',Hd A m0 keep s (S x')∧Inv x'∧μ x'<μ x:=_root_.id rfl
theorem og {ι:Type}(A:List (Nat×Nat×Nat×Nat))(S:ι→St)(Inv:ι→Prop)(μ:ι→Nat)(x:ι)(m0:Nat)(keep:List Nat)(Q:AExit→St→Prop)(i:Nat)(s:St):j6 A S Inv μ x m0 keep Q (.exit i) s=Q (.exit i) s:=_root_.id rfl
theorem sn {ι:Type}(A:List (Nat×Nat×Nat×Nat))(S:ι→St)(Inv:ι→Prop)(μ:ι→Nat)(x:ι)(m0:Nat)(keep:List Nat)(Q:AExit→St→Prop)(s:St):j6 A S Inv μ x m0 keep Q .ret s=Q .ret s:=_root_.id rfl
theorem sN {ι:Type}(A:List (Nat×Nat×Nat×Nat))(S:ι→St)(Inv:ι→Prop)(μ:ι→Nat)(x0:ι){m0:Nat}{keep:List Nat}{b:ACode}{Q:AExit→St→Prop}{s:St}(h0:Hd A m0 keep s (S x0))(hi:Inv x0)
  (h:∀ x,Inv x→vc P G m0 b (j6 A S Inv μ x m0 keep Q) (S x)):vc P G m0 (.loop keep b) Q s:=by
 refine Lc S Inv μ x0 h0 hi fun x hx=>?_
 have e:(fun (e:AExit) (s':St)=>match e with
   | .norm=>∃ x',Wk m0 s' (S x')∧Inv x'∧μ x'<μ x
   | .exit i=>Q (.exit i) s'
   | .ret=>Q .ret s')=j6 A S Inv μ x m0 keep Q:=by
  funext e s'
  cases e<;>rfl
 rw[e];exact h x hx
def qL (k:Nat)(x:AV):List (Nat×AV)→AV
 | []=>x
 | p::r=>if p.1=k then p.2 else qL k x r
def eV:List (Nat×AV)→List (Nat×AV)→List (Nat×AV)
 | [],_=>[]
 | p::r,ch=>(p.1,qL p.1 p.2 ch)::eV r ch
def qN (k:Nat)(x:Blk):List (Nat×Blk)→Blk
 | []=>x
 | p::r=>if p.1=k then p.2 else qN k x r
def fN:List (Nat×Blk)→List (Nat×Blk)→List (Nat×Blk)
 | [],_=>[]
 | p::r,ch=>(p.1,qN p.1 p.2 ch)::fN r ch
theorem uD (k:Nat)(x:AV):qL k x []=x:=_root_.id rfl
theorem qK (k j:Nat)(x y:AV)(r:List (Nat×AV)):qL k x ((j,y)::r)=if j=k then y else qL k x r:=_root_.id rfl
theorem uQ (ch:List (Nat×AV)):eV [] ch=[]:=_root_.id rfl
theorem qS (k:Nat)(x:AV)(r ch:List (Nat×AV)):eV ((k,x)::r) ch=(k,qL k x ch)::eV r ch:=_root_.id rfl
theorem uE (k:Nat)(x:Blk):qN k x []=x:=_root_.id rfl
theorem qM (k j:Nat)(x y:Blk)(r:List (Nat×Blk)):qN k x ((j,y)::r)=if j=k then y else qN k x r:=_root_.id rfl
theorem uR (ch:List (Nat×Blk)):fN [] ch=[]:=_root_.id rfl
theorem qT (k:Nat)(x:Blk)(r ch:List (Nat×Blk)):fN ((k,x)::r) ch=(k,qN k x ch)::fN r ch:=_root_.id rfl
theorem aA {ι:Type}(A:List (Nat×Nat×Nat×Nat))(ch:ι→List (Nat×AV))(chB:ι→List (Nat×Blk))(Inv:ι→Prop)(μ:ι→Nat)(x0:ι){m0:Nat}{keep:List Nat}{b:ACode}{Q:AExit→St→Prop}{s:St}
  (h:∀ e0 σ0 n0,dL A m0 keep s=⟨e0,σ0,n0⟩→StZ ⟨e0,σ0,n0⟩ ⟨eV e0 (ch x0),fN σ0 (chB x0),n0⟩∧Inv x0 ∧
   ∀ x,Inv x→vc P G m0 b (j6 A (fun x=>⟨eV e0 (ch x),fN σ0 (chB x),n0⟩) Inv μ x m0 keep Q) ⟨eV e0 (ch x),fN σ0 (chB x),n0⟩):vc P G m0 (.loop keep b) Q s:=by
 obtain⟨h1,h2,h3⟩:=h (dL A m0 keep s).env (dL A m0 keep s).sto (dL A m0 keep s).next rfl
 exact sN A (fun x=>⟨eV (dL A m0 keep s).env (ch x),fN (dL A m0 keep s).sto (chB x),(dL A m0 keep s).next⟩) Inv μ x0 (aV h1) h2 h3
end
end Go.Ab
namespace Go.Ab
open Go Go.RowKit
theorem zu (k k':IntKind)(x y:Int):Ex (.pv (.int k x)) (.pv (.int k' y))=some (.pv (.int k (min x y))):=by
 simp only[Ex,Option.some.injEq,AV.pv.injEq,PV.int.injEq,true_and]
 split<;>omega
theorem zw (k k':IntKind)(x y:Int):Ey (.pv (.int k x)) (.pv (.int k' y))=some (.pv (.int k (max x y))):=by
 simp only[Ey,Option.some.injEq,AV.pv.injEq,PV.int.injEq,true_and]
 split<;>omega
theorem map_take {α β:Type}(f:α→β)(l:List α)(n:Nat):(l.map f).take n=(l.take n).map f:=List.map_take.symm
theorem map_drop {α β:Type}(f:α→β)(l:List α)(n:Nat):(l.map f).drop n=(l.drop n).map f:=List.map_drop.symm
theorem ve {α β:Type}(f:α→β):(none:Option α).map f=none:=_root_.id rfl
def fF (mu:Bool)(e sz by_ new:Nat)(σ:aB)(x:AV):Option (List PV)→Option (AV×List (Nat×Blk))
 | some ys=>match mu,x with
   | false,.pv .nils=>match ys with
     | []=>some (.pv .nils,[])
     | y::r=>if lc 0 (r.length+1) by_=true then some (.olist new sz (y::r),[(new,.tok e sz)]) else none
   | false,.olist q s l=>match σ q with
     | .tok e' sz'=>if e'=e∧sz'=sz∧s=sz∧lc l.length ys.length by_=true then some (.olist new sz (l++ys),[(q,.none),(new,.tok e sz)]) else none
     | _=>none
   | true,.pv .nils=>match ys with
     | []=>some (.pv .nils,[])
     | y::r=>if lc 0 (r.length+1) by_=true then some (.row new sz 0 (r.length+1),[(new,.cells e false (ec (y::r)))]) else none
   | true,.row q s off len=>match σ q with
     | .cells e' _ l=>if e'=e∧s=sz∧off=0∧len*sz≤l.length∧lc len ys.length by_=true then some (.row new sz 0 (len+ys.length),[(q,.none),(new,.cells e false (l.take (len*sz)++ec ys))]) else none
     | _=>none
   | _,_=>none
 | none=>none
def Cd (e sz by_ new q s:Nat)(l ys:List PV):Blk→Option (AV×List (Nat×Blk))
 | .tok e' sz'=>if e'=e∧sz'=sz∧s=sz∧lc l.length ys.length by_=true then some (.olist new sz (l++ys),[(q,.none),(new,.tok e sz)]) else none
 | _=>none
def xE (e sz by_ new q s off len:Nat)(ys:List PV):Blk→Option (AV×List (Nat×Blk))
 | .cells e' _ l=>if e'=e∧s=sz∧off=0∧len*sz≤l.length∧lc len ys.length by_=true then some (.row new sz 0 (len+ys.length),[(q,.none),(new,.cells e false (l.take (len*sz)++ec ys))]) else none
 | _=>none
theorem qI (mu:Bool)(e sz by_ new:Nat)(σ:aB)(x y:AV):df mu e sz by_ new σ x y=fF mu e sz by_ new σ x (bi σ sz y):=by
 unfold df fF
 cases bi σ sz y<;>rfl
theorem JA (e sz by_ new:Nat)(σ:aB)(q s:Nat)(l ys:List PV):fF false e sz by_ new σ (.olist q s l) (some ys)=Cd e sz by_ new q s l ys (σ q):=by
 simp only[fF,Cd]
theorem Cc {e sz by_ new q:Nat}{l ys:List PV}(h1:l.length+ys.length≤9223372036854775807)(h2:(l.length+ys.length)*by_≤140737488355328):Cd e sz by_ new q sz l ys (.tok e sz)=some (.olist new sz (l++ys),[(q,.none),(new,.tok e sz)]):=by
 simp[Cd,kj h1 h2]
theorem Ca (e sz by_ new:Nat)(σ:aB):fF false e sz by_ new σ (.pv .nils) (some [])=some (.pv .nils,[]):=_root_.id rfl
theorem B9 {e sz by_ new:Nat}{σ:aB}{y:PV}{r:List PV}(h1:r.length+1≤9223372036854775807)(h2:(r.length+1)*by_≤140737488355328):fF false e sz by_ new σ (.pv .nils) (some (y::r))=some (.olist new sz (y::r),[(new,.tok e sz)]):=by
 simp only[fF];rw[if_pos (kj (by omega) (by simpa using h2))]
theorem FP (e sz by_ new:Nat)(σ:aB)(q s off len:Nat)(ys:List PV):fF true e sz by_ new σ (.row q s off len) (some ys)=xE e sz by_ new q s off len ys (σ q):=by
 simp only[fF,xE]
theorem pM {e sz by_ new q len:Nat}{f:Bool}{l:List AV}{ys:List PV}(h0:len*sz≤l.length)(h1:len+ys.length≤9223372036854775807)(h2:(len+ys.length)*by_≤140737488355328) :
  xE e sz by_ new q sz 0 len ys (.cells e f l)=some (.row new sz 0 (len+ys.length),[(q,.none),(new,.cells e false (l.take (len*sz)++ec ys))]):=by
 simp[xE,h0,kj h1 h2]
def po (l:List PV):Bool→Option (List PV)
 | true=>some l
 | false=>none
theorem rL (σ:aB)(sz:Nat)(l:List PV):bi σ sz (.pv (.list l))=po l (l.all fun y=>y.cells.length == sz):=by
 simp only[bi]
 cases l.all (fun y=>y.cells.length == sz)<;>rfl
theorem rM (l:List PV):po l true=some l:=_root_.id rfl
theorem nV (σ:aB)(sz r:Nat)(l:List PV):bi σ sz (.olist r sz l)=some l:=by simp[bi]
def KT (e sz new:Nat):Option (List PV)→Option (AV×List (Nat×Blk))
 | some ps=>if ps.all (fun p=>p.cells.length == sz&&p.cells.all PV.one)=true then some (.olist new sz ps,[(new,.tok e sz)]) else none
 | none=>none
theorem L3 {e sz len new:Nat}{vs:List AV}(h:vs.length=len)(h2:len≤9223372036854775807):dG false e sz len new vs=KT e sz new (pvs vs):=by
 simp only[dG,h,h2,true_and,if_true,KT]
 cases pvs vs<;>rfl
def MT (e sz new:Nat)(ps:List PV):Bool→Option (AV×List (Nat×Blk))
 | true=>some (.olist new sz ps,[(new,.tok e sz)])
 | false=>none
theorem Jv (e sz new:Nat)(ps:List PV):MT e sz new ps true=some (.olist new sz ps,[(new,.tok e sz)]):=_root_.id rfl
theorem xx (e sz new:Nat)(ps:List PV):KT e sz new (some ps)=MT e sz new ps (ps.all fun p=>p.cells.length == sz&&p.cells.all PV.one):=by
 simp only[KT]
 cases ps.all (fun p=>p.cells.length == sz&&p.cells.all PV.one)<;>rfl
theorem oR (b:Bool):PV.one (.bool b)=true:=_root_.id rfl
theorem uW (k:IntKind)(n:Int):PV.one (.int k n)=true:=_root_.id rfl
theorem uU (s:List UInt8):PV.one (.str s)=true:=_root_.id rfl
theorem AO:PV.one .nils=true:=_root_.id rfl
theorem oQ (l:List PV):PV.one (.list l)=true:=_root_.id rfl
theorem EJ (p:PV):AV.one (.pv p)=p.one:=_root_.id rfl
theorem AR (r o:Nat):AV.one (.ptr r o)=true:=_root_.id rfl
theorem AQ (r s o n:Nat):AV.one (.row r s o n)=true:=_root_.id rfl
theorem qW (r s:Nat)(l:List PV):AV.one (.olist r s l)=true:=_root_.id rfl
def u7 (sz:Nat)(l:List PV)(h:Nat):Option Nat→Option AV
 | some a=>if HI sz l a=true then some (.pv (.list ((l.take h).drop a))) else none
 | none=>none
def u6 (sz:Nat)(l:List PV)(lo:Option AV):Option Nat→Option AV
 | some h=>u7 sz l h (aX 0 h lo)
 | none=>none
theorem lE (sz:Nat)(l:List PV)(lo hi:Option AV):de sz (.pv (.list l)) lo hi=u6 sz l lo (aX l.length l.length hi):=by
 show Hs sz l lo hi=_
 unfold Hs u6 u7
 cases aX l.length l.length hi with
 | none=>rfl
 | some h=>simp only;cases aX 0 h lo<;>rfl
theorem nA (sz:Nat)(l:List PV)(lo:Option AV)(h:Nat):u6 sz l lo (some h)=u7 sz l h (aX 0 h lo):=_root_.id rfl
theorem qY (sz:Nat)(l:List PV)(h:Nat):u7 sz l h (some 0)=some (.pv (.list (l.take h))):=by
 simp[u7,HI]
theorem qX (sz:Nat)(l:List PV)(i:Nat)(y:PV):iz sz l i (some y)=if y.cells.length=sz then some (.pv (.eptr l i 0)) else none:=_root_.id rfl
theorem Ce {α β:Type}(f:α→β)(p:β→Bool)(l:List α):(l.map f).all p=l.all fun x=>p (f x):=by
 rw[List.all_map];rfl
theorem JB {α:Type}(l:List α):(l.all fun _=>true)=true:=by simp
theorem Jz (n:Nat):(n == n)=true:=by simp
def Iz (sz:Nat)(e:PV):Bool→Option AV
 | true=>some (.pv e)
 | false=>dg true sz 0 (e.cells.map .pv)
theorem E5 (sz:Nat)(e:PV):Iz sz e true=some (.pv e):=_root_.id rfl
theorem Bi (sz:Nat)(e:PV):jr true sz 0 e=Iz sz e (e.isAgg&&decide (e.cells.length=sz)):=by
 simp only[jr,true_and]
 by_cases h:e.isAgg=true∧e.cells.length=sz
 ·rw[if_pos h,h.1,decide_eq_true h.2];rfl
 ·rw[if_neg h]
  have:(e.isAgg&&decide (e.cells.length=sz))=false:=by
   rw[Bool.eq_false_iff]
   intro hh
   simp only[Bool.and_eq_true,decide_eq_true_eq] at hh
   exact h hh
  rw[this];rfl
theorem vT (cs:List PV):(PV.agg cs).isAgg=true:=_root_.id rfl
def fzO (σ:aB):Option AV→Option (AV×List (Nat×Blk))
 | some v=>(BL σ v).map Fg
 | none=>none
theorem IS (G:Nat→List PV)(σ:aB)(g:Bool)(sz:Nat)(v:AV):Fp G σ (some (g,sz)) v=fzO σ (dX G g sz σ v):=by
 simp only[Fp,fzO];cases dX G g sz σ v<;>rfl
theorem BJ (σ:aB)(v:AV):fzO σ (some v)=(BL σ v).map Fg:=_root_.id rfl
theorem BK (σ:aB)(r s n:Nat):BL σ (.row r s 0 n)=KR s n r (σ r):=_root_.id rfl
theorem Ff (p:PV)(l:List Nat):Fg (p,l)=(.pv p,l.map fun r=>(r,.none)):=_root_.id rfl
theorem A7 (p:PV):(AV.pv p).names=[]:=_root_.id rfl
theorem vu (r o:Nat):(AV.ptr r o).names=[r]:=_root_.id rfl
theorem vq (r a b c:Nat):(AV.row r a b c).names=[r]:=_root_.id rfl
theorem A8 (r a:Nat)(l:List PV):(AV.olist r a l).names=[r]:=_root_.id rfl
theorem vv (f:Nat)(fs cs:List AV):(AV.clo f fs cs).names=AV.namesL fs++AV.namesL cs:=by simp only[AV.names]
theorem vw:AV.any.names=[]:=_root_.id rfl
theorem q8:AV.namesL []=[]:=_root_.id rfl
theorem iC (x:AV)(r:List AV):AV.namesL (x::r)=x.names++AV.namesL r:=by simp only[AV.namesL]
theorem lQ:∀ l:List PV,AV.namesL (l.map .pv)=[]
 | []=>rfl
 | x::r=>by rw[List.map_cons,iC,lQ r];rfl
theorem lR (T:Nat)(f:Bool)(l:List AV):(Blk.cells T f l).names=AV.namesL l:=_root_.id rfl
theorem q9 (e s:Nat):(Blk.tok e s).names=[]:=_root_.id rfl
theorem Cg (acc:List Nat):bn acc []=acc:=_root_.id rfl
def FX (acc:List Nat)(n:Nat):Bool→List Nat
 | true=>acc
 | false=>acc++[n]
theorem gr (x:Nat):∀ l:List Nat,l.contains x=oY x l
 | []=>rfl
 | y::r=>by
   rw[List.contains_cons,gr x r,lU]
   by_cases h:y=x
   ·simp[h]
   ·have h':¬ x=y:=fun e=>h e.symm
    simp[h,h']
theorem xI (acc:List Nat)(n:Nat)(r:List Nat):bn acc (n::r)=bn (FX acc n (oY n acc)) r:=by
 simp only[bn,gr]
 cases oY n acc<;>rfl
theorem FV (acc:List Nat)(n:Nat):FX acc n true=acc:=_root_.id rfl
theorem FW (acc:List Nat)(n:Nat):FX acc n false=acc++[n]:=_root_.id rfl
def geN (m0:Nat):List Nat→List Nat
 | []=>[]
 | x::r=>if m0≤x then x::geN m0 r else geN m0 r
theorem Fc (m0:Nat):geN m0 []=[]:=_root_.id rfl
theorem pd (m0 x:Nat)(r:List Nat):geN m0 (x::r)=if m0≤x then x::geN m0 r else geN m0 r:=_root_.id rfl
theorem wh (m0:Nat):∀ l:List Nat,l.filter (fun r=>decide (m0≤r))=geN m0 l
 | []=>rfl
 | x::r=>by rw[List.filter_cons,wh m0 r,pd];simp
def db (sto:List (Nat×Blk)):List Nat→List Nat
 | []=>[]
 | r::q=>(lookB r sto).names++db sto q
theorem mx (sto:List (Nat×Blk)):db sto []=[]:=_root_.id rfl
theorem fE (sto:List (Nat×Blk))(r:Nat)(q:List Nat):db sto (r::q)=(lookB r sto).names++db sto q:=_root_.id rfl
theorem e5 (sto:List (Nat×Blk)):∀ l:List Nat,(l.flatMap fun r=>(lookB r sto).names)=db sto l
 | []=>rfl
 | r::q=>by rw[List.flatMap_cons,e5 sto q,fE]
theorem Et (m0:Nat)(sto:List (Nat×Blk))(acc:List Nat):eN m0 sto 0 acc=acc:=_root_.id rfl
theorem Er (m0:Nat)(sto:List (Nat×Blk))(k:Nat)(acc:List Nat):eN m0 sto (k+1) acc=eN m0 sto k (bn acc (geN m0 (db sto acc))):=by
 rw[← wh,← e5];rfl
def dN (e:List (Nat×AV)):List Nat→List Nat
 | []=>[]
 | k::r=>(look k e).names++dN e r
theorem mo (e:List (Nat×AV)):dN e []=[]:=_root_.id rfl
theorem kM (e:List (Nat×AV))(k:Nat)(r:List Nat):dN e (k::r)=(look k e).names++dN e r:=_root_.id rfl
theorem iY (e:List (Nat×AV))(σ:List (Nat×Blk))(n:Nat):∀ l:List Nat,(l.flatMap fun i=>((⟨e,σ,n⟩:St).E i).names)=dN e l
 | []=>rfl
 | k::r=>by rw[List.flatMap_cons,iY e σ n r];rfl
def tN:Nat→Nat→List Nat
 | 0,_=>[]
 | n+1,k=>k::tN n (k+1)
theorem Ls (k:Nat):tN 0 k=[]:=_root_.id rfl
theorem H7 (n k:Nat):tN (n+1) k=k::tN n (k+1):=_root_.id rfl
theorem tM:∀ n k:Nat,tN n k=List.range' k n
 | 0,k=>rfl
 | n+1,k=>by rw[H7,tM n,List.range'_succ]
theorem CI (n:Nat):List.range n=tN n 0:=by rw[tM,List.range_eq_range']
theorem EM (m0:Nat)(keep:List Nat)(e:List (Nat×AV))(σ:List (Nat×Blk))(n:Nat):In m0 keep ⟨e,σ,n⟩=eN m0 σ σ.length (bn [] (geN m0 (dN e keep++db σ (tN m0 0)))):=by
 rw[← wh,← iY e σ n,← e5,← CI];rfl
def lP (f:Nat→Option Nat)(e:List (Nat×AV)):List Nat→List (Nat×AV)
 | []=>[]
 | k::r=>(k,(look k e).ren f)::lP f e r
theorem vj (f:Nat→Option Nat)(e:List (Nat×AV)):lP f e []=[]:=_root_.id rfl
theorem qZ (f:Nat→Option Nat)(e:List (Nat×AV))(k:Nat)(r:List Nat):lP f e (k::r)=(k,(look k e).ren f)::lP f e r:=_root_.id rfl
def vi (m0:Nat)(keep:List Nat)(e:List (Nat×AV))(σ:List (Nat×Blk))(os:List Nat):St:=⟨lP (dh m0 os) e keep,dS m0 (dh m0 os) σ (tN m0 0++os) 0,m0+os.length⟩
theorem ER (m0:Nat)(keep:List Nat)(e:List (Nat×AV))(σ:List (Nat×Blk))(n:Nat):norm m0 keep ⟨e,σ,n⟩=vi m0 keep e σ (eN m0 σ σ.length (bn [] (geN m0 (dN e keep++db σ (tN m0 0))))):=by
 rw[← EM m0 keep e σ n]
 have hE:∀ (f:Nat→Option Nat) (l:List Nat),(l.map fun i=>(i,((⟨e,σ,n⟩:St).E i).ren f))=lP f e l:=by
  intro f l
  induction l with
  | nil=>rfl
  | cons k r ih=>rw[List.map_cons,ih];rfl
 simp only[norm,vi,hE,CI]
theorem ET (m0:Nat)(keep:List Nat)(e:List (Nat×AV))(σ:List (Nat×Blk))(x:Nat)(r:List Nat):vi m0 keep e σ (x::r)=⟨lP (dh m0 (x::r)) e keep,dS m0 (dh m0 (x::r)) σ (tN m0 0++(x::r)) 0,m0+(x::r).length⟩:=_root_.id rfl
theorem ES (m0:Nat)(keep:List Nat)(e:List (Nat×AV))(σ:List (Nat×Blk)):vi m0 keep e σ []=⟨lP (dh m0 []) e keep,dS m0 (dh m0 []) σ (tN m0 0) 0,m0⟩:=by
 simp only[vi,List.append_nil];rfl
theorem qz (m0:Nat)(f:Nat→Option Nat)(σ:List (Nat×Blk))(k:Nat):dS m0 f σ [] k=[]:=_root_.id rfl
theorem nl (m0:Nat)(f:Nat→Option Nat)(σ:List (Nat×Blk))(r:Nat)(q:List Nat)(k:Nat):dS m0 f σ (r::q) k=(k,(lookB r σ).ren f)::dS m0 f σ q (k+1):=_root_.id rfl
theorem q7 (m0:Nat)(os:List Nat)(r:Nat):dh m0 os r=if r<m0 then some r else CV r os m0:=_root_.id rfl
theorem vY (x y:Nat)(r:List Nat)(k:Nat):CV x (y::r) k=if y=x then some k else CV x r (k+1):=_root_.id rfl
def Lu (o:Nat):Option Nat→AV
 | some q=>.ptr q o
 | none=>.any
def Lt (a b c:Nat):Option Nat→AV
 | some q=>.row q a b c
 | none=>.any
def Lv (a:Nat)(l:List PV):Option Nat→AV
 | some q=>.olist q a l
 | none=>.pv (.list l)
theorem CK (f:Nat→Option Nat)(p:PV):(AV.pv p).ren f = .pv p:=by simp only[AV.ren]
theorem Eo (f:Nat→Option Nat):AV.any.ren f = .any:=by simp only[AV.ren]
theorem Em (f:Nat→Option Nat)(r o:Nat):(AV.ptr r o).ren f=Lu o (f r):=by simp only[AV.ren,Lu]<;>(cases f r<;>rfl)
theorem El (f:Nat→Option Nat)(r a b c:Nat):(AV.row r a b c).ren f=Lt a b c (f r):=by simp only[AV.ren,Lt]<;>(cases f r<;>rfl)
theorem Ie (f:Nat→Option Nat)(r a:Nat)(l:List PV):(AV.olist r a l).ren f=Lv a l (f r):=by simp only[AV.ren,Lv]<;>(cases f r<;>rfl)
theorem En (f:Nat→Option Nat)(g:Nat)(fs cs:List AV):(AV.clo g fs cs).ren f = .clo g (AV.renL f fs) (AV.renL f cs):=by simp only[AV.ren]
theorem tU (o q:Nat):Lu o (some q) = .ptr q o:=_root_.id rfl
theorem tT (a b c q:Nat):Lt a b c (some q) = .row q a b c:=_root_.id rfl
theorem tV (a:Nat)(l:List PV)(q:Nat):Lv a l (some q) = .olist q a l:=_root_.id rfl
theorem zh (f:Nat→Option Nat):AV.renL f []=[]:=_root_.id rfl
theorem lz (f:Nat→Option Nat)(x:AV)(r:List AV):AV.renL f (x::r)=x.ren f::AV.renL f r:=by simp only[AV.renL]
theorem tW (f:Nat→Option Nat):∀ l:List PV,AV.renL f (l.map .pv)=l.map .pv
 | []=>rfl
 | x::r=>by rw[List.map_cons,lz,tW f r,CK]
theorem qA (f:Nat→Option Nat)(T:Nat)(b:Bool)(l:List AV):(Blk.cells T b l).ren f = .cells T b (AV.renL f l):=_root_.id rfl
theorem zj (f:Nat→Option Nat)(e s:Nat):(Blk.tok e s).ren f = .tok e s:=_root_.id rfl
theorem AY (A:List (Nat×Nat×Nat×Nat))(m0:Nat)(keep:List Nat)(s:St):dL A m0 keep s=norm m0 keep (Ci A s):=_root_.id rfl
theorem Ch (s:St):Ci [] s=s:=_root_.id rfl
theorem xJ (k e sz:Nat)(r:List (Nat×Nat×Nat×Nat))(env:List (Nat×AV))(σ:List (Nat×Blk))(n:Nat):Ci ((k,0,e,sz)::r) ⟨env,σ,n⟩=Ci r (Hv k e sz ⟨env,σ,n⟩ (look k env)):=_root_.id rfl
theorem xK (k j e sz:Nat)(r:List (Nat×Nat×Nat×Nat))(env:List (Nat×AV))(σ:List (Nat×Blk))(n:Nat):Ci ((k,j+1,e,sz)::r) ⟨env,σ,n⟩=Ci r (JJ j e sz ⟨env,σ,n⟩ (look k env)):=_root_.id rfl
theorem xN (k e sz:Nat)(env:List (Nat×AV))(σ:List (Nat×Blk))(n:Nat):Hv k e sz ⟨env,σ,n⟩ (.pv .nils)=⟨(k,fR n e sz)::env,(n,cn e sz)::σ,n+1⟩:=_root_.id rfl
theorem EV {n e sz:Nat}(h:e<1000000):fR n e sz = .olist n sz []:=if_pos h
theorem EU {n e sz:Nat}(h:1000000≤e):fR n e sz = .row n sz 0 0:=if_neg (Nat.not_lt.2 h)
theorem A1 {e sz:Nat}(h:e<1000000):cn e sz = .tok e sz:=if_pos h
theorem A0 {e sz:Nat}(h:1000000≤e):cn e sz = .cells (e - 1000000) false []:=if_neg (Nat.not_lt.2 h)
theorem FZ (k e sz r a:Nat)(l:List PV)(s:St):Hv k e sz s (.olist r a l)=s:=_root_.id rfl
theorem Ck (o e sz r b:Nat)(env:List (Nat×AV))(σ:List (Nat×Blk))(n:Nat):JJ o e sz ⟨env,σ,n⟩ (.ptr r b)=accB r (b+o) e sz ⟨env,σ,n⟩ (lookB r σ):=_root_.id rfl
theorem sm (r o e sz T:Nat)(f:Bool)(l:List AV)(s:St):accB r o e sz s (.cells T f l)=Hu r T f l o e sz s l[o]?:=_root_.id rfl
theorem xM (r T:Nat)(f:Bool)(l:List AV)(o e sz:Nat)(env:List (Nat×AV))(σ:List (Nat×Blk))(n:Nat):Hu r T f l o e sz ⟨env,σ,n⟩ (some (.pv .nils))=⟨env,(r,.cells T f (l.set o (fR n e sz)))::(n,cn e sz)::σ,n+1⟩:=_root_.id rfl
theorem Cl (r T:Nat)(f:Bool)(l:List AV)(o e sz:Nat)(s:St)(q a b c:Nat):Hu r T f l o e sz s (some (.row q a b c))=s:=_root_.id rfl
theorem FY (r T:Nat)(f:Bool)(l:List AV)(o e sz:Nat)(s:St)(q a:Nat)(k:List PV):Hu r T f l o e sz s (some (.olist q a k))=s:=_root_.id rfl
theorem MX {α:Type}(x y:α)(r:List α):(x::r).set 0 y=y::r:=_root_.id rfl
theorem MW {α:Type}(x y:α)(r:List α)(n:Nat):(x::r).set (n+1) y=x::r.set n y:=_root_.id rfl
theorem Lf (e e':List (Nat×AV))(σ σ':List (Nat×Blk))(n n':Nat):(St.mk e σ n=St.mk e' σ' n')=(e=e'∧σ=σ'∧n=n'):=by rw[St.mk.injEq]
theorem I6 {a b:Nat}(h:a<b):decide (a<b)=true:=decide_eq_true h
theorem I7 {a b:Nat}(h:¬ a<b):decide (a<b)=false:=decide_eq_false h
theorem aL {α:Type}{l:List α}{m:Nat}{x:α}(h:l[m]? = some x):l.take (m+1)=l.take m++[x]:=by
 obtain⟨h1,h2⟩:=List.getElem?_eq_some_iff.1 h
 rw[List.take_succ_eq_append_getElem h1,h2]
def IR (cells:List AV)(off sz:Nat)(r:List (Nat×Nat×AV))(xc:List AV):Bool→Option (List AV)
 | true=>eX (cells.take off++xc++cells.drop (off+sz)) r
 | false=>none
theorem Fo (cells:List AV)(off sz:Nat)(r:List (Nat×Nat×AV))(xc:List AV):IR cells off sz r xc true=eX (cells.take off++xc++cells.drop (off+sz)) r:=_root_.id rfl
theorem wq (cells:List AV):eX cells []=some cells:=_root_.id rfl
theorem rF (cells:List AV)(off sz:Nat)(x:AV)(r:List (Nat×Nat×AV)):eX cells ((off,sz,x)::r)=IR cells off sz r x.cells (x.known&&decide (x.cells.length=sz)&&decide (off+sz≤cells.length)):=by
 simp only[eX]
 by_cases h:x.known=true∧x.cells.length=sz∧off+sz≤cells.length
 ·rw[if_pos h,h.1,decide_eq_true h.2.1,decide_eq_true h.2.2];rfl
 ·rw[if_neg h]
  have:(x.known&&decide (x.cells.length=sz)&&decide (off+sz≤cells.length))=false:=by
   rw[Bool.eq_false_iff]
   intro hh
   simp only[Bool.and_eq_true,decide_eq_true_eq] at hh
   exact h ⟨hh.1.1,hh.1.2,hh.2⟩
  rw[this];rfl
theorem Ai (sz off:Nat)(cs:List AV):EG sz off cs=if off+sz≤cs.length then some (gy ((cs.drop off).take sz)) else none:=_root_.id rfl
section
variable {P:Program}{G:Nat→List PV}
end
end Go.Ab
namespace Go.Ab
open Go Go.RowKit
def Kap.cut (κ:Kap)(k:Nat):Kap:=⟨κ.w,fun r=>if r<k then κ.nm r else none,κ.imm⟩
theorem Kap.cut_ext (κ:Kap)(k:Nat):Ext (κ.cut k) κ:=by
 refine⟨fun _ _ h=>h,fun _ _ _ _ h=>h,fun r d h=>?_,fun _ _ h _=>h⟩
 simp only[Kap.cut] at h
 split at h
 ·exact h
 ·cases h
theorem Kap.cut_none (κ:Kap)(k r:Nat)(h:k≤r):(κ.cut k).nm r=none:=by simp only[Kap.cut];rw[if_neg (by omega)]
def mG (P:Program)(G:Nat→List PV)(k:Nat)(f:Nat)(args:List AV)(sto:List (Nat×Blk))(next:Nat)(Q:AV→List (Nat×Blk)→Nat→Prop):Prop:=
 bI P f=true∧∀ (κ:Kap) (vals:Array Value),SRel (bY κ (fun r=>lookB r sto) G) κ (fun r=>lookB r sto)→(∀ r,next≤r→κ.nm r=none)→vals.size=args.length →
  (∀ (i:Nat) (x:AV),args[i]? = some x→ARel κ x (vals.getD i Go.undef)) →
  Calls P f vals κ.w fun e w'=>∃ u v κ' sto' next',e = .returned u∧κ'.w=w'∧Ext (κ.cut k) κ'∧Left (bY κ (fun r=>lookB r sto) G) κ.imm κ'∧ARel κ' v u ∧
   SRel (bY κ (fun r=>lookB r sto) G) κ' (fun r=>lookB r sto')∧(∀ r,next'≤r→κ'.nm r=none)∧Q v sto' next'
section
variable {P:Program}{G:Nat→List PV}
theorem mG.of_code {muts:List Nat}{k f:Nat}{fn:AFn}{args:List AV}{sto:List (Nat×Blk)}{next:Nat}{R:AV→List (Nat×Blk)→Nat→Prop}(hc:cFn P muts f=some fn)(hn:args.length≤fn.N)
  (hv:vc P G k fn.body (FnK G fn.res R) ⟨cG args,sto,next⟩):mG P G k f args sto next R:=by
 unfold cFn at hc
 split at hc
 ·rename_i fnc hfn
  split at hc
  ·rename_i co hco
   split at hc
   ·rename_i rs hrs
    split at hc
    ·rename_i hok
     split at hc
     ·rename_i b li hb
      cases hc
      refine⟨hok,fun κ vals hS hf hsz hargs=>?_⟩
      refine callsIn_wide.1 (callsIn_of_wp_marks (n:=0) hfn hco trivial ?_ rfl)
      let c:=bY κ (fun r=>lookB r sto) G
      have hsize:(vals++Array.replicate (fnc.ntmps - vals.size) Go.undef).size=fnc.ntmps:=by
       simp only at hn
       simp only[Array.size_append,Array.size_replicate];omega
      have hR:Rel c (κ.cut k) fnc.ntmps ⟨cG args,sto,next⟩ ⟨vals++Array.replicate (fnc.ntmps - vals.size) Go.undef,[]⟩ κ.w κ:=by
       refine⟨rfl,κ.cut_ext k,hS,⟨rfl,rfl,rfl,Nat.le_refl _,fun _ _ _=>rfl,fun _ _ h=>.inl h⟩,fun i=>?_,hsize,cP.nil _ _,hf⟩
       show ARel κ (look i ((args.zipIdx 0).map fun p=>(p.2,p.1))) _
       rw[iG,if_pos (Nat.zero_le _),Nat.sub_zero]
       cases hx:args[i]? with
       | none=>exact .any _
       | some x=>
         have hi:i<vals.size:=by rw[hsz];exact (List.getElem?_eq_some_iff.1 hx).1
         have:=hargs i x hx
         have e:(vals++Array.replicate (fnc.ntmps - vals.size) Go.undef).getD i Go.undef=vals.getD i Go.undef:=by
          simp only[Array.getD_eq_getD_getElem?]
          rw[Array.getElem?_append_left hi]
         rw[e];exact this
      refine Go.wpIn_mono (ou (P:=P) (N:=fnc.ntmps) co c (κ.cut k) k none 0 b [] (fK rs) li (FnK G rs R) _ _ κ.w κ (.inl rfl) (fun r hr=>κ.cut_none k r hr) (Nat.le_refl _) hb hR hv) ?_
      have fin:∀ (s:St) (κ':Kap) (a:Act) (w:World),Rel c (κ.cut k) fnc.ntmps s a w κ'→aH (ef G s rs) (CJ R s)→∃ v,(results fnc a.tmps).run P w = .ok v w ∧
        ∃ u v' κ'' sto' next',Ending.returned v = .returned u∧κ''.w=w∧Ext (κ.cut k) κ''∧Left c κ.imm κ''∧ARel κ'' v' u∧SRel c κ'' (fun r=>lookB r sto')∧(∀ r,next'≤r→κ''.nm r=none)∧R v' sto' next':=by
       intro s κ' a w hR hF
       simp only[aH] at hF
       split at hF
       ·rename_i vs hvs
        obtain⟨us,h1,h2,h3⟩:=ij (P:=P) hR fnc.results.toList rs vs hrs hvs
        have hrun:(results fnc a.tmps).run P w = .ok (if h:us.toArray.size=1 then us.toArray[0] else .tuple us.toArray) w:=by
         rw[jC,Sem.run_bind,Array.mapM_eq_mapM_toList]
         simp only[Sem.run_bind,Sem.run_map]
         rw[h1]
         simp
        refine⟨_,hrun,_,su vs,κ',s.sto,s.next,rfl,hR.w_eq,hR.ext0,hR.left,?_,hR.rel,hR.fresh,hF⟩
        by_cases hl:vs.length=1
        ·obtain⟨v,rfl⟩:=List.length_eq_one_iff.1 hl
         obtain⟨u,rfl⟩:=List.length_eq_one_iff.1 (h2.trans hl)
         have:=h3 0 v rfl
         exact this
        ·have hul:¬ us.toArray.size=1:=by simpa[h2] using hl
         rw[dif_neg hul]
         have hrv:su vs=lT vs:=by
          unfold su
          split
          ·simp at hl
          ·rfl
         rw[hrv]
         exact lS (.tup _ _ (by simpa using h2) (fun i x hx=>by rw[aC];simpa using h3 i x hx))
       ·exact hF.elim
      intro e a w hq
      cases e with
      | normal=>
        obtain⟨s,κ',hR,hF⟩:=hq
        exact fu (Nat.le_refl _) rfl hR fun w' κ'' hR'=>fin s κ'' ⟨a.tmps,[]⟩ w' hR' hF
      | ret=>
        obtain⟨s,κ',hR,hF⟩:=hq
        exact fu (Nat.le_refl _) rfl hR fun w' κ'' hR'=>fin s κ'' ⟨a.tmps,[]⟩ w' hR' hF
      | exit id=>
        obtain⟨s,κ',hR,hF⟩:=hq
        exact hF.elim
      | goto l=>exact hq.elim
      | panic ch=>exact hq.elim
      | outgrown=>exact hq.elim
     ·cases hc
    ·cases hc
   ·cases hc
  ·cases hc
 ·cases hc
def cj:List Blk→Nat→List (Nat×Blk)
 | [],_=>[]
 | b::r,k=>(k,b)::cj r (k+1)
theorem jJ:∀ (bs:List Blk) (k i:Nat),lookB i (cj bs k)=if k≤i then bs.getD (i - k) .none else .none
 | [],k,i=>by simp[cj,lookB]
 | b::r,k,i=>by
   simp only[cj,lookB]
   by_cases h:k=i
   ·subst h;simp
   ·rw[if_neg h,jJ r (k+1) i]
    by_cases hk:k≤i
    ·rw[if_pos (by omega),if_pos hk,show i - k=(i - (k+1))+1 by omega];simp
    ·rw[if_neg (by omega),if_neg hk]
theorem eW (bs:List Blk):(fun r=>lookB r (cj bs 0))=fun r=>bs.getD r .none:=by
 funext r;rw[jJ];simp
def dr (P:Program)(G:Nat→List PV)(k f:Nat)(args:List AV)(bs:List Blk)(v:AV)(bs':List Blk):Prop:=
 mG P G k f args (cj bs 0) bs.length fun v' sto' next'=>v'=v∧sto'=cj bs' 0∧next'=bs'.length
def Fa (k:Nat)(v:AV)(bs':List Blk)(v':AV)(sto':List (Nat×Blk))(next':Nat):Prop:=
 Wk k ⟨[(0,v')],sto',next'⟩ ⟨[(0,v)],cj bs' 0,bs'.length⟩
theorem dr.of_lcalls {k f:Nat}{args:List AV}{bs:List Blk}{v:AV}{bs':List Blk}(h:mG P G k f args (cj bs 0) bs.length (Fa k v bs')):dr P G k f args bs v bs':=by
 obtain⟨hcal,h⟩:=h
 refine⟨hcal,fun κ vals hS hf hsz hargs=>(h κ vals hS hf hsz hargs).mono ?_⟩
 rintro e w' ⟨u,v',κ',sto',next',rfl,rfl,he,hL,hv,hS',hf',hw⟩
 obtain⟨κ'',hR⟩:=hw _ (κ.cut k) κ' 1 ⟨#[u],[]⟩ κ'.w (fun r hr=>κ.cut_none k r hr) ⟨rfl,he,hS',hL,fun i=>by
  show ARel κ' (look i [(0,v')]) _
  by_cases hi:0=i
  ·subst hi;simpa[look] using hv
  ·simp only[look,if_neg hi];exact .any _,rfl,cP.nil _ _,hf'⟩
 refine⟨u,v,κ'',_,_,rfl,hR.w_eq,hR.ext0,hR.left,?_,hR.rel,hR.fresh,rfl,rfl,rfl⟩
 have:=hR.env 0
 simpa[St.E,look] using this
theorem dr.intro {muts:List Nat}{k f:Nat}{fn:AFn}{args:List AV}{bs:List Blk}{v:AV}{bs':List Blk}(hc:cFn P muts f=some fn)(hn:args.length≤fn.N)
  (hv:vc P G k fn.body (FnK G fn.res (Fa k v bs')) ⟨cG args,cj bs 0,bs.length⟩):dr P G k f args bs v bs':=
 dr.of_lcalls (mG.of_code hc hn hv)
def gIn (next:Nat):List Nat→Nat→Nat
 | [],i=>next+i
 | r::_,0=>r
 | _::q,i+1=>gIn next q i
def gSo (next:Nat)(rs:List Nat)(r:Nat):Option Nat:=some (gIn next rs r)
theorem iP (next:Nat):∀ (rs:List Nat) (i:Nat) (r:Nat),rs[i]? = some r→gIn next rs i=r
 | [],i,r,h=>by simp at h
 | x::q,0,r,h=>by simpa[gIn] using h
 | x::q,i+1,r,h=>by simpa[gIn] using iP next q i r (by simpa using h)
theorem jN (next:Nat):∀ (rs:List Nat) (i:Nat),rs.length≤i→gIn next rs i=next+(i - rs.length)
 | [],i,h=>by simp[gIn]
 | x::q,0,h=>by simp at h
 | x::q,i+1,h=>by
   simp only[List.length_cons] at h
   rw[gIn,jN next q i (by omega)]
   simp
mutual
theorem unren {κ κ':Kap}(hw:κ'.w=κ.w)(hi:κ'.imm=κ.imm){g:Nat→Nat}(hf:∀ r,κ'.nm r=κ.nm (g r)):∀ (x:AV) (v:Value),ARel κ (x.ren fun r=>some (g r)) v→ARel κ' x v
 | .pv p,v,h=>by
   simp only[AV.ren] at h
   cases h with
   | pv _ _ hp=>exact .pv _ _ (by rw[hw,hi];exact hp)
 | .any,v,h=>.any v
 | .ptr r o,v,h=>by
   simp only[AV.ren] at h
   cases h with
   | ptr _ _ b n hn=>exact .ptr _ _ b n (by rw[hf r];exact hn)
 | .row r a b c,v,h=>by
   simp only[AV.ren] at h
   cases h with
   | row _ _ _ _ bb n cap hn h1 h2 h3 h4=>exact .row _ _ _ _ bb n cap (by rw[hf r];exact hn) h1 h2 h3 h4
   | row0 _ _ hn=>exact .row0 _ _ (by rw[hf r];exact hn)
 | .olist r a l,v,h=>by
   simp only[AV.ren] at h
   cases h with
   | olist _ _ _ _ hn hp hs=>exact .olist _ _ _ _ (by rw[hf r];exact hn) (by rw[hw,hi];exact hp) hs
 | .mp r,v,h=>by
   simp only[AV.ren] at h
   cases h with
   | mp _ b hn=>exact .mp _ _ (by rw[hf r];exact hn)
 | .agg cs,v,h=>by
   simp only[AV.ren] at h
   cases h with
   | agg _ vs hl hr=>
     obtain⟨h1,h2⟩:=g9 hw hi hf cs vs hr
     exact .agg _ _ (by rw[← h1];exact hl) h2
 | .tup cs,v,h=>by
   simp only[AV.ren] at h
   cases h with
   | tup _ vs hl hr=>
     obtain⟨h1,h2⟩:=g9 hw hi hf cs vs hr
     exact .tup _ _ (by rw[← h1];exact hl) h2
 | .clo g fs cs,v,h=>by
   simp only[AV.ren] at h
   cases h with
   | clo _ _ _ vs us hl hr hl' hr'=>
     obtain⟨h1,h2⟩:=g9 hw hi hf fs vs hr
     obtain⟨h3,h4⟩:=g9 hw hi hf cs us hr'
     exact .clo _ _ _ _ _ (by rw[← h1];exact hl) h2 (by rw[← h3];exact hl') h4
theorem g9 {κ κ':Kap}(hw:κ'.w=κ.w)(hi:κ'.imm=κ.imm){g:Nat→Nat}(hf:∀ r,κ'.nm r=κ.nm (g r)):∀ (xs:List AV) (vs:Array Value),
  (∀ (i:Nat) (x:AV),(AV.renL (fun r=>some (g r)) xs)[i]? = some x→ARel κ x (vs.getD i Go.undef))→(AV.renL (fun r=>some (g r)) xs).length=xs.length∧∀ (i:Nat) (x:AV),xs[i]? = some x→ARel κ' x (vs.getD i Go.undef)
 | [],vs,h=>by simp[AV.renL]
 | x::r,vs,h=>by
   have e:∀ i,(vs.extract 1 vs.size).getD i Go.undef=vs.getD (i+1) Go.undef:=by
    intro i
    simp only[Array.getD_eq_getD_getElem?,Array.getElem?_extract]
    by_cases hh:i<min vs.size vs.size - 1
    ·rw[if_pos hh];congr 2;omega
    ·rw[if_neg hh,Array.getElem?_eq_none (by omega)]
   obtain⟨h1,h2⟩:=g9 hw hi hf r (vs.extract 1 vs.size) (fun i y hy=>by
    have:=h (i+1) y (by simpa[AV.renL] using hy)
    rw[e];exact this)
   refine⟨by simp[AV.renL,h1],fun i y hy=>?_⟩
   cases i with
   | zero=>
     simp only[List.getElem?_cons_zero,Option.some.injEq] at hy
     subst hy
     exact unren hw hi hf x _ (h 0 _ (by simp[AV.renL]))
   | succ i=>
     simp only[List.getElem?_cons_succ] at hy
     have:=h2 i y hy
     rw[e] at this;exact this
end
theorem d8.unren {κ κ':Kap}(hw:κ'.w=κ.w)(hi:κ'.imm=κ.imm){g:Nat→Nat}(hf:∀ r,κ'.nm r=κ.nm (g r)){r:Nat}{B:Blk}(h:d8 κ (g r) (B.ren fun r=>some (g r))):d8 κ' r B:=by
 cases B with
 | none=>trivial
 | cells T f l=>
   simp only[Blk.ren] at h
   rcases h with ⟨h1,h2,h3⟩ | ⟨b,n,cs,h1,h2,h3,h4,h5,h6,h7⟩
   ·refine .inl ⟨h1,?_,by rw[hf];exact h3⟩
    cases l with
    | nil=>rfl
    | cons x r=>simp[AV.renL] at h2
   ·obtain⟨q1,q2⟩:=g9 hw hi hf l cs h6
    exact .inr ⟨b,n,cs,by rw[hf];exact h1,by rw[hw];exact h2,h3,by rw[← q1];exact h4,fun hb=>by rw[← q1];exact h5 hb,q2,by rw[hi];exact h7⟩
 | tok e sz=>
   simp only[Blk.ren] at h
   rcases h with h | ⟨g',n,cap,cur,h1,h2,h3⟩
   ·exact .inl (by rw[hf];exact h)
   ·exact .inr ⟨g',n,cap,cur,by rw[hf];exact h1,by rw[hw];exact h2,by rw[hi];exact h3⟩
 | mp l=>
   obtain⟨b,es,ck,h1,h2⟩:=h
   exact⟨b,es,ck,by rw[hf];exact h1,by rw[hw,hi];exact h2⟩
 | bts e l=>
   obtain⟨b,n,cs,fz,h1,h2⟩:=h
   exact⟨b,n,cs,fz,by rw[hf];exact h1,by rw[hw,hi];exact h2⟩
theorem d8.ren {κ κ':Kap}(hw:κ'.w=κ.w)(hi:κ'.imm=κ.imm){g:Nat→Nat}(hf:∀ r,κ'.nm (g r)=κ.nm r){r:Nat}{B:Blk}(h:d8 κ r B):d8 κ' (g r) (B.ren fun r=>some (g r)):=by
 have hf':∀ r r',(fun r=>some (g r)) r=some r'→κ'.nm r'=κ.nm r:=fun r r' h=>by cases h;exact hf r
 cases B with
 | none=>trivial
 | cells T f l=>
   simp only[Blk.ren]
   rcases h with ⟨h1,h2,h3⟩ | ⟨b,n,cs,h1,h2,h3,h4,h5,h6,h7⟩
   ·exact .inl ⟨h1,by rw[h2];simp only[AV.renL],by rw[hf];exact h3⟩
   ·obtain⟨q1,q2⟩:=dF hw hi hf' l cs h6
    exact .inr ⟨b,n,cs,by rw[hf];exact h1,by rw[hw];exact h2,h3,by rw[q1];exact h4,fun hb=>by rw[q1];exact h5 hb,q2,by rw[hi];exact h7⟩
 | tok e sz=>
   simp only[Blk.ren]
   rcases h with h | ⟨g',n,cap,cur,h1,h2,h3⟩
   ·exact .inl (by rw[hf];exact h)
   ·exact .inr ⟨g',n,cap,cur,by rw[hf];exact h1,by rw[hw];exact h2,by rw[hi];exact h3⟩
 | mp l=>
   obtain⟨b,es,ck,h1,h2⟩:=h
   exact⟨b,es,ck,by rw[hf];exact h1,by rw[hw,hi];exact h2⟩
 | bts e l=>
   obtain⟨b,n,cs,fz,h1,h2⟩:=h
   exact⟨b,n,cs,fz,by rw[hf];exact h1,by rw[hw,hi];exact h2⟩
def qV (f:Nat→Option Nat):List Blk→Nat→(Nat→Nat)→List (Nat×Blk)
 | [],_,_=>[]
 | b::r,i,g=>(g i,b.ren f)::qV f r (i+1) g
def iB:List Nat→List (Nat×Blk)
 | []=>[]
 | r::q=>(r,.none)::iB q
def fH (sto:List (Nat×Blk))(f:Nat→Option Nat):List Nat→List Blk→Prop
 | [],[]=>True
 | r::rs,b::bs=>BlkZ (lookB r sto) (b.ren f)∧fH sto f rs bs
 | _,_=>False
theorem fH.get {sto:List (Nat×Blk)}{f:Nat→Option Nat}:∀ {rs:List Nat} {bs:List Blk},fH sto f rs bs→rs.length=bs.length∧∀ (i r:Nat) (b:Blk),rs[i]? = some r→bs[i]? = some b→BlkZ (lookB r sto) (b.ren f)
 | [],[],h=>⟨rfl,by simp⟩
 | r::rs,b::bs,h=>by
   obtain⟨h1,h2⟩:=h
   obtain⟨h3,h4⟩:=fH.get h2
   refine⟨by simp[h3],fun i q d hq hd=>?_⟩
   cases i with
   | zero=>simp at hq hd;subst hq;subst hd;exact h1
   | succ i=>exact h4 i q d (by simpa using hq) (by simpa using hd)
 | [],_::_,h=>h.elim
 | _::_,[],h=>h.elim
end
end Go.Ab
namespace Go.Ab
open Go Go.RowKit
section
variable {P:Program}{G:Nat→List PV}
theorem d8.named {κ:Kap}{r:Nat}{B:Blk}(h:d8 κ r B)(hB:B≠.none):∃ d,κ.nm r=some d:=by
 cases B with
 | none=>exact absurd rfl hB
 | cells T f l=>
   rcases h with ⟨_,_,h⟩ | ⟨b,n,cs,h,_⟩
   ·exact⟨_,h⟩
   ·exact⟨_,h⟩
 | tok e sz=>
   rcases h with h | ⟨g,n,cap,cur,h,_⟩
   ·exact⟨_,h⟩
   ·exact⟨_,h⟩
 | mp l=>
   obtain⟨b,es,ck,h,_⟩:=h
   exact⟨_,h⟩
 | bts e l=>
   obtain⟨b,n,cs,fz,h,_⟩:=h
   exact⟨_,h⟩
theorem Blk.ren_ne {f:Nat→Option Nat}{b:Blk}:b.ren f≠.none↔b≠.none:=by
 cases b<;>simp[Blk.ren]
theorem Fd {next:Nat}{rs:List Nat}(hnd:rs.Nodup)(hlt:∀ r∈rs,r<next){i j:Nat}(h:gIn next rs i=gIn next rs j):i=j:=by
 by_cases hi:i<rs.length
 ·have ei:=iP next rs i _ (List.getElem?_eq_getElem hi)
  have hi':=hlt _ (List.getElem_mem hi)
  by_cases hj:j<rs.length
  ·have ej:=iP next rs j _ (List.getElem?_eq_getElem hj)
   rw[ei,ej] at h
   exact (List.getElem_inj hnd).1 h
  ·have ej:=jN next rs j (by omega)
   omega
 ·have ei:=jN next rs i (by omega)
  by_cases hj:j<rs.length
  ·have ej:=iP next rs j _ (List.getElem?_eq_getElem hj)
   have hj':=hlt _ (List.getElem_mem hj)
   omega
  ·have ej:=jN next rs j (by omega)
   omega
theorem l7 {f:Nat→Option Nat}{g:Nat→Nat}(hg:∀ i j,g i=g j→i=j)(rest:List (Nat×Blk))(r:Nat):∀ (bs:List Blk) (k:Nat),
  (∀ i b,bs[i]? = some b→g (k+i)=r→lookB r (qV f bs k g++rest)=b.ren f)∧((∀ i,i<bs.length→g (k+i)≠r)→lookB r (qV f bs k g++rest)=lookB r rest)
 | [],k=>⟨by simp,fun _=>rfl⟩
 | b::q,k=>by
   obtain⟨h1,h2⟩:=l7 hg rest r q (k+1)
   refine⟨fun i b' hi hr=>?_,fun h=>?_⟩
   ·simp only[qV,List.cons_append,lookB]
    cases i with
    | zero=>
      simp only[List.getElem?_cons_zero,Option.some.injEq] at hi
      subst hi
      rw[if_pos (by simpa using hr)]
    | succ i=>
      rw[if_neg (fun e=>by have:=hg _ _ (e.trans hr.symm);omega)]
      exact h1 i b' (by simpa using hi) (by rw[← hr];congr 1;omega)
   ·simp only[qV,List.cons_append,lookB]
    rw[if_neg (by have:=h 0 (by simp);simpa using this)]
    exact h2 fun i hi=>by
     have:=h (i+1) (by simp;omega)
     rwa [show k+(i+1)=k+1+i by omega] at this
theorem jI (rest:List (Nat×Blk))(r:Nat):∀ (l:List Nat),lookB r (iB l++rest)=if r∈l then .none else lookB r rest
 | []=>by simp[iB]
 | x::q=>by
   simp only[iB,List.cons_append,lookB,jI rest r q,List.mem_cons]
   by_cases h:x=r
   ·subst h;simp
   ·rw[if_neg h]
    by_cases hq:r∈q
    ·simp[hq]
    ·have:¬ (r=x∨r∈q):=by rintro (e | e);exact h e.symm;exact hq e
     rw[if_neg hq,if_neg this]
theorem dr.frame {k f:Nat}{args0:List AV}{bs:List Blk}{v:AV}{bs':List Blk}(h:dr P G k f args0 bs v bs'){rs:List Nat}{args:List AV}{sto:List (Nat×Blk)}{next:Nat}
  (hargs:AVzL args (AV.renL (gSo next rs) args0)) (hbs:fH sto (gSo next rs) rs bs) (hnd:rs.Nodup) (hlt:∀ r∈rs,r<next) (hk:k≤bs.length) (hk':k≤bs'.length) (hne:∀ b∈bs.take k,b≠.none) :
  b9 P G f args sto next fun v' sto' next'=>v'=v.ren (gSo next (rs.take k))∧sto'=qV (gSo next (rs.take k)) bs' 0 (gIn next (rs.take k))++(iB (rs.drop k)++sto)∧next'=next+(bs'.length - k):=by
 obtain⟨hcal,h⟩:=h
 refine⟨hcal,fun κ vals hS hf hsz hvals=>?_⟩
 obtain⟨hrl,hat⟩:=hbs.get
 let κ1:Kap:=⟨κ.w,fun i=>κ.nm (gIn next rs i),κ.imm⟩
 have hσ1:(fun r=>lookB r (cj bs 0))=fun r=>bs.getD r .none:=eW bs
 have hlook:∀ i b,bs[i]? = some b→∃ r,rs[i]? = some r∧gIn next rs i=r∧d8 κ r (b.ren (gSo next rs))∧(b≠.none→lookB r sto≠.none):=by
  intro i b hb
  have hi:i<rs.length:=by rw[hrl];exact (List.getElem?_eq_some_iff.1 hb).1
  have hr:=List.getElem?_eq_getElem hi
  obtain⟨q1,q2⟩:=(hat i _ b hr hb).rel (hS.blk rs[i])
  exact⟨rs[i],hr,iP next rs i _ hr,q1,fun hb'=>q2 (Blk.ren_ne.2 hb')⟩
 have hlive:∀ i,bs.getD i .none≠.none→∃ b,bs[i]? = some b∧b≠.none:=by
  intro i hi
  rw[List.getD_eq_getElem?_getD] at hi
  cases hb:bs[i]? with
  | none=>rw[hb] at hi;exact absurd rfl hi
  | some b=>rw[hb] at hi;exact⟨b,rfl,hi⟩
 have hB1:∀ i b,bs[i]? = some b→d8 κ1 i b:=by
  intro i b hb
  obtain⟨r,hr,hgr,hB,_⟩:=hlook i b hb
  exact d8.unren (κ:=κ) (κ':=κ1) rfl rfl (g:=gIn next rs) (fun _=>rfl) (by rw[hgr];exact hB)
 have hl1:∀ b,(bY κ1 (fun r=>lookB r (cj bs 0)) G).lent b→(bY κ (fun r=>lookB r sto) G).lent b:=by
  rintro b ⟨i,d,h1,h2,h3⟩
  simp only[congrFun hσ1 i] at h1
  obtain⟨b',hb,hbn⟩:=hlive i h1
  obtain⟨r,hr,hgr,_,hn⟩:=hlook i b' hb
  exact⟨r,d,hn hbn,by rw[← hgr];exact h2,h3⟩
 have hm1:∀ b,(bY κ1 (fun r=>lookB r (cj bs 0)) G).mine b→(bY κ (fun r=>lookB r sto) G).mine b:=fun b hb=>hb.elim .inl (fun h=>.inr (hl1 b h))
 have hS1:SRel (bY κ1 (fun r=>lookB r (cj bs 0)) G) κ1 (fun r=>lookB r (cj bs 0)):=by
  refine⟨fun i=>?_,fun i j d d' b h1 h2 hij hd hd' hb=>?_,fun i d b h1 hd hb=>.inr ⟨i,d,h1,hd,hb⟩,hS.immLt,?_⟩
  ·rw[congrFun hσ1 i]
   show d8 κ1 i (bs.getD i .none)
   rw[List.getD_eq_getElem?_getD]
   cases hb:bs[i]? with
   | none=>trivial
   | some b=>exact hB1 i b hb
  ·simp only[congrFun hσ1 i] at h1
   simp only[congrFun hσ1 j] at h2
   obtain⟨b1,hb1,hn1⟩:=hlive i h1
   obtain⟨b2,hb2,hn2⟩:=hlive j h2
   obtain⟨r,hr,hgr,_,hn⟩:=hlook i b1 hb1
   obtain⟨r',hr',hgr',_,hn'⟩:=hlook j b2 hb2
   refine hS.apart r r' d d' b (hn hn1) (hn' hn2) (fun e=>hij ?_) (by rw[← hgr];exact hd) (by rw[← hgr'];exact hd') hb
   obtain⟨hi,ei⟩:=List.getElem?_eq_some_iff.1 hr
   obtain⟨hj,ej⟩:=List.getElem?_eq_some_iff.1 hr'
   exact (List.getElem_inj hnd).1 (ei.trans (e.trans ej.symm))
  ·refine⟨fun g o p hp=>?_,fun g hg=>?_⟩
   ·exact hS.glob.1 g o p hp
   ·obtain⟨h1,h2,h3⟩:=hS.glob.2 g hg
    exact⟨h1,fun hl=>h2 (hl1 g hl),h3⟩
 have hf1:∀ r,bs.length≤r→κ1.nm r=none:=fun r hr=>by
  show κ.nm (gIn next rs r)=none
  rw[jN next rs r (by omega)]
  exact hf _ (by omega)
 have hlen0:args0.length=args.length:=by
  rw[hargs.length]
  have:∀ (f:Nat→Option Nat) (l:List AV),(AV.renL f l).length=l.length:=by
   intro f l
   induction l with
   | nil=>simp[AV.renL]
   | cons x r ih=>simp[AV.renL,ih]
  rw[this]
 have hv1:∀ (i:Nat) (x:AV),args0[i]? = some x→ARel κ1 x (vals.getD i Go.undef):=
  (g9 (κ:=κ) (κ':=κ1) rfl rfl (g:=gIn next rs) (fun _=>rfl) args0 vals (fun i x hx=>by
   obtain⟨y,hy,hyx⟩:=hargs.get i x hx
   exact hyx.rel (hvals i y hy))).2
 refine (h κ1 vals hS1 hf1 (by omega) hv1).mono ?_
 rintro e w' ⟨u,v',κ1',sto',next',rfl,rfl,he,hL,hv,hS',hf',rfl,rfl,rfl⟩
 obtain⟨g,hgdef⟩:∃ g,g=gIn next (rs.take k):=⟨_,rfl⟩
 have htl:(rs.take k).length=k:=by rw[List.length_take];omega
 have hg1:∀ i,i<k→∃ r,rs[i]? = some r∧g i=r∧r<next:=by
  intro i hi
  have hi':i<rs.length:=by omega
  have hr:=List.getElem?_eq_getElem hi'
  refine⟨rs[i],hr,?_,hlt _ (List.getElem_mem hi')⟩
  rw[hgdef]
  exact iP next _ i _ (by rw[List.getElem?_take,if_pos hi];exact hr)
 have hg2:∀ i,k≤i→g i=next+(i - k):=fun i hi=>by rw[hgdef,jN next _ i (by omega),htl]
 have hginj:∀ i j,g i=g j→i=j:=fun i j hij=>by
  rw[hgdef] at hij
  exact Fd (hnd.sublist (List.take_sublist _ _)) (fun r hr=>hlt r (List.mem_of_mem_take hr)) hij
 have hso:gSo next (rs.take k)=fun r=>some (g r):=by rw[hgdef];rfl
 rw[hso,← hgdef]
 let κ':Kap:=⟨κ1'.w,fun r=>if r<next then κ.nm r else κ1'.nm (k+(r - next)),κ1'.imm⟩
 have hnmk:∀ i,i<k→κ1'.nm i=κ1.nm i:=by
  intro i hi
  have hib:i<bs.length:=by omega
  have hb:=List.getElem?_eq_getElem hib
  obtain⟨d,hd⟩:=(hB1 i _ hb).named (hne _ (List.mem_take_iff_getElem.2 ⟨i,by omega,rfl⟩))
  rw[hd]
  exact he.nm i d (by simp only[Kap.cut];rw[if_pos hi];exact hd)
 have hnm':∀ i,κ'.nm (g i)=κ1'.nm i:=by
  intro i
  by_cases hi:i<k
  ·obtain⟨r,hr,hgr,hrn⟩:=hg1 i hi
   show (if g i<next then κ.nm (g i) else κ1'.nm (k+(g i - next)))=_
   rw[hgr,if_pos hrn,hnmk i hi]
   show κ.nm r=κ.nm (gIn next rs i)
   rw[iP next rs i r hr]
  ·show (if g i<next then κ.nm (g i) else κ1'.nm (k+(g i - next)))=_
   rw[hg2 i (by omega),if_neg (by omega)]
   congr 1;omega
 have hext:Ext κ κ':=⟨fun b o hi=>he.imm b o hi,fun b o v hi hc=>he.cell b o v hi hc,fun r d hd=>by
  have hr:r<next:=by
   rcases Nat.lt_or_ge r next with h | h
   ·exact h
   ·rw[hf r h] at hd;cases hd
  show (if r<next then κ.nm r else _)=_
  rw[if_pos hr];exact hd,fun b o ho hc=>he.obj b o ho hc⟩
 have hout:∀ r d b,lookB r sto≠.none→r∉rs→κ.nm r=some d→d.block=some b→b<κ.w.heap.size∧¬ (bY κ1 (fun r=>lookB r (cj bs 0)) G).lent b:=by
  intro r d b h1 h2 h3 h4
  refine⟨(hS.blk r).lt h1 h3 h4,?_⟩
  rintro⟨i,d',q1,q2,q3⟩
  simp only[congrFun hσ1 i] at q1
  obtain⟨b',hb,hbn⟩:=hlive i q1
  obtain⟨r',hr',hgr,_,hn⟩:=hlook i b' hb
  refine hS.apart r r' d d' b h1 (hn hbn) (fun e=>h2 (e▸List.mem_of_getElem? hr')) h3 (by rw[← hgr];exact q2) h4 q3
 have hmem:∀ r,r∈rs→(∃ i,i<bs'.length∧g i=r)∨r∈rs.drop k:=by
  intro r hr
  obtain⟨i,hi⟩:=List.getElem?_of_mem hr
  by_cases hik:i<k
  ·obtain⟨r',hr',hgr,_⟩:=hg1 i hik
   rw[hi] at hr';cases hr'
   exact .inl ⟨i,by omega,hgr⟩
  ·refine .inr (List.mem_of_getElem? (i:=i - k) ?_)
   rw[List.getElem?_drop,show k+(i - k)=i by omega];exact hi
 have hσ':∀ r,(∃ i b,bs'[i]? = some b∧g i=r∧lookB r (qV (fun r=>some (g r)) bs' 0 g++(iB (rs.drop k)++sto))=b.ren (fun r=>some (g r))) ∨
   lookB r (qV (fun r=>some (g r)) bs' 0 g++(iB (rs.drop k)++sto)) = .none∨(r∉rs∧(∀ i,i<bs'.length→g i≠r)∧lookB r (qV (fun r=>some (g r)) bs' 0 g++(iB (rs.drop k)++sto))=lookB r sto):=by
  intro r
  obtain⟨q1,q2⟩:=l7 (f:=fun r=>some (g r)) hginj (iB (rs.drop k)++sto) r bs' 0
  by_cases hi:∃ i,i<bs'.length∧g i=r
  ·obtain⟨i,hi,hgi⟩:=hi
   exact .inl ⟨i,bs'[i],List.getElem?_eq_getElem hi,hgi,q1 i _ (List.getElem?_eq_getElem hi) (by rw[Nat.zero_add];exact hgi)⟩
  ·have hni:∀ i,i<bs'.length→g i≠r:=fun i h1 h2=>hi ⟨i,h1,h2⟩
   have e:=q2 (fun i h1=>by rw[Nat.zero_add];exact hni i h1)
   rw[jI] at e
   by_cases hr:r∈rs.drop k
   ·rw[if_pos hr] at e;exact .inr (.inl e)
   ·rw[if_neg hr] at e
    exact .inr (.inr ⟨fun h=>(hmem r h).elim hi hr,hni,e⟩)
 have hlive':∀ i b,bs'[i]? = some b→b.ren (fun r=>some (g r))≠.none→lookB i (cj bs' 0)≠.none:=by
  intro i b hb hbn
  have e2:lookB i (cj bs' 0)=bs'.getD i .none:=congrFun (eW bs') i
  rw[e2,List.getD_eq_getElem?_getD,hb]
  exact Blk.ren_ne.1 hbn
 refine⟨u,_,κ',_,_,rfl,rfl,hext,⟨hL.os,hL.tape,hL.output,hL.size,fun b hb hl=>hL.block b hb fun h=>hl (hl1 b h),fun b o hi=>(hL.imm b o hi).imp id (hm1 b)⟩,
  nk (κ:=κ1') (κ':=κ') rfl rfl (fun r r' hr=>by cases hr;exact hnm' r) v' u hv,?_,fun r hr=>?_,rfl,rfl,rfl⟩
 ·refine⟨fun r=>?_,fun r r' d d' b h1 h2 hrr hd hd' hb=>?_,fun r d b h1 hd hb=>?_,hS'.immLt,?_⟩
  ·show d8 κ' r (lookB r _)
   rcases hσ' r with ⟨i,b,hb,hgi,e⟩ | e | ⟨hr,hni,e⟩
   ·rw[e,← hgi]
    refine d8.ren (κ:=κ1') (κ':=κ') rfl rfl hnm' ?_
    have:=hS'.blk i
    have e2:lookB i (cj bs' 0)=bs'.getD i .none:=congrFun (eW bs') i
    simp only[e2,List.getD_eq_getElem?_getD,hb] at this
    exact this
   ·rw[e];trivial
   ·rw[e]
    refine (hS.blk r).keep hext fun hbn d b hd hb=>?_
    obtain⟨q1,q2⟩:=hout r d b hbn hr hd hb
    refine⟨hL.block b q1 q2,fun o ho=>?_⟩
    rcases hL.imm b o ho with h | h | h
    ·exact h
    ·exact absurd q1 (Nat.not_lt.2 h)
    ·exact absurd h q2
  ·have cal:∀ r i b0 d,bs'[i]? = some b0→g i=r→b0.ren (fun r=>some (g r))≠.none→κ'.nm r=some d→lookB i (cj bs' 0)≠.none∧κ1'.nm i=some d:=by
    intro r i b0 d hb0 hgi hbn hd
    exact⟨hlive' i b0 hb0 hbn,by rw[← hnm' i,hgi];exact hd⟩
   have own:∀ r d,r∉rs→lookB r sto≠.none→κ'.nm r=some d→κ.nm r=some d:=by
    intro r d hr hbn hd
    obtain⟨d',hd'⟩:=(hS.blk r).named hbn
    have:=hext.nm r d' hd'
    rw[this] at hd;cases hd;exact hd'
   have mix:∀ r i b0 d d' b,bs'[i]? = some b0→b0.ren (fun r=>some (g r))≠.none→κ1'.nm i=some d→d.block=some b→lookB i (cj bs' 0)≠.none→r∉rs→lookB r sto≠.none→κ.nm r=some d'→d'.block≠some b:=by
    intro r i b0 d d' b hb0 hbn hd hdb hl hr hrl hd' hdb'
    obtain⟨q1,q2⟩:=hout r d' b hrl hr hd' hdb'
    rcases hS'.mine i d b hl hd hdb with h | h
    ·exact absurd q1 (Nat.not_lt.2 h)
    ·exact q2 h
   rcases hσ' r with ⟨i,b1,hb1,hgi,e⟩ | e | ⟨hr,hni,e⟩
   ·have h1':b1.ren (fun r=>some (g r))≠.none:=by
     intro h0;exact h1 (e.trans h0)
    obtain⟨p1,p2⟩:=cal r i b1 d hb1 hgi h1' hd
    rcases hσ' r' with ⟨j,b2,hb2,hgj,e'⟩ | e' | ⟨hr',hni',e'⟩
    ·have h2':b2.ren (fun r=>some (g r))≠.none:=by
      intro h0;exact h2 (e'.trans h0)
     obtain⟨p3,p4⟩:=cal r' j b2 d' hb2 hgj h2' hd'
     exact hS'.apart i j d d' b p1 p3 (fun hij=>hrr (by rw[← hgi,← hgj,hij])) p2 p4 hb
    ·exact absurd e' h2
    ·have h2':lookB r' sto≠.none:=by intro h0;exact h2 (e'.trans h0)
     exact mix r' i b1 d d' b hb1 h1' p2 hb p1 hr' h2' (own r' d' hr' h2' hd')
   ·exact absurd e h1
   ·have h1':lookB r sto≠.none:=by intro h0;exact h1 (e.trans h0)
    have hd0:=own r d hr h1' hd
    rcases hσ' r' with ⟨j,b2,hb2,hgj,e'⟩ | e' | ⟨hr',hni',e'⟩
    ·have h2':b2.ren (fun r=>some (g r))≠.none:=by
      intro h0;exact h2 (e'.trans h0)
     obtain⟨p3,p4⟩:=cal r' j b2 d' hb2 hgj h2' hd'
     intro hb'
     exact mix r j b2 d' d b hb2 h2' p4 hb' p3 hr h1' hd0 hb
    ·exact absurd e' h2
    ·have h2':lookB r' sto≠.none:=by intro h0;exact h2 (e'.trans h0)
     exact hS.apart r r' d d' b h1' h2' hrr hd0 (own r' d' hr' h2' hd') hb
  ·rcases hσ' r with ⟨i,b1,hb1,hgi,e⟩ | e | ⟨hr,hni,e⟩
   ·have h1':b1.ren (fun r=>some (g r))≠.none:=by
     intro h0;exact h1 (e.trans h0)
    refine hm1 b (hS'.mine i d b (hlive' i b1 hb1 h1') (by rw[← hnm' i,hgi];exact hd) hb)
   ·exact absurd e h1
   ·have h1':lookB r sto≠.none:=by intro h0;exact h1 (e.trans h0)
    obtain⟨d',hd'⟩:=(hS.blk r).named h1'
    have:=hext.nm r d' hd'
    rw[this] at hd;cases hd
    exact .inr ⟨r,d,h1',hd',hb⟩
  ·refine⟨hS'.glob.1,fun g' hg'=>?_⟩
   obtain⟨h1,h2,cs,T,fz,h3,h4⟩:=hS.glob.2 g' hg'
   exact⟨h1,h2,cs,T,fz,(hL.block g' h1 fun h=>h2 (hl1 g' h)).trans h3,h4⟩
 ·show (if r<next then κ.nm r else κ1'.nm (k+(r - next)))=none
  rw[if_neg (by omega)]
  exact hf' _ (by omega)
def CT (k:Nat)(rs:List Nat)(bs bs':List Blk)(next:Nat):Bool:=
 decide (k≤bs.length)&&decide (k≤bs'.length)&&(bs.take k).all (fun b=>match b with | .none=>false | _=>true)&&rs.all (fun r=>decide (r<next))&&decide rs.Nodup
theorem ab.lentK {k f:Nat}{args0:List AV}{bs:List Blk}{v:AV}{bs':List Blk}(h:dr P G k f args0 bs v bs')(rs:List Nat){args:List AV}{env:List (Nat×AV)}{sto:List (Nat×Blk)}{next:Nat}{K:AV→St→Prop}
  (hok:CT k rs bs bs' next=true) (hargs:AVzL args (AV.renL (gSo next rs) args0)) (hbs:fH sto (gSo next rs) rs bs)
  (hK:K (v.ren (gSo next (rs.take k))) ⟨env,qV (gSo next (rs.take k)) bs' 0 (gIn next (rs.take k))++(iB (rs.drop k)++sto),next+(bs'.length - k)⟩):ab P G f args ⟨env,sto,next⟩ K:=by
 simp only[CT,Bool.and_eq_true,decide_eq_true_eq,List.all_eq_true] at hok
 obtain⟨⟨⟨⟨h1,h2⟩,h3⟩,h4⟩,h5⟩:=hok
 refine ab.lent (h.frame hargs hbs h5 h4 h1 h2 (fun b hb e=>?_)) ?_
 ·have:=h3 b hb
  subst e;cases this
 ·rintro v' sto' next' ⟨rfl,rfl,rfl⟩
  exact hK
end
end Go.Ab
namespace Go.Ab
open Go
theorem wE (k:Nat):cj [] k=[]:=_root_.id rfl
theorem rJ (b:Blk)(r:List Blk)(k:Nat):cj (b::r) k=(k,b)::cj r (k+1):=_root_.id rfl
theorem rq (sto:List (Nat×Blk))(f:Nat→Option Nat):fH sto f [] []=True:=_root_.id rfl
theorem nO (sto:List (Nat×Blk))(f:Nat→Option Nat)(r:Nat)(rs:List Nat)(b:Blk)(bs:List Blk):fH sto f (r::rs) (b::bs)=(BlkZ (lookB r sto) (b.ren f)∧fH sto f rs bs):=_root_.id rfl
theorem AN (f:Nat→Option Nat)(i:Nat)(g:Nat→Nat):qV f [] i g=[]:=_root_.id rfl
theorem uS (f:Nat→Option Nat)(b:Blk)(r:List Blk)(i:Nat)(g:Nat→Nat):qV f (b::r) i g=(g i,b.ren f)::qV f r (i+1) g:=_root_.id rfl
theorem vm:iB []=[]:=_root_.id rfl
theorem IL (next:Nat)(rs:List Nat)(r:Nat):gSo next rs r=some (gIn next rs r):=_root_.id rfl
theorem LK (next r:Nat)(q:List Nat):gIn next (r::q) 0=r:=_root_.id rfl
theorem km {sz r off n:Nat}{k:IntKind}{h:Int}(h0:0≤h)(h1:h≤n)(hs:0<sz):de sz (.row r sz off n) none (some (.pv (.int k h)))=some (.row r sz off h.toNat):=by
 simp[de,aX,h0,h1,hs]
theorem Cf (n:Int):n+1 - 1=n:=by omega
theorem ba (A:List (Nat×Nat×Nat×Nat)){k:Nat}{v v':AV}{bs':List Blk}{sto':List (Nat×Blk)}{next':Nat}(h:StZ (dL A k [0] ⟨[(0,v')],sto',next'⟩) ⟨[(0,v)],cj bs' 0,bs'.length⟩):Fa k v bs' v' sto' next':=Wk.head h
end Go.Ab
namespace Go.Ab
open Go Go.RowKit
section
variable {P:Program}{G:Nat→List PV}
theorem x8 (F:St→Prop)(s:St):ML F .norm s=F s:=_root_.id rfl
theorem B7 (b:ACode)(Q:AExit→St→Prop)(e:List (Nat×AV))(σ:List (Nat×Blk))(n:Nat):FL (fun m=>vc P G m b) Q ⟨e,σ,n⟩=vc P G n b Q ⟨e,σ,n⟩:=_root_.id rfl
theorem Aa (e:List (Nat×AV)):Ac [] [] e=e:=_root_.id rfl
theorem uw (p:Nat)(ps:List Nat)(x:PV)(xs:List PV)(e:List (Nat×AV)):Ac (p::ps) (x::xs) e=Ac ps xs ((p,.pv x)::e):=_root_.id rfl
def L7 {ι:Type}(A:List (Nat×Nat×Nat×Nat))(S:ι→St)(Inv:Nat→ι→Prop)(i m0:Nat)(keep:List Nat)(Q:AExit→St→Prop)(e0:List (Nat×AV)):AExit→St→Prop
 | .norm,s'=>∃ x',Hd A m0 keep ⟨e0,s'.sto,s'.next⟩ (S x')∧Inv (i+1) x'
 | .exit j,s'=>Q (.exit j) ⟨e0,s'.sto,s'.next⟩
 | .ret,s'=>Q .ret ⟨e0,s'.sto,s'.next⟩
theorem xQ {ι:Type}(A:List (Nat×Nat×Nat×Nat))(S:ι→St)(Inv:Nat→ι→Prop)(i m0:Nat)(keep:List Nat)(Q:AExit→St→Prop)(e0 e:List (Nat×AV))(σ:List (Nat×Blk))(n:Nat):L7 A S Inv i m0 keep Q e0 .norm ⟨e,σ,n⟩ = ∃ x',Hd A m0 keep ⟨e0,σ,n⟩ (S x')∧Inv (i+1) x':=_root_.id rfl
theorem Cn {ι:Type}(A:List (Nat×Nat×Nat×Nat))(S:ι→St)(Inv:Nat→ι→Prop)(i m0:Nat)(keep:List Nat)(Q:AExit→St→Prop)(e0 e:List (Nat×AV))(σ:List (Nat×Blk))(n:Nat):L7 A S Inv i m0 keep Q e0 .ret ⟨e,σ,n⟩=Q .ret ⟨e0,σ,n⟩:=_root_.id rfl
theorem IK:∀ (lb:List PV),pvs (lb.map AV.pv)=some lb
 | []=>rfl
 | p::r=>by simp[pvs,AV.toPV,IK r]
theorem sO {ι:Type}(A:List (Nat×Nat×Nat×Nat))(ch:ι→List (Nat×AV))(chB:ι→List (Nat×Blk))(Inv:Nat→ι→Prop)(x0:ι){gf:Nat}{lb:List PV}{xs:List (List PV)}(hs:KW P G gf lb xs)
  {m0:Nat} {f:AX} {ps keep:List Nat} {a b:ACode} {Q:AExit→St→Prop} {s:St}
  (h:∀ e0 σ0 n0,dL A m0 keep s=⟨e0,σ0,n0⟩→StZ ⟨e0,σ0,n0⟩ ⟨eV e0 (ch x0),fN σ0 (chB x0),n0⟩∧Inv 0 x0∧cJ (f.ev (fun i=>look i (eV e0 (ch x0))))=some (gf,[],lb.map AV.pv) ∧
   (∀ i x y,xs[i]? = some y→Inv i x→y.length=ps.length∧vc P G n0 a (ML (FL (fun m=>vc P G m b) (L7 A (fun x=>⟨eV e0 (ch x),fN σ0 (chB x),n0⟩) Inv i m0 keep Q (eV e0 (ch x))))) ⟨Ac ps y (eV e0 (ch x)),fN σ0 (chB x),n0⟩) ∧
   ∀ x,Inv xs.length x→Q .norm ⟨eV e0 (ch x),fN σ0 (chB x),n0⟩):vc P G m0 (.range f ps keep a b) Q s:=by
 obtain⟨h1,h2,h3,h4,h5⟩:=h (dL A m0 keep s).env (dL A m0 keep s).sto (dL A m0 keep s).next rfl
 let S:ι→St:=fun x=>⟨eV (dL A m0 keep s).env (ch x),fN (dL A m0 keep s).sto (chB x),(dL A m0 keep s).next⟩
 refine⟨fun i t=>∃ x,t=S x∧Inv i x,S x0,aV h1,⟨x0,rfl,h2⟩,?_⟩
 have e:cJ (f.ev (S x0).E)=some (gf,[],lb.map AV.pv):=h3
 rw[e]
 refine⟨rfl,lb,xs,IK lb,hs,?_,?_⟩
 ·rintro i y t hy ⟨x,rfl,hx⟩
  obtain⟨k1,k2⟩:=h4 i x y hy hx
  refine⟨k1,cz a (fun e s hs=>?_) _ k2⟩
  cases e with
  | norm=>
    refine cz b (fun e s hs=>?_) s hs
    cases e with
    | norm=>
      obtain⟨x',q1,q2⟩:=hs
      exact⟨S x',q1,x',rfl,q2⟩
    | exit j=>exact hs
    | ret=>exact hs
  | exit j=>exact hs.elim
  | ret=>exact hs.elim
 ·rintro t ⟨x,rfl,hx⟩
  exact h5 x hx
end
end Go.Ab
namespace Go.Ab
open Go
attribute [push_cast] yh LO LP LQ LR LS LT vG
 Bf rm vH LM LN BQ BR Fs BT Fr BP DI
 tk qp qo qm ne qj nc yF tl tm
 na m9 yI yJ EB yE yD tq
 yH yG p8 Eu
 Ev qF nv uH EH lF qG nu
 qE zx uh ug zy nw nx wP xy nq z1
 zG zO zI zH zZ zJ zP zU
 zW zY up uo um un
 uq zr uc ul zq
 Ez vd M2 M1 ED ut uu
 kq DE pZ yy vA iF
 EZ nF E0 nG nH xh r8 r7
 mt ag r6 xe w9 r4 r5 xg
 nN rn uf qD E7 E6 pV pU rj Jw
 Bd r9 vE Bl vM vL nP vC ri
 nK nL E1 Ew qC ll yP kj yr tf
 B2 B3 EK A3 A5 A4 A6 B6 sP pX
 sG sH sF mK wK rQ lJ lK AZ z6 I3
 I4 wJ yR yW yU H5 H4 nJ lV
 lW kv kw Du yq sQ rR
 nW Fv nM lY lX kz
 ky EY Ba A9 rc vO ru Fw rP wR rX wS
 rZ Fy Fz Bc Iu AW xO xP Cm om oo sr
 Dp HE Dr Fu HC Dt yp Dq HD AS LG LH
 zf tQ Co F4 Ek H9 Ia H8 rV tP qy Ad
 II vS vV ry rx oe og sn uD
 qK uQ qS uE qM uR qT ku EN Iq Io EO
 Ip EP AU zu zw map_take map_drop
 ve qI JA Cc Ca B9 FP pM rL rM
 nV L3 Jv xx oR uW uU AO oQ EJ
 AR AQ qW lE nA qY qX Ce JB
 Jz E5 Bi vT IS BJ BK
 Ff A7 vu vq A8
 vv vw q8 iC lQ lR q9 Cg xI FV
 FW Fc pd mx fE Et Er mo kM Ls H7 vj
 qZ ER ET ES qz nl q7 vY CK Eo Em
 El Ie En tU tT tV zh lz tW
 qA zj AY Ch xJ xK xN EV EU A1
 A0 FZ Ck sm xM Cl FY MX MW Lf I6 I7
 Fo wq rF Ai B8
 BV wD xz Jy
 xB xC yO tz HJ wE rJ rq nO AN uS
 vm IL LK km Cf
 Nat.zero_add Nat.add_zero List.length_cons List.length_nil List.nil_append List.cons_append List.append_nil List.append_assoc
 List.getElem?_map List.length_map List.map_nil List.map_cons List.take_succ_cons List.take_zero List.drop_succ_cons List.drop_zero List.take_nil List.drop_nil List.all_cons List.all_nil
 Bool.and_true Bool.true_and Bool.and_false Bool.false_and Bool.not_true Bool.not_false decide_true decide_false Bool.not_not Int.natCast_add Int.cast_ofNat_Int Int.toNat_natCast
 Option.some.injEq and_true true_and ge_iff_le Nat.le_refl Nat.zero_le Nat.not_lt_zero and_self
attribute [push_cast] x8 B7 Aa uw xQ Cn
attribute [push_cast high] Int.cast_ofNat_Int
end Go.Ab

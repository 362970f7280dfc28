/- A part of the proof. -/
import Derived.Test.YtbojpfpliibfbaaGreatDoorCaRC16
import Derived.Shelf.SlGeneric
import Derived.Shelf.SlSortCmp.WholeK
import Derived.Ground.SlsfProg
import Derived.Test.YtbojpfpliibfbaaGreatDoorProg
import Derived.WalkKit
import Derived.WalkMore
import Derived.Deep.Draws
import Derived.Shelf.SlSortCmp.NoneTotal
set_option maxHeartbeats 16000000
set_option maxRecDepth 100000
set_option linter.unusedVariables false
set_option linter.unusedSimpArgs false
namespace Go.Proofs.YtbojpfpliibfbaaGreatDoor
open Go Go.Ab
attribute [local irreducible] vc
structure CellOk (g:TFd):Prop where
 own:dK g.typ=0
 kd:1<=g.typ.kind/\g.typ.kind<=7
 ty:eJ 1 g.typ
 emp:ag Tryz.prog au 36 [g.typ.pv] (.bool (aT g.typ))/\ag Tryz.prog au 40 [g.typ.pv] (.bool (aT g.typ))
 dft:g.need=3->∃ x r,g.dflt=x::r/\x.ok/\ag Tryz.prog au 92 [x.pv] x.pv
def xK (t:Typ)(r:Qt×Int):Int:=if r.2=0 then (if wp t r.1=true then 0 else 18) else r.2
def vPQ (k:Int)(r:Qt×Int):PV:=if r.2=0\/6<=k then pX k r.1 else eP
def rdR (t:Typ)(s:List UInt8):Qt×Int:=rdC t.kind t.scale s
def K4 (g:TFd):PV:=match g.dflt with
 | []=>eP
 | x::_=>x.pv
def ud (g:TFd):Int:=if aT g.typ=true\/g.need=2\/g.need=3 then 0 else 19
def xN (g:TFd):PV:=if aT g.typ=true then jd g.typ.kind 0 0 [] else if g.need=2 then eP else if g.need=3 then K4 g else eP
def lm (g:TFd)(s:List UInt8):Int:=if bu g.typ.kind s=[] then ud g else xK g.typ (rdR g.typ (bu g.typ.kind s))
def Lh (g:TFd)(s:List UInt8):PV:=if bu g.typ.kind s=[] then xN g else vPQ g.typ.kind (rdR g.typ (bu g.typ.kind s))
theorem Q2 {g:TFd}(h:aT g.typ=true):xN g=jd g.typ.kind 0 0 []/\ud g=0:=⟨if_pos h,if_pos (.inl h)⟩
theorem Q1 {g:TFd}(h:aT g.typ=false)(h2:g.need=2):xN g=eP/\ud g=0:=by
 unfold xN ud
 rw[if_neg (by rw[h];decide),if_pos h2,if_pos (.inr (.inl h2))]
 exact⟨rfl,rfl⟩
theorem Q0 {g:TFd}(h:aT g.typ=false)(h2:¬ g.need=2)(h3:g.need=3):xN g=K4 g/\ud g=0:=by
 unfold xN ud
 rw[if_neg (by rw[h];decide),if_neg h2,if_pos h3,if_pos (.inr (.inr h3))]
 exact⟨rfl,rfl⟩
theorem QZ {g:TFd}(h:aT g.typ=false)(h2:¬ g.need=2)(h3:¬ g.need=3):xN g=eP/\ud g=19:=by
 unfold xN ud
 rw[if_neg (by rw[h];decide),if_neg h2,if_neg h3,if_neg (fun q=>q.elim (by rw[h];decide) fun q=>q.elim h2 h3)]
 exact⟨rfl,rfl⟩
theorem GK {T:Nat}{p:PV}(g:TFd)(h:CellOk g)(s:List UInt8)(hs:s.length<=1000000)(h0:bu g.typ.kind s=[]):ag Tryz.prog (dN T p) 53 [.str s,g.pv] (.tup [xN g,.int .i64 (ud g)]):=by
 obtain⟨ho,hk,ht,⟨he,_⟩,hd⟩:=h
 have hL:=toE (T:=T) (p:=p) (sq s)
 have hR:=toE (T:=T) (p:=p) (sn s hs)
 have hE:=toE (T:=T) (p:=p) he
 have b1:=Q2 (g:=g)
 have b2:=Q1 (g:=g)
 have b3:=Q0 (g:=g)
 have b4:=QZ (g:=g)
 have hfin:∀ (x:Val) (r:List Val),g.dflt=x::r->K4 g=x.pv:=fun x r h=>by unfold K4;rw[h]
 generalize xN g=P at *
 generalize ud g=E at *
 generalize K4 g=D at *
 generalize aT g.typ=B at *
 obtain⟨n,nm,nd,⟨k,m,M,sc,w,e,f⟩,d⟩:=g
 simp only[TFd.typ,TFd.need,TFd.dflt,Typ.kind,Typ.pv_mk] at *
 unfold bu at h0
 have hc:k=2\/k=3\/¬ k=2/\¬ k=3:=by omega
 refine ag.intro Q53.2 (by simp[Q53]) ?_
 rcases hc with rfl | rfl | ⟨n2,n3⟩
 case' inl=>
  rw[if_pos (.inl rfl)] at h0
  rw[h0] at hL
  simp(disch:=try exact dI) only[Q53,TFd.pv_mk,Typ.pv_mk,am,List.cons_append,List.nil_append,push_cast,seval]
  refine ab.pure hL rfl ?_
 case' inr.inl=>
  rw[if_pos (.inr rfl)] at h0
  rw[h0] at hL
  simp(disch:=try exact dI) only[Q53,TFd.pv_mk,Typ.pv_mk,am,List.cons_append,List.nil_append,push_cast,seval]
  refine ab.pure hL rfl ?_
 case' inr.inr=>
  rw[if_neg (fun h=>h.elim n2 n3)] at h0
  rw[h0] at hR
  simp(disch:=try exact dI) only[Q53,TFd.pv_mk,Typ.pv_mk,am,List.cons_append,List.nil_append,n2,n3,push_cast,seval]
  refine ab.pure hR rfl ?_
 all_goals
  refine zgZ ?_
  refine ab.pure hE rfl ?_
  cases B with
  | true=>
    obtain⟨rfl,rfl⟩:=b1 rfl
    simp(disch:=try exact dI) only[jd,push_cast,seval]
  | false=>
    by_cases h2:nd=2
    ·obtain⟨rfl,rfl⟩:=b2 rfl h2
     simp(disch:=try exact dI) only[h2,eP,push_cast,seval]
    ·by_cases h3:nd=3
     ·obtain⟨rfl,rfl⟩:=b3 rfl h2 h3
      obtain⟨x,r,hx,_,hC⟩:=hd h3
      obtain rfl:=hfin x r hx
      subst hx
      obtain⟨vk,vn,vs,vt,vl,vf⟩:=x
      replace hC:=toE (T:=T) (p:=p) hC
      simp only[Val.pv_mk] at hC ⊢
      simp(disch:=try exact dI) only[h2,h3,aF,List.map_cons,Val.pv_mk,push_cast,seval]
      refine ab.pure hC rfl ?_
      exact qsZ
     ·obtain⟨rfl,rfl⟩:=b4 rfl h2 h3
      simp(disch:=try exact dI) only[h2,h3,eP,push_cast,seval]
theorem Hh {k:Int}{r:Qt×Int}(h:r.2=0\/6<=k):vPQ k r=pX k r.1:=if_pos h
theorem Mx {k:Int}{r:Qt×Int}(h:¬ (r.2=0\/6<=k)):vPQ k r=eP:=if_neg h
theorem Hi (k:Int)(r:Qt×Int):∃ (a b c:Int) (d:List UInt8),vPQ k r=jd a b c d:=by
 by_cases h:r.2=0\/6<=k
 ·rw[Hh h];exact⟨_,_,_,_,rfl⟩
 ·rw[Mx h];exact⟨_,_,_,_,rfl⟩
theorem Qd (k:Int)(r:Qt×Int):rdP k r = .tup [vPQ k r,.int .i64 r.2]:=rfl
theorem GJ {T:Nat}{p:PV}(g:TFd)(h:CellOk g)(s:List UInt8)(hs:s.length<=1000000)(h0:¬ bu g.typ.kind s=[]):ag Tryz.prog (dN T p) 53 [.str s,g.pv] (.tup [vPQ g.typ.kind (rdR g.typ (bu g.typ.kind s)),.int .i64 (xK g.typ (rdR g.typ (bu g.typ.kind s)))]):=by
 obtain⟨ho,hk,ht,_,_⟩:=h
 have hL:=toE (T:=T) (p:=p) (sq s)
 have hR:=toE (T:=T) (p:=p) (sn s hs)
 have hsl:(bu g.typ.kind s).length<=1000000:=Nat.le_trans (mR _ _) hs
 have hrd:ag Tryz.prog (dN T p) 107 [.str (bu g.typ.kind s),g.typ.pv] (.tup [vPQ g.typ.kind (rdR g.typ (bu g.typ.kind s)),.int .i64 (rdR g.typ (bu g.typ.kind s)).2]):=by
  rw[<- Qd]
  unfold rdR
  obtain⟨n,nm,nd,⟨k,m,M,sc,w,e,f⟩,d⟩:=g
  exact Jy k m M sc w e f _ hk hsl
 have hft:(rdR g.typ (bu g.typ.kind s)).2=0->ag Tryz.prog (dN T p) 42 [g.typ.pv,vPQ g.typ.kind (rdR g.typ (bu g.typ.kind s))] (.bool (wp g.typ (rdR g.typ (bu g.typ.kind s)).1)):=fun h=>by
  rw[Hh (.inl h)]
  exact toE (KL g.typ _ ht hk (HD _ _ _ hsl h))
 have hst:(g.typ.kind=2\/g.typ.kind=3->bu g.typ.kind s=trL s)/\(¬ (g.typ.kind=2\/g.typ.kind=3)->bu g.typ.kind s=trR s):=⟨fun h=>if_pos h,fun h=>if_neg h⟩
 have he1:(rdR g.typ (bu g.typ.kind s)).2=0->wp g.typ (rdR g.typ (bu g.typ.kind s)).1=true->xK g.typ (rdR g.typ (bu g.typ.kind s))=0:=fun a b=>by unfold xK;rw[if_pos a,if_pos b]
 have he2:(rdR g.typ (bu g.typ.kind s)).2=0->wp g.typ (rdR g.typ (bu g.typ.kind s)).1=false->xK g.typ (rdR g.typ (bu g.typ.kind s))=18:=fun a b=>by unfold xK;rw[if_pos a,if_neg (by rw[b];decide)]
 have he3:¬ (rdR g.typ (bu g.typ.kind s)).2=0->xK g.typ (rdR g.typ (bu g.typ.kind s))=(rdR g.typ (bu g.typ.kind s)).2:=fun a=>if_neg a
 obtain⟨v1,v2,v3,v4,hV⟩:=Hi g.typ.kind (rdR g.typ (bu g.typ.kind s))
 rw[hV] at hrd hft ⊢
 generalize wp g.typ (rdR g.typ (bu g.typ.kind s)).1=F at *
 generalize xK g.typ (rdR g.typ (bu g.typ.kind s))=E at *
 generalize (rdR g.typ (bu g.typ.kind s)).2=z at *
 clear hV
 generalize bu g.typ.kind s=u at *
 obtain⟨n,nm,nd,⟨k,m,M,sc,w,e,f⟩,d⟩:=g
 simp only[TFd.typ,Typ.kind,Typ.pv_mk,jd] at *
 have hc:k=2\/k=3\/¬ k=2/\¬ k=3:=by omega
 refine ag.intro Q53.2 (by simp[Q53]) ?_
 rcases hc with rfl | rfl | ⟨n2,n3⟩
 case' inl=>
  rw[<- hst.1 (.inl rfl)] at hL
  simp(disch:=try exact dI) only[Q53,TFd.pv_mk,Typ.pv_mk,am,List.cons_append,List.nil_append,push_cast,seval]
  refine ab.pure hL rfl ?_
 case' inr.inl=>
  rw[<- hst.1 (.inr rfl)] at hL
  simp(disch:=try exact dI) only[Q53,TFd.pv_mk,Typ.pv_mk,am,List.cons_append,List.nil_append,push_cast,seval]
  refine ab.pure hL rfl ?_
 case' inr.inr=>
  rw[<- hst.2 (fun h=>h.elim n2 n3)] at hR
  simp(disch:=try exact dI) only[Q53,TFd.pv_mk,Typ.pv_mk,am,List.cons_append,List.nil_append,n2,n3,push_cast,seval]
  refine ab.pure hR rfl ?_
 all_goals
  simp(disch:=try exact dI) only[h0,push_cast,seval]
  refine ab.pure hrd rfl ?_
  by_cases hz:z=0
  ·subst hz
   refine zgZ ?_
   refine ab.pure (hft rfl) rfl ?_
   cases F with
   | true=>
     obtain rfl:=he1 rfl rfl
     exact qsZ
   | false=>
     obtain rfl:=he2 rfl rfl
     exact qsZ
  ·obtain rfl:=he3 hz
   simp(disch:=try exact dI) only[hz,push_cast,seval]
theorem Om {T:Nat}{p:PV}(g:TFd)(h:CellOk g)(s:List UInt8)(hs:s.length<=1000000):ag Tryz.prog (dN T p) 53 [.str s,g.pv] (.tup [Lh g s,.int .i64 (lm g s)]):=by
 unfold Lh lm
 by_cases h0:bu g.typ.kind s=[]
 ·rw[if_pos h0,if_pos h0];exact GK g h s hs h0
 ·rw[if_neg h0,if_neg h0];exact GJ g h s hs h0
end Go.Proofs.YtbojpfpliibfbaaGreatDoor
/-
 DERIVED: THE SHELF's CONTRACTS AT THIS DUMP,IN PLAIN WORDS (tools/lay-plain.mjs out of 'TryzC9.lean',which tools/lay-shelf.mjs wrote): THE SAME DECLARATIONS UNDER THE SAME NAMES: 'import','namespace','open','def','theorem' AND NOTHING ELSE: no command of the shelf's: FOR A HAND-IN. Each laying: the table of numbers ('.._ren') and one theorem,a field a fact of the dump's own or the kernel's comparison;each jB: ONE APPLICATION.
-/
namespace Go.Proofs
open Go.Shelf
def Tryz.sortF_ren:Go.Shelf.Ren:=⟨fun | 6=>111 | 15=>171 | 14=>170 | 28=>223 | 29=>224 | 20=>215 | 21=>216 | 22=>217 | 23=>218 | 24=>219 | 25=>220 | 26=>221 | 27=>222 | 46=>253 | 47=>254 | 48=>255 | 49=>256 | 50=>257 | 57=>281 | n=>n,fun | 22=>34 | 24=>60 | 25=>143 | 3=>3 | 39=>129 | 0=>0 | 53=>166 | 55=>169 | 4=>4 | 46=>220 | 45=>219 | 50=>193 | 5=>5 | 9=>9 | 66=>249 | 70=>113 | 76=>267 | 77=>176 | n=>n,fun | n=>n⟩
theorem Tryz.sortF:Go.Proofs.SlLaysF0.n6 Tryz.prog Tryz.sortF_ren:={
 mixed:=by kernel_rfl
 f6:=⟨Tryz.f111.name,by decide,Tryz.func111.trans (congrArg some (by kernel_rfl))⟩
 f14:=⟨Tryz.f170.name,by decide,Tryz.func170.trans (congrArg some (by kernel_rfl))⟩
 f15:=Tryz.func171.trans (congrArg some (by kernel_rfl))
 f20:=⟨Tryz.f215.name,by decide,Tryz.func215.trans (congrArg some (by kernel_rfl))⟩
 f21:=⟨Tryz.f216.name,by decide,Tryz.func216.trans (congrArg some (by kernel_rfl))⟩
 f22:=⟨Tryz.f217.name,by decide,Tryz.func217.trans (congrArg some (by kernel_rfl))⟩
 f23:=⟨Tryz.f218.name,by decide,Tryz.func218.trans (congrArg some (by kernel_rfl))⟩
 f24:=⟨Tryz.f219.name,by decide,Tryz.func219.trans (congrArg some (by kernel_rfl))⟩
 f25:=⟨Tryz.f220.name,by decide,Tryz.func220.trans (congrArg some (by kernel_rfl))⟩
 f26:=⟨Tryz.f221.name,by decide,Tryz.func221.trans (congrArg some (by kernel_rfl))⟩
 f27:=⟨Tryz.f222.name,by decide,Tryz.func222.trans (congrArg some (by kernel_rfl))⟩
 f28:=Tryz.func223.trans (congrArg some (by kernel_rfl))
 f29:=Tryz.func224.trans (congrArg some (by kernel_rfl))
 f46:=⟨Tryz.f253.name,by decide,Tryz.func253.trans (congrArg some (by kernel_rfl))⟩
 f47:=Tryz.func254.trans (congrArg some (by kernel_rfl))
 f48:=Tryz.func255.trans (congrArg some (by kernel_rfl))
 f49:=⟨Tryz.f256.name,by decide,Tryz.func256.trans (congrArg some (by kernel_rfl))⟩
 f50:=⟨Tryz.f257.name,by decide,Tryz.func257.trans (congrArg some (by kernel_rfl))⟩
 f57:=⟨Tryz.f281.name,by decide,Tryz.func281.trans (congrArg some (by kernel_rfl))⟩
 t0:=Tryz.underlying0
 a0:=Tryz.isAgg0
 z0:=Tryz.sizeOf0
 v0:=Tryz.zeroValue0
 t3:=Tryz.underlying3
 a3:=Tryz.isAgg3
 z3:=Tryz.sizeOf3
 v3:=Tryz.zeroValue3
 t4:=Tryz.underlying4
 a4:=Tryz.isAgg4
 z4:=Tryz.sizeOf4
 v4:=Tryz.zeroValue4
 t5:=Tryz.underlying5
 a5:=Tryz.isAgg5
 z5:=Tryz.sizeOf5
 v5:=Tryz.zeroValue5
 t9:=Tryz.underlying9
 a9:=Tryz.isAgg9
 z9:=Tryz.sizeOf9
 v9:=Tryz.zeroValue9
 t22:=Tryz.underlying34
 a22:=Tryz.isAgg34
 z22:=Tryz.sizeOf34
 v22:=Tryz.zeroValue34
 t25:=Tryz.underlying143
 a25:=Tryz.isAgg143
 z25:=Tryz.sizeOf143
 v25:=Tryz.zeroValue143
 t39:=Tryz.underlying129
 a39:=Tryz.isAgg129
 z39:=Tryz.sizeOf129
 v39:=Tryz.zeroValue129
 t45:=Tryz.underlying219
 a45:=Tryz.isAgg219
 z45:=Tryz.sizeOf219
 v45:=Tryz.zeroValue219
 t46:=Tryz.underlying220
 a46:=Tryz.isAgg220
 z46:=Tryz.sizeOf220
 v46:=Tryz.zeroValue220
 t50:=Tryz.underlying193
 a50:=Tryz.isAgg193
 z50:=Tryz.sizeOf193
 v50:=Tryz.zeroValue193
 t53:=Tryz.underlying166
 a53:=Tryz.isAgg166
 z53:=Tryz.sizeOf166
 v53:=Tryz.zeroValue166
 t55:=Tryz.underlying169
 a55:=Tryz.isAgg169
 z55:=Tryz.sizeOf169
 v55:=Tryz.zeroValue169
 t66:=Tryz.underlying249
 a66:=Tryz.isAgg249
 z66:=Tryz.sizeOf249
 v66:=Tryz.zeroValue249
 t70:=Tryz.underlying113
 a70:=Tryz.isAgg113
 z70:=Tryz.sizeOf113
 v70:=Tryz.zeroValue113
 t76:=Tryz.underlying267
 a76:=Tryz.isAgg267
 z76:=Tryz.sizeOf267
 v76:=Tryz.zeroValue267
 t77:=Tryz.underlying176
 a77:=Tryz.isAgg176
 z77:=Tryz.sizeOf176
 v77:=Tryz.zeroValue176 }
end Go.Proofs
namespace Go.Proofs.YtbojpfpliibfbaaGreatDoor
open Go Go.Proofs Go.Shelf Go.RowKit Go.Lib Go.Sort
structure FldC where
 name:ByteArray
 c1:Value
 c2:Value
 c3:Value
 c4:Value
 c5:Value
 c6:Value
 one:c1.oneCell'=true/\c2.oneCell'=true/\c3.oneCell'=true/\c4.oneCell'=true/\c5.oneCell'=true/\c6.oneCell'=true
instance:Inhabited FldC:=⟨⟨.empty,.int .i64 0,.int .i64 0,.int .i64 0,.int .i64 0,.int .i64 0,.int .i64 0,by decide⟩⟩
def xM (x:FldC):List Value:=[.string x.name,x.c1,x.c2,x.c3,x.c4,x.c5,x.c6]
def QO (x y:FldC):Int:=Lib.compareBytes x.name.data.toList y.name.data.toList
theorem wW (x y:FldC)(W:World):Calls Tryz.prog 112 #[.agg (xM x).toArray,.agg (xM y).toArray] W fun e w'=>e = .returned (.int .i64 (QO x y))/\∃ q os',w'=grow (W.drewN q) os':=by
 obtain⟨s,a1,a2,a3,a4,a5,a6,ha⟩:=x
 obtain⟨t,b1,b2,b3,b4,b5,b6,hb⟩:=y
 have hcon:=fun W'=>Tryz.strings_Compare s t W'
 simp only[xM,QO]
 generalize Lib.compareBytes s.data.toList t.data.toList=r at hcon ⊢
 go_enter Tryz.func112,Tryz.ntmps112
 go_wp2_with (go_at_call 113;refine (hcon _).mono ?_;rintro e w' ⟨rfl,rfl⟩)
 go_ret
 exact⟨rfl,0,_,by rw[alloc_eq_grow,alloc_eq_grow,grow_grow];rfl⟩
open Go.Ab
def LZ:Fld:=.mk [] (.mk 0 0 0 [] [] [])
def nmL (l:List Fld)(i:Nat):List UInt8:=(l.getD i LZ).name
def cfL (l:List Fld)(i j:Nat):Int:=Lib.compareBytes (nmL l i) (nmL l j)
def lq (l:List Fld):Array Nat:=Sort.pdq (Go.Proofs.ltOf (cfL l)) (Array.range l.length) 0 (Array.range l.length).size (Lib.bitLen (Array.range l.length).size) true true
def srt (l:List Fld):List Fld:=(lq l).toList.map fun i=>l.getD i LZ
theorem gS:∀ (a b c:List UInt8),Lib.compareBytes a b<0->Lib.compareBytes b c<0->Lib.compareBytes a c<0
 | [],b,[],h1,h2=>by
   cases b with
   | nil=>exact h2
   | cons x q=>simp[Lib.compareBytes] at h2
 | [],b,z::r,h1,h2=>by simp[Lib.compareBytes]
 | x::p,[],c,h1,h2=>by simp[Lib.compareBytes] at h1
 | x::p,y::q,[],h1,h2=>by simp[Lib.compareBytes] at h2
 | x::p,y::q,z::r,h1,h2=>by
   have ih:=gS p q r
   simp only[Lib.compareBytes,UInt8.lt_iff_toNat_lt] at *
   repeat' split at h1
   all_goals repeat' split at h2
   all_goals repeat' split
   all_goals first | omega | exact ih h1 h2 | (exfalso;omega)
theorem py:∀ (a b c:List UInt8),¬ Lib.compareBytes a b<0->¬ Lib.compareBytes b c<0->¬ Lib.compareBytes a c<0
 | [],[],c,h1,h2=>h2
 | [],y::q,c,h1,h2=>by simp[Lib.compareBytes] at h1
 | x::p,b,[],h1,h2=>by simp[Lib.compareBytes]
 | x::p,[],z::r,h1,h2=>by simp[Lib.compareBytes] at h2
 | x::p,y::q,z::r,h1,h2=>by
   have ih:=py p q r
   simp only[Lib.compareBytes,UInt8.lt_iff_toNat_lt] at *
   repeat' split at h1
   all_goals repeat' split at h2
   all_goals repeat' split
   all_goals first | omega | exact ih h1 h2 | (exfalso;omega)
theorem iL:∀ a:List UInt8,Lib.compareBytes a a=0
 | []=>rfl
 | x::p=>by
   have:=iL p
   simp only[Lib.compareBytes,UInt8.lt_iff_toNat_lt]
   rw[if_neg (by omega),if_neg (by omega)];exact this
theorem PT (l:List Fld):Sort.SWO (Go.Proofs.ltOf (cfL l)) where
 irrefl x:=decide_eq_false (by rw[cfL,iL];decide)
 trans x y z h1 h2:=decide_eq_true (gS _ _ _ (of_decide_eq_true h1) (of_decide_eq_true h2))
 ntrans x y z h1 h2:=decide_eq_false (py _ _ _ (of_decide_eq_false h1) (of_decide_eq_false h2))
theorem j3 (l:List Fld):(lq l).toList.Perm (List.range l.length):=by
 have h:=(Sort.pdq_sorts (Go.Proofs.ltOf (cfL l)) (PT l) (Array.range l.length) 0 (Array.range l.length).size (Lib.bitLen (Array.range l.length).size) true true (Nat.zero_le _) (Nat.le_refl _) (Or.inl rfl)).1
 obtain⟨h1,_,h3⟩:=h
 have e1:(lq l).size=(Array.range l.length).size:=h1
 have h4:((lq l).extract 0 (Array.range l.length).size).toList.Perm ((Array.range l.length).extract 0 (Array.range l.length).size).toList:=h3
 simp only[Array.size_range] at e1
 simp only[Array.size_range,Array.toList_extract,List.extract_eq_take_drop,List.drop_zero,Nat.sub_zero,Array.toList_range] at h4
 rw[List.take_of_length_le (by simp[e1]),List.take_of_length_le (by simp)] at h4
 exact h4
theorem qK (l:List Fld):Sort.SortedIn (Go.Proofs.ltOf (cfL l)) 0 (Array.range l.length).size (lq l):=
 (Sort.pdq_sorts (Go.Proofs.ltOf (cfL l)) (PT l) (Array.range l.length) 0 (Array.range l.length).size (Lib.bitLen (Array.range l.length).size) true true (Nat.zero_le _) (Nat.le_refl _) (Or.inl rfl)).2
theorem dR (l:List Fld):(lq l).size=l.length:=by
 have:=(j3 l).length_eq
 simpa using this
theorem fR (l:List Fld):(srt l).length=l.length:=by
 unfold srt;rw[List.length_map,Array.length_toList,dR]
theorem lr:∀ (l:List Fld),(List.range l.length).map (fun i=>l.getD i LZ)=l:=by
 intro l
 apply List.ext_getElem
 ·simp
 ·intro i h1 h2
  simp[List.getD_eq_getElem?_getD,List.getElem?_eq_getElem h2]
theorem fl (l:List Fld):(srt l).Perm l:=by
 have:=(j3 l).map fun i=>l.getD i LZ
 rwa [lr] at this
theorem uN (l:List Fld)(i j:Nat)(x y:Fld)(hij:i<j)(hx:(srt l)[i]? = some x)(hy:(srt l)[j]? = some y):¬ Lib.compareBytes y.name x.name<0:=by
 have hj:j<(lq l).size:=by
  have:=(List.getElem?_eq_some_iff.1 hy).1
  rw[fR] at this;rw[dR];exact this
 have hs:=qK l i j (Nat.zero_le _) hij (by simp;rw[<- dR];exact hj)
 unfold srt at hx hy
 rw[List.getElem?_map,Option.map_eq_some_iff] at hx hy
 obtain⟨a,ha,rfl⟩:=hx
 obtain⟨b,hb,rfl⟩:=hy
 have ea:(lq l)[i]! = a:=by
  have:(lq l)[i]? = some a:=by simpa using ha
  rw[getElem!_def,this]
 have eb:(lq l)[j]! = b:=by
  have:(lq l)[j]? = some b:=by simpa using hb
  rw[getElem!_def,this]
 rw[ea,eb] at hs
 simpa[Go.Proofs.ltOf,cfL,nmL] using hs
end Go.Proofs.YtbojpfpliibfbaaGreatDoor

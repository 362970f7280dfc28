/- A part of the proof for LiteralReadsCardSaid. -/
import Derived.Test.YtamoeblcphjbaaaGreatDoorRdLK13
import Derived.Test.YtamoeblcphjbaaaGreatDoorRdLC1
import Derived.Test.YtamoeblcphjbaaaGreatDoorCore6
import Derived.Stop.LaidErr
import Derived.Test.YtamoeblcphjbaaaGreatDoorRdLSh2
set_option maxRecDepth 100000
set_option linter.unusedVariables false
set_option linter.unusedSimpArgs false
-- many steps
namespace Go.Proofs.YtamoeblcphjbaaaGreatDoor
open Go Go.Ab Go.RowKit
attribute [local irreducible] vc
def sW (g:Val→Int):Int→List Val→Int
 | a,[]=>a
 | a,x::r=>sW g (IntKind.i64.wrap (a+g x)) r
theorem p5 (g:Val→Int)(x:Val):∀ (l:List Val) (a:Int),sW g a (l++[x])=IntKind.i64.wrap (sW g a l+g x)
 | [],a=>rfl
 | y::r,a=>by rw[List.cons_append,sW,p5 g x r];rfl
def mo:Nat→Val→Int
 | 0,_=>0
 | n+1,v=>sW (mo n) (sW (mo n) 1 v.lst) (v.fields.map Fld.value)
set_option maxHeartbeats 4000000 in
theorem yb:∀ (n:Nat) (v:Val),kU n v→v.ok→aq Tryz.prog aF 35 [v.pv] (.int .i64 (mo n v))
 | 0,_,h,_=>h.elim
 | n+1,v,h,hv=>by
   have ih1:∀ x∈v.lst,aq Tryz.prog aF 35 [x.pv] (.int .i64 (mo n x)):=fun x hx=>yb n x (h.1 x hx) (GK hv x hx)
   have ih2:∀ x∈v.fields,aq Tryz.prog aF 35 [x.value.pv] (.int .i64 (mo n x.value)):=fun x hx=>yb n x.value (h.2 x hx) (GR hv x hx)
   obtain⟨k,m,s,t,l,fs⟩:=v
   rw[mo]
   simp only[Val.lst,Val.fields] at ih1 ih2 ⊢
   rw[Val.ok_mk] at hv
   have hl1:l.length*88≤140737488351232:=hv.2.2.2.2.1
   have hl2:fs.length*104≤140737488351232:=hv.2.2.2.2.2.2.1
   clear hv h
   generalize mo n=g at *
   refine aq.intro Oj (by simp[F35]) ?_
   simp(disch:=try exact dI) only[F35,Val.pv_mk,push_cast,seval]
   refine aQ ([]) (fun i:Nat=>[(3,.pv (.int .i64 (sW g 1 (l.take i)))),(4,.pv (.int .i64 (i:Int)))]) (fun _=>[]) (fun i=>i≤l.length) (fun i=>l.length - i) (0) ?_;intro e0 σ0 n0 h0;simp(disch:=try exact dI) only[push_cast,seval] at h0;obtain⟨rfl,rfl,rfl⟩:=h0;refine⟨?_,?_,?_⟩
   ·simp(disch:=try exact dI) only[push_cast,seval]
    try exact .refl _
   ·omega
   ·rintro i hi
    by_cases hlt:i<l.length
    ·have hltI:(i:Int)<(l.length:Int):=by omega
     obtain⟨x,hx⟩:∃ x,l[i]? = some x:=⟨_,List.getElem?_eq_getElem hlt⟩
     have hx':(l.map Val.pv)[i]? = some x.pv:=by simp[hx]
     have hc:=ih1 x (List.mem_of_getElem? hx)
     have hts:sW g 1 (l.take (i+1))=IntKind.i64.wrap (sW g 1 (l.take i)+g x):=by rw[aR hx,p5]
     generalize g x=X at *
     obtain⟨xk,xn,xs,xt,xl,xf⟩:=x
     simp only[Val.pv_mk] at hx' hc
     simp(disch:=try exact dI) only[hltI,hx',push_cast,seval]
     refine ab.pure hc rfl ?_
     simp(disch:=try exact dI) only[push_cast,seval]
     exact⟨i+1,bA (by simp(disch:=try exact dI) only[hts,push_cast,seval]),by omega,by omega⟩
    ·have hltI:¬ (i:Int)<(l.length:Int):=by omega
     obtain rfl:i=l.length:=by omega
     rw[List.take_length]
     generalize sW g 1 l=D at *
     simp(disch:=try exact dI) only[hltI,push_cast,seval]
     refine aQ ([]) (fun i:Nat=>[(3,.pv (.int .i64 (sW g D ((fs.take i).map Fld.value)))),(5,.pv (.int .i64 (i:Int)))]) (fun _=>[]) (fun i=>i≤fs.length) (fun i=>fs.length - i) (0) ?_;intro e0 σ0 n0 h0;simp(disch:=try exact dI) only[push_cast,seval] at h0;obtain⟨rfl,rfl,rfl⟩:=h0;refine⟨?_,?_,?_⟩
     ·simp(disch:=try exact dI) only[push_cast,seval]
      try exact .refl _
     ·omega
     ·rintro i hi
      by_cases hlt:i<fs.length
      ·have hltI:(i:Int)<(fs.length:Int):=by omega
       obtain⟨x,hx⟩:∃ x,fs[i]? = some x:=⟨_,List.getElem?_eq_getElem hlt⟩
       have hx':(fs.map Fld.pv)[i]? = some x.pv:=by simp[hx]
       have hc:=ih2 x (List.mem_of_getElem? hx)
       have hts:sW g D ((fs.take (i+1)).map Fld.value)=IntKind.i64.wrap (sW g D ((fs.take i).map Fld.value)+g x.value):=by rw[aR hx,List.map_append,List.map_cons,List.map_nil,p5]
       generalize g x.value=X at *
       obtain⟨nm,x⟩:=x
       simp only[Fld.value] at hc
       obtain⟨xk,xn,xs,xt,xl,xf⟩:=x
       simp only[Fld.pv_mk,Val.pv_mk] at hx' hc
       simp(disch:=try exact dI) only[hltI,hx',push_cast,seval]
       refine ab.pure hc rfl ?_
       simp(disch:=try exact dI) only[push_cast,seval]
       exact⟨i+1,bA (by simp(disch:=try exact dI) only[hts,push_cast,seval]),by omega,by omega⟩
      ·have hltI:¬ (i:Int)<(fs.length:Int):=by omega
       obtain rfl:i=fs.length:=by omega
       rw[List.take_length]
       simp(disch:=try exact dI) only[hltI,push_cast,seval]
end Go.Proofs.YtamoeblcphjbaaaGreatDoor
-- many steps
namespace Go.Proofs.YtamoeblcphjbaaaGreatDoor
open Go Go.Ab Go.RowKit
attribute [local irreducible] vc
def x9 (n:Nat)(v:Val):Bool:=decide (gM n v≤12)&&decide (mo n v≤400)
theorem HJ (n:Nat)(v:Val)(h:kU n v)(hv:v.ok):aq Tryz.prog aF 13 [v.pv] (.bool (x9 n v)):=by
 have h34:=rt n v h hv
 have h35:=yb n v h hv
 unfold x9
 generalize gM n v=D at *
 generalize mo n v=S at *
 obtain⟨k,m,s,t,l,fs⟩:=v
 simp only[Val.pv_mk] at h34 h35 ⊢
 refine aq.intro OK (by simp[F13]) ?_
 by_cases hD:D≤12
 ·by_cases hS:S≤400
  ·rw[decide_eq_true hD,decide_eq_true hS]
   simp(disch:=try exact dI) only[F13,push_cast,seval]
   refine ab.pure h34 rfl ?_
   simp(disch:=try exact dI) only[hD,push_cast,seval]
   refine ab.pure h35 rfl ?_
   simp(disch:=try exact dI) only[hS,push_cast,seval]
  ·rw[decide_eq_true hD,decide_eq_false hS]
   simp(disch:=try exact dI) only[F13,push_cast,seval]
   refine ab.pure h34 rfl ?_
   simp(disch:=try exact dI) only[hD,push_cast,seval]
   refine ab.pure h35 rfl ?_
   simp(disch:=try exact dI) only[hS,push_cast,seval]
 ·rw[decide_eq_false hD,Bool.false_and]
  simp(disch:=try exact dI) only[F13,push_cast,seval]
  refine ab.pure h34 rfl ?_
  simp(disch:=try exact dI) only[hD,push_cast,seval]
end Go.Proofs.YtamoeblcphjbaaaGreatDoor
-- many steps
namespace Go.Proofs.YtamoeblcphjbaaaGreatDoor
open Go Go.Ab Go.RowKit
attribute [local irreducible] vc
noncomputable def lvl (v:Val):Nat:=(iF v).choose
theorem ip (v:Val):kU (lvl v) v:=(iF v).choose_spec
noncomputable def txt (v:Val):List UInt8:=aw (lvl v) v
theorem zZ (v:Val):∃ f,lvl v=f+1:=by
 have:=ip v
 cases h:lvl v with
 | zero=>rw[h] at this;exact this.elim
 | succ f=>exact⟨f,rfl⟩
theorem rz (v:Val):Bz v=lV 0 (bl (lvl v) 1 v):=rfl
theorem Pm {v:Val}(hv:v.ok)(hc:Bz v=0):aq Tryz.prog aF 14 [v.pv] (.tup [.str (Le (txt v)),.int .i64 (Lf (txt v))]):=by
 obtain⟨f,hf⟩:=zZ v
 have hd:=gN _ v (ip v)
 have hc':=rz v
 unfold txt
 rw[hf] at hd hc' ⊢
 have:=Lx hd hv
 rw[← hc',hc,if_pos (.inl rfl)] at this
 exact this
theorem IG {v:Val}(hc:Bz v=0):bW v=false:=by
 obtain⟨f,hf⟩:=zZ v
 have hc':=rz v
 rw[hf,hc] at hc'
 have hs:=sf hc'.symm (1,v) (by rw[bl];exact List.mem_cons_self)
 cases hn:bW v with
 | false=>rfl
 | true=>
   have:=ow hn
   have:=hs.1.1
   simp only at this
   omega
theorem xE {v:Val}(hc:Bz v=0)(hl:(txt v).length≤65536):j2 (txt v)=(v,0,0):=
 qE (gN _ v (ip v)) (sf ((rz v).symm.trans hc)) hl hc (IG hc)
section
variable {T:Nat}{p:PV}
set_option maxHeartbeats 2000000 in
theorem Rq (v:Val)(hv:v.ok):aq Tryz.prog (dD T p) 4 [v.pv] (.bool true):=by
 have hk:=toE (T:=T) (p:=p) I9
 have hsm:=toE (T:=T) (p:=p) (HJ _ v (ip v) hv)
 have h15:=toE (T:=T) (p:=p) (By v hv)
 have h14:=fun hc=>toE (T:=T) (p:=p) (Pm hv hc)
 have h18:=Iw (T:=T) (p:=p) (txt v)
 have hpt:=xE (v:=v)
 have he:=toE (T:=T) (p:=p) (JB _ v v (ip v) hv hv)
 rw[decide_eq_true ((pm _ v v (ip v)).2 rfl)] at he
 generalize x9 (lvl v) v=sm at *
 generalize txt v=X at *
 by_cases hc:Bz v=0
 ·have h14:=h14 hc
  have hpt:=hpt hc
  rw[hc] at h15
  clear hv hc
  unfold Le Lf at h14
  by_cases hx:65536<X.length
  ·rw[if_pos hx,if_pos hx] at h14
   obtain⟨k,m,s,t,l,fs⟩:=v
   simp only[Val.pv_mk] at h14 h15 hsm ⊢
   refine aq.intro Ka (by simp[F4]) ?_
   cases sm with
   | false=>
     simp(disch:=try exact dI) only[F4,push_cast,seval]
     refine ab.pure hk rfl ?_
     simp(disch:=try exact dI) only[push_cast,seval]
     refine ab.pure hsm rfl ?_
     simp(disch:=try exact dI) only[push_cast,seval]
     refine ab.pure hk rfl ?_
     simp(disch:=try exact dI) only[push_cast,seval]
   | true=>
     simp(disch:=try exact dI) only[F4,push_cast,seval]
     refine ab.pure hk rfl ?_
     simp(disch:=try exact dI) only[push_cast,seval]
     refine ab.pure hsm rfl ?_
     simp(disch:=try exact dI) only[push_cast,seval]
     refine ab.pure h15 rfl ?_
     simp(disch:=try exact dI) only[push_cast,seval]
     refine ab.pure h14 rfl ?_
     simp(disch:=try exact dI) only[push_cast,seval]
  ·rw[if_neg hx,if_neg hx] at h14
   rw[hpt (by omega)] at h18
   obtain⟨k,m,s,t,l,fs⟩:=v
   simp only[Val.pv_mk] at h14 h15 hsm h18 he ⊢
   refine aq.intro Ka (by simp[F4]) ?_
   cases sm with
   | false=>
     simp(disch:=try exact dI) only[F4,push_cast,seval]
     refine ab.pure hk rfl ?_
     simp(disch:=try exact dI) only[push_cast,seval]
     refine ab.pure hsm rfl ?_
     simp(disch:=try exact dI) only[push_cast,seval]
     refine ab.pure hk rfl ?_
     simp(disch:=try exact dI) only[push_cast,seval]
   | true=>
     simp(disch:=try exact dI) only[F4,push_cast,seval]
     refine ab.pure hk rfl ?_
     simp(disch:=try exact dI) only[push_cast,seval]
     refine ab.pure hsm rfl ?_
     simp(disch:=try exact dI) only[push_cast,seval]
     refine ab.pure h15 rfl ?_
     simp(disch:=try exact dI) only[push_cast,seval]
     refine ab.pure h14 rfl ?_
     simp(disch:=try exact dI) only[push_cast,seval]
     refine ab.pure h18 rfl ?_
     simp(disch:=try exact dI) only[push_cast,seval]
     refine ab.pure he rfl ?_
     simp(disch:=try exact dI) only[push_cast,seval]
 ·generalize Bz v=c at *
  obtain⟨k,m,s,t,l,fs⟩:=v
  simp only[Val.pv_mk] at h15 hsm ⊢
  refine aq.intro Ka (by simp[F4]) ?_
  cases sm with
  | false=>
    simp(disch:=try exact dI) only[F4,push_cast,seval]
    refine ab.pure hk rfl ?_
    simp(disch:=try exact dI) only[push_cast,seval]
    refine ab.pure hsm rfl ?_
    simp(disch:=try exact dI) only[push_cast,seval]
    refine ab.pure hk rfl ?_
    simp(disch:=try exact dI) only[push_cast,seval]
  | true=>
    simp(disch:=try exact dI) only[F4,push_cast,seval]
    refine ab.pure hk rfl ?_
    simp(disch:=try exact dI) only[push_cast,seval]
    refine ab.pure hsm rfl ?_
    simp(disch:=try exact dI) only[push_cast,seval]
    refine ab.pure h15 rfl ?_
    simp(disch:=try exact dI) only[hc,push_cast,seval]
    refine ab.pure hk rfl ?_
    simp(disch:=try exact dI) only[push_cast,seval]
end
end Go.Proofs.YtamoeblcphjbaaaGreatDoor
namespace Go.Proofs.YtamoeblcphjbaaaGreatDoor
open Go Go.Ab
theorem DI (q:PV)(p0:PV)(h0:HasT Tryz.prog 25 p0):aq Tryz.prog (dD 270 q) 4 [p0] (.bool true):=by
 obtain⟨v,rfl,hv⟩:=Fc h0
 exact Rq v hv
end Go.Proofs.YtamoeblcphjbaaaGreatDoor
namespace Go.Proofs.YtamoeblcphjbaaaGreatDoor
open Go Go.Ab Go.Lib Go.Proofs
theorem u8X:U8Extra Tryz.prog Tryz.lays196_ren:=⟨by kernel_rfl,by kernel_rfl,by kernel_rfl,by kernel_rfl,by kernel_rfl,by kernel_rfl,by kernel_rfl⟩
theorem Fe {W:World}(h1:VarReads Tryz.prog W "unicode/utf8.first" firstData) (h2:VarReads Tryz.prog W "unicode/utf8.acceptRanges" acceptData)
  (h3:VarReads Tryz.prog W "internal/strconv.uint64pow10" (tabData .u64 pow10Tab)) (h5:VarReads Tryz.prog W "math/bits.deBruijn64tab" (tabData .u8 (deBruijn64tab.map fun n:Nat=>(n:Int)))):cw aF W (mK W):=by
 have hu:=utf8Tabs_of_readsT (U8Types.of196 Tryz.lays196) u8X h1 h2
 refine AI fun g hg=>?_
 unfold aF at hg ⊢
 by_cases e3:g=3
 ·subst e3
  exact ln (t:=219) (e:=181) (m:=20) h3 (by kernel_rfl) (by kernel_rfl) (by kernel_rfl) (by kernel_rfl) (by kernel_rfl) (by kernel_rfl) (by kernel_rfl)
 rw[if_neg e3] at hg ⊢
 by_cases e1:g=0
 ·subst e1
  rw[if_pos rfl] at hg ⊢
  refine mh (t:=159) (e:=5) (m:=256) h1 (by kernel_rfl) (by kernel_rfl) (by kernel_rfl) (by kernel_rfl) fun o p hp=>?_
  rw[OS,List.getElem?_map,Option.map_eq_some_iff] at hp
  obtain⟨c,hc,rfl⟩:=hp
  obtain⟨hlt,hcc⟩:=List.getElem?_eq_some_iff.1 hc
  simp at hlt hcc
  subst hcc
  exact⟨_,_,rfl,hu.1 o hlt⟩
 rw[if_neg e1] at hg ⊢
 by_cases e2:g=1
 ·subst e2
  rw[if_pos rfl] at hg ⊢
  refine mh (t:=162) (e:=161) (m:=16) h2 (by kernel_rfl) (by kernel_rfl) (by kernel_rfl) (by kernel_rfl) fun o p hp=>?_
  rw[K4,List.getElem?_map,Option.map_eq_some_iff] at hp
  obtain⟨c,hc,rfl⟩:=hp
  obtain⟨hlt,hcc⟩:=List.getElem?_eq_some_iff.1 hc
  simp at hlt hcc
  subst hcc
  have:=hu.2 (o / 2) (by omega)
  by_cases ho:o % 2=0
  ·rw[if_pos ho]
   refine⟨_,_,rfl,?_⟩
   have:=this.1
   rwa [show 2*(o / 2)=o by omega] at this
  ·rw[if_neg ho]
   refine⟨_,_,rfl,?_⟩
   have:=this.2
   rwa [show 2*(o / 2)+1=o by omega] at this
 rw[if_neg e2] at hg ⊢
 by_cases e5:g=5
 ·subst e5
  rw[if_pos rfl] at hg ⊢
  have:=ln (g:=5) (t:=257) (e:=5) (m:=64) h5 (by kernel_rfl) (by kernel_rfl) (by kernel_rfl) (by kernel_rfl) (by kernel_rfl) (by kernel_rfl) (by kernel_rfl)
  rw[List.map_map] at this
  exact this
 rw[if_neg e5] at hg
 exact absurd rfl hg
end Go.Proofs.YtamoeblcphjbaaaGreatDoor
namespace Go.Proofs.YtamoeblcphjbaaaGreatDoor
open Go Go.Ab Go.Lib Go.Proofs Go.RowKit Go.ChangeShapes
theorem LC : "*" ++ "errors.errorString" = "*errors.errorString":=by decide
theorem L0 (u:TypeId)(h:Tryz.prog.typeName? 3 u=some "*errors.errorString"):u=270:=
 typeName_ptr_named (nm:= "errors.errorString") (by rw[LC];kernel_rfl) (by kernel_rfl) (by decide) u (by rw[LC];exact h)
theorem MY {text:List UInt8}{r:List (String×DataW Unit)}{W:World}(h:laidMet Tryz.prog (("strconv.ErrSyntax",.iface "*errors.errorString" (.ptr (.agg [.lit (.string text)])))::r) W) :
  ∃ (a:Addr) (s:ByteArray),W.var? Tryz.prog "strconv.ErrSyntax" = some #[.iface 270 (.pointer (some a))]∧W.cell? a=some (.string s)∧s.data.toList=text∧s.size≤maxLen:=
 laid_sentinel h (g:=6) (ti:=85) (te:=272) (ts:=9) (by kernel_rfl) (by kernel_rfl) Tryz.underlying85 L0 Tryz.underlying270 Tryz.underlying272 rfl rfl Tryz.underlying9 (by kernel_rfl) (by kernel_rfl)
theorem AH {W:World}(h1:VarReads Tryz.prog W "unicode/utf8.first" firstData) (h2:VarReads Tryz.prog W "unicode/utf8.acceptRanges" acceptData)
  (h3:VarReads Tryz.prog W "internal/strconv.uint64pow10" (tabData .u64 pow10Tab)) (h5:VarReads Tryz.prog W "math/bits.deBruijn64tab" (tabData .u8 (deBruijn64tab.map fun n:Nat=>(n:Int))))
  (hE:∃ (a:Addr) (s:ByteArray),W.var? Tryz.prog "strconv.ErrSyntax" = some #[.iface 270 (.pointer (some a))]∧W.cell? a=some (.string s)):∃ p,cw (dD 270 p) W (mK W):=by
 obtain⟨⟨b,o,sp⟩,s,hv,hc⟩:=hE
 have hsp:sp=none:=by
  unfold World.cell? at hc
  cases sp with
  | none=>rfl
  | some k=>split at hc<;>simp at hc
 subst hsp
 have hg:Tryz.prog.globalNamed "strconv.ErrSyntax" = some 6:=by kernel_rfl
 have hcell:W.cell? ⟨6,0,none⟩=some (.iface 270 (.pointer (some ⟨b,o,none⟩))):=by
  have:=World.var?_cell hg hv 0
  simpa using this
 have hG:=Fe h1 h2 h3 h5
 refine⟨.gptr b o,fun g o' p hp=>?_,fun g hg'=>?_⟩
 ·unfold dD at hp
  by_cases e0:g=6
  ·subst e0
   rw[if_pos rfl] at hp
   cases o' with
   | zero=>cases hp;exact⟨World.block_lt_of_cell? W _ hcell,_,hcell,rfl,.iface _ _ _ (.gptr _ _)⟩
   | succ o'=>simp at hp
  ·rw[if_neg e0] at hp
   exact hG.1 g o' p hp
 ·unfold dD at hg' ⊢
  by_cases e0:g=6
  ·subst e0
   rw[if_pos rfl]
   unfold World.var? at hv
   rw[hg] at hv
   simp only[Option.bind_some] at hv
   split at hv
   ·rename_i cs T fz hh
    cases hv
    exact⟨_,T,fz,hh,rfl⟩
   ·cases hv
  ·rw[if_neg e0] at hg' ⊢
   exact hG.2 g hg'
end Go.Proofs.YtamoeblcphjbaaaGreatDoor

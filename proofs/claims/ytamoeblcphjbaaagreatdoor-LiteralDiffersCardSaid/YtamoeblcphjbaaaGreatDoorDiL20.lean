/- A part of the proof for LiteralDiffersCardSaid. -/
import Derived.Test.YtamoeblcphjbaaaGreatDoorDiLK13
import Derived.Test.YtamoeblcphjbaaaGreatDoorDiLC1
import Derived.Test.YtamoeblcphjbaaaGreatDoorCore6
set_option maxRecDepth 100000
set_option linter.unusedVariables false
set_option linter.unusedSimpArgs false
-- many steps
namespace Go.Proofs.YtamoeblcphjbaaaGreatDoor
open Go Go.Ab Go.RowKit
attribute [local irreducible] vc
def sW (g:Val→Int):Int→List Val→Int
 | a,[]=>a
 | a,x::r=>sW g (IntKind.i64.wrap (a+g x)) r
theorem my (g:Val→Int)(x:Val):∀ (l:List Val) (a:Int),sW g a (l++[x])=IntKind.i64.wrap (sW g a l+g x)
 | [],a=>rfl
 | y::r,a=>by rw[List.cons_append,sW,my g x r];rfl
def jC:Nat→Val→Int
 | 0,_=>0
 | n+1,v=>sW (jC n) (sW (jC n) 1 v.lst) (v.fields.map Fld.value)
set_option maxHeartbeats 4000000 in
theorem sM:∀ (n:Nat) (v:Val),iD n v→v.ok→aq Tryz.prog aC 35 [v.pv] (.int .i64 (jC n v))
 | 0,_,h,_=>h.elim
 | n+1,v,h,hv=>by
   have ih1:∀ x∈v.lst,aq Tryz.prog aC 35 [x.pv] (.int .i64 (jC n x)):=fun x hx=>sM n x (h.1 x hx) (Br hv x hx)
   have ih2:∀ x∈v.fields,aq Tryz.prog aC 35 [x.value.pv] (.int .i64 (jC n x.value)):=fun x hx=>sM n x.value (h.2 x hx) (Bx hv x hx)
   obtain⟨k,m,s,t,l,fs⟩:=v
   rw[jC]
   simp only[Val.lst,Val.fields] at ih1 ih2 ⊢
   rw[Val.ok_mk] at hv
   have hl1:l.length*88≤140737488351232:=hv.2.2.2.2.1
   have hl2:fs.length*104≤140737488351232:=hv.2.2.2.2.2.2.1
   clear hv h
   generalize jC n=g at *
   refine aq.intro HF (by simp[F35]) ?_
   simp(disch:=try exact dI) only[F35,Val.pv_mk,push_cast,seval]
   refine aX ([]) (fun i:Nat=>[(3,.pv (.int .i64 (sW g 1 (l.take i)))),(4,.pv (.int .i64 (i:Int)))]) (fun _=>[]) (fun i=>i≤l.length) (fun i=>l.length - i) (0) ?_;intro e0 σ0 n0 h0;simp(disch:=try exact dI) only[push_cast,seval] at h0;obtain⟨rfl,rfl,rfl⟩:=h0;refine⟨?_,?_,?_⟩
   ·simp(disch:=try exact dI) only[push_cast,seval]
    try exact .refl _
   ·omega
   ·rintro i hi
    by_cases hlt:i<l.length
    ·have hltI:(i:Int)<(l.length:Int):=by omega
     obtain⟨x,hx⟩:∃ x,l[i]? = some x:=⟨_,List.getElem?_eq_getElem hlt⟩
     have hx':(l.map Val.pv)[i]? = some x.pv:=by simp[hx]
     have hc:=ih1 x (List.mem_of_getElem? hx)
     have hts:sW g 1 (l.take (i+1))=IntKind.i64.wrap (sW g 1 (l.take i)+g x):=by rw[aQ hx,my]
     generalize g x=X at *
     obtain⟨xk,xn,xs,xt,xl,xf⟩:=x
     simp only[Val.pv_mk] at hx' hc
     simp(disch:=try exact dI) only[hltI,hx',push_cast,seval]
     refine ab.pure hc rfl ?_
     simp(disch:=try exact dI) only[push_cast,seval]
     exact⟨i+1,bX (by simp(disch:=try exact dI) only[hts,push_cast,seval]),by omega,by omega⟩
    ·have hltI:¬ (i:Int)<(l.length:Int):=by omega
     obtain rfl:i=l.length:=by omega
     rw[List.take_length]
     generalize sW g 1 l=D at *
     simp(disch:=try exact dI) only[hltI,push_cast,seval]
     refine aX ([]) (fun i:Nat=>[(3,.pv (.int .i64 (sW g D ((fs.take i).map Fld.value)))),(5,.pv (.int .i64 (i:Int)))]) (fun _=>[]) (fun i=>i≤fs.length) (fun i=>fs.length - i) (0) ?_;intro e0 σ0 n0 h0;simp(disch:=try exact dI) only[push_cast,seval] at h0;obtain⟨rfl,rfl,rfl⟩:=h0;refine⟨?_,?_,?_⟩
     ·simp(disch:=try exact dI) only[push_cast,seval]
      try exact .refl _
     ·omega
     ·rintro i hi
      by_cases hlt:i<fs.length
      ·have hltI:(i:Int)<(fs.length:Int):=by omega
       obtain⟨x,hx⟩:∃ x,fs[i]? = some x:=⟨_,List.getElem?_eq_getElem hlt⟩
       have hx':(fs.map Fld.pv)[i]? = some x.pv:=by simp[hx]
       have hc:=ih2 x (List.mem_of_getElem? hx)
       have hts:sW g D ((fs.take (i+1)).map Fld.value)=IntKind.i64.wrap (sW g D ((fs.take i).map Fld.value)+g x.value):=by rw[aQ hx,List.map_append,List.map_cons,List.map_nil,my]
       generalize g x.value=X at *
       obtain⟨nm,x⟩:=x
       simp only[Fld.value] at hc
       obtain⟨xk,xn,xs,xt,xl,xf⟩:=x
       simp only[Fld.pv_mk,Val.pv_mk] at hx' hc
       simp(disch:=try exact dI) only[hltI,hx',push_cast,seval]
       refine ab.pure hc rfl ?_
       simp(disch:=try exact dI) only[push_cast,seval]
       exact⟨i+1,bX (by simp(disch:=try exact dI) only[hts,push_cast,seval]),by omega,by omega⟩
      ·have hltI:¬ (i:Int)<(fs.length:Int):=by omega
       obtain rfl:i=fs.length:=by omega
       rw[List.take_length]
       simp(disch:=try exact dI) only[hltI,push_cast,seval]
end Go.Proofs.YtamoeblcphjbaaaGreatDoor
-- many steps
namespace Go.Proofs.YtamoeblcphjbaaaGreatDoor
open Go Go.Ab Go.RowKit
attribute [local irreducible] vc
def nX (n:Nat)(v:Val):Bool:=decide (e6 n v≤12)&&decide (jC n v≤400)
theorem sK (n:Nat)(v:Val)(h:iD n v)(hv:v.ok):aq Tryz.prog aC 13 [v.pv] (.bool (nX n v)):=by
 have h34:=nt n v h hv
 have h35:=sM n v h hv
 unfold nX
 generalize e6 n v=D at *
 generalize jC n v=S at *
 obtain⟨k,m,s,t,l,fs⟩:=v
 simp only[Val.pv_mk] at h34 h35 ⊢
 refine aq.intro HU (by simp[F13]) ?_
 by_cases hD:D≤12
 ·by_cases hS:S≤400
  ·rw[decide_eq_true hD,decide_eq_true hS]
   simp(disch:=try exact dI) only[F13,push_cast,seval]
   refine ab.pure h34 rfl ?_
   simp(disch:=try exact dI) only[hD,push_cast,seval]
   refine ab.pure h35 rfl ?_
   simp(disch:=try exact dI) only[hS,push_cast,seval]
  ·rw[decide_eq_true hD,decide_eq_false hS]
   simp(disch:=try exact dI) only[F13,push_cast,seval]
   refine ab.pure h34 rfl ?_
   simp(disch:=try exact dI) only[hD,push_cast,seval]
   refine ab.pure h35 rfl ?_
   simp(disch:=try exact dI) only[hS,push_cast,seval]
 ·rw[decide_eq_false hD,Bool.false_and]
  simp(disch:=try exact dI) only[F13,push_cast,seval]
  refine ab.pure h34 rfl ?_
  simp(disch:=try exact dI) only[hD,push_cast,seval]
end Go.Proofs.YtamoeblcphjbaaaGreatDoor
-- many steps
namespace Go.Proofs.YtamoeblcphjbaaaGreatDoor
open Go Go.Ab Go.RowKit
attribute [local irreducible] vc
noncomputable def lvl (v:Val):Nat:=(fD v).choose
theorem ey (v:Val):iD (lvl v) v:=(fD v).choose_spec
noncomputable def txt (v:Val):List UInt8:=am (lvl v) v
theorem uL (v:Val):∃ f,lvl v=f+1:=by
 have:=ey v
 cases h:lvl v with
 | zero=>rw[h] at this;exact this.elim
 | succ f=>exact⟨f,rfl⟩
theorem nw (v:Val):o7 v=jm 0 (aV (lvl v) 1 v):=rfl
theorem E6 {v:Val}(hv:v.ok)(hc:o7 v=0):aq Tryz.prog aC 14 [v.pv] (.tup [.str (ES (txt v)),.int .i64 (ET (txt v))]):=by
 obtain⟨f,hf⟩:=uL v
 have hd:=e7 _ v (ey v)
 have hc':=nw v
 unfold txt
 rw[hf] at hd hc' ⊢
 have:=E8 hd hv
 rw[← hc',hc,if_pos (.inl rfl)] at this
 exact this
theorem Di {v:Val}(hc:o7 v=0):bx v=false:=by
 obtain⟨f,hf⟩:=uL v
 have hc':=nw v
 rw[hf,hc] at hc'
 have hs:=nW hc'.symm (1,v) (by rw[aV];exact List.mem_cons_self)
 cases hn:bx v with
 | false=>rfl
 | true=>
   have:=ld hn
   have:=hs.1.1
   simp only at this
   omega
theorem kq {v:Val}(hc:o7 v=0)(hl:(txt v).length≤65536):tW (txt v)=(v,0,0):=
 mQ (e7 _ v (ey v)) (nW ((nw v).symm.trans hc)) hl hc (Di hc)
theorem B6 {v w:Val}(hv:o7 v=0)(hw:o7 w=0)(hl:(txt v).length≤65536)(h:txt v=txt w):v=w:=by
 have h1:=kq hv hl
 have h2:=kq hw (by rw[← h];exact hl)
 rw[h,h2] at h1
 exact (congrArg Prod.fst h1).symm
section
variable {T:Nat}{p:PV}
end
end Go.Proofs.YtamoeblcphjbaaaGreatDoor
-- many steps
namespace Go.Proofs.YtamoeblcphjbaaaGreatDoor
open Go Go.Ab Go.RowKit
attribute [local irreducible] vc
section
variable {T:Nat}{p:PV}
set_option maxHeartbeats 4000000 in
theorem J4 (v w:Val)(hv:v.ok)(hw:w.ok):aq Tryz.prog (sr T p) 7 [v.pv,w.pv] (.bool true):=by
 have hk:=toE (T:=T) (p:=p) DH
 have hsv:=toE (T:=T) (p:=p) (sK _ v (ey v) hv)
 have hsw:=toE (T:=T) (p:=p) (sK _ w (ey w) hw)
 have cv:=toE (T:=T) (p:=p) (vY v hv)
 have cw:=toE (T:=T) (p:=p) (vY w hw)
 have tv:=fun hc=>toE (T:=T) (p:=p) (E6 hv hc)
 have tw:=fun hc=>toE (T:=T) (p:=p) (E6 hw hc)
 have inj:=B6 (v:=v) (w:=w)
 have he:=toE (T:=T) (p:=p) (D2 _ v w (ey v) hv hw)
 have hz:=lU _ v w (ey v)
 have heq:v=w→txt v=txt w:=fun h=>by rw[h]
 generalize nX (lvl v) v=a at *
 generalize nX (lvl w) w=b at *
 generalize lV (lvl v) v w=C at *
 generalize txt v=X at *
 generalize txt w=Y at *
 unfold ES ET at tv tw
 cases a with
 | false=>
   obtain⟨k,m,s,t,l,fs⟩:=v
   obtain⟨k',m',s',t',l',fs'⟩:=w
   simp only[Val.pv_mk] at hsv ⊢
   refine aq.intro ke (by simp[F7]) ?_
   simp(disch:=try exact dI) only[F7,push_cast,seval]
   refine ab.pure hk rfl ?_
   simp(disch:=try exact dI) only[push_cast,seval]
   refine ab.pure hsv rfl ?_
   simp(disch:=try exact dI) only[push_cast,seval]
   refine ab.pure hk rfl ?_
   simp(disch:=try exact dI) only[push_cast,seval]
 | true=>
   cases b with
   | false=>
     obtain⟨k,m,s,t,l,fs⟩:=v
     obtain⟨k',m',s',t',l',fs'⟩:=w
     simp only[Val.pv_mk] at hsv hsw ⊢
     refine aq.intro ke (by simp[F7]) ?_
     simp(disch:=try exact dI) only[F7,push_cast,seval]
     refine ab.pure hk rfl ?_
     simp(disch:=try exact dI) only[push_cast,seval]
     refine ab.pure hsv rfl ?_
     simp(disch:=try exact dI) only[push_cast,seval]
     refine ab.pure hsw rfl ?_
     simp(disch:=try exact dI) only[push_cast,seval]
     refine ab.pure hk rfl ?_
     simp(disch:=try exact dI) only[push_cast,seval]
   | true=>
     by_cases h1:o7 v=0
     ·by_cases h2:o7 w=0
      ·have tv:=tv h1
       have tw:=tw h2
       have inj:=inj h1 h2
       rw[h1] at cv
       rw[h2] at cw
       clear h1 h2
       by_cases x1:65536<X.length
       ·rw[if_pos x1,if_pos x1] at tv
        by_cases x2:65536<Y.length
        ·rw[if_pos x2,if_pos x2] at tw
         obtain⟨k,m,s,t,l,fs⟩:=v
         obtain⟨k',m',s',t',l',fs'⟩:=w
         simp only[Val.pv_mk] at cv cw hsv hsw tv tw ⊢
         refine aq.intro ke (by simp[F7]) ?_
         simp(disch:=try exact dI) only[F7,push_cast,seval]
         refine ab.pure hk rfl ?_
         simp(disch:=try exact dI) only[push_cast,seval]
         refine ab.pure hsv rfl ?_
         simp(disch:=try exact dI) only[push_cast,seval]
         refine ab.pure hsw rfl ?_
         simp(disch:=try exact dI) only[push_cast,seval]
         refine ab.pure cv rfl ?_
         simp(disch:=try exact dI) only[push_cast,seval]
         refine ab.pure cw rfl ?_
         simp(disch:=try exact dI) only[push_cast,seval]
         refine ab.pure tv rfl ?_
         simp(disch:=try exact dI) only[push_cast,seval]
         refine ab.pure tw rfl ?_
         simp(disch:=try exact dI) only[push_cast,seval]
        ·rw[if_neg x2,if_neg x2] at tw
         obtain⟨k,m,s,t,l,fs⟩:=v
         obtain⟨k',m',s',t',l',fs'⟩:=w
         simp only[Val.pv_mk] at cv cw hsv hsw tv tw ⊢
         refine aq.intro ke (by simp[F7]) ?_
         simp(disch:=try exact dI) only[F7,push_cast,seval]
         refine ab.pure hk rfl ?_
         simp(disch:=try exact dI) only[push_cast,seval]
         refine ab.pure hsv rfl ?_
         simp(disch:=try exact dI) only[push_cast,seval]
         refine ab.pure hsw rfl ?_
         simp(disch:=try exact dI) only[push_cast,seval]
         refine ab.pure cv rfl ?_
         simp(disch:=try exact dI) only[push_cast,seval]
         refine ab.pure cw rfl ?_
         simp(disch:=try exact dI) only[push_cast,seval]
         refine ab.pure tv rfl ?_
         simp(disch:=try exact dI) only[push_cast,seval]
         refine ab.pure tw rfl ?_
         simp(disch:=try exact dI) only[push_cast,seval]
       ·rw[if_neg x1,if_neg x1] at tv
        by_cases x2:65536<Y.length
        ·rw[if_pos x2,if_pos x2] at tw
         obtain⟨k,m,s,t,l,fs⟩:=v
         obtain⟨k',m',s',t',l',fs'⟩:=w
         simp only[Val.pv_mk] at cv cw hsv hsw tv tw ⊢
         refine aq.intro ke (by simp[F7]) ?_
         simp(disch:=try exact dI) only[F7,push_cast,seval]
         refine ab.pure hk rfl ?_
         simp(disch:=try exact dI) only[push_cast,seval]
         refine ab.pure hsv rfl ?_
         simp(disch:=try exact dI) only[push_cast,seval]
         refine ab.pure hsw rfl ?_
         simp(disch:=try exact dI) only[push_cast,seval]
         refine ab.pure cv rfl ?_
         simp(disch:=try exact dI) only[push_cast,seval]
         refine ab.pure cw rfl ?_
         simp(disch:=try exact dI) only[push_cast,seval]
         refine ab.pure tv rfl ?_
         simp(disch:=try exact dI) only[push_cast,seval]
         refine ab.pure tw rfl ?_
         simp(disch:=try exact dI) only[push_cast,seval]
        ·rw[if_neg x2,if_neg x2] at tw
         have inj:=inj (by omega)
         by_cases hvw:v=w
         ·have hX:decide (X=Y)=true:=decide_eq_true (heq hvw)
          rw[decide_eq_true (hz.2 hvw)] at he
          clear hz heq inj hvw
          obtain⟨k,m,s,t,l,fs⟩:=v
          obtain⟨k',m',s',t',l',fs'⟩:=w
          simp only[Val.pv_mk] at he cv cw hsv hsw tv tw ⊢
          refine aq.intro ke (by simp[F7]) ?_
          simp(disch:=try exact dI) only[F7,push_cast,seval]
          refine ab.pure hk rfl ?_
          simp(disch:=try exact dI) only[push_cast,seval]
          refine ab.pure hsv rfl ?_
          simp(disch:=try exact dI) only[push_cast,seval]
          refine ab.pure hsw rfl ?_
          simp(disch:=try exact dI) only[push_cast,seval]
          refine ab.pure cv rfl ?_
          simp(disch:=try exact dI) only[push_cast,seval]
          refine ab.pure cw rfl ?_
          simp(disch:=try exact dI) only[push_cast,seval]
          refine ab.pure tv rfl ?_
          simp(disch:=try exact dI) only[push_cast,seval]
          refine ab.pure tw rfl ?_
          simp(disch:=try exact dI) only[hX,push_cast,seval]
          refine ab.pure he rfl ?_
          simp(disch:=try exact dI) only[hX,push_cast,seval]
          rfl
         ·have hX:decide (X=Y)=false:=decide_eq_false (fun h=>hvw (inj h))
          rw[decide_eq_false (fun h=>hvw (hz.1 h))] at he
          clear hz heq inj hvw
          obtain⟨k,m,s,t,l,fs⟩:=v
          obtain⟨k',m',s',t',l',fs'⟩:=w
          simp only[Val.pv_mk] at he cv cw hsv hsw tv tw ⊢
          refine aq.intro ke (by simp[F7]) ?_
          simp(disch:=try exact dI) only[F7,push_cast,seval]
          refine ab.pure hk rfl ?_
          simp(disch:=try exact dI) only[push_cast,seval]
          refine ab.pure hsv rfl ?_
          simp(disch:=try exact dI) only[push_cast,seval]
          refine ab.pure hsw rfl ?_
          simp(disch:=try exact dI) only[push_cast,seval]
          refine ab.pure cv rfl ?_
          simp(disch:=try exact dI) only[push_cast,seval]
          refine ab.pure cw rfl ?_
          simp(disch:=try exact dI) only[push_cast,seval]
          refine ab.pure tv rfl ?_
          simp(disch:=try exact dI) only[push_cast,seval]
          refine ab.pure tw rfl ?_
          simp(disch:=try exact dI) only[hX,push_cast,seval]
          refine ab.pure he rfl ?_
          simp(disch:=try exact dI) only[hX,push_cast,seval]
          rfl
      ·rw[h1] at cv
       generalize o7 w=c at *
       obtain⟨k,m,s,t,l,fs⟩:=v
       obtain⟨k',m',s',t',l',fs'⟩:=w
       simp only[Val.pv_mk] at cv cw hsv hsw ⊢
       refine aq.intro ke (by simp[F7]) ?_
       simp(disch:=try exact dI) only[F7,push_cast,seval]
       refine ab.pure hk rfl ?_
       simp(disch:=try exact dI) only[push_cast,seval]
       refine ab.pure hsv rfl ?_
       simp(disch:=try exact dI) only[push_cast,seval]
       refine ab.pure hsw rfl ?_
       simp(disch:=try exact dI) only[push_cast,seval]
       refine ab.pure cv rfl ?_
       simp(disch:=try exact dI) only[push_cast,seval]
       refine ab.pure cw rfl ?_
       simp(disch:=try exact dI) only[h2,push_cast,seval]
       refine ab.pure hk rfl ?_
       simp(disch:=try exact dI) only[push_cast,seval]
     ·generalize o7 v=c at *
      obtain⟨k,m,s,t,l,fs⟩:=v
      obtain⟨k',m',s',t',l',fs'⟩:=w
      simp only[Val.pv_mk] at cv hsv hsw ⊢
      refine aq.intro ke (by simp[F7]) ?_
      simp(disch:=try exact dI) only[F7,push_cast,seval]
      refine ab.pure hk rfl ?_
      simp(disch:=try exact dI) only[push_cast,seval]
      refine ab.pure hsv rfl ?_
      simp(disch:=try exact dI) only[push_cast,seval]
      refine ab.pure hsw rfl ?_
      simp(disch:=try exact dI) only[push_cast,seval]
      refine ab.pure cv rfl ?_
      simp(disch:=try exact dI) only[h1,push_cast,seval]
      refine ab.pure hk rfl ?_
      simp(disch:=try exact dI) only[push_cast,seval]
end
end Go.Proofs.YtamoeblcphjbaaaGreatDoor
namespace Go.Proofs.YtamoeblcphjbaaaGreatDoor
open Go Go.Ab
theorem re (q:PV)(p0 p1:PV)(h0:HasT Tryz.prog 25 p0)(h1:HasT Tryz.prog 25 p1):aq Tryz.prog (sr 270 q) 7 [p0,p1] (.bool true):=by
 obtain⟨v,rfl,hv⟩:=oN h0
 obtain⟨w,rfl,hw⟩:=oN h1
 exact J4 v w hv hw
end Go.Proofs.YtamoeblcphjbaaaGreatDoor
namespace Go.Proofs.YtamoeblcphjbaaaGreatDoor
open Go Go.Ab Go.Lib Go.Proofs
theorem u8X:U8Extra Tryz.prog Tryz.lays196_ren:=⟨by kernel_rfl,by kernel_rfl,by kernel_rfl,by kernel_rfl,by kernel_rfl,by kernel_rfl,by kernel_rfl⟩
theorem Ae {W:World}(h1:VarReads Tryz.prog W "unicode/utf8.first" firstData) (h2:VarReads Tryz.prog W "unicode/utf8.acceptRanges" acceptData)
  (h3:VarReads Tryz.prog W "internal/strconv.uint64pow10" (tabData .u64 pow10Tab)) (h5:VarReads Tryz.prog W "math/bits.deBruijn64tab" (tabData .u8 (deBruijn64tab.map fun n:Nat=>(n:Int)))):bH aC W (jR W):=by
 have hu:=utf8Tabs_of_readsT (U8Types.of196 Tryz.lays196) u8X h1 h2
 refine vo fun g hg=>?_
 unfold aC at hg ⊢
 by_cases e3:g=3
 ·subst e3
  exact iQ (t:=219) (e:=181) (m:=20) h3 (by kernel_rfl) (by kernel_rfl) (by kernel_rfl) (by kernel_rfl) (by kernel_rfl) (by kernel_rfl) (by kernel_rfl)
 rw[if_neg e3] at hg ⊢
 by_cases e1:g=0
 ·subst e1
  rw[if_pos rfl] at hg ⊢
  refine jz (t:=159) (e:=5) (m:=256) h1 (by kernel_rfl) (by kernel_rfl) (by kernel_rfl) (by kernel_rfl) fun o p hp=>?_
  rw[H0,List.getElem?_map,Option.map_eq_some_iff] at hp
  obtain⟨c,hc,rfl⟩:=hp
  obtain⟨hlt,hcc⟩:=List.getElem?_eq_some_iff.1 hc
  simp at hlt hcc
  subst hcc
  exact⟨_,_,rfl,hu.1 o hlt⟩
 rw[if_neg e1] at hg ⊢
 by_cases e2:g=1
 ·subst e2
  rw[if_pos rfl] at hg ⊢
  refine jz (t:=162) (e:=161) (m:=16) h2 (by kernel_rfl) (by kernel_rfl) (by kernel_rfl) (by kernel_rfl) fun o p hp=>?_
  rw[EK,List.getElem?_map,Option.map_eq_some_iff] at hp
  obtain⟨c,hc,rfl⟩:=hp
  obtain⟨hlt,hcc⟩:=List.getElem?_eq_some_iff.1 hc
  simp at hlt hcc
  subst hcc
  have:=hu.2 (o / 2) (by omega)
  by_cases ho:o % 2=0
  ·rw[if_pos ho]
   refine⟨_,_,rfl,?_⟩
   have:=this.1
   rwa [show 2*(o / 2)=o by omega] at this
  ·rw[if_neg ho]
   refine⟨_,_,rfl,?_⟩
   have:=this.2
   rwa [show 2*(o / 2)+1=o by omega] at this
 rw[if_neg e2] at hg ⊢
 by_cases e5:g=5
 ·subst e5
  rw[if_pos rfl] at hg ⊢
  have:=iQ (g:=5) (t:=257) (e:=5) (m:=64) h5 (by kernel_rfl) (by kernel_rfl) (by kernel_rfl) (by kernel_rfl) (by kernel_rfl) (by kernel_rfl) (by kernel_rfl)
  rw[List.map_map] at this
  exact this
 rw[if_neg e5] at hg
 exact absurd rfl hg
end Go.Proofs.YtamoeblcphjbaaaGreatDoor

/- A part of the proof. -/
import Derived.Test.YtbojpfpliibfbaaGreatDoorCaRX11
set_option maxRecDepth 100000
set_option linter.unusedVariables false
set_option linter.unusedSimpArgs false
namespace Go.Proofs.YtbojpfpliibfbaaGreatDoor
open Go Go.Ab
attribute [local irreducible] vc
def Pu (g:TFd):Val:=match g.dflt with
 | []=>ef
 | x::_=>x
def DG (g:TFd):Val:=if aT g.typ=true then lF g.typ.kind q0 else if g.need=2 then ef else if g.need=3 then Pu g else ef
def jk (g:TFd)(s:List UInt8):Val:=if bu g.typ.kind s=[] then DG g else if (rdR g.typ (bu g.typ.kind s)).2=0\/6<=g.typ.kind then lF g.typ.kind (rdR g.typ (bu g.typ.kind s)).1 else ef
theorem fO:Nz eP ef.pv:=by
 unfold eP ef
 rw[Val.pv_mk]
 repeat' constructor
theorem Oo (g:TFd)(s:List UInt8):Nz (Lh g s) (jk g s).pv:=by
 unfold Lh jk
 split
 ·unfold xN DG
  split
  ·exact pW _ q0
  ·split
   ·exact fO
   ·split
    ·unfold K4 Pu
     cases g.dflt with
     | nil=>exact fO
     | cons x r=>exact .refl _
    ·exact fO
 ·unfold vPQ
  split
  ·exact pW _ _
  ·exact fO
theorem jE:ef.ok:=by
 unfold ef
 rw[Val.ok_mk]
 exact⟨⟨by omega,by omega⟩,⟨by omega,by omega⟩,⟨by omega,by omega⟩,by simp,by simp,by simp,by simp,by simp⟩
theorem kO {t:Typ}{r:Qt×Int}(h:xK t r=0):r.2=0/\wp t r.1=true:=by
 unfold xK at h
 by_cases h0:r.2=0
 ·rw[if_pos h0] at h
  cases hf:wp t r.1 with
  | true=>exact⟨h0,rfl⟩
  | false=>rw[hf,if_neg (by decide)] at h;cases h
 ·rw[if_neg h0] at h;exact absurd h h0
theorem On {g:TFd}{s:List UInt8}(h:CellOk g)(hs:s.length<=1000000)(he:lm g s=0):(jk g s).ok:=by
 unfold jk
 unfold lm at he
 by_cases h0:bu g.typ.kind s=[]
 ·rw[if_pos h0]
  unfold DG
  split
  ·exact pV h.kd qG
  ·split
   ·exact jE
   ·split
    ·rename_i h3
     obtain⟨x,r,hx,hxo,_⟩:=h.dft h3
     unfold Pu;rw[hx];exact hxo
    ·exact jE
 ·rw[if_neg h0] at he ⊢
  have hz:=kO he
  rw[if_pos (.inl hz.1)]
  exact pV h.kd (HD _ _ _ (Nat.le_trans (mR _ _) hs) hz.1)
def fe (x:TFd×List UInt8):Fld:=.mk x.1.name (jk x.1 x.2)
theorem Di {P:PV}{V:Val}(h:Nz P V.pv)(hP:∃ cs,P = .agg cs):NzL P.cells V.pv.cells:=by
 obtain⟨cs,rfl⟩:=hP
 obtain⟨k,n,s,t,l,f⟩:=V
 rw[Val.pv_mk] at h ⊢
 cases h with
 | refl=>exact NzL.refl _
 | agg _ _ h=>exact h
theorem Qz (x:TFd×List UInt8):Nz (fC x) (fe x).pv:=by
 have h:=Di (Oo x.1 x.2) (by obtain⟨a,b,c,d,p,q,h,_⟩:=rN x.1 x.2;exact⟨_,h⟩)
 unfold fC fe
 rw[Fld.pv_mk]
 exact .agg _ _ (.cons _ _ _ _ (.refl _) h)
theorem HP:∀ Z:List (TFd×List UInt8),NzL (Z.map fC) ((Z.map fe).map Fld.pv)
 | []=>.nil
 | x::r=>.cons _ _ _ _ (Qz x) (HP r)
theorem kP {v:List Nat}:∀ (Z:List (TFd×List UInt8)) (i:Nat),(kQ v Z i).2=0->kQ v Z i=(0,0)/\∀ x∈Z,lm x.1 x.2=0
 | [],_,_=>⟨rfl,fun x hx=>by cases hx⟩
 | x::r,i,h=>by
   rw[kQ] at h ⊢
   by_cases h0:lm x.1 x.2=0
   ·rw[if_pos h0] at h ⊢
    obtain⟨h1,h2⟩:=kP r (i+1) h
    exact⟨h1,fun y hy=>(List.mem_cons.1 hy).elim (fun e=>e▸h0) (h2 y)⟩
   ·rw[if_neg h0] at h;exact absurd h h0
theorem wO {T:Nat}{p:PV}(t:Typ)(ht:t.ok)(w:List Int)(line:List UInt8)(he:¬ sE t w=0):ag Tryz.prog (dN T p) 17 [t.pv,.list (bJ w),.str line] (.tup [eP,.int .i64 0,.int .i64 (sE t w)]):=by
 have h12:=toE (T:=T) (p:=p) (sC t ht w)
 generalize sE t w=z at *
 obtain⟨k,m,M,s,wd,e,f⟩:=t
 simp only[Typ.pv_mk,eP] at h12 ⊢
 refine ag.intro Q17.2 (by simp[Q17]) ?_
 simp(disch:=try exact dI) only[Q17,push_cast,seval]
 refine ab.pure h12 rfl ?_
 simp(disch:=try exact dI) only[he,push_cast,seval]
theorem tG {n:Nat}{s:Int}(h:¬ (n:Int)=s):¬ iC n s=0:=by
 unfold iC
 by_cases h1:(n:Int)<s
 ·rw[if_pos h1];decide
 ·rw[if_neg h1,if_pos (by omega)];decide
theorem wM {T:Nat}{p:PV}(t:Typ)(ht:t.ok)(w:List Int)(line:List UInt8)(he:sE t w=0)(hb:GQ w=false)(hw:w.length<=64)(hs0:0<=je w)(hll:line.length<=1000000)(hne:¬ (line.length:Int)=je w):ag Tryz.prog (dN T p) 17 [t.pv,.list (bJ w),.str line] (.tup [eP,.int .i64 (min (line.length:Int) (je w)),.int .i64 (iC line.length (je w))]):=by
 have h12:=toE (T:=T) (p:=p) (sC t ht w)
 have h50:=toE (T:=T) (p:=p) (p8 w (by omega))
 rw[hb,if_neg (by decide),if_neg (by decide)] at h50
 have h51:=toE (T:=T) (p:=p) (BP line (je w))
 rw[he] at h12
 have hz:=tG hne
 have hm:min (je w) (line.length:Int)=min (line.length:Int) (je w):=Int.min_comm _ _
 generalize iC line.length (je w)=z at *
 generalize je w=S at *
 obtain⟨k,m,M,s,wd,e,f⟩:=t
 simp only[Typ.pv_mk,eP] at h12 ⊢
 refine ag.intro Q17.2 (by simp[Q17]) ?_
 simp(maxSteps:=9^7) (disch:=try exact dI) only[Q17,push_cast,seval]
 refine ab.pure h12 rfl ?_
 simp(maxSteps:=9^7) (disch:=try exact dI) only[push_cast,seval]
 refine ab.pure h50 rfl ?_
 simp(maxSteps:=9^7) (disch:=try exact dI) only[push_cast,seval]
 refine ab.pure h51 rfl ?_
 simp(maxSteps:=9^7) (disch:=try exact dI) only[hz,hm,push_cast,seval]
theorem ul {f:List TFd}{line:List UInt8}{v:List Nat}(h:f.length=v.length):((cD f line v).map fe).map Fld.name=f.map TFd.name:=by
 have h1:((cD f line v).map fe).map Fld.name=((cD f line v).map Prod.fst).map TFd.name:=by
  rw[List.map_map,List.map_map];rfl
 rw[h1]
 congr 1
 unfold cD
 exact List.map_fst_zip (by rw[List.length_map,List.length_range];omega)
theorem gi {f:List TFd}{line:List UInt8}{v:List Nat}{x:TFd×List UInt8}(hx:x∈cD f line v):x.1∈f/\x.2.length<=line.length:=by
 unfold cD at hx
 obtain⟨a,b⟩:=x
 obtain⟨h1,h2⟩:=List.of_mem_zip hx
 obtain⟨i,_,rfl⟩:=List.mem_map.1 h2
 exact⟨h1,by unfold bd;rw[List.length_drop,List.length_take];omega⟩
structure DecOk (t:Typ)(w:List Int)(line:List UInt8)(v:List Nat):Prop where
 rep:sE t w=0
 nat:w=v.map fun n:Nat=>(n:Int)
 sum:line.length=v.sum
 len:t.fields.length=v.length
 bnd:∀ x∈v,1<=x/\x<=4096
 cel:∀ x∈cD t.fields line v,lm x.1 x.2=0
theorem gq {t:Typ}{w:List Int}(ht:t.ok)(he:sE t w=0):GQ w=false/\w.length=t.fields.length/\w.length<=64/\lN t=0/\eS t=true:=by
 obtain⟨hfe,hlen,hrl⟩:=gr he
 obtain⟨h0,hfl⟩:=rC hfe
 have hst:=gu t.fields w 0 hlen.symm hrl
 have h64:t.fields.length<=64:=by
  have ho:=iP (go h0)
  obtain⟨k,m,M,s,wd,e,f⟩:=t
  exact Aq ho
 refine⟨?_,hlen,by omega,h0,hfl⟩
 unfold GQ
 rw[decide_eq_false (by omega),Bool.false_or,List.any_eq_false]
 intro x hx
 obtain⟨i,hi,hx⟩:=List.getElem_of_mem hx
 have hw:w[i]? = some x:=by rw[List.getElem?_eq_getElem hi,hx]
 obtain⟨g,hg⟩:∃ g,t.fields[i]? = some g:=⟨_,List.getElem?_eq_getElem (by omega)⟩
 obtain⟨h1,h2,_⟩:=fk (hst i g x hg hw)
 unfold Dd
 simp;omega
theorem fv {t:Typ}{w:List Int}{line:List UInt8}{v:List Nat}(ht:t.ok)(h0:lN t=0)(hfl:eS t=true)(hlen:t.fields.length=v.length)(hll:line.length<=1000000)(hc:∀ x∈cD t.fields line v,lm x.1 x.2=0) :
  (∀ x∈(cD t.fields line v).map fe,x.ok)/\dj ((cD t.fields line v).map fe):=by
 have hco:=f5 h0 ht hfl
 have hok:∀ g∈t.fields,g.ok:=by
  obtain⟨k,m,M,s,wd,e,f⟩:=t
  rw[Typ.ok_mk] at ht
  exact ht.2.2.2.2.2.2.2.2.2
 refine⟨fun y hy=>?_,?_⟩
 ·obtain⟨x,hx,rfl⟩:=List.mem_map.1 hy
  obtain⟨m1,m2⟩:=gi hx
  have hg:=hok x.1 m1
  unfold fe
  rw[Fld.ok_mk]
  refine⟨?_,On (hco x.1 m1) (by omega) (hc x hx)⟩
  obtain⟨⟨n,nm,nd,ty,d⟩,s⟩:=x
  simp only at hg
  rw[TFd.ok_mk] at hg
  exact hg.2.1
 ·unfold dj
  rw[ul hlen]
  exact kE h0
structure FitS (t:Typ)(v:Val):Prop where
 kd:v.kind=t.kind
 fm:ae v=true
 nm:t.kind=2\/t.kind=6\/t.kind=7\/t.kind=3->t.min<=v.num/\v.num<=t.max
 sc:t.kind=3->v.scale=t.scale
 wd:t.kind=4->0<t.words.length->(t.words.any fun x=>decide (x=v.text))=true
 tx:t.kind=5\/t.kind=4/\t.words.length=0->t.min<=(v.text.length:Int)/\(v.text.length:Int)<=t.max
theorem sT {a b n:Int}{p:List UInt8}(h:a<=n/\n<=b):vF a b p n=[]:=if_neg (by omega)
theorem tH {t:Typ}{v:Val}(hk:1<=t.kind/\t.kind<=7)(h:FitS t v)(p:List UInt8):bw 1 t v p=[]:=by
 have a:¬ (t.kind<1\/10<t.kind\/¬ v.kind=t.kind):=fun q=>q.elim (by omega) fun q=>q.elim (by omega) fun q=>q h.kd
 rw[aK]
 have e:t.kind=1\/(t.kind=2\/t.kind=6\/t.kind=7)\/t.kind=3\/t.kind=4\/t.kind=5:=by omega
 rcases e with e | e | e | e | e
 ·exact l7 a h.fm e
 ·rw[fb a h.fm e];exact sT (h.nm (by omega))
 ·rw[kq a h.fm e (h.sc e)];exact sT (h.nm (by omega))
 ·by_cases hw:0<t.words.length
  ·exact l6 a h.fm e hw (h.wd e hw)
  ·rw[dW a h.fm (.inl e) (fun _=>by omega)];exact sT (h.tx (.inr ⟨e,by omega⟩))
 ·rw[dW a h.fm (.inr e) (fun q=>by omega)];exact sT (h.tx (.inl e))
theorem tk {t:Typ}{v:Val}{p:List UInt8}(hk:1<=t.kind/\t.kind<=7)(h:bw 1 t v p=[]):FitS t v:=by
 obtain⟨h1,h2⟩:=Gn h
 have a:¬ (t.kind<1\/10<t.kind\/¬ v.kind=t.kind):=fun q=>q.elim (by omega) fun q=>q.elim (by omega) fun q=>q h1
 rw[aK] at h
 have hsc:t.kind=3->v.scale=t.scale:=fun e=>Decidable.byContradiction fun hs=>by rw[ko a h2 e hs] at h;cases h
 refine⟨h1,h2,fun e=>?_,hsc,fun e hw=>?_,fun e=>?_⟩
 ·by_cases e3:t.kind=3
  ·rw[kq a h2 e3 (hsc e3)] at h;exact qR h
  ·rw[fb a h2 (by omega)] at h;exact qR h
 ·cases ha:(t.words.any fun x=>decide (x=v.text)) with
  | true=>rfl
  | false=>rw[iV a h2 e hw ha] at h;cases h
 ·rw[dW a h2 (by omega) (fun q=>by omega)] at h;exact qR h
theorem CE {x:Val}(h:H9 x=0):ba x=false/\aD x=true/\bG x=0:=by
 unfold H9 at h
 have hs:a8 0 (1,x)=0:=by
  cases hl:lvl x with
  | zero=>
    have:=ju x
    rw[hl] at this;exact absurd this (by unfold kU;exact id)
  | succ n=>
    rw[hl,eR,pu] at h
    by_cases h0:a8 0 (1,x)=0
    ·exact h0
    ·rw[if_neg h0] at h;exact absurd h h0
 unfold a8 at hs
 rw[if_neg (by decide),if_neg (show ¬ (8:Int)<((1:Int),x).1 from (by decide:¬ (8:Int)<1))] at hs
 simp only at hs
 cases hn:ba x with
 | true=>rw[hn,if_pos rfl] at hs;cases hs
 | false=>
   rw[hn,if_neg (by decide)] at hs
   by_cases hk:x.kind<1\/10<x.kind
   ·rw[if_pos hk] at hs;cases hs
   ·rw[if_neg hk] at hs
    cases hu:aD x with
    | false=>rw[hu,if_pos rfl] at hs;cases hs
    | true=>rw[hu,if_neg (by decide)] at hs;exact⟨rfl,rfl,hs⟩
theorem Fg {n a b:Int}(h:gB n a b=0):a<=n/\n<=b:=by
 unfold gB at h
 by_cases c:n<a\/b<n
 ·rw[if_pos c] at h;cases h
 ·omega
theorem w8 {x:Val}(hk:1<=x.kind/\x.kind<=7)(h:H9 x=0):ae x=true:=by
 obtain⟨_,hu,hr⟩:=CE h
 obtain⟨k,n,s,t,l,f⟩:=x
 simp only[Val.kind] at hk
 have e:k=1\/k=2\/k=3\/k=4\/k=5\/k=6\/k=7:=by omega
 rcases e with rfl | rfl | rfl | rfl | rfl | rfl | rfl
 ·have:=Fg (show gB n 0 1=0 from hr)
  simp[aD] at hu
  simp[ae,hu];omega
 ·simp[aD] at hu;simp[ae,hu]
 ·simp[aD] at hu;simp[ae,hu]
 ·simp[aD] at hu
  have hv:Lib.validD t=true:=by
   have hr':(if gh t.length 1024 5=0 then (if Lib.validD t=true then (0:Int) else 16) else gh t.length 1024 5)=0:=hr
   by_cases c:gh t.length 1024 5=0
   ·rw[if_pos c] at hr'
    cases hv:Lib.validD t with
    | true=>rfl
    | false=>rw[hv,if_neg (by decide)] at hr';cases hr'
   ·rw[if_neg c] at hr';exact absurd hr' c
  simp[ae,hu,hv]
 ·simp[aD] at hu;simp[ae,hu]
 ·simp[aD] at hu;simp[ae,hu]
 ·simp[aD] at hu;simp[ae,hu]
theorem Dp {n:Nat}{t:Typ}{x:Val}(hk:1<=t.kind/\t.kind<=7)(h:accB n t x=true):FitS t x:=by
 unfold accB at h
 rw[Bool.and_eq_true,decide_eq_true_eq] at h
 obtain⟨hc,hh⟩:=h
 cases n with
 | zero=>rw[d6] at hh;cases hh
 | succ n=>
   rw[d6,Bool.and_eq_true,decide_eq_true_eq] at hh
   obtain⟨h1,h2⟩:=hh
   have hfm:=w8 (by omega) hc
   unfold Ga at h2
   refine⟨h1,hfm,fun e=>?_,fun e=>?_,fun e hw=>?_,fun e=>?_⟩
   ·rw[if_pos e,Po,Bool.and_eq_true,inB,Bool.and_eq_true,decide_eq_true_eq,decide_eq_true_eq] at h2
    exact h2.1
   ·rw[if_pos (by omega),Po,Bool.and_eq_true,decide_eq_true_eq] at h2
    exact h2.2
   ·rw[if_neg (by omega),if_pos e,Pj,if_pos hw] at h2
    exact h2
   ·by_cases e5:t.kind=5
    ·rw[if_neg (by omega),if_neg (by omega),if_pos e5,inB,Bool.and_eq_true,decide_eq_true_eq,decide_eq_true_eq] at h2
     exact h2
    ·have e4:t.kind=4/\t.words.length=0:=by omega
     rw[if_neg (by omega),if_pos e4.1,Pj,if_neg (by omega),inB,Bool.and_eq_true,decide_eq_true_eq,decide_eq_true_eq] at h2
     exact h2
theorem CA:∀ a b:List UInt8,decide (Lib.compareBytes a b<0)=aR a b
 | [],[]=>rfl
 | [],_::_=>rfl
 | _::_,[]=>rfl
 | a::r,b::q=>by
   have ih:decide (Lib.compareBytes r q<0)=Op.bytesLess r q:=CA r q
   show _=Op.bytesLess (a::r) (b::q)
   rw[Lib.compareBytes,Op.bytesLess]
   by_cases h1:a<b
   ·simp[h1]
   ·by_cases h2:b<a
    ·have:¬ a=b:=by rintro rfl;exact (UInt8.lt_irrefl a) h2
     simp[h1,h2,this]
    ·have h3:a=b:=UInt8.le_antisymm (UInt8.not_lt.1 h2) (UInt8.not_lt.1 h1)
     simp[h1,h2,h3,ih]
theorem dV {v:Val}(h:1<=v.kind):ba v=false:=by
 obtain⟨k,n,s,t,l,f⟩:=v
 simp only[Val.kind] at h
 show (decide (k=0)&&(decide (n=0)&&(decide (s=0)&&(decide (t=[])&&(decide (l.length=0)&&decide (f.length=0))))))=false
 rw[decide_eq_false (by omega),Bool.false_and]
theorem Ci {t:Typ}(ho:dK t=0)(hk:1<=t.kind/\t.kind<=7)(h:aT t=true):FitS t (lF t.kind q0):=by
 obtain⟨k,m,M,s,w,e,f⟩:=t
 have hb:=(bm ho).2.1
 replace h:(if k=4/\0<w.length then w.any fun x=>decide (x=[]) else (decide (k=4)||decide (k=5))&&decide (m=0))=true:=h
 simp only[Typ.kind] at hk
 have hk45:k=4\/k=5:=by
  by_cases hc:k=4/\0<w.length
  ·exact .inl hc.1
  ·rw[if_neg hc] at h
   simp at h;exact h.1
 have hf:ae (lF k q0)=true:=by
  rcases hk45 with rfl | rfl
  ·simp[ae,lF,q0,Lib.validD_nil]
  ·simp[ae,lF,q0]
 refine⟨rfl,hf,fun q=>?_,fun q=>?_,fun q hw=>?_,fun q=>?_⟩
 ·simp only[Typ.kind] at q;omega
 ·simp only[Typ.kind] at q;omega
 ·simp only[Typ.kind] at q
  simp only[Typ.words] at hw
  rw[if_pos ⟨q,hw⟩] at h
  exact h
 ·simp only[Typ.kind,Typ.words] at q
  have hc:¬ (k=4/\0<w.length):=by omega
  rw[if_neg hc] at h
  have hm:m=0:=by simp at h;exact h.2
  unfold dh at hb
  rw[if_neg hc] at hb
  by_cases hx:(2<=k/\k<=8)/\(M<m\/m<loK k\/hiK k<M)
  ·rw[if_pos hx] at hb;exact absurd hb (by decide)
  ·have h1:¬ (M<m\/m<loK k\/hiK k<M):=fun hh=>hx ⟨by omega,hh⟩
   show m<=((0:Nat):Int)/\((0:Nat):Int)<=M
   omega
theorem tX {g:TFd}{s:List UInt8}(h:CellOk g)(hd:g.need=3->∀ x r,g.dflt=x::r->FitS g.typ x)(he:lm g s=0):(ba (jk g s)=true/\g.need=2)\/(ba (jk g s)=false/\FitS g.typ (jk g s)):=by
 have hk1:=h.kd.1
 unfold lm at he
 unfold jk
 by_cases h0:bu g.typ.kind s=[]
 ·rw[if_pos h0] at he ⊢
  unfold ud at he
  unfold DG
  cases hb:aT g.typ with
  | true=>
    rw[if_pos rfl]
    exact .inr ⟨dV hk1,Ci h.own h.kd hb⟩
  | false=>
    rw[if_neg (by decide)]
    by_cases h2:g.need=2
    ·rw[if_pos h2];exact .inl ⟨rfl,h2⟩
    ·rw[if_neg h2]
     by_cases h3:g.need=3
     ·rw[if_pos h3]
      obtain⟨x,r,hx,_,_⟩:=h.dft h3
      have hf:=hd h3 x r hx
      unfold Pu
      rw[hx]
      exact .inr ⟨dV (by rw[hf.kd];exact hk1),hf⟩
     ·rw[hb,if_neg (fun q=>q.elim (by decide) fun q=>q.elim h2 h3)] at he
      cases he
 ·rw[if_neg h0] at he ⊢
  obtain⟨hz,hf⟩:=kO he
  rw[if_pos (.inl hz)]
  refine .inr ⟨dV hk1,tk (p:=[]) h.kd ?_⟩
  unfold wp at hf
  exact List.isEmpty_iff.1 hf
theorem AR {f:List TFd}(h:(f.map TFd.name).Nodup){a b:TFd}(ha:a∈f)(hb:b∈f)(e:a.name=b.name):a=b:=by
 obtain⟨i,hi,rfl⟩:=List.getElem_of_mem ha
 obtain⟨j,hj,rfl⟩:=List.getElem_of_mem hb
 have hp:=List.pairwise_iff_getElem.1 h
 rcases Nat.lt_trichotomy i j with c | c | c
 ·have:=hp i j (by simpa using hi) (by simpa using hj) c
  simp only[List.getElem_map] at this
  exact absurd e this
 ·subst c;rfl
 ·have:=hp j i (by simpa using hj) (by simpa using hi) c
  simp only[List.getElem_map] at this
  exact absurd e.symm this
theorem My {S:List Fld}(h:S.Pairwise ltF):upB S=true:=by
 unfold upB
 rw[dw]
 intro j hj
 unfold upJ
 have h1:j<S.length:=by omega
 have h2:j+1<S.length:=by omega
 rw[List.getElem?_eq_getElem h1,List.getElem?_eq_getElem h2]
 simp only[Option.map_some,Option.getD_some]
 rw[<- CA]
 exact decide_eq_true (List.pairwise_iff_getElem.1 h j (j+1) h1 h2 (by omega))
theorem Ct {t:Typ}{w:List Int}{line:List UInt8}{v:List Nat}(ht:t.ok)(hll:line.length<=1000000)(h:DecOk t w line v):DC t (lj ((cD t.fields line v).map fe))=true:=by
 obtain⟨_,hlen,_,h0,hfl⟩:=gq ht h.rep
 have hco:=f5 h0 ht hfl
 obtain⟨_,hnd⟩:=fv (w:=w) ht h0 hfl h.len hll h.cel
 have hnm:=kE h0
 obtain⟨h9,_,_⟩:=cj hfl
 have hdf:∀ g∈t.fields,g.need=3->∀ x r,g.dflt=x::r->FitS g.typ x:=fun g hg h3 x r hx=>by
  have hty:=go h0
  have hk:=(hco g hg).kd
  obtain⟨k,m,M,s,wd,e,f⟩:=t
  have hde:=(hty.2.2 (.inl h9) g hg).2 h9
  obtain⟨n',nm',nd',t',d'⟩:=g
  simp only[TFd.need,TFd.dflt] at h3 hx
  subst h3 hx
  replace hde:(decide ((3:Int)=3)&&!(accB 7 t' x))=false:=hde
  rw[decide_eq_true rfl,Bool.true_and] at hde
  have hacc:accB 7 t' x=true:=by simpa using hde
  exact Dp hk hacc
 have hcf:∀ x∈cD t.fields line v,(ba (jk x.1 x.2)=true/\x.1.need=2)\/(ba (jk x.1 x.2)=false/\FitS x.1.typ (jk x.1 x.2)):=fun x hx=>tX (hco x.1 (gi hx).1) (hdf x.1 (gi hx).1) (h.cel x hx)
 obtain⟨l,hl⟩:∃ l,l=(cD t.fields line v).map fe:=⟨_,rfl⟩
 rw[<- hl] at hnd ⊢
 have hS:(srt (l.filter bj)).Pairwise ltF:=by rw[EI hnd];exact eq l hnd
 have hmem:∀ y,y∈srt (l.filter bj)↔y∈l/\bj y=true:=fun y=>by rw[(fl _).mem_iff,List.mem_filter]
 have hel:∀ y∈l,∃ x∈cD t.fields line v,y=fe x:=fun y hy=>by
  rw[hl] at hy
  obtain⟨x,hx,e⟩:=List.mem_map.1 hy
  exact⟨x,hx,e.symm⟩
 unfold DC lj
 rw[List.isEmpty_iff,aK]
 have a:¬ (t.kind<1\/10<t.kind\/¬ (Val.mk 9 0 0 [] [] (srt (l.filter bj))).kind=t.kind):=fun q=>q.elim (by omega) fun q=>q.elim (by omega) fun q=>q (by rw[h9];rfl)
 have hfm:ae (Val.mk 9 0 0 [] [] (srt (l.filter bj)))=true:=by simp[ae,My hS]
 rw[gD a hfm h9,Jw,List.append_eq_nil_iff]
 refine⟨List.flatMap_eq_nil_iff.2 fun g hg=>?_,List.flatMap_eq_nil_iff.2 fun y hy=>?_⟩
 ·simp only[Val.fields]
  cases hfd:(srt (l.filter bj)).find? (bc g.name) with
  | some y=>
    have hy:=(hmem y).1 (List.mem_of_find?_eq_some hfd)
    have hyn:y.name=g.name:=by have q:=List.find?_some hfd;exact of_decide_eq_true q
    obtain⟨x,hx,rfl⟩:=hel y hy.1
    have hxg:x.1=g:=AR hnm (gi hx).1 hg hyn
    rw[f0 hfd]
    have hkf:bj (fe x)=!ba (jk x.1 x.2):=rfl
    rcases hcf x hx with ⟨q,_⟩ | ⟨_,q⟩
    ·rw[hkf,q] at hy;exact absurd hy.2 (by decide)
    ·rw[hxg] at q
     have hv:(fe x).value=jk g x.2:=by rw[<- hxg];rfl
     rw[hv]
     exact tH (hco g hg).kd q _
  | none=>
    obtain⟨i,hi,rfl⟩:=List.getElem_of_mem hg
    have hiv:i<v.length:=by rw[<- h.len];exact hi
    have hz:=pP (line:=line) (List.getElem?_eq_getElem hi) hiv
    have hx:=List.mem_of_getElem? hz
    rcases hcf _ hx with ⟨_,q⟩ | ⟨q,_⟩
    ·exact mm hfd q
    ·have hin:fe (t.fields[i],bd line v i)∈srt (l.filter bj):=(hmem _).2 ⟨by rw[hl];exact List.mem_map_of_mem hx,by
      show (!ba (jk t.fields[i] (bd line v i)))=true
      rw[q];rfl⟩
     have:=List.find?_eq_none.1 hfd _ hin
     exact absurd (decide_eq_true rfl:bc t.fields[i].name (fe (t.fields[i],bd line v i))=true) this
 ·simp only[Val.fields] at hy
  obtain⟨x,hx,rfl⟩:=hel y ((hmem y).1 hy).1
  cases hfd:t.fields.find? (named (fe x).name) with
  | some z=>exact j7 hfd
  | none=>
    have:=List.find?_eq_none.1 hfd x.1 (gi hx).1
    exact absurd (decide_eq_true rfl:named (fe x).name x.1=true) this
end Go.Proofs.YtbojpfpliibfbaaGreatDoor

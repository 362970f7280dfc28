/- A part of the proof. -/
import Derived.Test.YtbojpfpliibfbaaGreatDoorDeRC13
set_option maxHeartbeats 16000000
set_option maxRecDepth 100000
set_option linter.unusedVariables false
set_option linter.unusedSimpArgs false
namespace Go.Proofs.YtbojpfpliibfbaaGreatDoor
open Go Go.Ab
attribute [local irreducible] vc
theorem oO {s:List UInt8}(h:(aZ s).2=0):IsN (aZ s).1.1 (aZ s).1.2/\ew (aZ s).1.1 (aZ s).1.2=s:=by
 unfold aZ at h ⊢
 split at h
 ·cases h
 ·split at h
  ·cases h
  ·split at h
   ·rename_i h1 h2 h3
    rw[if_neg h1,if_neg h2,if_pos h3]
    exact h3
   ·cases h
theorem Aw (s:List UInt8):-1000000000000000000<=(bU s).1/\(bU s).1<=1000000000000000000:=by
 unfold bU
 split
 ·rename_i y m d hn
  rcases uo y m d with h | h
  ·have:=iL h;omega
  ·unfold gj at h ⊢
   split
   ·rename_i hh;rw[if_pos hh] at h;cases h
   ·simp
 ·simp
theorem Av {s:List UInt8}(h:(cg s).2=0):-1000000000000000000<=(cg s).1/\(cg s).1<=1000000000000000000:=by
 obtain⟨y,m,d,hh,mi,sec,ms,h1,h2,h3,h4,h5,h6,h7⟩:=rr (s:=s) (n:=(cg s).1) (by rw[<- h])
 have:=gZ h1
 omega
def QOk (q:Qt):Prop:=I64 q.1/\I64 q.2.1/\q.2.2.length<=1000000
theorem qok (a b:Int)(s:List UInt8)(h1:-1000000000000000000<=a/\a<=1000000000000000000)(h2:-1000000000000000000<=b/\b<=1000000000000000000)(h3:s.length<=1000000):QOk (a,b,s):=
 ⟨⟨show _<=a by omega,show a<=_ by omega⟩,⟨show _<=b by omega,show b<=_ by omega⟩,h3⟩
theorem oL:QOk q0:=⟨⟨by decide,by decide⟩,⟨by decide,by decide⟩,by decide⟩
theorem sZ (k sc:Int)(s:List UInt8)(hs:s.length<=1000000)(h:(rdC k sc s).2=0):QOk (rdC k sc s).1:=by
 unfold rdC at h ⊢
 split
 ·unfold rdB
  split
  ·exact qok _ _ _ (by decide) (by decide) (by decide)
  ·split<;>exact oL
 ·rename_i h1
  rw[if_neg h1] at h
  split
  ·rename_i h2
   rw[if_pos h2] at h
   unfold rdN at h ⊢
   split
   ·exact oL
   ·split
    ·exact oL
    ·rename_i h3 h4
     obtain⟨⟨a,b,c⟩,_⟩:=oO (Decidable.byContradiction h3)
     exact qok _ _ _ (by omega) (by omega) (by simp)
  ·rename_i h2
   rw[if_neg h2] at h
   split
   ·unfold rdT
    split
    ·exact oL
    ·split
     ·exact oL
     ·exact qok _ _ _ (by decide) (by decide) hs
   ·split
    ·cases hh:kK s with
     | none=>exact oL
     | some b=>
       have:=nB hh
       exact qok _ _ _ (by decide) (by decide) (by omega)
    ·rename_i h3 h4
     rw[if_neg h3,if_neg h4] at h
     split
     ·have:=Aw s
      exact qok _ _ _ (by omega) (by decide) (by simp)
     ·rename_i h5
      rw[if_neg h5] at h
      have:=Av h
      exact qok _ _ _ (by omega) (by decide) (by simp)
def qB (k:Int)(q:Qt):Val:=.mk k q.1 q.2.1 q.2.2 [] []
theorem mS {k:Int}{q:Qt}(hk:1<=k/\k<=7)(h:QOk q):(qB k q).ok:=by
 unfold qB
 rw[Val.ok_mk]
 exact⟨⟨by omega,by omega⟩,h.1,h.2.1,by have:=h.2.2;omega,by simp,by simp,by simp,by simp⟩
theorem mT (k:Int)(q:Qt):Nz (jq k q) (qB k q).pv:=by
 unfold qB jq eP
 rw[Val.pv_mk]
 repeat' constructor
def uc (t:Typ)(q:Qt):Bool:=(bD 1 t (qB t.kind q) []).isEmpty
theorem KL (t:Typ)(q:Qt)(ht:jV 1 t)(hk:1<=t.kind/\t.kind<=7)(hq:QOk q):ak Tryz.prog ap 42 [t.pv,jq t.kind q] (.bool (uc t q)):=by
 have hv:=mS hk hq
 have key:ak Tryz.prog ap 42 [t.pv,(qB t.kind q).pv] (.bool (uc t q)):=by
  unfold uc
  generalize qB t.kind q=v at *
  have h56:=KM t v [] false [] _ (mH 1 v hv) ht hk.2 hv (by simp) ⟨by simp,by simp⟩ rfl
  have e:=Lv (bD 1 t v []) []
  generalize uR false [] (bD 1 t v [])=S at *
  obtain⟨Sd,Sl⟩:=S
  simp only at e
  have e2:(bD 1 t v []).isEmpty=!Sd:=by rw[e,Bool.not_not]
  rw[e2]
  obtain⟨k,m,M,s,w,e,fs⟩:=t
  obtain⟨vk,vi,vs,vt,vl,vf⟩:=v
  simp only[qw,Typ.pv_mk,Val.pv_mk,List.map_nil] at h56
  refine ak.intro Q42.2 (by simp[Q42]) ?_
  simp(disch:=try exact dI) only[Q42,Typ.pv_mk,Val.pv_mk,push_cast,seval]
  refine ab.lentK h56 [4,2] rfl qsZ qsZ ?_
  exact qsZ
 exact key.nz (.cons _ _ _ _ (Nz.refl _) (.cons _ _ _ _ (mT _ _) .nil))
theorem Pa (t:Typ)(q:Qt)(ht:jV 1 t)(hk:1<=t.kind/\t.kind<=7)(hq:QOk q):∃ l:List Mis,ak Tryz.prog ap 20 [t.pv,jq t.kind q,.str []] (.list (l.map Mis.pv))/\(l.length=0↔uc t q=true):=by
 have hv:=mS hk hq
 refine⟨bD 1 t (qB t.kind q) [],(SC t _ [] ht hk.2 hv (by simp)).nz (.cons _ _ _ _ (Nz.refl _) (.cons _ _ _ _ (mT _ _) (.cons _ _ _ _ (Nz.refl _) .nil))),?_⟩
 unfold uc
 cases bD 1 t (qB t.kind q) []<;>simp
structure CellOk (g:TFd):Prop where
 own:dr g.typ=0
 kd:1<=g.typ.kind/\g.typ.kind<=7
 ty:jV 1 g.typ
 emp:ak Tryz.prog ap 36 [g.typ.pv] (.bool (aY g.typ))/\ak Tryz.prog ap 40 [g.typ.pv] (.bool (aY g.typ))
 dft:g.need=3->∃ x r,g.dflt=x::r/\x.ok/\ak Tryz.prog ap 92 [x.pv] x.pv
def ii (t:Typ)(r:Qt×Int):Int:=if r.2=0 then (if uc t r.1=true then 0 else 18) else r.2
def vPQ (k:Int)(r:Qt×Int):PV:=if r.2=0\/6<=k then jq k r.1 else cl
def rdR (t:Typ)(s:List UInt8):Qt×Int:=rdC t.kind t.scale s
def DS (g:TFd):PV:=match g.dflt with
 | []=>cl
 | x::_=>x.pv
def xT (g:TFd):Int:=if aY g.typ=true\/g.need=2\/g.need=3 then 0 else 19
def uK (g:TFd):PV:=if aY g.typ=true then eP g.typ.kind 0 0 [] else if g.need=2 then cl else if g.need=3 then DS g else cl
def nP (g:TFd)(s:List UInt8):Int:=if cm g.typ.kind s=[] then xT g else ii g.typ (rdR g.typ (cm g.typ.kind s))
def DT (g:TFd)(s:List UInt8):PV:=if cm g.typ.kind s=[] then uK g else vPQ g.typ.kind (rdR g.typ (cm g.typ.kind s))
theorem OX {g:TFd}(h:aY g.typ=true):uK g=eP g.typ.kind 0 0 []/\xT g=0:=⟨if_pos h,if_pos (.inl h)⟩
theorem OW {g:TFd}(h:aY g.typ=false)(h2:g.need=2):uK g=cl/\xT g=0:=by
 unfold uK xT
 rw[if_neg (by rw[h];decide),if_pos h2,if_pos (.inr (.inl h2))]
 exact⟨rfl,rfl⟩
theorem OV {g:TFd}(h:aY g.typ=false)(h2:¬ g.need=2)(h3:g.need=3):uK g=DS g/\xT g=0:=by
 unfold uK xT
 rw[if_neg (by rw[h];decide),if_neg h2,if_pos h3,if_pos (.inr (.inr h3))]
 exact⟨rfl,rfl⟩
theorem OU {g:TFd}(h:aY g.typ=false)(h2:¬ g.need=2)(h3:¬ g.need=3):uK g=cl/\xT g=19:=by
 unfold uK xT
 rw[if_neg (by rw[h];decide),if_neg h2,if_neg h3,if_neg (fun q=>q.elim (by rw[h];decide) fun q=>q.elim h2 h3)]
 exact⟨rfl,rfl⟩
theorem G5 {T:Nat}{p:PV}(g:TFd)(h:CellOk g)(s:List UInt8)(hs:s.length<=1000000)(h0:cm g.typ.kind s=[]):ak Tryz.prog (d6 T p) 53 [.str s,g.pv] (.tup [uK g,.int .i64 (xT g)]):=by
 obtain⟨ho,hk,ht,⟨he,_⟩,hd⟩:=h
 have hL:=toE (T:=T) (p:=p) (sI s)
 have hR:=toE (T:=T) (p:=p) (sH s hs)
 have hE:=toE (T:=T) (p:=p) he
 have b1:=OX (g:=g)
 have b2:=OW (g:=g)
 have b3:=OV (g:=g)
 have b4:=OU (g:=g)
 have hfin:∀ (x:Val) (r:List Val),g.dflt=x::r->DS g=x.pv:=fun x r h=>by unfold DS;rw[h]
 generalize uK g=P at *
 generalize xT g=E at *
 generalize DS g=D at *
 generalize aY g.typ=B at *
 obtain⟨n,nm,nd,⟨k,m,M,sc,w,e,f⟩,d⟩:=g
 simp only[TFd.typ,TFd.need,TFd.dflt,Typ.kind,Typ.pv_mk] at *
 unfold cm at h0
 have hc:k=2\/k=3\/¬ k=2/\¬ k=3:=by omega
 refine ak.intro Q53.2 (by simp[Q53]) ?_
 rcases hc with rfl | rfl | ⟨n2,n3⟩
 case' inl=>
  rw[if_pos (.inl rfl)] at h0
  rw[h0] at hL
  simp(disch:=try exact dI) only[Q53,TFd.pv_mk,Typ.pv_mk,ag,List.cons_append,List.nil_append,push_cast,seval]
  refine ab.pure hL rfl ?_
 case' inr.inl=>
  rw[if_pos (.inr rfl)] at h0
  rw[h0] at hL
  simp(disch:=try exact dI) only[Q53,TFd.pv_mk,Typ.pv_mk,ag,List.cons_append,List.nil_append,push_cast,seval]
  refine ab.pure hL rfl ?_
 case' inr.inr=>
  rw[if_neg (fun h=>h.elim n2 n3)] at h0
  rw[h0] at hR
  simp(disch:=try exact dI) only[Q53,TFd.pv_mk,Typ.pv_mk,ag,List.cons_append,List.nil_append,n2,n3,push_cast,seval]
  refine ab.pure hR rfl ?_
 all_goals
  refine zgZ ?_
  refine ab.pure hE rfl ?_
  cases B with
  | true=>
    obtain⟨rfl,rfl⟩:=b1 rfl
    simp(disch:=try exact dI) only[eP,push_cast,seval]
  | false=>
    by_cases h2:nd=2
    ·obtain⟨rfl,rfl⟩:=b2 rfl h2
     simp(disch:=try exact dI) only[h2,cl,push_cast,seval]
    ·by_cases h3:nd=3
     ·obtain⟨rfl,rfl⟩:=b3 rfl h2 h3
      obtain⟨x,r,hx,_,hC⟩:=hd h3
      obtain rfl:=hfin x r hx
      subst hx
      obtain⟨vk,vn,vs,vt,vl,vf⟩:=x
      replace hC:=toE (T:=T) (p:=p) hC
      simp only[Val.pv_mk] at hC ⊢
      simp(disch:=try exact dI) only[h2,h3,au,List.map_cons,Val.pv_mk,push_cast,seval]
      refine ab.pure hC rfl ?_
      exact qsZ
     ·obtain⟨rfl,rfl⟩:=b4 rfl h2 h3
      simp(disch:=try exact dI) only[h2,h3,cl,push_cast,seval]
theorem iS {k:Int}{r:Qt×Int}(h:r.2=0\/6<=k):vPQ k r=jq k r.1:=if_pos h
theorem jS {k:Int}{r:Qt×Int}(h:¬ (r.2=0\/6<=k)):vPQ k r=cl:=if_neg h
theorem yK (k:Int)(r:Qt×Int):∃ (a b c:Int) (d:List UInt8),vPQ k r=eP a b c d:=by
 by_cases h:r.2=0\/6<=k
 ·rw[iS h];exact⟨_,_,_,_,rfl⟩
 ·rw[jS h];exact⟨_,_,_,_,rfl⟩
theorem Qv (k:Int)(r:Qt×Int):rdP k r = .tup [vPQ k r,.int .i64 r.2]:=rfl
theorem G4 {T:Nat}{p:PV}(g:TFd)(h:CellOk g)(s:List UInt8)(hs:s.length<=1000000)(h0:¬ cm g.typ.kind s=[]):ak Tryz.prog (d6 T p) 53 [.str s,g.pv] (.tup [vPQ g.typ.kind (rdR g.typ (cm g.typ.kind s)),.int .i64 (ii g.typ (rdR g.typ (cm g.typ.kind s)))]):=by
 obtain⟨ho,hk,ht,_,_⟩:=h
 have hL:=toE (T:=T) (p:=p) (sI s)
 have hR:=toE (T:=T) (p:=p) (sH s hs)
 have hsl:(cm g.typ.kind s).length<=1000000:=Nat.le_trans (qP _ _) hs
 have hrd:ak Tryz.prog (d6 T p) 107 [.str (cm g.typ.kind s),g.typ.pv] (.tup [vPQ g.typ.kind (rdR g.typ (cm g.typ.kind s)),.int .i64 (rdR g.typ (cm g.typ.kind s)).2]):=by
  rw[<- Qv]
  unfold rdR
  obtain⟨n,nm,nd,⟨k,m,M,sc,w,e,f⟩,d⟩:=g
  exact Jz k m M sc w e f _ hk hsl
 have hft:(rdR g.typ (cm g.typ.kind s)).2=0->ak Tryz.prog (d6 T p) 42 [g.typ.pv,vPQ g.typ.kind (rdR g.typ (cm g.typ.kind s))] (.bool (uc g.typ (rdR g.typ (cm g.typ.kind s)).1)):=fun h=>by
  rw[iS (.inl h)]
  exact toE (KL g.typ _ ht hk (sZ _ _ _ hsl h))
 have hst:(g.typ.kind=2\/g.typ.kind=3->cm g.typ.kind s=trL s)/\(¬ (g.typ.kind=2\/g.typ.kind=3)->cm g.typ.kind s=trR s):=⟨fun h=>if_pos h,fun h=>if_neg h⟩
 have he1:(rdR g.typ (cm g.typ.kind s)).2=0->uc g.typ (rdR g.typ (cm g.typ.kind s)).1=true->ii g.typ (rdR g.typ (cm g.typ.kind s))=0:=fun a b=>by unfold ii;rw[if_pos a,if_pos b]
 have he2:(rdR g.typ (cm g.typ.kind s)).2=0->uc g.typ (rdR g.typ (cm g.typ.kind s)).1=false->ii g.typ (rdR g.typ (cm g.typ.kind s))=18:=fun a b=>by unfold ii;rw[if_pos a,if_neg (by rw[b];decide)]
 have he3:¬ (rdR g.typ (cm g.typ.kind s)).2=0->ii g.typ (rdR g.typ (cm g.typ.kind s))=(rdR g.typ (cm g.typ.kind s)).2:=fun a=>if_neg a
 obtain⟨v1,v2,v3,v4,hV⟩:=yK g.typ.kind (rdR g.typ (cm g.typ.kind s))
 rw[hV] at hrd hft ⊢
 generalize uc g.typ (rdR g.typ (cm g.typ.kind s)).1=F at *
 generalize ii g.typ (rdR g.typ (cm g.typ.kind s))=E at *
 generalize (rdR g.typ (cm g.typ.kind s)).2=z at *
 clear hV
 generalize cm g.typ.kind s=u at *
 obtain⟨n,nm,nd,⟨k,m,M,sc,w,e,f⟩,d⟩:=g
 simp only[TFd.typ,Typ.kind,Typ.pv_mk,eP] at *
 have hc:k=2\/k=3\/¬ k=2/\¬ k=3:=by omega
 refine ak.intro Q53.2 (by simp[Q53]) ?_
 rcases hc with rfl | rfl | ⟨n2,n3⟩
 case' inl=>
  rw[<- hst.1 (.inl rfl)] at hL
  simp(disch:=try exact dI) only[Q53,TFd.pv_mk,Typ.pv_mk,ag,List.cons_append,List.nil_append,push_cast,seval]
  refine ab.pure hL rfl ?_
 case' inr.inl=>
  rw[<- hst.1 (.inr rfl)] at hL
  simp(disch:=try exact dI) only[Q53,TFd.pv_mk,Typ.pv_mk,ag,List.cons_append,List.nil_append,push_cast,seval]
  refine ab.pure hL rfl ?_
 case' inr.inr=>
  rw[<- hst.2 (fun h=>h.elim n2 n3)] at hR
  simp(disch:=try exact dI) only[Q53,TFd.pv_mk,Typ.pv_mk,ag,List.cons_append,List.nil_append,n2,n3,push_cast,seval]
  refine ab.pure hR rfl ?_
 all_goals
  simp(disch:=try exact dI) only[h0,push_cast,seval]
  refine ab.pure hrd rfl ?_
  by_cases hz:z=0
  ·subst hz
   refine zgZ ?_
   refine ab.pure (hft rfl) rfl ?_
   cases F with
   | true=>
     obtain rfl:=he1 rfl rfl
     exact qsZ
   | false=>
     obtain rfl:=he2 rfl rfl
     exact qsZ
  ·obtain rfl:=he3 hz
   simp(disch:=try exact dI) only[hz,push_cast,seval]
theorem Ox {T:Nat}{p:PV}(g:TFd)(h:CellOk g)(s:List UInt8)(hs:s.length<=1000000):ak Tryz.prog (d6 T p) 53 [.str s,g.pv] (.tup [DT g s,.int .i64 (nP g s)]):=by
 unfold DT nP
 by_cases h0:cm g.typ.kind s=[]
 ·rw[if_pos h0,if_pos h0];exact G5 g h s hs h0
 ·rw[if_neg h0,if_neg h0];exact G4 g h s hs h0
def S1 (t:Typ)(q:Qt)(E:Int):Prop:=∃ L:List PV,ak Tryz.prog ap 20 [t.pv,jq t.kind q,.str []] (.list L)/\((L.length=0/\E=0)\/((0:Int)<(L.length:Int)/\¬ L.length=0/\E=18))
theorem pM (t:Typ)(q:Qt)(ht:jV 1 t)(hk:1<=t.kind/\t.kind<=7)(hq:QOk q):S1 t q (ii t (q,0)):=by
 obtain⟨l,h1,h2⟩:=Pa t q ht hk hq
 refine⟨_,h1,?_⟩
 rw[List.length_map]
 unfold ii
 rw[if_pos rfl]
 cases hF:uc t q with
 | true=>exact .inl ⟨h2.2 hF,if_pos rfl⟩
 | false=>
   have h0:¬ l.length=0:=fun h=>by rw[h2.1 h] at hF;cases hF
   exact .inr ⟨by omega,h0,if_neg (by decide)⟩
theorem gh {t:Typ}{r:Qt×Int}(h:¬ r.2=0):ii t r=r.2:=if_neg h
theorem vE (m M:Int)(w:List (List UInt8))(e:List Typ)(f:List TFd)(s:List UInt8)(ht:jV 1 (.mk 1 m M 0 w e f)):ak Tryz.prog ap 57 [(Typ.mk 1 m M 0 w e f).pv,.str s] (.tup [vPQ 1 (rdB s),.int .i64 (ii (.mk 1 m M 0 w e f) (rdB s))]):=by
 have hA:=fun q (h:QOk q)=>pM (.mk 1 m M 0 w e f) q ht ⟨Int.le_refl 1,show (1:Int)<=7 by decide⟩ h
 unfold rdB
 by_cases h1:s=[84]
 ·subst h1
  rw[if_pos rfl,iS (.inl rfl)]
  obtain⟨L,hL,hE⟩:=hA (1,0,[]) (qok _ _ _ (by decide) (by decide) (by decide))
  generalize ii (.mk 1 m M 0 w e f) ((1,0,[]),0)=E at *
  simp only[Typ.kind,Typ.pv_mk,jq,eP] at hL ⊢
  refine ak.intro Q57.2 (by simp[Q57]) ?_
  simp(disch:=try exact dI) only[Q57,push_cast,seval]
  refine ab.pure hL rfl ?_
  rcases hE with ⟨h2,rfl⟩ | ⟨h2,_,rfl⟩
  ·simp(disch:=try exact dI) only[h2,Int.lt_irrefl,push_cast,seval]
  ·simp(disch:=try exact dI) only[h2,push_cast,seval]
 ·rw[if_neg h1]
  by_cases h2:s=[70]
  ·subst h2
   rw[if_pos rfl,iS (.inl rfl)]
   obtain⟨L,hL,hE⟩:=hA q0 oL
   generalize ii (.mk 1 m M 0 w e f) (q0,0)=E at *
   simp only[Typ.kind,Typ.pv_mk,jq,eP,q0] at hL ⊢
   refine ak.intro Q57.2 (by simp[Q57]) ?_
   simp(disch:=try exact dI) only[Q57,h1,push_cast,seval]
   refine ab.pure hL rfl ?_
   rcases hE with ⟨h2,rfl⟩ | ⟨h2,_,rfl⟩
   ·simp(disch:=try exact dI) only[h2,Int.lt_irrefl,push_cast,seval]
   ·simp(disch:=try exact dI) only[h2,push_cast,seval]
  ·rw[if_neg h2,jS (fun h=>h.elim (fun h=>by cases h) (fun h=>by omega)),gh (fun h=>by cases h)]
   simp only[Typ.pv_mk,cl]
   refine ak.intro Q57.2 (by simp[Q57]) ?_
   simp(disch:=try exact dI) only[Q57,h1,h2,push_cast,seval]
theorem lY (k m M sc:Int)(hk:k=2\/k=3)(w:List (List UInt8))(e:List Typ)(f:List TFd)(s:List UInt8)(ht:jV 1 (.mk k m M sc w e f)):ak Tryz.prog ap 57 [(Typ.mk k m M sc w e f).pv,.str s] (.tup [vPQ k (rdN sc s),.int .i64 (ii (.mk k m M sc w e f) (rdN sc s))]):=by
 have hA:=fun q (h:QOk q)=>pM (.mk k m M sc w e f) q ht ⟨show 1<=k by omega,show k<=7 by omega⟩ h
 have hp:=JT s
 have hI:=fun h=>(oO (s:=s) h).1
 unfold rdN
 generalize (aZ s).1.1=n at *
 generalize (aZ s).1.2=c at *
 generalize (aZ s).2=z at *
 have n1:¬ k=1:=by omega
 by_cases hz:z=0
 ·rw[if_neg (fun q=>q hz)]
  by_cases hs:(c:Int)=sc
  ·rw[if_neg (fun q=>q hs),iS (.inl rfl)]
   obtain⟨i1,i2,i3⟩:=hI hz
   obtain⟨L,hL,hE⟩:=hA (n,(c:Int),[]) (qok _ _ _ (by omega) (by omega) (by decide))
   generalize ii (.mk k m M sc w e f) ((n,(c:Int),[]),0)=E at *
   simp only[Typ.kind,Typ.pv_mk,jq,eP] at hL ⊢
   subst hs
   refine ak.intro Q57.2 (by simp[Q57]) ?_
   rcases hk with rfl | rfl
   all_goals
    simp(disch:=try exact dI) only[Q57,push_cast,seval]
    refine ab.pure hp rfl ?_
    simp(disch:=try exact dI) only[hz,push_cast,seval]
    refine ab.pure hL rfl ?_
    rcases hE with ⟨h2,rfl⟩ | ⟨h2,_,rfl⟩
    ·simp(disch:=try exact dI) only[h2,Int.lt_irrefl,push_cast,seval]
    ·simp(disch:=try exact dI) only[h2,push_cast,seval]
  ·rw[if_pos hs,jS (fun h=>h.elim (fun h=>by cases h) (fun h=>by omega)),gh (fun h=>by cases h)]
   simp only[Typ.pv_mk,cl]
   refine ak.intro Q57.2 (by simp[Q57]) ?_
   rcases hk with rfl | rfl
   all_goals
    simp(disch:=try exact dI) only[Q57,push_cast,seval]
    refine ab.pure hp rfl ?_
    simp(disch:=try exact dI) only[hz,hs,push_cast,seval]
 ·rw[if_pos hz,jS (fun h=>h.elim (fun h=>by cases h) (fun h=>by omega)),gh (fun h=>by cases h)]
  simp only[Typ.pv_mk,cl]
  refine ak.intro Q57.2 (by simp[Q57]) ?_
  rcases hk with rfl | rfl
  all_goals
   simp(disch:=try exact dI) only[Q57,push_cast,seval]
   refine ab.pure hp rfl ?_
   simp(disch:=try exact dI) only[hz,push_cast,seval]
theorem vD (m M:Int)(w:List (List UInt8))(e:List Typ)(f:List TFd)(s:List UInt8)(hsl:s.length<=1000000)(ht:jV 1 (.mk 4 m M 0 w e f)):ak Tryz.prog ap 57 [(Typ.mk 4 m M 0 w e f).pv,.str s] (.tup [vPQ 4 (rdT s),.int .i64 (ii (.mk 4 m M 0 w e f) (rdT s))]):=by
 have hA:=fun q (h:QOk q)=>pM (.mk 4 m M 0 w e f) q ht ⟨show (1:Int)<=4 by decide,show (4:Int)<=7 by decide⟩ h
 have hf:=Cc s (by omega)
 obtain⟨v1,v2⟩:=fb s s.length 0 (by omega) (by omega)
 have hw:=jL s (by omega)
 rw[List.drop_zero] at v1 v2
 generalize dX s s.length 0=u at *
 unfold rdT
 cases hv:Lib.validD s with
 | false=>
   have hu:=v2 hv
   rw[if_pos rfl,jS (fun h=>h.elim (fun h=>by cases h) (fun h=>by omega)),gh (fun h=>by cases h)]
   simp only[Typ.pv_mk,cl]
   refine ak.intro Q57.2 (by simp[Q57]) ?_
   simp(disch:=try exact dI) only[Q57,push_cast,seval]
   refine ab.pure hf rfl ?_
   simp(disch:=try exact dI) only[hu,push_cast,seval]
 | true=>
   have hu:=v1 hv
   subst hu
   rw[if_neg (by decide)]
   cases hb:wrB s with
   | false=>
     rw[hb] at hw
     rw[if_pos rfl,jS (fun h=>h.elim (fun h=>by cases h) (fun h=>by omega)),gh (fun h=>by cases h)]
     simp only[Typ.pv_mk,cl]
     refine ak.intro Q57.2 (by simp[Q57]) ?_
     simp(disch:=try exact dI) only[Q57,push_cast,seval]
     refine ab.pure hf rfl ?_
     refine zgZ ?_
     refine ab.pure hw rfl ?_
     exact qsZ
   | true=>
     rw[hb] at hw
     rw[if_neg (by decide),iS (.inl rfl)]
     obtain⟨L,hL,hE⟩:=hA (0,0,s) (qok _ _ _ (by decide) (by decide) hsl)
     generalize ii (.mk 4 m M 0 w e f) ((0,0,s),0)=E at *
     simp only[Typ.kind,Typ.pv_mk,jq,eP] at hL ⊢
     refine ak.intro Q57.2 (by simp[Q57]) ?_
     simp(disch:=try exact dI) only[Q57,push_cast,seval]
     refine ab.pure hf rfl ?_
     refine zgZ ?_
     refine ab.pure hw rfl ?_
     refine zgZ ?_
     refine ab.pure hL rfl ?_
     rcases hE with ⟨h2,rfl⟩ | ⟨h2,_,rfl⟩
     ·simp(disch:=try exact dI) only[h2,Int.lt_irrefl,push_cast,seval]
     ·simp(disch:=try exact dI) only[h2,push_cast,seval]
theorem l6 (k m M:Int)(hk:k=6\/k=7)(w:List (List UInt8))(e:List Typ)(f:List TFd)(s:List UInt8)(ht:jV 1 (.mk k m M 0 w e f))(n z:Int)(hn:ak Tryz.prog ap (if k=6 then 117 else 118) [.str s] (.tup [.int .i64 n,.int .i64 z]))(hq:z=0->QOk (n,0,[])):ak Tryz.prog ap 57 [(Typ.mk k m M 0 w e f).pv,.str s] (.tup [vPQ k ((n,0,[]),z),.int .i64 (ii (.mk k m M 0 w e f) ((n,0,[]),z))]):=by
 have hA:=fun q (h:QOk q)=>pM (.mk k m M 0 w e f) q ht ⟨show 1<=k by omega,show k<=7 by omega⟩ h
 rw[iS (.inr (show 6<=k by omega))]
 by_cases hz:z=0
 ·subst hz
  obtain⟨L,hL,hE⟩:=hA (n,0,[]) (hq rfl)
  generalize ii (.mk k m M 0 w e f) ((n,0,[]),0)=E at *
  simp only[Typ.kind,Typ.pv_mk,jq,eP] at hL ⊢
  refine ak.intro Q57.2 (by simp[Q57]) ?_
  rcases hk with rfl | rfl
  case' inl=>rw[if_pos rfl] at hn
  case' inr=>rw[if_neg (by decide)] at hn
  all_goals
   simp(disch:=try exact dI) only[Q57,push_cast,seval]
   refine ab.pure hn rfl ?_
   refine zgZ ?_
   refine ab.pure hL rfl ?_
   rcases hE with ⟨h2,rfl⟩ | ⟨h2,_,rfl⟩
   ·simp(disch:=try exact dI) only[h2,Int.lt_irrefl,push_cast,seval]
   ·simp(disch:=try exact dI) only[h2,push_cast,seval]
 ·rw[gh hz]
  simp only[Typ.pv_mk,jq,eP]
  refine ak.intro Q57.2 (by simp[Q57]) ?_
  rcases hk with rfl | rfl
  case' inl=>rw[if_pos rfl] at hn
  case' inr=>rw[if_neg (by decide)] at hn
  all_goals
   simp(disch:=try exact dI) only[Q57,push_cast,seval]
   refine ab.pure hn rfl ?_
   simp(disch:=try exact dI) only[hz,push_cast,seval]
theorem OQ {a b:UInt8}(ha:¬ nib a<0)(hb:¬ nib b<0):u8s [.int .u8 (16*nib a+nib b)]=some [Lf a b]:=by
 rw[<- nR ha hb]
 exact gu [Lf a b]
theorem vC (m M:Int)(w:List (List UInt8))(e:List Typ)(f:List TFd)(s:List UInt8)(hsl:s.length<=1000000)(ht:jV 1 (.mk 5 m M 0 w e f)):ak Tryz.prog ap 57 [(Typ.mk 5 m M 0 w e f).pv,.str s] (.tup [vPQ 5 (rdO (kK s)),.int .i64 (ii (.mk 5 m M 0 w e f) (rdO (kK s)))]):=by
 have hA:=fun q (h:QOk q)=>pM (.mk 5 m M 0 w e f) q ht ⟨show (1:Int)<=5 by decide,show (5:Int)<=7 by decide⟩ h
 have hno:vPQ 5 (rdO none)=cl/\ii (.mk 5 m M 0 w e f) (rdO none)=13:=⟨jS (fun h=>h.elim (fun h=>by cases h) (fun h=>by omega)),gh (fun h=>by cases h)⟩
 have hyes:∀ b,vPQ 5 (rdO (some b))=eP 5 0 0 b:=fun b=>iS (.inl rfl)
 have hlen:∀ b,kK s=some b->b.length<=1000000:=fun b h=>by have:=nB h;omega
 have hEb:∀ b,rdO (some b)=((0,0,b),0):=fun _=>rfl
 obtain⟨R,hR⟩:∃ R,R=kK s:=⟨_,rfl⟩
 rw[<- hR] at hlen ⊢
 refine ak.intro Q57.2 (by simp[Q57]) ?_
 simp only[Typ.pv_mk]
 simp(disch:=try exact dI) only[Q57,push_cast,seval]
 refine am ([]) (fun x:Nat×List UInt8=>[(10,.pv (.int .i64 (x.1:Int)))]) (fun x=>[(2,.cells 36 true [.pv (.int .i64 5),.pv (.int .i64 0),.pv (.int .i64 0),.pv (.str x.2),.pv .nils,.pv .nils])]) (fun x=>x.1<=s.length/\x.2.length<=x.1/\R=(kK (s.drop x.1)).map (x.2 ++ ·)) (fun x=>s.length - x.1) ((0,[])) ?_;intro e0 σ0 n0 h0;simp(disch:=try exact dI) only[push_cast,seval] at h0;obtain⟨rfl,rfl,rfl⟩:=h0;refine⟨?_,?_,?_⟩
 ·exact qsZ
 ·exact⟨by simp,by simp,by simp[hR]⟩
 rintro⟨i,l⟩ ⟨h1,h4,h5⟩
 simp only at h1 h4 h5
 by_cases hi:i<s.length
 ·obtain⟨x,hx⟩:∃ x,s[i]? = some x:=⟨_,List.getElem?_eq_getElem hi⟩
  have hiI:(i:Int)<(s.length:Int):=by omega
  have n1:=pb x
  rw[a8 hx] at h5
  by_cases hl:i+1=s.length
  ·have hlI:(i:Int)+1=(s.length:Int):=by omega
   rw[hl,List.drop_length] at h5
   obtain rfl:R=none:=h5
   rw[hno.1,hno.2]
   simp(disch:=try exact dI) only[hiI,hlI,cl,push_cast,seval]
  ·have hlI:¬ (i:Int)+1=(s.length:Int):=by omega
   obtain⟨y,hy⟩:∃ y,s[i+1]? = some y:=⟨_,List.getElem?_eq_getElem (by omega)⟩
   have n2:=pb y
   have a1:=fZ x
   have a2:=fZ y
   rw[a8 hy,kK] at h5
   by_cases hxn:nib x<0
   ·rw[if_pos (Or.inl hxn)] at h5
    obtain rfl:R=none:=h5
    rw[hno.1,hno.2]
    generalize nib x=u at *
    simp(disch:=try exact dI) only[hiI,hlI,hx,aq,push_cast,seval]
    refine ab.pure n1 rfl ?_
    simp(disch:=try exact dI) only[hxn,cl,push_cast,seval]
   ·by_cases hyn:nib y<0
    ·rw[if_pos (Or.inr hyn)] at h5
     obtain rfl:R=none:=h5
     rw[hno.1,hno.2]
     generalize nib x=u at *
     generalize nib y=v at *
     simp(disch:=try exact dI) only[hiI,hlI,hx,aq,push_cast,seval]
     refine ab.pure n1 rfl ?_
     simp(disch:=try exact dI) only[hxn,hy,aq,push_cast,seval]
     refine ab.pure n2 rfl ?_
     simp(disch:=try exact dI) only[hyn,cl,push_cast,seval]
    ·rw[if_neg (fun h=>h.elim hxn hyn)] at h5
     have hb:=nR hxn hyn
     have hU:=OQ hxn hyn
     generalize nib x=u at *
     generalize nib y=v at *
     generalize Lf x y=c at *
     have hw:=c.toNat_lt
     have hb0:0<=16*u+v/\16*u+v<=255:=by omega
     simp(disch:=try exact dI) only[hiI,hlI,hx,aq,push_cast,seval]
     refine ab.pure n1 rfl ?_
     simp(disch:=try exact dI) only[hxn,hy,aq,push_cast,seval]
     refine ab.pure n2 rfl ?_
     simp(disch:=try exact dI) only[hyn,hx,aq,push_cast,seval]
     refine ae n1 rfl ?_
     simp(disch:=try exact dI) only[hy,aq,push_cast,seval]
     refine ae n2 rfl ?_
     simp(disch:=try exact dI) only[hU,push_cast,seval]
     have e2:((i:Int)+2)=(i:Int)+1+1:=by omega
     exact⟨(i+1+1,l++[c]),aI (by simp(disch:=try exact dI) only[e2,push_cast,seval]),⟨by simp only;omega,by simp only[List.length_append,List.length_cons,List.length_nil];omega,by rw[h5,Option.map_map];simp[Function.comp_def]⟩,by simp only;omega⟩
 ·obtain rfl:i=s.length:=by omega
  rw[List.drop_length,kK] at h5
  simp only[Option.map_some,List.append_nil] at h5
  subst h5
  obtain⟨L,hL,hE⟩:=hA (0,0,l) (qok _ _ _ (by decide) (by decide) (hlen l rfl))
  rw[hyes,hEb]
  generalize ii (.mk 5 m M 0 w e f) ((0,0,l),0)=E at *
  simp only[Typ.kind,Typ.pv_mk,jq,eP] at hL ⊢
  simp(disch:=try exact dI) only[Int.lt_irrefl,push_cast,seval]
  refine ab.pure hL rfl ?_
  rcases hE with ⟨h2,rfl⟩ | ⟨h2,_,rfl⟩
  ·simp(disch:=try exact dI) only[h2,Int.lt_irrefl,push_cast,seval]
  ·simp(disch:=try exact dI) only[h2,push_cast,seval]
theorem Ez (t:Typ)(s:List UInt8)(ho:dr t=0)(ht:jV 1 t)(hk:1<=t.kind/\t.kind<=7)(hs:s.length<=1000000):ak Tryz.prog ap 57 [t.pv,.str s] (.tup [vPQ t.kind (rdR t s),.int .i64 (ii t (rdR t s))]):=by
 obtain⟨k,m,M,sc,w,e,f⟩:=t
 simp only[Typ.kind] at hk ⊢
 have hR:rdR (.mk k m M sc w e f) s=rdC k sc s:=rfl
 rw[hR]
 by_cases h3:k=3
 ·rw[show rdC k sc s=rdN sc s by unfold rdC;rw[if_neg (by omega),if_pos (.inr h3)]]
  exact lY k m M sc (.inr h3) w e f s ht
 ·obtain rfl:=oP ho h3
  by_cases h2:k=2
  ·rw[show rdC k 0 s=rdN 0 s by unfold rdC;rw[if_neg (by omega),if_pos (.inl h2)]]
   exact lY k m M 0 (.inl h2) w e f s ht
  ·have e1:k=1\/k=4\/k=5\/k=6\/k=7:=by omega
   rcases e1 with rfl | rfl | rfl | rfl | rfl
   ·rw[Nj];exact vE m M w e f s ht
   ·rw[Ni];exact vD m M w e f s hs ht
   ·rw[Nh];exact vC m M w e f s hs ht
   ·rw[JF]
    have hq:=sZ 6 0 s hs
    rw[JF] at hq
    exact l6 6 m M (.inl rfl) w e f s ht _ _ (by rw[if_pos rfl];exact sQ s) hq
   ·rw[JE]
    have hq:=sZ 7 0 s hs
    rw[JE] at hq
    exact l6 7 m M (.inr rfl) w e f s ht _ _ (by rw[if_neg (by decide)];exact rp s) hq
end Go.Proofs.YtbojpfpliibfbaaGreatDoor

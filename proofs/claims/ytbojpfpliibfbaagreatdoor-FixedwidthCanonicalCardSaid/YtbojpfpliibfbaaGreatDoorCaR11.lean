/- A part of the proof. -/
import Derived.Test.YtbojpfpliibfbaaGreatDoorCaRSg
set_option maxHeartbeats 16000000
set_option maxRecDepth 100000
set_option linter.unusedVariables false
set_option linter.unusedSimpArgs false
namespace Go.Proofs.YtbojpfpliibfbaaGreatDoor
open Go Go.Ab
attribute [local irreducible] vc
theorem sW (f:Nat)(a b:List PV):PV.one (.clo f a b)=true:=rfl
theorem oD:PV.one .nilf=true:=rfl
theorem nW:ag Tryz.prog au 43 [] (.agg [.nilf,.clo 84 [] [],.clo 82 [] [],.clo 82 [] [],.clo 85 [] [],.clo 86 [] [],.clo 87 [] [],.clo 89 [] []]):=by
 refine ag.intro Q43.2 (by simp[Q43]) ?_
 simp(disch:=try exact dI) only[Q43,sW,oD,push_cast,seval]
def Mn:PV:=.agg [.nilf,.clo 84 [] [],.clo 82 [] [],.clo 82 [] [],.clo 85 [] [],.clo 86 [] [],.clo 87 [] [],.clo 89 [] []]
theorem PN:dA false 8 1 (.pv Mn) (.pv (.int .i64 2))=some (.pv (.clo 82 [] [])):=rfl
theorem PM:dA false 8 1 (.pv Mn) (.pv (.int .i64 3))=some (.pv (.clo 82 [] [])):=rfl
theorem r7 {n:Int}{sc:Nat}(hn:IsN n sc):ag Tryz.prog au 82 [.agg [.int .i64 0,.int .i64 n,.int .i64 (sc:Int),.str [],.nils,.nils]] (.str (ce n sc)):=by
 have h:=yH hn
 generalize ce n sc=d at h ⊢
 refine ag.intro Q82.2 (by simp[Q82]) ?_
 simp(disch:=try exact dI) only[Q82,push_cast,seval]
 refine ab.pure h rfl ?_
 exact qsZ
theorem s7 {k m M:Int}{sc:Nat}{w:List (List UInt8)}{e:List Typ}{f:List TFd}{n:Int}(hn:IsN n sc):ag Tryz.prog au 73 [(Typ.mk k m M (sc:Int) w e f).pv,.int .i64 n] (.str (ce n sc)):=by
 have h:=IM hn
 generalize ce n sc=d at h ⊢
 refine ag.intro Q73.2 (by simp[Q73]) ?_
 simp(disch:=try exact dI) only[Q73,Typ.pv_mk,push_cast,seval]
 refine ab.pure h rfl ?_
 exact qsZ
theorem mY {k m M s:Int}{w:List (List UInt8)}{e:List Typ}{f:List TFd}(h:dK (.mk k m M s w e f)=0):fE k (.mk k m M s w e f)=false:=by
 rw[dK] at h
 by_cases a:inB k 1 10=false
 ·rw[if_pos a] at h;exact absurd h (by decide)
 rw[if_neg a] at h
 by_cases b:fE k (.mk k m M s w e f)=true
 ·rw[if_pos b] at h;exact absurd h (by decide)
 ·simpa using b
theorem qQ {k m M s:Int}{w:List (List UInt8)}{e:List Typ}{f:List TFd}(h:dK (.mk k m M s w e f)=0)(hk:k=2\/k=3):∃ sc:Nat,s=(sc:Int)/\IsN m sc/\IsN M sc:=by
 have hb:=(bm h).2.1
 have hf:=mY h
 unfold dh at hb
 have h4:¬ (k=4/\0<w.length):=by omega
 rw[if_neg h4] at hb
 by_cases hc:(2<=k/\k<=8)/\(M<m\/m<loK k\/hiK k<M)
 ·rw[if_pos hc] at hb;exact absurd hb (by decide)
 rw[if_neg hc] at hb
 have h1:¬ (M<m\/m<loK k\/hiK k<M):=fun hh=>hc ⟨by omega,hh⟩
 have hs:0<=s/\s<=12:=by
  rcases hk with rfl | rfl
  ·simp only[fE,aL,Bool.or_eq_false_iff] at hf
   have:s=0:=by simpa using hf.2.1
   omega
  ·by_cases hi:inB s 0 12=false
   ·rw[if_pos ⟨rfl,hi⟩] at hb;exact absurd hb (by decide)
   ·simpa[inB] using hi
 have hl:loK k = -999999999999999/\hiK k=999999999999999:=by rcases hk with rfl | rfl<;>exact⟨rfl,rfl⟩
 rw[hl.1,hl.2] at h1
 refine⟨s.toNat,by omega,?_,?_⟩
 ·unfold IsN;omega
 ·unfold IsN;omega
theorem qP {m M s:Int}{w:List (List UInt8)}{e:List Typ}{f:List TFd}(h:dK (.mk 5 m M s w e f)=0):0<=M/\M<=1024:=by
 have hb:=(bm h).2.1
 unfold dh at hb
 rw[if_neg (fun hh=>absurd hh.1 (by decide))] at hb
 by_cases hc:(2<=(5:Int)/\(5:Int)<=8)/\(M<m\/m<loK 5\/hiK 5<M)
 ·rw[if_pos hc] at hb;exact absurd hb (by decide)
 have h1:¬ (M<m\/m<loK 5\/hiK 5<M):=fun hh=>hc ⟨by decide,hh⟩
 rw[show loK 5=0 from rfl,show hiK 5=1024 from rfl] at h1
 omega
theorem fa:∀ (k a:Nat),(aQ k a).length=k
 | 0,_=>rfl
 | k+1,a=>by rw[aQ,List.length_append,fa k];rfl
theorem GC {n:Int}{sc:Nat}(hn:IsN n sc):1<=((ce n sc).length:Int):=by
 simp only[ce,List.length_append,fa]
 omega
def mH (w:List (List UInt8))(a:Int):Int:=w.foldl (fun (a:Int) (x:List UInt8)=>max a (x.length:Int)) a
theorem r8:∀ (w:List (List UInt8)) (a:Int),mH w (max 1 a)=max (mH w a) 1
 | [],a=>by simp only[mH,List.foldl_nil];omega
 | x::r,a=>by
   have h:=r8 r (max a (x.length:Int))
   simp only[mH,List.foldl_cons] at h ⊢
   rw[<- h];congr 1;omega
theorem nY {w:List (List UInt8)}{i:Nat}{x:List UInt8}(h:w[i]? = some x)(a:Int):mH (w.take (i+1)) a=max (mH (w.take i) a) (x.length:Int):=iB h a
def dm:Typ->Int
 | .mk k m M s w _ _=>if k=2\/k=3 then max ((ce m s.toNat).length:Int) ((ce M s.toNat).length:Int) else if k=4 then max (mH w M) 1 else if k=5 then max (2*M) 1 else if k=6 then 10 else if k=7 then 24 else 1
theorem Ir (k m M s:Int)(w:List (List UInt8))(e:List Typ)(f:List TFd)(ho:dK (.mk k m M s w e f)=0)(ht:(Typ.mk k m M s w e f).ok)(hk:1<=k/\k<=7):ag Tryz.prog au 35 [(Typ.mk k m M s w e f).pv] (.int .i64 (dm (.mk k m M s w e f))):=by
 rw[Typ.ok_mk] at ht
 have hwl:w.length<=9000000000000:=by omega
 clear ht
 by_cases h23:k=2\/k=3
 ·obtain⟨sc,rfl,hm,hM⟩:=qQ ho h23
  have h1:=r7 hm
  have h2:=r7 hM
  have hw:ag Tryz.prog au 43 [] Mn:=nW
  have hp:=GC hm
  rw[show dm (.mk k m M (sc:Int) w e f)=max ((ce m sc).length:Int) ((ce M sc).length:Int) by simp only[dm,if_pos h23,Int.toNat_natCast]]
  generalize ce m sc=a at *
  generalize ce M sc=b at *
  have hx:max (max (a.length:Int) (b.length:Int)) 1=max (a.length:Int) (b.length:Int):=by omega
  refine ag.intro Q35.2 (by simp[Q35]) ?_
  rcases h23 with rfl | rfl
  ·simp(disch:=try exact dI) only[Q35,Typ.pv_mk,push_cast,seval]
   refine aq hw rfl ?_
   simp(disch:=try exact dI) only[PN,push_cast,seval]
   refine aq h1 rfl ?_
   refine zgZ ?_
   refine aq h2 rfl ?_
   simp(disch:=try exact dI) only[hx,push_cast,seval]
  ·simp(disch:=try exact dI) only[Q35,Typ.pv_mk,push_cast,seval]
   refine aq hw rfl ?_
   simp(disch:=try exact dI) only[PM,push_cast,seval]
   refine aq h1 rfl ?_
   refine zgZ ?_
   refine aq h2 rfl ?_
   simp(disch:=try exact dI) only[hx,push_cast,seval]
 by_cases h4:k=4
 ·subst h4
  rw[show dm (.mk 4 m M s w e f)=max (mH w M) 1 from rfl]
  refine ag.intro Q35.2 (by simp[Q35]) ?_
  simp(disch:=try exact dI) only[Q35,Typ.pv_mk,push_cast,seval]
  refine az ([]) (fun i:Nat=>[(3,.pv (.int .i64 (mH (w.take i) M))),(40,.pv (.int .i64 (i:Int)))]) (fun _=>[]) (fun i=>i<=w.length) (fun i=>w.length - i) (0) ?_;intro e0 σ0 n0 h0;simp(disch:=try exact dI) only[push_cast,seval] at h0;obtain⟨rfl,rfl,rfl⟩:=h0;refine⟨?_,?_,?_⟩
  ·simp(disch:=try exact dI) only[List.take_zero,mH,List.foldl_nil,push_cast,seval]
  ·omega
  rintro i hi
  by_cases hlt:i<w.length
  ·have hltI:(i:Int)<(w.length:Int):=by omega
   obtain⟨x,hx⟩:∃ x,w[i]? = some x:=⟨_,List.getElem?_eq_getElem hlt⟩
   have hst:=nY hx M
   simp(disch:=try exact dI) only[hx,Option.map_some,push_cast,seval]
   exact⟨i+1,aZ (by simp(disch:=try exact dI) only[hst,push_cast,seval]),by omega,by omega⟩
  ·obtain rfl:i=w.length:=by omega
   rw[List.take_length]
   simp(disch:=try exact dI) only[Int.lt_irrefl,push_cast,seval]
 by_cases h5:k=5
 ·subst h5
  have hM:=qP ho
  rw[show dm (.mk 5 m M s w e f)=max (2*M) 1 from rfl]
  refine ag.intro Q35.2 (by simp[Q35]) ?_
  simp(disch:=try exact dI) only[Q35,Typ.pv_mk,push_cast,seval]
 by_cases h6:k=6
 ·subst h6
  rw[show dm (.mk 6 m M s w e f)=10 from rfl]
  refine ag.intro Q35.2 (by simp[Q35]) ?_
  simp(disch:=try exact dI) only[Q35,Typ.pv_mk,show max (10:Int) 1=10 from rfl,push_cast,seval]
 by_cases h7:k=7
 ·subst h7
  rw[show dm (.mk 7 m M s w e f)=24 from rfl]
  refine ag.intro Q35.2 (by simp[Q35]) ?_
  simp(disch:=try exact dI) only[Q35,Typ.pv_mk,show max (24:Int) 1=24 from rfl,push_cast,seval]
 ·obtain rfl:k=1:=by omega
  rw[show dm (.mk 1 m M s w e f)=1 from rfl]
  refine ag.intro Q35.2 (by simp[Q35]) ?_
  simp(disch:=try exact dI) only[Q35,Typ.pv_mk,show max (1:Int) 1=1 from rfl,push_cast,seval]
theorem LC (k m M s:Int)(w:List (List UInt8))(e:List Typ)(f:List TFd)(ho:dK (.mk k m M s w e f)=0)(ht:(Typ.mk k m M s w e f).ok)(hk:1<=k/\k<=7):ag Tryz.prog au 30 [(Typ.mk k m M s w e f).pv] (.int .i64 (dm (.mk k m M s w e f))):=by
 rw[Typ.ok_mk] at ht
 have hwl:w.length<=9000000000000:=by omega
 clear ht
 by_cases h23:k=2\/k=3
 ·obtain⟨sc,rfl,hm,hM⟩:=qQ ho h23
  have h1:=s7 (k:=k) (m:=m) (M:=M) (w:=w) (e:=e) (f:=f) hm
  have h2:=s7 (k:=k) (m:=m) (M:=M) (w:=w) (e:=e) (f:=f) hM
  rw[show dm (.mk k m M (sc:Int) w e f)=max ((ce m sc).length:Int) ((ce M sc).length:Int) by simp only[dm,if_pos h23,Int.toNat_natCast]]
  generalize ce m sc=a at *
  generalize ce M sc=b at *
  simp only[Typ.pv_mk] at h1 h2
  refine ag.intro Q30.2 (by simp[Q30]) ?_
  rcases h23 with rfl | rfl
  ·simp(disch:=try exact dI) only[Q30,Typ.pv_mk,push_cast,seval]
   refine aq h1 rfl ?_
   refine zgZ ?_
   refine aq h2 rfl ?_
   exact qsZ
  ·simp(disch:=try exact dI) only[Q30,Typ.pv_mk,push_cast,seval]
   refine aq h1 rfl ?_
   refine zgZ ?_
   refine aq h2 rfl ?_
   exact qsZ
 by_cases h4:k=4
 ·subst h4
  rw[show dm (.mk 4 m M s w e f)=max (mH w M) 1 from rfl,<- r8]
  refine ag.intro Q30.2 (by simp[Q30]) ?_
  simp(disch:=try exact dI) only[Q30,Typ.pv_mk,push_cast,seval]
  refine az ([]) (fun i:Nat=>[(3,.pv (.int .i64 (mH (w.take i) (max 1 M)))),(4,.pv (.int .i64 (i:Int)))]) (fun _=>[]) (fun i=>i<=w.length) (fun i=>w.length - i) (0) ?_;intro e0 σ0 n0 h0;simp(disch:=try exact dI) only[push_cast,seval] at h0;obtain⟨rfl,rfl,rfl⟩:=h0;refine⟨?_,?_,?_⟩
  ·simp(disch:=try exact dI) only[List.take_zero,mH,List.foldl_nil,push_cast,seval]
  ·omega
  rintro i hi
  by_cases hlt:i<w.length
  ·have hltI:(i:Int)<(w.length:Int):=by omega
   obtain⟨x,hx⟩:∃ x,w[i]? = some x:=⟨_,List.getElem?_eq_getElem hlt⟩
   have hst:=nY hx (max 1 M)
   simp(disch:=try exact dI) only[hx,Option.map_some,push_cast,seval]
   exact⟨i+1,aZ (by simp(disch:=try exact dI) only[hst,push_cast,seval]),by omega,by omega⟩
  ·obtain rfl:i=w.length:=by omega
   rw[List.take_length]
   simp(disch:=try exact dI) only[Int.lt_irrefl,push_cast,seval]
 by_cases h5:k=5
 ·subst h5
  have hM:=qP ho
  rw[show dm (.mk 5 m M s w e f)=max (2*M) 1 from rfl,Int.max_comm]
  refine ag.intro Q30.2 (by simp[Q30]) ?_
  simp(disch:=try exact dI) only[Q30,Typ.pv_mk,push_cast,seval]
 by_cases h6:k=6
 ·subst h6
  rw[show dm (.mk 6 m M s w e f)=10 from rfl]
  refine ag.intro Q30.2 (by simp[Q30]) ?_
  simp(disch:=try exact dI) only[Q30,Typ.pv_mk,push_cast,seval]
 by_cases h7:k=7
 ·subst h7
  rw[show dm (.mk 7 m M s w e f)=24 from rfl]
  refine ag.intro Q30.2 (by simp[Q30]) ?_
  simp(disch:=try exact dI) only[Q30,Typ.pv_mk,push_cast,seval]
 ·obtain rfl:k=1:=by omega
  rw[show dm (.mk 1 m M s w e f)=1 from rfl]
  refine ag.intro Q30.2 (by simp[Q30]) ?_
  simp(disch:=try exact dI) only[Q30,Typ.pv_mk,push_cast,seval]
theorem go {t:Typ}(h:lN t=0):tyV 8 t:=by
 unfold lN at h
 by_cases h0:(fF 0 8 4096 t).1=0
 ·exact iJ 8 4096 t h0
 ·rw[if_neg h0] at h;exact absurd h h0
theorem iP {n:Nat}{t:Typ}(h:tyV n t):dK t=0:=by
 cases n with
 | zero=>exact h.elim
 | succ n=>obtain⟨k,m,M,s,w,e,f⟩:=t;exact h.1
theorem Mr {n:Nat}{t:Typ}(h:tyV n t)(ht:t.ok)(hs:scB t.kind=true):ag Tryz.prog au 35 [t.pv] (.int .i64 (dm t))/\ag Tryz.prog au 30 [t.pv] (.int .i64 (dm t)):=by
 have ho:=iP h
 obtain⟨k,m,M,s,w,e,f⟩:=t
 have hk:1<=k/\k<=7:=by
  simp only[scB,Typ.kind,Bool.and_eq_true,decide_eq_true_eq] at hs
  exact⟨of_decide_eq_true hs.1,of_decide_eq_true hs.2⟩
 exact⟨Ir k m M s w e f ho ht hk,LC k m M s w e f ho ht hk⟩
theorem cj {t:Typ}(h:eS t=true):t.kind=9/\0<t.fields.length/\∀ g∈t.fields,scB g.typ.kind=true:=by
 obtain⟨k,m,M,s,w,e,f⟩:=t
 simp only[eS,Bool.and_eq_true,decide_eq_true_eq,Bool.not_eq_true'] at h
 refine⟨h.1,h.2.1,fun g hg=>?_⟩
 have:=List.any_eq_false.1 h.2.2 g hg
 rw[K5] at this
 cases hb:scB g.typ.kind with
 | true=>rfl
 | false=>rw[hb] at this;exact absurd rfl this
theorem KI {t:Typ}(h:lN t=0)(ht:t.ok)(hf:eS t=true):∀ g∈t.fields,ag Tryz.prog au 35 [g.typ.pv] (.int .i64 (dm g.typ))/\ag Tryz.prog au 30 [g.typ.pv] (.int .i64 (dm g.typ)):=fun g hg=>by
 have hty:=go h
 obtain⟨h9,_,hs⟩:=cj hf
 have hsg:=hs g hg
 obtain⟨k,m,M,s,w,e,f⟩:=t
 rw[Typ.ok_mk] at ht
 exact Mr (hty.2.2 (.inl h9) g hg).1 (fJ (ht.2.2.2.2.2.2.2.2.2 g hg)).1 hsg
theorem rC {t:Typ}(h:flE t=0):lN t=0/\eS t=true:=by
 unfold flE at h
 by_cases hz:lN t=0
 ·rw[if_pos hz] at h
  cases hb:eS t with
  | true=>exact⟨hz,rfl⟩
  | false=>rw[hb,if_neg (by decide)] at h;cases h
 ·rw[if_neg hz] at h;exact absurd h hz
def AG (s:List UInt8):Bool:=!wrB s
theorem QP (s:List UInt8)(hs:s.length<=140737488351232):ag Tryz.prog au 38 [.str s] (.bool (AG s)):=by
 have h:=jF s hs
 unfold AG
 generalize wrB s=b at *
 refine ag.intro Q38.2 (by simp[Q38]) ?_
 simp(disch:=try exact dI) only[Q38,push_cast,seval]
 refine ab.pure h rfl ?_
 exact qsZ
theorem Kv (l:List (List UInt8))(hw:∀ x∈l,x.length<=140737488351232)(hl:l.length<=9000000000000):ag Tryz.prog au 76 [.list (l.map PV.str),.clo 38 [] []] (.int .i64 (eC AG l 0)):=by
 refine ag.intro Q76.2 (by simp[Q76]) ?_
 simp(disch:=try exact dI) only[Q76,push_cast,seval]
 refine az ([]) (fun m:Nat=>[(8,.pv (.int .i64 (m:Int)))]) (fun m=>[]) (fun m=>m<=l.length/\eC AG l 0=eC AG (l.drop m) m) (fun m=>l.length - m) (0) ?_;intro e0 σ0 n0 h0;simp(disch:=try exact dI) only[push_cast,seval] at h0;obtain⟨rfl,rfl,rfl⟩:=h0;refine⟨?_,?_,?_⟩
 ·exact qsZ
 ·exact⟨by omega,by simp⟩
 ·rintro m ⟨hm,he⟩
  by_cases hlt:m<l.length
  ·have hltI:(m:Int)<l.length:=by omega
   obtain⟨x,hx⟩:∃ x,l[m]? = some x:=⟨_,List.getElem?_eq_getElem hlt⟩
   have hcall:=QP x (hw x (List.mem_of_getElem? hx))
   simp(disch:=try exact dI) only[hx,Option.map_some,push_cast,seval]
   refine ab.pure hcall rfl ?_
   cases hqx:AG x with
   | true=>
     rw[he,eA hx hqx]
     exact qsZ
   | false=>
     rw[cK hx hqx] at he
     refine zgZ ?_
     exact⟨m+1,aZ qsZ,⟨by omega,he⟩,by omega⟩
  ·have hltI:¬ (m:Int)<l.length:=by omega
   rw[he,eB hlt]
   exact qsZ
theorem wS (l:List (List UInt8))(hw:∀ x∈l,x.length<=140737488351232)(hl:l.length<=9000000000000):ag Tryz.prog au 37 [.list (l.map PV.str),.clo 38 [] []] (.bool (l.any AG)):=by
 have h94:=Kv l hw hl
 have hfa:=dr (p:=AG) l
 refine ag.intro Q37.2 (by simp[Q37]) ?_
 rcases bL (p:=AG) l 0 with ⟨h1,h2⟩ | ⟨k,x,h1,h2,h3⟩
 ·rw[h2] at h94
  rw[h1] at hfa
  rw[<- hfa]
  simp(disch:=try exact dI) only[Q37,push_cast,seval]
  refine ab.pure h94 rfl ?_
  refine zgZ ?_
  exact .refl _
 ·rw[h3] at h94
  rw[h2] at hfa
  rw[<- hfa]
  have hk:(0:Int)<=((0+k:Nat):Int):=by omega
  generalize ((0+k:Nat):Int)=z at *
  simp(disch:=try exact dI) only[Q37,push_cast,seval]
  refine ab.pure h94 rfl ?_
  refine zgZ ?_
  exact .refl _
def aT:Typ->Bool
 | .mk k m _ _ w _ _=>if k=4/\0<w.length then w.any fun x=>decide (x=[]) else (decide (k=4)||decide (k=5))&&decide (m=0)
theorem KY (k m M s:Int)(w:List (List UInt8))(e:List Typ)(f:List TFd)(hw:w.length<=9000000000000):ag Tryz.prog au 36 [(Typ.mk k m M s w e f).pv] (.bool (aT (.mk k m M s w e f))):=by
 have hc:=fw w [] hw
 refine ag.intro Q36.2 (by simp[Q36]) ?_
 by_cases h4:k=4
 ·subst h4
  by_cases h0:0<w.length
  ·have h0I:(0:Int)<(w.length:Int):=by omega
   rw[show aT (.mk 4 m M s w e f)=w.any fun x=>decide (x=[]) from if_pos ⟨rfl,h0⟩]
   generalize (w.any fun x=>decide (x=[]))=b at hc ⊢
   simp(disch:=try exact dI) only[Q36,Typ.pv_mk,h0I,push_cast,seval]
   refine ab.pure hc rfl ?_
   exact qsZ
  ·have h0I:¬ (0:Int)<(w.length:Int):=by omega
   rw[show aT (.mk 4 m M s w e f)=decide (m=0) by simp only[aT];rw[if_neg (fun h=>h0 h.2)];simp]
   by_cases hm:m=0
   ·rw[decide_eq_true hm]
    simp(disch:=try exact dI) only[Q36,Typ.pv_mk,h0I,hm,push_cast,seval]
   ·rw[decide_eq_false hm]
    simp(disch:=try exact dI) only[Q36,Typ.pv_mk,h0I,hm,push_cast,seval]
 ·by_cases h5:k=5
  ·subst h5
   rw[show aT (.mk 5 m M s w e f)=decide (m=0) by simp only[aT];rw[if_neg (fun h=>h4 h.1)];simp]
   by_cases hm:m=0
   ·rw[decide_eq_true hm]
    simp(disch:=try exact dI) only[Q36,Typ.pv_mk,hm,push_cast,seval]
   ·rw[decide_eq_false hm]
    simp(disch:=try exact dI) only[Q36,Typ.pv_mk,hm,push_cast,seval]
  ·rw[show aT (.mk k m M s w e f)=false by simp only[aT];rw[if_neg (fun h=>h4 h.1)];simp[h4,h5]]
   simp(disch:=try exact dI) only[Q36,Typ.pv_mk,h4,h5,push_cast,seval]
theorem Ao {k m M s:Int}{w:List (List UInt8)}{e:List Typ}{f:List TFd}(h:dK (.mk k m M s w e f)=0)(h4:¬ k=4):w.length=0:=by
 have hf:=mY h
 simp only[fE,aL,Bool.or_eq_false_iff] at hf
 have:=hf.2.2.1
 rw[decide_eq_false h4] at this
 simpa using this
theorem LN (k m M s:Int)(w:List (List UInt8))(e:List Typ)(f:List TFd)(hw:w.length<=9000000000000)(h:dK (.mk k m M s w e f)=0):ag Tryz.prog au 40 [(Typ.mk k m M s w e f).pv] (.bool (aT (.mk k m M s w e f))):=by
 have hwd:=Ao h
 obtain⟨R,hR⟩:∃ R,R=aT (.mk k m M s w e f):=⟨_,rfl⟩
 rw[<- hR]
 refine ag.intro Q40.2 (by simp[Q40]) ?_
 by_cases h45:k=4\/k=5
 ·have hR0:w.length=0->R=decide (m=0):=fun h0=>by
   rw[hR];simp only[aT]
   rw[if_neg (by omega)]
   rcases h45 with rfl | rfl<;>simp
  have hR1:0<w.length->R=w.any fun x=>decide (x=[]):=fun h0=>by
   rw[hR];simp only[aT]
   rw[if_pos ⟨Decidable.byContradiction fun h4=>by have:=hwd h4;omega,h0⟩]
  clear hwd hR h
  have key:∀ (kk:Int),(kk=4\/kk=5)->k=kk->True:=fun _ _ _=>trivial
  rcases h45 with rfl | rfl
  ·simp(disch:=try exact dI) only[Q40,Typ.pv_mk,push_cast,seval]
   refine az ([]) (fun i:Nat=>[(3,.pv (.int .i64 (i:Int)))]) (fun _=>[]) (fun i=>i<=w.length/\((w.take i).any fun x=>decide (x=[]))=false) (fun i=>w.length - i) (0) ?_;intro e0 σ0 n0 h0;simp(disch:=try exact dI) only[push_cast,seval] at h0;obtain⟨rfl,rfl,rfl⟩:=h0;refine⟨?_,?_,?_⟩
   ·exact qsZ
   ·exact⟨by omega,by simp⟩
   rintro i ⟨hi,hn⟩
   by_cases hlt:i<w.length
   ·have hltI:(i:Int)<(w.length:Int):=by omega
    obtain⟨x,hx⟩:∃ x,w[i]? = some x:=⟨_,List.getElem?_eq_getElem hlt⟩
    by_cases hxe:x=[]
    ·have:R=true:=by rw[hR1 (by omega)];exact List.any_eq_true.2 ⟨x,List.mem_of_getElem? hx,by simp[hxe]⟩
     subst this
     subst hxe
     simp(disch:=try exact dI) only[hx,Option.map_some,push_cast,seval]
    ·have hsn:((w.take (i+1)).any fun x=>decide (x=[]))=false:=by rw[aM hx,List.any_append,hn];simp[hxe]
     simp(disch:=try exact dI) only[hx,Option.map_some,hxe,push_cast,seval]
     exact⟨i+1,aZ qsZ,⟨by omega,hsn⟩,by omega⟩
   ·obtain rfl:i=w.length:=by omega
    rw[List.take_length] at hn
    by_cases h0:w.length=0
    ·rw[hR0 h0]
     by_cases hm:m=0
     ·rw[decide_eq_true hm]
      simp(disch:=try exact dI) only[Int.lt_irrefl,h0,hm,push_cast,seval]
     ·rw[decide_eq_false hm]
      simp(disch:=try exact dI) only[Int.lt_irrefl,h0,hm,push_cast,seval]
    ·have h0I:¬ (w.length:Int)=0:=by omega
     have:R=false:=by rw[hR1 (by omega)];exact hn
     subst this
     simp(disch:=try exact dI) only[Int.lt_irrefl,h0I,push_cast,seval]
  ·simp(disch:=try exact dI) only[Q40,Typ.pv_mk,push_cast,seval]
   refine az ([]) (fun i:Nat=>[(3,.pv (.int .i64 (i:Int)))]) (fun _=>[]) (fun i=>i<=w.length/\((w.take i).any fun x=>decide (x=[]))=false) (fun i=>w.length - i) (0) ?_;intro e0 σ0 n0 h0;simp(disch:=try exact dI) only[push_cast,seval] at h0;obtain⟨rfl,rfl,rfl⟩:=h0;refine⟨?_,?_,?_⟩
   ·exact qsZ
   ·exact⟨by omega,by simp⟩
   rintro i ⟨hi,hn⟩
   by_cases hlt:i<w.length
   ·have hltI:(i:Int)<(w.length:Int):=by omega
    obtain⟨x,hx⟩:∃ x,w[i]? = some x:=⟨_,List.getElem?_eq_getElem hlt⟩
    by_cases hxe:x=[]
    ·have:R=true:=by rw[hR1 (by omega)];exact List.any_eq_true.2 ⟨x,List.mem_of_getElem? hx,by simp[hxe]⟩
     subst this
     subst hxe
     simp(disch:=try exact dI) only[hx,Option.map_some,push_cast,seval]
    ·have hsn:((w.take (i+1)).any fun x=>decide (x=[]))=false:=by rw[aM hx,List.any_append,hn];simp[hxe]
     simp(disch:=try exact dI) only[hx,Option.map_some,hxe,push_cast,seval]
     exact⟨i+1,aZ qsZ,⟨by omega,hsn⟩,by omega⟩
   ·obtain rfl:i=w.length:=by omega
    rw[List.take_length] at hn
    by_cases h0:w.length=0
    ·rw[hR0 h0]
     by_cases hm:m=0
     ·rw[decide_eq_true hm]
      simp(disch:=try exact dI) only[Int.lt_irrefl,h0,hm,push_cast,seval]
     ·rw[decide_eq_false hm]
      simp(disch:=try exact dI) only[Int.lt_irrefl,h0,hm,push_cast,seval]
    ·have h0I:¬ (w.length:Int)=0:=by omega
     have:R=false:=by rw[hR1 (by omega)];exact hn
     subst this
     simp(disch:=try exact dI) only[Int.lt_irrefl,h0I,push_cast,seval]
 ·have h4:¬ k=4:=fun h=>h45 (.inl h)
  have h5:¬ k=5:=fun h=>h45 (.inr h)
  have:R=false:=by rw[hR];simp only[aT];rw[if_neg (fun h=>h4 h.1)];simp[h4,h5]
  subst this
  simp(disch:=try exact dI) only[Q40,Typ.pv_mk,h4,h5,push_cast,seval]
end Go.Proofs.YtbojpfpliibfbaaGreatDoor

/- A part of the proof. -/
import Derived.Test.YtbojpfpliibfbaaGreatDoorMxRSg
set_option maxHeartbeats 16000000
set_option maxRecDepth 100000
set_option linter.unusedVariables false
set_option linter.unusedSimpArgs false
namespace Go.Proofs.YtbojpfpliibfbaaGreatDoor
open Go Go.Ab
attribute [local irreducible] vc
theorem tw (f:Nat)(a b:List PV):PV.one (.clo f a b)=true:=rfl
theorem oH:PV.one .nilf=true:=rfl
theorem n9:ag Tryz.prog aq 43 [] (.agg [.nilf,.clo 84 [] [],.clo 82 [] [],.clo 82 [] [],.clo 85 [] [],.clo 86 [] [],.clo 87 [] [],.clo 89 [] []]):=by
 refine ag.intro Q43.2 (by simp[Q43]) ?_
 simp(disch:=try exact dI) only[Q43,tw,oH,push_cast,seval]
def NH:PV:=.agg [.nilf,.clo 84 [] [],.clo 82 [] [],.clo 82 [] [],.clo 85 [] [],.clo 86 [] [],.clo 87 [] [],.clo 89 [] []]
theorem Rn:dw false 8 1 (.pv NH) (.pv (.int .i64 2))=some (.pv (.clo 82 [] [])):=rfl
theorem Rm:dw false 8 1 (.pv NH) (.pv (.int .i64 3))=some (.pv (.clo 82 [] [])):=rfl
theorem sN {n:Int}{sc:Nat}(hn:IsN n sc):ag Tryz.prog aq 82 [.agg [.int .i64 0,.int .i64 n,.int .i64 (sc:Int),.str [],.nils,.nils]] (.str (ce n sc)):=by
 have h:=zZ hn
 generalize ce n sc=d at h ⊢
 refine ag.intro Q82.2 (by simp[Q82]) ?_
 simp(disch:=try exact dI) only[Q82,push_cast,seval]
 refine ab.pure h rfl ?_
 exact qsZ
theorem tB {k m M:Int}{sc:Nat}{w:List (List UInt8)}{e:List Typ}{f:List TFd}{n:Int}(hn:IsN n sc):ag Tryz.prog aq 73 [(Typ.mk k m M (sc:Int) w e f).pv,.int .i64 n] (.str (ce n sc)):=by
 have h:=Kg hn
 generalize ce n sc=d at h ⊢
 refine ag.intro Q73.2 (by simp[Q73]) ?_
 simp(disch:=try exact dI) only[Q73,Typ.pv_mk,push_cast,seval]
 refine ab.pure h rfl ?_
 exact qsZ
theorem mW {k m M s:Int}{w:List (List UInt8)}{e:List Typ}{f:List TFd}(h:dM (.mk k m M s w e f)=0):fG k (.mk k m M s w e f)=false:=by
 rw[dM] at h
 by_cases a:inB k 1 10=false
 ·rw[if_pos a] at h;exact absurd h (by decide)
 rw[if_neg a] at h
 by_cases b:fG k (.mk k m M s w e f)=true
 ·rw[if_pos b] at h;exact absurd h (by decide)
 ·simpa using b
theorem rt {k m M s:Int}{w:List (List UInt8)}{e:List Typ}{f:List TFd}(h:dM (.mk k m M s w e f)=0)(hk:k=2\/k=3):∃ sc:Nat,s=(sc:Int)/\IsN m sc/\IsN M sc:=by
 have hb:=(bh h).2.1
 have hf:=mW h
 unfold dC at hb
 have h4:¬ (k=4/\0<w.length):=by omega
 rw[if_neg h4] at hb
 by_cases hc:(2<=k/\k<=8)/\(M<m\/m<loK k\/hiK k<M)
 ·rw[if_pos hc] at hb;exact absurd hb (by decide)
 rw[if_neg hc] at hb
 have h1:¬ (M<m\/m<loK k\/hiK k<M):=fun hh=>hc ⟨by omega,hh⟩
 have hs:0<=s/\s<=12:=by
  rcases hk with rfl | rfl
  ·simp only[fG,aK,Bool.or_eq_false_iff] at hf
   have:s=0:=by simpa using hf.2.1
   omega
  ·by_cases hi:inB s 0 12=false
   ·rw[if_pos ⟨rfl,hi⟩] at hb;exact absurd hb (by decide)
   ·simpa[inB] using hi
 have hl:loK k = -999999999999999/\hiK k=999999999999999:=by rcases hk with rfl | rfl<;>exact⟨rfl,rfl⟩
 rw[hl.1,hl.2] at h1
 refine⟨s.toNat,by omega,?_,?_⟩
 ·unfold IsN;omega
 ·unfold IsN;omega
theorem rr {m M s:Int}{w:List (List UInt8)}{e:List Typ}{f:List TFd}(h:dM (.mk 5 m M s w e f)=0):0<=M/\M<=1024:=by
 have hb:=(bh h).2.1
 unfold dC at hb
 rw[if_neg (fun hh=>absurd hh.1 (by decide))] at hb
 by_cases hc:(2<=(5:Int)/\(5:Int)<=8)/\(M<m\/m<loK 5\/hiK 5<M)
 ·rw[if_pos hc] at hb;exact absurd hb (by decide)
 have h1:¬ (M<m\/m<loK 5\/hiK 5<M):=fun hh=>hc ⟨by decide,hh⟩
 rw[show loK 5=0 from rfl,show hiK 5=1024 from rfl] at h1
 omega
theorem e7:∀ (k a:Nat),(aQ k a).length=k
 | 0,_=>rfl
 | k+1,a=>by rw[aQ,List.length_append,e7 k];rfl
theorem HZ {n:Int}{sc:Nat}(hn:IsN n sc):1<=((ce n sc).length:Int):=by
 simp only[ce,List.length_append,e7]
 omega
def mD (w:List (List UInt8))(a:Int):Int:=w.foldl (fun (a:Int) (x:List UInt8)=>max a (x.length:Int)) a
theorem sO:∀ (w:List (List UInt8)) (a:Int),mD w (max 1 a)=max (mD w a) 1
 | [],a=>by simp only[mD,List.foldl_nil];omega
 | x::r,a=>by
   have h:=sO r (max a (x.length:Int))
   simp only[mD,List.foldl_cons] at h ⊢
   rw[<- h];congr 1;omega
theorem oa {w:List (List UInt8)}{i:Nat}{x:List UInt8}(h:w[i]? = some x)(a:Int):mD (w.take (i+1)) a=max (mD (w.take i) a) (x.length:Int):=iA h a
def cD:Typ->Int
 | .mk k m M s w _ _=>if k=2\/k=3 then max ((ce m s.toNat).length:Int) ((ce M s.toNat).length:Int) else if k=4 then max (mD w M) 1 else if k=5 then max (2*M) 1 else if k=6 then 10 else if k=7 then 24 else 1
theorem JT (k m M s:Int)(w:List (List UInt8))(e:List Typ)(f:List TFd)(ho:dM (.mk k m M s w e f)=0)(ht:(Typ.mk k m M s w e f).ok)(hk:1<=k/\k<=7):ag Tryz.prog aq 35 [(Typ.mk k m M s w e f).pv] (.int .i64 (cD (.mk k m M s w e f))):=by
 rw[Typ.ok_mk] at ht
 have hwl:w.length<=9000000000000:=by omega
 clear ht
 by_cases h23:k=2\/k=3
 ·obtain⟨sc,rfl,hm,hM⟩:=rt ho h23
  have h1:=sN hm
  have h2:=sN hM
  have hw:ag Tryz.prog aq 43 [] NH:=n9
  have hp:=HZ hm
  rw[show cD (.mk k m M (sc:Int) w e f)=max ((ce m sc).length:Int) ((ce M sc).length:Int) by simp only[cD,if_pos h23,Int.toNat_natCast]]
  generalize ce m sc=a at *
  generalize ce M sc=b at *
  have hx:max (max (a.length:Int) (b.length:Int)) 1=max (a.length:Int) (b.length:Int):=by omega
  refine ag.intro Q35.2 (by simp[Q35]) ?_
  rcases h23 with rfl | rfl
  ·simp(disch:=try exact dI) only[Q35,Typ.pv_mk,push_cast,seval]
   refine am hw rfl ?_
   simp(disch:=try exact dI) only[Rn,push_cast,seval]
   refine am h1 rfl ?_
   refine zgZ ?_
   refine am h2 rfl ?_
   simp(disch:=try exact dI) only[hx,push_cast,seval]
  ·simp(disch:=try exact dI) only[Q35,Typ.pv_mk,push_cast,seval]
   refine am hw rfl ?_
   simp(disch:=try exact dI) only[Rm,push_cast,seval]
   refine am h1 rfl ?_
   refine zgZ ?_
   refine am h2 rfl ?_
   simp(disch:=try exact dI) only[hx,push_cast,seval]
 by_cases h4:k=4
 ·subst h4
  rw[show cD (.mk 4 m M s w e f)=max (mD w M) 1 from rfl]
  refine ag.intro Q35.2 (by simp[Q35]) ?_
  simp(disch:=try exact dI) only[Q35,Typ.pv_mk,push_cast,seval]
  refine az ([]) (fun i:Nat=>[(3,.pv (.int .i64 (mD (w.take i) M))),(40,.pv (.int .i64 (i:Int)))]) (fun _=>[]) (fun i=>i<=w.length) (fun i=>w.length - i) (0) ?_;intro e0 σ0 n0 h0;simp(disch:=try exact dI) only[push_cast,seval] at h0;obtain⟨rfl,rfl,rfl⟩:=h0;refine⟨?_,?_,?_⟩
  ·simp(disch:=try exact dI) only[List.take_zero,mD,List.foldl_nil,push_cast,seval]
  ·omega
  rintro i hi
  by_cases hlt:i<w.length
  ·have hltI:(i:Int)<(w.length:Int):=by omega
   obtain⟨x,hx⟩:∃ x,w[i]? = some x:=⟨_,List.getElem?_eq_getElem hlt⟩
   have hst:=oa hx M
   simp(disch:=try exact dI) only[hx,Option.map_some,push_cast,seval]
   exact⟨i+1,aV (by simp(disch:=try exact dI) only[hst,push_cast,seval]),by omega,by omega⟩
  ·obtain rfl:i=w.length:=by omega
   rw[List.take_length]
   simp(disch:=try exact dI) only[Int.lt_irrefl,push_cast,seval]
 by_cases h5:k=5
 ·subst h5
  have hM:=rr ho
  rw[show cD (.mk 5 m M s w e f)=max (2*M) 1 from rfl]
  refine ag.intro Q35.2 (by simp[Q35]) ?_
  simp(disch:=try exact dI) only[Q35,Typ.pv_mk,push_cast,seval]
 by_cases h6:k=6
 ·subst h6
  rw[show cD (.mk 6 m M s w e f)=10 from rfl]
  refine ag.intro Q35.2 (by simp[Q35]) ?_
  simp(disch:=try exact dI) only[Q35,Typ.pv_mk,show max (10:Int) 1=10 from rfl,push_cast,seval]
 by_cases h7:k=7
 ·subst h7
  rw[show cD (.mk 7 m M s w e f)=24 from rfl]
  refine ag.intro Q35.2 (by simp[Q35]) ?_
  simp(disch:=try exact dI) only[Q35,Typ.pv_mk,show max (24:Int) 1=24 from rfl,push_cast,seval]
 ·obtain rfl:k=1:=by omega
  rw[show cD (.mk 1 m M s w e f)=1 from rfl]
  refine ag.intro Q35.2 (by simp[Q35]) ?_
  simp(disch:=try exact dI) only[Q35,Typ.pv_mk,show max (1:Int) 1=1 from rfl,push_cast,seval]
theorem M0 (k m M s:Int)(w:List (List UInt8))(e:List Typ)(f:List TFd)(ho:dM (.mk k m M s w e f)=0)(ht:(Typ.mk k m M s w e f).ok)(hk:1<=k/\k<=7):ag Tryz.prog aq 30 [(Typ.mk k m M s w e f).pv] (.int .i64 (cD (.mk k m M s w e f))):=by
 rw[Typ.ok_mk] at ht
 have hwl:w.length<=9000000000000:=by omega
 clear ht
 by_cases h23:k=2\/k=3
 ·obtain⟨sc,rfl,hm,hM⟩:=rt ho h23
  have h1:=tB (k:=k) (m:=m) (M:=M) (w:=w) (e:=e) (f:=f) hm
  have h2:=tB (k:=k) (m:=m) (M:=M) (w:=w) (e:=e) (f:=f) hM
  rw[show cD (.mk k m M (sc:Int) w e f)=max ((ce m sc).length:Int) ((ce M sc).length:Int) by simp only[cD,if_pos h23,Int.toNat_natCast]]
  generalize ce m sc=a at *
  generalize ce M sc=b at *
  simp only[Typ.pv_mk] at h1 h2
  refine ag.intro Q30.2 (by simp[Q30]) ?_
  rcases h23 with rfl | rfl
  ·simp(disch:=try exact dI) only[Q30,Typ.pv_mk,push_cast,seval]
   refine am h1 rfl ?_
   refine zgZ ?_
   refine am h2 rfl ?_
   exact qsZ
  ·simp(disch:=try exact dI) only[Q30,Typ.pv_mk,push_cast,seval]
   refine am h1 rfl ?_
   refine zgZ ?_
   refine am h2 rfl ?_
   exact qsZ
 by_cases h4:k=4
 ·subst h4
  rw[show cD (.mk 4 m M s w e f)=max (mD w M) 1 from rfl,<- sO]
  refine ag.intro Q30.2 (by simp[Q30]) ?_
  simp(disch:=try exact dI) only[Q30,Typ.pv_mk,push_cast,seval]
  refine az ([]) (fun i:Nat=>[(3,.pv (.int .i64 (mD (w.take i) (max 1 M)))),(4,.pv (.int .i64 (i:Int)))]) (fun _=>[]) (fun i=>i<=w.length) (fun i=>w.length - i) (0) ?_;intro e0 σ0 n0 h0;simp(disch:=try exact dI) only[push_cast,seval] at h0;obtain⟨rfl,rfl,rfl⟩:=h0;refine⟨?_,?_,?_⟩
  ·simp(disch:=try exact dI) only[List.take_zero,mD,List.foldl_nil,push_cast,seval]
  ·omega
  rintro i hi
  by_cases hlt:i<w.length
  ·have hltI:(i:Int)<(w.length:Int):=by omega
   obtain⟨x,hx⟩:∃ x,w[i]? = some x:=⟨_,List.getElem?_eq_getElem hlt⟩
   have hst:=oa hx (max 1 M)
   simp(disch:=try exact dI) only[hx,Option.map_some,push_cast,seval]
   exact⟨i+1,aV (by simp(disch:=try exact dI) only[hst,push_cast,seval]),by omega,by omega⟩
  ·obtain rfl:i=w.length:=by omega
   rw[List.take_length]
   simp(disch:=try exact dI) only[Int.lt_irrefl,push_cast,seval]
 by_cases h5:k=5
 ·subst h5
  have hM:=rr ho
  rw[show cD (.mk 5 m M s w e f)=max (2*M) 1 from rfl,Int.max_comm]
  refine ag.intro Q30.2 (by simp[Q30]) ?_
  simp(disch:=try exact dI) only[Q30,Typ.pv_mk,push_cast,seval]
 by_cases h6:k=6
 ·subst h6
  rw[show cD (.mk 6 m M s w e f)=10 from rfl]
  refine ag.intro Q30.2 (by simp[Q30]) ?_
  simp(disch:=try exact dI) only[Q30,Typ.pv_mk,push_cast,seval]
 by_cases h7:k=7
 ·subst h7
  rw[show cD (.mk 7 m M s w e f)=24 from rfl]
  refine ag.intro Q30.2 (by simp[Q30]) ?_
  simp(disch:=try exact dI) only[Q30,Typ.pv_mk,push_cast,seval]
 ·obtain rfl:k=1:=by omega
  rw[show cD (.mk 1 m M s w e f)=1 from rfl]
  refine ag.intro Q30.2 (by simp[Q30]) ?_
  simp(disch:=try exact dI) only[Q30,Typ.pv_mk,push_cast,seval]
theorem iO {t:Typ}(h:lM t=0):tyV 8 t:=by
 unfold lM at h
 by_cases h0:(fH 0 8 4096 t).1=0
 ·exact iI 8 4096 t h0
 ·rw[if_neg h0] at h;exact absurd h h0
theorem gh {n:Nat}{t:Typ}(h:tyV n t):dM t=0:=by
 cases n with
 | zero=>exact h.elim
 | succ n=>obtain⟨k,m,M,s,w,e,f⟩:=t;exact h.1
theorem NM {n:Nat}{t:Typ}(h:tyV n t)(ht:t.ok)(hs:scB t.kind=true):ag Tryz.prog aq 35 [t.pv] (.int .i64 (cD t))/\ag Tryz.prog aq 30 [t.pv] (.int .i64 (cD t)):=by
 have ho:=gh h
 obtain⟨k,m,M,s,w,e,f⟩:=t
 have hk:1<=k/\k<=7:=by
  simp only[scB,Typ.kind,Bool.and_eq_true,decide_eq_true_eq] at hs
  exact⟨of_decide_eq_true hs.1,of_decide_eq_true hs.2⟩
 exact⟨JT k m M s w e f ho ht hk,M0 k m M s w e f ho ht hk⟩
theorem cj {t:Typ}(h:ff t=true):t.kind=9/\0<t.fields.length/\∀ g∈t.fields,scB g.typ.kind=true:=by
 obtain⟨k,m,M,s,w,e,f⟩:=t
 simp only[ff,Bool.and_eq_true,decide_eq_true_eq,Bool.not_eq_true'] at h
 refine⟨h.1,h.2.1,fun g hg=>?_⟩
 have:=List.any_eq_false.1 h.2.2 g hg
 rw[Mt] at this
 cases hb:scB g.typ.kind with
 | true=>rfl
 | false=>rw[hb] at this;exact absurd rfl this
theorem CZ {t:Typ}(h:lM t=0)(ht:t.ok)(hf:ff t=true):∀ g∈t.fields,ag Tryz.prog aq 35 [g.typ.pv] (.int .i64 (cD g.typ))/\ag Tryz.prog aq 30 [g.typ.pv] (.int .i64 (cD g.typ)):=fun g hg=>by
 have hty:=iO h
 obtain⟨h9,_,hs⟩:=cj hf
 have hsg:=hs g hg
 obtain⟨k,m,M,s,w,e,f⟩:=t
 rw[Typ.ok_mk] at ht
 exact NM (hty.2.2 (.inl h9) g hg).1 (fL (ht.2.2.2.2.2.2.2.2.2 g hg)).1 hsg
def uT (f:List TFd):List PV:=f.map fun g=>.int .i64 (cD g.typ)
theorem yo (t:Typ)(ht:t.ok)(he:¬ flE t=0):ag Tryz.prog aq 23 [t.pv] (.tup [.nils,.int .i64 (flE t)]):=by
 have h34:=ub t ht
 generalize flE t=z at *
 obtain⟨k,m,M,s,w,e,f⟩:=t
 simp only[Typ.pv_mk] at h34
 refine ag.intro Q23.2 (by simp[Q23]) ?_
 simp(disch:=try exact dI) only[Q23,Typ.pv_mk,push_cast,seval]
 refine ab.pure h34 rfl ?_
 simp(disch:=try exact dI) only[he,push_cast,seval]
theorem iB {t:Typ}(h:flE t=0):lM t=0/\ff t=true:=by
 unfold flE at h
 by_cases hz:lM t=0
 ·rw[if_pos hz] at h
  cases hb:ff t with
  | true=>exact⟨hz,rfl⟩
  | false=>rw[hb,if_neg (by decide)] at h;cases h
 ·rw[if_neg hz] at h;exact absurd h hz
theorem zf {f:List TFd}{i:Nat}{g:TFd}(h:f[i]? = some g):uT (f.take (i+1))=uT (f.take i)++[.int .i64 (cD g.typ)]:=by
 rw[aH h,uT,List.map_append];rfl
theorem sE (t:Typ)(ht:t.ok)(he:flE t=0):ag Tryz.prog aq 23 [t.pv] (.tup [.list (uT t.fields),.int .i64 0]):=by
 have h34:=ub t ht
 obtain⟨h0,hfl⟩:=iB he
 have hw:=fun g hg=>(CZ h0 ht hfl g hg).1
 rw[he] at h34
 clear he h0 hfl
 obtain⟨k,m,M,s,w,e,f⟩:=t
 rw[Typ.ok_mk] at ht
 have hf:f.length<=9000000000000:=by omega
 clear ht
 simp only[Typ.pv_mk,Typ.fields] at h34 hw ⊢
 refine ag.intro Q23.2 (by simp[Q23]) ?_
 simp(disch:=try exact dI) only[Q23,Typ.pv_mk,push_cast,seval]
 refine ab.pure h34 rfl ?_
 refine zgZ ?_
 refine az ([(5,0,3,1)]) (fun i:Nat=>[(5,.olist 0 1 (uT (f.take i))),(16,.pv (.int .i64 (i:Int)))]) (fun _=>[]) (fun i=>i<=f.length) (fun i=>f.length - i) (0) ?_;intro e0 σ0 n0 h0;simp(disch:=try exact dI) only[push_cast,seval] at h0;obtain⟨rfl,rfl,rfl⟩:=h0;refine⟨?_,?_,?_⟩
 ·simp(disch:=try exact dI) only[uT,push_cast,seval]
 ·omega
 rintro i hi
 by_cases hlt:i<f.length
 ·have hltI:(i:Int)<(f.length:Int):=by omega
  obtain⟨g,hg⟩:∃ g,f[i]? = some g:=⟨_,List.getElem?_eq_getElem hlt⟩
  have hc:=hw g (List.mem_of_getElem? hg)
  have hst:=zf hg
  have hlen:(uT (f.take i)).length=i:=by rw[uT,List.length_map,List.length_take];omega
  obtain⟨n',nm',nd',⟨k',m',M',s',w',e',f'⟩,d'⟩:=g
  simp only[TFd.typ,Typ.pv_mk] at hc hst
  generalize cD (.mk k' m' M' s' w' e' f')=z at hc hst
  generalize uT (f.take i)=L at *
  simp(disch:=try exact dI) only[hg,Option.map_some,TFd.pv_mk,Typ.pv_mk,ae,push_cast,seval]
  refine ab.pure hc rfl ?_
  simp(disch:=try exact dI) only[hlen,push_cast,seval]
  exact⟨i+1,aV (by simp(disch:=try exact dI) only[hst,push_cast,seval]),by omega,by omega⟩
 ·obtain rfl:i=f.length:=by omega
  rw[List.take_length]
  have hlen:(uT f).length=f.length:=by rw[uT,List.length_map]
  simp(disch:=try exact dI) only[Int.lt_irrefl,hlen,push_cast,seval]
end Go.Proofs.YtbojpfpliibfbaaGreatDoor

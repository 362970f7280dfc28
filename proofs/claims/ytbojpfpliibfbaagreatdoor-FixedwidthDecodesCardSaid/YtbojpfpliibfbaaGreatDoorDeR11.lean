/- A part of the proof. -/
import Derived.Test.YtbojpfpliibfbaaGreatDoorDeRSf
set_option maxHeartbeats 16000000
set_option maxRecDepth 100000
set_option linter.unusedVariables false
set_option linter.unusedSimpArgs false
namespace Go.Proofs.YtbojpfpliibfbaaGreatDoor
open Go Go.Ab
attribute [local irreducible] vc
theorem Fw (f:Nat)(a b:List PV):PV.one (.clo f a b)=true:=rfl
theorem AK:PV.one .nilf=true:=rfl
theorem yr:ak Tryz.prog ap 43 [] (.agg [.nilf,.clo 84 [] [],.clo 82 [] [],.clo 82 [] [],.clo 85 [] [],.clo 86 [] [],.clo 87 [] [],.clo 89 [] []]):=by
 refine ak.intro Q43.2 (by simp[Q43]) ?_
 simp(disch:=try exact dI) only[Q43,Fw,AK,push_cast,seval]
def P7:PV:=.agg [.nilf,.clo 84 [] [],.clo 82 [] [],.clo 82 [] [],.clo 85 [] [],.clo 86 [] [],.clo 87 [] [],.clo 89 [] []]
theorem P6:dC false 8 1 (.pv P7) (.pv (.int .i64 2))=some (.pv (.clo 82 [] [])):=rfl
theorem P5:dC false 8 1 (.pv P7) (.pv (.int .i64 3))=some (.pv (.clo 82 [] [])):=rfl
theorem sx {n:Int}{sc:Nat}(hn:IsN n sc):ak Tryz.prog ap 82 [.agg [.int .i64 0,.int .i64 n,.int .i64 (sc:Int),.str [],.nils,.nils]] (.str (ew n sc)):=by
 have h:=HG hn
 generalize ew n sc=d at h ⊢
 refine ak.intro Q82.2 (by simp[Q82]) ?_
 simp(disch:=try exact dI) only[Q82,push_cast,seval]
 refine ab.pure h rfl ?_
 exact qsZ
theorem tE {k m M:Int}{sc:Nat}{w:List (List UInt8)}{e:List Typ}{f:List TFd}{n:Int}(hn:IsN n sc):ak Tryz.prog ap 73 [(Typ.mk k m M (sc:Int) w e f).pv,.int .i64 n] (.str (ew n sc)):=by
 have h:=qI hn
 generalize ew n sc=d at h ⊢
 refine ak.intro Q73.2 (by simp[Q73]) ?_
 simp(disch:=try exact dI) only[Q73,Typ.pv_mk,push_cast,seval]
 refine ab.pure h rfl ?_
 exact qsZ
theorem tm {k m M s:Int}{w:List (List UInt8)}{e:List Typ}{f:List TFd}(h:dr (.mk k m M s w e f)=0):du k (.mk k m M s w e f)=false:=by
 rw[dr] at h
 by_cases a:inB k 1 10=false
 ·rw[if_pos a] at h;exact absurd h (by decide)
 rw[if_neg a] at h
 by_cases b:du k (.mk k m M s w e f)=true
 ·rw[if_pos b] at h;exact absurd h (by decide)
 ·simpa using b
theorem AA {k m M s:Int}{w:List (List UInt8)}{e:List Typ}{f:List TFd}(h:dr (.mk k m M s w e f)=0)(hk:k=2\/k=3):∃ sc:Nat,s=(sc:Int)/\IsN m sc/\IsN M sc:=by
 have hb:=(bc h).2.1
 have hf:=tm h
 unfold cf at hb
 have h4:¬ (k=4/\0<w.length):=by omega
 rw[if_neg h4] at hb
 by_cases hc:(2<=k/\k<=8)/\(M<m\/m<loK k\/hiK k<M)
 ·rw[if_pos hc] at hb;exact absurd hb (by decide)
 rw[if_neg hc] at hb
 have h1:¬ (M<m\/m<loK k\/hiK k<M):=fun hh=>hc ⟨by omega,hh⟩
 have hs:0<=s/\s<=12:=by
  rcases hk with rfl | rfl
  ·simp only[du,aE,Bool.or_eq_false_iff] at hf
   have:s=0:=by simpa using hf.2.1
   omega
  ·by_cases hi:inB s 0 12=false
   ·rw[if_pos ⟨rfl,hi⟩] at hb;exact absurd hb (by decide)
   ·simpa[inB] using hi
 have hl:loK k = -999999999999999/\hiK k=999999999999999:=by rcases hk with rfl | rfl<;>exact⟨rfl,rfl⟩
 rw[hl.1,hl.2] at h1
 refine⟨s.toNat,by omega,?_,?_⟩
 ·unfold IsN;omega
 ·unfold IsN;omega
theorem Az {m M s:Int}{w:List (List UInt8)}{e:List Typ}{f:List TFd}(h:dr (.mk 5 m M s w e f)=0):0<=M/\M<=1024:=by
 have hb:=(bc h).2.1
 unfold cf at hb
 rw[if_neg (fun hh=>absurd hh.1 (by decide))] at hb
 by_cases hc:(2<=(5:Int)/\(5:Int)<=8)/\(M<m\/m<loK 5\/hiK 5<M)
 ·rw[if_pos hc] at hb;exact absurd hb (by decide)
 have h1:¬ (M<m\/m<loK 5\/hiK 5<M):=fun hh=>hc ⟨by decide,hh⟩
 rw[show loK 5=0 from rfl,show hiK 5=1024 from rfl] at h1
 omega
theorem oZ:∀ (k a:Nat),(bn k a).length=k
 | 0,_=>rfl
 | k+1,a=>by rw[bn,List.length_append,oZ k];rfl
theorem GW {n:Int}{sc:Nat}(hn:IsN n sc):1<=((ew n sc).length:Int):=by
 simp only[ew,List.length_append,oZ]
 omega
def uW (w:List (List UInt8))(a:Int):Int:=w.foldl (fun (a:Int) (x:List UInt8)=>max a (x.length:Int)) a
theorem sy:∀ (w:List (List UInt8)) (a:Int),uW w (max 1 a)=max (uW w a) 1
 | [],a=>by simp only[uW,List.foldl_nil];omega
 | x::r,a=>by
   have h:=sy r (max a (x.length:Int))
   simp only[uW,List.foldl_cons] at h ⊢
   rw[<- h];congr 1;omega
theorem oe {w:List (List UInt8)}{i:Nat}{x:List UInt8}(h:w[i]? = some x)(a:Int):uW (w.take (i+1)) a=max (uW (w.take i) a) (x.length:Int):=dV h a
def ij:Typ->Int
 | .mk k m M s w _ _=>if k=2\/k=3 then max ((ew m s.toNat).length:Int) ((ew M s.toNat).length:Int) else if k=4 then max (uW w M) 1 else if k=5 then max (2*M) 1 else if k=6 then 10 else if k=7 then 24 else 1
theorem IF (k m M s:Int)(w:List (List UInt8))(e:List Typ)(f:List TFd)(ho:dr (.mk k m M s w e f)=0)(ht:(Typ.mk k m M s w e f).ok)(hk:1<=k/\k<=7):ak Tryz.prog ap 35 [(Typ.mk k m M s w e f).pv] (.int .i64 (ij (.mk k m M s w e f))):=by
 rw[Typ.ok_mk] at ht
 have hwl:w.length<=9000000000000:=by omega
 clear ht
 by_cases h23:k=2\/k=3
 ·obtain⟨sc,rfl,hm,hM⟩:=AA ho h23
  have h1:=sx hm
  have h2:=sx hM
  have hw:ak Tryz.prog ap 43 [] P7:=yr
  have hp:=GW hm
  rw[show ij (.mk k m M (sc:Int) w e f)=max ((ew m sc).length:Int) ((ew M sc).length:Int) by simp only[ij,if_pos h23,Int.toNat_natCast]]
  generalize ew m sc=a at *
  generalize ew M sc=b at *
  have hx:max (max (a.length:Int) (b.length:Int)) 1=max (a.length:Int) (b.length:Int):=by omega
  refine ak.intro Q35.2 (by simp[Q35]) ?_
  rcases h23 with rfl | rfl
  ·simp(disch:=try exact dI) only[Q35,Typ.pv_mk,push_cast,seval]
   refine ae hw rfl ?_
   simp(disch:=try exact dI) only[P6,push_cast,seval]
   refine ae h1 rfl ?_
   refine zgZ ?_
   refine ae h2 rfl ?_
   simp(disch:=try exact dI) only[hx,push_cast,seval]
  ·simp(disch:=try exact dI) only[Q35,Typ.pv_mk,push_cast,seval]
   refine ae hw rfl ?_
   simp(disch:=try exact dI) only[P5,push_cast,seval]
   refine ae h1 rfl ?_
   refine zgZ ?_
   refine ae h2 rfl ?_
   simp(disch:=try exact dI) only[hx,push_cast,seval]
 by_cases h4:k=4
 ·subst h4
  rw[show ij (.mk 4 m M s w e f)=max (uW w M) 1 from rfl]
  refine ak.intro Q35.2 (by simp[Q35]) ?_
  simp(disch:=try exact dI) only[Q35,Typ.pv_mk,push_cast,seval]
  refine am ([]) (fun i:Nat=>[(3,.pv (.int .i64 (uW (w.take i) M))),(40,.pv (.int .i64 (i:Int)))]) (fun _=>[]) (fun i=>i<=w.length) (fun i=>w.length - i) (0) ?_;intro e0 σ0 n0 h0;simp(disch:=try exact dI) only[push_cast,seval] at h0;obtain⟨rfl,rfl,rfl⟩:=h0;refine⟨?_,?_,?_⟩
  ·simp(disch:=try exact dI) only[List.take_zero,uW,List.foldl_nil,push_cast,seval]
  ·omega
  rintro i hi
  by_cases hlt:i<w.length
  ·have hltI:(i:Int)<(w.length:Int):=by omega
   obtain⟨x,hx⟩:∃ x,w[i]? = some x:=⟨_,List.getElem?_eq_getElem hlt⟩
   have hst:=oe hx M
   simp(disch:=try exact dI) only[hx,Option.map_some,push_cast,seval]
   exact⟨i+1,aI (by simp(disch:=try exact dI) only[hst,push_cast,seval]),by omega,by omega⟩
  ·obtain rfl:i=w.length:=by omega
   rw[List.take_length]
   simp(disch:=try exact dI) only[Int.lt_irrefl,push_cast,seval]
 by_cases h5:k=5
 ·subst h5
  have hM:=Az ho
  rw[show ij (.mk 5 m M s w e f)=max (2*M) 1 from rfl]
  refine ak.intro Q35.2 (by simp[Q35]) ?_
  simp(disch:=try exact dI) only[Q35,Typ.pv_mk,push_cast,seval]
 by_cases h6:k=6
 ·subst h6
  rw[show ij (.mk 6 m M s w e f)=10 from rfl]
  refine ak.intro Q35.2 (by simp[Q35]) ?_
  simp(disch:=try exact dI) only[Q35,Typ.pv_mk,show max (10:Int) 1=10 from rfl,push_cast,seval]
 by_cases h7:k=7
 ·subst h7
  rw[show ij (.mk 7 m M s w e f)=24 from rfl]
  refine ak.intro Q35.2 (by simp[Q35]) ?_
  simp(disch:=try exact dI) only[Q35,Typ.pv_mk,show max (24:Int) 1=24 from rfl,push_cast,seval]
 ·obtain rfl:k=1:=by omega
  rw[show ij (.mk 1 m M s w e f)=1 from rfl]
  refine ak.intro Q35.2 (by simp[Q35]) ?_
  simp(disch:=try exact dI) only[Q35,Typ.pv_mk,show max (1:Int) 1=1 from rfl,push_cast,seval]
theorem Lz (k m M s:Int)(w:List (List UInt8))(e:List Typ)(f:List TFd)(ho:dr (.mk k m M s w e f)=0)(ht:(Typ.mk k m M s w e f).ok)(hk:1<=k/\k<=7):ak Tryz.prog ap 30 [(Typ.mk k m M s w e f).pv] (.int .i64 (ij (.mk k m M s w e f))):=by
 rw[Typ.ok_mk] at ht
 have hwl:w.length<=9000000000000:=by omega
 clear ht
 by_cases h23:k=2\/k=3
 ·obtain⟨sc,rfl,hm,hM⟩:=AA ho h23
  have h1:=tE (k:=k) (m:=m) (M:=M) (w:=w) (e:=e) (f:=f) hm
  have h2:=tE (k:=k) (m:=m) (M:=M) (w:=w) (e:=e) (f:=f) hM
  rw[show ij (.mk k m M (sc:Int) w e f)=max ((ew m sc).length:Int) ((ew M sc).length:Int) by simp only[ij,if_pos h23,Int.toNat_natCast]]
  generalize ew m sc=a at *
  generalize ew M sc=b at *
  simp only[Typ.pv_mk] at h1 h2
  refine ak.intro Q30.2 (by simp[Q30]) ?_
  rcases h23 with rfl | rfl
  ·simp(disch:=try exact dI) only[Q30,Typ.pv_mk,push_cast,seval]
   refine ae h1 rfl ?_
   refine zgZ ?_
   refine ae h2 rfl ?_
   exact qsZ
  ·simp(disch:=try exact dI) only[Q30,Typ.pv_mk,push_cast,seval]
   refine ae h1 rfl ?_
   refine zgZ ?_
   refine ae h2 rfl ?_
   exact qsZ
 by_cases h4:k=4
 ·subst h4
  rw[show ij (.mk 4 m M s w e f)=max (uW w M) 1 from rfl,<- sy]
  refine ak.intro Q30.2 (by simp[Q30]) ?_
  simp(disch:=try exact dI) only[Q30,Typ.pv_mk,push_cast,seval]
  refine am ([]) (fun i:Nat=>[(3,.pv (.int .i64 (uW (w.take i) (max 1 M)))),(4,.pv (.int .i64 (i:Int)))]) (fun _=>[]) (fun i=>i<=w.length) (fun i=>w.length - i) (0) ?_;intro e0 σ0 n0 h0;simp(disch:=try exact dI) only[push_cast,seval] at h0;obtain⟨rfl,rfl,rfl⟩:=h0;refine⟨?_,?_,?_⟩
  ·simp(disch:=try exact dI) only[List.take_zero,uW,List.foldl_nil,push_cast,seval]
  ·omega
  rintro i hi
  by_cases hlt:i<w.length
  ·have hltI:(i:Int)<(w.length:Int):=by omega
   obtain⟨x,hx⟩:∃ x,w[i]? = some x:=⟨_,List.getElem?_eq_getElem hlt⟩
   have hst:=oe hx (max 1 M)
   simp(disch:=try exact dI) only[hx,Option.map_some,push_cast,seval]
   exact⟨i+1,aI (by simp(disch:=try exact dI) only[hst,push_cast,seval]),by omega,by omega⟩
  ·obtain rfl:i=w.length:=by omega
   rw[List.take_length]
   simp(disch:=try exact dI) only[Int.lt_irrefl,push_cast,seval]
 by_cases h5:k=5
 ·subst h5
  have hM:=Az ho
  rw[show ij (.mk 5 m M s w e f)=max (2*M) 1 from rfl,Int.max_comm]
  refine ak.intro Q30.2 (by simp[Q30]) ?_
  simp(disch:=try exact dI) only[Q30,Typ.pv_mk,push_cast,seval]
 by_cases h6:k=6
 ·subst h6
  rw[show ij (.mk 6 m M s w e f)=10 from rfl]
  refine ak.intro Q30.2 (by simp[Q30]) ?_
  simp(disch:=try exact dI) only[Q30,Typ.pv_mk,push_cast,seval]
 by_cases h7:k=7
 ·subst h7
  rw[show ij (.mk 7 m M s w e f)=24 from rfl]
  refine ak.intro Q30.2 (by simp[Q30]) ?_
  simp(disch:=try exact dI) only[Q30,Typ.pv_mk,push_cast,seval]
 ·obtain rfl:k=1:=by omega
  rw[show ij (.mk 1 m M s w e f)=1 from rfl]
  refine ak.intro Q30.2 (by simp[Q30]) ?_
  simp(disch:=try exact dI) only[Q30,Typ.pv_mk,push_cast,seval]
theorem j5 {t:Typ}(h:lX t=0):tyV 8 t:=by
 unfold lX at h
 by_cases h0:(bS 0 8 4096 t).1=0
 ·exact fh 8 4096 t h0
 ·rw[if_neg h0] at h;exact absurd h h0
theorem jU {n:Nat}{t:Typ}(h:tyV n t):dr t=0:=by
 cases n with
 | zero=>exact h.elim
 | succ n=>obtain⟨k,m,M,s,w,e,f⟩:=t;exact h.1
theorem Mx {n:Nat}{t:Typ}(h:tyV n t)(ht:t.ok)(hs:scB t.kind=true):ak Tryz.prog ap 35 [t.pv] (.int .i64 (ij t))/\ak Tryz.prog ap 30 [t.pv] (.int .i64 (ij t)):=by
 have ho:=jU h
 obtain⟨k,m,M,s,w,e,f⟩:=t
 have hk:1<=k/\k<=7:=by
  simp only[scB,Typ.kind,Bool.and_eq_true,decide_eq_true_eq] at hs
  exact⟨of_decide_eq_true hs.1,of_decide_eq_true hs.2⟩
 exact⟨IF k m M s w e f ho ht hk,Lz k m M s w e f ho ht hk⟩
theorem fy {t:Typ}(h:dW t=true):t.kind=9/\0<t.fields.length/\∀ g∈t.fields,scB g.typ.kind=true:=by
 obtain⟨k,m,M,s,w,e,f⟩:=t
 simp only[dW,Bool.and_eq_true,decide_eq_true_eq,Bool.not_eq_true'] at h
 refine⟨h.1,h.2.1,fun g hg=>?_⟩
 have:=List.any_eq_false.1 h.2.2 g hg
 rw[CF] at this
 cases hb:scB g.typ.kind with
 | true=>rfl
 | false=>rw[hb] at this;exact absurd rfl this
theorem KH {t:Typ}(h:lX t=0)(ht:t.ok)(hf:dW t=true):∀ g∈t.fields,ak Tryz.prog ap 35 [g.typ.pv] (.int .i64 (ij g.typ))/\ak Tryz.prog ap 30 [g.typ.pv] (.int .i64 (ij g.typ)):=fun g hg=>by
 have hty:=j5 h
 obtain⟨h9,_,hs⟩:=fy hf
 have hsg:=hs g hg
 obtain⟨k,m,M,s,w,e,f⟩:=t
 rw[Typ.ok_mk] at ht
 exact Mx (hty.2.2 (.inl h9) g hg).1 (cL (ht.2.2.2.2.2.2.2.2.2 g hg)).1 hsg
theorem kT {t:Typ}(h:flE t=0):lX t=0/\dW t=true:=by
 unfold flE at h
 by_cases hz:lX t=0
 ·rw[if_pos hz] at h
  cases hb:dW t with
  | true=>exact⟨hz,rfl⟩
  | false=>rw[hb,if_neg (by decide)] at h;cases h
 ·rw[if_neg hz] at h;exact absurd h hz
theorem jL (s:List UInt8)(hs:s.length<=140737488351232):ak Tryz.prog ap 41 [.str s] (.bool (wrB s)):=by
 obtain⟨R,hR⟩:∃ R,R=wrB s:=⟨_,rfl⟩
 rw[<- hR]
 refine ak.intro Q41.2 (by simp[Q41]) ?_
 simp(disch:=try exact dI) only[Q41,push_cast,seval]
 refine am ([]) (fun i:Nat=>[(3,.pv (.int .i64 (i:Int)))]) (fun _=>[]) (fun i=>i<=s.length/\(s.take i).any rO=false) (fun i=>s.length - i) (0) ?_;intro e0 σ0 n0 h0;simp(disch:=try exact dI) only[push_cast,seval] at h0;obtain⟨rfl,rfl,rfl⟩:=h0;refine⟨?_,?_,?_⟩
 ·exact qsZ
 ·exact⟨by omega,by simp⟩
 rintro i ⟨hi,hn⟩
 by_cases hlt:i<s.length
 ·have hltI:(i:Int)<(s.length:Int):=by omega
  obtain⟨c,hc⟩:∃ c,s[i]? = some c:=⟨_,List.getElem?_eq_getElem hlt⟩
  by_cases h:c.toNat<32
  ·have hI:(c.toNat:Int)<32:=by omega
   have:R=false:=by
    rw[hR,wrB,List.any_eq_true.2 ⟨c,List.mem_of_getElem? hc,by simp[rO,h]⟩];simp
   subst this
   simp(disch:=try exact dI) only[hc,hI,push_cast,seval]
  ·have hI:¬ (c.toNat:Int)<32:=by omega
   have hsn:(s.take (i+1)).any rO=false:=by rw[aB hc,List.any_append,hn];simp[rO,h]
   simp(disch:=try exact dI) only[hc,hI,push_cast,seval]
   exact⟨i+1,aI qsZ,⟨by omega,hsn⟩,by omega⟩
 ·obtain rfl:i=s.length:=by omega
  rw[List.take_length] at hn
  have hR2:R=!ye s:=by rw[hR,wrB,hn];simp
  subst hR2
  by_cases h0:s=[]
  ·subst h0
   rw[show ye []=false from rfl]
   simp(disch:=try exact dI) only[Int.lt_irrefl,push_cast,seval]
  ·have hp:0<s.length:=List.length_pos_iff.2 h0
   obtain⟨q,hq⟩:∃ q,s.length=q+1:=⟨s.length - 1,by omega⟩
   obtain⟨c,hc⟩:∃ c,s[q]? = some c:=⟨_,List.getElem?_eq_getElem (by omega)⟩
   have hE:ye s=decide (c=32):=by unfold ye;rw[hq,Nat.add_sub_cancel,hc];simp
   rw[hE]
   by_cases h:c=32
   ·subst h
    rw[decide_eq_true rfl]
    simp(disch:=try exact dI) only[Int.lt_irrefl,h0,hq,Int.add_sub_cancel,hc,push_cast,seval]
   ·rw[decide_eq_false h]
    have hcI:¬ (c.toNat:Int)=32:=by
     intro h'
     exact h (UInt8.toNat_inj.1 (by have:(32:UInt8).toNat=32:=rfl;omega))
    simp(disch:=try exact dI) only[Int.lt_irrefl,h0,hq,Int.add_sub_cancel,hc,hcI,push_cast,seval]
def lz (s:List UInt8):Bool:=!wrB s
theorem Rf (s:List UInt8)(hs:s.length<=140737488351232):ak Tryz.prog ap 38 [.str s] (.bool (lz s)):=by
 have h:=od s hs
 unfold lz
 generalize wrB s=b at *
 refine ak.intro Q38.2 (by simp[Q38]) ?_
 simp(disch:=try exact dI) only[Q38,push_cast,seval]
 refine ab.pure h rfl ?_
 exact qsZ
theorem Kx (l:List (List UInt8))(hw:∀ x∈l,x.length<=140737488351232)(hl:l.length<=9000000000000):ak Tryz.prog ap 76 [.list (l.map PV.str),.clo 38 [] []] (.int .i64 (dt lz l 0)):=by
 refine ak.intro Q76.2 (by simp[Q76]) ?_
 simp(disch:=try exact dI) only[Q76,push_cast,seval]
 refine am ([]) (fun m:Nat=>[(8,.pv (.int .i64 (m:Int)))]) (fun m=>[]) (fun m=>m<=l.length/\dt lz l 0=dt lz (l.drop m) m) (fun m=>l.length - m) (0) ?_;intro e0 σ0 n0 h0;simp(disch:=try exact dI) only[push_cast,seval] at h0;obtain⟨rfl,rfl,rfl⟩:=h0;refine⟨?_,?_,?_⟩
 ·exact qsZ
 ·exact⟨by omega,by simp⟩
 ·rintro m ⟨hm,he⟩
  by_cases hlt:m<l.length
  ·have hltI:(m:Int)<l.length:=by omega
   obtain⟨x,hx⟩:∃ x,l[m]? = some x:=⟨_,List.getElem?_eq_getElem hlt⟩
   have hcall:=Rf x (hw x (List.mem_of_getElem? hx))
   simp(disch:=try exact dI) only[hx,Option.map_some,push_cast,seval]
   refine ab.pure hcall rfl ?_
   cases hqx:lz x with
   | true=>
     rw[he,di hx hqx]
     exact qsZ
   | false=>
     rw[b9 hx hqx] at he
     refine zgZ ?_
     exact⟨m+1,aI qsZ,⟨by omega,he⟩,by omega⟩
  ·have hltI:¬ (m:Int)<l.length:=by omega
   rw[he,dj hlt]
   exact qsZ
theorem xz (l:List (List UInt8))(hw:∀ x∈l,x.length<=140737488351232)(hl:l.length<=9000000000000):ak Tryz.prog ap 37 [.list (l.map PV.str),.clo 38 [] []] (.bool (l.any lz)):=by
 have h94:=Kx l hw hl
 have hfa:=dz (p:=lz) l
 refine ak.intro Q37.2 (by simp[Q37]) ?_
 rcases bp (p:=lz) l 0 with ⟨h1,h2⟩ | ⟨k,x,h1,h2,h3⟩
 ·rw[h2] at h94
  rw[h1] at hfa
  rw[<- hfa]
  simp(disch:=try exact dI) only[Q37,push_cast,seval]
  refine ab.pure h94 rfl ?_
  refine zgZ ?_
  exact .refl _
 ·rw[h3] at h94
  rw[h2] at hfa
  rw[<- hfa]
  have hk:(0:Int)<=((0+k:Nat):Int):=by omega
  generalize ((0+k:Nat):Int)=z at *
  simp(disch:=try exact dI) only[Q37,push_cast,seval]
  refine ab.pure h94 rfl ?_
  refine zgZ ?_
  exact .refl _
def aY:Typ->Bool
 | .mk k m _ _ w _ _=>if k=4/\0<w.length then w.any fun x=>decide (x=[]) else (decide (k=4)||decide (k=5))&&decide (m=0)
theorem KX (k m M s:Int)(w:List (List UInt8))(e:List Typ)(f:List TFd)(hw:w.length<=9000000000000):ak Tryz.prog ap 36 [(Typ.mk k m M s w e f).pv] (.bool (aY (.mk k m M s w e f))):=by
 have hc:=iM w [] hw
 refine ak.intro Q36.2 (by simp[Q36]) ?_
 by_cases h4:k=4
 ·subst h4
  by_cases h0:0<w.length
  ·have h0I:(0:Int)<(w.length:Int):=by omega
   rw[show aY (.mk 4 m M s w e f)=w.any fun x=>decide (x=[]) from if_pos ⟨rfl,h0⟩]
   generalize (w.any fun x=>decide (x=[]))=b at hc ⊢
   simp(disch:=try exact dI) only[Q36,Typ.pv_mk,h0I,push_cast,seval]
   refine ab.pure hc rfl ?_
   exact qsZ
  ·have h0I:¬ (0:Int)<(w.length:Int):=by omega
   rw[show aY (.mk 4 m M s w e f)=decide (m=0) by simp only[aY];rw[if_neg (fun h=>h0 h.2)];simp]
   by_cases hm:m=0
   ·rw[decide_eq_true hm]
    simp(disch:=try exact dI) only[Q36,Typ.pv_mk,h0I,hm,push_cast,seval]
   ·rw[decide_eq_false hm]
    simp(disch:=try exact dI) only[Q36,Typ.pv_mk,h0I,hm,push_cast,seval]
 ·by_cases h5:k=5
  ·subst h5
   rw[show aY (.mk 5 m M s w e f)=decide (m=0) by simp only[aY];rw[if_neg (fun h=>h4 h.1)];simp]
   by_cases hm:m=0
   ·rw[decide_eq_true hm]
    simp(disch:=try exact dI) only[Q36,Typ.pv_mk,hm,push_cast,seval]
   ·rw[decide_eq_false hm]
    simp(disch:=try exact dI) only[Q36,Typ.pv_mk,hm,push_cast,seval]
  ·rw[show aY (.mk k m M s w e f)=false by simp only[aY];rw[if_neg (fun h=>h4 h.1)];simp[h4,h5]]
   simp(disch:=try exact dI) only[Q36,Typ.pv_mk,h4,h5,push_cast,seval]
theorem Ax {k m M s:Int}{w:List (List UInt8)}{e:List Typ}{f:List TFd}(h:dr (.mk k m M s w e f)=0)(h4:¬ k=4):w.length=0:=by
 have hf:=tm h
 simp only[du,aE,Bool.or_eq_false_iff] at hf
 have:=hf.2.2.1
 rw[decide_eq_false h4] at this
 simpa using this
theorem LN (k m M s:Int)(w:List (List UInt8))(e:List Typ)(f:List TFd)(hw:w.length<=9000000000000)(h:dr (.mk k m M s w e f)=0):ak Tryz.prog ap 40 [(Typ.mk k m M s w e f).pv] (.bool (aY (.mk k m M s w e f))):=by
 have hwd:=Ax h
 obtain⟨R,hR⟩:∃ R,R=aY (.mk k m M s w e f):=⟨_,rfl⟩
 rw[<- hR]
 refine ak.intro Q40.2 (by simp[Q40]) ?_
 by_cases h45:k=4\/k=5
 ·have hR0:w.length=0->R=decide (m=0):=fun h0=>by
   rw[hR];simp only[aY]
   rw[if_neg (by omega)]
   rcases h45 with rfl | rfl<;>simp
  have hR1:0<w.length->R=w.any fun x=>decide (x=[]):=fun h0=>by
   rw[hR];simp only[aY]
   rw[if_pos ⟨Decidable.byContradiction fun h4=>by have:=hwd h4;omega,h0⟩]
  clear hwd hR h
  have key:∀ (kk:Int),(kk=4\/kk=5)->k=kk->True:=fun _ _ _=>trivial
  rcases h45 with rfl | rfl
  ·simp(disch:=try exact dI) only[Q40,Typ.pv_mk,push_cast,seval]
   refine am ([]) (fun i:Nat=>[(3,.pv (.int .i64 (i:Int)))]) (fun _=>[]) (fun i=>i<=w.length/\((w.take i).any fun x=>decide (x=[]))=false) (fun i=>w.length - i) (0) ?_;intro e0 σ0 n0 h0;simp(disch:=try exact dI) only[push_cast,seval] at h0;obtain⟨rfl,rfl,rfl⟩:=h0;refine⟨?_,?_,?_⟩
   ·exact qsZ
   ·exact⟨by omega,by simp⟩
   rintro i ⟨hi,hn⟩
   by_cases hlt:i<w.length
   ·have hltI:(i:Int)<(w.length:Int):=by omega
    obtain⟨x,hx⟩:∃ x,w[i]? = some x:=⟨_,List.getElem?_eq_getElem hlt⟩
    by_cases hxe:x=[]
    ·have:R=true:=by rw[hR1 (by omega)];exact List.any_eq_true.2 ⟨x,List.mem_of_getElem? hx,by simp[hxe]⟩
     subst this
     subst hxe
     simp(disch:=try exact dI) only[hx,Option.map_some,push_cast,seval]
    ·have hsn:((w.take (i+1)).any fun x=>decide (x=[]))=false:=by rw[aB hx,List.any_append,hn];simp[hxe]
     simp(disch:=try exact dI) only[hx,Option.map_some,hxe,push_cast,seval]
     exact⟨i+1,aI qsZ,⟨by omega,hsn⟩,by omega⟩
   ·obtain rfl:i=w.length:=by omega
    rw[List.take_length] at hn
    by_cases h0:w.length=0
    ·rw[hR0 h0]
     by_cases hm:m=0
     ·rw[decide_eq_true hm]
      simp(disch:=try exact dI) only[Int.lt_irrefl,h0,hm,push_cast,seval]
     ·rw[decide_eq_false hm]
      simp(disch:=try exact dI) only[Int.lt_irrefl,h0,hm,push_cast,seval]
    ·have h0I:¬ (w.length:Int)=0:=by omega
     have:R=false:=by rw[hR1 (by omega)];exact hn
     subst this
     simp(disch:=try exact dI) only[Int.lt_irrefl,h0I,push_cast,seval]
  ·simp(disch:=try exact dI) only[Q40,Typ.pv_mk,push_cast,seval]
   refine am ([]) (fun i:Nat=>[(3,.pv (.int .i64 (i:Int)))]) (fun _=>[]) (fun i=>i<=w.length/\((w.take i).any fun x=>decide (x=[]))=false) (fun i=>w.length - i) (0) ?_;intro e0 σ0 n0 h0;simp(disch:=try exact dI) only[push_cast,seval] at h0;obtain⟨rfl,rfl,rfl⟩:=h0;refine⟨?_,?_,?_⟩
   ·exact qsZ
   ·exact⟨by omega,by simp⟩
   rintro i ⟨hi,hn⟩
   by_cases hlt:i<w.length
   ·have hltI:(i:Int)<(w.length:Int):=by omega
    obtain⟨x,hx⟩:∃ x,w[i]? = some x:=⟨_,List.getElem?_eq_getElem hlt⟩
    by_cases hxe:x=[]
    ·have:R=true:=by rw[hR1 (by omega)];exact List.any_eq_true.2 ⟨x,List.mem_of_getElem? hx,by simp[hxe]⟩
     subst this
     subst hxe
     simp(disch:=try exact dI) only[hx,Option.map_some,push_cast,seval]
    ·have hsn:((w.take (i+1)).any fun x=>decide (x=[]))=false:=by rw[aB hx,List.any_append,hn];simp[hxe]
     simp(disch:=try exact dI) only[hx,Option.map_some,hxe,push_cast,seval]
     exact⟨i+1,aI qsZ,⟨by omega,hsn⟩,by omega⟩
   ·obtain rfl:i=w.length:=by omega
    rw[List.take_length] at hn
    by_cases h0:w.length=0
    ·rw[hR0 h0]
     by_cases hm:m=0
     ·rw[decide_eq_true hm]
      simp(disch:=try exact dI) only[Int.lt_irrefl,h0,hm,push_cast,seval]
     ·rw[decide_eq_false hm]
      simp(disch:=try exact dI) only[Int.lt_irrefl,h0,hm,push_cast,seval]
    ·have h0I:¬ (w.length:Int)=0:=by omega
     have:R=false:=by rw[hR1 (by omega)];exact hn
     subst this
     simp(disch:=try exact dI) only[Int.lt_irrefl,h0I,push_cast,seval]
 ·have h4:¬ k=4:=fun h=>h45 (.inl h)
  have h5:¬ k=5:=fun h=>h45 (.inr h)
  have:R=false:=by rw[hR];simp only[aY];rw[if_neg (fun h=>h4 h.1)];simp[h4,h5]
  subst this
  simp(disch:=try exact dI) only[Q40,Typ.pv_mk,h4,h5,push_cast,seval]
end Go.Proofs.YtbojpfpliibfbaaGreatDoor

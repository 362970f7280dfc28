/- A part of the proof for CodecChecksCardSaid. -/
import Derived.Test.YtfepkhlgopjaoaaGreatDoorCkKSi
import Derived.Test.YtfepkhlgopjaoaaGreatDoorCkKW9
import Derived.Test.YtfepkhlgopjaoaaGreatDoorCkF
import Derived.Test.YtfepkhlgopjaoaaGreatDoorCkCore6
set_option linter.unusedVariables false
set_option linter.unusedSimpArgs false
set_option maxRecDepth 100000
-- many steps
namespace Go.Proofs.YtfepkhlgopjaoaaGreatDoor
open Go Go.Ab
attribute [local irreducible] vc
def scB (k:Int):Bool:=decide (1≤k)&&decide (k≤7)
theorem GA (g:TFd):rQ g=!scB g.typ.kind:=by
 unfold rQ scB
 by_cases h1:1≤g.typ.kind
 ·by_cases h2:g.typ.kind≤7
  ·simp[h1,h2]<;>omega
  ·simp[h1,h2]<;>omega
 ·simp[h1]<;>omega
noncomputable def flE (t:Typ):Int:=if mj t=0 then (if fP t=true then 0 else 11) else mj t
theorem DK (t:Typ)(ht:t.ok):aq Tryz.prog aA 53 [t.pv] (.int .i64 (flE t)):=by
 have h69:=nI t ht
 have h74:=DL t (by obtain⟨k,m,M,s,w,e,f⟩:=t;rw[Typ.ok_mk] at ht;simp only[Typ.fields];omega)
 unfold flE
 generalize mj t=z at *
 generalize fP t=b at *
 obtain⟨k,m,M,s,w,e,f⟩:=t
 simp only[Typ.pv_mk] at h69 h74
 refine aq.intro KP (by simp[F53]) ?_
 by_cases hz:z=0
 ·subst hz
  rw[if_pos rfl]
  cases b with
  | true=>
    rw[if_pos rfl]
    simp(maxSteps:=9^7) (disch:=try exact dI) only[F53,Typ.pv_mk,push_cast,seval]
    refine ab.pure h69 rfl ?_
    simp(maxSteps:=9^7) (disch:=try exact dI) only[push_cast,seval]
    refine ab.pure h74 rfl ?_
    simp(maxSteps:=9^7) (disch:=try exact dI) only[push_cast,seval]
  | false=>
    rw[if_neg (by decide)]
    simp(maxSteps:=9^7) (disch:=try exact dI) only[F53,Typ.pv_mk,push_cast,seval]
    refine ab.pure h69 rfl ?_
    simp(maxSteps:=9^7) (disch:=try exact dI) only[push_cast,seval]
    refine ab.pure h74 rfl ?_
    simp(maxSteps:=9^7) (disch:=try exact dI) only[push_cast,seval]
 ·rw[if_neg hz]
  simp(maxSteps:=9^7) (disch:=try exact dI) only[F53,Typ.pv_mk,push_cast,seval]
  refine ab.pure h69 rfl ?_
  simp(maxSteps:=9^7) (disch:=try exact dI) only[hz,push_cast,seval]
end Go.Proofs.YtfepkhlgopjaoaaGreatDoor
-- many steps
namespace Go.Proofs.YtfepkhlgopjaoaaGreatDoor
open Go Go.Ab
attribute [local irreducible] vc
theorem Bg (f:Nat)(a b:List PV):PV.one (.clo f a b)=true:=rfl
theorem vq:PV.one .nilf=true:=rfl
theorem sY:aq Tryz.prog aA 70 [] (.agg [.nilf,.clo 124 [] [],.clo 123 [] [],.clo 123 [] [],.clo 125 [] [],.clo 126 [] [],.clo 127 [] [],.clo 128 [] []]):=by
 refine aq.intro KG (by simp[F70]) ?_
 simp(maxSteps:=9^7) (disch:=try exact dI) only[F70,Bg,vq,push_cast,seval]
def LB:PV:=.agg [.nilf,.clo 124 [] [],.clo 123 [] [],.clo 123 [] [],.clo 125 [] [],.clo 126 [] [],.clo 127 [] [],.clo 128 [] []]
theorem LA:dt false 8 1 (.pv LB) (.pv (.int .i64 2))=some (.pv (.clo 123 [] [])):=rfl
theorem Lz:dt false 8 1 (.pv LB) (.pv (.int .i64 3))=some (.pv (.clo 123 [] [])):=rfl
theorem n5 {n:Int}{sc:Nat}(hn:IsN n sc):aq Tryz.prog aA 123 [.agg [.int .i64 0,.int .i64 n,.int .i64 (sc:Int),.str [],.nils,.nils]] (.str (sJ n sc)):=by
 have h:=H9 hn
 generalize sJ n sc=d at h ⊢
 refine aq.intro HF (by simp[Nc]) ?_
 simp(maxSteps:=9^7) (disch:=try exact dI) only[Nc,push_cast,seval]
 refine ab.pure h rfl ?_
 simp(maxSteps:=9^7) (disch:=try exact dI) only[push_cast,seval]
theorem Bc {k m M s:Int}{w:List (List UInt8)}{e:List Typ}{f:List TFd}(h:eU (.mk k m M s w e f)=0):eK k (.mk k m M s w e f)=false:=by
 rw[eU] at h
 by_cases a:inB k 1 10=false
 ·rw[if_pos a] at h;exact absurd h (by decide)
 rw[if_neg a] at h
 by_cases b:eK k (.mk k m M s w e f)=true
 ·rw[if_pos b] at h;exact absurd h (by decide)
 ·simpa using b
theorem Fz {k m M s:Int}{w:List (List UInt8)}{e:List Typ}{f:List TFd}(h:eU (.mk k m M s w e f)=0)(hk:k=2∨k=3):∃ sc:Nat,s=(sc:Int)∧IsN m sc∧IsN M sc:=by
 have hb:=(bF h).2.1
 have hf:=Bc h
 unfold cU at hb
 have h4:¬ (k=4∧0<w.length):=by omega
 rw[if_neg h4] at hb
 by_cases hc:(2≤k∧k≤8)∧(M<m∨m<loK k∨hiK k<M)
 ·rw[if_pos hc] at hb;exact absurd hb (by decide)
 rw[if_neg hc] at hb
 have h1:¬ (M<m∨m<loK k∨hiK k<M):=fun hh=>hc ⟨by omega,hh⟩
 have hs:0≤s∧s≤12:=by
  rcases hk with rfl | rfl
  ·simp only[eK,aD,Bool.or_eq_false_iff] at hf
   have:s=0:=by simpa using hf.2.1
   omega
  ·by_cases hi:inB s 0 12=false
   ·rw[if_pos ⟨rfl,hi⟩] at hb;exact absurd hb (by decide)
   ·simpa[inB] using hi
 have hl:loK k = -999999999999999∧hiK k=999999999999999:=by rcases hk with rfl | rfl<;>exact⟨rfl,rfl⟩
 rw[hl.1,hl.2] at h1
 refine⟨s.toNat,by omega,?_,?_⟩
 ·unfold IsN;omega
 ·unfold IsN;omega
theorem Fy {m M s:Int}{w:List (List UInt8)}{e:List Typ}{f:List TFd}(h:eU (.mk 5 m M s w e f)=0):0≤M∧M≤1024:=by
 have hb:=(bF h).2.1
 unfold cU at hb
 rw[if_neg (fun hh=>absurd hh.1 (by decide))] at hb
 by_cases hc:(2≤(5:Int)∧(5:Int)≤8)∧(M<m∨m<loK 5∨hiK 5<M)
 ·rw[if_pos hc] at hb;exact absurd hb (by decide)
 have h1:¬ (M<m∨m<loK 5∨hiK 5<M):=fun hh=>hc ⟨by decide,hh⟩
 rw[show loK 5=0 from rfl,show hiK 5=1024 from rfl] at h1
 omega
theorem kD:∀ (k a:Nat),(ik k a).length=k
 | 0,_=>rfl
 | k+1,a=>by rw[ik,List.length_append,kD k];rfl
theorem CA {n:Int}{sc:Nat}(hn:IsN n sc):1≤((sJ n sc).length:Int):=by
 simp only[sJ,List.length_append,kD]
 omega
def HQ (w:List (List UInt8))(a:Int):Int:=w.foldl (fun (a:Int) (x:List UInt8)=>max a (x.length:Int)) a
theorem s7 {w:List (List UInt8)}{i:Nat}{x:List UInt8}(h:w[i]? = some x)(a:Int):HQ (w.take (i+1)) a=max (HQ (w.take i) a) (x.length:Int):=fl h a
def pr:Typ→Int
 | .mk k m M s w _ _=>if k=2∨k=3 then max ((sJ m s.toNat).length:Int) ((sJ M s.toNat).length:Int) else if k=4 then max (HQ w M) 1 else if k=5 then max (2*M) 1 else if k=6 then 10 else if k=7 then 24 else 1
set_option maxHeartbeats 4000000 in
theorem Eb (k m M s:Int)(w:List (List UInt8))(e:List Typ)(f:List TFd)(ho:eU (.mk k m M s w e f)=0)(ht:(Typ.mk k m M s w e f).ok)(hk:1≤k∧k≤7):aq Tryz.prog aA 54 [(Typ.mk k m M s w e f).pv] (.int .i64 (pr (.mk k m M s w e f))):=by
 rw[Typ.ok_mk] at ht
 have hwl:w.length≤9000000000000:=by omega
 clear ht
 by_cases h23:k=2∨k=3
 ·obtain⟨sc,rfl,hm,hM⟩:=Fz ho h23
  have h1:=n5 hm
  have h2:=n5 hM
  have hw:aq Tryz.prog aA 70 [] LB:=sY
  have hp:=CA hm
  rw[show pr (.mk k m M (sc:Int) w e f)=max ((sJ m sc).length:Int) ((sJ M sc).length:Int) by simp only[pr,if_pos h23,Int.toNat_natCast]]
  generalize sJ m sc=a at *
  generalize sJ M sc=b at *
  have hx:max (max (a.length:Int) (b.length:Int)) 1=max (a.length:Int) (b.length:Int):=by omega
  refine aq.intro ja (by simp[F54]) ?_
  rcases h23 with rfl | rfl
  ·simp(maxSteps:=9^7) (disch:=try exact dI) only[F54,Typ.pv_mk,push_cast,seval]
   refine am hw rfl ?_
   simp(maxSteps:=9^7) (disch:=try exact dI) only[LA,push_cast,seval]
   refine am h1 rfl ?_
   simp(maxSteps:=9^7) (disch:=try exact dI) only[push_cast,seval]
   refine am h2 rfl ?_
   simp(maxSteps:=9^7) (disch:=try exact dI) only[hx,push_cast,seval]
  ·simp(maxSteps:=9^7) (disch:=try exact dI) only[F54,Typ.pv_mk,push_cast,seval]
   refine am hw rfl ?_
   simp(maxSteps:=9^7) (disch:=try exact dI) only[Lz,push_cast,seval]
   refine am h1 rfl ?_
   simp(maxSteps:=9^7) (disch:=try exact dI) only[push_cast,seval]
   refine am h2 rfl ?_
   simp(maxSteps:=9^7) (disch:=try exact dI) only[hx,push_cast,seval]
 by_cases h4:k=4
 ·subst h4
  rw[show pr (.mk 4 m M s w e f)=max (HQ w M) 1 from rfl]
  refine aq.intro ja (by simp[F54]) ?_
  simp(maxSteps:=9^7) (disch:=try exact dI) only[F54,Typ.pv_mk,push_cast,seval]
  refine aB ([]) (fun i:Nat=>[(3,.pv (.int .i64 (HQ (w.take i) M))),(40,.pv (.int .i64 (i:Int)))]) (fun _=>[]) (fun i=>i≤w.length) (fun i=>w.length - i) (0) ?_;intro e0 σ0 n0 h0;simp(maxSteps:=9^7) (disch:=try exact dI) only[push_cast,seval] at h0;obtain⟨rfl,rfl,rfl⟩:=h0;refine⟨?_,?_,?_⟩
  ·simp(maxSteps:=9^7) (disch:=try exact dI) only[List.take_zero,HQ,List.foldl_nil,push_cast,seval]
  ·omega
  rintro i hi
  by_cases hlt:i<w.length
  ·have hltI:(i:Int)<(w.length:Int):=by omega
   obtain⟨x,hx⟩:∃ x,w[i]? = some x:=⟨_,List.getElem?_eq_getElem hlt⟩
   have hst:=s7 hx M
   simp(maxSteps:=9^7) (disch:=try exact dI) only[hx,Option.map_some,push_cast,seval]
   exact⟨i+1,bQ (by simp(maxSteps:=9^7) (disch:=try exact dI) only[hst,push_cast,seval]),by omega,by omega⟩
  ·obtain rfl:i=w.length:=by omega
   rw[List.take_length]
   simp(maxSteps:=9^7) (disch:=try exact dI) only[Int.lt_irrefl,push_cast,seval]
 by_cases h5:k=5
 ·subst h5
  have hM:=Fy ho
  rw[show pr (.mk 5 m M s w e f)=max (2*M) 1 from rfl]
  refine aq.intro ja (by simp[F54]) ?_
  simp(maxSteps:=9^7) (disch:=try exact dI) only[F54,Typ.pv_mk,push_cast,seval]
 by_cases h6:k=6
 ·subst h6
  rw[show pr (.mk 6 m M s w e f)=10 from rfl]
  refine aq.intro ja (by simp[F54]) ?_
  simp(maxSteps:=9^7) (disch:=try exact dI) only[F54,Typ.pv_mk,show max (10:Int) 1=10 from rfl,push_cast,seval]
 by_cases h7:k=7
 ·subst h7
  rw[show pr (.mk 7 m M s w e f)=24 from rfl]
  refine aq.intro ja (by simp[F54]) ?_
  simp(maxSteps:=9^7) (disch:=try exact dI) only[F54,Typ.pv_mk,show max (24:Int) 1=24 from rfl,push_cast,seval]
 ·obtain rfl:k=1:=by omega
  rw[show pr (.mk 1 m M s w e f)=1 from rfl]
  refine aq.intro ja (by simp[F54]) ?_
  simp(maxSteps:=9^7) (disch:=try exact dI) only[F54,Typ.pv_mk,show max (1:Int) 1=1 from rfl,push_cast,seval]
end Go.Proofs.YtfepkhlgopjaoaaGreatDoor
-- many steps
namespace Go.Proofs.YtfepkhlgopjaoaaGreatDoor
open Go Go.Ab
attribute [local irreducible] vc
end Go.Proofs.YtfepkhlgopjaoaaGreatDoor
-- many steps
namespace Go.Proofs.YtfepkhlgopjaoaaGreatDoor
open Go Go.Ab
attribute [local irreducible] vc
theorem Dl {t:Typ}(h:mj t=0):tyV 8 t:=by
 unfold mj at h
 by_cases h0:(dR 0 8 4096 t).1=0
 ·exact fq 8 4096 t h0
 ·rw[if_neg h0] at h;exact absurd h h0
theorem Dj {n:Nat}{t:Typ}(h:tyV n t):eU t=0:=by
 cases n with
 | zero=>exact h.elim
 | succ n=>obtain⟨k,m,M,s,w,e,f⟩:=t;exact h.1
theorem H4 {n:Nat}{t:Typ}(h:tyV n t)(ht:t.ok)(hs:scB t.kind=true):aq Tryz.prog aA 54 [t.pv] (.int .i64 (pr t)):=by
 have ho:=Dj h
 obtain⟨k,m,M,s,w,e,f⟩:=t
 have hk:1≤k∧k≤7:=by
  simp only[scB,Typ.kind,Bool.and_eq_true,decide_eq_true_eq] at hs
  exact⟨of_decide_eq_true hs.1,of_decide_eq_true hs.2⟩
 exact Eb k m M s w e f ho ht hk
theorem oO {t:Typ}(h:fP t=true):t.kind=9∧0<t.fields.length∧∀ g∈t.fields,scB g.typ.kind=true:=by
 obtain⟨k,m,M,s,w,e,f⟩:=t
 simp only[fP,Bool.and_eq_true,decide_eq_true_eq,Bool.not_eq_true'] at h
 refine⟨h.1,h.2.1,fun g hg=>?_⟩
 have:=List.any_eq_false.1 h.2.2 g hg
 rw[GA] at this
 cases hb:scB g.typ.kind with
 | true=>rfl
 | false=>rw[hb] at this;exact absurd rfl this
theorem Gl {t:Typ}(h:mj t=0)(ht:t.ok)(hf:fP t=true):∀ g∈t.fields,aq Tryz.prog aA 54 [g.typ.pv] (.int .i64 (pr g.typ)):=fun g hg=>by
 have hty:=Dl h
 obtain⟨h9,_,hs⟩:=oO hf
 have hsg:=hs g hg
 obtain⟨k,m,M,s,w,e,f⟩:=t
 rw[Typ.ok_mk] at ht
 exact H4 (hty.2.2 (.inl h9) g hg).1 (fB (ht.2.2.2.2.2.2.2.2.2 g hg)).1 hsg
theorem Gp {t:Typ}(h:flE t=0):mj t=0∧fP t=true:=by
 unfold flE at h
 by_cases hz:mj t=0
 ·rw[if_pos hz] at h
  cases hb:fP t with
  | true=>exact⟨hz,rfl⟩
  | false=>rw[hb,if_neg (by decide)] at h;cases h
 ·rw[if_neg hz] at h;exact absurd h hz
end Go.Proofs.YtfepkhlgopjaoaaGreatDoor
-- many steps
namespace Go.Proofs.YtfepkhlgopjaoaaGreatDoor
open Go Go.Ab
attribute [local irreducible] vc
def DN (s:List UInt8):Bool:=decide (s[s.length - 1]? = some 32)
def vZ (c:UInt8):Bool:=decide (c.toNat<32)
def wrB (s:List UInt8):Bool:=!DN s&&!(s.any vZ)
theorem xq {s:List UInt8}{c:UInt8}(h:s[s.length - 1]? = some c):s.drop (s.length - 1)=[c]:=by
 have hi:=(List.getElem?_eq_some_iff.1 h).1
 have he:s[s.length - 1]=c:=(List.getElem?_eq_some_iff.1 h).2
 rw[List.drop_eq_getElem_cons hi,he,List.drop_of_length_le (by omega)]
theorem tB (s:List UInt8)(hs:s.length≤140737488351232):aq Tryz.prog aA 182 [.str s,.str [32]] (.bool (DN s)):=by
 by_cases h0:s=[]
 ·subst h0
  rw[show DN []=false from rfl]
  refine aq.intro yN (by simp[H3]) ?_
  simp(maxSteps:=9^7) (disch:=try exact dI) only[H3,push_cast,seval]
 ·have hp:0<s.length:=List.length_pos_iff.2 h0
  obtain⟨c,hc⟩:∃ c,s[s.length - 1]? = some c:=⟨_,List.getElem?_eq_getElem (by omega)⟩
  have hd:=xq hc
  have h1:(1:Int)≤(s.length:Int):=by omega
  have et:((s.length:Int) - 1).toNat=s.length - 1:=by omega
  have hEq:DN s=decide (c=32):=by unfold DN;rw[hc];simp
  rw[hEq]
  refine aq.intro yN (by simp[H3]) ?_
  by_cases h:c=32
  ·subst h
   rw[decide_eq_true rfl]
   simp(maxSteps:=9^7) (disch:=try exact dI) only[H3,h1,et,hd,List.take_length,push_cast,seval]
  ·rw[decide_eq_false h]
   have hne:¬ [c]=([32]:List UInt8):=by simpa using h
   simp(maxSteps:=9^7) (disch:=try exact dI) only[H3,h1,et,hd,List.take_length,hne,push_cast,seval]
theorem z8 (s:List UInt8)(hs:s.length≤140737488351232):aq Tryz.prog aA 107 [.str s,.str [32]] (.bool (DN s)):=by
 have h:=tB s hs
 generalize DN s=b at *
 refine aq.intro HJ (by simp[Nf]) ?_
 simp(maxSteps:=9^7) (disch:=try exact dI) only[Nf,push_cast,seval]
 refine ab.pure h rfl ?_
 simp(maxSteps:=9^7) (disch:=try exact dI) only[push_cast,seval]
theorem L9 (c:UInt8):aq Tryz.prog aA 109 [.int .u8 (c.toNat:Int)] (.bool (vZ c)):=by
 unfold vZ
 refine aq.intro HH (by simp[Lw]) ?_
 by_cases h:c.toNat<32
 ·have hI:(c.toNat:Int)<32:=by omega
  rw[decide_eq_true h]
  simp(maxSteps:=9^7) (disch:=try exact dI) only[Lw,hI,push_cast,seval]
 ·have hI:¬ (c.toNat:Int)<32:=by omega
  rw[decide_eq_false h]
  simp(maxSteps:=9^7) (disch:=try exact dI) only[Lw,hI,push_cast,seval]
theorem x7 (s:List UInt8):(aE s).length=s.length:=by simp[aE]
theorem CJ {s:List UInt8}{i:Nat}{c:UInt8}(h:s[i]? = some c):(aE s)[i]? = some (.int .u8 (c.toNat:Int)):=by simp[aE,h]
theorem BZ (s:List UInt8)(hs:s.length≤140737488351232):aq Tryz.prog aA 183 [.list (aE s),.clo 109 [] []] (.int .i64 (dm vZ s 0)):=by
 refine aq.intro Hs (by simp[M5]) ?_
 simp(maxSteps:=9^7) (disch:=try exact dI) only[M5,x7,push_cast,seval]
 refine aB ([]) (fun m:Nat=>[(8,.pv (.int .i64 (m:Int)))]) (fun m=>[]) (fun m=>m≤s.length∧dm vZ s 0=dm vZ (s.drop m) m) (fun m=>s.length - m) (0) ?_;intro e0 σ0 n0 h0;simp(maxSteps:=9^7) (disch:=try exact dI) only[push_cast,seval] at h0;obtain⟨rfl,rfl,rfl⟩:=h0;refine⟨?_,?_,?_⟩
 ·simp(maxSteps:=9^7) (disch:=try exact dI) only[push_cast,seval]
 ·exact⟨by omega,by simp⟩
 ·rintro m ⟨hm,he⟩
  by_cases hlt:m<s.length
  ·have hltI:(m:Int)<s.length:=by omega
   obtain⟨x,hx⟩:∃ x,s[m]? = some x:=⟨_,List.getElem?_eq_getElem hlt⟩
   have hcall:=L9 x
   have hx':=CJ hx
   simp(maxSteps:=9^7) (disch:=try exact dI) only[hx',push_cast,seval]
   refine ab.pure hcall rfl ?_
   cases hqx:vZ x with
   | true=>
     rw[he,dw hx hqx]
     simp(maxSteps:=9^7) (disch:=try exact dI) only[push_cast,seval]
   | false=>
     rw[cb hx hqx] at he
     simp(maxSteps:=9^7) (disch:=try exact dI) only[push_cast,seval]
     exact⟨m+1,bQ qsZ,⟨by omega,he⟩,by omega⟩
  ·have hltI:¬ (m:Int)<s.length:=by omega
   rw[he,dx hlt]
   simp(maxSteps:=9^7) (disch:=try exact dI) only[push_cast,seval]
theorem rS (s:List UInt8)(hs:s.length≤140737488351232):aq Tryz.prog aA 108 [.list (aE s),.clo 109 [] []] (.bool (s.any vZ)):=by
 have h94:=BZ s hs
 have hfa:=cL (p:=vZ) s
 refine aq.intro HI (by simp[Lx]) ?_
 rcases bv (p:=vZ) s 0 with ⟨h1,h2⟩ | ⟨k,x,h1,h2,h3⟩
 ·rw[h2] at h94
  rw[h1] at hfa
  rw[← hfa]
  simp(maxSteps:=9^7) (disch:=try exact dI) only[Lx,push_cast,seval]
  refine ab.pure h94 rfl ?_
  simp(maxSteps:=9^7) (disch:=try exact dI) only[push_cast,seval]
  rfl
 ·rw[h3] at h94
  rw[h2] at hfa
  rw[← hfa]
  have hk:(0:Int)≤((0+k:Nat):Int):=by omega
  generalize ((0+k:Nat):Int)=z at *
  simp(maxSteps:=9^7) (disch:=try exact dI) only[Lx,push_cast,seval]
  refine ab.pure h94 rfl ?_
  simp(maxSteps:=9^7) (disch:=try exact dI) only[push_cast,seval]
  rfl
theorem lS (e:List (Nat×AV))(σ:List (Nat×Blk))(new:Nat)(x:AX):eV e σ new (.ofStr x)=dW new (evE e x):=_root_.id rfl
theorem p5 (new:Nat){k:List UInt8}(h:k.length≤140737488355328):dW new (.pv (.str k))=some (.pv (.list (aE k)),[(new,.none)]):=by simp[dW,h]
theorem sX (s:List UInt8)(hs:s.length≤140737488351232):aq Tryz.prog aA 63 [.str s] (.bool (wrB s)):=by
 have h66:=z8 s hs
 have h67:=rS s hs
 unfold wrB
 have hof:=fun new=>p5 new (k:=s) (by omega)
 generalize DN s=a at *
 generalize s.any vZ=b at *
 refine aq.intro KI (by simp[F63]) ?_
 simp(maxSteps:=9^7) (disch:=try exact dI) only[F63,push_cast,seval]
 refine ab.pure h66 rfl ?_
 cases a with
 | true=>simp(maxSteps:=9^7) (disch:=try exact dI) only[push_cast,seval]
 | false=>
   simp(maxSteps:=9^7) (disch:=try exact dI) only[lS,hof,push_cast,seval]
   refine ab.pure h67 rfl ?_
   simp(maxSteps:=9^7) (disch:=try exact dI) only[push_cast,seval]
end Go.Proofs.YtfepkhlgopjaoaaGreatDoor

/- A part of the proof for CodecUsualCardSaid. -/
import Derived.Test.YtfepkhlgopjaoaaGreatDoorUsKSi
import Derived.Test.YtfepkhlgopjaoaaGreatDoorUsKW9
import Derived.Test.YtfepkhlgopjaoaaGreatDoorUsF
set_option linter.unusedVariables false
set_option linter.unusedSimpArgs false
set_option maxRecDepth 100000
-- many steps
namespace Go.Proofs.YtfepkhlgopjaoaaGreatDoor
open Go Go.Ab
attribute [local irreducible] vc
def scB (k:Int):Bool:=decide (1≤k)&&decide (k≤7)
theorem G6 (g:TFd):sh g=!scB g.typ.kind:=by
 unfold sh scB
 by_cases h1:1≤g.typ.kind
 ·by_cases h2:g.typ.kind≤7
  ·simp[h1,h2]<;>omega
  ·simp[h1,h2]<;>omega
 ·simp[h1]<;>omega
noncomputable def flE (t:Typ):Int:=if mE t=0 then (if fV t=true then 0 else 11) else mE t
theorem pd (t:Typ)(ht:t.ok):ap Tryz.prog az 53 [t.pv] (.int .i64 (flE t)):=by
 have h69:=nY t ht
 have h74:=Ea t (by obtain⟨k,m,M,s,w,e,f⟩:=t;rw[Typ.ok_mk] at ht;simp only[Typ.fields];omega)
 unfold flE
 generalize mE t=z at *
 generalize fV t=b at *
 obtain⟨k,m,M,s,w,e,f⟩:=t
 simp only[Typ.pv_mk] at h69 h74
 refine ap.intro Ll (by simp[F53]) ?_
 by_cases hz:z=0
 ·subst hz
  rw[if_pos rfl]
  cases b with
  | true=>
    rw[if_pos rfl]
    simp(maxSteps:=9^7) (disch:=try exact dI) only[F53,Typ.pv_mk,push_cast,seval]
    refine ae.pure h69 rfl ?_
    simp(maxSteps:=9^7) (disch:=try exact dI) only[push_cast,seval]
    refine ae.pure h74 rfl ?_
    simp(maxSteps:=9^7) (disch:=try exact dI) only[push_cast,seval]
  | false=>
    rw[if_neg (by decide)]
    simp(maxSteps:=9^7) (disch:=try exact dI) only[F53,Typ.pv_mk,push_cast,seval]
    refine ae.pure h69 rfl ?_
    simp(maxSteps:=9^7) (disch:=try exact dI) only[push_cast,seval]
    refine ae.pure h74 rfl ?_
    simp(maxSteps:=9^7) (disch:=try exact dI) only[push_cast,seval]
 ·rw[if_neg hz]
  simp(maxSteps:=9^7) (disch:=try exact dI) only[F53,Typ.pv_mk,push_cast,seval]
  refine ae.pure h69 rfl ?_
  simp(maxSteps:=9^7) (disch:=try exact dI) only[hz,push_cast,seval]
end Go.Proofs.YtfepkhlgopjaoaaGreatDoor
-- many steps
namespace Go.Proofs.YtfepkhlgopjaoaaGreatDoor
open Go Go.Ab
attribute [local irreducible] vc
theorem BF (f:Nat)(a b:List PV):PV.one (.clo f a b)=true:=rfl
theorem vS:PV.one .nilf=true:=rfl
theorem tx:ap Tryz.prog az 70 [] (.agg [.nilf,.clo 124 [] [],.clo 123 [] [],.clo 123 [] [],.clo 125 [] [],.clo 126 [] [],.clo 127 [] [],.clo 128 [] []]):=by
 refine ap.intro Lc (by simp[F70]) ?_
 simp(maxSteps:=9^7) (disch:=try exact dI) only[F70,BF,vS,push_cast,seval]
def L8:PV:=.agg [.nilf,.clo 124 [] [],.clo 123 [] [],.clo 123 [] [],.clo 125 [] [],.clo 126 [] [],.clo 127 [] [],.clo 128 [] []]
theorem L7:dw false 8 1 (.pv L8) (.pv (.int .i64 2))=some (.pv (.clo 123 [] [])):=rfl
theorem L6:dw false 8 1 (.pv L8) (.pv (.int .i64 3))=some (.pv (.clo 123 [] [])):=rfl
theorem oo {n:Int}{sc:Nat}(hn:IsN n sc):ap Tryz.prog az 123 [.agg [.int .i64 0,.int .i64 n,.int .i64 (sc:Int),.str [],.nils,.nils]] (.str (tf n sc)):=by
 have h:=IH hn
 generalize tf n sc=d at h ⊢
 refine ap.intro Ib (by simp[NI]) ?_
 simp(maxSteps:=9^7) (disch:=try exact dI) only[NI,push_cast,seval]
 refine ae.pure h rfl ?_
 simp(maxSteps:=9^7) (disch:=try exact dI) only[push_cast,seval]
theorem BB {k m M s:Int}{w:List (List UInt8)}{e:List Typ}{f:List TFd}(h:eZ (.mk k m M s w e f)=0):eP k (.mk k m M s w e f)=false:=by
 rw[eZ] at h
 by_cases a:inB k 1 10=false
 ·rw[if_pos a] at h;exact absurd h (by decide)
 rw[if_neg a] at h
 by_cases b:eP k (.mk k m M s w e f)=true
 ·rw[if_pos b] at h;exact absurd h (by decide)
 ·simpa using b
theorem F5 {k m M s:Int}{w:List (List UInt8)}{e:List Typ}{f:List TFd}(h:eZ (.mk k m M s w e f)=0)(hk:k=2∨k=3):∃ sc:Nat,s=(sc:Int)∧IsN m sc∧IsN M sc:=by
 have hb:=(bG h).2.1
 have hf:=BB h
 unfold cZ at hb
 have h4:¬ (k=4∧0<w.length):=by omega
 rw[if_neg h4] at hb
 by_cases hc:(2≤k∧k≤8)∧(M<m∨m<loK k∨hiK k<M)
 ·rw[if_pos hc] at hb;exact absurd hb (by decide)
 rw[if_neg hc] at hb
 have h1:¬ (M<m∨m<loK k∨hiK k<M):=fun hh=>hc ⟨by omega,hh⟩
 have hs:0≤s∧s≤12:=by
  rcases hk with rfl | rfl
  ·simp only[eP,aD,Bool.or_eq_false_iff] at hf
   have:s=0:=by simpa using hf.2.1
   omega
  ·by_cases hi:inB s 0 12=false
   ·rw[if_pos ⟨rfl,hi⟩] at hb;exact absurd hb (by decide)
   ·simpa[inB] using hi
 have hl:loK k = -999999999999999∧hiK k=999999999999999:=by rcases hk with rfl | rfl<;>exact⟨rfl,rfl⟩
 rw[hl.1,hl.2] at h1
 refine⟨s.toNat,by omega,?_,?_⟩
 ·unfold IsN;omega
 ·unfold IsN;omega
theorem F4 {m M s:Int}{w:List (List UInt8)}{e:List Typ}{f:List TFd}(h:eZ (.mk 5 m M s w e f)=0):0≤M∧M≤1024:=by
 have hb:=(bG h).2.1
 unfold cZ at hb
 rw[if_neg (fun hh=>absurd hh.1 (by decide))] at hb
 by_cases hc:(2≤(5:Int)∧(5:Int)≤8)∧(M<m∨m<loK 5∨hiK 5<M)
 ·rw[if_pos hc] at hb;exact absurd hb (by decide)
 have h1:¬ (M<m∨m<loK 5∨hiK 5<M):=fun hh=>hc ⟨by decide,hh⟩
 rw[show loK 5=0 from rfl,show hiK 5=1024 from rfl] at h1
 omega
theorem kR:∀ (k a:Nat),(iv k a).length=k
 | 0,_=>rfl
 | k+1,a=>by rw[iv,List.length_append,kR k];rfl
theorem CY {n:Int}{sc:Nat}(hn:IsN n sc):1≤((tf n sc).length:Int):=by
 simp only[tf,List.length_append,kR]
 omega
def In (w:List (List UInt8))(a:Int):Int:=w.foldl (fun (a:Int) (x:List UInt8)=>max a (x.length:Int)) a
theorem tA {w:List (List UInt8)}{i:Nat}{x:List UInt8}(h:w[i]? = some x)(a:Int):In (w.take (i+1)) a=max (In (w.take i) a) (x.length:Int):=fu h a
def j8:Typ→Int
 | .mk k m M s w _ _=>if k=2∨k=3 then max ((tf m s.toNat).length:Int) ((tf M s.toNat).length:Int) else if k=4 then max (In w M) 1 else if k=5 then max (2*M) 1 else if k=6 then 10 else if k=7 then 24 else 1
set_option maxHeartbeats 4000000 in
theorem EF (k m M s:Int)(w:List (List UInt8))(e:List Typ)(f:List TFd)(ho:eZ (.mk k m M s w e f)=0)(ht:(Typ.mk k m M s w e f).ok)(hk:1≤k∧k≤7):ap Tryz.prog az 54 [(Typ.mk k m M s w e f).pv] (.int .i64 (j8 (.mk k m M s w e f))):=by
 rw[Typ.ok_mk] at ht
 have hwl:w.length≤9000000000000:=by omega
 clear ht
 by_cases h23:k=2∨k=3
 ·obtain⟨sc,rfl,hm,hM⟩:=F5 ho h23
  have h1:=oo hm
  have h2:=oo hM
  have hw:ap Tryz.prog az 70 [] L8:=tx
  have hp:=CY hm
  rw[show j8 (.mk k m M (sc:Int) w e f)=max ((tf m sc).length:Int) ((tf M sc).length:Int) by simp only[j8,if_pos h23,Int.toNat_natCast]]
  generalize tf m sc=a at *
  generalize tf M sc=b at *
  have hx:max (max (a.length:Int) (b.length:Int)) 1=max (a.length:Int) (b.length:Int):=by omega
  refine ap.intro jj (by simp[F54]) ?_
  rcases h23 with rfl | rfl
  ·simp(maxSteps:=9^7) (disch:=try exact dI) only[F54,Typ.pv_mk,push_cast,seval]
   refine ab hw rfl ?_
   simp(maxSteps:=9^7) (disch:=try exact dI) only[L7,push_cast,seval]
   refine ab h1 rfl ?_
   simp(maxSteps:=9^7) (disch:=try exact dI) only[push_cast,seval]
   refine ab h2 rfl ?_
   simp(maxSteps:=9^7) (disch:=try exact dI) only[hx,push_cast,seval]
  ·simp(maxSteps:=9^7) (disch:=try exact dI) only[F54,Typ.pv_mk,push_cast,seval]
   refine ab hw rfl ?_
   simp(maxSteps:=9^7) (disch:=try exact dI) only[L6,push_cast,seval]
   refine ab h1 rfl ?_
   simp(maxSteps:=9^7) (disch:=try exact dI) only[push_cast,seval]
   refine ab h2 rfl ?_
   simp(maxSteps:=9^7) (disch:=try exact dI) only[hx,push_cast,seval]
 by_cases h4:k=4
 ·subst h4
  rw[show j8 (.mk 4 m M s w e f)=max (In w M) 1 from rfl]
  refine ap.intro jj (by simp[F54]) ?_
  simp(maxSteps:=9^7) (disch:=try exact dI) only[F54,Typ.pv_mk,push_cast,seval]
  refine aB ([]) (fun i:Nat=>[(3,.pv (.int .i64 (In (w.take i) M))),(40,.pv (.int .i64 (i:Int)))]) (fun _=>[]) (fun i=>i≤w.length) (fun i=>w.length - i) (0) ?_;intro e0 σ0 n0 h0;simp(maxSteps:=9^7) (disch:=try exact dI) only[push_cast,seval] at h0;obtain⟨rfl,rfl,rfl⟩:=h0;refine⟨?_,?_,?_⟩
  ·simp(maxSteps:=9^7) (disch:=try exact dI) only[List.take_zero,In,List.foldl_nil,push_cast,seval]
  ·omega
  rintro i hi
  by_cases hlt:i<w.length
  ·have hltI:(i:Int)<(w.length:Int):=by omega
   obtain⟨x,hx⟩:∃ x,w[i]? = some x:=⟨_,List.getElem?_eq_getElem hlt⟩
   have hst:=tA hx M
   simp(maxSteps:=9^7) (disch:=try exact dI) only[hx,Option.map_some,push_cast,seval]
   exact⟨i+1,bH (by simp(maxSteps:=9^7) (disch:=try exact dI) only[hst,push_cast,seval]),by omega,by omega⟩
  ·obtain rfl:i=w.length:=by omega
   rw[List.take_length]
   simp(maxSteps:=9^7) (disch:=try exact dI) only[Int.lt_irrefl,push_cast,seval]
 by_cases h5:k=5
 ·subst h5
  have hM:=F4 ho
  rw[show j8 (.mk 5 m M s w e f)=max (2*M) 1 from rfl]
  refine ap.intro jj (by simp[F54]) ?_
  simp(maxSteps:=9^7) (disch:=try exact dI) only[F54,Typ.pv_mk,push_cast,seval]
 by_cases h6:k=6
 ·subst h6
  rw[show j8 (.mk 6 m M s w e f)=10 from rfl]
  refine ap.intro jj (by simp[F54]) ?_
  simp(maxSteps:=9^7) (disch:=try exact dI) only[F54,Typ.pv_mk,show max (10:Int) 1=10 from rfl,push_cast,seval]
 by_cases h7:k=7
 ·subst h7
  rw[show j8 (.mk 7 m M s w e f)=24 from rfl]
  refine ap.intro jj (by simp[F54]) ?_
  simp(maxSteps:=9^7) (disch:=try exact dI) only[F54,Typ.pv_mk,show max (24:Int) 1=24 from rfl,push_cast,seval]
 ·obtain rfl:k=1:=by omega
  rw[show j8 (.mk 1 m M s w e f)=1 from rfl]
  refine ap.intro jj (by simp[F54]) ?_
  simp(maxSteps:=9^7) (disch:=try exact dI) only[F54,Typ.pv_mk,show max (1:Int) 1=1 from rfl,push_cast,seval]
end Go.Proofs.YtfepkhlgopjaoaaGreatDoor
-- many steps
namespace Go.Proofs.YtfepkhlgopjaoaaGreatDoor
open Go Go.Ab
attribute [local irreducible] vc
end Go.Proofs.YtfepkhlgopjaoaaGreatDoor
-- many steps
namespace Go.Proofs.YtfepkhlgopjaoaaGreatDoor
open Go Go.Ab
attribute [local irreducible] vc
theorem un {t:Typ}(h:mE t=0):tyV 8 t:=by
 unfold mE at h
 by_cases h0:(dV 0 8 4096 t).1=0
 ·exact fy 8 4096 t h0
 ·rw[if_neg h0] at h;exact absurd h h0
theorem tO {n:Nat}{t:Typ}(h:tyV n t):eZ t=0:=by
 cases n with
 | zero=>exact h.elim
 | succ n=>obtain⟨k,m,M,s,w,e,f⟩:=t;exact h.1
theorem IB {n:Nat}{t:Typ}(h:tyV n t)(ht:t.ok)(hs:scB t.kind=true):ap Tryz.prog az 54 [t.pv] (.int .i64 (j8 t)):=by
 have ho:=tO h
 obtain⟨k,m,M,s,w,e,f⟩:=t
 have hk:1≤k∧k≤7:=by
  simp only[scB,Typ.kind,Bool.and_eq_true,decide_eq_true_eq] at hs
  exact⟨of_decide_eq_true hs.1,of_decide_eq_true hs.2⟩
 exact EF k m M s w e f ho ht hk
theorem pb {t:Typ}(h:fV t=true):t.kind=9∧0<t.fields.length∧∀ g∈t.fields,scB g.typ.kind=true:=by
 obtain⟨k,m,M,s,w,e,f⟩:=t
 simp only[fV,Bool.and_eq_true,decide_eq_true_eq,Bool.not_eq_true'] at h
 refine⟨h.1,h.2.1,fun g hg=>?_⟩
 have:=List.any_eq_false.1 h.2.2 g hg
 rw[G6] at this
 cases hb:scB g.typ.kind with
 | true=>rfl
 | false=>rw[hb] at this;exact absurd rfl this
theorem xz {t:Typ}(h:mE t=0)(ht:t.ok)(hf:fV t=true):∀ g∈t.fields,ap Tryz.prog az 54 [g.typ.pv] (.int .i64 (j8 g.typ)):=fun g hg=>by
 have hty:=un h
 obtain⟨h9,_,hs⟩:=pb hf
 have hsg:=hs g hg
 obtain⟨k,m,M,s,w,e,f⟩:=t
 rw[Typ.ok_mk] at ht
 exact IB (hty.2.2 (.inl h9) g hg).1 (fH (ht.2.2.2.2.2.2.2.2.2 g hg)).1 hsg
def pP (f:List TFd):List PV:=f.map fun g=>.int .i64 (j8 g.typ)
theorem jh (t:Typ)(ht:t.ok)(he:¬ flE t=0):ap Tryz.prog az 26 [t.pv] (.tup [.nils,.int .i64 (flE t)]):=by
 have h34:=pd t ht
 generalize flE t=z at *
 obtain⟨k,m,M,s,w,e,f⟩:=t
 simp only[Typ.pv_mk] at h34
 refine ap.intro Ey (by simp[F26]) ?_
 simp(maxSteps:=9^7) (disch:=try exact dI) only[F26,Typ.pv_mk,push_cast,seval]
 refine ae.pure h34 rfl ?_
 simp(maxSteps:=9^7) (disch:=try exact dI) only[he,push_cast,seval]
theorem nP {t:Typ}(h:flE t=0):mE t=0∧fV t=true:=by
 unfold flE at h
 by_cases hz:mE t=0
 ·rw[if_pos hz] at h
  cases hb:fV t with
  | true=>exact⟨hz,rfl⟩
  | false=>rw[hb,if_neg (by decide)] at h;cases h
 ·rw[if_neg hz] at h;exact absurd h hz
theorem tB {f:List TFd}{i:Nat}{g:TFd}(h:f[i]? = some g):pP (f.take (i+1))=pP (f.take i)++[.int .i64 (j8 g.typ)]:=by
 rw[aR h,pP,List.map_append];rfl
set_option maxHeartbeats 4000000 in
theorem il (t:Typ)(ht:t.ok)(he:flE t=0):ap Tryz.prog az 26 [t.pv] (.tup [.list (pP t.fields),.int .i64 0]):=by
 have h34:=pd t ht
 obtain⟨h0,hfl⟩:=nP he
 have hw:=fun g hg=>xz h0 ht hfl g hg
 rw[he] at h34
 clear he h0 hfl
 obtain⟨k,m,M,s,w,e,f⟩:=t
 rw[Typ.ok_mk] at ht
 have hf:f.length≤9000000000000:=by omega
 clear ht
 simp only[Typ.pv_mk,Typ.fields] at h34 hw ⊢
 refine ap.intro Ey (by simp[F26]) ?_
 simp(maxSteps:=9^7) (disch:=try exact dI) only[F26,Typ.pv_mk,push_cast,seval]
 refine ae.pure h34 rfl ?_
 simp(maxSteps:=9^7) (disch:=try exact dI) only[push_cast,seval]
 refine aB ([(5,0,3,1)]) (fun i:Nat=>[(5,.olist 0 1 (pP (f.take i))),(16,.pv (.int .i64 (i:Int)))]) (fun _=>[]) (fun i=>i≤f.length) (fun i=>f.length - i) (0) ?_;intro e0 σ0 n0 h0;simp(maxSteps:=9^7) (disch:=try exact dI) only[push_cast,seval] at h0;obtain⟨rfl,rfl,rfl⟩:=h0;refine⟨?_,?_,?_⟩
 ·simp(maxSteps:=9^7) (disch:=try exact dI) only[pP,push_cast,seval]
 ·omega
 rintro i hi
 by_cases hlt:i<f.length
 ·have hltI:(i:Int)<(f.length:Int):=by omega
  obtain⟨g,hg⟩:∃ g,f[i]? = some g:=⟨_,List.getElem?_eq_getElem hlt⟩
  have hc:=hw g (List.mem_of_getElem? hg)
  have hst:=tB hg
  have hlen:(pP (f.take i)).length=i:=by rw[pP,List.length_map,List.length_take];omega
  obtain⟨n',nm',nd',⟨k',m',M',s',w',e',f'⟩,d'⟩:=g
  simp only[TFd.typ,Typ.pv_mk] at hc hst
  generalize j8 (.mk k' m' M' s' w' e' f')=z at hc hst
  generalize pP (f.take i)=L at *
  simp(maxSteps:=9^7) (disch:=try exact dI) only[hg,Option.map_some,TFd.pv_mk,Typ.pv_mk,ag,push_cast,seval]
  refine ae.pure hc rfl ?_
  simp(maxSteps:=9^7) (disch:=try exact dI) only[hlen,push_cast,seval]
  exact⟨i+1,bH (by simp(maxSteps:=9^7) (disch:=try exact dI) only[hst,push_cast,seval]),by omega,by omega⟩
 ·obtain rfl:i=f.length:=by omega
  rw[List.take_length]
  have hlen:(pP f).length=f.length:=by rw[pP,List.length_map]
  simp(maxSteps:=9^7) (disch:=try exact dI) only[Int.lt_irrefl,hlen,push_cast,seval]
end Go.Proofs.YtfepkhlgopjaoaaGreatDoor

/- A part of the proof. -/
import Derived.Test.YtbojpfpliibfbaaGreatDoorMxRY5
set_option maxHeartbeats 16000000
set_option maxRecDepth 100000
set_option linter.unusedVariables false
set_option linter.unusedSimpArgs false
namespace Go.Proofs.YtbojpfpliibfbaaGreatDoor
open Go Go.Ab
attribute [local irreducible] vc
theorem P7:∀ {a b:List UInt8},Lib.compareBytes a b=0->a=b
 | [],[],_=>rfl
 | [],y::q,h=>by simp[Lib.compareBytes] at h
 | x::p,[],h=>by simp[Lib.compareBytes] at h
 | x::p,y::q,h=>by
   rw[Lib.compareBytes] at h
   by_cases h1:x<y
   ·rw[if_pos h1] at h;exact absurd h (by decide)
   rw[if_neg h1] at h
   by_cases h2:y<x
   ·rw[if_pos h2] at h;exact absurd h (by decide)
   rw[if_neg h2] at h
   rw[UInt8.le_antisymm (UInt8.not_lt.1 h2) (UInt8.not_lt.1 h1),P7 h]
theorem ze (L:List Fld)(hv:(Val.mk 9 0 0 [] [] L).ok)(hl:L.length<=64)(hd:ey L)(nm:List UInt8):ag Tryz.prog aq 24 [(Val.mk 9 0 0 [] [] L).pv,.str nm] (Val.mk 9 0 0 [] [] (lg nm L)).pv:=by
 rcases C8 _ hv rfl nm with ⟨h1,h2⟩ | ⟨k,y,h1,h2,h3⟩
 ·simp only[Val.fields] at h1
  rw[ov h1]
  simp only[Val.pv_mk] at h2 ⊢
  refine ag.intro Q24.2 (by simp[Q24]) ?_
  simp(maxSteps:=9^7) (disch:=try exact dI) only[Q24,push_cast,seval]
  refine ab.pure h2 rfl ?_
  simp(maxSteps:=9^7) (disch:=try exact dI) only[push_cast,seval]
 ·simp only[Val.fields] at h1 h2
  have hyn:y.name=nm:=by have q:=List.find?_some h2;exact of_decide_eq_true q
  rw[AJ hd h1 hyn]
  have hk:=(List.getElem?_eq_some_iff.1 h1).1
  have hkI:(k:Int)<=(L.length:Int):=by omega
  have hkJ:(k:Int)+1<=(L.length:Int):=by omega
  have hcut:=Sn L (k+1)
  have htk:(L.map Fld.pv).take k=(L.take k).map Fld.pv:=(List.map_take ..).symm
  simp only[Val.pv_mk] at h3 ⊢
  refine ag.intro Q24.2 (by simp[Q24]) ?_
  simp(maxSteps:=9^7) (disch:=try exact dI) only[Q24,push_cast,seval]
  refine ab.pure h3 rfl ?_
  simp(maxSteps:=9^7) (disch:=try exact dI) only[hkI,hkJ,hcut,htk,MQ,List.map_append,push_cast,seval]
theorem NL (L:List Fld)(hv:(Val.mk 9 0 0 [] [] L).ok)(hl:L.length<=63)(nm:List UInt8)(x:Val)(hnl:nm.length<=140737488351232)(hnb:bw nm=true)(hx:bv x=false)(hn:∀ y∈L,y.name≠nm):ag Tryz.prog aq 26 [(Val.mk 9 0 0 [] [] L).pv,.str nm,x.pv] (.tup [(Val.mk 9 0 0 [] [] (lj (.mk nm x) L)).pv,.int .i64 0]):=by
 have hfd:L.find? (aF nm)=none:=List.find?_eq_none.2 fun y hy=>by simp[aF,hn y hy]
 have h25:ag Tryz.prog aq 25 [(Val.mk 9 0 0 [] [] L).pv,.str nm] (.int .i64 (-1)):=by
  rcases C8 _ hv rfl nm with ⟨_,h2⟩ | ⟨_,_,_,h2,_⟩
  ·exact h2
  ·simp only[Val.fields] at h2
   rw[hfd] at h2;cases h2
 have h66:=Ly nm
 have h67:=Lr x
 rw[hnb] at h66
 rw[hx] at h67
 have hLo:∀ y∈L,y.ok:=by
  rw[Val.ok_mk] at hv
  exact hv.2.2.2.2.2.2.2
 obtain⟨vk,vn,vs,vt,vl,vf⟩:=x
 simp only[Val.pv_mk] at h25 h67 ⊢
 refine ag.intro Q26.2 (by simp[Q26]) ?_
 simp(maxSteps:=9^7) (disch:=try exact dI) only[Q26,push_cast,seval]
 refine ab.pure h25 rfl ?_
 simp(maxSteps:=9^7) (disch:=try exact dI) only[push_cast,seval]
 refine ab.pure h66 rfl ?_
 simp(maxSteps:=9^7) (disch:=try exact dI) only[push_cast,seval]
 refine ab.pure h67 rfl ?_
 have hlI:¬ (64:Int)<=(L.length:Int):=by omega
 simp(maxSteps:=9^7) (disch:=try exact dI) only[hlI,push_cast,seval]
 refine az ([]) (fun j:Nat=>[(9,.pv (.int .i64 (j:Int)))]) (fun _=>[]) (fun j=>j<=L.length/\lj (Fld.mk nm (Val.mk vk vn vs vt vl vf)) L=L.take j++lj (Fld.mk nm (Val.mk vk vn vs vt vl vf)) (L.drop j)) (fun j=>L.length - j) (0) ?_;intro e0 σ0 n0 h0;simp(maxSteps:=9^7) (disch:=try exact dI) only[push_cast,seval] at h0;obtain⟨rfl,rfl,rfl⟩:=h0;refine⟨?_,?_,?_⟩
 ·simp(maxSteps:=9^7) (disch:=try exact dI) only[push_cast,seval]
 ·exact⟨by omega,by simp⟩
 rintro j ⟨hj,hins⟩
 have hcut:=Sn L j
 have htk:(L.map Fld.pv).take j=(L.take j).map Fld.pv:=(List.map_take ..).symm
 cases hy:L[j]? with
 | some y=>
   have hjl:=(List.getElem?_eq_some_iff.1 hy).1
   have hjI:(j:Int)<(L.length:Int):=by omega
   have hyo:=hLo y (List.mem_of_getElem? hy)
   have hne:=hn y (List.mem_of_getElem? hy)
   have hin2:=LT L j hins y hy
   have hfin:=fun h=>po hins (fun y2 hy2=>by rw[hy] at hy2;cases hy2;exact h)
   obtain⟨yn,⟨yk,ya,ys,yt,yl,yf⟩⟩:=y
   rw[Fld.ok_mk] at hyo
   have h68:=zW yn nm hyo.1 hnl
   simp only[Fld.name] at hne hin2 hfin
   have h0:¬ Lib.compareBytes yn nm=0:=fun e=>hne (P7 e)
   generalize Lib.compareBytes yn nm=z at *
   by_cases hc:z<0
   ·have hc':z<=0:=by omega
    simp(maxSteps:=9^7) (disch:=try exact dI) only[hjI,hy,Option.map_some,Fld.pv_mk,Val.pv_mk,ae,push_cast,seval]
    refine ab.pure h68 rfl ?_
    simp(maxSteps:=9^7) (disch:=try exact dI) only[hc',push_cast,seval]
    exact⟨j+1,aV qsZ,⟨by omega,hin2 hc⟩,by omega⟩
   ·have hc':¬ z<=0:=by omega
    have hfin:=hfin hc
    simp(maxSteps:=9^7) (disch:=try exact dI) only[hjI,hy,Option.map_some,Fld.pv_mk,Val.pv_mk,ae,push_cast,seval]
    refine ab.pure h68 rfl ?_
    simp(maxSteps:=9^7) (disch:=try exact dI) only[hc',htk,hcut,MQ,ae,push_cast,seval]
    simp(maxSteps:=9^7) (disch:=try exact dI) only[hfin,List.map_append,List.map_cons,Fld.pv_mk,Val.pv_mk,push_cast,seval]
 | none=>
   have hjl:j=L.length:=by
    rw[List.getElem?_eq_none_iff] at hy;omega
   have hfin:=po hins (fun y hy2=>by rw[hy] at hy2;cases hy2)
   have hjI:¬ (j:Int)<(L.length:Int):=by omega
   simp(maxSteps:=9^7) (disch:=try exact dI) only[hjI,htk,hcut,MQ,ae,push_cast,seval]
   simp(maxSteps:=9^7) (disch:=try exact dI) only[hfin,List.map_append,List.map_cons,Fld.pv_mk,Val.pv_mk,push_cast,seval]
def RN (f:Nat)(ps:List PV):Option PV:=
 match f with
 | 17=>match ps with
   | [a,b,c]=>if eqP 8 a Q5=true/\eqP 8 b NN=true/\eqP 8 c LM=true then some (.tup [Po,.int .i64 0,.int .i64 0]) else none
   | _=>none
 | f=>RO f ps
theorem Li:∀ f ps r,RN f ps=some r->ag Tryz.prog aq f ps r:=by
 intro f ps r h
 unfold RN at h
 split at h
 ·split at h
  ·split at h
   ·rename_i hh
    cases h
    rw[pD _ _ _ hh.1,pD _ _ _ hh.2.1,pD _ _ _ hh.2.2]
    exact HY
   ·cases h
  ·cases h
 ·exact ik _ _ _ h
theorem T6:By (exF (IW.map gFn) RN aq 5000 60) 11 []=some (.bool true):=by kernel_rfl
theorem r5:ag Tryz.prog aq 11 [] (.bool true):=ag.of_ex (lK lL) Li T6
def E7 (a b:Val):PV:=.agg (a.pv.cells++b.pv.cells)
theorem TX {T:Nat}{p:PV}(k m M sc:Int)(wd:List (List UInt8))(el:List Typ)(f:List TFd)(vn:List Nat)(fa fb R F:List Fld)(L:List PV)(sa sb:List UInt8)(x:Nat)(hx:x<=255)
  (hk:ag Tryz.prog (bR T p) 11 [] (.bool true))
  (h23:ag Tryz.prog (bR T p) 23 [(Typ.mk k m M sc wd el f).pv] (.tup [.list (cr vn),.int .i64 0]))
  (h14a:ag Tryz.prog (bR T p) 14 [(Typ.mk k m M sc wd el f).pv,.list (cr vn),(Val.mk 9 0 0 [] [] fa).pv] (.tup [.str sa,.int .i64 0]))
  (h14b:ag Tryz.prog (bR T p) 14 [(Typ.mk k m M sc wd el f).pv,.list (cr vn),(Val.mk 9 0 0 [] [] fb).pv] (.tup [.str sb,.int .i64 0]))
  (hla:sa.length=vn.sum) (hlb:sb.length=vn.sum) (hlv:f.length=vn.length) (h0:0<f.length) (h64:f.length<=64) (hbd:vn.sum<=1000000) {i n:Nat} {g:TFd} (hi:i=x % f.length) (hg:f[i]? = some g) (hn:vn[i]? = some n)
  (h17:ag Tryz.prog (bR T p) 17 [(Typ.mk k m M sc wd el f).pv,.list (cr vn),.str (sa.take (bQ vn i)++((sb.take (bQ vn i+n)).drop (bQ vn i)++sa.drop (bQ vn i+n)))] (.tup [AL L,.int .i64 0,.int .i64 0]))
  (h24:ag Tryz.prog (bR T p) 24 [(Val.mk 9 0 0 [] [] fa).pv,.str g.name] (Val.mk 9 0 0 [] [] R).pv)
  (h25:(ag Tryz.prog (bR T p) 25 [(Val.mk 9 0 0 [] [] fb).pv,.str g.name] (.int .i64 (-1))/\F=R/\¬ g.need=3)\/∃ (j:Nat) (y:Fld),fb[j]? = some y/\ag Tryz.prog (bR T p) 25 [(Val.mk 9 0 0 [] [] fb).pv,.str g.name] (.int .i64 (j:Int))/\ag Tryz.prog (bR T p) 26 [(Val.mk 9 0 0 [] [] R).pv,.str g.name,y.value.pv] (.tup [(Val.mk 9 0 0 [] [] F).pv,.int .i64 0]))
  (h19:ag Tryz.prog (bR T p) 19 [AL L,(Val.mk 9 0 0 [] [] F).pv] (.bool true)) :
  ag Tryz.prog (bR T p) 8 [(Typ.mk k m M sc wd el f).pv,E7 (.mk 9 0 0 [] [] fa) (.mk 9 0 0 [] [] fb),.int .u8 (x:Int)] (.bool true):=by
 have hnl:=BZ vn
 have hf0I:¬ (f.length:Int)=0:=by omega
 have htm:=eD (a:=(x:Int)) (b:=(f.length:Int)) (by omega)
 have hmi:(x:Int) % (f.length:Int)=(i:Int):=by rw[hi];omega
 have hiv:i<vn.length:=(List.getElem?_eq_some_iff.1 hn).1
 have hps:=fun j=>Bu vn j
 have hnat:=fun (j q:Nat) (h:vn[j]? = some q)=>tG h
 have hst:=Bt hn
 have hni:=tG hn
 have hpi:=hps i
 have hpi2:=hps (i+1)
 unfold E7
 simp only[Typ.pv_mk,Val.pv_mk,AL,List.map_nil,PV.cells,List.cons_append,List.nil_append] at h23 h14a h14b h17 h24 h25 h19 ⊢
 refine ag.intro M8 (by simp[F8]) ?_
 simp(maxSteps:=9^7) (disch:=try exact dI) only[F8,push_cast,seval]
 refine ab.pure h23 rfl ?_
 simp(maxSteps:=9^7) (disch:=try exact dI) only[push_cast,seval]
 refine ab.pure hk rfl ?_
 simp(maxSteps:=9^7) (disch:=try exact dI) only[aA,push_cast,seval]
 refine ab.pure h14a rfl ?_
 simp(maxSteps:=9^7) (disch:=try exact dI) only[aA,push_cast,seval]
 refine ab.pure h14b rfl ?_
 have hll:(sa.length:Int)=(sb.length:Int):=by omega
 have hfv:(vn.length:Int)=(f.length:Int):=by omega
 simp(maxSteps:=9^7) (disch:=try exact dI) only[aA,hll,hnl,hfv,htm,hmi,hf0I,push_cast,seval]
 refine az ([]) (fun j:Nat=>[(14,.pv (.int .i64 (bQ vn j:Int))),(15,.pv (.int .i64 (j:Int)))]) (fun _=>[]) (fun j=>j<=i) (fun j=>i - j) (0) ?_;intro e0 σ0 n0 h0;simp(maxSteps:=9^7) (disch:=try exact dI) only[push_cast,seval] at h0;obtain⟨rfl,rfl,rfl⟩:=h0;refine⟨?_,?_,?_⟩
 ·simp(maxSteps:=9^7) (disch:=try exact dI) only[aA,Bs,hnl,htm,hmi,push_cast,seval]
 ·omega
 rintro j hj
 have hpj:=hps j
 by_cases hlt:j<i
 ·have hltI:(j:Int)<(i:Int):=by omega
  obtain⟨q,hq⟩:∃ q,vn[j]? = some q:=⟨_,List.getElem?_eq_getElem (by omega)⟩
  have hqi:=hnat j q hq
  have hsj:=Bt hq
  have hp2:=hps (j+1)
  simp(maxSteps:=9^7) (disch:=try exact dI) only[aA,hltI,hnl,hqi,push_cast,seval]
  exact⟨j+1,aV (by simp(maxSteps:=9^7) (disch:=try exact dI) only[aA,hsj,push_cast,seval]),by omega,by omega⟩
 obtain rfl:j=i:=by omega
 have c1:¬ (bQ vn j:Int)<0:=by omega
 have c2:¬ (n:Int)<0:=by omega
 have c3:¬ (sa.length:Int) - (n:Int)<(bQ vn j:Int):=by omega
 have t1:((bQ vn j:Int)+(n:Int)).toNat=bQ vn j+n:=by omega
 have hjI:(j:Int)<(f.length:Int):=by omega
 have hjV:(j:Int)<(vn.length:Int):=by omega
 clear hps hnat
 obtain⟨gn,gm,gd,⟨gk,ga,gb,gs,gw,ge,gf⟩,gx⟩:=g
 simp only[TFd.name,TFd.need] at h24 h25
 simp(maxSteps:=9^7) (disch:=try exact dI) only[aA,Int.lt_irrefl,hnl,hni,c1,c2,c3,hjV,hfv,hjI,t1,List.take_length,push_cast,seval]
 refine am h17 rfl ?_
 simp(maxSteps:=9^7) (disch:=try exact dI) only[aA,hjI,hg,Option.map_some,TFd.pv_mk,Typ.pv_mk,ae,push_cast,seval]
 refine ab.pure h24 rfl ?_
 rcases h25 with ⟨h25,rfl,hnd⟩ | ⟨q,y,hq,h25,h26⟩
 ·simp(maxSteps:=9^7) (disch:=try exact dI) only[aA,push_cast,seval]
  refine ab.pure h25 rfl ?_
  simp(maxSteps:=9^7) (disch:=try exact dI) only[aA,push_cast,seval]
  refine ab.pure h25 rfl ?_
  simp(maxSteps:=9^7) (disch:=try exact dI) only[aA,hjI,hg,Option.map_some,TFd.pv_mk,Typ.pv_mk,ae,hnd,push_cast,seval]
  refine ab.pure h19 rfl ?_
  simp(maxSteps:=9^7) (disch:=try exact dI) only[push_cast,seval]
 ·have hqI:(q:Int)<(fb.length:Int):=by have:=(List.getElem?_eq_some_iff.1 hq).1;omega
  obtain⟨yn,⟨yk,yi,ys,yt,yl,yf⟩⟩:=y
  simp only[Fld.value,Val.pv_mk] at h26
  simp(maxSteps:=9^7) (disch:=try exact dI) only[aA,push_cast,seval]
  refine ab.pure h25 rfl ?_
  simp(maxSteps:=9^7) (disch:=try exact dI) only[aA,hq,hqI,Option.map_some,Fld.pv_mk,Val.pv_mk,ae,push_cast,seval]
  refine am h26 rfl ?_
  simp(maxSteps:=9^7) (disch:=try exact dI) only[aA,push_cast,seval]
  refine ab.pure h25 rfl ?_
  simp(maxSteps:=9^7) (disch:=try exact dI) only[aA,push_cast,seval]
  refine ab.pure h19 rfl ?_
  simp(maxSteps:=9^7) (disch:=try exact dI) only[push_cast,seval]
theorem Mu {t:Typ}{w:List Int}{line:List UInt8}{vn:List Nat}{F:List Fld}(h:DecOk t w line vn)(hV:jW ((cP t.fields line vn).map gT) = .mk 9 0 0 [] [] F):F.length<=t.fields.length:=by
 have h1:=congrArg (fun v=>v.fields.length) hV
 have h2:(jW ((cP t.fields line vn).map gT)).fields.length<=((cP t.fields line vn).map gT).length:=by
  show (srt _).length<=_
  rw[d9];exact List.length_filter_le _ _
 rw[List.length_map,jk h.len,<- h.len] at h2
 have h1':(jW ((cP t.fields line vn).map gT)).fields.length=F.length:=h1
 omega
theorem C0 {t:Typ}(h:lM t=0):∀ g∈t.fields,bw g.name=true:=fun g hg=>by
 have ho:=gh (iO h)
 obtain⟨k,m,M,s,w,e,f⟩:=t
 obtain⟨b,hb⟩:=bY f [] (bh ho).2.2.2 g hg
 obtain⟨n,nm,nd,ty,d⟩:=g
 rw[gE] at hb
 cases hn:bw nm with
 | true=>exact hn
 | false=>rw[if_pos hn] at hb;cases hb
theorem O5 {T:Nat}{p:PV}(t:Typ)(ht:t.ok)(a b:Val)(x:Nat)(he:¬ flE t=0):ag Tryz.prog (bR T p) 8 [t.pv,E7 a b,.int .u8 (x:Int)] (.bool true):=by
 have hk:=toE (T:=T) (p:=p) r5
 have h23:=toE (T:=T) (p:=p) (yo t ht he)
 generalize flE t=z at *
 obtain⟨k,m,M,sc,wd,el,f⟩:=t
 obtain⟨ak,an,ac,ax,al,af⟩:=a
 obtain⟨bk,bn,bc,bx,bl,bf⟩:=b
 unfold E7
 simp only[Typ.pv_mk,Val.pv_mk,PV.cells,List.cons_append,List.nil_append] at h23 ⊢
 refine ag.intro M8 (by simp[F8]) ?_
 simp(maxSteps:=9^7) (disch:=try exact dI) only[F8,push_cast,seval]
 refine ab.pure h23 rfl ?_
 simp(maxSteps:=9^7) (disch:=try exact dI) only[push_cast,seval]
 refine ab.pure hk rfl ?_
 simp(maxSteps:=9^7) (disch:=try exact dI) only[he,push_cast,seval]
 refine ab.pure hk rfl ?_
 simp(maxSteps:=9^7) (disch:=try exact dI) only[push_cast,seval]
theorem O4 {T:Nat}{p:PV}(t:Typ)(L:List PV)(a b:Val)(x:Nat)(sa sb:List UInt8)(ea eb:Int)(h23:ag Tryz.prog (bR T p) 23 [t.pv] (.tup [.list L,.int .i64 0]))(h14a:ag Tryz.prog (bR T p) 14 [t.pv,.list L,a.pv] (.tup [.str sa,.int .i64 ea]))(h14b:ag Tryz.prog (bR T p) 14 [t.pv,.list L,b.pv] (.tup [.str sb,.int .i64 eb]))(he:¬ ea=0\/¬ eb=0):ag Tryz.prog (bR T p) 8 [t.pv,E7 a b,.int .u8 (x:Int)] (.bool true):=by
 have hk:=toE (T:=T) (p:=p) r5
 obtain⟨k,m,M,sc,wd,el,f⟩:=t
 obtain⟨ak,an,ac,ax,al,af⟩:=a
 obtain⟨bk,bn,bc,bx,bl,bf⟩:=b
 unfold E7
 simp only[Typ.pv_mk,Val.pv_mk,PV.cells,List.cons_append,List.nil_append] at h23 h14a h14b ⊢
 refine ag.intro M8 (by simp[F8]) ?_
 simp(maxSteps:=9^7) (disch:=try exact dI) only[F8,push_cast,seval]
 refine ab.pure h23 rfl ?_
 simp(maxSteps:=9^7) (disch:=try exact dI) only[push_cast,seval]
 refine ab.pure hk rfl ?_
 simp(maxSteps:=9^7) (disch:=try exact dI) only[aA,push_cast,seval]
 refine ab.pure h14a rfl ?_
 simp(maxSteps:=9^7) (disch:=try exact dI) only[aA,push_cast,seval]
 refine ab.pure h14b rfl ?_
 by_cases h1:ea=0
 ·have h2:¬ eb=0:=he.resolve_left (fun h=>h h1)
  simp(maxSteps:=9^7) (disch:=try exact dI) only[h1,h2,push_cast,seval]
 ·simp(maxSteps:=9^7) (disch:=try exact dI) only[h1,push_cast,seval]
theorem TZ {T:Nat}{p:PV}(t:Typ)(ht:t.ok)(a b:Val)(hav:a.ok)(hbv:b.ok)(x:Nat)(hx:x<=255):ag Tryz.prog (bR T p) 8 [t.pv,E7 a b,.int .u8 (x:Int)] (.bool true):=by
 by_cases he:flE t=0
 ·have h23:=toE (T:=T) (p:=p) (sE t ht he)
  obtain⟨w,hw⟩:∃ w,w=t.fields.map fun g=>cD g.typ:=⟨_,rfl⟩
  have hwl:uT t.fields=db w:=by rw[hw];simp[uT,db]
  rw[hwl] at h23
  obtain⟨sa,ea,h14a,za⟩:=Pv t ht w a hav
  obtain⟨sb,eb,h14b,zb⟩:=Pv t ht w b hbv
  replace h14a:=toE (T:=T) (p:=p) h14a
  replace h14b:=toE (T:=T) (p:=p) h14b
  by_cases e0:¬ ea=0\/¬ eb=0
  ·exact O4 t _ a b x sa sb ea eb h23 h14a h14b e0
  have e1:ea=0:=Decidable.byContradiction fun h=>e0 (.inl h)
  have e2:eb=0:=Decidable.byContradiction fun h=>e0 (.inr h)
  subst e1 e2
  obtain⟨hrep,hfa,Ta,hTa,hla,z0a,hsa⟩:=za rfl
  obtain⟨_,hfb,Tb,hTb,hlb,z0b,hsb⟩:=zb rfl
  obtain⟨_,hlen,h64,h0,hfl⟩:=jn ht hrep
  obtain⟨h9,hfp,_⟩:=cj hfl
  obtain⟨na,hDa,hVa,_⟩:=kt ht hrep hfa hTa hla z0a
  obtain⟨nb,hDb,hVb,_⟩:=kt ht hrep hfb hTb hlb z0b
  obtain rfl:nb=na:=m4 (by rw[<- hDa.nat,<- hDb.nat])
  rw[<- hsa] at hDa
  rw[<- hsb] at hDb
  rw[<- hsa] at hVa
  rw[<- hsb] at hVb
  obtain⟨ea,pa,_⟩:=fg h9 hfa
  obtain⟨eb,pb,_⟩:=fg h9 hfb
  generalize a.fields=fa at ea pa
  generalize b.fields=fb at eb pb
  subst ea eb
  have hal:=Mu hDa hVa
  obtain⟨i,hi⟩:∃ i,i=x % t.fields.length:=⟨_,rfl⟩
  have hil:i<t.fields.length:=by rw[hi];exact Nat.mod_lt _ hfp
  obtain⟨g,hg⟩:∃ g,t.fields[i]? = some g:=⟨_,List.getElem?_eq_getElem hil⟩
  obtain⟨n,hn⟩:∃ n,nb[i]? = some n:=⟨_,List.getElem?_eq_getElem (by rw[<- hDa.len];exact hil)⟩
  have hgm:=List.mem_of_getElem? hg
  obtain⟨vn',q1,q2,q3,q4⟩:=OS (line:=sa.take (bQ nb i)++((sb.take (bQ nb i+n)).drop (bQ nb i)++sa.drop (bQ nb i+n))) ht hrep hfa hfb hTa hTb hla hlb z0a z0b hDa.nat hg hn (by rw[<- hsa,<- hsb,List.append_assoc])
  simp only[Val.fields] at q2 q4
  obtain⟨P,V,nn,e,h17,hnz,hVo,_,hok,hgd⟩:=Sk (T:=T) (p:=p) t ht w _ q3
  obtain⟨r1,r2⟩:=hgd vn' q1
  rw[q2] at r2
  subst r1
  obtain⟨rfl,⟨L,rfl⟩,_⟩:=hok rfl
  rw[r2] at hnz hVo
  have h19:=(toE (T:=T) (p:=p) (Mm _ hVo)).nz (.cons _ _ _ _ hnz (.cons _ _ _ _ (.refl _) .nil))
  have h24:=toE (T:=T) (p:=p) (ze fa hav (by omega) (cQ pa) g.name)
  have hgo:g.ok:=by
   obtain⟨k,m,M,s,wd,e,f⟩:=t
   rw[Typ.ok_mk] at ht
   exact ht.2.2.2.2.2.2.2.2.2 g hgm
  have hnl:g.name.length<=140737488351232:=by
   obtain⟨gn,gm,gd,gt,gx⟩:=g
   rw[TFd.ok_mk] at hgo
   exact hgo.2.1
  have hso:=jL w fun y hy=>by
   obtain⟨m,hm,rfl⟩:=List.mem_map.1 (hDa.nat▸hy)
   have:=hDa.bnd m hm
   omega
  have hbd:nb.sum<=1000000:=by
   have h1:∀ l:List Nat,(∀ y∈l,y<=4096)->l.sum<=4096*l.length:=fun l=>by
    induction l with
    | nil=>intro _;simp
    | cons c r ih=>
      intro h
      have h1:=h c (List.mem_cons_self ..)
      have h2:=ih fun y hy=>h y (List.mem_cons_of_mem _ hy)
      rw[List.sum_cons,List.length_cons];omega
   have h2:=h1 nb fun y hy=>(hDa.bnd y hy).2
   rw[<- hDa.len] at h2
   omega
  rw[hDa.nat,fy] at h23 h14a h14b h17
  have h25:(ag Tryz.prog (bR T p) 25 [(Val.mk 9 0 0 [] [] fb).pv,.str g.name] (.int .i64 (-1))/\yG fa fb g.name=lg g.name fa/\¬ g.need=3)\/∃ (j:Nat) (y:Fld),fb[j]? = some y/\ag Tryz.prog (bR T p) 25 [(Val.mk 9 0 0 [] [] fb).pv,.str g.name] (.int .i64 (j:Int))/\ag Tryz.prog (bR T p) 26 [(Val.mk 9 0 0 [] [] (lg g.name fa)).pv,.str g.name,y.value.pv] (.tup [(Val.mk 9 0 0 [] [] (yG fa fb g.name)).pv,.int .i64 0]):=by
   rcases C8 _ hbv rfl g.name with ⟨h1,h2⟩ | ⟨j,y,h1,h2,h3⟩
   ·simp only[Val.fields] at h1
    refine .inl ⟨toE h2,by unfold yG;rw[h1],?_⟩
    rcases hTb g hgm with ⟨_,_,c⟩ | ⟨y,c,_⟩
    ·omega
    ·simp only[Val.fields] at c
     rw[h1] at c;cases c
   ·simp only[Val.fields] at h1 h2
    refine .inr ⟨j,y,h1,toE h3,?_⟩
    have hyn:y.name=g.name:=by have q:=List.find?_some h2;exact of_decide_eq_true q
    have hmx:yG fa fb g.name=lj (.mk g.name y.value) (lg g.name fa):=by
     unfold yG
     rw[h2]
     obtain⟨y1,y2⟩:=y
     simp only[Fld.name] at hyn
     rw[hyn];rfl
    rw[hmx] at q4 ⊢
    have hpl:=(kx (.mk g.name y.value) (lg g.name fa)).length_eq
    rw[List.length_cons] at hpl
    have hyk:bv y.value=false:=by
     rcases hTb g hgm with ⟨c,_⟩ | ⟨y',c,c2,_⟩
     ·simp only[Val.fields] at c
      rw[h2] at c;cases c
     ·simp only[Val.fields] at c
      rw[h2] at c;cases c
      refine oT ?_
      rw[c2.kd];exact (kX h0 ht hfl g hgm).kd.1
    have hro:(Val.mk 9 0 0 [] [] (lg g.name fa)).ok:=by
     rw[Val.ok_mk] at hav ⊢
     exact⟨hav.1,hav.2.1,hav.2.2.1,hav.2.2.2.1,hav.2.2.2.2.1,hav.2.2.2.2.2.1,by omega,fun z hz=>hav.2.2.2.2.2.2.2 z ((mQ _ _).subset hz)⟩
    exact toE (NL _ hro (by omega) g.name y.value hnl (C0 h0 g hgm) hyk (l6 (b:=fb) (cQ pa) g.name))
  have hsl:=hDa.len
  obtain⟨k,m,M,sc,wd,el,f⟩:=t
  exact TX k m M sc wd el f nb fa fb _ _ L sa sb x hx (toE r5) h23 h14a h14b hDa.sum hDb.sum hsl hfp (by simp only[Typ.fields] at hlen;omega) hbd hi hg hn h17 h24 h25 h19
 ·exact O5 t ht a b x he
theorem J5 {p:PV}(h:HasT Tryz.prog 50 p):∃ a b:Val,p=E7 a b/\a.ok/\b.ok:=by
 obtain⟨cs,rfl,hl,hx⟩:=Hw h Tryz.underlying50
 have h0:=hx 0 (by decide)
 have h1:=hx 1 (by decide)
 rw[JH,D0] at h0 h1
 simp only[bT] at h0 h1
 obtain⟨a,ea,ha⟩:=nl h0
 obtain⟨b,eb,hb⟩:=nl h1
 have hl:cs.length=12:=by rw[hl];kernel_rfl
 refine⟨a,b,?_,ha,hb⟩
 unfold E7
 rw[<- ea,<- eb]
 simp only[PV.cells]
 congr 1
 rw[show (0:Nat)*6=0 from rfl,List.drop_zero,show (1:Nat)*6=6 from rfl,List.take_of_length_le (l:=cs.drop 6) (by rw[List.length_drop,hl];decide),List.take_append_drop]
theorem G2 (q:PV)(p0 p1 p2:PV)(h0:HasT Tryz.prog 26 p0)(h1:HasT Tryz.prog 50 p1)(h2:HasT Tryz.prog 5 p2):ag Tryz.prog (bR 297 q) 8 [p0,p1,p2] (.bool true):=by
 obtain⟨t,rfl,ht⟩:=Hx h0
 obtain⟨a,b,rfl,ha,hb⟩:=J5 h1
 obtain⟨n,rfl,hn⟩:=tS h2 Tryz.underlying5
 simp only[Lit.wf,Bool.and_eq_true,decide_eq_true_eq] at hn
 obtain⟨h3,h4⟩:(0:Int)<=n/\n<=255:=hn
 obtain⟨x,rfl⟩:∃ x:Nat,n=(x:Int):=⟨n.toNat,by omega⟩
 exact TZ t ht a b ha hb x (by omega)
end Go.Proofs.YtbojpfpliibfbaaGreatDoor

/- A part of the proof. -/
import Derived.Test.YtbojpfpliibfbaaGreatDoorDeRX10
set_option maxHeartbeats 16000000
set_option maxRecDepth 100000
set_option linter.unusedVariables false
set_option linter.unusedSimpArgs false
namespace Go.Proofs.YtbojpfpliibfbaaGreatDoor
open Go Go.Ab
attribute [local irreducible] vc
def fP (v:List Nat):List (TFd×List UInt8)->Nat->Int×Int
 | [],_=>(0,0)
 | x::r,i=>if nP x.1 x.2=0 then fP v r (i+1) else ((cE v i:Int),nP x.1 x.2)
theorem Cq {v:List Nat}{Z:List (TFd×List UInt8)}{n:Nat}{x:TFd×List UInt8}(h:Z[n]? = some x):fP v (Z.drop n) n=if nP x.1 x.2=0 then fP v (Z.drop (n+1)) (n+1) else ((cE v n:Int),nP x.1 x.2):=by
 rw[a8 h,fP]
def cz (f:List TFd)(line:List UInt8)(v:List Nat):List (TFd×List UInt8):=f.zip ((List.range v.length).map (bJ line v))
theorem mQ {f:List TFd}{line:List UInt8}{v:List Nat}(h:f.length=v.length):(cz f line v).length=v.length:=by
 unfold cz;rw[List.length_zip,List.length_map,List.length_range];omega
theorem qx {f:List TFd}{line:List UInt8}{v:List Nat}{n:Nat}{g:TFd}(hg:f[n]? = some g)(hn:n<v.length):(cz f line v)[n]? = some (g,bJ line v n):=by
 unfold cz
 rw[List.getElem?_zip_eq_some]
 exact⟨hg,by rw[List.getElem?_map,List.getElem?_range hn];rfl⟩
def zL (L:List PV):PV:=.agg [.int .i64 9,.int .i64 0,.int .i64 0,.str [],.list [],.list L]
theorem xv {T:Nat}{p:PV}(k m M sc:Int)(wd:List (List UInt8))(el:List Typ)(f:List TFd)(v:List Nat)(line:List UInt8)(L:List PV)(h12:ak Tryz.prog ap 12 [(Typ.mk k m M sc wd el f).pv,.list (ct v)] (.int .i64 0))(h50:ak Tryz.prog ap 50 [.list (ct v)] (.tup [.int .i64 ((v.sum:Nat):Int),.int .i64 0]))
  (hls:line.length=v.sum) (hll:line.length<=1000000) (hfl:f.length=v.length) (hf64:f.length<=64) (hv:∀ x∈v,1<=x/\x<=4096) (hc:∀ g∈f,CellOk g)
  (hrec:fP v (cz f line v) 0=(0,0)->ak Tryz.prog ap 55 [.list ((cz f line v).map fC)] (zL L)) :
  ak Tryz.prog (d6 T p) 17 [(Typ.mk k m M sc wd el f).pv,.list (ct v),.str line] (.tup [if (fP v (cz f line v) 0).2=0 then zL L else cl,.int .i64 (fP v (cz f line v) 0).1,.int .i64 (fP v (cz f line v) 0).2]):=by
 replace h12:=toE (T:=T) (p:=p) h12
 replace h50:=toE (T:=T) (p:=p) h50
 have h51:=toE (T:=T) (p:=p) (Cb line ((v.sum:Nat):Int))
 rw[show f9 line.length ((v.sum:Nat):Int)=0 by unfold f9;rw[if_neg (by omega),if_neg (by omega)]] at h51
 have h52:=toE (T:=T) (p:=p) (Da line (ct v))
 have hseq:=SJ (T:=T) (p:=p) (pS line v (by omega) hll (by omega))
 have hZl:=mQ (line:=line) hfl
 have hZ:=fun (n:Nat) (g:TFd) (hg:f[n]? = some g) (hn:n<v.length)=>qx (line:=line) hg hn
 have hX:∀ (j:Nat) (y:List PV),(dA line v)[j]? = some y->j<v.length/\y=[.int .i64 (cE v j:Int),.str (bJ line v j)]:=fun j y h=>by
  unfold dA at h
  rw[List.getElem?_map,Option.map_eq_some_iff] at h
  obtain⟨i,hi,rfl⟩:=h
  have hj:j<v.length:=by have:=(List.getElem?_eq_some_iff.1 hi).1;simpa using this
  rw[List.getElem?_range hj] at hi
  cases hi
  exact⟨hj,rfl⟩
 have hXl:(dA line v).length=v.length:=by unfold dA;rw[List.length_map,List.length_range]
 have hcl:∀ j,(bJ line v j).length<=1000000:=fun j=>by unfold bJ;rw[List.length_drop,List.length_take];omega
 generalize cz f line v=Z at *
 generalize dA line v=X at *
 obtain⟨R,hR⟩:∃ R,R=fP v Z 0:=⟨_,rfl⟩
 rw[<- hR] at hrec ⊢
 simp only[Typ.pv_mk] at h12 ⊢
 refine ak.intro Q17.2 (by simp[Q17]) ?_
 simp(maxSteps:=9^7) (disch:=try exact dI) only[Q17,push_cast,seval]
 refine ab.pure h12 rfl ?_
 simp(maxSteps:=9^7) (disch:=try exact dI) only[push_cast,seval]
 refine ab.pure h50 rfl ?_
 simp(maxSteps:=9^7) (disch:=try exact dI) only[push_cast,seval]
 refine ab.pure h51 rfl ?_
 simp(maxSteps:=9^7) (disch:=try exact dI) only[push_cast,seval]
 refine ab.pure h52 rfl ?_
 simp(maxSteps:=9^7) (disch:=try exact dI) only[push_cast,seval]
 refine sB ([(14,1,1000060,7)]) (fun i:Nat×Int×Int=>[]) (fun i=>[(2,.cells 34 true [.row 5 7 0 i.1]),(3,.cells 3 true [.pv (.int .i64 (i.1:Int))]),(4,.cells 94 true [.pv (.int .i64 i.2.1),.pv (.int .i64 i.2.2)]),(5,.cells 60 false ((eQ (Z.take i.1)).map .pv))]) (fun j i=>j=i.1/\i.1<=v.length/\R=(if i.2.2=0 then fP v (Z.drop i.1) i.1 else i.2)/\(i.2.2=0->i.2.1=0)) ((0,0,0)) (hseq) ?_;intro e0 σ0 n0 h0;simp(maxSteps:=9^7) (disch:=try exact dI) only[push_cast,seval] at h0;obtain⟨rfl,rfl,rfl⟩:=h0;refine⟨?_,?_,?_,?_,?_⟩
 ·simp(maxSteps:=9^7) (disch:=try exact dI) only[eQ,List.flatMap_nil,List.take_zero,List.map_nil,push_cast,seval]
 ·exact⟨rfl,by omega,by rw[if_pos rfl];simpa using hR,fun _=>rfl⟩
 ·rfl
 ·rintro j ⟨i,a,e⟩ y hy ⟨hij,hi,hRi,ha⟩
  simp only at hij hi hRi ha
  subst hij
  obtain⟨hj,rfl⟩:=hX j y hy
  refine⟨rfl,?_⟩
  have hjI:(j:Int)<(f.length:Int):=by omega
  obtain⟨g,hg⟩:∃ g,f[j]? = some g:=⟨_,List.getElem?_eq_getElem (by omega)⟩
  have hcell:=Ox (T:=T) (p:=p) g (hc g (List.mem_of_getElem? hg)) (bJ line v j) (hcl j)
  have hfail:=QF (T:=T) (p:=p) (NW a e (cE v j:Int) (nP g (bJ line v j)))
  have hZj:=hZ j g hg hj
  obtain⟨ca,cb,cc,cd,cp,cq,hcP,hp1,hq1⟩:=se g (bJ line v j)
  have hfC:fC (g,bJ line v j) = .agg [.str g.name,.int .i64 ca,.int .i64 cb,.int .i64 cc,.str cd,cp,cq]:=by unfold fC;rw[hcP];rfl
  have hsn:eQ (Z.take (j+1))=eQ (Z.take j)++[.str g.name,.int .i64 ca,.int .i64 cb,.int .i64 cc,.str cd,cp,cq]:=by rw[aB hZj,vG,hfC];rfl
  rw[hcP] at hcell
  have hfe:=Cq (v:=v) hZj
  simp only at hfe
  generalize nP g (bJ line v j)=E at *
  generalize hA:(if e=0 then (if E=0 then a else (cE v j:Int)) else a)=a2 at hfail
  generalize hE:(if e=0 then E else e)=e2 at hfail
  have hnew:R=(if e2=0 then fP v (Z.drop (j+1)) (j+1) else (a2,e2))/\(e2=0->a2=0):=by
   by_cases he:e=0
   ·rw[if_pos he] at hRi hA hE
    subst hE
    rw[hfe] at hRi
    by_cases hz:E=0
    ·rw[if_pos hz] at hRi hA
     subst hA
     rw[if_pos hz]
     exact⟨hRi,fun _=>ha he⟩
    ·rw[if_neg hz] at hRi hA
     subst hA
     rw[if_neg hz]
     exact⟨hRi,fun h=>absurd h hz⟩
   ·rw[if_neg he] at hRi hA hE
    subst hA hE
    rw[if_neg he]
    exact⟨hRi,fun h=>absurd h he⟩
  clear hA hE hfe
  obtain⟨n',nm',nd',⟨k',m',M',s',w',e',f'⟩,d'⟩:=g
  simp only[TFd.pv_mk,Typ.pv_mk] at hcell
  simp(maxSteps:=9^7) (disch:=try exact dI) only[hjI,hg,Option.map_some,TFd.pv_mk,Typ.pv_mk,ag,push_cast,seval]
  refine ab.pure hcell rfl ?_
  simp(maxSteps:=9^7) (disch:=try exact dI) only[hp1,hq1,push_cast,seval]
  refine ab.lentK hfail [4] rfl qsZ qsZ ?_
  have hKl:(eQ (Z.take j)).length=j*7:=by rw[zw,List.length_take];omega
  have happ:∀ new,sl 60 7 104 new 5 7 0 j [.agg [.str [],.int .i64 0,.int .i64 0,.int .i64 0,.str [],.nils,.nils]] (.cells 60 false ((eQ (Z.take j)).map .pv))=some (.row new 7 0 (j+1),[(5,.none),(new,.cells 60 false ((eQ (Z.take j)).map .pv++[AV.pv (.str []),.pv (.int .i64 0),.pv (.int .i64 0),.pv (.int .i64 0),.pv (.str []),.pv .nils,.pv .nils]))]):=fun new=>by
   rw[jH (by rw[List.length_map,hKl];exact Nat.le_refl _) (by simp;omega) (by simp;omega),List.take_of_length_le (by rw[List.length_map,hKl];exact Nat.le_refl _)]
   rfl
  generalize eQ (Z.take j)=K at *
  have hst:∀ (new:Nat) (zs cs:List AV),zs.length=7->oi new 60 false (K.map .pv++zs) 7 (j*7) cs true=some [(new,.cells 60 false (K.map .pv++cs))]:=fun new zs cs hz=>by
   unfold oi
   rw[List.take_left' (by rw[List.length_map,hKl]),List.drop_of_length_le (by rw[List.length_append,List.length_map,hKl,hz];exact Nat.le_refl _),List.append_nil]
  have hst2:∀ (new:Nat) (s:List UInt8) (c1 c2 c3:Int) (c4:List UInt8) (c5 c6:PV),oi new 60 false (K.map .pv++[AV.pv (.str []),.pv (.int .i64 0),.pv (.int .i64 0),.pv (.int .i64 0),.pv (.str []),.pv .nils,.pv .nils]) 7 (j*7) [.pv (.str s),.pv (.int .i64 c1),.pv (.int .i64 c2),.pv (.int .i64 c3),.pv (.str c4),.pv c5,.pv c6] true=some [(new,.cells 60 false ((K++[.str s,.int .i64 c1,.int .i64 c2,.int .i64 c3,.str c4,c5,c6]).map .pv))]:=fun new s c1 c2 c3 c4 c5 c6=>by
   rw[hst new _ _ rfl,List.map_append];rfl
  simp(maxSteps:=9^7) (disch:=try exact dI) only[happ,hjI,hg,Option.map_some,TFd.pv_mk,Typ.pv_mk,ag,hp1,hq1,hst2,push_cast,seval]
  simp only[TFd.name] at hsn
  exact⟨(j+1,a2,e2),aI (by simp(maxSteps:=9^7) (disch:=try exact dI) only[hsn,push_cast,seval]),rfl,by simp only;omega,hnew.1,hnew.2⟩
 ·rintro⟨i,a,e⟩ ⟨hj,hi,hRi,ha⟩
  simp only at hj hi hRi ha
  have hin:i=Z.length:=by omega
  rw[hin,List.drop_length,fP] at hRi
  have hfz:=fun (n r:Nat) (hn:n=Z.length)=>tZ (sz:=7) (f:=fC) NY (by omega) Z (n:=n) (r:=r) (T:=60) (b:=false) hn
  simp only[vH] at hfz
  rw[hin,List.take_length]
  by_cases he:e=0
  ·rw[if_pos he] at hRi
   have h55:=hrec hRi
   replace h55:=toE (T:=T) (p:=p) h55
   subst hRi
   rw[if_pos rfl]
   simp only[zL] at h55 ⊢
   simp(maxSteps:=9^7) (disch:=try exact dI) only[he,push_cast,seval]
   simp(maxSteps:=9^7) (disch:=try exact dI) only[hfz,push_cast,seval]
   refine ab.pure h55 rfl ?_
   simp(maxSteps:=9^7) (disch:=try exact dI) only[push_cast,seval]
  ·rw[if_neg he] at hRi
   subst hRi
   rw[if_neg he]
   simp(maxSteps:=9^7) (disch:=try exact dI) only[he,cl,push_cast,seval]
theorem aW (v:List Nat):(ct v).length=v.length:=by simp[ct]
theorem gK {v:List Nat}{i n:Nat}(h:v[i]? = some n):(ct v)[i]? = some (.int .i64 (n:Int)):=by simp[ct,h]
theorem eT (v:List Nat):cE v 0=0:=rfl
theorem tg (v:List Nat):cE v v.length=v.sum:=by unfold cE;rw[List.take_length]
theorem sU (line:List UInt8)(v:List Nat)(hn:line.length<=1000000)(hv:∀ x∈v,1<=x/\x<=4096)(hl:v.length<=64):ak Tryz.prog ap 21 [.str line,.list (ct v)] (.tup [if line.length=v.sum then .list (yb line v v.length) else .nils,.int .i64 (f9 line.length (v.sum:Nat))]):=by
 have h64I:¬ (64:Int)<(v.length:Int):=by omega
 have hps:∀ i,cE v i<=4096*i:=by
  intro i
  induction i with
  | zero=>simp[cE]
  | succ i ih=>
    by_cases hlt:i<v.length
    ·obtain⟨n,hn⟩:∃ n,v[i]? = some n:=⟨_,List.getElem?_eq_getElem hlt⟩
     have:=hv n (List.mem_of_getElem? hn)
     rw[eU hn];omega
    ·have:cE v (i+1)=cE v i:=by unfold cE;rw[List.take_of_length_le (by omega),List.take_of_length_le (by omega)]
     omega
 unfold f9
 refine ak.intro Q21.2 (by simp[Q21]) ?_
 simp(maxSteps:=9^7) (disch:=try exact dI) only[Q21,aW,h64I,push_cast,seval]
 refine am ([]) (fun i:Nat=>[(6,.pv (.int .i64 (cE v i:Int))),(7,.pv (.int .i64 (i:Int)))]) (fun _=>[]) (fun i=>i<=v.length) (fun i=>v.length - i) (0) ?_;intro e0 σ0 n0 h0;simp(maxSteps:=9^7) (disch:=try exact dI) only[push_cast,seval] at h0;obtain⟨rfl,rfl,rfl⟩:=h0;refine⟨?_,?_,?_⟩
 ·simp(maxSteps:=9^7) (disch:=try exact dI) only[eT,push_cast,seval]
 ·omega
 rintro i hi
 have hpi:=hps i
 by_cases hlt:i<v.length
 ·have hltI:(i:Int)<(v.length:Int):=by omega
  obtain⟨n,hn⟩:∃ n,v[i]? = some n:=⟨_,List.getElem?_eq_getElem hlt⟩
  have hx':=gK hn
  have hb:=hv n (List.mem_of_getElem? hn)
  have b1:¬ (n:Int)<1:=by omega
  have b2:¬ (4096:Int)<(n:Int):=by omega
  have hst:=eU hn
  have hstI:((cE v (i+1):Nat):Int)=(cE v i:Int)+(n:Int):=by omega
  simp(maxSteps:=9^7) (disch:=try exact dI) only[aW,hx',b1,b2,push_cast,seval]
  exact⟨i+1,aI (by simp(maxSteps:=9^7) (disch:=try exact dI) only[hstI,push_cast,seval]),by omega,by omega⟩
 ·obtain rfl:i=v.length:=by omega
  rw[tg] at hpi ⊢
  by_cases c1:(line.length:Int)<(v.sum:Nat)
  ·rw[if_pos c1,if_neg (by omega)]
   simp(maxSteps:=9^7) (disch:=try exact dI) only[aW,c1,Int.lt_irrefl,push_cast,seval]
  by_cases c2:((v.sum:Nat):Int)<line.length
  ·rw[if_neg c1,if_pos c2,if_neg (by omega)]
   simp(maxSteps:=9^7) (disch:=try exact dI) only[aW,c1,c2,Int.lt_irrefl,push_cast,seval]
  have hls:line.length=v.sum:=by omega
  rw[if_neg c1,if_neg c2,if_pos hls]
  simp(maxSteps:=9^7) (disch:=try exact dI) only[aW,c1,c2,Int.lt_irrefl,push_cast,seval]
  refine am ([(8,0,9,1)]) (fun i:Nat=>[(8,.olist 0 1 (yb line v i)),(9,.pv (.int .i64 (cE v i:Int))),(10,.pv (.int .i64 (i:Int)))]) (fun _=>[]) (fun i=>i<=v.length) (fun i=>v.length - i) (0) ?_;intro e0 σ0 n0 h0;simp(maxSteps:=9^7) (disch:=try exact dI) only[push_cast,seval] at h0;obtain⟨rfl,rfl,rfl⟩:=h0;refine⟨?_,?_,?_⟩
  ·simp(maxSteps:=9^7) (disch:=try exact dI) only[eT,Ft,push_cast,seval]
  ·omega
  rintro i hi
  have hpi:=hps i
  by_cases hlt:i<v.length
  ·have hltI:(i:Int)<(v.length:Int):=by omega
   obtain⟨n,hn⟩:∃ n,v[i]? = some n:=⟨_,List.getElem?_eq_getElem hlt⟩
   have hx':=gK hn
   have hst:=eU hn
   have hle:=ni v (i+1)
   have hstI:((cE v (i+1):Nat):Int)=(cE v i:Int)+(n:Int):=by omega
   have hsn:=AG line v i
   have hol:=tq line v i
   have et:((cE v i:Int)+(n:Int)).toNat=cE v (i+1):=by omega
   have hcx:(line.take (cE v (i+1))).drop (cE v i)=bJ line v i:=rfl
   simp(maxSteps:=9^7) (disch:=try exact dI) only[aW,hx',et,hcx,hol,push_cast,seval]
   exact⟨i+1,aI (by simp(maxSteps:=9^7) (disch:=try exact dI) only[hstI,hsn,push_cast,seval]),by omega,by omega⟩
  ·obtain rfl:i=v.length:=by omega
   simp(maxSteps:=9^7) (disch:=try exact dI) only[aW,Int.lt_irrefl,push_cast,seval]
theorem qG:∀ s:List UInt8,trL s=[]↔∀ c∈s,c=32
 | []=>by simp[trL]
 | c::r=>by
   rw[trL]
   by_cases h:c=32
   ·rw[if_pos h,qG r];simp[h]
   ·rw[if_neg h];simp[h]
theorem Dp (k:Int)(s:List UInt8):trR s=[]↔cm k s=[]:=by
 have h1:trR s=[]↔∀ c∈s,c=32:=by
  unfold trR
  rw[List.reverse_eq_nil_iff,qG];simp
 unfold cm
 split
 ·rw[h1,qG]
 ·exact Iff.rfl
theorem ri {v:List Nat}{i n:Nat}(h:v[i]? = some n):((cE v (i+1):Nat):Int)=(cE v i:Int)+(n:Int):=by
 have:=eU h;omega
theorem OH {g:TFd}{s:List UInt8}(h:cm g.typ.kind s=[]):DT g s=uK g/\nP g s=xT g:=⟨if_pos h,if_pos h⟩
theorem OG {g:TFd}{s:List UInt8}(h:¬ cm g.typ.kind s=[]):DT g s=vPQ g.typ.kind (rdR g.typ (cm g.typ.kind s))/\nP g s=ii g.typ (rdR g.typ (cm g.typ.kind s)):=⟨if_neg h,if_neg h⟩
theorem xq (k m M sc:Int)(wd:List (List UInt8))(el:List Typ)(f:List TFd)(v:List Nat)(line:List UInt8)(RV:List PV)(h13:ak Tryz.prog ap 13 [(Typ.mk k m M sc wd el f).pv,.list (ct v)] (.int .i64 0))
  (hls:line.length=v.sum) (hll:line.length<=1000000) (hfl:f.length=v.length) (hf64:f.length<=64) (hv:∀ x∈v,1<=x/\x<=4096) (hc:∀ g∈f,CellOk g)
  (hrec:fP v (cz f line v) 0=(0,0)->ak Tryz.prog ap 59 [.list ((cz f line v).map fC)] (.agg [.int .i64 9,.int .i64 0,.int .i64 0,.str [],.nils,.list RV])) :
  ak Tryz.prog ap 18 [(Typ.mk k m M sc wd el f).pv,.list (ct v),.str line] (.tup [if (fP v (cz f line v) 0).2=0 then zL RV else cl,.int .i64 (fP v (cz f line v) 0).1,.int .i64 (fP v (cz f line v) 0).2]):=by
 have h21:=sU line v hll hv (by omega)
 rw[if_pos hls,show f9 line.length ((v.sum:Nat):Int)=0 by unfold f9;rw[if_neg (by omega),if_neg (by omega)]] at h21
 have hol:(yb line v v.length).length=v.length:=tq line v v.length
 have hoc:∀ j,j<v.length->(yb line v v.length)[j]? = some (.str (bJ line v j)):=fun j hj=>by
  unfold yb;rw[List.getElem?_map,List.getElem?_range hj];rfl
 have hZl:=mQ (line:=line) hfl
 have hZ:=fun (n:Nat) (g:TFd) (hg:f[n]? = some g) (hn:n<v.length)=>qx (line:=line) hg hn
 have hcl:∀ j,(bJ line v j).length<=1000000:=fun j=>by unfold bJ;rw[List.length_drop,List.length_take];omega
 generalize cz f line v=Z at *
 generalize yb line v v.length=O at *
 obtain⟨R,hR⟩:∃ R,R=fP v Z 0:=⟨_,rfl⟩
 rw[<- hR] at hrec ⊢
 have hps:∀ i,cE v i<=v.sum:=ni v
 simp only[Typ.pv_mk] at h13 ⊢
 refine ak.intro Q18.2 (by simp[Q18]) ?_
 simp(maxSteps:=9^7) (disch:=try exact dI) only[Q18,push_cast,seval]
 refine ab.pure h13 rfl ?_
 simp(maxSteps:=9^7) (disch:=try exact dI) only[push_cast,seval]
 refine am ([]) (fun i:Nat=>[(10,.pv (.int .i64 (cE v i:Int))),(11,.pv (.int .i64 (i:Int)))]) (fun _=>[]) (fun i=>i<=v.length) (fun i=>v.length - i) (0) ?_;intro e0 σ0 n0 h0;simp(maxSteps:=9^7) (disch:=try exact dI) only[push_cast,seval] at h0;obtain⟨rfl,rfl,rfl⟩:=h0;refine⟨?_,?_,?_⟩
 ·simp(maxSteps:=9^7) (disch:=try exact dI) only[eT,push_cast,seval]
 ·omega
 rintro i hi
 have hpi:=hps i
 by_cases hlt:i<v.length
 ·have hltI:(i:Int)<(v.length:Int):=by omega
  obtain⟨n,hn⟩:∃ n,v[i]? = some n:=⟨_,List.getElem?_eq_getElem hlt⟩
  have hx':=gK hn
  have hb:=hv n (List.mem_of_getElem? hn)
  have hstI:=ri hn
  have hp2:=hps (i+1)
  simp(maxSteps:=9^7) (disch:=try exact dI) only[aW,hltI,hx',push_cast,seval]
  exact⟨i+1,aI (by simp(maxSteps:=9^7) (disch:=try exact dI) only[hstI,push_cast,seval]),by omega,by omega⟩
 ·have hltI:¬ (i:Int)<(v.length:Int):=by omega
  simp(maxSteps:=9^7) (disch:=try exact dI) only[aW,hltI,push_cast,seval]
  refine ab.pure h21 rfl ?_
  simp(maxSteps:=9^7) (disch:=try exact dI) only[push_cast,seval]
  refine am ([(14,0,60,7)]) (fun i:Nat=>[(14,.olist 1 7 ((Z.take i).map fC)),(15,.pv (.int .i64 (cE v i:Int))),(16,.pv (.int .i64 (i:Int)))]) (fun _=>[]) (fun i=>i<=v.length/\R=fP v (Z.drop i) i) (fun i=>v.length - i) (0) ?_;intro e0 σ0 n0 h0;simp(maxSteps:=9^7) (disch:=try exact dI) only[push_cast,seval] at h0;obtain⟨rfl,rfl,rfl⟩:=h0;refine⟨?_,?_,?_⟩
  ·simp(maxSteps:=9^7) (disch:=try exact dI) only[eT,List.take_zero,List.map_nil,push_cast,seval]
  ·exact⟨by omega,by simpa using hR⟩
  rintro j ⟨hj,hRj⟩
  by_cases hjl:j<v.length
  ·have hjI:(j:Int)<(v.length:Int):=by omega
   have hfI:(j:Int)<(f.length:Int):=by omega
   obtain⟨g,hg⟩:∃ g,f[j]? = some g:=⟨_,List.getElem?_eq_getElem (by omega)⟩
   obtain⟨n,hn⟩:∃ n,v[j]? = some n:=⟨_,List.getElem?_eq_getElem hjl⟩
   have hgc:=hc g (List.mem_of_getElem? hg)
   have hcj:=hcl j
   have hO:=hoc j hjl
   have hx':=gK hn
   have hb:=hv n (List.mem_of_getElem? hn)
   have hstI:=ri hn
   have hpj:=hps j
   have hp2:=hps (j+1)
   have hZj:=hZ j g hg hjl
   rw[Cq hZj] at hRj
   simp only at hRj
   have hsn:(Z.take (j+1)).map fC=(Z.take j).map fC++[fC (g,bJ line v j)]:=by rw[aB hZj,List.map_append];rfl
   have hfC:fC (g,bJ line v j) = .agg (.str g.name::(DT g (bJ line v j)).cells):=rfl
   have hZt:((Z.take j).map fC).length<=64:=by rw[List.length_map,List.length_take];omega
   rw[hfC] at hsn
   have h56:=Lh (bJ line v j) hcj
   have h58:=lV g.typ.kind (bJ line v j) hcj
   have hbi:=Dp g.typ.kind (bJ line v j)
   generalize bJ line v j=C at *
   generalize (Z.take j).map fC=K at *
   by_cases h0:cm g.typ.kind C=[]
   ·rw[decide_eq_true (hbi.2 h0)] at h56
    obtain⟨e1,e2⟩:=OH h0
    rw[e1] at hsn
    rw[e2] at hRj
    have h40:=hgc.emp.2
    have hd3:=hgc.dft
    have b1:=OX (g:=g)
    have b2:=OW (g:=g)
    have b3:=OV (g:=g)
    have b4:=OU (g:=g)
    have hfin:∀ (x:Val) (r:List Val),g.dflt=x::r->DS g=x.pv:=fun x r h=>by unfold DS;rw[h]
    clear e1 e2 hbi h58 hgc
    generalize uK g=P at *
    generalize xT g=E at *
    generalize DS g=D at *
    generalize aY g.typ=B at *
    obtain⟨n',nm',nd',⟨k',m',M',s',w',e',f'⟩,d'⟩:=g
    simp only[TFd.name,TFd.typ,TFd.need,TFd.dflt,Typ.kind,Typ.pv_mk] at *
    simp(maxSteps:=9^7) (disch:=try exact dI) only[hol,hjI,hfI,hg,Option.map_some,TFd.pv_mk,Typ.pv_mk,ag,List.cons_append,List.nil_append,hO,push_cast,seval]
    refine ab.pure h56 rfl ?_
    simp(maxSteps:=9^7) (disch:=try exact dI) only[push_cast,seval]
    refine ab.pure h40 rfl ?_
    cases B with
    | true=>
      obtain⟨rfl,rfl⟩:=b1 rfl
      rw[if_pos rfl] at hRj
      simp only[eP,PV.cells] at hsn
      simp(maxSteps:=9^7) (disch:=try exact dI) only[aW,hjI,hx',push_cast,seval]
      exact⟨j+1,aI (by simp(maxSteps:=9^7) (disch:=try exact dI) only[hsn,hstI,push_cast,seval]),⟨by omega,hRj⟩,by omega⟩
    | false=>
      by_cases h2:nd'=2
      ·obtain⟨rfl,rfl⟩:=b2 rfl h2
       rw[if_pos rfl] at hRj
       simp only[cl,PV.cells] at hsn
       simp(maxSteps:=9^7) (disch:=try exact dI) only[h2,aW,hjI,hx',push_cast,seval]
       exact⟨j+1,aI (by simp(maxSteps:=9^7) (disch:=try exact dI) only[hsn,hstI,push_cast,seval]),⟨by omega,hRj⟩,by omega⟩
      ·by_cases h3:nd'=3
       ·obtain⟨rfl,rfl⟩:=b3 rfl h2 h3
        obtain⟨x,r,hx,_,_⟩:=hd3 h3
        obtain rfl:=hfin x r hx
        subst hx
        rw[if_pos rfl] at hRj
        obtain⟨vk,vn,vs,vt,vl,vf⟩:=x
        simp only[Val.pv_mk,PV.cells] at hsn
        simp(maxSteps:=9^7) (disch:=try exact dI) only[h2,h3,aW,hjI,hx',au,List.map_cons,Val.pv_mk,push_cast,seval]
        exact⟨j+1,aI (by simp(maxSteps:=9^7) (disch:=try exact dI) only[hsn,hstI,push_cast,seval]),⟨by omega,hRj⟩,by omega⟩
       ·obtain⟨rfl,rfl⟩:=b4 rfl h2 h3
        rw[if_neg (by decide)] at hRj
        subst hRj
        rw[if_neg (show ¬ (((cE v j:Nat):Int),(19:Int)).2=0 from fun h=>by cases h)]
        simp(maxSteps:=9^7) (disch:=try exact dI) only[h2,h3,cl,push_cast,seval]
   ·rw[decide_eq_false (fun h=>h0 (hbi.1 h))] at h56
    obtain⟨e1,e2⟩:=OG h0
    have h57:=Ez g.typ (cm g.typ.kind C) hgc.own hgc.ty hgc.kd (Nat.le_trans (qP _ _) hcj)
    rw[e1] at hsn
    rw[e2] at hRj
    obtain⟨v1,v2,v3,v4,hV⟩:=yK g.typ.kind (rdR g.typ (cm g.typ.kind C))
    rw[hV] at hsn h57
    generalize ii g.typ (rdR g.typ (cm g.typ.kind C))=E at *
    clear hV e1 e2 hbi
    generalize cm g.typ.kind C=U at *
    obtain⟨n',nm',nd',⟨k',m',M',s',w',e',f'⟩,d'⟩:=g
    simp only[TFd.name,TFd.typ,Typ.kind,Typ.pv_mk,eP,PV.cells] at hsn h57 h58
    simp(maxSteps:=9^7) (disch:=try exact dI) only[hol,hjI,hfI,hg,Option.map_some,TFd.pv_mk,Typ.pv_mk,ag,List.cons_append,List.nil_append,hO,push_cast,seval]
    refine ab.pure h56 rfl ?_
    simp(maxSteps:=9^7) (disch:=try exact dI) only[hO,push_cast,seval]
    refine ae h58 rfl ?_
    simp(maxSteps:=9^7) (disch:=try exact dI) only[push_cast,seval]
    refine ae h57 rfl ?_
    by_cases hE:E=0
    ·rw[if_pos hE] at hRj
     simp(maxSteps:=9^7) (disch:=try exact dI) only[hE,aW,hjI,hx',push_cast,seval]
     exact⟨j+1,aI (by simp(maxSteps:=9^7) (disch:=try exact dI) only[hsn,hstI,push_cast,seval]),⟨by omega,hRj⟩,by omega⟩
    ·rw[if_neg hE] at hRj
     subst hRj
     rw[if_neg hE]
     simp(maxSteps:=9^7) (disch:=try exact dI) only[hE,cl,push_cast,seval]
  ·obtain rfl:j=Z.length:=by omega
   rw[List.drop_length,fP] at hRj
   have h59:=hrec hRj
   subst hRj
   rw[if_pos rfl,List.take_length]
   have hjI:¬ (Z.length:Int)<(v.length:Int):=by omega
   simp only[zL]
   simp(maxSteps:=9^7) (disch:=try exact dI) only[hol,hjI,push_cast,seval]
   refine ab.pure h59 rfl ?_
   simp(maxSteps:=9^7) (disch:=try exact dI) only[push_cast,seval]
theorem Cj {k:Int}{b:List TFd}{g:TFd}(h:cC k b g=0)(h3:g.need=3):∃ x r,g.dflt=x::r:=by
 obtain⟨n,nm,nd,t,d⟩:=g
 simp only[TFd.need] at h3
 subst h3
 cases d with
 | cons x r=>exact⟨x,r,rfl⟩
 | nil=>
   rw[fe] at h
   by_cases h1:bz nm=false
   ·rw[if_pos h1] at h;cases h
   rw[if_neg h1] at h
   by_cases h2:inB n 1 9999=false
   ·rw[if_pos h2] at h;cases h
   rw[if_neg h2] at h
   by_cases h3:b.any (i7 n nm)=true
   ·rw[if_pos h3] at h;cases h
   rw[if_neg h3] at h
   unfold fG at h
   rw[if_neg (by decide)] at h
   by_cases h4:k=10/\¬ (3:Int)=1
   ·rw[if_pos h4] at h;cases h
   rw[if_neg h4,if_pos ⟨rfl,rfl⟩] at h;cases h
theorem Ci {k:Int}{b:List TFd}{g:TFd}(h:cC k b g=0):∀ y∈b,y.name≠g.name:=by
 obtain⟨n,nm,nd,t,d⟩:=g
 intro y hy e
 rw[fe] at h
 have ha:b.any (i7 n nm)=true:=List.any_eq_true.2 ⟨y,hy,by have e':y.name=nm:=e;simp[i7,e']⟩
 by_cases h1:bz nm=false
 ·rw[if_pos h1] at h;cases h
 rw[if_neg h1] at h
 by_cases h2:inB n 1 9999=false
 ·rw[if_pos h2] at h;cases h
 rw[if_neg h2,if_pos ha] at h;cases h
theorem iZ {k:Int}:∀ (f b:List TFd),be k b f=0->(f.map TFd.name).Nodup/\∀ x∈f,∀ y∈b,y.name≠x.name
 | [],b,_=>⟨List.nodup_nil,fun x hx=>by cases hx⟩
 | g::r,b,h=>by
   rw[be] at h
   by_cases h0:cC k b g=0
   ·rw[if_pos h0] at h
    obtain⟨i1,i2⟩:=iZ r (b++[g]) h
    refine⟨?_,fun x hx=>?_⟩
    ·rw[List.map_cons,List.nodup_cons]
     refine⟨fun hm=>?_,i1⟩
     obtain⟨y,hy,e⟩:=List.mem_map.1 hm
     exact i2 y hy g (by simp) e.symm
    ·rcases List.mem_cons.1 hx with rfl | hx
     ·exact Ci h0
     ·exact fun y hy=>i2 x hx y (List.mem_append_left _ hy)
   ·rw[if_neg h0] at h;exact absurd h h0
theorem pE {t:Typ}(h:lX t=0):(t.fields.map TFd.name).Nodup:=by
 have ho:=jU (j5 h)
 obtain⟨k,m,M,s,w,e,f⟩:=t
 exact (iZ f [] (bc ho).2.2.2).1
theorem r9 {t:Typ}(h:lX t=0)(ht:t.ok)(hf:dW t=true):∀ g∈t.fields,CellOk g:=fun g hg=>by
 have hfo:=B5 h ht hf g hg
 obtain⟨ht2,_⟩:=B8 h ht hf
 have hty:=j5 h
 obtain⟨h9,_,hs⟩:=fy hf
 have hsg:=hs g hg
 obtain⟨k,m,M,s,w,e,f⟩:=t
 have ho:=jU (hty.2.2 (.inl h9) g hg).1
 rw[Typ.ok_mk] at ht
 have hgd:=(cL (ht.2.2.2.2.2.2.2.2.2 g hg)).2
 obtain⟨b,hb⟩:=bq f [] (bc (jU hty)).2.2.2 g hg
 simp only[scB,Bool.and_eq_true,decide_eq_true_eq] at hsg
 refine⟨ho,hsg,(ht2.2.2.2 g hg).2,hfo.emp,fun h3=>?_⟩
 obtain⟨x,r,hx⟩:=Cj hb h3
 have hxo:=hgd x (by rw[hx];simp)
 exact⟨x,r,hx,hxo,g7 _ x (Nat.lt_succ_self _) hxo⟩
end Go.Proofs.YtbojpfpliibfbaaGreatDoor

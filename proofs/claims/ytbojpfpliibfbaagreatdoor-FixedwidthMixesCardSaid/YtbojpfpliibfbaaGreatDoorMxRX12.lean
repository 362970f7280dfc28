/- A part of the proof. -/
import Derived.Test.YtbojpfpliibfbaaGreatDoorMxRK12
set_option maxHeartbeats 16000000
set_option maxRecDepth 100000
set_option linter.unusedVariables false
set_option linter.unusedSimpArgs false
namespace Go.Proofs.YtbojpfpliibfbaaGreatDoor
open Go Go.Ab
attribute [local irreducible] vc
def kM (v:List Nat):List (TFd×List UInt8)->Nat->Int×Int
 | [],_=>(0,0)
 | x::r,i=>if nW x.1 x.2=0 then kM v r (i+1) else ((bQ v i:Int),nW x.1 x.2)
theorem Ml {v:List Nat}{Z:List (TFd×List UInt8)}{n:Nat}{x:TFd×List UInt8}(h:Z[n]? = some x):kM v (Z.drop n) n=if nW x.1 x.2=0 then kM v (Z.drop (n+1)) (n+1) else ((bQ v n:Int),nW x.1 x.2):=by
 rw[b9 h,kM]
def cP (f:List TFd)(line:List UInt8)(v:List Nat):List (TFd×List UInt8):=f.zip ((List.range v.length).map (ew line v))
theorem jk {f:List TFd}{line:List UInt8}{v:List Nat}(h:f.length=v.length):(cP f line v).length=v.length:=by
 unfold cP;rw[List.length_zip,List.length_map,List.length_range];omega
theorem JN {f:List TFd}{line:List UInt8}{v:List Nat}{n:Nat}{g:TFd}(hg:f[n]? = some g)(hn:n<v.length):(cP f line v)[n]? = some (g,ew line v n):=by
 unfold cP
 rw[List.getElem?_zip_eq_some]
 exact⟨hg,by rw[List.getElem?_map,List.getElem?_range hn];rfl⟩
def AL (L:List PV):PV:=.agg [.int .i64 9,.int .i64 0,.int .i64 0,.str [],.list [],.list L]
theorem xB {T:Nat}{p:PV}(k m M sc:Int)(wd:List (List UInt8))(el:List Typ)(f:List TFd)(v:List Nat)(line:List UInt8)(L:List PV)(h12:ag Tryz.prog aq 12 [(Typ.mk k m M sc wd el f).pv,.list (cr v)] (.int .i64 0))(h50:ag Tryz.prog aq 50 [.list (cr v)] (.tup [.int .i64 ((v.sum:Nat):Int),.int .i64 0]))
  (hls:line.length=v.sum) (hll:line.length<=1000000) (hfl:f.length=v.length) (hf64:f.length<=64) (hv:∀ x∈v,1<=x/\x<=4096) (hc:∀ g∈f,CellOk g)
  (hrec:kM v (cP f line v) 0=(0,0)->ag Tryz.prog aq 55 [.list ((cP f line v).map fC)] (AL L)) :
  ag Tryz.prog (bR T p) 17 [(Typ.mk k m M sc wd el f).pv,.list (cr v),.str line] (.tup [if (kM v (cP f line v) 0).2=0 then AL L else eP,.int .i64 (kM v (cP f line v) 0).1,.int .i64 (kM v (cP f line v) 0).2]):=by
 replace h12:=toE (T:=T) (p:=p) h12
 replace h50:=toE (T:=T) (p:=p) h50
 have h51:=toE (T:=T) (p:=p) (C4 line ((v.sum:Nat):Int))
 rw[show nv line.length ((v.sum:Nat):Int)=0 by unfold nv;rw[if_neg (by omega),if_neg (by omega)]] at h51
 have h52:=toE (T:=T) (p:=p) (DY line (cr v))
 have hseq:=TV (T:=T) (p:=p) (pO line v (by omega) hll (by omega))
 have hZl:=jk (line:=line) hfl
 have hZ:=fun (n:Nat) (g:TFd) (hg:f[n]? = some g) (hn:n<v.length)=>JN (line:=line) hg hn
 have hX:∀ (j:Nat) (y:List PV),(dt line v)[j]? = some y->j<v.length/\y=[.int .i64 (bQ v j:Int),.str (ew line v j)]:=fun j y h=>by
  unfold dt at h
  rw[List.getElem?_map,Option.map_eq_some_iff] at h
  obtain⟨i,hi,rfl⟩:=h
  have hj:j<v.length:=by have:=(List.getElem?_eq_some_iff.1 hi).1;simpa using this
  rw[List.getElem?_range hj] at hi
  cases hi
  exact⟨hj,rfl⟩
 have hXl:(dt line v).length=v.length:=by unfold dt;rw[List.length_map,List.length_range]
 have hcl:∀ j,(ew line v j).length<=1000000:=fun j=>by unfold ew;rw[List.length_drop,List.length_take];omega
 generalize cP f line v=Z at *
 generalize dt line v=X at *
 obtain⟨R,hR⟩:∃ R,R=kM v Z 0:=⟨_,rfl⟩
 rw[<- hR] at hrec ⊢
 simp only[Typ.pv_mk] at h12 ⊢
 refine ag.intro Q17.2 (by simp[Q17]) ?_
 simp(maxSteps:=9^7) (disch:=try exact dI) only[Q17,push_cast,seval]
 refine ab.pure h12 rfl ?_
 simp(maxSteps:=9^7) (disch:=try exact dI) only[push_cast,seval]
 refine ab.pure h50 rfl ?_
 simp(maxSteps:=9^7) (disch:=try exact dI) only[push_cast,seval]
 refine ab.pure h51 rfl ?_
 simp(maxSteps:=9^7) (disch:=try exact dI) only[push_cast,seval]
 refine ab.pure h52 rfl ?_
 simp(maxSteps:=9^7) (disch:=try exact dI) only[push_cast,seval]
 refine sQ ([(14,1,1000060,7)]) (fun i:Nat×Int×Int=>[]) (fun i=>[(2,.cells 34 true [.row 5 7 0 i.1]),(3,.cells 3 true [.pv (.int .i64 (i.1:Int))]),(4,.cells 94 true [.pv (.int .i64 i.2.1),.pv (.int .i64 i.2.2)]),(5,.cells 60 false ((eV (Z.take i.1)).map .pv))]) (fun j i=>j=i.1/\i.1<=v.length/\R=(if i.2.2=0 then kM v (Z.drop i.1) i.1 else i.2)/\(i.2.2=0->i.2.1=0)) ((0,0,0)) (hseq) ?_;intro e0 σ0 n0 h0;simp(maxSteps:=9^7) (disch:=try exact dI) only[push_cast,seval] at h0;obtain⟨rfl,rfl,rfl⟩:=h0;refine⟨?_,?_,?_,?_,?_⟩
 ·simp(maxSteps:=9^7) (disch:=try exact dI) only[eV,List.flatMap_nil,List.take_zero,List.map_nil,push_cast,seval]
 ·exact⟨rfl,by omega,by rw[if_pos rfl];simpa using hR,fun _=>rfl⟩
 ·rfl
 ·rintro j ⟨i,a,e⟩ y hy ⟨hij,hi,hRi,ha⟩
  simp only at hij hi hRi ha
  subst hij
  obtain⟨hj,rfl⟩:=hX j y hy
  refine⟨rfl,?_⟩
  have hjI:(j:Int)<(f.length:Int):=by omega
  obtain⟨g,hg⟩:∃ g,f[j]? = some g:=⟨_,List.getElem?_eq_getElem (by omega)⟩
  have hcell:=PY (T:=T) (p:=p) g (hc g (List.mem_of_getElem? hg)) (ew line v j) (hcl j)
  have hfail:=RU (T:=T) (p:=p) (Pj a e (bQ v j:Int) (nW g (ew line v j)))
  have hZj:=hZ j g hg hj
  obtain⟨ca,cb,cc,cd,cp,cq,hcP,hp1,hq1⟩:=sx g (ew line v j)
  have hfC:fC (g,ew line v j) = .agg [.str g.name,.int .i64 ca,.int .i64 cb,.int .i64 cc,.str cd,cp,cq]:=by unfold fC;rw[hcP];rfl
  have hsn:eV (Z.take (j+1))=eV (Z.take j)++[.str g.name,.int .i64 ca,.int .i64 cb,.int .i64 cc,.str cd,cp,cq]:=by rw[aH hZj,vw,hfC];rfl
  rw[hcP] at hcell
  have hfe:=Ml (v:=v) hZj
  simp only at hfe
  generalize nW g (ew line v j)=E at *
  generalize hA:(if e=0 then (if E=0 then a else (bQ v j:Int)) else a)=a2 at hfail
  generalize hE:(if e=0 then E else e)=e2 at hfail
  have hnew:R=(if e2=0 then kM v (Z.drop (j+1)) (j+1) else (a2,e2))/\(e2=0->a2=0):=by
   by_cases he:e=0
   ·rw[if_pos he] at hRi hA hE
    subst hE
    rw[hfe] at hRi
    by_cases hz:E=0
    ·rw[if_pos hz] at hRi hA
     subst hA
     rw[if_pos hz]
     exact⟨hRi,fun _=>ha he⟩
    ·rw[if_neg hz] at hRi hA
     subst hA
     rw[if_neg hz]
     exact⟨hRi,fun h=>absurd h hz⟩
   ·rw[if_neg he] at hRi hA hE
    subst hA hE
    rw[if_neg he]
    exact⟨hRi,fun h=>absurd h he⟩
  clear hA hE hfe
  obtain⟨n',nm',nd',⟨k',m',M',s',w',e',f'⟩,d'⟩:=g
  simp only[TFd.pv_mk,Typ.pv_mk] at hcell
  simp(maxSteps:=9^7) (disch:=try exact dI) only[hjI,hg,Option.map_some,TFd.pv_mk,Typ.pv_mk,ae,push_cast,seval]
  refine ab.pure hcell rfl ?_
  simp(maxSteps:=9^7) (disch:=try exact dI) only[hp1,hq1,push_cast,seval]
  refine ab.lentK hfail [4] rfl qsZ qsZ ?_
  have hKl:(eV (Z.take j)).length=j*7:=by rw[Ax,List.length_take];omega
  have happ:∀ new,p5 60 7 104 new 5 7 0 j [.agg [.str [],.int .i64 0,.int .i64 0,.int .i64 0,.str [],.nils,.nils]] (.cells 60 false ((eV (Z.take j)).map .pv))=some (.row new 7 0 (j+1),[(5,.none),(new,.cells 60 false ((eV (Z.take j)).map .pv++[AV.pv (.str []),.pv (.int .i64 0),.pv (.int .i64 0),.pv (.int .i64 0),.pv (.str []),.pv .nils,.pv .nils]))]):=fun new=>by
   rw[nH (by rw[List.length_map,hKl];exact Nat.le_refl _) (by simp;omega) (by simp;omega),List.take_of_length_le (by rw[List.length_map,hKl];exact Nat.le_refl _)]
   rfl
  generalize eV (Z.take j)=K at *
  have hst:∀ (new:Nat) (zs cs:List AV),zs.length=7->og new 60 false (K.map .pv++zs) 7 (j*7) cs true=some [(new,.cells 60 false (K.map .pv++cs))]:=fun new zs cs hz=>by
   unfold og
   rw[List.take_left' (by rw[List.length_map,hKl]),List.drop_of_length_le (by rw[List.length_append,List.length_map,hKl,hz];exact Nat.le_refl _),List.append_nil]
  have hst2:∀ (new:Nat) (s:List UInt8) (c1 c2 c3:Int) (c4:List UInt8) (c5 c6:PV),og new 60 false (K.map .pv++[AV.pv (.str []),.pv (.int .i64 0),.pv (.int .i64 0),.pv (.int .i64 0),.pv (.str []),.pv .nils,.pv .nils]) 7 (j*7) [.pv (.str s),.pv (.int .i64 c1),.pv (.int .i64 c2),.pv (.int .i64 c3),.pv (.str c4),.pv c5,.pv c6] true=some [(new,.cells 60 false ((K++[.str s,.int .i64 c1,.int .i64 c2,.int .i64 c3,.str c4,c5,c6]).map .pv))]:=fun new s c1 c2 c3 c4 c5 c6=>by
   rw[hst new _ _ rfl,List.map_append];rfl
  simp(maxSteps:=9^7) (disch:=try exact dI) only[happ,hjI,hg,Option.map_some,TFd.pv_mk,Typ.pv_mk,ae,hp1,hq1,hst2,push_cast,seval]
  simp only[TFd.name] at hsn
  exact⟨(j+1,a2,e2),aV (by simp(maxSteps:=9^7) (disch:=try exact dI) only[hsn,push_cast,seval]),rfl,by simp only;omega,hnew.1,hnew.2⟩
 ·rintro⟨i,a,e⟩ ⟨hj,hi,hRi,ha⟩
  simp only at hj hi hRi ha
  have hin:i=Z.length:=by omega
  rw[hin,List.drop_length,kM] at hRi
  have hfz:=fun (n r:Nat) (hn:n=Z.length)=>tY (sz:=7) (f:=fC) Pm (by omega) Z (n:=n) (r:=r) (T:=60) (b:=false) hn
  simp only[vz] at hfz
  rw[hin,List.take_length]
  by_cases he:e=0
  ·rw[if_pos he] at hRi
   have h55:=hrec hRi
   replace h55:=toE (T:=T) (p:=p) h55
   subst hRi
   rw[if_pos rfl]
   simp only[AL] at h55 ⊢
   simp(maxSteps:=9^7) (disch:=try exact dI) only[he,push_cast,seval]
   simp(maxSteps:=9^7) (disch:=try exact dI) only[hfz,push_cast,seval]
   refine ab.pure h55 rfl ?_
   simp(maxSteps:=9^7) (disch:=try exact dI) only[push_cast,seval]
  ·rw[if_neg he] at hRi
   subst hRi
   rw[if_neg he]
   simp(maxSteps:=9^7) (disch:=try exact dI) only[he,eP,push_cast,seval]
theorem BZ (v:List Nat):(cr v).length=v.length:=by simp[cr]
theorem tG {v:List Nat}{i n:Nat}(h:v[i]? = some n):(cr v)[i]? = some (.int .i64 (n:Int)):=by simp[cr,h]
theorem Bs (v:List Nat):bQ v 0=0:=rfl
theorem Bt {v:List Nat}{i n:Nat}(h:v[i]? = some n):((bQ v (i+1):Nat):Int)=(bQ v i:Int)+(n:Int):=by
 have:=j2 h;omega
theorem Db {k:Int}{b:List TFd}{g:TFd}(h:cC k b g=0)(h3:g.need=3):∃ x r,g.dflt=x::r:=by
 obtain⟨n,nm,nd,t,d⟩:=g
 simp only[TFd.need] at h3
 subst h3
 cases d with
 | cons x r=>exact⟨x,r,rfl⟩
 | nil=>
   rw[gE] at h
   by_cases h1:bw nm=false
   ·rw[if_pos h1] at h;cases h
   rw[if_neg h1] at h
   by_cases h2:inB n 1 9999=false
   ·rw[if_pos h2] at h;cases h
   rw[if_neg h2] at h
   by_cases h3:b.any (nV n nm)=true
   ·rw[if_pos h3] at h;cases h
   rw[if_neg h3] at h
   unfold NX at h
   rw[if_neg (by decide)] at h
   by_cases h4:k=10/\¬ (3:Int)=1
   ·rw[if_pos h4] at h;cases h
   rw[if_neg h4,if_pos ⟨rfl,rfl⟩] at h;cases h
theorem Da {k:Int}{b:List TFd}{g:TFd}(h:cC k b g=0):∀ y∈b,y.name≠g.name:=by
 obtain⟨n,nm,nd,t,d⟩:=g
 intro y hy e
 rw[gE] at h
 have ha:b.any (nV n nm)=true:=List.any_eq_true.2 ⟨y,hy,by have e':y.name=nm:=e;simp[nV,e']⟩
 by_cases h1:bw nm=false
 ·rw[if_pos h1] at h;cases h
 rw[if_neg h1] at h
 by_cases h2:inB n 1 9999=false
 ·rw[if_pos h2] at h;cases h
 rw[if_neg h2,if_pos ha] at h;cases h
theorem iX {k:Int}:∀ (f b:List TFd),bZ k b f=0->(f.map TFd.name).Nodup/\∀ x∈f,∀ y∈b,y.name≠x.name
 | [],b,_=>⟨List.nodup_nil,fun x hx=>by cases hx⟩
 | g::r,b,h=>by
   rw[bZ] at h
   by_cases h0:cC k b g=0
   ·rw[if_pos h0] at h
    obtain⟨i1,i2⟩:=iX r (b++[g]) h
    refine⟨?_,fun x hx=>?_⟩
    ·rw[List.map_cons,List.nodup_cons]
     refine⟨fun hm=>?_,i1⟩
     obtain⟨y,hy,e⟩:=List.mem_map.1 hm
     exact i2 y hy g (by simp) e.symm
    ·rcases List.mem_cons.1 hx with rfl | hx
     ·exact Da h0
     ·exact fun y hy=>i2 x hx y (List.mem_append_left _ hy)
   ·rw[if_neg h0] at h;exact absurd h h0
theorem px {t:Typ}(h:lM t=0):(t.fields.map TFd.name).Nodup:=by
 have ho:=gh (iO h)
 obtain⟨k,m,M,s,w,e,f⟩:=t
 exact (iX f [] (bh ho).2.2.2).1
theorem kX {t:Typ}(h:lM t=0)(ht:t.ok)(hf:ff t=true):∀ g∈t.fields,CellOk g:=fun g hg=>by
 have hfo:=Jl h ht hf g hg
 obtain⟨ht2,_⟩:=se h ht hf
 have hty:=iO h
 obtain⟨h9,_,hs⟩:=cj hf
 have hsg:=hs g hg
 obtain⟨k,m,M,s,w,e,f⟩:=t
 have ho:=gh (hty.2.2 (.inl h9) g hg).1
 rw[Typ.ok_mk] at ht
 have hgd:=(fL (ht.2.2.2.2.2.2.2.2.2 g hg)).2
 obtain⟨b,hb⟩:=bY f [] (bh (gh hty)).2.2.2 g hg
 simp only[scB,Bool.and_eq_true,decide_eq_true_eq] at hsg
 refine⟨ho,hsg,(ht2.2.2.2 g hg).2,hfo.emp,fun h3=>?_⟩
 obtain⟨x,r,hx⟩:=Db hb h3
 have hxo:=hgd x (by rw[hx];simp)
 exact⟨x,r,hx,hxo,gK _ x (Nat.lt_succ_self _) hxo⟩
def Sh (g:TFd):Val:=match g.dflt with
 | []=>eM
 | x::_=>x
def Qo (g:TFd):Val:=if aX g.typ=true then yz g.typ.kind q0 else if g.need=2 then eM else if g.need=3 then Sh g else eM
def MG (g:TFd)(s:List UInt8):Val:=if cx g.typ.kind s=[] then Qo g else if (rdR g.typ (cx g.typ.kind s)).2=0\/6<=g.typ.kind then yz g.typ.kind (rdR g.typ (cx g.typ.kind s)).1 else eM
theorem fP:Nz eP eM.pv:=by
 unfold eP eM
 rw[Val.pv_mk]
 repeat' constructor
theorem P0 (g:TFd)(s:List UInt8):Nz (MH g s) (MG g s).pv:=by
 unfold MH MG
 split
 ·unfold yP Qo
  split
  ·exact qz _ q0
  ·split
   ·exact fP
   ·split
    ·unfold Ms Sh
     cases g.dflt with
     | nil=>exact fP
     | cons x r=>exact .refl _
    ·exact fP
 ·unfold vPQ
  split
  ·exact qz _ _
  ·exact fP
theorem jB:eM.ok:=by
 unfold eM
 rw[Val.ok_mk]
 exact⟨⟨by omega,by omega⟩,⟨by omega,by omega⟩,⟨by omega,by omega⟩,by simp,by simp,by simp,by simp,by simp⟩
theorem Di {t:Typ}{r:Qt×Int}(h:yK t r=0):r.2=0/\yI t r.1=true:=by
 unfold yK at h
 by_cases h0:r.2=0
 ·rw[if_pos h0] at h
  cases hf:yI t r.1 with
  | true=>exact⟨h0,rfl⟩
  | false=>rw[hf,if_neg (by decide)] at h;cases h
 ·rw[if_neg h0] at h;exact absurd h h0
theorem PZ {g:TFd}{s:List UInt8}(h:CellOk g)(hs:s.length<=1000000)(he:nW g s=0):(MG g s).ok:=by
 unfold MG
 unfold nW at he
 by_cases h0:cx g.typ.kind s=[]
 ·rw[if_pos h0]
  unfold Qo
  split
  ·exact qy h.kd rh
  ·split
   ·exact jB
   ·split
    ·rename_i h3
     obtain⟨x,r,hx,hxo,_⟩:=h.dft h3
     unfold Sh;rw[hx];exact hxo
    ·exact jB
 ·rw[if_neg h0] at he ⊢
  have hz:=Di he
  rw[if_pos (.inl hz.1)]
  exact qy h.kd (I3 _ _ _ (Nat.le_trans (Ai _ _) hs) hz.1)
def gT (x:TFd×List UInt8):Fld:=.mk x.1.name (MG x.1 x.2)
theorem Et {P:PV}{V:Val}(h:Nz P V.pv)(hP:∃ cs,P = .agg cs):NzL P.cells V.pv.cells:=by
 obtain⟨cs,rfl⟩:=hP
 obtain⟨k,n,s,t,l,f⟩:=V
 rw[Val.pv_mk] at h ⊢
 cases h with
 | refl=>exact NzL.refl _
 | agg _ _ h=>exact h
theorem R7 (x:TFd×List UInt8):Nz (fC x) (gT x).pv:=by
 have h:=Et (P0 x.1 x.2) (by obtain⟨a,b,c,d,p,q,h,_⟩:=sx x.1 x.2;exact⟨_,h⟩)
 unfold fC gT
 rw[Fld.pv_mk]
 exact .agg _ _ (.cons _ _ _ _ (.refl _) h)
theorem Jd:∀ Z:List (TFd×List UInt8),NzL (Z.map fC) ((Z.map gT).map Fld.pv)
 | []=>.nil
 | x::r=>.cons _ _ _ _ (R7 x) (Jd r)
theorem kL {v:List Nat}:∀ (Z:List (TFd×List UInt8)) (i:Nat),(kM v Z i).2=0->kM v Z i=(0,0)/\∀ x∈Z,nW x.1 x.2=0
 | [],_,_=>⟨rfl,fun x hx=>by cases hx⟩
 | x::r,i,h=>by
   rw[kM] at h ⊢
   by_cases h0:nW x.1 x.2=0
   ·rw[if_pos h0] at h ⊢
    obtain⟨h1,h2⟩:=kL r (i+1) h
    exact⟨h1,fun y hy=>(List.mem_cons.1 hy).elim (fun e=>e▸h0) (h2 y)⟩
   ·rw[if_neg h0] at h;exact absurd h h0
theorem xC {T:Nat}{p:PV}(t:Typ)(ht:t.ok)(w:List Int)(line:List UInt8)(he:¬ lf t w=0):ag Tryz.prog (bR T p) 17 [t.pv,.list (db w),.str line] (.tup [eP,.int .i64 0,.int .i64 (lf t w)]):=by
 have h12:=toE (T:=T) (p:=p) (lP t ht w)
 generalize lf t w=z at *
 obtain⟨k,m,M,s,wd,e,f⟩:=t
 simp only[Typ.pv_mk,eP] at h12 ⊢
 refine ag.intro Q17.2 (by simp[Q17]) ?_
 simp(disch:=try exact dI) only[Q17,push_cast,seval]
 refine ab.pure h12 rfl ?_
 simp(disch:=try exact dI) only[he,push_cast,seval]
theorem uc {n:Nat}{s:Int}(h:¬ (n:Int)=s):¬ nv n s=0:=by
 unfold nv
 by_cases h1:(n:Int)<s
 ·rw[if_pos h1];decide
 ·rw[if_neg h1,if_pos (by omega)];decide
theorem xA {T:Nat}{p:PV}(t:Typ)(ht:t.ok)(w:List Int)(line:List UInt8)(he:lf t w=0)(hb:Id w=false)(hw:w.length<=64)(hs0:0<=ja w)(hll:line.length<=1000000)(hne:¬ (line.length:Int)=ja w):ag Tryz.prog (bR T p) 17 [t.pv,.list (db w),.str line] (.tup [eP,.int .i64 (min (line.length:Int) (ja w)),.int .i64 (nv line.length (ja w))]):=by
 have h12:=toE (T:=T) (p:=p) (lP t ht w)
 have h50:=toE (T:=T) (p:=p) (qE w (by omega))
 rw[hb,if_neg (by decide),if_neg (by decide)] at h50
 have h51:=toE (T:=T) (p:=p) (C4 line (ja w))
 rw[he] at h12
 have hz:=uc hne
 have hm:min (ja w) (line.length:Int)=min (line.length:Int) (ja w):=Int.min_comm _ _
 generalize nv line.length (ja w)=z at *
 generalize ja w=S at *
 obtain⟨k,m,M,s,wd,e,f⟩:=t
 simp only[Typ.pv_mk,eP] at h12 ⊢
 refine ag.intro Q17.2 (by simp[Q17]) ?_
 simp(maxSteps:=9^7) (disch:=try exact dI) only[Q17,push_cast,seval]
 refine ab.pure h12 rfl ?_
 simp(maxSteps:=9^7) (disch:=try exact dI) only[push_cast,seval]
 refine ab.pure h50 rfl ?_
 simp(maxSteps:=9^7) (disch:=try exact dI) only[push_cast,seval]
 refine ab.pure h51 rfl ?_
 simp(maxSteps:=9^7) (disch:=try exact dI) only[hz,hm,push_cast,seval]
theorem uL {f:List TFd}{line:List UInt8}{v:List Nat}(h:f.length=v.length):((cP f line v).map gT).map Fld.name=f.map TFd.name:=by
 have h1:((cP f line v).map gT).map Fld.name=((cP f line v).map Prod.fst).map TFd.name:=by
  rw[List.map_map,List.map_map];rfl
 rw[h1]
 congr 1
 unfold cP
 exact List.map_fst_zip (by rw[List.length_map,List.length_range];omega)
theorem EQ {f:List TFd}{line:List UInt8}{v:List Nat}{x:TFd×List UInt8}(hx:x∈cP f line v):x.1∈f/\x.2.length<=line.length:=by
 unfold cP at hx
 obtain⟨a,b⟩:=x
 obtain⟨h1,h2⟩:=List.of_mem_zip hx
 obtain⟨i,_,rfl⟩:=List.mem_map.1 h2
 exact⟨h1,by unfold ew;rw[List.length_drop,List.length_take];omega⟩
structure DecOk (t:Typ)(w:List Int)(line:List UInt8)(v:List Nat):Prop where
 rep:lf t w=0
 nat:w=v.map fun n:Nat=>(n:Int)
 sum:line.length=v.sum
 len:t.fields.length=v.length
 bnd:∀ x∈v,1<=x/\x<=4096
 cel:∀ x∈cP t.fields line v,nW x.1 x.2=0
theorem jn {t:Typ}{w:List Int}(ht:t.ok)(he:lf t w=0):Id w=false/\w.length=t.fields.length/\w.length<=64/\lM t=0/\ff t=true:=by
 obtain⟨hfe,hlen,hrl⟩:=eY he
 obtain⟨h0,hfl⟩:=iB hfe
 have hst:=go t.fields w 0 hlen.symm hrl
 have h64:t.fields.length<=64:=by
  have ho:=gh (iO h0)
  obtain⟨k,m,M,s,wd,e,f⟩:=t
  exact BE ho
 refine⟨?_,hlen,by omega,h0,hfl⟩
 unfold Id
 rw[decide_eq_false (by omega),Bool.false_or,List.any_eq_false]
 intro x hx
 obtain⟨i,hi,hx⟩:=List.getElem_of_mem hx
 have hw:w[i]? = some x:=by rw[List.getElem?_eq_getElem hi,hx]
 obtain⟨g,hg⟩:∃ g,t.fields[i]? = some g:=⟨_,List.getElem?_eq_getElem (by omega)⟩
 obtain⟨h1,h2,_⟩:=fp (hst i g x hg hw)
 unfold Eh
 simp;omega
theorem mq {t:Typ}{w:List Int}{line:List UInt8}{v:List Nat}(ht:t.ok)(h0:lM t=0)(hfl:ff t=true)(hlen:t.fields.length=v.length)(hll:line.length<=1000000)(hc:∀ x∈cP t.fields line v,nW x.1 x.2=0) :
  (∀ x∈(cP t.fields line v).map gT,x.ok)/\ey ((cP t.fields line v).map gT):=by
 have hco:=kX h0 ht hfl
 have hok:∀ g∈t.fields,g.ok:=by
  obtain⟨k,m,M,s,wd,e,f⟩:=t
  rw[Typ.ok_mk] at ht
  exact ht.2.2.2.2.2.2.2.2.2
 refine⟨fun y hy=>?_,?_⟩
 ·obtain⟨x,hx,rfl⟩:=List.mem_map.1 hy
  obtain⟨m1,m2⟩:=EQ hx
  have hg:=hok x.1 m1
  unfold gT
  rw[Fld.ok_mk]
  refine⟨?_,PZ (hco x.1 m1) (by omega) (hc x hx)⟩
  obtain⟨⟨n,nm,nd,ty,d⟩,s⟩:=x
  simp only at hg
  rw[TFd.ok_mk] at hg
  exact hg.2.1
 ·unfold ey
  rw[uL hlen]
  exact px h0
structure FitS (t:Typ)(v:Val):Prop where
 kd:v.kind=t.kind
 fm:aL v=true
 nm:t.kind=2\/t.kind=6\/t.kind=7\/t.kind=3->t.min<=v.num/\v.num<=t.max
 sc:t.kind=3->v.scale=t.scale
 wd:t.kind=4->0<t.words.length->(t.words.any fun x=>decide (x=v.text))=true
 tx:t.kind=5\/t.kind=4/\t.words.length=0->t.min<=(v.text.length:Int)/\(v.text.length:Int)<=t.max
theorem tt {a b n:Int}{p:List UInt8}(h:a<=n/\n<=b):lp a b p n=[]:=if_neg (by omega)
theorem HK {t:Typ}{v:Val}(hk:1<=t.kind/\t.kind<=7)(h:FitS t v)(p:List UInt8):bL 1 t v p=[]:=by
 have a:¬ (t.kind<1\/10<t.kind\/¬ v.kind=t.kind):=fun q=>q.elim (by omega) fun q=>q.elim (by omega) fun q=>q h.kd
 rw[bz]
 have e:t.kind=1\/(t.kind=2\/t.kind=6\/t.kind=7)\/t.kind=3\/t.kind=4\/t.kind=5:=by omega
 rcases e with e | e | e | e | e
 ·exact l8 a h.fm e
 ·rw[e9 a h.fm e];exact tt (h.nm (by omega))
 ·rw[kn a h.fm e (h.sc e)];exact tt (h.nm (by omega))
 ·by_cases hw:0<t.words.length
  ·exact l7 a h.fm e hw (h.wd e hw)
  ·rw[dP a h.fm (.inl e) (fun _=>by omega)];exact tt (h.tx (.inr ⟨e,by omega⟩))
 ·rw[dP a h.fm (.inr e) (fun q=>by omega)];exact tt (h.tx (.inl e))
theorem G5 {t:Typ}{v:Val}{p:List UInt8}(hk:1<=t.kind/\t.kind<=7)(h:bL 1 t v p=[]):FitS t v:=by
 obtain⟨h1,h2⟩:=HL h
 have a:¬ (t.kind<1\/10<t.kind\/¬ v.kind=t.kind):=fun q=>q.elim (by omega) fun q=>q.elim (by omega) fun q=>q h1
 rw[bz] at h
 have hsc:t.kind=3->v.scale=t.scale:=fun e=>Decidable.byContradiction fun hs=>by rw[km a h2 e hs] at h;cases h
 refine⟨h1,h2,fun e=>?_,hsc,fun e hw=>?_,fun e=>?_⟩
 ·by_cases e3:t.kind=3
  ·rw[kn a h2 e3 (hsc e3)] at h;exact ru h
  ·rw[e9 a h2 (by omega)] at h;exact ru h
 ·cases ha:(t.words.any fun x=>decide (x=v.text)) with
  | true=>rfl
  | false=>rw[iT a h2 e hw ha] at h;cases h
 ·rw[dP a h2 (by omega) (fun q=>by omega)] at h;exact ru h
end Go.Proofs.YtbojpfpliibfbaaGreatDoor

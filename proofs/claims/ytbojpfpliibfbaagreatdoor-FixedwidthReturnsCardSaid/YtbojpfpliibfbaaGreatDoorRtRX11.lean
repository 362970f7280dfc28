/- A part of the proof. -/
import Derived.Test.YtbojpfpliibfbaaGreatDoorRtRX9
set_option maxHeartbeats 16000000
set_option maxRecDepth 100000
set_option linter.unusedVariables false
set_option linter.unusedSimpArgs false
namespace Go.Proofs.YtbojpfpliibfbaaGreatDoor
open Go Go.Ab
attribute [local irreducible] vc
theorem Q0 {T:Nat}{p:PV}{g:Nat}{lb:List PV}{xs:List (List PV)}(h:KT Tryz.prog au g lb xs):KT Tryz.prog (dW T p) g lb xs:=by
 have key:∀ g,au g≠[]->dW T p g=au g:=by
  intro g hg
  unfold dW
  by_cases h0:g=4
  ·subst h0;exact absurd rfl hg
  ·rw[if_neg h0]
 refine⟨h.1,fun w imm lbv l J Jx O hG h1 h2 h3 h4 h5 hy hJ=>h.2 w imm lbv l J Jx O (Mw hG) h1 h2 h3 h4 h5 (fun m i x O W vals imm' kp a b c d e f g'=>?_) hJ⟩
 refine (hy m i x O W vals imm' kp a b c d e f g').mono ?_
 rintro e W' (⟨a1,a2,a3,a4,a5⟩ | hh)
 ·refine .inl ⟨a1,a2,a3,a4,fun g hg=>?_⟩
  have:=a5 g (by rw[key g hg];exact hg)
  rwa [key g hg] at this
 ·exact .inr hh
theorem Pc {T:Nat}{p:PV}{k f:Nat}{args:List AV}{bs:List Blk}{v:AV}{bs':List Blk}(h:a8 Tryz.prog au k f args bs v bs'):a8 Tryz.prog (dW T p) k f args bs v bs':=by
 have key:∀ g,au g≠[]->dW T p g=au g:=by
  intro g hg
  unfold dW
  by_cases h0:g=4
  ·subst h0;exact absurd rfl hg
  ·rw[if_neg h0]
 obtain⟨hc,h⟩:=h
 refine⟨hc,fun κ vals hS hf hsz hv=>?_⟩
 have hS1:SRel (bJ κ (fun r=>lookB r (bA bs 0)) au) κ (fun r=>lookB r (bA bs 0)):=by
  refine⟨hS.blk,hS.apart,hS.mine,hS.immLt,fun g o p hp=>hS.glob.1 g o p ?_,fun g hg=>?_⟩
  ·show (dW T _ g)[o]? = some p
   have hp':(au g)[o]? = some p:=hp
   rw[key g (by intro e;rw[e] at hp';simp at hp')];exact hp'
  ·have hg':au g≠[]:=hg
   have:=hS.glob.2 g (show dW T _ g≠[] by rw[key g hg'];exact hg')
   obtain⟨h1,h2,cs,T',fz,h3,h4⟩:=this
   exact⟨h1,h2,cs,T',fz,h3,h4.trans (congrArg List.length (key g hg'))⟩
 refine (h κ vals hS1 hf hsz hv).mono ?_
 rintro e w' ⟨u,v',κ',sto',next',h1,h2,he,hL,hv',hS',hf',hQ⟩
 exact⟨u,v',κ',sto',next',h1,h2,he,⟨hL.os,hL.tape,hL.output,hL.size,hL.block,hL.imm⟩,hv',⟨hS'.blk,hS'.apart,hS'.mine,hS'.immLt,SRel.glob_ext (κ:=κ.cut k) he hS.glob hL.block⟩,hf',hQ⟩
theorem MB (a e b z:Int):a8 Tryz.prog au 1 54 [.ptr 0 0,.pv (.int .i64 b),.pv (.int .i64 z)] [.cells 94 true [.pv (.int .i64 a),.pv (.int .i64 e)]] (.pv (.tup [])) [.cells 94 true [.pv (.int .i64 (if e=0 then (if z=0 then a else b) else a)),.pv (.int .i64 (if e=0 then z else e))]]:=by
 refine a8.intro Q54.2 (by simp[Q54]) ?_
 by_cases h1:e=0
 ·subst h1
  rw[if_pos rfl,if_pos rfl]
  by_cases h2:z=0
  ·subst h2
   rw[if_pos rfl]
   simp(maxSteps:=9^7) (disch:=try exact dI) only[Q54,push_cast,seval]
   exact aG [] qsZ
  ·rw[if_neg h2]
   simp(maxSteps:=9^7) (disch:=try exact dI) only[Q54,h2,push_cast,seval]
   exact aG [] qsZ
 ·rw[if_neg h1,if_neg h1]
  simp(maxSteps:=9^7) (disch:=try exact dI) only[Q54,h1,push_cast,seval]
  exact aG [] qsZ
theorem Li (v:Val):∃ (a b c:Int) (d:List UInt8) (p q:PV),v.pv = .agg [.int .i64 a,.int .i64 b,.int .i64 c,.str d,p,q]/\p.one=true/\q.one=true:=by
 obtain⟨k,n,s,t,l,f⟩:=v
 exact⟨k,n,s,t,.list (l.map Val.pv),.list (f.map Fld.pv),by rw[Val.pv_mk],rfl,rfl⟩
theorem ji (k n s:Int)(t:List UInt8):∃ (a b c:Int) (d:List UInt8) (p q:PV),iE k n s t = .agg [.int .i64 a,.int .i64 b,.int .i64 c,.str d,p,q]/\p.one=true/\q.one=true:=⟨k,n,s,t,.nils,.nils,rfl,rfl,rfl⟩
theorem qV (g:TFd)(s:List UInt8):∃ (a b c:Int) (d:List UInt8) (p q:PV),Kc g s = .agg [.int .i64 a,.int .i64 b,.int .i64 c,.str d,p,q]/\p.one=true/\q.one=true:=by
 unfold Kc
 split
 ·unfold wM
  split
  ·exact ji _ _ _ _
  ·split
   ·exact ji 0 0 0 []
   ·split
    ·unfold JY
     split
     ·exact ji 0 0 0 []
     ·exact Li _
    ·exact ji 0 0 0 []
 ·obtain⟨a,b,c,d,h⟩:=Ge g.typ.kind (rdR g.typ (cg g.typ.kind s))
  rw[h];exact ji _ _ _ _
def fC (x:TFd×List UInt8):PV:=.agg (.str x.1.name::(Kc x.1 x.2).cells)
theorem MD (x:TFd×List UInt8):∃ cs,fC x = .agg cs/\cs.length=7/\∀ q∈cs,q.one=true:=by
 obtain⟨a,b,c,d,p,q,h,hp,hq⟩:=qV x.1 x.2
 refine⟨_,rfl,by rw[h];rfl,fun y hy=>?_⟩
 rw[h] at hy
 simp only[PV.cells,List.mem_cons,List.not_mem_nil,or_false] at hy
 rcases hy with rfl | rfl | rfl | rfl | rfl | rfl | rfl<;>first | rfl | assumption
def eN (L:List (TFd×List UInt8)):List PV:=L.flatMap fun x=>(fC x).cells
theorem tR (L:List (TFd×List UInt8)):bh (L.map fC)=(eN L).map AV.pv:=by
 induction L with
 | nil=>rfl
 | cons x r ih=>
   have:bh ((x::r).map fC)=(fC x).cells.map AV.pv++bh (r.map fC):=by simp[bh]
   rw[this,ih];simp[eN]
theorem yc (L:List (TFd×List UInt8)):(eN L).length=L.length*7:=by
 induction L with
 | nil=>rfl
 | cons x r ih=>
   have hx:(fC x).cells.length=7:=by obtain⟨cs,h,h2,_⟩:=MD x;rw[h];exact h2
   rw[show eN (x::r)=(fC x).cells++eN r by simp[eN],List.length_append,hx,ih,List.length_cons];omega
theorem tQ (L:List (TFd×List UInt8))(x:TFd×List UInt8):eN (L++[x])=eN L++(fC x).cells:=by simp[eN]
def ke (v:List Nat):List (TFd×List UInt8)->Nat->Int×Int
 | [],_=>(0,0)
 | x::r,i=>if np x.1 x.2=0 then ke v r (i+1) else ((fG v i:Int),np x.1 x.2)
theorem JQ {v:List Nat}{Z:List (TFd×List UInt8)}{n:Nat}{x:TFd×List UInt8}(h:Z[n]? = some x):ke v (Z.drop n) n=if np x.1 x.2=0 then ke v (Z.drop (n+1)) (n+1) else ((fG v n:Int),np x.1 x.2):=by
 rw[cL h,ke]
def dQ (f:List TFd)(line:List UInt8)(v:List Nat):List (TFd×List UInt8):=f.zip ((List.range v.length).map (eF line v))
theorem rk {f:List TFd}{line:List UInt8}{v:List Nat}(h:f.length=v.length):(dQ f line v).length=v.length:=by
 unfold dQ;rw[List.length_zip,List.length_map,List.length_range];omega
theorem Hh {f:List TFd}{line:List UInt8}{v:List Nat}{n:Nat}{g:TFd}(hg:f[n]? = some g)(hn:n<v.length):(dQ f line v)[n]? = some (g,eF line v n):=by
 unfold dQ
 rw[List.getElem?_zip_eq_some]
 exact⟨hg,by rw[List.getElem?_map,List.getElem?_range hn];rfl⟩
def DH (L:List PV):PV:=.agg [.int .i64 9,.int .i64 0,.int .i64 0,.str [],.list [],.list L]
theorem vO {T:Nat}{p:PV}(k m M sc:Int)(wd:List (List UInt8))(el:List Typ)(f:List TFd)(v:List Nat)(line:List UInt8)(L:List PV)(h12:ag Tryz.prog au 12 [(Typ.mk k m M sc wd el f).pv,.list (eE v)] (.int .i64 0))(h50:ag Tryz.prog au 50 [.list (eE v)] (.tup [.int .i64 ((v.sum:Nat):Int),.int .i64 0]))
  (hls:line.length=v.sum) (hll:line.length<=1000000) (hfl:f.length=v.length) (hf64:f.length<=64) (hv:∀ x∈v,1<=x/\x<=4096) (hc:∀ g∈f,CellOk g)
  (hrec:ke v (dQ f line v) 0=(0,0)->ag Tryz.prog au 55 [.list ((dQ f line v).map fC)] (DH L)) :
  ag Tryz.prog (dW T p) 17 [(Typ.mk k m M sc wd el f).pv,.list (eE v),.str line] (.tup [if (ke v (dQ f line v) 0).2=0 then DH L else eH,.int .i64 (ke v (dQ f line v) 0).1,.int .i64 (ke v (dQ f line v) 0).2]):=by
 replace h12:=toE (T:=T) (p:=p) h12
 replace h50:=toE (T:=T) (p:=p) h50
 have h51:=toE (T:=T) (p:=p) (A0 line ((v.sum:Nat):Int))
 rw[show mM line.length ((v.sum:Nat):Int)=0 by unfold mM;rw[if_neg (by omega),if_neg (by omega)]] at h51
 have h52:=toE (T:=T) (p:=p) (B0 line (eE v))
 have hseq:=Q0 (T:=T) (p:=p) (oM line v (by omega) hll (by omega))
 have hZl:=rk (line:=line) hfl
 have hZ:=fun (n:Nat) (g:TFd) (hg:f[n]? = some g) (hn:n<v.length)=>Hh (line:=line) hg hn
 have hX:∀ (j:Nat) (y:List PV),(df line v)[j]? = some y->j<v.length/\y=[.int .i64 (fG v j:Int),.str (eF line v j)]:=fun j y h=>by
  unfold df at h
  rw[List.getElem?_map,Option.map_eq_some_iff] at h
  obtain⟨i,hi,rfl⟩:=h
  have hj:j<v.length:=by have:=(List.getElem?_eq_some_iff.1 hi).1;simpa using this
  rw[List.getElem?_range hj] at hi
  cases hi
  exact⟨hj,rfl⟩
 have hXl:(df line v).length=v.length:=by unfold df;rw[List.length_map,List.length_range]
 have hcl:∀ j,(eF line v j).length<=1000000:=fun j=>by unfold eF;rw[List.length_drop,List.length_take];omega
 generalize dQ f line v=Z at *
 generalize df line v=X at *
 obtain⟨R,hR⟩:∃ R,R=ke v Z 0:=⟨_,rfl⟩
 rw[<- hR] at hrec ⊢
 simp only[Typ.pv_mk] at h12 ⊢
 refine ag.intro Q17.2 (by simp[Q17]) ?_
 simp(maxSteps:=9^7) (disch:=try exact dI) only[Q17,push_cast,seval]
 refine ab.pure h12 rfl ?_
 simp(maxSteps:=9^7) (disch:=try exact dI) only[push_cast,seval]
 refine ab.pure h50 rfl ?_
 simp(maxSteps:=9^7) (disch:=try exact dI) only[push_cast,seval]
 refine ab.pure h51 rfl ?_
 simp(maxSteps:=9^7) (disch:=try exact dI) only[push_cast,seval]
 refine ab.pure h52 rfl ?_
 simp(maxSteps:=9^7) (disch:=try exact dI) only[push_cast,seval]
 refine rr ([(14,1,1000060,7)]) (fun i:Nat×Int×Int=>[]) (fun i=>[(2,.cells 34 true [.row 5 7 0 i.1]),(3,.cells 3 true [.pv (.int .i64 (i.1:Int))]),(4,.cells 94 true [.pv (.int .i64 i.2.1),.pv (.int .i64 i.2.2)]),(5,.cells 60 false ((eN (Z.take i.1)).map .pv))]) (fun j i=>j=i.1/\i.1<=v.length/\R=(if i.2.2=0 then ke v (Z.drop i.1) i.1 else i.2)/\(i.2.2=0->i.2.1=0)) ((0,0,0)) (hseq) ?_;intro e0 σ0 n0 h0;simp(maxSteps:=9^7) (disch:=try exact dI) only[push_cast,seval] at h0;obtain⟨rfl,rfl,rfl⟩:=h0;refine⟨?_,?_,?_,?_,?_⟩
 ·simp(maxSteps:=9^7) (disch:=try exact dI) only[eN,List.flatMap_nil,List.take_zero,List.map_nil,push_cast,seval]
 ·exact⟨rfl,by omega,by rw[if_pos rfl];simpa using hR,fun _=>rfl⟩
 ·rfl
 ·rintro j ⟨i,a,e⟩ y hy ⟨hij,hi,hRi,ha⟩
  simp only at hij hi hRi ha
  subst hij
  obtain⟨hj,rfl⟩:=hX j y hy
  refine⟨rfl,?_⟩
  have hjI:(j:Int)<(f.length:Int):=by omega
  obtain⟨g,hg⟩:∃ g,f[j]? = some g:=⟨_,List.getElem?_eq_getElem (by omega)⟩
  have hcell:=Nc (T:=T) (p:=p) g (hc g (List.mem_of_getElem? hg)) (eF line v j) (hcl j)
  have hfail:=Pc (T:=T) (p:=p) (MB a e (fG v j:Int) (np g (eF line v j)))
  have hZj:=hZ j g hg hj
  obtain⟨ca,cb,cc,cd,cp,cq,hcP,hp1,hq1⟩:=qV g (eF line v j)
  have hfC:fC (g,eF line v j) = .agg [.str g.name,.int .i64 ca,.int .i64 cb,.int .i64 cc,.str cd,cp,cq]:=by unfold fC;rw[hcP];rfl
  have hsn:eN (Z.take (j+1))=eN (Z.take j)++[.str g.name,.int .i64 ca,.int .i64 cb,.int .i64 cc,.str cd,cp,cq]:=by rw[aL hZj,tQ,hfC];rfl
  rw[hcP] at hcell
  have hfe:=JQ (v:=v) hZj
  simp only at hfe
  generalize np g (eF line v j)=E at *
  generalize hA:(if e=0 then (if E=0 then a else (fG v j:Int)) else a)=a2 at hfail
  generalize hE:(if e=0 then E else e)=e2 at hfail
  have hnew:R=(if e2=0 then ke v (Z.drop (j+1)) (j+1) else (a2,e2))/\(e2=0->a2=0):=by
   by_cases he:e=0
   ·rw[if_pos he] at hRi hA hE
    subst hE
    rw[hfe] at hRi
    by_cases hz:E=0
    ·rw[if_pos hz] at hRi hA
     subst hA
     rw[if_pos hz]
     exact⟨hRi,fun _=>ha he⟩
    ·rw[if_neg hz] at hRi hA
     subst hA
     rw[if_neg hz]
     exact⟨hRi,fun h=>absurd h hz⟩
   ·rw[if_neg he] at hRi hA hE
    subst hA hE
    rw[if_neg he]
    exact⟨hRi,fun h=>absurd h he⟩
  clear hA hE hfe
  obtain⟨n',nm',nd',⟨k',m',M',s',w',e',f'⟩,d'⟩:=g
  simp only[TFd.pv_mk,Typ.pv_mk] at hcell
  simp(maxSteps:=9^7) (disch:=try exact dI) only[hjI,hg,Option.map_some,TFd.pv_mk,Typ.pv_mk,am,push_cast,seval]
  refine ab.pure hcell rfl ?_
  simp(maxSteps:=9^7) (disch:=try exact dI) only[hp1,hq1,push_cast,seval]
  refine ab.lentK hfail [4] rfl qsZ qsZ ?_
  have hKl:(eN (Z.take j)).length=j*7:=by rw[yc,List.length_take];omega
  have happ:∀ new,wo 60 7 104 new 5 7 0 j [.agg [.str [],.int .i64 0,.int .i64 0,.int .i64 0,.str [],.nils,.nils]] (.cells 60 false ((eN (Z.take j)).map .pv))=some (.row new 7 0 (j+1),[(5,.none),(new,.cells 60 false ((eN (Z.take j)).map .pv++[AV.pv (.str []),.pv (.int .i64 0),.pv (.int .i64 0),.pv (.int .i64 0),.pv (.str []),.pv .nils,.pv .nils]))]):=fun new=>by
   rw[mZ (by rw[List.length_map,hKl];exact Nat.le_refl _) (by simp;omega) (by simp;omega),List.take_of_length_le (by rw[List.length_map,hKl];exact Nat.le_refl _)]
   rfl
  generalize eN (Z.take j)=K at *
  have hst:∀ (new:Nat) (zs cs:List AV),zs.length=7->ny new 60 false (K.map .pv++zs) 7 (j*7) cs true=some [(new,.cells 60 false (K.map .pv++cs))]:=fun new zs cs hz=>by
   unfold ny
   rw[List.take_left' (by rw[List.length_map,hKl]),List.drop_of_length_le (by rw[List.length_append,List.length_map,hKl,hz];exact Nat.le_refl _),List.append_nil]
  have hst2:∀ (new:Nat) (s:List UInt8) (c1 c2 c3:Int) (c4:List UInt8) (c5 c6:PV),ny new 60 false (K.map .pv++[AV.pv (.str []),.pv (.int .i64 0),.pv (.int .i64 0),.pv (.int .i64 0),.pv (.str []),.pv .nils,.pv .nils]) 7 (j*7) [.pv (.str s),.pv (.int .i64 c1),.pv (.int .i64 c2),.pv (.int .i64 c3),.pv (.str c4),.pv c5,.pv c6] true=some [(new,.cells 60 false ((K++[.str s,.int .i64 c1,.int .i64 c2,.int .i64 c3,.str c4,c5,c6]).map .pv))]:=fun new s c1 c2 c3 c4 c5 c6=>by
   rw[hst new _ _ rfl,List.map_append];rfl
  simp(maxSteps:=9^7) (disch:=try exact dI) only[happ,hjI,hg,Option.map_some,TFd.pv_mk,Typ.pv_mk,am,hp1,hq1,hst2,push_cast,seval]
  simp only[TFd.name] at hsn
  exact⟨(j+1,a2,e2),aX (by simp(maxSteps:=9^7) (disch:=try exact dI) only[hsn,push_cast,seval]),rfl,by simp only;omega,hnew.1,hnew.2⟩
 ·rintro⟨i,a,e⟩ ⟨hj,hi,hRi,ha⟩
  simp only at hj hi hRi ha
  have hin:i=Z.length:=by omega
  rw[hin,List.drop_length,ke] at hRi
  have hfz:=fun (n r:Nat) (hn:n=Z.length)=>sH (sz:=7) (f:=fC) MD (by omega) Z (n:=n) (r:=r) (T:=60) (b:=false) hn
  simp only[tR] at hfz
  rw[hin,List.take_length]
  by_cases he:e=0
  ·rw[if_pos he] at hRi
   have h55:=hrec hRi
   replace h55:=toE (T:=T) (p:=p) h55
   subst hRi
   rw[if_pos rfl]
   simp only[DH] at h55 ⊢
   simp(maxSteps:=9^7) (disch:=try exact dI) only[he,push_cast,seval]
   simp(maxSteps:=9^7) (disch:=try exact dI) only[hfz,push_cast,seval]
   refine ab.pure h55 rfl ?_
   simp(maxSteps:=9^7) (disch:=try exact dI) only[push_cast,seval]
  ·rw[if_neg he] at hRi
   subst hRi
   rw[if_neg he]
   simp(maxSteps:=9^7) (disch:=try exact dI) only[he,eH,push_cast,seval]
theorem Bf {k:Int}{b:List TFd}{g:TFd}(h:cm k b g=0)(h3:g.need=3):∃ x r,g.dflt=x::r:=by
 obtain⟨n,nm,nd,t,d⟩:=g
 simp only[TFd.need] at h3
 subst h3
 cases d with
 | cons x r=>exact⟨x,r,rfl⟩
 | nil=>
   rw[j8] at h
   by_cases h1:cy nm=false
   ·rw[if_pos h1] at h;cases h
   rw[if_neg h1] at h
   by_cases h2:inB n 1 9999=false
   ·rw[if_pos h2] at h;cases h
   rw[if_neg h2] at h
   by_cases h3:b.any (nl n nm)=true
   ·rw[if_pos h3] at h;cases h
   rw[if_neg h3] at h
   unfold Ln at h
   rw[if_neg (by decide)] at h
   by_cases h4:k=10/\¬ (3:Int)=1
   ·rw[if_pos h4] at h;cases h
   rw[if_neg h4,if_pos ⟨rfl,rfl⟩] at h;cases h
theorem Be {k:Int}{b:List TFd}{g:TFd}(h:cm k b g=0):∀ y∈b,y.name≠g.name:=by
 obtain⟨n,nm,nd,t,d⟩:=g
 intro y hy e
 rw[j8] at h
 have ha:b.any (nl n nm)=true:=List.any_eq_true.2 ⟨y,hy,by have e':y.name=nm:=e;simp[nl,e']⟩
 by_cases h1:cy nm=false
 ·rw[if_pos h1] at h;cases h
 rw[if_neg h1] at h
 by_cases h2:inB n 1 9999=false
 ·rw[if_pos h2] at h;cases h
 rw[if_neg h2,if_pos ha] at h;cases h
theorem ix {k:Int}:∀ (f b:List TFd),bS k b f=0->(f.map TFd.name).Nodup/\∀ x∈f,∀ y∈b,y.name≠x.name
 | [],b,_=>⟨List.nodup_nil,fun x hx=>by cases hx⟩
 | g::r,b,h=>by
   rw[bS] at h
   by_cases h0:cm k b g=0
   ·rw[if_pos h0] at h
    obtain⟨i1,i2⟩:=ix r (b++[g]) h
    refine⟨?_,fun x hx=>?_⟩
    ·rw[List.map_cons,List.nodup_cons]
     refine⟨fun hm=>?_,i1⟩
     obtain⟨y,hy,e⟩:=List.mem_map.1 hm
     exact i2 y hy g (by simp) e.symm
    ·rcases List.mem_cons.1 hx with rfl | hx
     ·exact Be h0
     ·exact fun y hy=>i2 x hx y (List.mem_append_left _ hy)
   ·rw[if_neg h0] at h;exact absurd h h0
theorem AY {t:Typ}(h:mc t=0):(t.fields.map TFd.name).Nodup:=by
 have ho:=ii (jr h)
 obtain⟨k,m,M,s,w,e,f⟩:=t
 exact (ix f [] (bm ho).2.2.2).1
theorem mW {t:Typ}(h:mc t=0)(ht:t.ok)(hf:eW t=true):∀ g∈t.fields,CellOk g:=fun g hg=>by
 have hfo:=GQ h ht hf g hg
 obtain⟨ht2,_⟩:=qK h ht hf
 have hty:=jr h
 obtain⟨h9,_,hs⟩:=dc hf
 have hsg:=hs g hg
 obtain⟨k,m,M,s,w,e,f⟩:=t
 have ho:=ii (hty.2.2 (.inl h9) g hg).1
 rw[Typ.ok_mk] at ht
 have hgd:=(fq (ht.2.2.2.2.2.2.2.2.2 g hg)).2
 obtain⟨b,hb⟩:=cJ f [] (bm (ii hty)).2.2.2 g hg
 simp only[scB,Bool.and_eq_true,decide_eq_true_eq] at hsg
 refine⟨ho,hsg,(ht2.2.2.2 g hg).2,hfo.emp,fun h3=>?_⟩
 obtain⟨x,r,hx⟩:=Bf hb h3
 have hxo:=hgd x (by rw[hx];simp)
 exact⟨x,r,hx,hxo,gn _ x (Nat.lt_succ_self _) hxo⟩
def Pw (g:TFd):Val:=match g.dflt with
 | []=>eC
 | x::_=>x
def Ny (g:TFd):Val:=if aY g.typ=true then wD g.typ.kind q0 else if g.need=2 then eC else if g.need=3 then Pw g else eC
def Kb (g:TFd)(s:List UInt8):Val:=if cg g.typ.kind s=[] then Ny g else if (rdR g.typ (cg g.typ.kind s)).2=0\/6<=g.typ.kind then wD g.typ.kind (rdR g.typ (cg g.typ.kind s)).1 else eC
theorem fw:Nz eH eC.pv:=by
 unfold eH eC
 rw[Val.pv_mk]
 repeat' constructor
theorem Nf (g:TFd)(s:List UInt8):Nz (Kc g s) (Kb g s).pv:=by
 unfold Kc Kb
 split
 ·unfold wM Ny
  split
  ·exact pk _ q0
  ·split
   ·exact fw
   ·split
    ·unfold JY Pw
     cases g.dflt with
     | nil=>exact fw
     | cons x r=>exact .refl _
    ·exact fw
 ·unfold vPQ
  split
  ·exact pk _ _
  ·exact fw
theorem jc:eC.ok:=by
 unfold eC
 rw[Val.ok_mk]
 exact⟨⟨by omega,by omega⟩,⟨by omega,by omega⟩,⟨by omega,by omega⟩,by simp,by simp,by simp,by simp,by simp⟩
theorem Bm {t:Typ}{r:Qt×Int}(h:wJ t r=0):r.2=0/\wH t r.1=true:=by
 unfold wJ at h
 by_cases h0:r.2=0
 ·rw[if_pos h0] at h
  cases hf:wH t r.1 with
  | true=>exact⟨h0,rfl⟩
  | false=>rw[hf,if_neg (by decide)] at h;cases h
 ·rw[if_neg h0] at h;exact absurd h h0
theorem Nd {g:TFd}{s:List UInt8}(h:CellOk g)(hs:s.length<=1000000)(he:np g s=0):(Kb g s).ok:=by
 unfold Kb
 unfold np at he
 by_cases h0:cg g.typ.kind s=[]
 ·rw[if_pos h0]
  unfold Ny
  split
  ·exact pj h.kd pQ
  ·split
   ·exact jc
   ·split
    ·rename_i h3
     obtain⟨x,r,hx,hxo,_⟩:=h.dft h3
     unfold Pw;rw[hx];exact hxo
    ·exact jc
 ·rw[if_neg h0] at he ⊢
  have hz:=Bm he
  rw[if_pos (.inl hz.1)]
  exact pj h.kd (Gy _ _ _ (Nat.le_trans (xR _ _) hs) hz.1)
def lz (x:TFd×List UInt8):Fld:=.mk x.1.name (Kb x.1 x.2)
theorem Co {P:PV}{V:Val}(h:Nz P V.pv)(hP:∃ cs,P = .agg cs):NzL P.cells V.pv.cells:=by
 obtain⟨cs,rfl⟩:=hP
 obtain⟨k,n,s,t,l,f⟩:=V
 rw[Val.pv_mk] at h ⊢
 cases h with
 | refl=>exact NzL.refl _
 | agg _ _ h=>exact h
theorem Pn (x:TFd×List UInt8):Nz (fC x) (lz x).pv:=by
 have h:=Co (Nf x.1 x.2) (by obtain⟨a,b,c,d,p,q,h,_⟩:=qV x.1 x.2;exact⟨_,h⟩)
 unfold fC lz
 rw[Fld.pv_mk]
 exact .agg _ _ (.cons _ _ _ _ (.refl _) h)
theorem GJ:∀ Z:List (TFd×List UInt8),NzL (Z.map fC) ((Z.map lz).map Fld.pv)
 | []=>.nil
 | x::r=>.cons _ _ _ _ (Pn x) (GJ r)
theorem kb {v:List Nat}:∀ (Z:List (TFd×List UInt8)) (i:Nat),(ke v Z i).2=0->ke v Z i=(0,0)/\∀ x∈Z,np x.1 x.2=0
 | [],_,_=>⟨rfl,fun x hx=>by cases hx⟩
 | x::r,i,h=>by
   rw[ke] at h ⊢
   by_cases h0:np x.1 x.2=0
   ·rw[if_pos h0] at h ⊢
    obtain⟨h1,h2⟩:=kb r (i+1) h
    exact⟨h1,fun y hy=>(List.mem_cons.1 hy).elim (fun e=>e▸h0) (h2 y)⟩
   ·rw[if_neg h0] at h;exact absurd h h0
theorem vP {T:Nat}{p:PV}(t:Typ)(ht:t.ok)(w:List Int)(line:List UInt8)(he:¬ kC t w=0):ag Tryz.prog (dW T p) 17 [t.pv,.list (bz w),.str line] (.tup [eH,.int .i64 0,.int .i64 (kC t w)]):=by
 have h12:=toE (T:=T) (p:=p) (kY t ht w)
 generalize kC t w=z at *
 obtain⟨k,m,M,s,wd,e,f⟩:=t
 simp only[Typ.pv_mk,eH] at h12 ⊢
 refine ag.intro Q17.2 (by simp[Q17]) ?_
 simp(disch:=try exact dI) only[Q17,push_cast,seval]
 refine ab.pure h12 rfl ?_
 simp(disch:=try exact dI) only[he,push_cast,seval]
theorem sK {n:Nat}{s:Int}(h:¬ (n:Int)=s):¬ mM n s=0:=by
 unfold mM
 by_cases h1:(n:Int)<s
 ·rw[if_pos h1];decide
 ·rw[if_neg h1,if_pos (by omega)];decide
theorem vN {T:Nat}{p:PV}(t:Typ)(ht:t.ok)(w:List Int)(line:List UInt8)(he:kC t w=0)(hb:FJ w=false)(hw:w.length<=64)(hs0:0<=iF w)(hll:line.length<=1000000)(hne:¬ (line.length:Int)=iF w):ag Tryz.prog (dW T p) 17 [t.pv,.list (bz w),.str line] (.tup [eH,.int .i64 (min (line.length:Int) (iF w)),.int .i64 (mM line.length (iF w))]):=by
 have h12:=toE (T:=T) (p:=p) (kY t ht w)
 have h50:=toE (T:=T) (p:=p) (pp w (by omega))
 rw[hb,if_neg (by decide),if_neg (by decide)] at h50
 have h51:=toE (T:=T) (p:=p) (A0 line (iF w))
 rw[he] at h12
 have hz:=sK hne
 have hm:min (iF w) (line.length:Int)=min (line.length:Int) (iF w):=Int.min_comm _ _
 generalize mM line.length (iF w)=z at *
 generalize iF w=S at *
 obtain⟨k,m,M,s,wd,e,f⟩:=t
 simp only[Typ.pv_mk,eH] at h12 ⊢
 refine ag.intro Q17.2 (by simp[Q17]) ?_
 simp(maxSteps:=9^7) (disch:=try exact dI) only[Q17,push_cast,seval]
 refine ab.pure h12 rfl ?_
 simp(maxSteps:=9^7) (disch:=try exact dI) only[push_cast,seval]
 refine ab.pure h50 rfl ?_
 simp(maxSteps:=9^7) (disch:=try exact dI) only[push_cast,seval]
 refine ab.pure h51 rfl ?_
 simp(maxSteps:=9^7) (disch:=try exact dI) only[hz,hm,push_cast,seval]
end Go.Proofs.YtbojpfpliibfbaaGreatDoor

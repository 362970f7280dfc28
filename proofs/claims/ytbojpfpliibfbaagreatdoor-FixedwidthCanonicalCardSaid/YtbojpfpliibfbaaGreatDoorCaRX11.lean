/- A part of the proof. -/
import Derived.Test.YtbojpfpliibfbaaGreatDoorCaRX9
set_option maxHeartbeats 16000000
set_option maxRecDepth 100000
set_option linter.unusedVariables false
set_option linter.unusedSimpArgs false
namespace Go.Proofs.YtbojpfpliibfbaaGreatDoor
open Go Go.Ab
attribute [local irreducible] vc
theorem R8 {T:Nat}{p:PV}{g:Nat}{lb:List PV}{xs:List (List PV)}(h:L6 Tryz.prog au g lb xs):L6 Tryz.prog (dN T p) g lb xs:=by
 have key:∀ g,au g≠[]->dN T p g=au g:=by
  intro g hg
  unfold dN
  by_cases h0:g=4
  ·subst h0;exact absurd rfl hg
  ·rw[if_neg h0]
 refine⟨h.1,fun w imm lbv l J Jx O hG h1 h2 h3 h4 h5 hy hJ=>h.2 w imm lbv l J Jx O (NF hG) h1 h2 h3 h4 h5 (fun m i x O W vals imm' kp a b c d e f g'=>?_) hJ⟩
 refine (hy m i x O W vals imm' kp a b c d e f g').mono ?_
 rintro e W' (⟨a1,a2,a3,a4,a5⟩ | hh)
 ·refine .inl ⟨a1,a2,a3,a4,fun g hg=>?_⟩
  have:=a5 g (by rw[key g hg];exact hg)
  rwa [key g hg] at this
 ·exact .inr hh
theorem Qn {T:Nat}{p:PV}{k f:Nat}{args:List AV}{bs:List Blk}{v:AV}{bs':List Blk}(h:bf Tryz.prog au k f args bs v bs'):bf Tryz.prog (dN T p) k f args bs v bs':=by
 have key:∀ g,au g≠[]->dN T p g=au g:=by
  intro g hg
  unfold dN
  by_cases h0:g=4
  ·subst h0;exact absurd rfl hg
  ·rw[if_neg h0]
 obtain⟨hc,h⟩:=h
 refine⟨hc,fun κ vals hS hf hsz hv=>?_⟩
 have hS1:SRel (bP κ (fun r=>lookB r (bF bs 0)) au) κ (fun r=>lookB r (bF bs 0)):=by
  refine⟨hS.blk,hS.apart,hS.mine,hS.immLt,fun g o p hp=>hS.glob.1 g o p ?_,fun g hg=>?_⟩
  ·show (dN T _ g)[o]? = some p
   have hp':(au g)[o]? = some p:=hp
   rw[key g (by intro e;rw[e] at hp';simp at hp')];exact hp'
  ·have hg':au g≠[]:=hg
   have:=hS.glob.2 g (show dN T _ g≠[] by rw[key g hg'];exact hg')
   obtain⟨h1,h2,cs,T',fz,h3,h4⟩:=this
   exact⟨h1,h2,cs,T',fz,h3,h4.trans (congrArg List.length (key g hg'))⟩
 refine (h κ vals hS1 hf hsz hv).mono ?_
 rintro e w' ⟨u,v',κ',sto',next',h1,h2,he,hL,hv',hS',hf',hQ⟩
 exact⟨u,v',κ',sto',next',h1,h2,he,⟨hL.os,hL.tape,hL.output,hL.size,hL.block,hL.imm⟩,hv',⟨hS'.blk,hS'.apart,hS'.mine,hS'.immLt,SRel.glob_ext (κ:=κ.cut k) he hS.glob hL.block⟩,hf',hQ⟩
theorem NL (a e b z:Int):bf Tryz.prog au 1 54 [.ptr 0 0,.pv (.int .i64 b),.pv (.int .i64 z)] [.cells 94 true [.pv (.int .i64 a),.pv (.int .i64 e)]] (.pv (.tup [])) [.cells 94 true [.pv (.int .i64 (if e=0 then (if z=0 then a else b) else a)),.pv (.int .i64 (if e=0 then z else e))]]:=by
 refine bf.intro Q54.2 (by simp[Q54]) ?_
 by_cases h1:e=0
 ·subst h1
  rw[if_pos rfl,if_pos rfl]
  by_cases h2:z=0
  ·subst h2
   rw[if_pos rfl]
   simp(maxSteps:=9^7) (disch:=try exact dI) only[Q54,push_cast,seval]
   exact aG [] qsZ
  ·rw[if_neg h2]
   simp(maxSteps:=9^7) (disch:=try exact dI) only[Q54,h2,push_cast,seval]
   exact aG [] qsZ
 ·rw[if_neg h1,if_neg h1]
  simp(maxSteps:=9^7) (disch:=try exact dI) only[Q54,h1,push_cast,seval]
  exact aG [] qsZ
theorem Mw (v:Val):∃ (a b c:Int) (d:List UInt8) (p q:PV),v.pv = .agg [.int .i64 a,.int .i64 b,.int .i64 c,.str d,p,q]/\p.one=true/\q.one=true:=by
 obtain⟨k,n,s,t,l,f⟩:=v
 exact⟨k,n,s,t,.list (l.map Val.pv),.list (f.map Fld.pv),by rw[Val.pv_mk],rfl,rfl⟩
theorem jK (k n s:Int)(t:List UInt8):∃ (a b c:Int) (d:List UInt8) (p q:PV),jd k n s t = .agg [.int .i64 a,.int .i64 b,.int .i64 c,.str d,p,q]/\p.one=true/\q.one=true:=⟨k,n,s,t,.nils,.nils,rfl,rfl,rfl⟩
theorem rN (g:TFd)(s:List UInt8):∃ (a b c:Int) (d:List UInt8) (p q:PV),Lh g s = .agg [.int .i64 a,.int .i64 b,.int .i64 c,.str d,p,q]/\p.one=true/\q.one=true:=by
 unfold Lh
 split
 ·unfold xN
  split
  ·exact jK _ _ _ _
  ·split
   ·exact jK 0 0 0 []
   ·split
    ·unfold K4
     split
     ·exact jK 0 0 0 []
     ·exact Mw _
    ·exact jK 0 0 0 []
 ·obtain⟨a,b,c,d,h⟩:=Hi g.typ.kind (rdR g.typ (bu g.typ.kind s))
  rw[h];exact jK _ _ _ _
def fC (x:TFd×List UInt8):PV:=.agg (.str x.1.name::(Lh x.1 x.2).cells)
theorem NN (x:TFd×List UInt8):∃ cs,fC x = .agg cs/\cs.length=7/\∀ q∈cs,q.one=true:=by
 obtain⟨a,b,c,d,p,q,h,hp,hq⟩:=rN x.1 x.2
 refine⟨_,rfl,by rw[h];rfl,fun y hy=>?_⟩
 rw[h] at hy
 simp only[PV.cells,List.mem_cons,List.not_mem_nil,or_false] at hy
 rcases hy with rfl | rfl | rfl | rfl | rfl | rfl | rfl<;>first | rfl | assumption
def eZ (L:List (TFd×List UInt8)):List PV:=L.flatMap fun x=>(fC x).cells
theorem uQ (L:List (TFd×List UInt8)):bp (L.map fC)=(eZ L).map AV.pv:=by
 induction L with
 | nil=>rfl
 | cons x r ih=>
   have:bp ((x::r).map fC)=(fC x).cells.map AV.pv++bp (r.map fC):=by simp[bp]
   rw[this,ih];simp[eZ]
theorem zc (L:List (TFd×List UInt8)):(eZ L).length=L.length*7:=by
 induction L with
 | nil=>rfl
 | cons x r ih=>
   have hx:(fC x).cells.length=7:=by obtain⟨cs,h,h2,_⟩:=NN x;rw[h];exact h2
   rw[show eZ (x::r)=(fC x).cells++eZ r by simp[eZ],List.length_append,hx,ih,List.length_cons];omega
theorem uP (L:List (TFd×List UInt8))(x:TFd×List UInt8):eZ (L++[x])=eZ L++(fC x).cells:=by simp[eZ]
def kQ (v:List Nat):List (TFd×List UInt8)->Nat->Int×Int
 | [],_=>(0,0)
 | x::r,i=>if lm x.1 x.2=0 then kQ v r (i+1) else ((cg v i:Int),lm x.1 x.2)
theorem KV {v:List Nat}{Z:List (TFd×List UInt8)}{n:Nat}{x:TFd×List UInt8}(h:Z[n]? = some x):kQ v (Z.drop n) n=if lm x.1 x.2=0 then kQ v (Z.drop (n+1)) (n+1) else ((cg v n:Int),lm x.1 x.2):=by
 rw[cu h,kQ]
def cD (f:List TFd)(line:List UInt8)(v:List Nat):List (TFd×List UInt8):=f.zip ((List.range v.length).map (bd line v))
theorem r4 {f:List TFd}{line:List UInt8}{v:List Nat}(h:f.length=v.length):(cD f line v).length=v.length:=by
 unfold cD;rw[List.length_zip,List.length_map,List.length_range];omega
theorem pP {f:List TFd}{line:List UInt8}{v:List Nat}{n:Nat}{g:TFd}(hg:f[n]? = some g)(hn:n<v.length):(cD f line v)[n]? = some (g,bd line v n):=by
 unfold cD
 rw[List.getElem?_zip_eq_some]
 exact⟨hg,by rw[List.getElem?_map,List.getElem?_range hn];rfl⟩
def zx (L:List PV):PV:=.agg [.int .i64 9,.int .i64 0,.int .i64 0,.str [],.list [],.list L]
theorem wN {T:Nat}{p:PV}(k m M sc:Int)(wd:List (List UInt8))(el:List Typ)(f:List TFd)(v:List Nat)(line:List UInt8)(L:List PV)(h12:ag Tryz.prog au 12 [(Typ.mk k m M sc wd el f).pv,.list (cS v)] (.int .i64 0))(h50:ag Tryz.prog au 50 [.list (cS v)] (.tup [.int .i64 ((v.sum:Nat):Int),.int .i64 0]))
  (hls:line.length=v.sum) (hll:line.length<=1000000) (hfl:f.length=v.length) (hf64:f.length<=64) (hv:∀ x∈v,1<=x/\x<=4096) (hc:∀ g∈f,CellOk g)
  (hrec:kQ v (cD f line v) 0=(0,0)->ag Tryz.prog au 55 [.list ((cD f line v).map fC)] (zx L)) :
  ag Tryz.prog (dN T p) 17 [(Typ.mk k m M sc wd el f).pv,.list (cS v),.str line] (.tup [if (kQ v (cD f line v) 0).2=0 then zx L else eP,.int .i64 (kQ v (cD f line v) 0).1,.int .i64 (kQ v (cD f line v) 0).2]):=by
 replace h12:=toE (T:=T) (p:=p) h12
 replace h50:=toE (T:=T) (p:=p) h50
 have h51:=toE (T:=T) (p:=p) (BP line ((v.sum:Nat):Int))
 rw[show iC line.length ((v.sum:Nat):Int)=0 by unfold iC;rw[if_neg (by omega),if_neg (by omega)]] at h51
 have h52:=toE (T:=T) (p:=p) (CS line (cS v))
 have hseq:=R8 (T:=T) (p:=p) (pw line v (by omega) hll (by omega))
 have hZl:=r4 (line:=line) hfl
 have hZ:=fun (n:Nat) (g:TFd) (hg:f[n]? = some g) (hn:n<v.length)=>pP (line:=line) hg hn
 have hX:∀ (j:Nat) (y:List PV),(du line v)[j]? = some y->j<v.length/\y=[.int .i64 (cg v j:Int),.str (bd line v j)]:=fun j y h=>by
  unfold du at h
  rw[List.getElem?_map,Option.map_eq_some_iff] at h
  obtain⟨i,hi,rfl⟩:=h
  have hj:j<v.length:=by have:=(List.getElem?_eq_some_iff.1 hi).1;simpa using this
  rw[List.getElem?_range hj] at hi
  cases hi
  exact⟨hj,rfl⟩
 have hXl:(du line v).length=v.length:=by unfold du;rw[List.length_map,List.length_range]
 have hcl:∀ j,(bd line v j).length<=1000000:=fun j=>by unfold bd;rw[List.length_drop,List.length_take];omega
 generalize cD f line v=Z at *
 generalize du line v=X at *
 obtain⟨R,hR⟩:∃ R,R=kQ v Z 0:=⟨_,rfl⟩
 rw[<- hR] at hrec ⊢
 simp only[Typ.pv_mk] at h12 ⊢
 refine ag.intro Q17.2 (by simp[Q17]) ?_
 simp(maxSteps:=9^7) (disch:=try exact dI) only[Q17,push_cast,seval]
 refine ab.pure h12 rfl ?_
 simp(maxSteps:=9^7) (disch:=try exact dI) only[push_cast,seval]
 refine ab.pure h50 rfl ?_
 simp(maxSteps:=9^7) (disch:=try exact dI) only[push_cast,seval]
 refine ab.pure h51 rfl ?_
 simp(maxSteps:=9^7) (disch:=try exact dI) only[push_cast,seval]
 refine ab.pure h52 rfl ?_
 simp(maxSteps:=9^7) (disch:=try exact dI) only[push_cast,seval]
 refine sd ([(14,1,1000060,7)]) (fun i:Nat×Int×Int=>[]) (fun i=>[(2,.cells 34 true [.row 5 7 0 i.1]),(3,.cells 3 true [.pv (.int .i64 (i.1:Int))]),(4,.cells 94 true [.pv (.int .i64 i.2.1),.pv (.int .i64 i.2.2)]),(5,.cells 60 false ((eZ (Z.take i.1)).map .pv))]) (fun j i=>j=i.1/\i.1<=v.length/\R=(if i.2.2=0 then kQ v (Z.drop i.1) i.1 else i.2)/\(i.2.2=0->i.2.1=0)) ((0,0,0)) (hseq) ?_;intro e0 σ0 n0 h0;simp(maxSteps:=9^7) (disch:=try exact dI) only[push_cast,seval] at h0;obtain⟨rfl,rfl,rfl⟩:=h0;refine⟨?_,?_,?_,?_,?_⟩
 ·simp(maxSteps:=9^7) (disch:=try exact dI) only[eZ,List.flatMap_nil,List.take_zero,List.map_nil,push_cast,seval]
 ·exact⟨rfl,by omega,by rw[if_pos rfl];simpa using hR,fun _=>rfl⟩
 ·rfl
 ·rintro j ⟨i,a,e⟩ y hy ⟨hij,hi,hRi,ha⟩
  simp only at hij hi hRi ha
  subst hij
  obtain⟨hj,rfl⟩:=hX j y hy
  refine⟨rfl,?_⟩
  have hjI:(j:Int)<(f.length:Int):=by omega
  obtain⟨g,hg⟩:∃ g,f[j]? = some g:=⟨_,List.getElem?_eq_getElem (by omega)⟩
  have hcell:=Om (T:=T) (p:=p) g (hc g (List.mem_of_getElem? hg)) (bd line v j) (hcl j)
  have hfail:=Qn (T:=T) (p:=p) (NL a e (cg v j:Int) (lm g (bd line v j)))
  have hZj:=hZ j g hg hj
  obtain⟨ca,cb,cc,cd,cp,cq,hcP,hp1,hq1⟩:=rN g (bd line v j)
  have hfC:fC (g,bd line v j) = .agg [.str g.name,.int .i64 ca,.int .i64 cb,.int .i64 cc,.str cd,cp,cq]:=by unfold fC;rw[hcP];rfl
  have hsn:eZ (Z.take (j+1))=eZ (Z.take j)++[.str g.name,.int .i64 ca,.int .i64 cb,.int .i64 cc,.str cd,cp,cq]:=by rw[aM hZj,uP,hfC];rfl
  rw[hcP] at hcell
  have hfe:=KV (v:=v) hZj
  simp only at hfe
  generalize lm g (bd line v j)=E at *
  generalize hA:(if e=0 then (if E=0 then a else (cg v j:Int)) else a)=a2 at hfail
  generalize hE:(if e=0 then E else e)=e2 at hfail
  have hnew:R=(if e2=0 then kQ v (Z.drop (j+1)) (j+1) else (a2,e2))/\(e2=0->a2=0):=by
   by_cases he:e=0
   ·rw[if_pos he] at hRi hA hE
    subst hE
    rw[hfe] at hRi
    by_cases hz:E=0
    ·rw[if_pos hz] at hRi hA
     subst hA
     rw[if_pos hz]
     exact⟨hRi,fun _=>ha he⟩
    ·rw[if_neg hz] at hRi hA
     subst hA
     rw[if_neg hz]
     exact⟨hRi,fun h=>absurd h hz⟩
   ·rw[if_neg he] at hRi hA hE
    subst hA hE
    rw[if_neg he]
    exact⟨hRi,fun h=>absurd h he⟩
  clear hA hE hfe
  obtain⟨n',nm',nd',⟨k',m',M',s',w',e',f'⟩,d'⟩:=g
  simp only[TFd.pv_mk,Typ.pv_mk] at hcell
  simp(maxSteps:=9^7) (disch:=try exact dI) only[hjI,hg,Option.map_some,TFd.pv_mk,Typ.pv_mk,am,push_cast,seval]
  refine ab.pure hcell rfl ?_
  simp(maxSteps:=9^7) (disch:=try exact dI) only[hp1,hq1,push_cast,seval]
  refine ab.lentK hfail [4] rfl qsZ qsZ ?_
  have hKl:(eZ (Z.take j)).length=j*7:=by rw[zc,List.length_take];omega
  have happ:∀ new,xx 60 7 104 new 5 7 0 j [.agg [.str [],.int .i64 0,.int .i64 0,.int .i64 0,.str [],.nils,.nils]] (.cells 60 false ((eZ (Z.take j)).map .pv))=some (.row new 7 0 (j+1),[(5,.none),(new,.cells 60 false ((eZ (Z.take j)).map .pv++[AV.pv (.str []),.pv (.int .i64 0),.pv (.int .i64 0),.pv (.int .i64 0),.pv (.str []),.pv .nils,.pv .nils]))]):=fun new=>by
   rw[nG (by rw[List.length_map,hKl];exact Nat.le_refl _) (by simp;omega) (by simp;omega),List.take_of_length_le (by rw[List.length_map,hKl];exact Nat.le_refl _)]
   rfl
  generalize eZ (Z.take j)=K at *
  have hst:∀ (new:Nat) (zs cs:List AV),zs.length=7->oa new 60 false (K.map .pv++zs) 7 (j*7) cs true=some [(new,.cells 60 false (K.map .pv++cs))]:=fun new zs cs hz=>by
   unfold oa
   rw[List.take_left' (by rw[List.length_map,hKl]),List.drop_of_length_le (by rw[List.length_append,List.length_map,hKl,hz];exact Nat.le_refl _),List.append_nil]
  have hst2:∀ (new:Nat) (s:List UInt8) (c1 c2 c3:Int) (c4:List UInt8) (c5 c6:PV),oa new 60 false (K.map .pv++[AV.pv (.str []),.pv (.int .i64 0),.pv (.int .i64 0),.pv (.int .i64 0),.pv (.str []),.pv .nils,.pv .nils]) 7 (j*7) [.pv (.str s),.pv (.int .i64 c1),.pv (.int .i64 c2),.pv (.int .i64 c3),.pv (.str c4),.pv c5,.pv c6] true=some [(new,.cells 60 false ((K++[.str s,.int .i64 c1,.int .i64 c2,.int .i64 c3,.str c4,c5,c6]).map .pv))]:=fun new s c1 c2 c3 c4 c5 c6=>by
   rw[hst new _ _ rfl,List.map_append];rfl
  simp(maxSteps:=9^7) (disch:=try exact dI) only[happ,hjI,hg,Option.map_some,TFd.pv_mk,Typ.pv_mk,am,hp1,hq1,hst2,push_cast,seval]
  simp only[TFd.name] at hsn
  exact⟨(j+1,a2,e2),aZ (by simp(maxSteps:=9^7) (disch:=try exact dI) only[hsn,push_cast,seval]),rfl,by simp only;omega,hnew.1,hnew.2⟩
 ·rintro⟨i,a,e⟩ ⟨hj,hi,hRi,ha⟩
  simp only at hj hi hRi ha
  have hin:i=Z.length:=by omega
  rw[hin,List.drop_length,kQ] at hRi
  have hfz:=fun (n r:Nat) (hn:n=Z.length)=>tD (sz:=7) (f:=fC) NN (by omega) Z (n:=n) (r:=r) (T:=60) (b:=false) hn
  simp only[uQ] at hfz
  rw[hin,List.take_length]
  by_cases he:e=0
  ·rw[if_pos he] at hRi
   have h55:=hrec hRi
   replace h55:=toE (T:=T) (p:=p) h55
   subst hRi
   rw[if_pos rfl]
   simp only[zx] at h55 ⊢
   simp(maxSteps:=9^7) (disch:=try exact dI) only[he,push_cast,seval]
   simp(maxSteps:=9^7) (disch:=try exact dI) only[hfz,push_cast,seval]
   refine ab.pure h55 rfl ?_
   simp(maxSteps:=9^7) (disch:=try exact dI) only[push_cast,seval]
  ·rw[if_neg he] at hRi
   subst hRi
   rw[if_neg he]
   simp(maxSteps:=9^7) (disch:=try exact dI) only[he,eP,push_cast,seval]
theorem cR (v:List Nat):(cS v).length=v.length:=by simp[cS]
theorem tg {v:List Nat}{i n:Nat}(h:v[i]? = some n):(cS v)[i]? = some (.int .i64 (n:Int)):=by simp[cS,h]
theorem oA (v:List Nat):cg v 0=0:=rfl
theorem sM (v:List Nat):cg v v.length=v.sum:=by unfold cg;rw[List.take_length]
theorem EE (line:List UInt8)(v:List Nat)(hn:line.length<=1000000)(hv:∀ x∈v,1<=x/\x<=4096)(hl:v.length<=64):ag Tryz.prog au 21 [.str line,.list (cS v)] (.tup [if line.length=v.sum then .list (Dz line v v.length) else .nils,.int .i64 (iC line.length (v.sum:Nat))]):=by
 have h64I:¬ (64:Int)<(v.length:Int):=by omega
 have hps:∀ i,cg v i<=4096*i:=by
  intro i
  induction i with
  | zero=>simp[cg]
  | succ i ih=>
    by_cases hlt:i<v.length
    ·obtain⟨n,hn⟩:∃ n,v[i]? = some n:=⟨_,List.getElem?_eq_getElem hlt⟩
     have:=hv n (List.mem_of_getElem? hn)
     rw[dQ hn];omega
    ·have:cg v (i+1)=cg v i:=by unfold cg;rw[List.take_of_length_le (by omega),List.take_of_length_le (by omega)]
     omega
 unfold iC
 refine ag.intro Q21.2 (by simp[Q21]) ?_
 simp(maxSteps:=9^7) (disch:=try exact dI) only[Q21,cR,h64I,push_cast,seval]
 refine az ([]) (fun i:Nat=>[(6,.pv (.int .i64 (cg v i:Int))),(7,.pv (.int .i64 (i:Int)))]) (fun _=>[]) (fun i=>i<=v.length) (fun i=>v.length - i) (0) ?_;intro e0 σ0 n0 h0;simp(maxSteps:=9^7) (disch:=try exact dI) only[push_cast,seval] at h0;obtain⟨rfl,rfl,rfl⟩:=h0;refine⟨?_,?_,?_⟩
 ·simp(maxSteps:=9^7) (disch:=try exact dI) only[oA,push_cast,seval]
 ·omega
 rintro i hi
 have hpi:=hps i
 by_cases hlt:i<v.length
 ·have hltI:(i:Int)<(v.length:Int):=by omega
  obtain⟨n,hn⟩:∃ n,v[i]? = some n:=⟨_,List.getElem?_eq_getElem hlt⟩
  have hx':=tg hn
  have hb:=hv n (List.mem_of_getElem? hn)
  have b1:¬ (n:Int)<1:=by omega
  have b2:¬ (4096:Int)<(n:Int):=by omega
  have hst:=dQ hn
  have hstI:((cg v (i+1):Nat):Int)=(cg v i:Int)+(n:Int):=by omega
  simp(maxSteps:=9^7) (disch:=try exact dI) only[cR,hx',b1,b2,push_cast,seval]
  exact⟨i+1,aZ (by simp(maxSteps:=9^7) (disch:=try exact dI) only[hstI,push_cast,seval]),by omega,by omega⟩
 ·obtain rfl:i=v.length:=by omega
  rw[sM] at hpi ⊢
  by_cases c1:(line.length:Int)<(v.sum:Nat)
  ·rw[if_pos c1,if_neg (by omega)]
   simp(maxSteps:=9^7) (disch:=try exact dI) only[cR,c1,Int.lt_irrefl,push_cast,seval]
  by_cases c2:((v.sum:Nat):Int)<line.length
  ·rw[if_neg c1,if_pos c2,if_neg (by omega)]
   simp(maxSteps:=9^7) (disch:=try exact dI) only[cR,c1,c2,Int.lt_irrefl,push_cast,seval]
  have hls:line.length=v.sum:=by omega
  rw[if_neg c1,if_neg c2,if_pos hls]
  simp(maxSteps:=9^7) (disch:=try exact dI) only[cR,c1,c2,Int.lt_irrefl,push_cast,seval]
  refine az ([(8,0,9,1)]) (fun i:Nat=>[(8,.olist 0 1 (Dz line v i)),(9,.pv (.int .i64 (cg v i:Int))),(10,.pv (.int .i64 (i:Int)))]) (fun _=>[]) (fun i=>i<=v.length) (fun i=>v.length - i) (0) ?_;intro e0 σ0 n0 h0;simp(maxSteps:=9^7) (disch:=try exact dI) only[push_cast,seval] at h0;obtain⟨rfl,rfl,rfl⟩:=h0;refine⟨?_,?_,?_⟩
  ·simp(maxSteps:=9^7) (disch:=try exact dI) only[oA,Fh,push_cast,seval]
  ·omega
  rintro i hi
  have hpi:=hps i
  by_cases hlt:i<v.length
  ·have hltI:(i:Int)<(v.length:Int):=by omega
   obtain⟨n,hn⟩:∃ n,v[i]? = some n:=⟨_,List.getElem?_eq_getElem hlt⟩
   have hx':=tg hn
   have hst:=dQ hn
   have hle:=qJ v (i+1)
   have hstI:((cg v (i+1):Nat):Int)=(cg v i:Int)+(n:Int):=by omega
   have hsn:=At line v i
   have hol:=Fi line v i
   have et:((cg v i:Int)+(n:Int)).toNat=cg v (i+1):=by omega
   have hcx:(line.take (cg v (i+1))).drop (cg v i)=bd line v i:=rfl
   simp(maxSteps:=9^7) (disch:=try exact dI) only[cR,hx',et,hcx,hol,push_cast,seval]
   exact⟨i+1,aZ (by simp(maxSteps:=9^7) (disch:=try exact dI) only[hstI,hsn,push_cast,seval]),by omega,by omega⟩
  ·obtain rfl:i=v.length:=by omega
   simp(maxSteps:=9^7) (disch:=try exact dI) only[cR,Int.lt_irrefl,push_cast,seval]
theorem p7:∀ s:List UInt8,trL s=[]↔∀ c∈s,c=32
 | []=>by simp[trL]
 | c::r=>by
   rw[trL]
   by_cases h:c=32
   ·rw[if_pos h,p7 r];simp[h]
   ·rw[if_neg h];simp[h]
theorem Db (k:Int)(s:List UInt8):trR s=[]↔bu k s=[]:=by
 have h1:trR s=[]↔∀ c∈s,c=32:=by
  unfold trR
  rw[List.reverse_eq_nil_iff,p7];simp
 unfold bu
 split
 ·rw[h1,p7]
 ·exact Iff.rfl
theorem B4 {k:Int}{b:List TFd}{g:TFd}(h:cB k b g=0)(h3:g.need=3):∃ x r,g.dflt=x::r:=by
 obtain⟨n,nm,nd,t,d⟩:=g
 simp only[TFd.need] at h3
 subst h3
 cases d with
 | cons x r=>exact⟨x,r,rfl⟩
 | nil=>
   rw[kL] at h
   by_cases h1:cJ nm=false
   ·rw[if_pos h1] at h;cases h
   rw[if_neg h1] at h
   by_cases h2:inB n 1 9999=false
   ·rw[if_pos h2] at h;cases h
   rw[if_neg h2] at h
   by_cases h3:b.any (nT n nm)=true
   ·rw[if_pos h3] at h;cases h
   rw[if_neg h3] at h
   unfold MC at h
   rw[if_neg (by decide)] at h
   by_cases h4:k=10/\¬ (3:Int)=1
   ·rw[if_pos h4] at h;cases h
   rw[if_neg h4,if_pos ⟨rfl,rfl⟩] at h;cases h
theorem B3 {k:Int}{b:List TFd}{g:TFd}(h:cB k b g=0):∀ y∈b,y.name≠g.name:=by
 obtain⟨n,nm,nd,t,d⟩:=g
 intro y hy e
 rw[kL] at h
 have ha:b.any (nT n nm)=true:=List.any_eq_true.2 ⟨y,hy,by have e':y.name=nm:=e;simp[nT,e']⟩
 by_cases h1:cJ nm=false
 ·rw[if_pos h1] at h;cases h
 rw[if_neg h1] at h
 by_cases h2:inB n 1 9999=false
 ·rw[if_pos h2] at h;cases h
 rw[if_neg h2,if_pos ha] at h;cases h
theorem iZ {k:Int}:∀ (f b:List TFd),b9 k b f=0->(f.map TFd.name).Nodup/\∀ x∈f,∀ y∈b,y.name≠x.name
 | [],b,_=>⟨List.nodup_nil,fun x hx=>by cases hx⟩
 | g::r,b,h=>by
   rw[b9] at h
   by_cases h0:cB k b g=0
   ·rw[if_pos h0] at h
    obtain⟨i1,i2⟩:=iZ r (b++[g]) h
    refine⟨?_,fun x hx=>?_⟩
    ·rw[List.map_cons,List.nodup_cons]
     refine⟨fun hm=>?_,i1⟩
     obtain⟨y,hy,e⟩:=List.mem_map.1 hm
     exact i2 y hy g (by simp) e.symm
    ·rcases List.mem_cons.1 hx with rfl | hx
     ·exact B3 h0
     ·exact fun y hy=>i2 x hx y (List.mem_append_left _ hy)
   ·rw[if_neg h0] at h;exact absurd h h0
theorem kE {t:Typ}(h:lN t=0):(t.fields.map TFd.name).Nodup:=by
 have ho:=iP (go h)
 obtain⟨k,m,M,s,w,e,f⟩:=t
 exact (iZ f [] (bm ho).2.2.2).1
theorem f5 {t:Typ}(h:lN t=0)(ht:t.ok)(hf:eS t=true):∀ g∈t.fields,CellOk g:=fun g hg=>by
 have hfo:=HW h ht hf g hg
 obtain⟨ht2,_⟩:=rB h ht hf
 have hty:=go h
 obtain⟨h9,_,hs⟩:=cj hf
 have hsg:=hs g hg
 obtain⟨k,m,M,s,w,e,f⟩:=t
 have ho:=iP (hty.2.2 (.inl h9) g hg).1
 rw[Typ.ok_mk] at ht
 have hgd:=(fJ (ht.2.2.2.2.2.2.2.2.2 g hg)).2
 obtain⟨b,hb⟩:=cY f [] (bm (iP hty)).2.2.2 g hg
 simp only[scB,Bool.and_eq_true,decide_eq_true_eq] at hsg
 refine⟨ho,hsg,(ht2.2.2.2 g hg).2,hfo.emp,fun h3=>?_⟩
 obtain⟨x,r,hx⟩:=B4 hb h3
 have hxo:=hgd x (by rw[hx];simp)
 exact⟨x,r,hx,hxo,gQ _ x (Nat.lt_succ_self _) hxo⟩
end Go.Proofs.YtbojpfpliibfbaaGreatDoor

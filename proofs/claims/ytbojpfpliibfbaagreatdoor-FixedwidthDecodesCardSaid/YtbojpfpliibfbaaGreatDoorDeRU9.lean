/- A part of the proof. -/
import Derived.Test.YtbojpfpliibfbaaGreatDoorDeRU5
set_option maxHeartbeats 16000000
set_option maxRecDepth 100000
set_option linter.unusedVariables false
set_option linter.unusedSimpArgs false
namespace Go.Proofs.YtbojpfpliibfbaaGreatDoor
open Go Go.Ab
attribute [local irreducible] vc
noncomputable def bW:Nat->Typ->Int
 | 0,_=>1
 | n+1,.mk k m _ _ _ e f=>min (1+bZ (bW n) k m e f) 5000
def dw:Nat->Typ->Prop
 | 0,_=>False
 | n+1,.mk k m _ _ _ e f=>(k=8->0<m->m<=256/\∃ x r,e=x::r/\dw n x)/\(k=10->∃ g r,f=g::r/\g.need=1/\dw n g.typ)/\(k=9->f.length<=64/\∀ g∈f,j9 (dw n) g)/\(¬ (k=9\/k=10)->f=[])
theorem sX {n:Nat}(hle:∀ t,dw n t->1<=bW n t/\bW n t<=5000){g:TFd}(hg:j9 (dw n) g):0<=go (bW n) g/\go (bW n) g<=1000000000000:=by
 obtain⟨a,b,nd,t,d⟩:=g
 simp only[go,j9] at hg ⊢
 by_cases h1:nd=1
 ·rw[if_pos h1];have:=hle t (hg.1 h1);omega
 ·rw[if_neg h1]
  by_cases h3:nd=3
  ·obtain⟨x,r,rfl,hx⟩:=hg.2 h3
   rw[if_pos h3]
   have:=hx.2
   simp only[LQ];omega
  ·rw[if_neg h3];omega
theorem fw:∀ (n:Nat) (t:Typ),dw n t->1<=bW n t/\bW n t<=5000
 | 0,_,h=>h.elim
 | n+1,.mk k m M s w e f,h=>by
   simp only[bW,dw] at h ⊢
   obtain⟨h8,h10,h9,_⟩:=h
   refine⟨?_,by omega⟩
   have key:0<=bZ (bW n) k m e f:=by
    unfold bZ
    split
    ·split
     ·rename_i e1 e2
      obtain⟨_,x,r,rfl,hx⟩:=h8 e1 e2
      have:=fw n x hx
      exact Int.mul_nonneg (by omega) (by simp only[BL];omega)
     ·omega
    ·split
     ·rename_i e1 e2
      obtain⟨g,r,rfl,_,hx⟩:=h10 e2
      have:=fw n g.typ hx
      obtain⟨a,b,c,t,d⟩:=g
      simp only[BM,TFd.typ] at this ⊢;omega
     ·split
      ·rename_i e1
       exact (jX f fun g hg=>sX (fw n) ((h9 e1).2 g hg)).1
      ·omega
   omega
theorem tM:∀ (n:Nat) (t:Typ),dw n t->ak Tryz.prog ap 127 [t.pv] (.int .i64 (bW n t))
 | 0,_,h=>h.elim
 | n+1,.mk k m M s w e f,h=>by
   have ih:=tM n
   have hle:=fw n
   have hpos:∀ g,j9 (dw n) g->0<=go (bW n) g/\go (bW n) g<=1000000000000:=fun g hg=>sX hle hg
   simp only[dw] at h
   obtain⟨h8,h10,h9,hf⟩:=h
   simp only[bW]
   generalize bW n=L at *
   refine ak.intro LH.2 (by simp[LH]) ?_
   by_cases hk8:k=8
   ·subst hk8
    obtain rfl:=hf (by omega)
    by_cases hm:0<m
    ·obtain⟨hm2,x,r,rfl,hx⟩:=h8 rfl hm
     have hc:=ih x hx
     have hl:=hle x hx
     obtain⟨k',m',M',s',w',e',f'⟩:=x
     simp only[Typ.pv_mk] at hc
     generalize hz:L (Typ.mk k' m' M' s' w' e' f')=z at hc hl
     have hmul:0<=m*z:=Int.mul_nonneg (by omega) (by omega)
     have hmul2:m*z<=256*5000:=Int.mul_le_mul hm2 hl.2 (by omega) (by omega)
     have hmm:bZ L 8 m (Typ.mk k' m' M' s' w' e' f'::r) []=m*z:=by simp only[bZ,BL,hz,if_pos hm,if_true]
     clear hz
     rw[hmm]
     simp(disch:=try exact dI) only[LH,Typ.pv_mk,hm,au,push_cast,seval]
     refine ae hc rfl ?_
     refine zgZ ?_
     refine am ([]) (fun i:Nat=>[(4,.pv (.int .i64 (i:Int)))]) (fun _=>[]) (fun i=>i=0) (fun i=>1 - i) (0) ?_;intro e0 σ0 n0 h0;simp(disch:=try exact dI) only[push_cast,seval] at h0;obtain⟨rfl,rfl,rfl⟩:=h0;refine⟨?_,?_,?_⟩
     ·exact qsZ
     ·rfl
     rintro i rfl
     simp(disch:=try exact dI) only[Int.lt_irrefl,push_cast,seval]
    ·rw[show bZ L 8 m e []=0 by simp only[bZ,if_neg hm,if_true]]
     simp(disch:=try exact dI) only[LH,Typ.pv_mk,hm,push_cast,seval]
     refine am ([]) (fun i:Nat=>[(4,.pv (.int .i64 (i:Int)))]) (fun _=>[]) (fun i=>i=0) (fun i=>1 - i) (0) ?_;intro e0 σ0 n0 h0;simp(disch:=try exact dI) only[push_cast,seval] at h0;obtain⟨rfl,rfl,rfl⟩:=h0;refine⟨?_,?_,?_⟩
     ·exact qsZ
     ·rfl
     rintro i rfl
     simp(disch:=try exact dI) only[Int.lt_irrefl,push_cast,seval]
   by_cases hk10:k=10
   ·subst hk10
    obtain⟨g,r,rfl,hnd,hx⟩:=h10 rfl
    have hc:=ih _ hx
    have hl:=hle _ hx
    obtain⟨n',nm',nd',⟨k',m',M',s',w',e',f'⟩,d'⟩:=g
    simp only[TFd.typ,TFd.need] at hc hl hnd
    subst hnd
    simp only[Typ.pv_mk] at hc
    generalize hz:L (Typ.mk k' m' M' s' w' e' f')=z at hc hl
    have hmm:bZ L 10 m e (TFd.mk n' nm' 1 (Typ.mk k' m' M' s' w' e' f') d'::r)=z:=by simp[bZ,BM,hz]
    clear hz
    rw[hmm]
    have hg:(TFd.mk n' nm' 1 (Typ.mk k' m' M' s' w' e' f') d'::r)[0]? = some (TFd.mk n' nm' 1 (Typ.mk k' m' M' s' w' e' f') d'):=rfl
    generalize hf0:TFd.mk n' nm' 1 (Typ.mk k' m' M' s' w' e' f') d'::r=f at *
    have h0:(0:Int)<(f.length:Int):=by rw[<- hf0,List.length_cons];omega
    clear hf0
    simp(disch:=try exact dI) only[LH,Typ.pv_mk,push_cast,seval]
    refine am ([]) (fun x:Nat×Int=>[(3,.pv (.int .i64 x.2)),(4,.pv (.int .i64 (x.1:Int)))]) (fun _=>[]) (fun x=>x=(0,1)\/x=(1,1+z)) (fun x=>2 - x.1) ((0,1)) ?_;intro e0 σ0 n0 h0;simp(disch:=try exact dI) only[push_cast,seval] at h0;obtain⟨rfl,rfl,rfl⟩:=h0;refine⟨?_,?_,?_⟩
    ·exact qsZ
    ·exact .inl rfl
    rintro x (rfl | rfl)
    ·simp(disch:=try exact dI) only[hg,Option.map_some,TFd.pv_mk,Typ.pv_mk,ag,h0,au,push_cast,seval]
     refine ab.pure hc rfl ?_
     refine zgZ ?_
     exact⟨(1,1+z),aI qsZ,.inr rfl,by simp only;omega⟩
    ·by_cases h1:(1:Int)<(f.length:Int)
     ·simp(disch:=try exact dI) only[h1,push_cast,seval]
     ·simp(disch:=try exact dI) only[h1,push_cast,seval]
   by_cases hk9:k=9
   ·subst hk9
    obtain⟨hf,hr⟩:=h9 rfl
    rw[show bZ L 9 m e f=(f.map (go L)).sum by simp[bZ]]
    have hrp:∀ g∈f,0<=go L g/\go L g<=1000000000000:=fun g hg=>hpos g (hr g hg)
    simp(disch:=try exact dI) only[LH,Typ.pv_mk,push_cast,seval]
    refine am ([]) (fun i:Nat=>[(3,.pv (.int .i64 (1+((f.take i).map (go L)).sum))),(4,.pv (.int .i64 (i:Int)))]) (fun _=>[]) (fun i=>i<=f.length) (fun i=>f.length - i) (0) ?_;intro e0 σ0 n0 h0;simp(disch:=try exact dI) only[push_cast,seval] at h0;obtain⟨rfl,rfl,rfl⟩:=h0;refine⟨?_,?_,?_⟩
    ·simp(disch:=try exact dI) only[List.take_zero,List.map_nil,List.sum_nil,push_cast,seval]
    ·omega
    rintro i hi
    have hsm:=jX (f.take i) fun g hg=>hrp g (List.mem_of_mem_take hg)
    rw[List.length_take] at hsm
    by_cases hlt:i<f.length
    ·have hltI:(i:Int)<(f.length:Int):=by omega
     obtain⟨g,hg⟩:∃ g,f[i]? = some g:=⟨_,List.getElem?_eq_getElem hlt⟩
     have hst:=sL (p:=go L) hg
     have hgr:=hr g (List.mem_of_getElem? hg)
     have hgp:=hrp g (List.mem_of_getElem? hg)
     obtain⟨n',nm',nd',⟨k',m',M',s',w',e',f'⟩,d'⟩:=g
     simp only[j9] at hgr
     generalize hS:((f.take i).map (go L)).sum=S at *
     by_cases h1:nd'=1
     ·subst h1
      have hc:=ih _ (hgr.1 rfl)
      simp only[Typ.pv_mk] at hc
      simp only[go,if_true] at hst hgp
      generalize L (Typ.mk k' m' M' s' w' e' f')=z at hc hst hgp
      simp(disch:=try exact dI) only[hg,Option.map_some,TFd.pv_mk,Typ.pv_mk,ag,push_cast,seval]
      refine ab.pure hc rfl ?_
      refine zgZ ?_
      exact⟨i+1,aI (by simp(disch:=try exact dI) only[hst,Int.add_assoc,push_cast,seval]),by omega,by omega⟩
     ·by_cases h3:nd'=3
      ·subst h3
       obtain⟨x,r,rfl,hx⟩:=hgr.2 rfl
       have hc:=zf (lvl x) x (ep x) hx.1 (by have:=hx.2;rw[rj] at this;omega)
       simp only[go,if_neg h1,if_true,LQ,rj] at hst hgp
       generalize (szN (lvl x) x:Int)=z at hc hst hgp
       obtain⟨vk,vn,vs,vt,vl,vf⟩:=x
       simp only[Val.pv_mk] at hc
       simp(disch:=try exact dI) only[hg,Option.map_some,TFd.pv_mk,Typ.pv_mk,ag,au,Val.pv_mk,push_cast,seval]
       refine ab.pure hc rfl ?_
       refine zgZ ?_
       exact⟨i+1,aI (by simp(disch:=try exact dI) only[hst,Int.add_assoc,push_cast,seval]),by omega,by omega⟩
      ·simp only[go,if_neg h1,if_neg h3] at hst
       simp(disch:=try exact dI) only[hg,Option.map_some,TFd.pv_mk,Typ.pv_mk,ag,h1,h3,push_cast,seval]
       exact⟨i+1,aI (by simp(disch:=try exact dI) only[hst,Int.add_zero,push_cast,seval]),by omega,by omega⟩
    ·have he:i=f.length:=by omega
     subst he
     rw[List.take_length] at hsm ⊢
     simp(disch:=try exact dI) only[Int.lt_irrefl,push_cast,seval]
   ·obtain rfl:=hf (by omega)
    rw[show bZ L k m e []=0 by simp[bZ,hk8,hk9,hk10]]
    simp(disch:=try exact dI) only[LH,Typ.pv_mk,push_cast,seval]
    refine am ([]) (fun i:Nat=>[(4,.pv (.int .i64 (i:Int)))]) (fun _=>[]) (fun i=>i=0) (fun i=>1 - i) (0) ?_;intro e0 σ0 n0 h0;simp(disch:=try exact dI) only[push_cast,seval] at h0;obtain⟨rfl,rfl,rfl⟩:=h0;refine⟨?_,?_,?_⟩
    ·exact qsZ
    ·rfl
    rintro i rfl
    simp(disch:=try exact dI) only[Int.lt_irrefl,push_cast,seval]
noncomputable def cP:Nat->Typ->Int
 | 0,_=>0
 | n+1,.mk k m M s w e f=>f.foldl (fun a g=>max a (cP n g.typ)) (e.foldl (fun a x=>max a (cP n x)) (bW 9 (.mk k m M s w e f)))
def Lo:Nat->Typ->Prop
 | 0,_=>False
 | n+1,.mk k m M s w e f=>dw 9 (.mk k m M s w e f)/\e.length<=9000000000000/\f.length<=9000000000000/\(∀ x∈e,Lo n x)/\∀ g∈f,Lo n g.typ
theorem mr:∀ (n:Nat) (t:Typ),Lo n t->ak Tryz.prog ap 72 [t.pv] (.int .i64 (cP n t))
 | 0,_,h=>h.elim
 | n+1,.mk k m M s w e f,h=>by
   have ih:=mr n
   simp only[Lo] at h
   obtain⟨h1,hel,hfl,he,hf⟩:=h
   have hle:=tM 9 _ h1
   simp only[cP]
   generalize bW 9 (.mk k m M s w e f)=z at *
   simp only[Typ.pv_mk] at hle
   obtain⟨Q,hQ⟩:∃ Q,Q=fun (a:Int) (x:Typ)=>max a (cP n x):=⟨_,rfl⟩
   obtain⟨R,hR⟩:∃ R,R=fun (a:Int) (x:TFd)=>max a (cP n x.typ):=⟨_,rfl⟩
   rw[<- hQ,<- hR]
   refine ak.intro Q72.2 (by simp[Q72]) ?_
   simp(disch:=try exact dI) only[Q72,Typ.pv_mk,push_cast,seval]
   refine ab.pure hle rfl ?_
   refine zgZ ?_
   refine am ([]) (fun i:Nat=>[(3,.pv (.int .i64 ((e.take i).foldl Q z))),(4,.pv (.int .i64 (i:Int)))]) (fun _=>[]) (fun i=>i<=e.length) (fun i=>e.length - i) (0) ?_;intro e0 σ0 n0 h0;simp(disch:=try exact dI) only[push_cast,seval] at h0;obtain⟨rfl,rfl,rfl⟩:=h0;refine⟨?_,?_,?_⟩
   ·simp(disch:=try exact dI) only[List.take_zero,List.foldl_nil,push_cast,seval]
   ·omega
   rintro i hi
   by_cases hlt:i<e.length
   ·have hltI:(i:Int)<(e.length:Int):=by omega
    obtain⟨x,hx⟩:∃ x,e[i]? = some x:=⟨_,List.getElem?_eq_getElem hlt⟩
    have hc:=ih x (he x (List.mem_of_getElem? hx))
    have hst:=dV (p:=Q) hx z
    rw[show Q ((e.take i).foldl Q z) x=max ((e.take i).foldl Q z) (cP n x) by rw[hQ]] at hst
    generalize cP n x=y at hc hst
    obtain⟨k',m',M',s',w',e',f'⟩:=x
    simp only[Typ.pv_mk] at hc
    simp(disch:=try exact dI) only[hx,Option.map_some,Typ.pv_mk,ag,push_cast,seval]
    refine ab.pure hc rfl ?_
    refine zgZ ?_
    exact⟨i+1,aI (by simp(disch:=try exact dI) only[hst,push_cast,seval]),by omega,by omega⟩
   obtain rfl:i=e.length:=by omega
   clear hi hlt
   rw[List.take_length]
   generalize e.foldl Q z=z2
   simp(disch:=try exact dI) only[Int.lt_irrefl,push_cast,seval]
   refine am ([]) (fun i:Nat=>[(3,.pv (.int .i64 ((f.take i).foldl R z2))),(5,.pv (.int .i64 (i:Int)))]) (fun _=>[]) (fun i=>i<=f.length) (fun i=>f.length - i) (0) ?_;intro e0 σ0 n0 h0;simp(disch:=try exact dI) only[push_cast,seval] at h0;obtain⟨rfl,rfl,rfl⟩:=h0;refine⟨?_,?_,?_⟩
   ·simp(disch:=try exact dI) only[List.take_zero,List.foldl_nil,push_cast,seval]
   ·omega
   rintro i hi
   by_cases hlt:i<f.length
   ·have hltI:(i:Int)<(f.length:Int):=by omega
    obtain⟨x,hx⟩:∃ x,f[i]? = some x:=⟨_,List.getElem?_eq_getElem hlt⟩
    have hc:=ih x.typ (hf x (List.mem_of_getElem? hx))
    have hst:=dV (p:=R) hx z2
    rw[show R ((f.take i).foldl R z2) x=max ((f.take i).foldl R z2) (cP n x.typ) by rw[hR]] at hst
    generalize cP n x.typ=y at hc hst
    obtain⟨n',nm',nd',⟨k',m',M',s',w',e',f'⟩,d'⟩:=x
    simp only[TFd.typ,Typ.pv_mk] at hc
    simp(disch:=try exact dI) only[hx,Option.map_some,Typ.pv_mk,TFd.pv_mk,ag,push_cast,seval]
    refine ab.pure hc rfl ?_
    refine zgZ ?_
    exact⟨i+1,aI (by simp(disch:=try exact dI) only[hst,push_cast,seval]),by omega,by omega⟩
   obtain rfl:i=f.length:=by omega
   clear hi hlt
   rw[List.take_length]
   simp(disch:=try exact dI) only[Int.lt_irrefl,push_cast,seval]
theorem ul:∀ (n:Nat) (v:Val),cW n v->cW (n+1) v
 | 0,_,h=>h.elim
 | n+1,v,h=>fun x hx=>ul n x (h x hx)
theorem iF {α β:Type}{p q:α->List β}:∀ (l:List α),(∀ x∈l,p x=q x)->l.flatMap p=l.flatMap q
 | [],_=>rfl
 | x::r,h=>by rw[List.flatMap_cons,List.flatMap_cons,h x (List.mem_cons_self ..),iF r fun y hy=>h y (List.mem_cons_of_mem _ hy)]
theorem An:∀ (n:Nat) (lv:Int) (v:Val),cW n v->cJ (n+1) lv v=cJ n lv v
 | 0,_,_,h=>h.elim
 | n+1,lv,v,h=>by
   rw[cJ,cJ]
   congr 1
   exact iF _ fun x hx=>An n (Go.RowKit.wrap64 (lv+1)) x (h x hx)
def jf (n:Nat)(S:List (Int×Val)):List (Int×Val):=S.reverse.flatMap fun q=>cJ n q.1 q.2
theorem EJ (n:Nat)(S:List (Int×Val))(q:Int×Val):jf n (S++[q])=cJ n q.1 q.2++jf n S:=by
 simp[jf]
def vX (q:Int×Val):List (Int×Val):=(bg q.2).reverse.map fun x=>(Go.RowKit.wrap64 (q.1+1),x)
theorem zz (n:Nat)(S:List (Int×Val))(q:Int×Val)(h:cW (n+1) q.2):jf (n+1) (S++[q])=q::jf (n+1) (S++vX q):=by
 rw[EJ]
 obtain⟨lv,v⟩:=q
 rw[cJ,List.cons_append]
 congr 1
 simp only[jf,vX,List.reverse_append,List.flatMap_append,List.map_reverse,List.reverse_reverse,List.flatMap_map]
 congr 1
 exact iF _ fun x hx=>(An n (Go.RowKit.wrap64 (lv+1)) x (h x hx)).symm
theorem Am {n:Nat}{q x:Int×Val}(h:cW (n+1) q.2)(hx:x∈vX q):cW (n+1) x.2:=by
 obtain⟨y,hy,rfl⟩:=List.mem_map.1 hx
 exact ul n y (h y (List.mem_reverse.1 hy))
theorem Et (c:Nat)(q:Int×Val):aR c q=if 4096<=c then 9 else if 8<q.1 then 23 else JW q.2:=by
 unfold aR JW
 rfl
theorem G1 (n:Nat)(S:List (Int×Val))(q:Int×Val)(c:Nat)(h:cW (n+1) q.2):jn c (jf (n+1) (S++[q]))=if aR c q=0 then jn (c+1) (jf (n+1) (S++vX q)) else aR c q:=by
 rw[zz n S q h,jn]
def kF:Int×Val->PV
 | (lv,.mk k n s t l f)=>.agg [.int .i64 k,.int .i64 n,.int .i64 s,.str t,.list (l.map Val.pv),.list (f.map Fld.pv),.int .i64 lv]
theorem tP (q:Int×Val):(kF q).cells.length=7:=by obtain⟨lv,⟨k,n,s,t,l,f⟩⟩:=q;rfl
theorem F8 (q:Int×Val):kF q = .agg (kF q).cells:=by obtain⟨lv,⟨k,n,s,t,l,f⟩⟩:=q;rfl
def qR (S:List (Int×Val)):List PV:=S.flatMap fun q=>(kF q).cells
theorem ju (S T:List (Int×Val)):qR (S++T)=qR S++qR T:=by simp[qR]
theorem gA (q:Int×Val):qR [q]=(kF q).cells:=by simp[qR]
theorem gB:∀ (S:List (Int×Val)),(qR S).length=S.length*7
 | []=>rfl
 | q::r=>by
   rw[show q::r=[q]++r from rfl,ju,List.length_append,gB r,gA,tP]
   simp;omega
theorem pvs_map:∀ (l:List PV),pvs (l.map AV.pv)=some l
 | []=>rfl
 | x::r=>by rw[List.map_cons,nh];rw[pvs_map r];rfl
theorem At (S:List (Int×Val))(q:Int×Val)(J:List PV):JR 7 (S.length*7) ((qR (S++[q])++J).map AV.pv)=some (.pv (kF q)):=by
 rw[<- Au]
 unfold dF
 simp only
 rw[if_pos (by rw[List.length_map,List.length_append,gB,List.length_append];simp;omega)]
 rw[<- List.map_drop,<- List.map_take,ju,List.append_assoc,List.drop_left' (gB S),List.take_left' (by rw[gA,tP]),gA,Bb,pvs_map,kz,<- F8]
theorem Hg {new r len:Nat}{f:Bool}{S:List (Int×Val)}{J:List PV}{y:PV}(h:S.length=len)(hl:len<=2000000):sl 234 7 96 new r 7 0 len [y] (.cells 234 f ((qR S++J).map AV.pv))=some (.row new 7 0 (len+1),[(r,.none),(new,.cells 234 false ((qR S++y.cells).map AV.pv))]):=by
 subst h
 rw[jH (by rw[List.length_map,List.length_append,gB];omega) (by simp;omega) (by simp;omega),<- List.map_take,List.take_left' (gB S),List.map_append]
 simp[bv]
theorem wc {v:Val}(h:JW v=0):(bg v).length<=256:=by
 unfold JW at h
 split at h
 ·cases h
 split at h
 ·cases h
 split at h
 ·cases h
 obtain⟨k,n,s,t,l,f⟩:=v
 by_cases h8:k=8
 ·subst h8
  rw[bT (v:=.mk 8 n s t l f) (.inl rfl)]
  rw[show bd (.mk 8 n s t l f)=cU l.length 256 9 from rfl] at h
  simp only[Val.lst]
  unfold cU at h
  split at h
  ·cases h
  ·omega
 by_cases h10:k=10
 ·subst h10
  rw[bT (v:=.mk 10 n s t l f) (.inr rfl)]
  rw[show bd (.mk 10 n s t l f)=(if bz t=false then 12 else if l.length=0 then 4 else cU l.length 1 3) from rfl] at h
  simp only[Val.lst]
  split at h
  ·cases h
  split at h
  ·cases h
  unfold cU at h
  split at h
  ·cases h
  ·omega
 by_cases h9:k=9
 ·subst h9
  rw[db (v:=.mk 9 n s t l f) rfl]
  rw[show bd (.mk 9 n s t l f)=(if cU f.length 64 9=0 then eF none (f.map Fld.name) else cU f.length 64 9) from rfl] at h
  simp only[Val.fields,List.length_map]
  split at h
  ·rename_i hm
   unfold cU at hm
   split at hm
   ·cases hm
   ·omega
  ·rename_i hm;exact absurd h hm
 ·rw[dP (v:=.mk k n s t l f) (by simp only[Val.kind];omega) h9];simp
theorem C4 (N:Nat)(v:Val)(hd:cW (N+1) v)(hv:v.ok):ak Tryz.prog ap 188 [v.pv] (.int .i64 (jn 0 (cJ (N+1) 1 v))):=by
 obtain⟨R,hR⟩:∃ R,R=jn 0 (cJ (N+1) 1 v):=⟨_,rfl⟩
 rw[<- hR]
 have hS:jf (N+1) [(1,v)]=cJ (N+1) 1 v:=by simp[jf]
 obtain⟨k,n,s,t,l,f⟩:=v
 refine ak.intro R0.2 (by simp[R0]) ?_
 simp(disch:=try exact dI) only[R0,Val.pv_mk,push_cast,seval]
 refine am ([]) (fun x:List (Int×Val)×Nat×List PV=>[(3,.row 0 7 0 x.1.length),(4,.pv (.int .i64 (x.2.1:Int)))]) (fun x=>[(0,.cells 234 false ((qR x.1++x.2.2).map AV.pv))]) (fun x=>x.2.1<=4096/\x.1.length<=1+256*x.2.1/\R=jn x.2.1 (jf (N+1) x.1)/\∀ q∈x.1,cW (N+1) q.2/\q.2.ok/\0<=q.1) (fun x=>4097 - x.2.1) (([(1,.mk k n s t l f)],0,[])) ?_;intro e0 σ0 n0 h0;simp(disch:=try exact dI) only[push_cast,seval] at h0;obtain⟨rfl,rfl,rfl⟩:=h0;refine⟨?_,?_,?_⟩
 ·simp(disch:=try exact dI) only[gA,kF,push_cast,seval]
 ·exact⟨by simp,by simp,by rw[hS];exact hR,fun q hq=>by rw[List.mem_singleton.1 hq];exact⟨hd,hv,by simp⟩⟩
 rintro⟨S,c,J⟩ ⟨hc,hsl,hr,hq⟩
 simp only at hc hsl hr hq
 rcases List.eq_nil_or_concat S with rfl | ⟨S',q,rfl⟩
 ·simp only[jf,List.reverse_nil,List.flatMap_nil,jn] at hr
  subst hr
  simp(disch:=try exact dI) only[Int.lt_irrefl,push_cast,seval]
  done
 rw[List.concat_eq_append] at *
 rw[G1 N S' q c (hq q (by simp)).1,Et] at hr
 have hlen:(((S'++[q]).length:Nat):Int)=(S'.length:Int)+1:=by simp
 have hsl':S'.length<=256*c:=by simp at hsl;omega
 have hpl:=At S' q J
 obtain⟨lv,⟨qk,qn,qs,qt,ql,qf⟩⟩:=q
 simp only[kF] at hpl
 have hpos:(0:Int)<(S'.length:Int)+1:=by omega
 simp(disch:=try exact dI) only[hlen,hpos,hpl,List.length_append,push_cast,seval]
 have hown:=Np (.mk qk qn qs qt ql qf)
 have hqd:=(hq (lv,.mk qk qn qs qt ql qf) (by simp)).1
 have hqo:=(hq (lv,.mk qk qn qs qt ql qf) (by simp)).2.1
 have hql:0<=lv:=(hq (lv,.mk qk qn qs qt ql qf) (by simp)).2.2
 by_cases h1:4096<=c
 ·have h1I:(4096:Int)<=(c:Int):=by omega
  rw[if_pos h1,if_neg (by decide)] at hr
  subst hr
  simp(disch:=try exact dI) only[h1I,decide_eq_true h1I,push_cast,seval]
 have h1I:¬ (4096:Int)<=(c:Int):=by omega
 rw[if_neg h1] at hr
 by_cases h2:8<lv
 ·rw[if_pos h2,if_neg (by decide)] at hr
  subst hr
  simp(disch:=try exact dI) only[decide_eq_false h1I,decide_eq_true h2,push_cast,seval]
 rw[if_neg h2] at hr
 have hp4:=wc (v:=.mk qk qn qs qt ql qf)
 simp only[] at hr
 generalize JW (.mk qk qn qs qt ql qf)=z at hown hr hp4
 simp only[Val.pv_mk] at hown
 by_cases hz:z=0
 ·subst hz
  rw[if_pos rfl] at hr
  have hpl':=hp4 rfl
  have hpt:=tl (.mk qk qn qs qt ql qf) (by rw[Val.ok_mk] at hqo;exact hqo.2.2.2.2.1) (by rw[Val.ok_mk] at hqo;exact hqo.2.2.2.2.2.2.1)
  simp only[Val.pv_mk] at hpt
  simp(disch:=try exact dI) only[decide_eq_false h1I,decide_eq_false h2,push_cast,seval]
  refine ab.pure hown rfl ?_
  refine zgZ ?_
  refine ab.pure hpt rfl ?_
  refine zgZ ?_
  have hw:Go.RowKit.wrap64 (lv+1)=lv+1:=by unfold Go.RowKit.wrap64;omega
  obtain⟨P,hP⟩:∃ P,P=vX (lv,.mk qk qn qs qt ql qf):=⟨_,rfl⟩
  have hPd:=fun x (hx:x∈P)=>Am (q:=(lv,.mk qk qn qs qt ql qf)) hqd (by rw[<- hP];exact hx)
  have hPe:P=(bg (.mk qk qn qs qt ql qf)).reverse.map fun x=>(lv+1,x):=by rw[hP];simp only[vX,hw]
  have hpo:=fun x (hx:x∈bg (.mk qk qn qs qt ql qf))=>oN hqo hx
  rw[<- hP] at hr
  clear hP hqd hpt hw
  generalize bg (.mk qk qn qs qt ql qf)=ps at *
  refine am ([]) (fun x:Nat×List PV=>[(3,.row 0 7 0 (S'.length+x.1)),(8,.pv (.int .i64 ((ps.length:Int) - 1 - x.1)))]) (fun x=>[(0,.cells 234 false ((qR (S'++P.take x.1)++x.2).map AV.pv))]) (fun x=>x.1<=ps.length) (fun x=>ps.length - x.1) ((0,qR [(lv,.mk qk qn qs qt ql qf)]++J)) ?_;intro e0 σ0 n0 h0;simp(disch:=try exact dI) only[push_cast,seval] at h0;obtain⟨rfl,rfl,rfl⟩:=h0;refine⟨?_,?_,?_⟩
  ·simp(disch:=try exact dI) only[ju,List.take_zero,List.append_nil,List.append_assoc,Int.sub_zero,push_cast,seval]
  ·exact Nat.zero_le _
  rintro⟨m,J2⟩ hm
  simp only at hm
  by_cases hml:m<ps.length
  ·obtain⟨j,hj⟩:∃ j,j=ps.length - 1 - m:=⟨_,rfl⟩
   have hjI:(ps.length:Int) - 1 - (m:Int)=(j:Int):=by omega
   obtain⟨x,hx⟩:∃ x,ps[j]? = some x:=⟨_,List.getElem?_eq_getElem (by omega)⟩
   have hPm:P[m]? = some (lv+1,x):=by rw[hPe,List.getElem?_map,List.getElem?_reverse hml,<- hj,hx];rfl
   have hts:=aB hPm
   have hPl:P.length=ps.length:=by rw[hPe];simp
   have hSl:(S'++P.take m).length=S'.length+m:=by rw[List.length_append,List.length_take];omega
   have heq:qR (S'++P.take (m+1))++[]=qR (S'++P.take m)++(kF (lv+1,x)).cells:=by
    rw[hts,<- List.append_assoc,ju (S'++P.take m),gA,List.append_nil]
   have happ:=fun new=>Hg (new:=new) (r:=0) (f:=false) (J:=J2) (y:=kF (lv+1,x)) hSl (by omega)
   obtain⟨xk,xn,xs,xt,xl,xf⟩:=x
   simp only[kF,ag] at happ heq
   simp only[hjI]
   have hj0:(0:Int)<=(j:Int):=by omega
   have hlv:lv+1<=9:=by omega
   have hB:(j:Int) - 1=(ps.length:Int) - 1 - ((m:Int)+1):=by omega
   simp(disch:=try exact dI) only[hx,Option.map_some,Val.pv_mk,ag,happ,push_cast,seval]
   exact⟨(m+1,[]),aI (by simp(disch:=try exact dI) only[heq,hB,Nat.add_assoc,push_cast,seval]),by simp only;omega,by simp only;omega⟩
  ·obtain rfl:m=ps.length:=by omega
   have hPl:P.length=ps.length:=by rw[hPe];simp
   have hneg:¬ (0:Int)<=(ps.length:Int) - 1 - (ps.length:Int):=by omega
   rw[List.take_of_length_le (by omega)]
   simp(disch:=try exact dI) only[hneg,push_cast,seval]
   exact⟨(S'++P,c+1,J2),aI (by simp(disch:=try exact dI) only[hPl,List.length_append,push_cast,seval]),⟨by simp only;omega,by simp only[List.length_append];omega,hr,fun q hq'=>by
    rcases List.mem_append.1 hq' with h | h
    ·exact hq q (by simp[h])
    ·have h':=hPd q h
     rw[hPe] at h
     obtain⟨y,hy,rfl⟩:=List.mem_map.1 h
     exact⟨h',hpo y (List.mem_reverse.1 hy),by simp only;omega⟩⟩,by simp only;omega⟩
 ·rw[if_neg hz] at hr
  subst hr
  simp(disch:=try exact dI) only[decide_eq_false h1I,decide_eq_false h2,push_cast,seval]
  refine ab.pure hown rfl ?_
  simp(disch:=try exact dI) only[hz,push_cast,seval]
theorem uB (n:Nat)(v:Val)(hd:cW n v)(hv:v.ok):ak Tryz.prog ap 188 [v.pv] (.int .i64 (jn 0 (cJ n 1 v))):=by
 cases n with
 | zero=>exact hd.elim
 | succ N=>exact C4 N v hd hv
theorem xX (n:Nat)(t:Typ)(v:Val)(hv:v.ok)(hP:CU v=0->py n t v):ak Tryz.prog ap 126 [t.pv,v.pv] (.bool (accB n t v)):=by
 have hc:ak Tryz.prog ap 188 [v.pv] (.int .i64 (CU v)):=uB (lvl v) v (ep v) hv
 simp only[accB]
 generalize CU v=z at hc hP ⊢
 by_cases hz:z=0
 ·have hh:=H9 n t v (hP hz)
  subst hz
  generalize bk n t v=b at hh ⊢
  obtain⟨k,m,M,s,w,e,f⟩:=t
  obtain⟨vk,vn,vs,vt,vl,vf⟩:=v
  simp only[Typ.pv_mk,Val.pv_mk] at hc hh
  refine ak.intro Mr.2 (by simp[Mr]) ?_
  simp(disch:=try exact dI) only[Mr,Typ.pv_mk,Val.pv_mk,push_cast,seval]
  refine ab.pure hc rfl ?_
  refine zgZ ?_
  refine ab.pure hh rfl ?_
  exact qsZ
 ·rw[decide_eq_false hz,Bool.false_and]
  obtain⟨k,m,M,s,w,e,f⟩:=t
  obtain⟨vk,vn,vs,vt,vl,vf⟩:=v
  simp only[Typ.pv_mk,Val.pv_mk] at hc
  refine ak.intro Mr.2 (by simp[Mr]) ?_
  simp(disch:=try exact dI) only[Mr,Typ.pv_mk,Val.pv_mk,push_cast,seval]
  refine ab.pure hc rfl ?_
  simp(disch:=try exact dI) only[hz,push_cast,seval]
theorem IV (s:List UInt8)(hs:s.length<=140737488351232):ak Tryz.prog ap 188 [(dL s).pv] (.int .i64 (lE s)):=by
 have h:=uB 1 (dL s) (by simp[cW,bg,dL,Val.kind]) (by simp[dL,Val.ok_mk,I64,hs])
 rw[uw] at h
 exact h
end Go.Proofs.YtbojpfpliibfbaaGreatDoor

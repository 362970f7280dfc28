/- A part of the proof. -/
import Derived.Test.YtbojpfpliibfbaaGreatDoorMxRS4
import Derived.Test.YtbojpfpliibfbaaGreatDoorMxRE2
set_option maxHeartbeats 16000000
set_option maxRecDepth 100000
set_option linter.unusedVariables false
set_option linter.unusedSimpArgs false
namespace Go.Proofs.YtbojpfpliibfbaaGreatDoor
open Go Go.Ab
attribute [local irreducible] vc
noncomputable def Rw (v:Val):Int:=((eQ (lvl v) 1 v).length:Int)
def N2 (v:Val):Prop:=v.ok/\(eQ (lvl v) 1 v).length<=1000000000000
noncomputable def qQ (least:Typ->Int):TFd->Int
 | .mk _ _ nd t d=>if nd=1 then least t else if nd=3 then (match d with | []=>0 | x::_=>Rw x) else 0
def LY (p:Typ->Int):List Typ->Int
 | []=>0
 | x::_=>p x
def LZ (p:Typ->Int):List TFd->Int
 | []=>0
 | .mk _ _ _ t _::_=>p t
noncomputable def ii (p:Typ->Int)(k m:Int)(e:List Typ)(f:List TFd):Int:=if k=8 then (if 0<m then m*LY p e else 0) else if k=10 then LZ p f else if k=9 then (f.map (qQ p)).sum else 0
noncomputable def cB:Nat->Typ->Int
 | 0,_=>1
 | n+1,.mk k m _ _ _ e f=>min (1+ii (cB n) k m e f) 4097
def AM (p:Typ->Prop):TFd->Prop
 | .mk _ _ nd t d=>(nd=1->p t)/\(nd=3->∃ x r,d=x::r/\N2 x)
def eE:Nat->Typ->Prop
 | 0,_=>False
 | n+1,.mk k m _ _ _ e f=>(k=8->0<m->m<=256/\∃ x r,e=x::r/\eE n x)/\(k=10->∃ g r,f=g::r/\eE n g.typ)/\(k=9->f.length<=64/\∀ g∈f,AM (eE n) g)
theorem tk {n:Nat}(hle:∀ t,eE n t->1<=cB n t/\cB n t<=4097){g:TFd}(hg:AM (eE n) g):0<=qQ (cB n) g/\qQ (cB n) g<=1000000000000:=by
 obtain⟨a,b,nd,t,d⟩:=g
 simp only[qQ,AM] at hg ⊢
 by_cases h1:nd=1
 ·rw[if_pos h1];have:=hle t (hg.1 h1);omega
 ·rw[if_neg h1]
  by_cases h3:nd=3
  ·obtain⟨x,r,rfl,hx⟩:=hg.2 h3
   rw[if_pos h3]
   have:=hx.2
   simp only[Rw];omega
  ·rw[if_neg h3];omega
theorem qL {p:TFd->Int}:∀ (f:List TFd),(∀ g∈f,0<=p g/\p g<=1000000000000)->0<=(f.map p).sum/\(f.map p).sum<=1000000000000*f.length
 | [],_=>by simp
 | g::r,h=>by
   have h1:=h g (List.mem_cons_self ..)
   have h2:=qL r fun x hx=>h x (List.mem_cons_of_mem _ hx)
   simp only[List.map_cons,List.sum_cons,List.length_cons]
   omega
theorem fx:∀ (n:Nat) (t:Typ),eE n t->1<=cB n t/\cB n t<=4097
 | 0,_,h=>h.elim
 | n+1,.mk k m M s w e f,h=>by
   simp only[cB,eE] at h ⊢
   obtain⟨h8,h10,h9⟩:=h
   refine⟨?_,by omega⟩
   have key:0<=ii (cB n) k m e f:=by
    unfold ii
    split
    ·split
     ·rename_i e1 e2
      obtain⟨_,x,r,rfl,hx⟩:=h8 e1 e2
      have:=fx n x hx
      exact Int.mul_nonneg (by omega) (by simp only[LY];omega)
     ·omega
    ·split
     ·rename_i e1 e2
      obtain⟨g,r,rfl,hx⟩:=h10 e2
      have:=fx n g.typ hx
      obtain⟨a,b,c,t,d⟩:=g
      simp only[LZ,TFd.typ] at this ⊢;omega
     ·split
      ·rename_i e1
       exact (qL f fun g hg=>tk (fx n) ((h9 e1).2 g hg)).1
      ·omega
   omega
theorem Fu {p:TFd->Int}{f:List TFd}{i:Nat}{g:TFd}(h:f[i]? = some g):((f.take (i+1)).map p).sum=((f.take i).map p).sum+p g:=by
 rw[aH h,List.map_append,List.sum_append];simp
theorem iV:∀ (n:Nat) (t:Typ),eE n t->ag Tryz.prog aq 181 [t.pv] (.int .i64 (cB n t))
 | 0,_,h=>h.elim
 | n+1,.mk k m M s w e f,h=>by
   have ih:=iV n
   have hle:=fx n
   have hpos:∀ g,AM (eE n) g->0<=qQ (cB n) g/\qQ (cB n) g<=1000000000000:=fun g hg=>tk hle hg
   simp only[eE] at h
   obtain⟨h8,h10,h9⟩:=h
   simp only[cB]
   generalize cB n=L at *
   refine ag.intro M4.2 (by simp[M4]) ?_
   by_cases hk8:k=8
   ·subst hk8
    by_cases hm:0<m
    ·obtain⟨hm2,x,r,rfl,hx⟩:=h8 rfl hm
     have hc:=ih x hx
     have hl:=hle x hx
     obtain⟨k',m',M',s',w',e',f'⟩:=x
     simp only[Typ.pv_mk] at hc
     generalize hz:L (Typ.mk k' m' M' s' w' e' f')=z at hc hl
     have hmul:0<=m*z:=Int.mul_nonneg (by omega) (by omega)
     have hmul2:m*z<=256*4097:=Int.mul_le_mul hm2 hl.2 (by omega) (by omega)
     have hmm:ii L 8 m (Typ.mk k' m' M' s' w' e' f'::r) f=m*z:=by simp only[ii,LY,hz,if_pos hm,if_true]
     clear hz
     rw[hmm]
     simp(disch:=try exact dI) only[M4,Typ.pv_mk,hm,aD,push_cast,seval]
     refine am hc rfl ?_
     exact qsZ
    ·rw[show ii L 8 m e f=0 by simp only[ii,if_neg hm,if_true]]
     simp(disch:=try exact dI) only[M4,Typ.pv_mk,hm,push_cast,seval]
   by_cases hk10:k=10
   ·subst hk10
    obtain⟨g,r,rfl,hx⟩:=h10 rfl
    obtain⟨n',nm',nd',⟨k',m',M',s',w',e',f'⟩,d'⟩:=g
    simp only[TFd.typ] at hx
    have hc:=ih _ hx
    have hl:=hle _ hx
    simp only[Typ.pv_mk] at hc
    generalize hz:L (Typ.mk k' m' M' s' w' e' f')=z at hc hl
    have hmm:ii L 10 m e (TFd.mk n' nm' nd' (Typ.mk k' m' M' s' w' e' f') d'::r)=z:=by simp[ii,LZ,hz]
    clear hz
    rw[hmm]
    simp(disch:=try exact dI) only[M4,Typ.pv_mk,aD,TFd.pv_mk,ae,push_cast,seval]
    refine ab.pure hc rfl ?_
    exact qsZ
   by_cases hk9:k=9
   ·subst hk9
    obtain⟨hf,hr⟩:=h9 rfl
    rw[show ii L 9 m e f=(f.map (qQ L)).sum by simp[ii]]
    have hrp:∀ g∈f,0<=qQ L g/\qQ L g<=1000000000000:=fun g hg=>hpos g (hr g hg)
    simp(disch:=try exact dI) only[M4,Typ.pv_mk,push_cast,seval]
    refine az ([]) (fun i:Nat=>[(3,.pv (.int .i64 (1+((f.take i).map (qQ L)).sum))),(38,.pv (.int .i64 (i:Int)))]) (fun _=>[]) (fun i=>i<=f.length) (fun i=>f.length - i) (0) ?_;intro e0 σ0 n0 h0;simp(disch:=try exact dI) only[push_cast,seval] at h0;obtain⟨rfl,rfl,rfl⟩:=h0;refine⟨?_,?_,?_⟩
    ·simp(disch:=try exact dI) only[List.take_zero,List.map_nil,List.sum_nil,push_cast,seval]
    ·omega
    rintro i hi
    have hsm:=qL (f.take i) fun g hg=>hrp g (List.mem_of_mem_take hg)
    rw[List.length_take] at hsm
    by_cases hlt:i<f.length
    ·have hltI:(i:Int)<(f.length:Int):=by omega
     obtain⟨g,hg⟩:∃ g,f[i]? = some g:=⟨_,List.getElem?_eq_getElem hlt⟩
     have hst:=Fu (p:=qQ L) hg
     have hgr:=hr g (List.mem_of_getElem? hg)
     have hgp:=hrp g (List.mem_of_getElem? hg)
     obtain⟨n',nm',nd',⟨k',m',M',s',w',e',f'⟩,d'⟩:=g
     simp only[AM] at hgr
     generalize hS:((f.take i).map (qQ L)).sum=S at *
     by_cases h1:nd'=1
     ·subst h1
      have hc:=ih _ (hgr.1 rfl)
      simp only[Typ.pv_mk] at hc
      simp only[qQ,if_true] at hst hgp
      generalize L (Typ.mk k' m' M' s' w' e' f')=z at hc hst hgp
      simp(disch:=try exact dI) only[hg,Option.map_some,TFd.pv_mk,Typ.pv_mk,ae,push_cast,seval]
      refine ab.pure hc rfl ?_
      refine zgZ ?_
      exact⟨i+1,aV (by simp(disch:=try exact dI) only[hst,Int.add_assoc,push_cast,seval]),by omega,by omega⟩
     ·by_cases h3:nd'=3
      ·subst h3
       obtain⟨x,r,rfl,hx⟩:=hgr.2 rfl
       have hc:=Ks (lvl x) x (nc x) hx.1 (by have:=hx.2;omega)
       simp only[qQ,if_neg h1,if_true,Rw] at hst hgp
       generalize ((eQ (lvl x) 1 x).length:Int)=z at hc hst hgp
       obtain⟨vk,vn,vs,vt,vl,vf⟩:=x
       simp only[Val.pv_mk] at hc
       simp(disch:=try exact dI) only[hg,Option.map_some,TFd.pv_mk,Typ.pv_mk,ae,aD,Val.pv_mk,push_cast,seval]
       refine ab.pure hc rfl ?_
       refine zgZ ?_
       exact⟨i+1,aV (by simp(disch:=try exact dI) only[hst,Int.add_assoc,push_cast,seval]),by omega,by omega⟩
      ·simp only[qQ,if_neg h1,if_neg h3] at hst
       simp(disch:=try exact dI) only[hg,Option.map_some,TFd.pv_mk,Typ.pv_mk,ae,h1,h3,push_cast,seval]
       exact⟨i+1,aV (by simp(disch:=try exact dI) only[hst,Int.add_zero,push_cast,seval]),by omega,by omega⟩
    ·have he:i=f.length:=by omega
     subst he
     rw[List.take_length] at hsm ⊢
     simp(disch:=try exact dI) only[Int.lt_irrefl,push_cast,seval]
   ·rw[show ii L k m e f=0 by simp[ii,hk8,hk9,hk10]]
    simp(disch:=try exact dI) only[M4,Typ.pv_mk,push_cast,seval]
noncomputable def dT:Nat->Typ->Int
 | 0,_=>0
 | n+1,.mk k m M s w e f=>f.foldl (fun a g=>max a (dT n g.typ)) (e.foldl (fun a x=>max a (dT n x)) (cB 9 (.mk k m M s w e f)))
def Qx:Nat->Typ->Prop
 | 0,_=>False
 | n+1,.mk k m M s w e f=>eE 9 (.mk k m M s w e f)/\e.length<=9000000000000/\f.length<=9000000000000/\(∀ x∈e,Qx n x)/\∀ g∈f,Qx n g.typ
theorem iA {α β:Type}{p:β->α->β}{l:List α}{i:Nat}{x:α}(h:l[i]? = some x)(b:β):(l.take (i+1)).foldl p b=p ((l.take i).foldl p b) x:=by rw[aH h,List.foldl_append];rfl
theorem fM:∀ (n:Nat) (t:Typ),Qx n t->ag Tryz.prog aq 124 [t.pv] (.int .i64 (dT n t))
 | 0,_,h=>h.elim
 | n+1,.mk k m M s w e f,h=>by
   have ih:=fM n
   simp only[Qx] at h
   obtain⟨h1,hel,hfl,he,hf⟩:=h
   have hle:=iV 9 _ h1
   simp only[dT]
   generalize cB 9 (.mk k m M s w e f)=z at *
   simp only[Typ.pv_mk] at hle
   obtain⟨Q,hQ⟩:∃ Q,Q=fun (a:Int) (x:Typ)=>max a (dT n x):=⟨_,rfl⟩
   obtain⟨R,hR⟩:∃ R,R=fun (a:Int) (x:TFd)=>max a (dT n x.typ):=⟨_,rfl⟩
   rw[<- hQ,<- hR]
   refine ag.intro Ty.2 (by simp[Ty]) ?_
   simp(disch:=try exact dI) only[Ty,Typ.pv_mk,push_cast,seval]
   refine ab.pure hle rfl ?_
   refine zgZ ?_
   refine az ([]) (fun i:Nat=>[(3,.pv (.int .i64 ((e.take i).foldl Q z))),(13,.pv (.int .i64 (i:Int)))]) (fun _=>[]) (fun i=>i<=e.length) (fun i=>e.length - i) (0) ?_;intro e0 σ0 n0 h0;simp(disch:=try exact dI) only[push_cast,seval] at h0;obtain⟨rfl,rfl,rfl⟩:=h0;refine⟨?_,?_,?_⟩
   ·simp(disch:=try exact dI) only[List.take_zero,List.foldl_nil,push_cast,seval]
   ·omega
   rintro i hi
   by_cases hlt:i<e.length
   ·have hltI:(i:Int)<(e.length:Int):=by omega
    obtain⟨x,hx⟩:∃ x,e[i]? = some x:=⟨_,List.getElem?_eq_getElem hlt⟩
    have hc:=ih x (he x (List.mem_of_getElem? hx))
    have hst:=iA (p:=Q) hx z
    rw[show Q ((e.take i).foldl Q z) x=max ((e.take i).foldl Q z) (dT n x) by rw[hQ]] at hst
    generalize dT n x=y at hc hst
    obtain⟨k',m',M',s',w',e',f'⟩:=x
    simp only[Typ.pv_mk] at hc
    simp(disch:=try exact dI) only[hx,Option.map_some,Typ.pv_mk,ae,push_cast,seval]
    refine ab.pure hc rfl ?_
    refine zgZ ?_
    exact⟨i+1,aV (by simp(disch:=try exact dI) only[hst,push_cast,seval]),by omega,by omega⟩
   obtain rfl:i=e.length:=by omega
   clear hi hlt
   rw[List.take_length]
   generalize e.foldl Q z=z2
   simp(disch:=try exact dI) only[Int.lt_irrefl,push_cast,seval]
   refine az ([]) (fun i:Nat=>[(3,.pv (.int .i64 ((f.take i).foldl R z2))),(25,.pv (.int .i64 (i:Int)))]) (fun _=>[]) (fun i=>i<=f.length) (fun i=>f.length - i) (0) ?_;intro e0 σ0 n0 h0;simp(disch:=try exact dI) only[push_cast,seval] at h0;obtain⟨rfl,rfl,rfl⟩:=h0;refine⟨?_,?_,?_⟩
   ·simp(disch:=try exact dI) only[List.take_zero,List.foldl_nil,push_cast,seval]
   ·omega
   rintro i hi
   by_cases hlt:i<f.length
   ·have hltI:(i:Int)<(f.length:Int):=by omega
    obtain⟨x,hx⟩:∃ x,f[i]? = some x:=⟨_,List.getElem?_eq_getElem hlt⟩
    have hc:=ih x.typ (hf x (List.mem_of_getElem? hx))
    have hst:=iA (p:=R) hx z2
    rw[show R ((f.take i).foldl R z2) x=max ((f.take i).foldl R z2) (dT n x.typ) by rw[hR]] at hst
    generalize dT n x.typ=y at hc hst
    obtain⟨n',nm',nd',⟨k',m',M',s',w',e',f'⟩,d'⟩:=x
    simp only[TFd.typ,Typ.pv_mk] at hc
    simp(disch:=try exact dI) only[hx,Option.map_some,Typ.pv_mk,TFd.pv_mk,ae,push_cast,seval]
    refine ab.pure hc rfl ?_
    refine zgZ ?_
    exact⟨i+1,aV (by simp(disch:=try exact dI) only[hst,push_cast,seval]),by omega,by omega⟩
   obtain rfl:i=f.length:=by omega
   clear hi hlt
   rw[List.take_length]
   simp(disch:=try exact dI) only[Int.lt_irrefl,push_cast,seval]
theorem gK:∀ (n:Nat) (v:Val),SizeOf.sizeOf v<n->v.ok->ag Tryz.prog aq 92 [v.pv] v.pv:=by
 intro n
 induction n with
 | zero=>intro v h;omega
 | succ n ih=>
 intro v hn hv
 obtain⟨k,i,s,t,l,f⟩:=v
 rw[Val.ok_mk] at hv
 obtain⟨h1,h2,h3,h4,h5,h7,h6,h8⟩:=hv
 simp only[Val.mk.sizeOf_spec] at hn
 have hl:∀ x∈l,ag Tryz.prog aq 92 [x.pv] x.pv:=fun x hx=>ih x (by have:=List.sizeOf_lt_of_mem hx;omega) (h7 x hx)
 have hf:∀ a v,Fld.mk a v∈f->ag Tryz.prog aq 92 [v.pv] v.pv:=fun a v hx=>ih v (by have:=List.sizeOf_lt_of_mem hx;simp only[Fld.mk.sizeOf_spec] at this;omega) (by have:=h8 _ hx;rw[Fld.ok_mk] at this;exact this.2)
 refine ag.intro Q92.2 (by simp[Q92]) ?_
 simp(disch:=try exact dI) only[Q92,Val.pv_mk,push_cast,seval]
 refine az ([(3,5,36,6)]) (fun m:Nat=>[(14,.pv (.int .i64 (m:Int)))]) (fun m=>[(1,.cells 36 true [.pv (.int .i64 k),.pv (.int .i64 i),.pv (.int .i64 s),.pv (.str t),.olist 2 6 ((l.take m).map Val.pv),.pv .nils])]) (fun m=>m<=l.length) (fun m=>l.length - m) (0) ?_;intro e0 σ0 n0 h0;simp(disch:=try exact dI) only[push_cast,seval] at h0;obtain⟨rfl,rfl,rfl⟩:=h0;refine⟨?_,?_,?_⟩
 ·exact qsZ
 ·omega
 ·intro m hm
  by_cases hlt:m<l.length
  ·have hltI:(m:Int)<l.length:=by omega
   obtain⟨x,hx⟩:∃ x,l[m]? = some x:=⟨_,List.getElem?_eq_getElem hlt⟩
   have hts:=aH hx
   have hlt2:(l.take m).length=m:=by rw[List.length_take];omega
   have hcall:=hl x (List.mem_of_getElem? hx)
   obtain⟨w1,w2,w3,w4,w5,w6⟩:=x
   rw[Val.pv_mk] at hcall
   simp(disch:=try exact dI) only[hx,Val.pv_mk,push_cast,seval]
   refine am hcall rfl ?_
   simp(disch:=try exact dI) only[hlt2,push_cast,seval]
   exact⟨m+1,aV (by simp(disch:=try exact dI) only[hts,List.map_append,Val.pv_mk,push_cast,seval]),by omega,by omega⟩
  ·have hltI:¬ (m:Int)<l.length:=by omega
   have hle:l.take m=l:=List.take_of_length_le (by omega)
   simp(disch:=try exact dI) only[hle,push_cast,seval]
   refine az ([(3,6,60,7)]) (fun m:Nat=>[(29,.pv (.int .i64 (m:Int)))]) (fun m=>[(1,.cells 36 true [.pv (.int .i64 k),.pv (.int .i64 i),.pv (.int .i64 s),.pv (.str t),.olist 2 6 (l.map Val.pv),.olist 3 7 ((f.take m).map Fld.pv)])]) (fun m=>m<=f.length) (fun m=>f.length - m) (0) ?_;intro e0 σ0 n0 h0;simp(disch:=try exact dI) only[push_cast,seval] at h0;obtain⟨rfl,rfl,rfl⟩:=h0;refine⟨?_,?_,?_⟩
   ·exact qsZ
   ·omega
   ·intro m hm
    by_cases hlt:m<f.length
    ·have hltI:(m:Int)<f.length:=by omega
     obtain⟨⟨a,v⟩,hx⟩:∃ x,f[m]? = some x:=⟨_,List.getElem?_eq_getElem hlt⟩
     have hts:=aH hx
     have hlt2:(f.take m).length=m:=by rw[List.length_take];omega
     have hcall:=hf a v (List.mem_of_getElem? hx)
     obtain⟨w1,w2,w3,w4,w5,w6⟩:=v
     rw[Val.pv_mk] at hcall
     simp(disch:=try exact dI) only[hx,Fld.pv_mk,Val.pv_mk,push_cast,seval]
     refine am hcall rfl ?_
     simp(disch:=try exact dI) only[hlt2,push_cast,seval]
     exact⟨m+1,aV (by simp(disch:=try exact dI) only[hts,List.map_append,Fld.pv_mk,Val.pv_mk,push_cast,seval]),by omega,by omega⟩
    ·have hltI:¬ (m:Int)<f.length:=by omega
     have hle:f.take m=f:=List.take_of_length_le (by omega)
     simp(disch:=try exact dI) only[hle,push_cast,seval]
def named (name:List UInt8)(x:TFd):Bool:=decide (x.name=name)
def aF (name:List UInt8)(x:Fld):Bool:=decide (x.name=name)
def iM:TFd:=.mk 0 [] 0 (.mk 0 0 0 0 [] [] []) []
def eM:Val:=.mk 0 0 0 [] [] []
def tfR (o:Option TFd):PV:=.tup [(o.getD iM).pv,.bool o.isSome]
def vlR (o:Option Val):PV:=.tup [(o.getD eM).pv,.bool o.isSome]
theorem PQ (x:TFd)(name:List UInt8):ag Tryz.prog aq 196 [x.pv,.eptr [.str name] 0 0] (.bool (named name x)):=by
 obtain⟨a,b,c,⟨k,m,n,s,w,e,fs⟩,d⟩:=x
 refine ag.intro Th.2 (by simp[Th]) ?_
 simp(disch:=try exact dI) only[Th,TFd.pv_mk,Typ.pv_mk,named,TFd.name,push_cast,seval]
 exact decide_eq_decide.2 Iff.rfl
theorem qD (t:Typ)(name:List UInt8)(h:t.fields.length<=9000000000000):ag Tryz.prog aq 139 [t.pv,.str name] (tfR (t.fields.find? (named name))):=by
 obtain⟨k,m,n,s,w,e,f⟩:=t
 simp only[Typ.fields] at h ⊢
 have h94:=r7 f 196 [.eptr [.str name] 0 0] (named name) (fun x _=>PQ x name) (by omega)
 refine ag.intro Ri.2 (by simp[Ri]) ?_
 rcases bA (p:=named name) f 0 with ⟨h1,h2⟩ | ⟨i,x,h1,h2,h3⟩
 ·rw[h1]
  rw[h2] at h94
  simp(disch:=try exact dI) only[Ri,Typ.pv_mk,push_cast,seval]
  refine ab.pure h94 rfl ?_
  simp(disch:=try exact dI) only[tfR,Option.getD_none,Option.isSome_none,iM,TFd.pv_mk,Typ.pv_mk,push_cast,seval]
 ·rw[h2]
  rw[h3,Nat.zero_add] at h94
  obtain⟨x1,x2,x3,⟨y1,y2,y3,y4,y5,y6,y7⟩,x5⟩:=x
  have hi:¬ (i:Int)<0:=by omega
  simp(disch:=try exact dI) only[Ri,Typ.pv_mk,push_cast,seval]
  refine ab.pure h94 rfl ?_
  simp(disch:=try exact dI) only[h1,tfR,Option.getD_some,Option.isSome_some,TFd.pv_mk,Typ.pv_mk,push_cast,seval]
theorem Hr (l:List (List UInt8))(s:List UInt8)(h:l.length<=9000000000000):ag Tryz.prog aq 131 [.list (l.map PV.str),.str s] (.int .i64 (dF (fun x=>decide (x=s)) l 0)):=by
 refine ag.intro Tw.2 (by simp[Tw]) ?_
 generalize hR:dF (fun x=>decide (x=s)) l 0=R
 simp(disch:=try exact dI) only[Tw,push_cast,seval]
 refine az ([]) (fun m:Nat=>[(8,.pv (.int .i64 (m:Int)))]) (fun m=>[]) (fun m=>m<=l.length/\R=dF (fun x=>decide (x=s)) (l.drop m) m) (fun m=>l.length - m) (0) ?_;intro e0 σ0 n0 h0;simp(disch:=try exact dI) only[push_cast,seval] at h0;obtain⟨rfl,rfl,rfl⟩:=h0;refine⟨?_,?_,?_⟩
 ·exact qsZ
 ·exact⟨by omega,hR.symm⟩
 ·rintro i ⟨hi,he⟩
  by_cases hlt:i<l.length
  ·have hltI:(i:Int)<l.length:=by omega
   obtain⟨x,hx⟩:∃ x,l[i]? = some x:=⟨_,List.getElem?_eq_getElem hlt⟩
   by_cases hn:s=x
   ·rw[he,dA hx (by simp[hn])]
    simp(disch:=try exact dI) only[hx,hn,push_cast,seval]
   ·rw[ci hx (by simp;exact fun h=>hn h.symm)] at he
    simp(disch:=try exact dI) only[hx,hn,push_cast,seval]
    exact⟨i+1,aV qsZ,⟨by omega,he⟩,by omega⟩
  ·have hltI:¬ (i:Int)<l.length:=by omega
   rw[he,dB hlt]
   exact qsZ
theorem iG (l:List (List UInt8))(s:List UInt8)(h:l.length<=9000000000000):ag Tryz.prog aq 75 [.list (l.map PV.str),.str s] (.bool (l.any fun x=>decide (x=s))):=by
 have h111:=Hr l s h
 have hfa:=dr (p:=fun x=>decide (x=s)) l
 refine ag.intro Q75.2 (by simp[Q75]) ?_
 rcases bA (p:=fun x=>decide (x=s)) l 0 with ⟨h1,h2⟩ | ⟨k,x,h1,h2,h3⟩
 ·rw[h2] at h111
  rw[h1] at hfa
  rw[<- hfa]
  simp(disch:=try exact dI) only[Q75,push_cast,seval]
  refine ab.pure h111 rfl ?_
  refine zgZ ?_
  exact .refl _
 ·rw[h3] at h111
  rw[h2] at hfa
  rw[<- hfa]
  have hk:(0:Int)<=((0+k:Nat):Int):=by omega
  generalize ((0+k:Nat):Int)=z at *
  simp(disch:=try exact dI) only[Q75,push_cast,seval]
  refine ab.pure h111 rfl ?_
  refine zgZ ?_
  exact .refl _
theorem PP (x:Fld)(name:List UInt8):ag Tryz.prog aq 146 [x.pv,.eptr [.str name] 0 0] (.bool (aF name x)):=by
 obtain⟨a,⟨k,m,n,s,w,e⟩⟩:=x
 refine ag.intro To.2 (by simp[To]) ?_
 simp(disch:=try exact dI) only[To,Fld.pv_mk,Val.pv_mk,aF,Fld.name,push_cast,seval]
 exact decide_eq_decide.2 Iff.rfl
theorem Hp (l:List Fld)(g:Nat)(cs:List PV)(q:Fld->Bool)(hq:∀ x∈l,ag Tryz.prog aq g (x.pv::cs) (.bool (q x)))(hl:l.length<=9000000000000) :
  ag Tryz.prog aq 145 [.list (l.map Fld.pv),.clo g [] cs] (.int .i64 (dF q l 0)):=by
 refine ag.intro ND.2 (by simp[ND]) ?_
 simp(disch:=try exact dI) only[ND,push_cast,seval]
 refine az ([]) (fun m:Nat=>[(8,.pv (.int .i64 (m:Int)))]) (fun m=>[]) (fun m=>m<=l.length/\dF q l 0=dF q (l.drop m) m) (fun m=>l.length - m) (0) ?_;intro e0 σ0 n0 h0;simp(disch:=try exact dI) only[push_cast,seval] at h0;obtain⟨rfl,rfl,rfl⟩:=h0;refine⟨?_,?_,?_⟩
 ·exact qsZ
 ·exact⟨by omega,by simp⟩
 ·rintro m ⟨hm,he⟩
  by_cases hlt:m<l.length
  ·have hltI:(m:Int)<l.length:=by omega
   obtain⟨x,hx⟩:∃ x,l[m]? = some x:=⟨_,List.getElem?_eq_getElem hlt⟩
   have hcall:=hq x (List.mem_of_getElem? hx)
   simp(disch:=try exact dI) only[hx,Fld.cells_len,Fld.isAgg,push_cast,seval]
   refine ab.pure hcall (by exact oF (x.pv::cs)) ?_
   cases hqx:q x with
   | true=>
     rw[he,dA hx hqx]
     exact qsZ
   | false=>
     rw[ci hx hqx] at he
     refine zgZ ?_
     exact⟨m+1,aV qsZ,⟨by omega,he⟩,by omega⟩
  ·have hltI:¬ (m:Int)<l.length:=by omega
   rw[he,dB hlt]
   exact qsZ
theorem Hn (v:Val)(name:List UInt8)(h:v.fields.length<=9000000000000):ag Tryz.prog aq 91 [v.pv,.str name] (.int .i64 (dF (aF name) v.fields 0)):=by
 obtain⟨k,i,s,t,l,f⟩:=v
 simp only[Val.fields] at h ⊢
 have h117:=Hp f 146 [.eptr [.str name] 0 0] (aF name) (fun x _=>PP x name) (by omega)
 refine ag.intro Q91.2 (by simp[Q91]) ?_
 simp(disch:=try exact dI) only[Q91,Val.pv_mk,push_cast,seval]
 refine ab.pure h117 rfl ?_
 exact qsZ
theorem nw (v:Val)(name:List UInt8)(hv:v.ok)(hk:v.kind=9)(h:v.fields.length<=9000000000000):ag Tryz.prog aq 44 [v.pv,.str name] (vlR ((v.fields.find? (aF name)).map Fld.value)):=by
 have h127:=Hn v name h
 obtain⟨k,i,s,t,l,f⟩:=v
 rw[Val.ok_mk] at hv
 simp only[Val.fields,Val.kind] at h hk h127 ⊢
 rw[Val.pv_mk] at h127
 refine ag.intro Q44.2 (by simp[Q44]) ?_
 rcases bA (p:=aF name) f 0 with ⟨h1,h2⟩ | ⟨i',x,h1,h2,h3⟩
 ·rw[h1]
  rw[h2] at h127
  simp(disch:=try exact dI) only[Q44,Val.pv_mk,push_cast,seval]
  refine ab.pure h127 rfl ?_
  simp(disch:=try exact dI) only[hk,vlR,Option.map_none,Option.getD_none,Option.isSome_none,eM,Val.pv_mk,push_cast,seval]
 ·rw[h2]
  rw[h3,Nat.zero_add] at h127
  have hxo:=hv.2.2.2.2.2.2.2 x (List.mem_of_getElem? h1)
  obtain⟨x1,x2⟩:=x
  rw[Fld.ok_mk] at hxo
  have hcl:=gK _ x2 (Nat.lt_succ_self _) hxo.2
  obtain⟨y1,y2,y3,y4,y5,y6⟩:=x2
  rw[Val.pv_mk] at hcl
  have hi:¬ (i':Int)<0:=by omega
  simp(disch:=try exact dI) only[Q44,Val.pv_mk,push_cast,seval]
  refine ab.pure h127 rfl ?_
  simp(disch:=try exact dI) only[h1,hk,Fld.pv_mk,Val.pv_mk,push_cast,seval]
  refine ab.pure hcl rfl ?_
  simp(disch:=try exact dI) only[vlR,Option.map_some,Fld.value,Option.getD_some,Option.isSome_some,Val.pv_mk,push_cast,seval]
end Go.Proofs.YtbojpfpliibfbaaGreatDoor

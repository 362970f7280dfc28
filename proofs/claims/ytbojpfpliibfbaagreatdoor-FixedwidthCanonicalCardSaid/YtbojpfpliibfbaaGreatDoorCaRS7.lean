/- A part of the proof. -/
import Derived.Test.YtbojpfpliibfbaaGreatDoorCaRS4
import Derived.Test.YtbojpfpliibfbaaGreatDoorCaRE2
set_option maxHeartbeats 16000000
set_option maxRecDepth 100000
set_option linter.unusedVariables false
set_option linter.unusedSimpArgs false
namespace Go.Proofs.YtbojpfpliibfbaaGreatDoor
open Go Go.Ab
attribute [local irreducible] vc
noncomputable def PX (v:Val):Int:=((eR (lvl v) 1 v).length:Int)
def MG (v:Val):Prop:=v.ok/\(eR (lvl v) 1 v).length<=1000000000000
noncomputable def qu (least:Typ->Int):TFd->Int
 | .mk _ _ nd t d=>if nd=1 then least t else if nd=3 then (match d with | []=>0 | x::_=>PX x) else 0
def Kx (p:Typ->Int):List Typ->Int
 | []=>0
 | x::_=>p x
def Ky (p:Typ->Int):List TFd->Int
 | []=>0
 | .mk _ _ _ t _::_=>p t
noncomputable def io (p:Typ->Int)(k m:Int)(e:List Typ)(f:List TFd):Int:=if k=8 then (if 0<m then m*Kx p e else 0) else if k=10 then Ky p f else if k=9 then (f.map (qu p)).sum else 0
noncomputable def cz:Nat->Typ->Int
 | 0,_=>1
 | n+1,.mk k m _ _ _ e f=>min (1+io (cz n) k m e f) 4097
def zy (p:Typ->Prop):TFd->Prop
 | .mk _ _ nd t d=>(nd=1->p t)/\(nd=3->∃ x r,d=x::r/\MG x)
def eK:Nat->Typ->Prop
 | 0,_=>False
 | n+1,.mk k m _ _ _ e f=>(k=8->0<m->m<=256/\∃ x r,e=x::r/\eK n x)/\(k=10->∃ g r,f=g::r/\eK n g.typ)/\(k=9->f.length<=64/\∀ g∈f,zy (eK n) g)
theorem sF {n:Nat}(hle:∀ t,eK n t->1<=cz n t/\cz n t<=4097){g:TFd}(hg:zy (eK n) g):0<=qu (cz n) g/\qu (cz n) g<=1000000000000:=by
 obtain⟨a,b,nd,t,d⟩:=g
 simp only[qu,zy] at hg ⊢
 by_cases h1:nd=1
 ·rw[if_pos h1];have:=hle t (hg.1 h1);omega
 ·rw[if_neg h1]
  by_cases h3:nd=3
  ·obtain⟨x,r,rfl,hx⟩:=hg.2 h3
   rw[if_pos h3]
   have:=hx.2
   simp only[PX];omega
  ·rw[if_neg h3];omega
theorem qo {p:TFd->Int}:∀ (f:List TFd),(∀ g∈f,0<=p g/\p g<=1000000000000)->0<=(f.map p).sum/\(f.map p).sum<=1000000000000*f.length
 | [],_=>by simp
 | g::r,h=>by
   have h1:=h g (List.mem_cons_self ..)
   have h2:=qo r fun x hx=>h x (List.mem_cons_of_mem _ hx)
   simp only[List.map_cons,List.sum_cons,List.length_cons]
   omega
theorem ft:∀ (n:Nat) (t:Typ),eK n t->1<=cz n t/\cz n t<=4097
 | 0,_,h=>h.elim
 | n+1,.mk k m M s w e f,h=>by
   simp only[cz,eK] at h ⊢
   obtain⟨h8,h10,h9⟩:=h
   refine⟨?_,by omega⟩
   have key:0<=io (cz n) k m e f:=by
    unfold io
    split
    ·split
     ·rename_i e1 e2
      obtain⟨_,x,r,rfl,hx⟩:=h8 e1 e2
      have:=ft n x hx
      exact Int.mul_nonneg (by omega) (by simp only[Kx];omega)
     ·omega
    ·split
     ·rename_i e1 e2
      obtain⟨g,r,rfl,hx⟩:=h10 e2
      have:=ft n g.typ hx
      obtain⟨a,b,c,t,d⟩:=g
      simp only[Ky,TFd.typ] at this ⊢;omega
     ·split
      ·rename_i e1
       exact (qo f fun g hg=>sF (ft n) ((h9 e1).2 g hg)).1
      ·omega
   omega
theorem Ed {p:TFd->Int}{f:List TFd}{i:Nat}{g:TFd}(h:f[i]? = some g):((f.take (i+1)).map p).sum=((f.take i).map p).sum+p g:=by
 rw[aM h,List.map_append,List.sum_append];simp
theorem iW:∀ (n:Nat) (t:Typ),eK n t->ag Tryz.prog au 181 [t.pv] (.int .i64 (cz n t))
 | 0,_,h=>h.elim
 | n+1,.mk k m M s w e f,h=>by
   have ih:=iW n
   have hle:=ft n
   have hpos:∀ g,zy (eK n) g->0<=qu (cz n) g/\qu (cz n) g<=1000000000000:=fun g hg=>sF hle hg
   simp only[eK] at h
   obtain⟨h8,h10,h9⟩:=h
   simp only[cz]
   generalize cz n=L at *
   refine ag.intro LG.2 (by simp[LG]) ?_
   by_cases hk8:k=8
   ·subst hk8
    by_cases hm:0<m
    ·obtain⟨hm2,x,r,rfl,hx⟩:=h8 rfl hm
     have hc:=ih x hx
     have hl:=hle x hx
     obtain⟨k',m',M',s',w',e',f'⟩:=x
     simp only[Typ.pv_mk] at hc
     generalize hz:L (Typ.mk k' m' M' s' w' e' f')=z at hc hl
     have hmul:0<=m*z:=Int.mul_nonneg (by omega) (by omega)
     have hmul2:m*z<=256*4097:=Int.mul_le_mul hm2 hl.2 (by omega) (by omega)
     have hmm:io L 8 m (Typ.mk k' m' M' s' w' e' f'::r) f=m*z:=by simp only[io,Kx,hz,if_pos hm,if_true]
     clear hz
     rw[hmm]
     simp(disch:=try exact dI) only[LG,Typ.pv_mk,hm,aF,push_cast,seval]
     refine aq hc rfl ?_
     exact qsZ
    ·rw[show io L 8 m e f=0 by simp only[io,if_neg hm,if_true]]
     simp(disch:=try exact dI) only[LG,Typ.pv_mk,hm,push_cast,seval]
   by_cases hk10:k=10
   ·subst hk10
    obtain⟨g,r,rfl,hx⟩:=h10 rfl
    obtain⟨n',nm',nd',⟨k',m',M',s',w',e',f'⟩,d'⟩:=g
    simp only[TFd.typ] at hx
    have hc:=ih _ hx
    have hl:=hle _ hx
    simp only[Typ.pv_mk] at hc
    generalize hz:L (Typ.mk k' m' M' s' w' e' f')=z at hc hl
    have hmm:io L 10 m e (TFd.mk n' nm' nd' (Typ.mk k' m' M' s' w' e' f') d'::r)=z:=by simp[io,Ky,hz]
    clear hz
    rw[hmm]
    simp(disch:=try exact dI) only[LG,Typ.pv_mk,aF,TFd.pv_mk,am,push_cast,seval]
    refine ab.pure hc rfl ?_
    exact qsZ
   by_cases hk9:k=9
   ·subst hk9
    obtain⟨hf,hr⟩:=h9 rfl
    rw[show io L 9 m e f=(f.map (qu L)).sum by simp[io]]
    have hrp:∀ g∈f,0<=qu L g/\qu L g<=1000000000000:=fun g hg=>hpos g (hr g hg)
    simp(disch:=try exact dI) only[LG,Typ.pv_mk,push_cast,seval]
    refine az ([]) (fun i:Nat=>[(3,.pv (.int .i64 (1+((f.take i).map (qu L)).sum))),(38,.pv (.int .i64 (i:Int)))]) (fun _=>[]) (fun i=>i<=f.length) (fun i=>f.length - i) (0) ?_;intro e0 σ0 n0 h0;simp(disch:=try exact dI) only[push_cast,seval] at h0;obtain⟨rfl,rfl,rfl⟩:=h0;refine⟨?_,?_,?_⟩
    ·simp(disch:=try exact dI) only[List.take_zero,List.map_nil,List.sum_nil,push_cast,seval]
    ·omega
    rintro i hi
    have hsm:=qo (f.take i) fun g hg=>hrp g (List.mem_of_mem_take hg)
    rw[List.length_take] at hsm
    by_cases hlt:i<f.length
    ·have hltI:(i:Int)<(f.length:Int):=by omega
     obtain⟨g,hg⟩:∃ g,f[i]? = some g:=⟨_,List.getElem?_eq_getElem hlt⟩
     have hst:=Ed (p:=qu L) hg
     have hgr:=hr g (List.mem_of_getElem? hg)
     have hgp:=hrp g (List.mem_of_getElem? hg)
     obtain⟨n',nm',nd',⟨k',m',M',s',w',e',f'⟩,d'⟩:=g
     simp only[zy] at hgr
     generalize hS:((f.take i).map (qu L)).sum=S at *
     by_cases h1:nd'=1
     ·subst h1
      have hc:=ih _ (hgr.1 rfl)
      simp only[Typ.pv_mk] at hc
      simp only[qu,if_true] at hst hgp
      generalize L (Typ.mk k' m' M' s' w' e' f')=z at hc hst hgp
      simp(disch:=try exact dI) only[hg,Option.map_some,TFd.pv_mk,Typ.pv_mk,am,push_cast,seval]
      refine ab.pure hc rfl ?_
      refine zgZ ?_
      exact⟨i+1,aZ (by simp(disch:=try exact dI) only[hst,Int.add_assoc,push_cast,seval]),by omega,by omega⟩
     ·by_cases h3:nd'=3
      ·subst h3
       obtain⟨x,r,rfl,hx⟩:=hgr.2 rfl
       have hc:=IY (lvl x) x (ju x) hx.1 (by have:=hx.2;omega)
       simp only[qu,if_neg h1,if_true,PX] at hst hgp
       generalize ((eR (lvl x) 1 x).length:Int)=z at hc hst hgp
       obtain⟨vk,vn,vs,vt,vl,vf⟩:=x
       simp only[Val.pv_mk] at hc
       simp(disch:=try exact dI) only[hg,Option.map_some,TFd.pv_mk,Typ.pv_mk,am,aF,Val.pv_mk,push_cast,seval]
       refine ab.pure hc rfl ?_
       refine zgZ ?_
       exact⟨i+1,aZ (by simp(disch:=try exact dI) only[hst,Int.add_assoc,push_cast,seval]),by omega,by omega⟩
      ·simp only[qu,if_neg h1,if_neg h3] at hst
       simp(disch:=try exact dI) only[hg,Option.map_some,TFd.pv_mk,Typ.pv_mk,am,h1,h3,push_cast,seval]
       exact⟨i+1,aZ (by simp(disch:=try exact dI) only[hst,Int.add_zero,push_cast,seval]),by omega,by omega⟩
    ·have he:i=f.length:=by omega
     subst he
     rw[List.take_length] at hsm ⊢
     simp(disch:=try exact dI) only[Int.lt_irrefl,push_cast,seval]
   ·rw[show io L k m e f=0 by simp[io,hk8,hk9,hk10]]
    simp(disch:=try exact dI) only[LG,Typ.pv_mk,push_cast,seval]
noncomputable def d7:Nat->Typ->Int
 | 0,_=>0
 | n+1,.mk k m M s w e f=>f.foldl (fun a g=>max a (d7 n g.typ)) (e.foldl (fun a x=>max a (d7 n x)) (cz 9 (.mk k m M s w e f)))
def OQ:Nat->Typ->Prop
 | 0,_=>False
 | n+1,.mk k m M s w e f=>eK 9 (.mk k m M s w e f)/\e.length<=9000000000000/\f.length<=9000000000000/\(∀ x∈e,OQ n x)/\∀ g∈f,OQ n g.typ
theorem iB {α β:Type}{p:β->α->β}{l:List α}{i:Nat}{x:α}(h:l[i]? = some x)(b:β):(l.take (i+1)).foldl p b=p ((l.take i).foldl p b) x:=by rw[aM h,List.foldl_append];rfl
theorem fK:∀ (n:Nat) (t:Typ),OQ n t->ag Tryz.prog au 124 [t.pv] (.int .i64 (d7 n t))
 | 0,_,h=>h.elim
 | n+1,.mk k m M s w e f,h=>by
   have ih:=fK n
   simp only[OQ] at h
   obtain⟨h1,hel,hfl,he,hf⟩:=h
   have hle:=iW 9 _ h1
   simp only[d7]
   generalize cz 9 (.mk k m M s w e f)=z at *
   simp only[Typ.pv_mk] at hle
   obtain⟨Q,hQ⟩:∃ Q,Q=fun (a:Int) (x:Typ)=>max a (d7 n x):=⟨_,rfl⟩
   obtain⟨R,hR⟩:∃ R,R=fun (a:Int) (x:TFd)=>max a (d7 n x.typ):=⟨_,rfl⟩
   rw[<- hQ,<- hR]
   refine ag.intro RM.2 (by simp[RM]) ?_
   simp(disch:=try exact dI) only[RM,Typ.pv_mk,push_cast,seval]
   refine ab.pure hle rfl ?_
   refine zgZ ?_
   refine az ([]) (fun i:Nat=>[(3,.pv (.int .i64 ((e.take i).foldl Q z))),(13,.pv (.int .i64 (i:Int)))]) (fun _=>[]) (fun i=>i<=e.length) (fun i=>e.length - i) (0) ?_;intro e0 σ0 n0 h0;simp(disch:=try exact dI) only[push_cast,seval] at h0;obtain⟨rfl,rfl,rfl⟩:=h0;refine⟨?_,?_,?_⟩
   ·simp(disch:=try exact dI) only[List.take_zero,List.foldl_nil,push_cast,seval]
   ·omega
   rintro i hi
   by_cases hlt:i<e.length
   ·have hltI:(i:Int)<(e.length:Int):=by omega
    obtain⟨x,hx⟩:∃ x,e[i]? = some x:=⟨_,List.getElem?_eq_getElem hlt⟩
    have hc:=ih x (he x (List.mem_of_getElem? hx))
    have hst:=iB (p:=Q) hx z
    rw[show Q ((e.take i).foldl Q z) x=max ((e.take i).foldl Q z) (d7 n x) by rw[hQ]] at hst
    generalize d7 n x=y at hc hst
    obtain⟨k',m',M',s',w',e',f'⟩:=x
    simp only[Typ.pv_mk] at hc
    simp(disch:=try exact dI) only[hx,Option.map_some,Typ.pv_mk,am,push_cast,seval]
    refine ab.pure hc rfl ?_
    refine zgZ ?_
    exact⟨i+1,aZ (by simp(disch:=try exact dI) only[hst,push_cast,seval]),by omega,by omega⟩
   obtain rfl:i=e.length:=by omega
   clear hi hlt
   rw[List.take_length]
   generalize e.foldl Q z=z2
   simp(disch:=try exact dI) only[Int.lt_irrefl,push_cast,seval]
   refine az ([]) (fun i:Nat=>[(3,.pv (.int .i64 ((f.take i).foldl R z2))),(25,.pv (.int .i64 (i:Int)))]) (fun _=>[]) (fun i=>i<=f.length) (fun i=>f.length - i) (0) ?_;intro e0 σ0 n0 h0;simp(disch:=try exact dI) only[push_cast,seval] at h0;obtain⟨rfl,rfl,rfl⟩:=h0;refine⟨?_,?_,?_⟩
   ·simp(disch:=try exact dI) only[List.take_zero,List.foldl_nil,push_cast,seval]
   ·omega
   rintro i hi
   by_cases hlt:i<f.length
   ·have hltI:(i:Int)<(f.length:Int):=by omega
    obtain⟨x,hx⟩:∃ x,f[i]? = some x:=⟨_,List.getElem?_eq_getElem hlt⟩
    have hc:=ih x.typ (hf x (List.mem_of_getElem? hx))
    have hst:=iB (p:=R) hx z2
    rw[show R ((f.take i).foldl R z2) x=max ((f.take i).foldl R z2) (d7 n x.typ) by rw[hR]] at hst
    generalize d7 n x.typ=y at hc hst
    obtain⟨n',nm',nd',⟨k',m',M',s',w',e',f'⟩,d'⟩:=x
    simp only[TFd.typ,Typ.pv_mk] at hc
    simp(disch:=try exact dI) only[hx,Option.map_some,Typ.pv_mk,TFd.pv_mk,am,push_cast,seval]
    refine ab.pure hc rfl ?_
    refine zgZ ?_
    exact⟨i+1,aZ (by simp(disch:=try exact dI) only[hst,push_cast,seval]),by omega,by omega⟩
   obtain rfl:i=f.length:=by omega
   clear hi hlt
   rw[List.take_length]
   simp(disch:=try exact dI) only[Int.lt_irrefl,push_cast,seval]
theorem gQ:∀ (n:Nat) (v:Val),SizeOf.sizeOf v<n->v.ok->ag Tryz.prog au 92 [v.pv] v.pv:=by
 intro n
 induction n with
 | zero=>intro v h;omega
 | succ n ih=>
 intro v hn hv
 obtain⟨k,i,s,t,l,f⟩:=v
 rw[Val.ok_mk] at hv
 obtain⟨h1,h2,h3,h4,h5,h7,h6,h8⟩:=hv
 simp only[Val.mk.sizeOf_spec] at hn
 have hl:∀ x∈l,ag Tryz.prog au 92 [x.pv] x.pv:=fun x hx=>ih x (by have:=List.sizeOf_lt_of_mem hx;omega) (h7 x hx)
 have hf:∀ a v,Fld.mk a v∈f->ag Tryz.prog au 92 [v.pv] v.pv:=fun a v hx=>ih v (by have:=List.sizeOf_lt_of_mem hx;simp only[Fld.mk.sizeOf_spec] at this;omega) (by have:=h8 _ hx;rw[Fld.ok_mk] at this;exact this.2)
 refine ag.intro Q92.2 (by simp[Q92]) ?_
 simp(disch:=try exact dI) only[Q92,Val.pv_mk,push_cast,seval]
 refine az ([(3,5,36,6)]) (fun m:Nat=>[(14,.pv (.int .i64 (m:Int)))]) (fun m=>[(1,.cells 36 true [.pv (.int .i64 k),.pv (.int .i64 i),.pv (.int .i64 s),.pv (.str t),.olist 2 6 ((l.take m).map Val.pv),.pv .nils])]) (fun m=>m<=l.length) (fun m=>l.length - m) (0) ?_;intro e0 σ0 n0 h0;simp(disch:=try exact dI) only[push_cast,seval] at h0;obtain⟨rfl,rfl,rfl⟩:=h0;refine⟨?_,?_,?_⟩
 ·exact qsZ
 ·omega
 ·intro m hm
  by_cases hlt:m<l.length
  ·have hltI:(m:Int)<l.length:=by omega
   obtain⟨x,hx⟩:∃ x,l[m]? = some x:=⟨_,List.getElem?_eq_getElem hlt⟩
   have hts:=aM hx
   have hlt2:(l.take m).length=m:=by rw[List.length_take];omega
   have hcall:=hl x (List.mem_of_getElem? hx)
   obtain⟨w1,w2,w3,w4,w5,w6⟩:=x
   rw[Val.pv_mk] at hcall
   simp(disch:=try exact dI) only[hx,Val.pv_mk,push_cast,seval]
   refine aq hcall rfl ?_
   simp(disch:=try exact dI) only[hlt2,push_cast,seval]
   exact⟨m+1,aZ (by simp(disch:=try exact dI) only[hts,List.map_append,Val.pv_mk,push_cast,seval]),by omega,by omega⟩
  ·have hltI:¬ (m:Int)<l.length:=by omega
   have hle:l.take m=l:=List.take_of_length_le (by omega)
   simp(disch:=try exact dI) only[hle,push_cast,seval]
   refine az ([(3,6,60,7)]) (fun m:Nat=>[(29,.pv (.int .i64 (m:Int)))]) (fun m=>[(1,.cells 36 true [.pv (.int .i64 k),.pv (.int .i64 i),.pv (.int .i64 s),.pv (.str t),.olist 2 6 (l.map Val.pv),.olist 3 7 ((f.take m).map Fld.pv)])]) (fun m=>m<=f.length) (fun m=>f.length - m) (0) ?_;intro e0 σ0 n0 h0;simp(disch:=try exact dI) only[push_cast,seval] at h0;obtain⟨rfl,rfl,rfl⟩:=h0;refine⟨?_,?_,?_⟩
   ·exact qsZ
   ·omega
   ·intro m hm
    by_cases hlt:m<f.length
    ·have hltI:(m:Int)<f.length:=by omega
     obtain⟨⟨a,v⟩,hx⟩:∃ x,f[m]? = some x:=⟨_,List.getElem?_eq_getElem hlt⟩
     have hts:=aM hx
     have hlt2:(f.take m).length=m:=by rw[List.length_take];omega
     have hcall:=hf a v (List.mem_of_getElem? hx)
     obtain⟨w1,w2,w3,w4,w5,w6⟩:=v
     rw[Val.pv_mk] at hcall
     simp(disch:=try exact dI) only[hx,Fld.pv_mk,Val.pv_mk,push_cast,seval]
     refine aq hcall rfl ?_
     simp(disch:=try exact dI) only[hlt2,push_cast,seval]
     exact⟨m+1,aZ (by simp(disch:=try exact dI) only[hts,List.map_append,Fld.pv_mk,Val.pv_mk,push_cast,seval]),by omega,by omega⟩
    ·have hltI:¬ (m:Int)<f.length:=by omega
     have hle:f.take m=f:=List.take_of_length_le (by omega)
     simp(disch:=try exact dI) only[hle,push_cast,seval]
def named (name:List UInt8)(x:TFd):Bool:=decide (x.name=name)
def bc (name:List UInt8)(x:Fld):Bool:=decide (x.name=name)
def iM:TFd:=.mk 0 [] 0 (.mk 0 0 0 0 [] [] []) []
def ef:Val:=.mk 0 0 0 [] [] []
def tfR (o:Option TFd):PV:=.tup [(o.getD iM).pv,.bool o.isSome]
def vlR (o:Option Val):PV:=.tup [(o.getD ef).pv,.bool o.isSome]
theorem Og (x:TFd)(name:List UInt8):ag Tryz.prog au 196 [x.pv,.eptr [.str name] 0 0] (.bool (named name x)):=by
 obtain⟨a,b,c,⟨k,m,n,s,w,e,fs⟩,d⟩:=x
 refine ag.intro Rx.2 (by simp[Rx]) ?_
 simp(disch:=try exact dI) only[Rx,TFd.pv_mk,Typ.pv_mk,named,TFd.name,push_cast,seval]
 exact decide_eq_decide.2 Iff.rfl
theorem p5 (t:Typ)(name:List UInt8)(h:t.fields.length<=9000000000000):ag Tryz.prog au 139 [t.pv,.str name] (tfR (t.fields.find? (named name))):=by
 obtain⟨k,m,n,s,w,e,f⟩:=t
 simp only[Typ.fields] at h ⊢
 have h94:=ry f 196 [.eptr [.str name] 0 0] (named name) (fun x _=>Og x name) (by omega)
 refine ag.intro PI.2 (by simp[PI]) ?_
 rcases bL (p:=named name) f 0 with ⟨h1,h2⟩ | ⟨i,x,h1,h2,h3⟩
 ·rw[h1]
  rw[h2] at h94
  simp(disch:=try exact dI) only[PI,Typ.pv_mk,push_cast,seval]
  refine ab.pure h94 rfl ?_
  simp(disch:=try exact dI) only[tfR,Option.getD_none,Option.isSome_none,iM,TFd.pv_mk,Typ.pv_mk,push_cast,seval]
 ·rw[h2]
  rw[h3,Nat.zero_add] at h94
  obtain⟨x1,x2,x3,⟨y1,y2,y3,y4,y5,y6,y7⟩,x5⟩:=x
  have hi:¬ (i:Int)<0:=by omega
  simp(disch:=try exact dI) only[PI,Typ.pv_mk,push_cast,seval]
  refine ab.pure h94 rfl ?_
  simp(disch:=try exact dI) only[h1,tfR,Option.getD_some,Option.isSome_some,TFd.pv_mk,Typ.pv_mk,push_cast,seval]
theorem F4 (l:List (List UInt8))(s:List UInt8)(h:l.length<=9000000000000):ag Tryz.prog au 131 [.list (l.map PV.str),.str s] (.int .i64 (eC (fun x=>decide (x=s)) l 0)):=by
 refine ag.intro RK.2 (by simp[RK]) ?_
 generalize hR:eC (fun x=>decide (x=s)) l 0=R
 simp(disch:=try exact dI) only[RK,push_cast,seval]
 refine az ([]) (fun m:Nat=>[(8,.pv (.int .i64 (m:Int)))]) (fun m=>[]) (fun m=>m<=l.length/\R=eC (fun x=>decide (x=s)) (l.drop m) m) (fun m=>l.length - m) (0) ?_;intro e0 σ0 n0 h0;simp(disch:=try exact dI) only[push_cast,seval] at h0;obtain⟨rfl,rfl,rfl⟩:=h0;refine⟨?_,?_,?_⟩
 ·exact qsZ
 ·exact⟨by omega,hR.symm⟩
 ·rintro i ⟨hi,he⟩
  by_cases hlt:i<l.length
  ·have hltI:(i:Int)<l.length:=by omega
   obtain⟨x,hx⟩:∃ x,l[i]? = some x:=⟨_,List.getElem?_eq_getElem hlt⟩
   by_cases hn:s=x
   ·rw[he,eA hx (by simp[hn])]
    simp(disch:=try exact dI) only[hx,hn,push_cast,seval]
   ·rw[cK hx (by simp;exact fun h=>hn h.symm)] at he
    simp(disch:=try exact dI) only[hx,hn,push_cast,seval]
    exact⟨i+1,aZ qsZ,⟨by omega,he⟩,by omega⟩
  ·have hltI:¬ (i:Int)<l.length:=by omega
   rw[he,eB hlt]
   exact qsZ
theorem fw (l:List (List UInt8))(s:List UInt8)(h:l.length<=9000000000000):ag Tryz.prog au 75 [.list (l.map PV.str),.str s] (.bool (l.any fun x=>decide (x=s))):=by
 have h111:=F4 l s h
 have hfa:=dr (p:=fun x=>decide (x=s)) l
 refine ag.intro Q75.2 (by simp[Q75]) ?_
 rcases bL (p:=fun x=>decide (x=s)) l 0 with ⟨h1,h2⟩ | ⟨k,x,h1,h2,h3⟩
 ·rw[h2] at h111
  rw[h1] at hfa
  rw[<- hfa]
  simp(disch:=try exact dI) only[Q75,push_cast,seval]
  refine ab.pure h111 rfl ?_
  refine zgZ ?_
  exact .refl _
 ·rw[h3] at h111
  rw[h2] at hfa
  rw[<- hfa]
  have hk:(0:Int)<=((0+k:Nat):Int):=by omega
  generalize ((0+k:Nat):Int)=z at *
  simp(disch:=try exact dI) only[Q75,push_cast,seval]
  refine ab.pure h111 rfl ?_
  refine zgZ ?_
  exact .refl _
theorem Of (x:Fld)(name:List UInt8):ag Tryz.prog au 146 [x.pv,.eptr [.str name] 0 0] (.bool (bc name x)):=by
 obtain⟨a,⟨k,m,n,s,w,e⟩⟩:=x
 refine ag.intro RD.2 (by simp[RD]) ?_
 simp(disch:=try exact dI) only[RD,Fld.pv_mk,Val.pv_mk,bc,Fld.name,push_cast,seval]
 exact decide_eq_decide.2 Iff.rfl
theorem F0 (l:List Fld)(g:Nat)(cs:List PV)(q:Fld->Bool)(hq:∀ x∈l,ag Tryz.prog au g (x.pv::cs) (.bool (q x)))(hl:l.length<=9000000000000) :
  ag Tryz.prog au 145 [.list (l.map Fld.pv),.clo g [] cs] (.int .i64 (eC q l 0)):=by
 refine ag.intro Mi.2 (by simp[Mi]) ?_
 simp(disch:=try exact dI) only[Mi,push_cast,seval]
 refine az ([]) (fun m:Nat=>[(8,.pv (.int .i64 (m:Int)))]) (fun m=>[]) (fun m=>m<=l.length/\eC q l 0=eC q (l.drop m) m) (fun m=>l.length - m) (0) ?_;intro e0 σ0 n0 h0;simp(disch:=try exact dI) only[push_cast,seval] at h0;obtain⟨rfl,rfl,rfl⟩:=h0;refine⟨?_,?_,?_⟩
 ·exact qsZ
 ·exact⟨by omega,by simp⟩
 ·rintro m ⟨hm,he⟩
  by_cases hlt:m<l.length
  ·have hltI:(m:Int)<l.length:=by omega
   obtain⟨x,hx⟩:∃ x,l[m]? = some x:=⟨_,List.getElem?_eq_getElem hlt⟩
   have hcall:=hq x (List.mem_of_getElem? hx)
   simp(disch:=try exact dI) only[hx,Fld.cells_len,Fld.isAgg,push_cast,seval]
   refine ab.pure hcall (by exact oz (x.pv::cs)) ?_
   cases hqx:q x with
   | true=>
     rw[he,eA hx hqx]
     exact qsZ
   | false=>
     rw[cK hx hqx] at he
     refine zgZ ?_
     exact⟨m+1,aZ qsZ,⟨by omega,he⟩,by omega⟩
  ·have hltI:¬ (m:Int)<l.length:=by omega
   rw[he,eB hlt]
   exact qsZ
theorem FY (v:Val)(name:List UInt8)(h:v.fields.length<=9000000000000):ag Tryz.prog au 91 [v.pv,.str name] (.int .i64 (eC (bc name) v.fields 0)):=by
 obtain⟨k,i,s,t,l,f⟩:=v
 simp only[Val.fields] at h ⊢
 have h117:=F0 f 146 [.eptr [.str name] 0 0] (bc name) (fun x _=>Of x name) (by omega)
 refine ag.intro Q91.2 (by simp[Q91]) ?_
 simp(disch:=try exact dI) only[Q91,Val.pv_mk,push_cast,seval]
 refine ab.pure h117 rfl ?_
 exact qsZ
theorem nv (v:Val)(name:List UInt8)(hv:v.ok)(hk:v.kind=9)(h:v.fields.length<=9000000000000):ag Tryz.prog au 44 [v.pv,.str name] (vlR ((v.fields.find? (bc name)).map Fld.value)):=by
 have h127:=FY v name h
 obtain⟨k,i,s,t,l,f⟩:=v
 rw[Val.ok_mk] at hv
 simp only[Val.fields,Val.kind] at h hk h127 ⊢
 rw[Val.pv_mk] at h127
 refine ag.intro Q44.2 (by simp[Q44]) ?_
 rcases bL (p:=bc name) f 0 with ⟨h1,h2⟩ | ⟨i',x,h1,h2,h3⟩
 ·rw[h1]
  rw[h2] at h127
  simp(disch:=try exact dI) only[Q44,Val.pv_mk,push_cast,seval]
  refine ab.pure h127 rfl ?_
  simp(disch:=try exact dI) only[hk,vlR,Option.map_none,Option.getD_none,Option.isSome_none,ef,Val.pv_mk,push_cast,seval]
 ·rw[h2]
  rw[h3,Nat.zero_add] at h127
  have hxo:=hv.2.2.2.2.2.2.2 x (List.mem_of_getElem? h1)
  obtain⟨x1,x2⟩:=x
  rw[Fld.ok_mk] at hxo
  have hcl:=gQ _ x2 (Nat.lt_succ_self _) hxo.2
  obtain⟨y1,y2,y3,y4,y5,y6⟩:=x2
  rw[Val.pv_mk] at hcl
  have hi:¬ (i':Int)<0:=by omega
  simp(disch:=try exact dI) only[Q44,Val.pv_mk,push_cast,seval]
  refine ab.pure h127 rfl ?_
  simp(disch:=try exact dI) only[h1,hk,Fld.pv_mk,Val.pv_mk,push_cast,seval]
  refine ab.pure hcl rfl ?_
  simp(disch:=try exact dI) only[vlR,Option.map_some,Fld.value,Option.getD_some,Option.isSome_some,Val.pv_mk,push_cast,seval]
end Go.Proofs.YtbojpfpliibfbaaGreatDoor

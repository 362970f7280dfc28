/- A part. -/
import Derived.Test.YtamoeblcphjbaaaGreatDoorBlLZ1
set_option linter.unusedVariables false
set_option linter.unusedSimpArgs false
set_option maxHeartbeats 16000000
set_option maxRecDepth 100000
open List renaming map_cons->UE,map_nil->Vi,length_cons->Ut,getElem?_eq_getElem->Uo,mem_of_getElem?->Uw,take_length->U2
open Option renaming map_some->UD
namespace Go.Proofs.YtamoeblcphjbaaaGreatDoor
open Go Go.Ab
def AH:List PV->Option (List (List UInt8))
 | []=>some []
 | .str s::r=>match AH r with
   | some l=>some (s::l)
   | none=>none
 | _=>none
theorem uh:∀ {l:List PV} {ss:List (List UInt8)},AH l=some ss->l=ss.map .str
 | [],ss,h=>by simp only[AH,Option.some.injEq] at h;subst h;rfl
 | x::r,ss,h=>by
   unfold AH at h
   split at h
   ·rename_i e;cases e
   ·rename_i s r' e
    cases e
    split at h
    ·rename_i l hl
     cases h
     rw[uh hl];rfl
    ·cases h
   ·cases h
def eqL (p:PV->PV->Bool):List PV->List PV->Bool
 | [],[]=>true
 | x::r,y::q=>p x y&&eqL p r q
 | _,_=>false
def eqP:Nat->PV->PV->Bool
 | n+1,.int k a,.int k' b=>decide (k=k')&&decide (a=b)
 | n+1,.str a,.str b=>decide (a=b)
 | n+1,.nils,.nils=>true
 | n+1,.agg a,.agg b=>eqL (eqP n) a b
 | n+1,.list a,.list b=>eqL (eqP n) a b
 | _,_,_=>false
theorem DE {p:PV->PV->Bool}(hp:∀ x y,p x y=true->x=y):∀ a b,eqL p a b=true->a=b
 | [],[],_=>rfl
 | x::r,y::q,h=>by
   simp only[eqL,Bool.and_eq_true] at h
   rw[hp x y h.1,DE hp r q h.2]
 | [],y::q,h=>by simp[eqL] at h
 | x::r,[],h=>by simp[eqL] at h
theorem vW:∀ n x y,eqP n x y=true->x=y
 | 0,x,y,h=>by simp[eqP] at h
 | n+1,x,y,h=>by
   unfold eqP at h
   split at h
   ·simp only[Bool.and_eq_true,decide_eq_true_eq] at h;rw[h.1,h.2]
   ·simp only[decide_eq_true_eq] at h;rw[h]
   ·rfl
   ·rw[DE (vW _) _ _ h]
   ·rw[DE (vW _) _ _ h]
   ·cases h
def v1:Val:=.mk 9 0 0 [] [] [.mk [97] (.mk 3 1250 2 [] [] []),.mk [98] (.mk 8 0 0 [] [.mk 1 1 0 [] [] [],.mk 4 0 0 [97,34,98] [] []] []),.mk [99] (.mk 10 0 0 [99,97,114,100] [.mk 6 0 0 [] [] []] [])]
def v1P:PV:=.agg [.int .i64 9,.int .i64 0,.int .i64 0,.str [],.nils,.list [.agg [.str [97],.int .i64 3,.int .i64 1250,.int .i64 2,.str [],.nils,.nils],.agg [.str [98],.int .i64 8,.int .i64 0,.int .i64 0,.str [],.list [.agg [.int .i64 1,.int .i64 1,.int .i64 0,.str [],.nils,.nils],.agg [.int .i64 4,.int .i64 0,.int .i64 0,.str [97,34,98],.nils,.nils]],.nils],.agg [.str [99],.int .i64 10,.int .i64 0,.int .i64 0,.str [99,97,114,100],.list [.agg [.int .i64 6,.int .i64 0,.int .i64 0,.str [],.nils,.nils]],.nils]]]
def v2:Val:=.mk 9 0 0 [] [] [.mk [97] (.mk 3 2 0 [] [] []),.mk [98] (.mk 2 1 0 [] [] [])]
def v2P:PV:=.agg [.int .i64 9,.int .i64 0,.int .i64 0,.str [],.nils,.list [.agg [.str [97],.int .i64 3,.int .i64 2,.int .i64 0,.str [],.nils,.nils],.agg [.str [98],.int .i64 2,.int .i64 1,.int .i64 0,.str [],.nils,.nils]]]
theorem HZ:au Tryz.prog aH 15 [v1P] (.int .i64 0):=by
 have h:=kB 4 v1 (by simp[v1,j3,cY,Val.kind,Val.fields,Val.lst,Fld.value]) (by simp[v1,Um,Ua,I64])
 have e:pm 0 (fm 4 1 v1)=0:=by decide +kernel
 rw[e] at h
 refine h.nz ?_
 simp only[v1P,v1,Un,Ub,UE,Vi]
 repeat' constructor
theorem HY:au Tryz.prog aH 15 [v2P] (.int .i64 0):=by
 have h:=kB 3 v2 (by simp[v2,j3,cY,Val.kind,Val.fields,Fld.value]) (by simp[v2,Um,Ua,I64])
 have e:pm 0 (fm 3 1 v2)=0:=by decide +kernel
 rw[e] at h
 refine h.nz ?_
 simp only[v2P,v2,Un,Ub,UE,Vi]
 repeat' constructor
def orc (f:Nat)(ps:List PV):Option PV:=
 match f with
 | 66=>match ps with
   | [.int .i64 n]=>if -9223372036854775808<=n/\n<=9223372036854775807 then some (.str (gR n)) else none
   | _=>none
 | 103=>match ps with
   | [.str a,.str b]=>some (.int .i64 (Lib.compareBytes a b))
   | _=>none
 | 141=>match ps with
   | [.list l,.str s]=>match AH l with
     | some ss=>if ss.length<=140737488355328/\(iH s ss).length<=140737488355328 then some (.str (iH s ss)) else none
     | none=>none
   | _=>none
 | 88=>match ps with
   | [.str a,.int .i64 n]=>if 0<=n/\n<=9223372036854775807/\a.length*n.toNat<=140737488355328 then some (.str (Lib.repeatL a n.toNat)) else none
   | _=>none
 | 15=>match ps with
   | [p]=>if eqP 6 p v1P=true then some (.int .i64 0) else if eqP 6 p v2P=true then some (.int .i64 0) else none
   | _=>none
 | _=>none
theorem O3:∀ f ps r,orc f ps=some r->au Tryz.prog aH f ps r:=by
 intro f ps r h
 unfold orc at h
 split at h
 ·split at h
  ·split at h
   ·rename_i hh;cases h;exact tg _ hh.1 hh.2
   ·cases h
  ·cases h
 ·split at h
  ·cases h;exact jA _ _
  ·cases h
 ·split at h
  ·split at h
   ·rename_i e
    split at h
    ·rename_i hh;cases h
     rw[uh e]
     exact L9 _ _ hh.1 hh.2
    ·cases h
   ·cases h
  ·cases h
 ·split at h
  ·split at h
   ·rename_i hh;cases h;exact pH _ _ hh.1 hh.2.1 hh.2.2
   ·cases h
  ·cases h
 ·split at h
  ·split at h
   ·rename_i hh;cases h;rw[vW _ _ _ hh];exact HZ
   ·split at h
    ·rename_i hh;cases h;rw[vW _ _ _ hh];exact HY
    ·cases h
  ·cases h
 ·cases h
noncomputable def gFn (p:Nat×List Nat):TabRow:=⟨p.1,p.2,(cFn Tryz.prog p.2 p.1).getD ⟨0,[],.skip⟩⟩
def IZ:List (Nat×List Nat):=[(12,[]),(14,[]),(16,[]),(18,[]),(20,[]),(26,[]),(31,[]),(33,[]),(36,[]),(37,[]),(42,[]),(43,[]),(45,[]),(46,[]),(47,[]),(49,[14]),(52,[]),(56,[124,1000168,1000123]),(63,[]),(64,[]),(65,[]),(67,[]),(68,[]),(82,[]),(86,[]),(87,[]),(89,[]),(90,[]),(92,[]),(93,[]),(94,[]),(95,[]),(99,[59,1000066]),(107,[19]),(113,[44]),(120,[]),(121,[]),(122,[]),(123,[]),(131,[]),(132,[]),(133,[]),(134,[]),(142,[]),(143,[]),(145,[]),(146,[]),(151,[]),(154,[]),(155,[]),(156,[]),(157,[]),(158,[]),(159,[]),(162,[]),(163,[]),(164,[]),(165,[]),(166,[]),(167,[]),(168,[]),(184,[]),(185,[12]),(189,[]),(195,[]),(196,[]),(198,[]),(203,[]),(206,[]),(209,[]),(210,[]),(211,[]),(215,[]),(220,[]),(221,[]),(225,[]),(226,[]),(236,[]),(237,[]),(248,[]),(254,[]),(261,[])]
theorem Ob {l:List (Nat×List Nat)}(h:(l.all fun p=>(cFn Tryz.prog p.2 p.1).isSome)=true):∀ r∈l.map gFn,cFn Tryz.prog r.muts r.f=some r.fn:=by
 intro r hr
 obtain⟨p,hp,rfl⟩:=List.mem_map.1 hr
 have h:=List.all_eq_true.1 h p hp
 simp only[gFn]
 cases h':cFn Tryz.prog p.2 p.1 with
 | some x=>rfl
 | none=>rw[h'] at h;cases h
theorem Ok:(IZ.all fun p=>(cFn Tryz.prog p.2 p.1).isSome)=true:=by kernel_rfl
theorem T6:BM (exF (IZ.map gFn) orc aH 20000 200) 12 []=some (.bool true):=by kernel_rfl
theorem L7:au Tryz.prog aH 12 [] (.bool true):=au.of_ex (Ob Ok) O3 T6
open Go.RowKit
attribute [local irreducible] vc
section
variable {T:Nat}{p:PV}
end
noncomputable def lvl (v:Val):Nat:=(g7 v).choose
theorem LN (v:Val):tK (lvl v) v:=(g7 v).choose_spec
noncomputable def txt (v:Val):List UInt8:=Fh (lvl v) v
section
variable {T:Nat}{p:PV}
end
theorem u6 (v:Val):j3 (lvl v) v:=ky _ v (LN v)
theorem wc:∀ (xs:List (Int×Val)) (i:Nat),i<=4096->pm i xs=0->i+xs.length<=4096
 | [],i,h,_=>by simpa using h
 | q::r,i,h,h0=>by
   rw[pm] at h0
   by_cases h1:bL i q=0
   ·rw[if_pos h1] at h0
    have hi:¬ 4096<=i:=fun hh=>by rw[Kg hh] at h1;cases h1
    have:=wc r (i+1) (by omega) h0
    rw[Ut];omega
   ·rw[if_neg h1] at h0;exact absurd h0 h1
noncomputable def RF (v:Val):Int:=((fm (lvl v) 1 v).length:Int)
def Ol (v:Val):Prop:=v.ok/\(fm (lvl v) 1 v).length<=1000000000000
noncomputable def dM (least:Typ->Int):TFd->Int
 | .mk _ _ nd t d=>if nd=1 then least t else if nd=3 then (match d with | []=>0 | x::_=>RF x) else 0
def Mc (p:Typ->Int):List Typ->Int
 | []=>0
 | x::_=>p x
def Md (p:Typ->Int):List TFd->Int
 | []=>0
 | .mk _ _ _ t _::_=>p t
noncomputable def jm (p:Typ->Int)(k m:Int)(e:List Typ)(f:List TFd):Int:=if k=8 then (if 0<m then m*Mc p e else 0) else if k=10 then Md p f else if k=9 then (f.map (dM p)).sum else 0
noncomputable def dy:Nat->Typ->Int
 | 0,_=>1
 | n+1,.mk k m _ _ _ e f=>min (1+jm (dy n) k m e f) 4097
def Bg (p:Typ->Prop):TFd->Prop
 | .mk _ _ nd t d=>(nd=1->p t)/\(nd=3->∃ x r,d=x::r/\Ol x)
def fk:Nat->Typ->Prop
 | 0,_=>False
 | n+1,.mk k m _ _ _ e f=>(k=8->0<m->m<=256/\∃ x r,e=x::r/\fk n x)/\(k=10->∃ g r,f=g::r/\fk n g.typ)/\(k=9->f.length<=64/\∀ g∈f,Bg (fk n) g)
theorem uA {n:Nat}(hle:∀ t,fk n t->1<=dy n t/\dy n t<=4097){g:TFd}(hg:Bg (fk n) g):0<=dM (dy n) g/\dM (dy n) g<=1000000000000:=by
 obtain⟨a,b,nd,t,d⟩:=g
 simp only[dM,Bg] at hg ⊢
 by_cases h1:nd=1
 ·rw[if_pos h1];have:=hle t (hg.1 h1);omega
 ·rw[if_neg h1]
  by_cases h3:nd=3
  ·obtain⟨x,r,rfl,hx⟩:=hg.2 h3
   rw[if_pos h3]
   have:=hx.2
   simp only[RF];omega
  ·rw[if_neg h3];omega
theorem rZ {p:TFd->Int}:∀ (f:List TFd),(∀ g∈f,0<=p g/\p g<=1000000000000)->0<=(f.map p).sum/\(f.map p).sum<=1000000000000*f.length
 | [],_=>by simp
 | g::r,h=>by
   have h1:=h g (List.mem_cons_self ..)
   have h2:=rZ r fun x hx=>h x (List.mem_cons_of_mem _ hx)
   simp only[UE,List.sum_cons,Ut]
   omega
theorem gm:∀ (n:Nat) (t:Typ),fk n t->1<=dy n t/\dy n t<=4097
 | 0,_,h=>h.elim
 | n+1,.mk k m M s w e f,h=>by
   simp only[dy,fk] at h ⊢
   obtain⟨h8,h10,h9⟩:=h
   refine⟨?_,by omega⟩
   have key:0<=jm (dy n) k m e f:=by
    unfold jm
    split
    ·split
     ·rename_i e1 e2
      obtain⟨_,x,r,rfl,hx⟩:=h8 e1 e2
      have:=gm n x hx
      exact Int.mul_nonneg (by omega) (by simp only[Mc];omega)
     ·omega
    ·split
     ·rename_i e1 e2
      obtain⟨g,r,rfl,hx⟩:=h10 e2
      have:=gm n g.typ hx
      obtain⟨a,b,c,t,d⟩:=g
      simp only[Md,TFd.typ] at this ⊢;omega
     ·split
      ·rename_i e1
       exact (rZ f fun g hg=>uA (gm n) ((h9 e1).2 g hg)).1
      ·omega
   omega
theorem Fu {p:TFd->Int}{f:List TFd}{i:Nat}{g:TFd}(h:f[i]? = some g):((f.take (i+1)).map p).sum=((f.take i).map p).sum+p g:=by
 rw[bc h,List.map_append,List.sum_append];simp
theorem jP:∀ (n:Nat) (t:Typ),fk n t->au Tryz.prog aH 145 [t.pv] (.int .i64 (dy n t))
 | 0,_,h=>h.elim
 | n+1,.mk k m M s w e f,h=>by
   have ih:=jP n
   have hle:=gm n
   have hpos:∀ g,Bg (fk n) g->0<=dM (dy n) g/\dM (dy n) g<=1000000000000:=fun g hg=>uA hle hg
   simp only[fk] at h
   obtain⟨h8,h10,h9⟩:=h
   simp only[dy]
   generalize dy n=L at *
   refine au.intro Ni.2 (by simp[Ni]) ?_
   by_cases hk8:k=8
   ·subst hk8
    by_cases hm:0<m
    ·obtain⟨hm2,x,r,rfl,hx⟩:=h8 rfl hm
     have hc:=ih x hx
     have hl:=hle x hx
     obtain⟨k',m',M',s',w',e',f'⟩:=x
     simp only[Ul] at hc
     generalize hz:L (Typ.mk k' m' M' s' w' e' f')=z at hc hl
     have hmul:0<=m*z:=Int.mul_nonneg (by omega) (by omega)
     have hmul2:m*z<=256*4097:=Int.mul_le_mul hm2 hl.2 (by omega) (by omega)
     have hmm:jm L 8 m (Typ.mk k' m' M' s' w' e' f'::r) f=m*z:=by simp only[jm,Mc,hz,if_pos hm,if_true]
     clear hz
     rw[hmm]
     simp(disch:=try exact dI) only[Ni,Ul,hm,aL,push_cast,seval]
     refine ap hc rfl ?_
     exact qsZ
    ·rw[show jm L 8 m e f=0 by simp only[jm,if_neg hm,if_true]]
     simp(disch:=try exact dI) only[Ni,Ul,hm,push_cast,seval]
   by_cases hk10:k=10
   ·subst hk10
    obtain⟨g,r,rfl,hx⟩:=h10 rfl
    obtain⟨n',nm',nd',⟨k',m',M',s',w',e',f'⟩,d'⟩:=g
    simp only[TFd.typ] at hx
    have hc:=ih _ hx
    have hl:=hle _ hx
    simp only[Ul] at hc
    generalize hz:L (Typ.mk k' m' M' s' w' e' f')=z at hc hl
    have hmm:jm L 10 m e (TFd.mk n' nm' nd' (Typ.mk k' m' M' s' w' e' f') d'::r)=z:=by simp[jm,Md,hz]
    clear hz
    rw[hmm]
    simp(disch:=try exact dI) only[Ni,Ul,aL,Ue,aw,push_cast,seval]
    refine ae.pure hc rfl ?_
    exact qsZ
   by_cases hk9:k=9
   ·subst hk9
    obtain⟨hf,hr⟩:=h9 rfl
    rw[show jm L 9 m e f=(f.map (dM L)).sum by simp[jm]]
    have hrp:∀ g∈f,0<=dM L g/\dM L g<=1000000000000:=fun g hg=>hpos g (hr g hg)
    simp(disch:=try exact dI) only[Ni,Ul,push_cast,seval]
    refine aK ([]) (fun i:Nat=>[(3,.pv (.int .i64 (1+((f.take i).map (dM L)).sum))),(38,.pv (.int .i64 (i:Int)))]) (fun _=>[]) (fun i=>i<=f.length) (fun i=>f.length - i) (0) ?_;intro e0 σ0 n0 h0;simp(disch:=try exact dI) only[push_cast,seval] at h0;obtain⟨rfl,rfl,rfl⟩:=h0;refine⟨?_,?_,?_⟩
    ·simp(disch:=try exact dI) only[List.take_zero,Vi,List.sum_nil,push_cast,seval]
    ·omega
    rintro i hi
    have hsm:=rZ (f.take i) fun g hg=>hrp g (List.mem_of_mem_take hg)
    rw[List.length_take] at hsm
    by_cases hlt:i<f.length
    ·have hltI:(i:Int)<(f.length:Int):=by omega
     obtain⟨g,hg⟩:∃ g,f[i]? = some g:=⟨_,Uo hlt⟩
     have hst:=Fu (p:=dM L) hg
     have hgr:=hr g (Uw hg)
     have hgp:=hrp g (Uw hg)
     obtain⟨n',nm',nd',⟨k',m',M',s',w',e',f'⟩,d'⟩:=g
     simp only[Bg] at hgr
     generalize hS:((f.take i).map (dM L)).sum=S at *
     by_cases h1:nd'=1
     ·subst h1
      have hc:=ih _ (hgr.1 rfl)
      simp only[Ul] at hc
      simp only[dM,if_true] at hst hgp
      generalize L (Typ.mk k' m' M' s' w' e' f')=z at hc hst hgp
      simp(disch:=try exact dI) only[hg,UD,Ue,Ul,aw,push_cast,seval]
      refine ae.pure hc rfl ?_
      refine zgZ ?_
      exact⟨i+1,bu (by simp(disch:=try exact dI) only[hst,Int.add_assoc,push_cast,seval]),by omega,by omega⟩
     ·by_cases h3:nd'=3
      ·subst h3
       obtain⟨x,r,rfl,hx⟩:=hgr.2 rfl
       have hc:=Kj (lvl x) x (u6 x) hx.1 (by have:=hx.2;omega)
       simp only[dM,if_neg h1,if_true,RF] at hst hgp
       generalize ((fm (lvl x) 1 x).length:Int)=z at hc hst hgp
       obtain⟨vk,vn,vs,vt,vl,vf⟩:=x
       simp only[Un] at hc
       simp(disch:=try exact dI) only[hg,UD,Ue,Ul,aw,aL,Un,push_cast,seval]
       refine ae.pure hc rfl ?_
       refine zgZ ?_
       exact⟨i+1,bu (by simp(disch:=try exact dI) only[hst,Int.add_assoc,push_cast,seval]),by omega,by omega⟩
      ·simp only[dM,if_neg h1,if_neg h3] at hst
       simp(disch:=try exact dI) only[hg,UD,Ue,Ul,aw,h1,h3,push_cast,seval]
       exact⟨i+1,bu (by simp(disch:=try exact dI) only[hst,Int.add_zero,push_cast,seval]),by omega,by omega⟩
    ·have he:i=f.length:=by omega
     subst he
     rw[U2] at hsm ⊢
     simp(disch:=try exact dI) only[Int.lt_irrefl,push_cast,seval]
   ·rw[show jm L k m e f=0 by simp[jm,hk8,hk9,hk10]]
    simp(disch:=try exact dI) only[Ni,Ul,push_cast,seval]
noncomputable def eJ:Nat->Typ->Int
 | 0,_=>0
 | n+1,.mk k m M s w e f=>f.foldl (fun a g=>max a (eJ n g.typ)) (e.foldl (fun a x=>max a (eJ n x)) (dy 9 (.mk k m M s w e f)))
def QA:Nat->Typ->Prop
 | 0,_=>False
 | n+1,.mk k m M s w e f=>fk 9 (.mk k m M s w e f)/\e.length<=9000000000000/\f.length<=9000000000000/\(∀ x∈e,QA n x)/\∀ g∈f,QA n g.typ
theorem nC {α β:Type}{p:β->α->β}{l:List α}{i:Nat}{x:α}(h:l[i]? = some x)(b:β):(l.take (i+1)).foldl p b=p ((l.take i).foldl p b) x:=by rw[bc h,List.foldl_append];rfl
theorem gC:∀ (n:Nat) (t:Typ),QA n t->au Tryz.prog aH 64 [t.pv] (.int .i64 (eJ n t))
 | 0,_,h=>h.elim
 | n+1,.mk k m M s w e f,h=>by
   have ih:=gC n
   simp only[QA] at h
   obtain⟨h1,hel,hfl,he,hf⟩:=h
   have hle:=jP 9 _ h1
   simp only[eJ]
   generalize dy 9 (.mk k m M s w e f)=z at *
   simp only[Ul] at hle
   obtain⟨Q,hQ⟩:∃ Q,Q=fun (a:Int) (x:Typ)=>max a (eJ n x):=⟨_,rfl⟩
   obtain⟨R,hR⟩:∃ R,R=fun (a:Int) (x:TFd)=>max a (eJ n x.typ):=⟨_,rfl⟩
   rw[<- hQ,<- hR]
   refine au.intro Q64.2 (by simp[Q64]) ?_
   simp(disch:=try exact dI) only[Q64,Ul,push_cast,seval]
   refine ae.pure hle rfl ?_
   refine zgZ ?_
   refine aK ([]) (fun i:Nat=>[(3,.pv (.int .i64 ((e.take i).foldl Q z))),(13,.pv (.int .i64 (i:Int)))]) (fun _=>[]) (fun i=>i<=e.length) (fun i=>e.length - i) (0) ?_;intro e0 σ0 n0 h0;simp(disch:=try exact dI) only[push_cast,seval] at h0;obtain⟨rfl,rfl,rfl⟩:=h0;refine⟨?_,?_,?_⟩
   ·simp(disch:=try exact dI) only[List.take_zero,List.foldl_nil,push_cast,seval]
   ·omega
   rintro i hi
   by_cases hlt:i<e.length
   ·have hltI:(i:Int)<(e.length:Int):=by omega
    obtain⟨x,hx⟩:∃ x,e[i]? = some x:=⟨_,Uo hlt⟩
    have hc:=ih x (he x (Uw hx))
    have hst:=nC (p:=Q) hx z
    rw[show Q ((e.take i).foldl Q z) x=max ((e.take i).foldl Q z) (eJ n x) by rw[hQ]] at hst
    generalize eJ n x=y at hc hst
    obtain⟨k',m',M',s',w',e',f'⟩:=x
    simp only[Ul] at hc
    simp(disch:=try exact dI) only[hx,UD,Ul,aw,push_cast,seval]
    refine ae.pure hc rfl ?_
    refine zgZ ?_
    exact⟨i+1,bu (by simp(disch:=try exact dI) only[hst,push_cast,seval]),by omega,by omega⟩
   obtain rfl:i=e.length:=by omega
   clear hi hlt
   rw[U2]
   generalize e.foldl Q z=z2
   simp(disch:=try exact dI) only[Int.lt_irrefl,push_cast,seval]
   refine aK ([]) (fun i:Nat=>[(3,.pv (.int .i64 ((f.take i).foldl R z2))),(25,.pv (.int .i64 (i:Int)))]) (fun _=>[]) (fun i=>i<=f.length) (fun i=>f.length - i) (0) ?_;intro e0 σ0 n0 h0;simp(disch:=try exact dI) only[push_cast,seval] at h0;obtain⟨rfl,rfl,rfl⟩:=h0;refine⟨?_,?_,?_⟩
   ·simp(disch:=try exact dI) only[List.take_zero,List.foldl_nil,push_cast,seval]
   ·omega
   rintro i hi
   by_cases hlt:i<f.length
   ·have hltI:(i:Int)<(f.length:Int):=by omega
    obtain⟨x,hx⟩:∃ x,f[i]? = some x:=⟨_,Uo hlt⟩
    have hc:=ih x.typ (hf x (Uw hx))
    have hst:=nC (p:=R) hx z2
    rw[show R ((f.take i).foldl R z2) x=max ((f.take i).foldl R z2) (eJ n x.typ) by rw[hR]] at hst
    generalize eJ n x.typ=y at hc hst
    obtain⟨n',nm',nd',⟨k',m',M',s',w',e',f'⟩,d'⟩:=x
    simp only[TFd.typ,Ul] at hc
    simp(disch:=try exact dI) only[hx,UD,Ul,Ue,aw,push_cast,seval]
    refine ae.pure hc rfl ?_
    refine zgZ ?_
    exact⟨i+1,bu (by simp(disch:=try exact dI) only[hst,push_cast,seval]),by omega,by omega⟩
   obtain rfl:i=f.length:=by omega
   clear hi hlt
   rw[U2]
   simp(disch:=try exact dI) only[Int.lt_irrefl,push_cast,seval]
theorem C4 (l:List TFd)(g:Nat)(cs:List PV)(q:TFd->Bool)(hq:∀ x∈l,au Tryz.prog aH g (x.pv::cs) (.bool (q x)))(hl:l.length<=9000000000000) :
  au Tryz.prog aH 254 [.list (l.map TFd.pv),.clo g [] cs] (.int .i64 (jw q l 0)):=by
 refine au.intro NP.2 (by simp[NP]) ?_
 simp(disch:=try exact dI) only[NP,push_cast,seval]
 refine aK ([]) (fun m:Nat=>[(8,.pv (.int .i64 (m:Int)))]) (fun m=>[]) (fun m=>m<=l.length/\jw q l 0=jw q (l.drop m) m) (fun m=>l.length - m) (0) ?_;intro e0 σ0 n0 h0;simp(disch:=try exact dI) only[push_cast,seval] at h0;obtain⟨rfl,rfl,rfl⟩:=h0;refine⟨?_,?_,?_⟩
 ·exact qsZ
 ·exact⟨by omega,by simp⟩
 ·rintro m ⟨hm,he⟩
  by_cases hlt:m<l.length
  ·have hltI:(m:Int)<l.length:=by omega
   obtain⟨x,hx⟩:∃ x,l[m]? = some x:=⟨_,Uo hlt⟩
   have hcall:=hq x (Uw hx)
   simp(disch:=try exact dI) only[hx,TFd.cells_len,TFd.isAgg,push_cast,seval]
   refine ae.pure hcall (by exact pW (x.pv::cs)) ?_
   cases hqx:q x with
   | true=>
     rw[he,lV hx hqx]
     exact qsZ
   | false=>
     rw[iJ hx hqx] at he
     refine zgZ ?_
     exact⟨m+1,bu qsZ,⟨by omega,he⟩,by omega⟩
  ·have hltI:¬ (m:Int)<l.length:=by omega
   rw[he,lW hlt]
   exact qsZ
theorem yG (l:List TFd)(g:Nat)(cs:List PV)(q:TFd->Bool)(hq:∀ x∈l,au Tryz.prog aH g (x.pv::cs) (.bool (q x)))(hl:l.length<=9000000000000) :
  au Tryz.prog aH 225 [.list (l.map TFd.pv),.clo g [] cs] (.bool (l.any q)):=by
 have h94:=C4 l g cs q hq hl
 have hfa:=kw (p:=q) l
 refine au.intro JH.2 (by simp[JH]) ?_
 rcases e8 (p:=q) l 0 with ⟨h1,h2⟩ | ⟨k,x,h1,h2,h3⟩
 ·rw[h2] at h94
  rw[h1] at hfa
  rw[<- hfa]
  simp(disch:=try exact dI) only[JH,push_cast,seval]
  refine ae.pure h94 rfl ?_
  refine zgZ ?_
  exact .refl _
 ·rw[h3] at h94
  rw[h2] at hfa
  rw[<- hfa]
  have hk:(0:Int)<=((0+k:Nat):Int):=by omega
  generalize ((0+k:Nat):Int)=z at *
  simp(disch:=try exact dI) only[JH,push_cast,seval]
  refine ae.pure h94 rfl ?_
  refine zgZ ?_
  exact .refl _

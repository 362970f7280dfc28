/- A part of the proof. -/
import Derived.Test.YtbojpfpliibfbaaGreatDoorCaRE9
set_option maxRecDepth 100000
set_option linter.unusedVariables false
set_option linter.unusedSimpArgs false
namespace Go.Proofs.YtbojpfpliibfbaaGreatDoor
open Go Go.Ab
theorem tK {v:List Nat}:∀ (Z:List (TFd×List UInt8)) (i:Nat),(∀ x∈Z,lm x.1 x.2=0)->kQ v Z i=(0,0)
 | [],_,_=>rfl
 | x::r,i,h=>by
   rw[kQ,if_pos (h x (List.mem_cons_self ..))]
   exact tK r (i+1) fun y hy=>h y (List.mem_cons_of_mem _ hy)
theorem tf:∀ {a b:List Nat},(a.map fun n:Nat=>(n:Int))=b.map (fun n:Nat=>(n:Int))->a=b
 | [],[],_=>rfl
 | [],_::_,h=>by simp at h
 | _::_,[],h=>by simp at h
 | x::a,y::b,h=>by
   simp only[List.map_cons,List.cons.injEq] at h
   rw[tf h.2,show x=y by omega]
theorem N3 {T:Nat}{p:PV}(t:Typ)(ht:t.ok)(w:List Int)(line:List UInt8)(hll:line.length<=1000000):∃ (P:PV) (V:Val) (n e:Int),
  ag Tryz.prog (dN T p) 17 [t.pv,.list (bJ w),.str line] (.tup [P,.int .i64 n,.int .i64 e])/\Nz P V.pv/\V.ok /\
  (P=eP\/∃ L,P=zx L)/\(e=0->n=0/\(∃ L,P=zx L)/\∃ v,DecOk t w line v/\V=lj ((cD t.fields line v).map fe))/\∀ v,DecOk t w line v->e=0/\V=lj ((cD t.fields line v).map fe):=by
 by_cases he:sE t w=0
 ·obtain⟨hb,hlen,h64,h0,hfl⟩:=gq ht he
  have hba:w.any Dd=false:=by
   unfold GQ at hb
   rw[Bool.or_eq_false_iff] at hb;exact hb.2
  obtain⟨v,hw,hs,hv⟩:=AO hba
  have hvv:∀ v',DecOk t w line v'->v'=v:=fun v' h=>tf (by rw[<- hw,<- h.nat])
  have hvl:t.fields.length=v.length:=by rw[<- hlen,hw,List.length_map]
  have hs0:=mP w fun x hx=>d9 hba hx
  by_cases hne:line.length=v.sum
  ·have hco:=f5 h0 ht hfl
   have h12:=sC t ht w
   have h50:=p8 w (by omega)
   rw[hb,if_neg (by decide),if_neg (by decide),hs] at h50
   have hF:kQ v (cD t.fields line v) 0=(0,0)->∀ x∈cD t.fields line v,lm x.1 x.2=0:=fun h=>(kP _ 0 (by rw[h])).2
   have hZl:=r4 (line:=line) hvl
   have hfs:=fun h=>fv (w:=w) ht h0 hfl hvl hll (hF h)
   have hl65:((cD t.fields line v).map fe).length<=65000:=by rw[List.length_map];omega
   have hr17:kQ v (cD t.fields line v) 0=(0,0)->ag Tryz.prog au 55 [.list ((cD t.fields line v).map fC)] (zx ((lj ((cD t.fields line v).map fe)).fields.map Fld.pv)):=fun h=>by
    obtain⟨f1,f2⟩:=hfs h
    have h55:=EG _ hl65 f1 f2
    unfold lj at h55 ⊢
    rw[Val.pv_mk] at h55
    exact h55.nz (.cons _ _ _ _ (.list _ _ (HP _)) .nil)
   rw[he,hw,fu] at h12
   rw[hw,fu] at h50
   have hi:bJ w=cS v:=by rw[hw,fu]
   have hf64:t.fields.length<=64:=by omega
   have h17:ag Tryz.prog (dN T p) 17 [t.pv,.list (cS v),.str line] (.tup [if (kQ v (cD t.fields line v) 0).2=0 then zx ((lj ((cD t.fields line v).map fe)).fields.map Fld.pv) else eP,.int .i64 (kQ v (cD t.fields line v) 0).1,.int .i64 (kQ v (cD t.fields line v) 0).2]):=by
    obtain⟨k,m,M,sc,wd,el,f⟩:=t
    exact wN k m M sc wd el f v line _ h12 h50 hne hll hvl hf64 hv hco hr17
   rw[<- hi] at h17
   by_cases hz:(kQ v (cD t.fields line v) 0).2=0
   ·rw[if_pos hz] at h17
    obtain⟨e1,e2⟩:=kP _ 0 hz
    obtain⟨f1,f2⟩:=hfs e1
    have hVo:(lj ((cD t.fields line v).map fe)).ok:=by
     unfold lj
     rw[Val.ok_mk]
     refine⟨⟨by omega,by omega⟩,⟨by omega,by omega⟩,⟨by omega,by omega⟩,by simp,by simp,by simp,?_,fun x hx=>f1 x (List.mem_filter.1 ((fl _).mem_iff.1 hx)).1⟩
     have h5:((cD t.fields line v).map fe).length<=64:=by rw[List.length_map];omega
     have:=List.length_filter_le bj ((cD t.fields line v).map fe)
     rw[fR];omega
    refine⟨_,lj ((cD t.fields line v).map fe),_,_,h17,?_,hVo,.inr ⟨_,rfl⟩,fun _=>⟨by rw[e1],⟨_,rfl⟩,v,⟨he,hw,hne,hvl,hv,e2⟩,rfl⟩,fun v' h=>⟨hz,by rw[hvv v' h]⟩⟩
    unfold lj zx
    rw[Val.pv_mk]
    exact .refl _
   ·rw[if_neg hz] at h17
    refine⟨eP,ef,_,_,h17,fO,jE,.inl rfl,fun h=>absurd h hz,fun v' h=>absurd ?_ hz⟩
    have hc:=h.cel
    rw[hvv v' h] at hc
    rw[tK _ 0 hc]
  ·have h17:=wM (T:=T) (p:=p) t ht w line he hb h64 hs0.1 hll (by omega)
   exact⟨eP,ef,_,_,h17,fO,jE,.inl rfl,fun h=>absurd h (tG (by omega)),fun v' h=>absurd (hvv v' h▸h.sum) hne⟩
 ·exact⟨eP,ef,0,sE t w,wO t ht w line he,fO,jE,.inl rfl,fun h=>absurd h he,fun v' h=>absurd h.rep he⟩
attribute [local irreducible] vc
theorem HU:∀ c:UInt8,¬ nib c<0->hxB (nib c).toNat=c/\(nib c).toNat<16:=by
 have key:∀ k:Fin 256,¬ nib (UInt8.ofNat k.val)<0->hxB (nib (UInt8.ofNat k.val)).toNat=UInt8.ofNat k.val/\(nib (UInt8.ofNat k.val)).toNat<16:=by decide +kernel
 intro c
 have h:=key ⟨c.toNat,c.toNat_lt⟩
 simpa using h
theorem pa:∀ {s b:List UInt8},kz s=some b->fD b=s
 | [],b,h=>by simp only[kz,Option.some.injEq] at h;subst h;rfl
 | [_],b,h=>by simp[kz] at h
 | x::y::r,b,h=>by
   rw[kz] at h
   by_cases hn:nib x<0\/nib y<0
   ·rw[if_pos hn] at h;cases h
   ·rw[if_neg hn,Option.map_eq_some_iff] at h
    obtain⟨q,h1,rfl⟩:=h
    obtain⟨a1,a2⟩:=HU x (fun e=>hn (.inl e))
    obtain⟨b1,b2⟩:=HU y (fun e=>hn (.inr e))
    have e:fD (DF x y::q)=hxB ((DF x y).toNat / 16)::hxB ((DF x y).toNat % 16)::fD q:=rfl
    have hb:(DF x y).toNat=16*(nib x).toNat+(nib y).toNat:=by
     unfold DF
     rw[UInt8.toNat_ofNat'];omega
    rw[e,pa h1,hb,show (16*(nib x).toNat+(nib y).toNat) / 16=(nib x).toNat by omega,show (16*(nib x).toNat+(nib y).toNat) % 16=(nib y).toNat by omega,a1,b1]
theorem yD {k sc:Int}{s:List UInt8}(hk:1<=k/\k<=7)(hs:s.length<=100000)(h:(rdC k sc s).2=0):ag Tryz.prog au (wrF k) [(lF k (rdC k sc s).1).pv] (.str s):=by
 have hc:k=1\/(k=2\/k=3)\/k=4\/k=5\/k=6\/k=7:=by omega
 unfold lF
 rcases hc with rfl | e | rfl | rfl | rfl | rfl
 ·rw[M8] at h ⊢
  unfold rdB at h ⊢
  by_cases h1:s=[84]
  ·subst h1
   rw[if_pos rfl]
   refine ag.intro Q84.2 (by simp[Q84]) ?_
   simp(disch:=try exact dI) only[Q84,Val.pv_mk,push_cast,seval]
  ·rw[if_neg h1] at h ⊢
   by_cases h2:s=[70]
   ·subst h2
    rw[if_pos rfl]
    refine ag.intro Q84.2 (by simp[Q84]) ?_
    simp(disch:=try exact dI) only[Q84,Val.pv_mk,q0,push_cast,seval]
   ·rw[if_neg h2] at h;cases h
 ·rw[show rdC k sc s=rdN sc s by unfold rdC;rw[if_neg (by omega),if_pos e]] at h ⊢
  rw[show wrF k=82 by rcases e with e | e<;>rw[e]<;>rfl]
  unfold rdN at h ⊢
  by_cases h1:(bi s).2=0
  ·rw[if_neg (fun q=>q h1)] at h ⊢
   by_cases h2:((bi s).1.2:Int)=sc
   ·rw[if_neg (fun q=>q h2)]
    obtain⟨g1,g2⟩:=oC h1
    have:=nX k [] [] [] g1
    rw[g2] at this
    exact this
   ·rw[if_pos h2] at h;cases h
  ·rw[if_pos h1] at h;cases h
 ·rw[zF] at h ⊢
  unfold rdT at h ⊢
  by_cases h1:Lib.validD s=false
  ·rw[if_pos h1] at h;cases h
  rw[if_neg h1] at h ⊢
  by_cases h2:wrB s=false
  ·rw[if_pos h2] at h;cases h
  rw[if_neg h2]
  refine ag.intro Q85.2 (by simp[Q85]) ?_
  simp(disch:=try exact dI) only[Q85,Val.pv_mk,push_cast,seval]
 ·rw[EJ] at h ⊢
  cases hh:kz s with
  | none=>rw[hh] at h;cases h
  | some b=>
    have hl:=nl hh
    have:=r6 (.mk 5 0 0 b [] []) (by show b.length<=_;omega)
    rw[show (Val.mk 5 0 0 b [] []).text=b from rfl,pa hh] at this
    exact this
 ·rw[JD] at h ⊢
  obtain⟨y,mo,d,hD,hn,rfl⟩:=qO (s:=s) (n:=(bV s).1) (by rw[<- h])
  have ht:=yF hD
  simp only at h ⊢
  rw[hn]
  generalize g7 y mo d - 719162=n at *
  generalize bS y mo d=X at *
  refine ag.intro Q87.2 (by simp[Q87]) ?_
  simp(disch:=try exact dI) only[Q87,Val.pv_mk,push_cast,seval]
  refine ab.pure ht rfl ?_
  exact qsZ
 ·rw[JC] at h ⊢
  obtain⟨y,mo,d,hh,mi,se,ms,hD,e1,e2,e3,e4,hn,rfl⟩:=j4 (s:=s) (n:=(bU s).1) (by rw[<- h])
  have ht:=lI hD e1 e2 e3 e4
  simp only at h ⊢
  rw[hn]
  generalize (g7 y mo d - 719162)*86400000+(((60*(hh:Int)+mi)*60+se)*1000+ms)=n at *
  generalize eW (bS y mo d) hh mi se ms=X at *
  refine ag.intro Q89.2 (by simp[Q89]) ?_
  simp(disch:=try exact dI) only[Q89,Val.pv_mk,push_cast,seval]
  refine ab.pure ht rfl ?_
  exact qsZ
theorem yA:∀ s:List UInt8,s=spS (s.length - (trL s).length)++trL s
 | []=>rfl
 | c::r=>by
   have ih:=yA r
   have hl:=n7 r
   rw[trL]
   by_cases h:c=32
   ·rw[if_pos h,List.length_cons,show r.length+1 - (trL r).length=(r.length - (trL r).length)+1 by omega,oc,List.cons_append,<- ih,h]
   ·rw[if_neg h,Nat.sub_self];rfl
theorem MB (s:List UInt8):s=trR s++spS (s.length - (trR s).length):=by
 have h:=yA s.reverse
 have h2:=congrArg List.reverse h
 rw[List.reverse_reverse,List.reverse_append,yU,List.length_reverse] at h2
 unfold trR
 rw[List.length_reverse]
 exact h2
theorem JU (k:Int)(c:List UInt8):nR k (bu k c) (c.length:Int)=c:=by
 unfold nR bu
 by_cases h:k=2\/k=3
 ·rw[if_pos h,if_pos h]
  have:=n7 c
  rw[show ((c.length:Int) - ((trL c).length:Int)).toNat=c.length - (trL c).length by omega]
  exact (yA c).symm
 ·rw[if_neg h,if_neg h]
  have:=Hj c
  rw[show ((c.length:Int) - ((trR c).length:Int)).toNat=c.length - (trR c).length by omega]
  exact (MB c).symm
theorem mL:∀ s:List UInt8,trL (trL s)=trL s
 | []=>rfl
 | c::r=>by
   rw[trL]
   by_cases h:c=32
   ·rw[if_pos h];exact mL r
   ·rw[if_neg h,trL,if_neg h]
theorem yQ (k:Int)(s:List UInt8):bu k (bu k s)=bu k s:=by
 unfold bu
 by_cases h:k=2\/k=3
 ·rw[if_pos h,if_pos h,mL]
 ·rw[if_neg h,if_neg h]
  unfold trR
  rw[List.reverse_reverse,mL]
theorem xb {line:List UInt8}{v:List Nat}(h:line.length=v.sum):((List.range v.length).map (bd line v)).flatten=line:=by
 have key:∀ i,i<=v.length->((List.range i).map (bd line v)).flatten=line.take (cg v i):=by
  intro i
  induction i with
  | zero=>intro _;simp[cg]
  | succ i ih=>
    intro hi
    rw[List.range_succ,List.map_append,List.flatten_append,ih (by omega)]
    have hn:=List.getElem?_eq_getElem (show i<v.length by omega)
    have hst:=dQ hn
    simp only[List.map_cons,List.map_nil,List.flatten_cons,List.flatten_nil,List.append_nil]
    unfold bd
    have h1:line.take (cg v i)=(line.take (cg v (i+1))).take (cg v i):=by rw[List.take_take,Nat.min_eq_left (by omega)]
    rw[h1]
    exact List.take_append_drop _ _
 rw[key v.length (Nat.le_refl _),sM,<- h,List.take_length]
theorem vN {a b:List Fld}(h:a.Perm b)(hb:dj b):dj a:=by
 unfold dj at *
 exact (h.map Fld.name).nodup_iff.2 hb
theorem oN {l:List Fld}(h:dj l)(q:Fld->Bool):dj (l.filter q):=by
 unfold dj at *
 exact h.sublist (List.filter_sublist.map Fld.name)
theorem FF {l:List Fld}(h:dj l){y z:Fld}(hy:y∈l)(hz:z∈l)(e:y.name=z.name):y=z:=by
 have h1:=jy h hy
 have h2:=jy h hz
 rw[e,h2] at h1
 exact (Option.some.inj h1).symm
theorem BS {l:List Fld}(hnd:dj l){y:Fld}(hy:y∈l):(lj l).fields.find? (bc y.name)=if bj y=true then some y else none:=by
 show (srt (l.filter bj)).find? (bc y.name)=_
 have hmem:∀ z,z∈srt (l.filter bj)↔z∈l/\bj z=true:=fun z=>by rw[(fl _).mem_iff,List.mem_filter]
 by_cases hk:bj y=true
 ·rw[if_pos hk]
  exact jy (vN (fl _) (oN hnd _)) ((hmem y).2 ⟨hy,hk⟩)
 ·rw[if_neg hk,List.find?_eq_none]
  intro z hz e
  obtain⟨hz1,hz2⟩:=(hmem z).1 hz
  have he:z.name=y.name:=of_decide_eq_true e
  rw[FF hnd hz1 hy he] at hz2
  exact hk hz2
theorem K3 {t:Typ}(h0:lN t=0)(ht:t.ok)(hfl:eS t=true):∀ g∈t.fields,g.need=3->∀ x r,g.dflt=x::r->FitS g.typ x:=fun g hg h3 x r hx=>by
 have hty:=go h0
 have hk:=(f5 h0 ht hfl g hg).kd
 obtain⟨h9,_,_⟩:=cj hfl
 obtain⟨k,m,M,s,wd,e,f⟩:=t
 have hde:=(hty.2.2 (.inl h9) g hg).2 h9
 obtain⟨n',nm',nd',t',d'⟩:=g
 simp only[TFd.need,TFd.dflt] at h3 hx
 subst h3 hx
 replace hde:(decide ((3:Int)=3)&&!(accB 7 t' x))=false:=hde
 rw[decide_eq_true rfl,Bool.true_and] at hde
 have hacc:accB 7 t' x=true:=by simpa using hde
 exact Dp hk hacc
theorem Ck {t:Typ}(h:aT t=true):t.kind=4\/t.kind=5:=by
 obtain⟨k,m,M,s,w,e,f⟩:=t
 replace h:(if k=4/\0<w.length then w.any fun x=>decide (x=[]) else (decide (k=4)||decide (k=5))&&decide (m=0))=true:=h
 simp only[Typ.kind]
 by_cases hc:k=4/\0<w.length
 ·exact .inl hc.1
 ·rw[if_neg hc] at h
  simp at h;exact h.1
theorem JB {t:Typ}(h:aT t=true):rdC t.kind t.scale []=(q0,0):=by
 rcases Ck h with e | e
 ·rw[e,zF,rdT,Lib.validD_nil];rfl
 ·rw[e,EJ];rfl
def xr (x:TFd×List UInt8):Bool:=decide (x.1.need=3)&&decide (trR x.2=[])
theorem Ln {g:TFd}{c:List UInt8}(h:xr (g,c)=false):¬ (g.need=3/\bu g.typ.kind c=[]):=fun e=>by
 unfold xr at h
 rw[decide_eq_true e.1,decide_eq_true ((Db g.typ.kind c).2 e.2)] at h
 cases h
theorem CT {g:TFd}{c:List UInt8}{V:Val}(hc:CellOk g)(hd:g.need=3->∀ x r,g.dflt=x::r->FitS g.typ x)(he:lm g c=0)(hl:c.length<=100000)(hb:xr (g,c)=false)(hfd:V.fields.find? (bc g.name)=if bj (fe (g,c))=true then some (fe (g,c)) else none):FTb V g (bu g.typ.kind c)/\(g.typ.kind=4->wrB (bu g.typ.kind c)=true):=by
 have hb:=Ln hb
 have hcf:=tX hc hd he
 have hkf:bj (fe (g,c))=!ba (jk g c):=rfl
 have hv:(fe (g,c)).value=jk g c:=rfl
 have hle:=mR g.typ.kind c
 have hk1:=hc.kd
 unfold lm at he
 have e0:bu g.typ.kind []=[]:=by unfold bu;split<;>rfl
 by_cases h0:bu g.typ.kind c=[]
 ·have hcv:jk g c=DG g:=if_pos h0
  rw[if_pos h0] at he
  rw[h0]
  refine⟨?_,fun _=>by decide⟩
  cases hem:aT g.typ with
  | true=>
    have hbv:DG g=lF g.typ.kind q0:=if_pos hem
    rw[hbv] at hcv
    have hn:ba (jk g c)=false:=by rw[hcv];exact dV hk1.1
    have hrd:=JB hem
    have htx:=yD (k:=g.typ.kind) (sc:=g.typ.scale) (s:=[]) hk1 (by simp) (by rw[hrd])
    rw[hrd] at htx
    rw[hkf,hn,if_pos (show (!false)=true from rfl)] at hfd
    refine .inr ⟨_,hfd,?_,?_⟩
    ·rcases hcf with ⟨q,_⟩ | ⟨_,q⟩
     ·rw[hn] at q;cases q
     ·exact q
    ·rw[hv,hcv]
     exact⟨htx,fun _=>⟨e0,hrd,fun _=>⟨hem,rfl⟩⟩⟩
  | false=>
    have h2:g.need=2:=Decidable.byContradiction fun h2=>by
     unfold ud at he
     rw[hem,if_neg (fun q=>q.elim (by decide) fun q=>q.elim h2 fun h3=>hb ⟨h3,h0⟩)] at he
     cases he
    have hbv:DG g=ef:=by unfold DG;rw[hem,if_neg (by decide),if_pos h2]
    rw[hbv] at hcv
    have hn:ba (jk g c)=true:=by rw[hcv];rfl
    rw[hkf,hn,if_neg (by decide)] at hfd
    exact .inl ⟨hfd,rfl,h2⟩
 ·rw[if_neg h0] at he
  obtain⟨hz,_⟩:=kO he
  have hcv:jk g c=lF g.typ.kind (rdR g.typ (bu g.typ.kind c)).1:=by
   unfold jk
   rw[if_neg h0,if_pos (.inl hz)]
  have hn:ba (jk g c)=false:=by rw[hcv];exact dV hk1.1
  have htx:=yD (k:=g.typ.kind) (sc:=g.typ.scale) (s:=bu g.typ.kind c) hk1 (by omega) hz
  rw[hkf,hn,if_pos (show (!false)=true from rfl)] at hfd
  refine⟨.inr ⟨_,hfd,?_,?_⟩,fun h4=>?_⟩
  ·rcases hcf with ⟨q,_⟩ | ⟨_,q⟩
   ·rw[hn] at q;cases q
   ·exact q
  ·rw[hv,hcv]
   exact⟨htx,fun _=>⟨yQ _ _,Prod.ext rfl hz,fun e=>absurd e h0⟩⟩
  ·unfold rdR at hz
   rw[h4,zF] at hz
   rw[h4]
   unfold rdT at hz
   by_cases h1:Lib.validD (bu 4 c)=false
   ·rw[if_pos h1] at hz;cases hz
   rw[if_neg h1] at hz
   by_cases h2:wrB (bu 4 c)=false
   ·rw[if_pos h2] at hz;cases hz
   simpa using h2
theorem Bs {f:List TFd}(h:(f.map TFd.name).Nodup){i j:Nat}{g:TFd}(hi:f[i]? = some g)(hj:f[j]? = some g):i=j:=by
 obtain⟨h1,e1⟩:=List.getElem?_eq_some_iff.1 hi
 obtain⟨h2,e2⟩:=List.getElem?_eq_some_iff.1 hj
 have hp:=List.pairwise_iff_getElem.1 h
 rcases Nat.lt_trichotomy i j with c | c | c
 ·have:=hp i j (by simpa using h1) (by simpa using h2) c
  simp only[List.getElem_map] at this
  exact absurd (by rw[e1,e2]) this
 ·exact c
 ·have:=hp j i (by simpa using h2) (by simpa using h1) c
  simp only[List.getElem_map] at this
  exact absurd (by rw[e1,e2]) this
theorem CW {line:List UInt8}{v:List Nat}{i n:Nat}(h:line.length=v.sum)(hn:v[i]? = some n):(bd line v i).length=n:=by
 have h1:=dQ hn
 have h2:=qJ v (i+1)
 unfold bd
 rw[List.length_drop,List.length_take];omega
theorem Lj {t:Typ}{w:List Int}{line:List UInt8}{v:List Nat}(ht:t.ok)(hll:line.length<=100000)(h:DecOk t w line v):∃ T:TFd->List UInt8,(∀ g∈t.fields,FTb (lj ((cD t.fields line v).map fe)) g (T g))/\LJ T t.fields w/\((cD t.fields line v).any xr=false->gN T t.fields w []=(line,0)):=by
 obtain⟨_,hlen,_,h0,hfl⟩:=gq ht h.rep
 have hco:=f5 h0 ht hfl
 obtain⟨_,_,hrl⟩:=gr h.rep
 have hst:=gu t.fields w 0 hlen.symm hrl
 obtain⟨_,hnd⟩:=fv (w:=w) ht h0 hfl h.len (by omega) h.cel
 have hnm:=kE h0
 obtain⟨T0,hT0,hL0⟩:=yC h0 ht hfl (Ct ht (by omega) h)
 have hz:=fun (i:Nat) (g:TFd) (hg:t.fields[i]? = some g)=>pP (line:=line) hg (show i<v.length by rw[<- h.len];exact (List.getElem?_eq_some_iff.1 hg).1)
 have hwn:∀ (i:Nat) (n:Int),w[i]? = some n->((bd line v i).length:Int)=n:=fun i n hn=>by
  rw[h.nat,List.getElem?_map,Option.map_eq_some_iff] at hn
  obtain⟨m,hm,rfl⟩:=hn
  rw[CW h.sum hm]
 have key:∀ g∈t.fields,∃ tx,FTb (lj ((cD t.fields line v).map fe)) g tx/\∀ (i:Nat) (n:Int),t.fields[i]? = some g->w[i]? = some n->((tx.length:Nat):Int)<=n/\(xr (g,bd line v i)=false->tx=bu g.typ.kind (bd line v i)/\(g.typ.kind=4->wrB tx=true)):=fun g hg=>by
  obtain⟨i,hi,hgi⟩:=List.getElem_of_mem hg
  have hgi:t.fields[i]? = some g:=by rw[List.getElem?_eq_getElem hi,hgi]
  cases hb:xr (g,bd line v i) with
  | true=>
    refine⟨T0 g,hT0 g hg,fun j n hj hn=>⟨?_,fun hb2=>?_⟩⟩
    ·obtain⟨s1,_,s3⟩:=fk (hst j g n hj hn)
     exact hL0 g hg n s1 s3
    ·rw[<- Bs hnm hgi hj,hb] at hb2;cases hb2
  | false=>
    have hx:=List.mem_of_getElem? (hz i g hgi)
    have hcl:(bd line v i).length<=100000:=by
     unfold bd
     rw[List.length_drop,List.length_take];omega
    obtain⟨q1,q2⟩:=CT (hco g hg) (K3 h0 ht hfl g hg) (h.cel _ hx) hcl hb (BS hnd (List.mem_map_of_mem hx))
    refine⟨_,q1,fun j n hj hn=>?_⟩
    rw[<- Bs hnm hgi hj] at hn ⊢
    refine⟨?_,fun _=>⟨rfl,q2⟩⟩
    have h1:=hwn i n hn
    have h2:=mR g.typ.kind (bd line v i)
    show (((bu g.typ.kind (bd line v i)).length:Nat):Int)<=n
    omega
 obtain⟨T,hT,hR⟩:=HF key
 refine⟨T,hT,fun i g n a b=>(hR g (List.mem_of_getElem? a) i n a b).1,fun hb=>?_⟩
 have hno:∀ (i:Nat) (g:TFd),t.fields[i]? = some g->xr (g,bd line v i)=false:=fun i g hg=>by
  have:=List.any_eq_false.1 hb _ (List.mem_of_getElem? (hz i g hg))
  simpa using this
 have hall:∀ (i:Nat) (g:TFd) (n:Int),t.fields[i]? = some g->w[i]? = some n->T g=bu g.typ.kind (bd line v i)/\(g.typ.kind=4->wrB (T g)=true):=fun i g n a b=>(hR g (List.mem_of_getElem? a) i n a b).2 (hno i g a)
 have he:(gN T t.fields w []).2=0:=Ch _ _ _ fun g hg=>by
  obtain⟨i,hi,hgi⟩:=List.getElem_of_mem hg
  have hgi:t.fields[i]? = some g:=by rw[List.getElem?_eq_getElem hi,hgi]
  exact (hall i g _ hgi (List.getElem?_eq_getElem (show i<w.length by omega))).2
 have h1:=(iF t.fields w [] hlen.symm he).1
 have hcs:fM T t.fields w=(List.range v.length).map (bd line v):=by
  refine List.ext_getElem? fun i=>?_
  by_cases hi:i<t.fields.length
  ·have hgi:=List.getElem?_eq_getElem hi
   have hwi:=List.getElem?_eq_getElem (show i<w.length by omega)
   rw[k8 hgi hwi,List.getElem?_map,List.getElem?_range (by rw[<- h.len];exact hi),Option.map_some,(hall i _ _ hgi hwi).1,<- hwn i _ hwi,JU]
  ·rw[List.getElem?_eq_none (by rw[iK hlen.symm];omega),List.getElem?_eq_none (by rw[List.length_map,List.length_range,<- h.len];omega)]
 rw[hcs,List.nil_append,xb h.sum] at h1
 exact Prod.ext h1 he
def Qe (f:Nat)(ps:List PV):Option PV:=
 match f with
 | 17=>match ps with
   | [a,b,c]=>if eqP 8 a Pt=true/\eqP 8 b Ms=true/\eqP 8 c Kq=true then some (.tup [NP,.int .i64 0,.int .i64 0]) else none
   | _=>none
 | f=>Qf f ps
theorem JX:∀ f ps r,Qe f ps=some r->ag Tryz.prog au f ps r:=by
 intro f ps r h
 unfold Qe at h
 split at h
 ·split at h
  ·split at h
   ·rename_i hh
    cases h
    rw[pj _ _ _ hh.1,pj _ _ _ hh.2.1,pj _ _ _ hh.2.2]
    exact GB
   ·cases h
  ·cases h
 ·exact iq _ _ _ h
theorem Si:Al (exF (Hv.map gFn) Qe au 5000 60) 11 []=some (.bool true):=by kernel_rfl
theorem Ku:ag Tryz.prog au 11 [] (.bool true):=ag.of_ex (lL lM) JX Si
theorem wj (w:List Int)(n:Nat):(bJ w).take n=bJ (w.take n):=by simp[bJ]
theorem QM (w:List Int):ag Tryz.prog au 10 [.list (bJ w)] (.list (bJ (w.take 70))):=by
 refine ag.intro Q10.2 (by simp[Q10]) ?_
 rw[<- wj]
 by_cases h:w.length<=70
 ·have hm:min (w.length:Int) 70=(w.length:Int):=by omega
  have e:(bJ w).take 70=(bJ w).take w.length:=by rw[List.take_of_length_le (by rw[bq];omega),List.take_of_length_le (by rw[bq];omega)]
  rw[e]
  simp(disch:=try exact dI) only[Q10,hm,bq,push_cast,seval]
 ·have hm:min (w.length:Int) 70=70:=by omega
  have hl:(70:Int)<=(w.length:Int):=by omega
  simp(disch:=try exact dI) only[Q10,hm,bq,push_cast,seval]
theorem IZ (s:List UInt8)(hs:s.length<=140737488351232):ag Tryz.prog au 16 [.str s] (.str (s.take 10000)):=by
 have hm:(min (s.length:Int) 10000).toNat=min s.length 10000:=by omega
 have ht:s.take (min s.length 10000)=s.take 10000:=by
  by_cases h:s.length<=10000
  ·rw[Nat.min_eq_left h,List.take_length,List.take_of_length_le h]
  ·rw[Nat.min_eq_right (by omega)]
 refine ag.intro Q16.2 (by simp[Q16]) ?_
 simp(disch:=try exact dI) only[Q16,hm,ht,push_cast,seval]
end Go.Proofs.YtbojpfpliibfbaaGreatDoor

/- A part. -/
import Derived.Test.YtamoeblcphjbaaaGreatDoorBlMQ1
set_option linter.unusedVariables false
set_option linter.unusedSimpArgs false
set_option maxRecDepth 100000
open List renaming cons_append->UJ,nil_append->UK,take_append_drop->VD,singleton_append->Vp,length_cons->Ut,length_append->Us,length->Vl,length_nil->Ux,length_drop->UC,mem_cons_of_mem->Vr,map_cons->UE,append_assoc->U3
open UInt8 renaming toNat_inj->US
namespace Go.Proofs.YtamoeblcphjbaaaGreatDoor
open Go Go.Ab
def Ra (r:List UInt8):Prop:=∀ c,r.head? = some c->az c=true
theorem mC:∀ c:UInt8,az c=true->isD c=false/\bA c=false/\c≠46/\c≠100/\c≠34:=fH (by decide +kernel)
theorem PT {q:UInt8->Bool}{r:List UInt8}(h:Ra r)(hq:∀ c,az c=true->q c=false):(r.head?.any q)=false:=by
 cases hr:r.head? with
 | none=>rfl
 | some c=>exact hq c (h c hr)
theorem DJ {q:UInt8->Bool}:∀ (l:List UInt8),((l.dropWhile q).head?.any q)=false
 | []=>rfl
 | x::r=>by
   rw[List.dropWhile_cons]
   by_cases hx:q x=true
   ·rw[if_pos hx];exact DJ r
   ·rw[if_neg hx];simpa using hx
theorem IL {q:UInt8->Bool}:∀ (l:List UInt8),(l.takeWhile q).all q=true
 | []=>rfl
 | x::r=>by
   rw[List.takeWhile_cons]
   by_cases hx:q x=true
   ·rw[if_pos hx,List.all_cons,hx,IL r];rfl
   ·rw[if_neg hx];rfl
theorem fM (q:UInt8->Bool)(s:List UInt8)(a:Nat):∃ N r,s.drop a=N++r/\aN q s a=a+N.length/\N.all q=true/\(r.head?.any q)=false:=
 ⟨(s.drop a).takeWhile q,(s.drop a).dropWhile q,(List.takeWhile_append_dropWhile ..).symm,rfl,IL _,DJ _⟩
theorem KD {q:UInt8->Bool}{s:List UInt8}{i:Nat}{c:UInt8}(hc:s[aN q s i]? = some c):q c=false:=by
 obtain⟨N,r,h1,h2,_,h4⟩:=fM q s i
 rw[h2,oL (gr h1)] at hc
 rw[hc] at h4
 exact h4
theorem DV:∀ {s a b:List UInt8},fB 125 s=some (a,b)->∀ x∈a,x≠125
 | [],a,b,h=>by cases h
 | c::r,a,b,h=>by
   rw[fB] at h
   by_cases hc:c=125
   ·rw[if_pos hc] at h;cases h;simp
   ·rw[if_neg hc] at h
    cases hr:fB 125 r with
    | none=>rw[hr] at h;cases h
    | some q=>
      rw[hr] at h
      simp only[Option.map_some,Option.some.injEq,Prod.mk.injEq] at h
      obtain⟨rfl,rfl⟩:=h
      intro x hx
      rcases List.mem_cons.1 hx with rfl | hx
      ·exact hc
      ·exact DV hr x hx
theorem HL {s:List UInt8}(h:(eQ s).2=0)(r:List UInt8):eQ (s.take (eQ s).1.2++r)=eQ s:=by
 cases s with
 | nil=>cases h
 | cons c t=>
   cases hk:oS c with
   | some b=>
     rw[iS hk]
     simp only[List.take_succ_cons,List.take_zero,UJ,UK]
     exact iS hk
   | none=>
     have e:=vV (r:=t) hk
     by_cases hp:fD [117,123] (c::t)=true
     ·rw[if_pos hp] at e
      rw[e] at h ⊢
      cases hcut:fB 125 ((c::t).drop 2) with
      | none=>rw[DC hcut] at h;cases h
      | some q=>
        obtain⟨a,b⟩:=q
        by_cases hl:a.length<1\/6<a.length
        ·rw[vT hcut hl] at h;cases h
        rw[vU hcut hl] at h ⊢
        have hn:=DV hcut
        have hd:=(eL 0 hcut).2
        have hs:c::t=[117,123]++(a++125::b):=by
         have:(c::t)=(c::t).take 2++(c::t).drop 2:=(VD 2 _).symm
         rw[this,hd]
         congr 1
         unfold fD at hp
         have:=of_decide_eq_true hp
         exact this.1
        obtain⟨n,hA⟩:∃ n,jv 0 a=some n:=by
         cases hA:jv 0 a with
         | none=>rw[hA] at h;cases h
         | some n=>exact⟨n,rfl⟩
        rw[hA] at h ⊢
        unfold HM at h ⊢
        cases hP:eC n with
        | none=>simp[hP] at h
        | some tx=>
          simp only[hP] at h ⊢
          have htk:(c::t).take (a.length+3)=[117,123]++(a++[125]):=by
           rw[hs]
           have:[117,123]++(a++125::b)=([117,123]++(a++[125]))++b:=by simp
           rw[this,List.take_left' (by simp)]
          rw[htk]
          have hc2:c=117:=by
           have:=congrArg List.head? hs
           simpa using this
          have hk':oS 117=none:=by rw[<- hc2];exact hk
          have hform:[117,123]++(a++[125])++r=(117:UInt8)::(123::(a++125::r)):=by simp
          rw[hform,vV hk',if_pos (by simp[fD])]
          have hcut2:fB 125 (((117:UInt8)::(123::(a++125::r))).drop 2)=some (a,r):=oZ a r hn
          rw[vU hcut2 hl,hA]
          unfold HM
          simp only[hP]
     ·rw[if_neg hp] at e
      rw[e] at h;cases h
theorem oa:∀ (f:Nat) (l:List UInt8) (i:Nat) (o:List UInt8) {out:List UInt8} {nx:Nat},ia f l i o = .done out nx ->
  ∃ a b,l=a++b/\nx=i+a.length/\∀ (g:Nat) (r:List UInt8) (j:Nat),a.length<g->ia g (a++r) j o = .done out (j+a.length)
 | 0,l,i,o,out,nx,h=>by cases h
 | f+1,[],i,o,out,nx,h=>by cases h
 | f+1,c::t,i,o,out,nx,h=>by
   by_cases h1:c.toNat=34
   ·rw[fJ h1] at h
    cases h
    refine⟨[c],t,rfl,rfl,fun g r j hg=>?_⟩
    obtain⟨g,rfl⟩:∃ k,g=k+1:=⟨g - 1,by omega⟩
    rw[Vp,fJ h1];rfl
   by_cases h2:c.toNat<32\/c.toNat=127
   ·rw[eU h1 h2] at h;cases h
   by_cases h3:c.toNat=92
   ·by_cases ht:t=[]
    ·subst ht;rw[dL h3] at h;cases h
    rw[d7 h3 ht] at h
    by_cases he:(eQ t).2=0
    ·rw[if_pos he] at h
     obtain⟨a,b,ha,hn,hg⟩:=oa f _ _ _ h
     obtain⟨l1,l2,_,_⟩:=iQ he
     have hp:=HL he
     generalize hX:t.take (eQ t).1.2=X at *
     have hXl:X.length=(eQ t).1.2:=by rw[<- hX,List.length_take];omega
     have ht2:t=X++(a++b):=by rw[<- hX,<- ha,VD]
     refine⟨c::(X++a),b,by rw[ht2];simp,?_,fun g r j hg'=>?_⟩
     ·rw[hn];simp only[Ut,Us];omega
     ·simp only[Ut,Us] at hg'
      obtain⟨g,rfl⟩:∃ k,g=k+1:=⟨g - 1,by omega⟩
      have e1:(c::(X++a))++r=c::(X++(a++r)):=by simp
      have hne:X++(a++r)≠[]:=by
       intro q
       have:=congrArg Vl q
       simp only[Us,Ux] at this
       omega
      rw[e1,d7 h3 hne,hp (a++r),if_pos he,<- hXl,List.drop_left,hg g r _ (by omega)]
      congr 1
      simp only[Ut,Us];omega
    ·rw[if_neg he] at h;cases h
   ·rw[cy h1 h2 h3] at h
    obtain⟨a,b,ha,hn,hg⟩:=oa f _ _ _ h
    refine⟨c::a,b,by rw[ha];rfl,by rw[hn];simp only[Ut];omega,fun g r j hg'=>?_⟩
    simp only[Ut] at hg'
    obtain⟨g,rfl⟩:∃ k,g=k+1:=⟨g - 1,by omega⟩
    rw[UJ,cy h1 h2 h3,hg g r _ (by omega)]
    congr 1
    simp only[Ut];omega
theorem oH:∀ (l:List UInt8) (i:Nat) (q:Option Nat) (o:List UInt8) {out:List UInt8} {nx:Nat},eb l i q o = .done out nx ->
  ∃ a b,l=a++b/\nx=i+a.length/\∀ (r:List UInt8) (j:Nat),eb (a++r) j q o = .done out (j+a.length)
 | [],i,q,o,out,nx,h=>by cases h
 | c::t,i,q,o,out,nx,h=>by
   by_cases h1:c.toNat=34/\q=none
   ·obtain⟨h1,rfl⟩:=h1
    rw[oJ h1] at h
    cases h
    refine⟨[c],t,rfl,rfl,fun r j=>?_⟩
    rw[Vp,oJ h1];rfl
   cases hv:eP c with
   | none=>rw[lP h1 hv] at h;cases h
   | some n=>
     cases q with
     | none=>
       rw[vD hv] at h
       obtain⟨a,b,ha,hn,hg⟩:=oH t _ _ _ h
       refine⟨c::a,b,by rw[ha];rfl,by rw[hn];simp only[Ut];omega,fun r j=>?_⟩
       rw[UJ,vD hv,hg r _]
       congr 1
       simp only[Ut];omega
     | some p=>
       rw[vC hv] at h
       obtain⟨a,b,ha,hn,hg⟩:=oH t _ _ _ h
       refine⟨c::a,b,by rw[ha];rfl,by rw[hn];simp only[Ut];omega,fun r j=>?_⟩
       rw[UJ,vC hv,hg r _]
       congr 1
       simp only[Ut];omega
def zg (s:List UInt8)(p:Nat)(L:Rd):Prop:=
 ∃ tx r0,tx≠[]/\s.drop p=tx++r0/\L=⟨s,p+tx.length,{ L.now with pos:=p,text:=tx },0,0⟩/\L.now.kind≠0/\∀ u j r,u.drop j=tx++r->Ra r->A u j=⟨u,j+tx.length,{ L.now with pos:=j },0,0⟩
theorem iA {s:List UInt8}{p:Nat}{k:Int}{v:Bool}{out:List UInt8}{nx:Nat}(h:v=true->Lib.validD out=true):bq ⟨s,p,{ pos:=p },0,0⟩ p k v (.done out nx)=⟨s,nx,{ kind:=k,pos:=p,bytes:=out },0,0⟩:=by
 unfold bq
 simp only
 rw[if_neg (fun q=>by rw[h q.1] at q;exact absurd q.2 (by decide))]
theorem J4 {s:List UInt8}{p:Nat}{c:UInt8}(hc:s[p]? = some c)(h:c.toNat=34)(he:(de (rI ⟨s,p,{ pos:=p },0,0⟩ p) p).e=0):zg s p (de (rI ⟨s,p,{ pos:=p },0,0⟩ p) p):=by
 have hc34:c=34:=US.1 (by simpa using h)
 subst hc34
 rw[kO] at he
 have hd:=aU hc
 unfold rI at he ⊢
 simp only at he ⊢
 cases hz:ia (s.length+1) (s.drop (p+1)) (p+1) [] with
 | short=>rw[hz] at he;exact absurd he (bn (by decide))
 | bad j e=>
   rw[hz] at he
   by_cases hx:e=0
   ·subst hx;exact absurd hz (kQ _ _ _ _)
   ·exact absurd he (bn hx)
 | done out nx=>
   rw[hz] at he
   have hv:Lib.validD out=true:=by
    cases hv:Lib.validD out with
    | true=>rfl
    | false=>
      unfold bq at he
      simp only at he
      rw[if_pos ⟨trivial,hv⟩] at he
      exact absurd he (bn (R:=⟨s,p,{ pos:=p },0,0⟩) (by decide))
   obtain⟨a,b,ha,hn,hg⟩:=oa _ _ _ _ hz
   rw[iA (fun _=>hv)]
   have htx:s.drop p=(34::a)++b:=by rw[hd,ha];rfl
   have hnx:nx=p+(34::a:List UInt8).length:=by rw[hn];simp only[Ut];omega
   subst hnx
   refine⟨34::a,b,by simp,htx,?_,?_,fun u j r hu hr=>?_⟩
   ·rw[cW rfl]
    simp only
    rw[b9 htx]
   ·rw[cW rfl];simp
   ·obtain⟨q1,q2⟩:=db (c:=34) (r:=a++r) hu
    have hal:a.length<u.length+1:=by
     have:=congrArg Vl hu
     simp only[UC,Us,Ut] at this
     omega
    rw[JN q1 (by decide),LY rfl]
    unfold rI
    simp only
    rw[q2,hg _ r _ hal,iA (fun _=>hv),cW rfl,cW rfl]
    simp only
    have e1:j+1+a.length=j+(34::a:List UInt8).length:=by simp only[Ut];omega
    rw[e1,b9 hu,b9 htx]
theorem J6 {s:List UInt8}{p:Nat}{c:UInt8}(hc:s[p]? = some c)(h:c.toNat=120/\s[p+1]? = some 34)(he:(de (rK ⟨s,p,{ pos:=p },0,0⟩ p) p).e=0):zg s p (de (rK ⟨s,p,{ pos:=p },0,0⟩ p) p):=by
 have hc120:c=120:=US.1 (by simpa using h.1)
 subst hc120
 rw[kO] at he
 have hd:=aU hc
 rw[aU h.2] at hd
 unfold rK at he ⊢
 simp only at he ⊢
 cases hz:eb (s.drop (p+2)) (p+2) none [] with
 | short=>rw[hz] at he;exact absurd he (bn (by decide))
 | bad j e=>
   rw[hz] at he
   by_cases hx:e=0
   ·subst hx;exact absurd hz (lQ _ _ _ _)
   ·exact absurd he (bn hx)
 | done out nx=>
   obtain⟨a,b,ha,hn,hg⟩:=oH _ _ _ _ hz
   rw[iA (fun q=>by cases q)]
   have htx:s.drop p=(120::34::a)++b:=by rw[hd,show p+1+1=p+2 from rfl,ha];rfl
   have hnx:nx=p+(120::34::a:List UInt8).length:=by rw[hn];simp only[Ut];omega
   subst hnx
   refine⟨120::34::a,b,by simp,htx,?_,?_,fun u j r hu hr=>?_⟩
   ·rw[cW rfl]
    simp only
    rw[b9 htx]
   ·rw[cW rfl];simp
   ·obtain⟨q1,q2⟩:=db (c:=120) (r:=34::(a++r)) hu
    obtain⟨q3,q4⟩:=db q2
    rw[JN q1 (by decide),LX ⟨rfl,q3⟩]
    unfold rK
    simp only
    rw[show j+2=j+1+1 from rfl,q4,hg r _,iA (fun q=>by cases q),cW rfl,cW rfl]
    simp only
    have e1:j+1+1+a.length=j+(120::34::a:List UInt8).length:=by simp only[Ut];omega
    rw[e1,b9 hu,b9 htx]
theorem ta:∀ c:UInt8,aM c=true->bA c=true:=fH (by decide +kernel)
theorem Fb {s:List UInt8}{p:Nat}{c:UInt8}(hc:s[p]? = some c)(hb:az c=false)(h2:¬ (c.toNat=120/\s[p+1]? = some 34))(h3:aM c=true):zg s p (A s p):=by
 have hd:=aU hc
 obtain⟨N,r0,e1,e2,e3,e4⟩:=fM bA s p
 rw[hd] at e1
 obtain⟨N',rfl⟩:∃ N',N=c::N':=by
  cases N with
  | nil=>
    rw[UK] at e1
    rw[<- e1] at e4
    have:bA c=false:=e4
    rw[ta c h3] at this;cases this
  | cons x N'=>
    rw[UJ] at e1
    obtain⟨rfl,_⟩:=List.cons.inj e1
    exact⟨N',rfl⟩
 have htx:s.drop p=(c::N')++r0:=by rw[hd,e1]
 have hx:¬ (c.toNat=120/\(N'++r0).head? = some 34):=fun q=>h2 ⟨q.1,by
  have:=(db (c:=c) (r:=N'++r0) htx).2
  rw[oL this];exact q.2⟩
 have hA:=JL htx rfl h3 hx e3 e4
 rw[hA]
 refine⟨c::N',r0,by simp,htx,rfl,by simp,fun u j r hu hr=>?_⟩
 refine JL hu rfl h3 (z8 rfl e3 ?_) e3 (PT hr fun c hc=>(mC c hc).2.1)
 intro q
 exact (mC 34 (hr 34 q)).2.2.2.2 rfl
inductive NumF:List UInt8->List UInt8->Bool->Bool->Prop
 | int {r:List UInt8}:(r.head?.any isD)=false->¬ (r[0]? = some 46/\(r[1]?.any isD)=true)->¬ r[0]? = some 100->NumF [] r false false
 | dot {M r:List UInt8} {c:UInt8} {M':List UInt8}:M=c::M'->M.all isD=true->(r.head?.any isD)=false->NumF (46::M) r true false
 | dec {r:List UInt8}:NumF [100] r true true
theorem NumF.first {F r:List UInt8}{d x:Bool}(h:NumF F r d x):((F++r).head?.any isD)=false:=by
 cases h with
 | int h1 _ _=>exact h1
 | dot _ _ _=>rfl
 | dec=>rfl
theorem NumF.ends {F r r':List UInt8}{d x:Bool}(h:NumF F r d x)(hr:Ra r'):NumF F r' d x:=by
 have h1:(r'.head?.any isD)=false:=PT hr fun c hc=>(mC c hc).1
 have h0:r'[0]? = r'.head?:=List.head?_eq_getElem?.symm
 cases h with
 | int _ _ _=>
   refine .int h1 (fun q=>?_) (fun q=>?_)
   ·rw[h0] at q
    exact (mC 46 (hr 46 q.1)).2.2.1 rfl
   ·rw[h0] at q
    exact (mC 100 (hr 100 q)).2.2.2.1 rfl
 | dot a b _=>exact .dot a b h1
 | dec=>exact .dec
theorem NumF.at {s F r:List UInt8}{d x:Bool}{z:Nat}(h:NumF F r d x)(hz:s.drop z=F++r):mL s z=(z+F.length,d,x):=by
 cases h with
 | int h1 h2 h3=>
   rw[UK] at hz
   have e:∀ k,s[z+k]? = r[k]?:=fun k=>by rw[<- hz,List.getElem?_drop]
   exact ea (fun q=>h2 ⟨by rw[<- e 0];exact q.1,by rw[<- e 1];exact q.2⟩) (fun q=>h3 (by rw[<- e 0];exact q))
 | @dot M r c M' hM ha hr=>
   obtain⟨z1,z2⟩:=db (c:=46) (r:=M++r) hz
   have hM1:s[z+1]? = some c:=by rw[oL z2,hM];rfl
   have hc1:isD c=true:=by rw[hM] at ha;simp only[List.all_cons,Bool.and_eq_true] at ha;exact ha.1
   rw[qo ⟨z1,by rw[hM1];exact hc1⟩,og z2 ha hr]
   simp only[Ut]
   rw[show z+1+M.length=z+(M.length+1) by omega]
 | dec=>
   obtain⟨z1,z2⟩:=db (c:=100) (r:=r) hz
   exact lB (fun q=>by rw[z1] at q;exact absurd q.1 (by decide)) z1
theorem Cb {s sg N F r:List UInt8}{p:Nat}{d x:Bool}(h:s.drop p=sg++(N++(F++r)))(hsg:sg=[]\/sg=[45]){c0:UInt8}{N':List UInt8}(hN:N=c0::N')(hNa:N.all isD=true)(hF:NumF F r d x) :
  qm ⟨s,p,{ pos:=p },0,0⟩ p=zu ⟨s,p,{ pos:=p },0,0⟩ p (p+(sg++(N++F)).length,d,x) (aW (ct (sg++(N++F))))/\∃ c,s[p]? = some c/\(isD c=true\/c=45):=by
 have hc0:isD c0=true:=by rw[hN] at hNa;simp only[List.all_cons,Bool.and_eq_true] at hNa;exact hNa.1
 obtain⟨a,hadef⟩:∃ a,a=p+sg.length:=⟨_,rfl⟩
 have hda:s.drop a=N++(F++r):=by rw[hadef];exact gr h
 have hz:aN isD s a=a+N.length:=og hda hNa hF.first
 have hdz:s.drop (a+N.length)=F++r:=gr hda
 have hN1:1<=N.length:=by rw[hN];simp
 obtain⟨c,hc,hcd,hca⟩:∃ c,s[p]? = some c/\(isD c=true\/c=45)/\(if s[p]? = some 45 then p+1 else p)=a:=by
  rcases hsg with rfl | rfl
  ·have:s.drop p=c0::(N'++(F++r)):=by rw[h,hN];rfl
   obtain⟨q1,q2⟩:=db this
   refine⟨c0,q1,.inl hc0,?_⟩
   rw[q1,if_neg (fun q=>(Pz hc0).1 (Option.some.inj q)),hadef];simp
  ·obtain⟨q1,q2⟩:=db (c:=45) (r:=N++(F++r)) h
   exact⟨45,q1,.inr rfl,by rw[q1,if_pos rfl,hadef];rfl⟩
 refine⟨?_,c,hc,hcd⟩
 have hE:=hF.at hdz
 have hlen:a+N.length+F.length=p+(sg++(N++F)).length:=by rw[hadef];simp only[Us];omega
 rw[hlen] at hE
 have htx:s.drop p=(sg++(N++F))++r:=by rw[h];simp
 rw[cH (R:=⟨s,p,{ pos:=p },0,0⟩) hca hz (by omega) hE]
 simp only
 rw[b9 htx]
theorem Ja {s sg N F r:List UInt8}{p:Nat}{d x:Bool}(h:s.drop p=sg++(N++(F++r)))(hsg:sg=[]\/sg=[45]){c0:UInt8}{N':List UInt8}(hN:N=c0::N')(hNa:N.all isD=true)(hF:NumF F r d x){n:Int}{sc:Nat}(hq:aW (ct (sg++(N++F)))=((n,sc),0)) :
  A s p=⟨s,p+(sg++(N++F)).length,{ kind:=2,pos:=p,text:=sg++(N++F),num:=n,sc:=sc,dec:=d,exa:=x },0,0⟩:=by
 obtain⟨h1,c,hc,hcd⟩:=Cb h hsg hN hNa hF
 obtain⟨hlex,hbl⟩:=CD (s:=s) (i:=p) hcd
 have htx:s.drop p=(sg++(N++F))++r:=by rw[h];simp
 rw[JN hc hbl,hlex,h1,hq,cJ,de,if_pos rfl]
 simp only
 rw[b9 htx]
theorem J5 {s:List UInt8}{p:Nat}{c:UInt8}(hc:s[p]? = some c)(hcd:isD c=true\/c=45)(he:(A s p).e=0):zg s p (A s p):=by
 obtain⟨hlex,hbl⟩:=CD (s:=s) (i:=p) hcd
 have hAe:=he
 rw[JN hc hbl,hlex,kO] at he
 obtain⟨sg,hsg,hpa,hds⟩:∃ sg:List UInt8,(sg=[]\/sg=[45])/\(if s[p]? = some 45 then p+1 else p)=p+sg.length/\s.drop p=sg++s.drop (p+sg.length):=by
  by_cases h:s[p]? = some 45
  ·exact⟨[45],.inr rfl,if_pos h,aU h⟩
  ·exact⟨[],.inl rfl,if_neg h,rfl⟩
 obtain⟨N,r1,e1,e2,e3,e4⟩:=fM isD s (p+sg.length)
 cases N with
 | nil=>
   rw[ly (R:=⟨s,p,{ pos:=p },0,0⟩) hpa e2] at he
   exact absurd he (bn (by decide))
 | cons c0 N'=>
   obtain⟨F,r,d,x,hr1,hF⟩:∃ F r d x,r1=F++r/\NumF F r d x:=by
    by_cases k1:r1[0]? = some 46/\(r1[1]?.any isD)=true
    ·obtain⟨M,r,m1,_,m3,m4⟩:=fM isD r1 1
     have hr:r1=46::r1.drop 1:=by
      have:=aU k1.1
      rwa [List.drop_zero] at this
     have hh:(M++r).head? = r1[1]?:=by rw[<- m1,List.head?_drop]
     cases M with
     | nil=>
       rw[UK] at hh
       rw[hh,k1.2] at m4;cases m4
     | cons y M'=>exact⟨46::(y::M'),r,true,false,by rw[hr,m1];rfl,.dot rfl m3 m4⟩
    ·by_cases k2:r1[0]? = some 100
     ·refine⟨[100],r1.drop 1,true,true,?_,.dec⟩
      have:=aU k2
      rwa [List.drop_zero] at this
     ·exact⟨[],r1,false,false,rfl,.int e4 k1 k2⟩
   subst hr1
   have hh:s.drop p=sg++((c0::N')++(F++r)):=by rw[hds,e1]
   obtain⟨h1,_⟩:=Cb hh hsg rfl e3 hF
   rw[h1] at he
   obtain⟨n,sc,hq⟩:∃ n sc,aW (ct (sg++((c0::N')++F)))=((n,sc),0):=by
    generalize aW (ct (sg++((c0::N')++F)))=q at he ⊢
    obtain⟨⟨n,sc⟩,e⟩:=q
    by_cases hx:e=0
    ·subst hx;exact⟨n,sc,rfl⟩
    ·rw[cI hx] at he
     exact absurd he (bn hx)
   have hA:=Ja hh hsg rfl e3 hF hq
   have htx:s.drop p=(sg++((c0::N')++F))++r:=by rw[hh];simp
   rw[hA]
   refine⟨sg++((c0::N')++F),r,by simp,htx,rfl,by simp,fun u j r' hu hr=>?_⟩
   have hu':u.drop j=sg++((c0::N')++(F++r')):=by rw[hu];simp
   exact Ja hu' hsg rfl e3 (hF.ends hr) hq
theorem JM {s r:List UInt8}{i:Nat}(h:s.drop i=46::46::r):A s i=⟨s,i+2,{ kind:=5,pos:=i,text:=[46,46] },0,0⟩:=by
 obtain⟨hc,hd⟩:=db h
 obtain⟨hc2,_⟩:=db hd
 rw[JN hc (by decide),Ps (by decide) (by rintro⟨q,_⟩;exact absurd q (by decide)) (by decide) (by decide) ⟨rfl,hc2⟩,de,if_pos rfl]
 simp only
 have:=b9 (a:=[46,46]) (b:=r) h
 simp only[Ut,Ux] at this
 rw[this]
theorem N8 {s:List UInt8}{p:Nat}{c:UInt8}(hc:s[p]? = some c)(hb:az c=false)(he:(A s p).e=0):zg s p (A s p):=by
 have hA:=JN hc hb
 by_cases h1:c.toNat=34
 ·rw[LY h1] at hA
  rw[hA] at he ⊢
  exact J4 hc h1 he
 by_cases h2:c.toNat=120/\s[p+1]? = some 34
 ·rw[LX h2] at hA
  rw[hA] at he ⊢
  exact J6 hc h2 he
 by_cases h3:aM c=true
 ·exact Fb hc hb h2 h3
 by_cases h4:isD c=true\/c.toNat=45
 ·refine J5 hc (h4.imp id fun q=>US.1 (by simpa using q)) he
 have hd:=aU hc
 by_cases h5:c.toNat=46/\s[p+1]? = some 46
 ·have hc46:c=46:=US.1 (by simpa using h5.1)
  subst hc46
  rw[aU h5.2] at hd
  have hA:=JM hd
  rw[hA]
  exact⟨[46,46],_,by simp,hd,rfl,by simp,fun u j r hu _=>JM hu⟩
 by_cases h6:pi c=true
 ·have hA:=QV hd h6
  rw[hA]
  exact⟨[c],_,by simp,hd,rfl,by simp,fun u j r hu _=>QV hu h6⟩
 ·rw[Pr h1 h2 h3 h4 h5 h6] at hA
  rw[hA,kO] at he
  exact absurd he (bn (by decide))
inductive TokL (s:List UInt8):Nat->List (List UInt8)->Prop
 | nil {i:Nat}:(A s i).e=0->(A s i).now.kind=0->TokL s i []
 | cons {i:Nat} {l:List (List UInt8)}:(A s i).e=0->(A s i).now.kind≠0->TokL s (A s i).next l->TokL s i ((A s i).now.text::l)
theorem QW (s:List UInt8)(i:Nat):A s i=A s (aN az s i):=by
 have e:aN az s (aN az s i)=aN az s i:=by
  obtain⟨N,r,h1,h2,_,h4⟩:=fM az s i
  rw[h2]
  have:=og (q:=az) (N:=[]) (gr h1) rfl h4
  simpa using this
 unfold A aT
 simp only[e]
 rw[if_pos trivial,if_pos trivial]
theorem jD {s:List UInt8}{i:Nat}(he:(A s i).e=0):(∃ m,s.length<=m/\A s i=⟨s,m,{ pos:=m },0,0⟩)\/zg s (aN az s i) (A s i):=by
 have hsk:=QW s i
 have hno:=fun c=>KD (q:=az) (s:=s) (i:=i) (c:=c)
 generalize aN az s i=p at *
 cases hc:s[p]? with
 | none=>
   have hl:=List.getElem?_eq_none_iff.1 hc
   exact .inl ⟨p,hl,hsk.trans (Nw hl)⟩
 | some c=>
   rw[hsk] at he ⊢
   exact .inr (N8 hc (hno c hc) he)
theorem mg {s:List UInt8}{m:Nat}(h:s.length<=m):∀ n,Il n ⟨s,m,{ pos:=m },0,0⟩=⟨s,m,{ pos:=m },0,0⟩
 | 0=>rfl
 | n+1=>by
   have:aT ⟨s,m,{ pos:=m },0,0⟩=⟨s,m,{ pos:=m },0,0⟩:=(Ik rfl rfl).trans (Nw h)
   rw[Il,this]
   exact mg h n
theorem Str.ends {s u:List UInt8}{m k:Nat}(h:s.length<=m)(h':u.length<=k):Str ⟨s,m,{ pos:=m },0,0⟩ ⟨u,k,{ pos:=k },0,0⟩:=fun n=>by
 rw[mg h,mg h']
 exact⟨rfl,fun _=>⟨rfl,rfl,rfl,rfl,rfl,rfl,rfl⟩⟩
def bv:List (List UInt8×List UInt8)->List UInt8
 | []=>[]
 | x::r=>x.1++(x.2++bv r)
theorem wU:∀ (l:List (List UInt8×List UInt8)) (z:List UInt8),(∀ x∈l,x.1≠[]/\∀ c∈x.1,az c=true)->(∀ c∈z,az c=true)->Ra (bv l++z)
 | [],z,_,hz=>fun c hc=>hz c (List.mem_of_head? (by simpa[bv] using hc))
 | x::r,z,h,_=>fun c hc=>by
   obtain⟨h1,h2⟩:=h x (by simp)
   cases hx:x.1 with
   | nil=>exact absurd hx h1
   | cons d t=>
     rw[bv,hx] at hc
     simp only[UJ,List.head?_cons,Option.some.injEq] at hc
     exact h2 c (by rw[hx,hc];simp)
theorem ph {s:List UInt8}:∀ (b r:List UInt8) (i:Nat),s.drop i=b++r->(∀ c∈b,az c=true)->A s i=A s (i+b.length)
 | [],r,i,h,_=>by simp
 | c::b,r,i,h,hb=>by
   obtain⟨h1,h2⟩:=db (c:=c) (r:=b++r) h
   rw[Nx h1 (hb c (by simp)),ph b r (i+1) h2 fun d hd=>hb d (Vr _ hd)]
   congr 1
   simp only[Ut];omega
theorem Kb {s u z:List UInt8}(hz:∀ c∈z,az c=true){i:Nat}{l:List (List UInt8)}(h:TokL s i l):∀ (L:List (List UInt8×List UInt8)) (j:Nat),L.map Prod.snd=l->(∀ x∈L,x.1≠[]/\∀ c∈x.1,az c=true)->u.drop j=bv L++z->Str (A s i) (A u j):=by
 induction h with
 | @nil i he hk=>
   intro L j hL hb hu
   rw[List.map_eq_nil_iff] at hL
   subst hL
   rw[bv,UK] at hu
   have e1:A u j=⟨u,j+z.length,{ pos:=j+z.length },0,0⟩:=by
    rw[ph z [] j (by rw[hu,List.append_nil]) hz]
    refine Nw ?_
    have:=congrArg Vl hu
    rw[UC] at this
    omega
   rcases jD he with ⟨m,hm,e⟩ | ⟨tx,r0,_,_,_,q,_⟩
   ·rw[e,e1]
    refine Str.ends hm ?_
    have:=congrArg Vl hu
    rw[UC] at this
    omega
   ·exact absurd hk q
 | @cons i l he hk ht ih=>
   intro L j hL hb hu
   cases L with
   | nil=>cases hL
   | cons x L=>
     rw[UE] at hL
     obtain⟨hx,hL⟩:=List.cons.inj hL
     obtain⟨b1,b2⟩:=hb x (by simp)
     have hb':=fun y hy=>hb y (Vr _ hy)
     rw[bv,U3,U3] at hu
     have e1:=ph x.1 _ j hu b2
     have hu2:=gr hu
     rcases jD he with ⟨m,hm,e⟩ | ⟨tx,r0,t1,t2,t3,t4,t5⟩
     ·rw[e] at hk;exact absurd rfl hk
     ·have htx:(A s i).now.text=tx:=by rw[t3]
      rw[htx] at hx
      rw[hx] at hu2
      have e2:=t5 u (j+x.1.length) (bv L++z) hu2 (wU L z hb' hz)
      have hn:=ih L (j+x.1.length+tx.length) hL hb' (gr hu2)
      have hoff:(A s i).off=0:=by rw[t3]
      have hs:(A s i).s=s:=by rw[t3]
      have hstep:aT (A s i)=A s (A s i).next:=by
       have:=Ik he hoff
       rwa [hs] at this
      have hq:A u j=⟨u,j+x.1.length+tx.length,{ (A s i).now with pos:=j+x.1.length },0,0⟩:=e1.trans e2
      have hstep':aT (A u j)=A u (j+x.1.length+tx.length):=by rw[hq];exact Ik rfl rfl
      intro n
      cases n with
      | zero=>
        refine⟨?_,fun _=>?_⟩
        ·show (A s i).e=(A u j).e
         rw[he,hq]
        ·show eqK (A s i).now (A u j).now
         rw[hq]
         exact⟨rfl,rfl,rfl,rfl,rfl,rfl,rfl⟩
      | succ n=>
        show QG (Il n (aT (A s i))) (Il n (aT (A u j)))
        rw[hstep,hstep']
        exact hn n
theorem uo {s:List UInt8}(h:s.length<=65536):aY s=A s 0:=by
 rw[kU (by omega)];rfl
theorem Aq {s:List UInt8}{i:Nat}{l:List (List UInt8)}(h:TokL s i l):(l.map Vl).sum<=s.length - i/\l.length<=s.length - i:=by
 induction h with
 | nil _ _=>simp
 | @cons i l he hk ht ih=>
   rcases jD he with ⟨m,hm,e⟩ | ⟨tx,r0,t1,t2,t3,_,_⟩
   ·rw[e] at hk;exact absurd rfl hk
   ·have hn:(A s i).next=aN az s i+tx.length:=by rw[t3]
    have htx:(A s i).now.text=tx:=by rw[t3]
    have hl:=congrArg Vl t2
    rw[UC,Us] at hl
    have h0:tx.length≠0:=fun q=>t1 (List.eq_nil_of_length_eq_zero q)
    have hp:i<=aN az s i:=df
    rw[hn] at ih
    rw[htx,UE,List.sum_cons,Ut]
    omega
theorem m9:∀ (L:List (List UInt8×List UInt8)),(∀ x∈L,x.1.length<=2)->(bv L).length<=2*L.length+((L.map Prod.snd).map Vl).sum
 | [],_=>by simp[bv]
 | x::r,h=>by
   have:=m9 r fun y hy=>h y (Vr _ hy)
   have:=h x (by simp)
   rw[bv,UE,UE,List.sum_cons,Us,Us,Ut]
   omega
theorem pE {s z:List UInt8}(hz:∀ c∈z,az c=true)(hz1:z.length<=1){L:List (List UInt8×List UInt8)}(hs:s.length<=500)(h:TokL s 0 (L.map Prod.snd))(hb:∀ x∈L,x.1≠[]/\(∀ c∈x.1,az c=true)/\x.1.length<=2) :
  (bv L++z).length<=65536/\Str (aY s) (aY (bv L++z)):=by
 have h1:=Aq h
 have h2:=m9 L fun x hx=>(hb x hx).2.2
 rw[List.length_map] at h1
 have hl:(bv L++z).length<=65536:=by rw[Us];omega
 refine⟨hl,?_⟩
 rw[uo (by omega),uo hl]
 exact Kb hz h L 0 rfl (fun x hx=>⟨(hb x hx).1,(hb x hx).2.1⟩) (by rw[List.drop_zero])
theorem E5 {s s':List UInt8}(hs:s.length<=65536)(hs':s'.length<=65536)(h:Str (aY s) (aY s')) :
  (cU (aR srt 8 0) 8 (aY s)).1=(cU (aR srt 8 0) 8 (aY s')).1/\(dR (cU (aR srt 8 0) 8 (aY s)).2).e=(dR (cU (aR srt 8 0) 8 (aY s')).2).e:=by
 have h2:Two s s' (aY s) (aY s'):=⟨d9 s,di s,fK s,d9 s',di s',fK s',h⟩
 obtain⟨e1,e2⟩:=vq hs hs' (ig s hs 8 0) (ig s' hs' 8 0) (kM hs hs' 8 0) 8 _ _ h2
 exact⟨e1,e2.finish⟩

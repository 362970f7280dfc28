/- A part of the proof. -/
import Derived.Test.YtbojpfpliibfbaaGreatDoorRtRC11
set_option maxRecDepth 100000
set_option linter.unusedVariables false
set_option linter.unusedSimpArgs false
namespace Go.Proofs.YtbojpfpliibfbaaGreatDoor
open Go Go.Ab
def Cj:List (List UInt8)->List Nat->List Int->List UInt8
 | m::ms,k::ks,v::l=>m++(aP k v.toNat++Cj ms ks l)
 | _,_,_=>[]
theorem nT {p s:List UInt8}(h:pa p s=true):s=p++s.drop p.length:=by
 have h1:=(of_decide_eq_true h).1
 have h2:=List.take_append_drop p.length s
 rw[h1] at h2
 exact h2.symm
theorem oa {k:Nat}{s:List UInt8}{p:Int×List UInt8}(h:qk k s=some p):s=aP k p.1.toNat++p.2/\0<=p.1:=by
 unfold qk at h
 split at h
 ·rename_i hh
  cases h
  have e:=El (s.take k) hh.2
  rw[List.length_take,Nat.min_eq_left hh.1] at e
  simp only
  rw[e,List.take_append_drop]
  exact⟨rfl,(cD _ 0 (by omega) hh.2).1⟩
 ·cases h
theorem nY:∀ (ms:List (List UInt8)) (ks:List Nat) (s:List UInt8) (l:List Int) (r:List UInt8),bZ ms ks s=some (l,r)->s=Cj ms ks l++r/\∀ x,x∈l->0<=x
 | [],ks,s,l,r,h=>by
   simp only[bZ,Option.some.injEq,Prod.mk.injEq] at h
   obtain⟨rfl,rfl⟩:=h
   exact⟨by simp[Cj],by simp⟩
 | m::ms,[],s,l,r,h=>by simp[bZ] at h
 | m::ms,k::ks,s,l,r,h=>by
   simp only[bZ] at h
   split at h
   ·rename_i hp
    split at h
    ·rename_i p hn
     simp only[Option.map_eq_some_iff] at h
     obtain⟨q,hq,he⟩:=h
     cases he
     obtain⟨q1,q2⟩:=q
     have ih:=nY ms ks p.2 q1 q2 hq
     have hb:=oa hn
     refine⟨?_,?_⟩
     ·rw[Cj,List.append_assoc,List.append_assoc,<- ih.1,<- hb.1]
      exact nT hp
     ·intro x hx
      rcases List.mem_cons.1 hx with rfl | hx
      ·exact hb.2
      ·exact ih.2 x hx
    ·cases h
   ·cases h
theorem BF {y m d n:Int}(h:ki y m d=(n,0)):DateOk y m.toNat d/\n=iL y m.toNat d - 719162:=by
 unfold ki at h
 split at h
 ·rename_i hd
  cases h
  exact⟨(qR hd).1,rfl⟩
 ·simp at h
theorem tD {r:List UInt8}{ms:Int}(h:pq r=some ms):0<=ms/\ms<=999/\r=(if ms.toNat=0 then [] else [46]++aP 3 ms.toNat)++[90]:=by
 unfold pq at h
 split at h
 ·rename_i hp
  split at h
  ·rename_i p hn
   split at h
   ·cases h
   ·rename_i hc
    cases h
    have hb:=oa hn
    have hle:p.1<=999:=by
     unfold qk at hn
     split at hn
     ·rename_i hh
      cases hn
      exact (rC hh.2).2
     ·cases hn
    have hnz:p.1≠0:=fun h=>hc (Or.inl h)
    have hq:p.2=[90]:=Decidable.of_not_not fun h=>hc (Or.inr h)
    refine⟨hb.2,hle,?_⟩
    rw[if_neg (by omega)]
    rw[hq] at hb
    have:=nT hp
    rw[this]
    have e:=hb.1
    simp only[List.length_cons,List.length_nil,Nat.zero_add] at e ⊢
    rw[e,List.append_assoc]
  ·cases h
 ·split at h
  ·rename_i hr
   cases h
   exact⟨by omega,by omega,by simp[hr]⟩
  ·cases h
theorem pW {s:List UInt8}{n:Int}(h:bY s=(n,0)):∃ (y:Int) (m:Nat) (d:Int) (hh mi sec ms:Nat),DateOk y m d/\hh<=23/\mi<=59/\sec<=59/\ms<=999 /\
  n=(iL y m d - 719162)*86400000+(((60*(hh:Int)+mi)*60+sec)*1000+ms)/\s=fh (cr y m d) hh mi sec ms:=by
 unfold bY at h
 split at h
 ·rename_i y m d hh mi sec r hn
  split at h
  ·rename_i ms ht
   obtain⟨hb,hpos⟩:=nY _ _ _ _ _ hn
   obtain⟨t1,t2,t3⟩:=tD ht
   unfold xE at h
   split at h
   ·simp at h
   ·rename_i hc
    have hz:(ki y m d).2=0:=Decidable.of_not_not fun h=>hc (Or.inl h)
    have b1:¬ 23<hh:=fun h=>hc (Or.inr (Or.inl h))
    have b2:¬ 59<mi:=fun h=>hc (Or.inr (Or.inr (Or.inl h)))
    have b3:¬ 59<sec:=fun h=>hc (Or.inr (Or.inr (Or.inr h)))
    have p1:=hpos hh (by simp)
    have p2:=hpos mi (by simp)
    have p3:=hpos sec (by simp)
    obtain⟨d1,d2⟩:=BF (y:=y) (m:=m) (d:=d) (n:=(ki y m d).1) (by rw[<- hz])
    have e:=congrArg Prod.fst h
    simp only at e
    refine⟨y,m.toNat,d,hh.toNat,mi.toNat,sec.toNat,ms.toNat,d1,by omega,by omega,by omega,by omega,?_,?_⟩
    ·rw[<- e,d2];omega
    ·rw[hb,t3]
     simp[Cj,msT,ksT,fh,cr]
  ·simp at h
 ·simp at h
attribute [local irreducible] vc
theorem zc {s:List UInt8}(h:(bi s).2=0):IsN (bi s).1.1 (bi s).1.2/\bT (bi s).1.1 (bi s).1.2=s:=by
 unfold bi at h ⊢
 split at h
 ·cases h
 ·split at h
  ·cases h
  ·split at h
   ·rename_i h1 h2 h3
    rw[if_neg h1,if_neg h2,if_pos h3]
    exact h3
   ·cases h
theorem zd (s:List UInt8):-1000000000000000000<=(cG s).1/\(cG s).1<=1000000000000000000:=by
 unfold cG
 split
 ·rename_i y m d hn
  rcases G1 y m d with h | h
  ·have:=lI h;omega
  ·unfold ki at h ⊢
   split
   ·rename_i hh;rw[if_pos hh] at h;cases h
   ·simp
 ·simp
theorem zb {s:List UInt8}(h:(bY s).2=0):-1000000000000000000<=(bY s).1/\(bY s).1<=1000000000000000000:=by
 obtain⟨y,m,d,hh,mi,sec,ms,h1,h2,h3,h4,h5,h6,h7⟩:=pW (s:=s) (n:=(bY s).1) (by rw[<- h])
 have:=eY h1
 omega
def QOk (q:Qt):Prop:=I64 q.1/\I64 q.2.1/\q.2.2.length<=1000000
theorem qok (a b:Int)(s:List UInt8)(h1:-1000000000000000000<=a/\a<=1000000000000000000)(h2:-1000000000000000000<=b/\b<=1000000000000000000)(h3:s.length<=1000000):QOk (a,b,s):=
 ⟨⟨show _<=a by omega,show a<=_ by omega⟩,⟨show _<=b by omega,show b<=_ by omega⟩,h3⟩
theorem pQ:QOk q0:=⟨⟨by decide,by decide⟩,⟨by decide,by decide⟩,by decide⟩
theorem Gy (k sc:Int)(s:List UInt8)(hs:s.length<=1000000)(h:(rdC k sc s).2=0):QOk (rdC k sc s).1:=by
 unfold rdC at h ⊢
 split
 ·unfold rdB
  split
  ·exact qok _ _ _ (by decide) (by decide) (by decide)
  ·split<;>exact pQ
 ·rename_i h1
  rw[if_neg h1] at h
  split
  ·rename_i h2
   rw[if_pos h2] at h
   unfold rdN at h ⊢
   split
   ·exact pQ
   ·split
    ·exact pQ
    ·rename_i h3 h4
     obtain⟨⟨a,b,c⟩,_⟩:=zc (Decidable.byContradiction h3)
     exact qok _ _ _ (by omega) (by omega) (by simp)
  ·rename_i h2
   rw[if_neg h2] at h
   split
   ·unfold rdT
    split
    ·exact pQ
    ·split
     ·exact pQ
     ·exact qok _ _ _ (by decide) (by decide) hs
   ·split
    ·cases hh:nk s with
     | none=>exact pQ
     | some b=>
       have:=sA hh
       exact qok _ _ _ (by decide) (by decide) (by omega)
    ·rename_i h3 h4
     rw[if_neg h3,if_neg h4] at h
     split
     ·have:=zd s
      exact qok _ _ _ (by omega) (by decide) (by simp)
     ·rename_i h5
      rw[if_neg h5] at h
      have:=zb h
      exact qok _ _ _ (by omega) (by decide) (by simp)
def wD (k:Int)(q:Qt):Val:=.mk k q.1 q.2.1 q.2.2 [] []
theorem pj {k:Int}{q:Qt}(hk:1<=k/\k<=7)(h:QOk q):(wD k q).ok:=by
 unfold wD
 rw[Val.ok_mk]
 exact⟨⟨by omega,by omega⟩,h.1,h.2.1,by have:=h.2.2;omega,by simp,by simp,by simp,by simp⟩
theorem pk (k:Int)(q:Qt):Nz (pl k q) (wD k q).pv:=by
 unfold wD pl iE
 rw[Val.pv_mk]
 repeat' constructor
def wH (t:Typ)(q:Qt):Bool:=(bq 1 t (wD t.kind q) []).isEmpty
theorem JG (t:Typ)(q:Qt)(ht:eq 1 t)(hk:1<=t.kind/\t.kind<=7)(hq:QOk q):ag Tryz.prog au 42 [t.pv,pl t.kind q] (.bool (wH t q)):=by
 have hv:=pj hk hq
 have key:ag Tryz.prog au 42 [t.pv,(wD t.kind q).pv] (.bool (wH t q)):=by
  unfold wH
  generalize wD t.kind q=v at *
  have h56:=A4 t v [] false [] _ (sP 1 v hv) ht hk.2 hv (by simp) ⟨by simp,by simp⟩ rfl
  have e:=Cr (bq 1 t v []) []
  generalize dw false [] (bq 1 t v [])=S at *
  obtain⟨Sd,Sl⟩:=S
  simp only at e
  have e2:(bq 1 t v []).isEmpty=!Sd:=by rw[e,Bool.not_not]
  rw[e2]
  obtain⟨k,m,M,s,w,e,fs⟩:=t
  obtain⟨vk,vi,vs,vt,vl,vf⟩:=v
  simp only[bM,Typ.pv_mk,Val.pv_mk,List.map_nil] at h56
  refine ag.intro Q42.2 (by simp[Q42]) ?_
  simp(disch:=try exact dI) only[Q42,Typ.pv_mk,Val.pv_mk,push_cast,seval]
  refine ab.lentK h56 [4,2] rfl qsZ qsZ ?_
  exact qsZ
 exact key.nz (.cons _ _ _ _ (Nz.refl _) (.cons _ _ _ _ (pk _ _) .nil))
theorem mT:∀ (f a b:Nat),a<=b->(bf f a).length<=(bf f b).length
 | 0,_,_,_=>by simp[bf]
 | f+1,a,b,h=>by
   have ih:=mT f (a / 10) (b / 10) (Nat.div_le_div_right h)
   rw[bf,bf]
   by_cases ha:a<10
   ·rw[if_pos ha]
    by_cases hb:b<10
    ·rw[if_pos hb];simp
    ·rw[if_neg hb];simp
   ·rw[if_neg ha,if_neg (by omega)]
    simp only[List.length_append,List.length_cons,List.length_nil];omega
theorem mV (n:Int)(sc:Nat):(bT n sc).length=(if n<0 then 1 else 0)+(max (dl n.natAbs) (sc+1) - sc)+(if sc=0 then 0 else sc+1):=by
 unfold bT
 rw[List.length_append,List.length_append,eT]
 by_cases h:n<0
 ·rw[if_pos h,if_pos h]
  by_cases h0:sc=0
  ·rw[if_pos h0,if_pos h0];simp
  ·rw[if_neg h0,if_neg h0];simp only[List.length_cons,List.length_nil,eT];omega
 ·rw[if_neg h,if_neg h]
  by_cases h0:sc=0
  ·rw[if_pos h0,if_pos h0];simp
  ·rw[if_neg h0,if_neg h0];simp only[List.length_cons,List.length_nil,eT];omega
theorem J0 {n m M:Int}(sc:Nat)(h1:m<=n)(h2:n<=M):((bT n sc).length:Int)<=max ((bT m sc).length:Int) ((bT M sc).length:Int):=by
 rw[mV,mV,mV]
 by_cases h:n<0
 ·have hm:=mT 20 n.natAbs m.natAbs (by omega)
  rw[if_pos h,if_pos (show m<0 by omega)]
  unfold dl;omega
 ·have hm:=mT 20 n.natAbs M.natAbs (by omega)
  rw[if_neg h,if_neg (show ¬ M<0 by omega)]
  unfold dl;omega
theorem Fg {t:Typ}{x:Val}{p:List UInt8}(h:bq 1 t x p=[]):x.kind=t.kind/\ae x=true:=by
 rw[aK] at h
 by_cases a:t.kind<1\/10<t.kind\/¬ x.kind=t.kind
 ·rw[dJ a] at h;cases h
 ·cases b:ae x with
  | false=>rw[f7 a b] at h;cases h
  | true=>exact⟨Decidable.byContradiction fun hh=>a (.inr (.inr hh)),rfl⟩
theorem p5 {a b:Int}{p:List UInt8}{n:Int}(h:uB a b p n=[]):a<=n/\n<=b:=by
 unfold uB at h
 by_cases c:n<a\/b<n
 ·rw[if_pos c] at h;cases h
 ·omega
theorem wW (k:Int){n:Int}{sc:Nat}(t:List UInt8)(l:List Val)(f:List Fld)(hn:IsN n sc):ag Tryz.prog au 82 [(Val.mk k n (sc:Int) t l f).pv] (.str (bT n sc)):=by
 have h:=xI hn
 generalize bT n sc=d at h ⊢
 refine ag.intro Q82.2 (by simp[Q82]) ?_
 simp(disch:=try exact dI) only[Q82,Val.pv_mk,push_cast,seval]
 refine ab.pure h rfl ?_
 exact qsZ
theorem mm {k m M s:Int}{w:List (List UInt8)}{e:List Typ}{f:List TFd}(h:dE (.mk k m M s w e f)=0)(hk:k=2\/k=3\/k=6\/k=7):loK k<=m/\M<=hiK k/\(k=2->s=0):=by
 have hb:=(bm h).2.1
 have hf:=ml h
 unfold du at hb
 have h4:¬ (k=4/\0<w.length):=by omega
 rw[if_neg h4] at hb
 by_cases hc:(2<=k/\k<=8)/\(M<m\/m<loK k\/hiK k<M)
 ·rw[if_pos hc] at hb;exact absurd hb (by decide)
 have h1:¬ (M<m\/m<loK k\/hiK k<M):=fun hh=>hc ⟨by omega,hh⟩
 refine⟨by omega,by omega,fun h2=>?_⟩
 subst h2
 simp only[fj,aJ,Bool.or_eq_false_iff] at hf
 simpa using hf.2.1
theorem xG (t:List UInt8)(h mi s ms:Nat):(fh t h mi s ms).length<=t.length+14:=by
 unfold fh
 simp only[List.length_append,List.length_cons,List.length_nil,aU]
 split<;>simp[aU]<;>omega
def wrF (k:Int):Nat:=if k=1 then 84 else if k=2 then 82 else if k=3 then 82 else if k=4 then 85 else if k=5 then 86 else if k=6 then 87 else 89
def spS (n:Nat):List UInt8:=List.replicate n 32
theorem xV:∀ n,Lib.repeatL [32] n=spS n
 | 0=>rfl
 | n+1=>by rw[Lib.repeatL,xV n];rfl
def pb (k:Int)(s:List UInt8)(n:Int):List UInt8:=if k=2\/k=3 then spS (n - s.length).toNat++s else s++spS (n - s.length).toNat
theorem rW (k:Int)(s:List UInt8)(n:Int)(h:(s.length:Int)<=n):((pb k s n).length:Int)=n:=by
 unfold pb spS
 split
 ·rw[List.length_append,List.length_replicate];omega
 ·rw[List.length_append,List.length_replicate];omega
theorem xW (n:Nat):spS (n+1)=32::spS n:=rfl
theorem jL:∀ (k a:Nat),(aP k a).all isD=true
 | 0,_=>rfl
 | k+1,a=>by
   rw[aP,List.all_append,jL k,Bool.true_and]
   have hc:(UInt8.ofNat (48+a % 10)).toNat=48+a % 10:=by rw[UInt8.toNat_ofNat'];omega
   simp only[List.all_cons,List.all_nil,Bool.and_true,isD,hc,Bool.and_eq_true,decide_eq_true_eq]
   omega
theorem k9 {n:Int}{sc:Nat}(h:IsN n sc):bi (bT n sc)=((n,sc),0):=by
 have hlen:=vQ h
 obtain⟨h1,h2,h3⟩:=h
 have ha:n.natAbs<10 ^ 15:=by
  have:(10:Nat) ^ 15=1000000000000000:=by decide
  omega
 have hs:=gZ ha
 obtain⟨K,hK⟩:∃ K,K=max (dl n.natAbs) (sc+1) - sc:=⟨_,rfl⟩
 have hK1:1<=K:=by omega
 have haK:n.natAbs / 10 ^ sc<10 ^ K:=by
  refine Nat.div_lt_of_lt_mul ?_
  rw[<- Nat.pow_add]
  exact Nat.lt_of_lt_of_le hs.2.2 (Nat.pow_le_pow_right (by omega) (by omega))
 have hrd:∀ q:List UInt8,q=aP K (n.natAbs / 10 ^ sc)++(if sc=0 then [] else 46::aP sc n.natAbs)->rdS false 0 0 q=(n.natAbs,sc):=by
  intro q hq
  subst hq
  rw[jy,Nat.zero_mul,Nat.zero_add,Nat.mod_eq_of_lt haK]
  by_cases h0:sc=0
  ·subst h0
   rw[if_pos rfl,rdS,Nat.pow_zero,Nat.div_one]
  ·rw[if_neg h0,rdS,if_neg (by decide)]
   have:(false||decide ((46:UInt8)=46))=true:=rfl
   rw[this]
   have:=mg sc (n.natAbs / 10 ^ sc) 0 n.natAbs []
   rw[List.append_nil] at this
   rw[this,rdS,Nat.zero_add]
   congr 1
   have:=Nat.div_add_mod n.natAbs (10 ^ sc)
   rw[Nat.mul_comm] at this
   exact this
 have hdec:bT n sc=(if n<0 then [45] else [])++(aP K (n.natAbs / 10 ^ sc)++(if sc=0 then [] else 46::aP sc n.natAbs)):=by unfold bT;rw[<- hK]
 have hall:rdS false 0 0 (bT n sc)=(n.natAbs,sc)/\sgI (bT n sc) n.natAbs=n/\bT n sc≠[]:=by
  rw[hdec]
  obtain⟨c,r,hcr,hc1,hc2⟩:=jK (k:=K) (a:=n.natAbs / 10 ^ sc) (by omega)
  by_cases hn:n<0
  ·rw[if_pos hn]
   refine⟨?_,?_,by simp⟩
   ·rw[List.singleton_append,rdS,if_neg (by decide)]
    exact hrd _ rfl
   ·unfold sgI
    rw[List.singleton_append,List.head?_cons,if_pos rfl];omega
  ·rw[if_neg hn,List.nil_append]
   refine⟨hrd _ rfl,?_,by rw[hcr];simp⟩
   unfold sgI
   rw[hcr]
   rw[if_neg (by simp;intro q;subst q;simp at hc1)]
   omega
 obtain⟨g1,g2,g3⟩:=hall
 unfold bi
 rw[if_neg g3,if_neg (by omega),g1]
 simp only
 rw[g2,if_pos ⟨⟨h1,h2,h3⟩,rfl⟩]
theorem oH:∀ (k a:Nat),gy 0 (aP k a)=((a % 10 ^ k:Nat):Int)
 | 0,a=>by simp[aP,gy,Nat.mod_one]
 | k+1,a=>by
   have hc:(UInt8.ofNat (48+a % 10)).toNat=48+a % 10:=by rw[UInt8.toNat_ofNat'];omega
   rw[aP,i6,oH k,hc]
   have e:=Nat.mod_mul (x:=a) (a:=10) (b:=10 ^ k)
   rw[Nat.mul_comm 10 (10 ^ k),<- Nat.pow_succ] at e
   generalize a / 10 % 10 ^ k=u at *
   generalize a % 10 ^ (k+1)=w at *
   omega
theorem n9 {k a:Nat}{r:List UInt8}(h:a<10 ^ k):qk k (aP k a++r)=some ((a:Int),r):=by
 have hl:=aU k a
 have ht:(aP k a++r).take k=aP k a:=by rw[List.take_append_of_le_length (by omega),List.take_of_length_le (by omega)]
 have hd:(aP k a++r).drop k=r:=by
  have:=List.drop_left (l₁:=aP k a) (l₂:=r)
  rwa [hl] at this
 unfold qk
 rw[ht,hd,if_pos ⟨by rw[List.length_append];omega,jL k a⟩,oH,Nat.mod_eq_of_lt h]
theorem rU (m r:List UInt8):pa m (m++r)=true:=by
 unfold pa
 exact decide_eq_true ⟨by simp,by simp⟩
theorem cx {m:List UInt8}{ms:List (List UInt8)}{k:Nat}{ks:List Nat}{a:Nat}{r:List UInt8}(h:a<10 ^ k) :
  bZ (m::ms) (k::ks) (m++(aP k a++r))=(bZ ms ks r).map fun q=>((a:Int)::q.1,q.2):=by
 rw[bZ,if_pos (rU _ _),List.drop_left,n9 h]
theorem O8 (y:Int)(m:Nat):mdI y m<=31:=(dK y m).2
theorem BH {y:Int}{m:Nat}{d:Int}(h:DateOk y m d):y.toNat<10 ^ 4/\m<10 ^ 2/\d.toNat<10 ^ 2/\((y.toNat:Nat):Int)=y/\((d.toNat:Nat):Int)=d:=by
 obtain⟨h1,h2,h3,h4,h5,h6⟩:=h
 have:=O8 y m
 omega
theorem BG {y:Int}{m:Nat}{d:Int}(h:DateOk y m d):ki y m d=(iL y m d - 719162,0):=by
 obtain⟨h1,h2,h3,h4,h5,h6⟩:=h
 unfold ki
 rw[if_pos ⟨h1,h2,by omega,by omega,h5,h6⟩,Int.toNat_natCast]
theorem pX {y:Int}{m:Nat}{d:Int}(h:DateOk y m d):cG (cr y m d)=(iL y m d - 719162,0):=by
 obtain⟨g1,g2,g3,g4,g5⟩:=BH h
 have e:cr y m d=[]++(aP 4 y.toNat++([45]++(aP 2 m++([45]++(aP 2 d.toNat++[]))))):=by simp[cr]
 have hn:bZ [[],[45],[45]] [4,2,2] (cr y m d)=some ([(y.toNat:Int),(m:Int),(d.toNat:Int)],[]):=by
  rw[e,cx g1,cx g2,cx g3];rfl
 unfold cG
 rw[hn,g4,g5]
 exact BG h
theorem pV {y:Int}{m:Nat}{d:Int}(h:DateOk y m d){hh mi s ms:Nat}(h1:hh<=23)(h2:mi<=59)(h3:s<=59)(h4:ms<=999) :
  bY (fh (cr y m d) hh mi s ms)=((iL y m d - 719162)*86400000+(((60*(hh:Int)+mi)*60+s)*1000+ms),0):=by
 obtain⟨g1,g2,g3,g4,g5⟩:=BH h
 obtain⟨q,hq⟩:∃ q,q=(if ms=0 then [] else [46]++aP 3 ms)++([90]:List UInt8):=⟨_,rfl⟩
 have e:fh (cr y m d) hh mi s ms=[]++(aP 4 y.toNat++([45]++(aP 2 m++([45]++(aP 2 d.toNat++([84]++(aP 2 hh++([58]++(aP 2 mi++([58]++(aP 2 s++q))))))))))):=by
  rw[hq];simp[cr,fh]
 have hn:bZ msT ksT (fh (cr y m d) hh mi s ms)=some ([(y.toNat:Int),(m:Int),(d.toNat:Int),(hh:Int),(mi:Int),(s:Int)],q):=by
  unfold msT ksT
  rw[e,cx g1,cx g2,cx g3,cx (by omega),cx (by omega),cx (by omega)];rfl
 have ht:pq q=some (ms:Int):=by
  rw[hq]
  unfold pq
  by_cases h0:ms=0
  ·subst h0;rfl
  ·rw[if_neg h0,List.append_assoc,if_pos (rU [46] _)]
   have:([46]++(aP 3 ms++([90]:List UInt8))).drop 1=aP 3 ms++[90]:=rfl
   rw[this,n9 (by omega)]
   simp only
   rw[if_neg (fun q=>q.elim (fun q=>h0 (by omega)) (fun q=>q rfl))]
 unfold bY
 rw[hn]
 simp only
 rw[ht]
 simp only
 unfold xE
 rw[g4,g5,BG h,if_neg (by simp only;omega)]
theorem se {n:Nat}(h:n<16):nib (hxB n)=(n:Int)/\hxB n≠32:=by
 have hc:n=0\/n=1\/n=2\/n=3\/n=4\/n=5\/n=6\/n=7\/n=8\/n=9\/n=10\/n=11\/n=12\/n=13\/n=14\/n=15:=by omega
 rcases hc with rfl | rfl | rfl | rfl | rfl | rfl | rfl | rfl | rfl | rfl | rfl | rfl | rfl | rfl | rfl | rfl<;>exact⟨rfl,by decide⟩
theorem ox:∀ s:List UInt8,nk (fQ s)=some s
 | []=>rfl
 | c::r=>by
   have hl:=c.toNat_lt
   obtain⟨h1,_⟩:=se (n:=c.toNat / 16) (by omega)
   obtain⟨h2,_⟩:=se (n:=c.toNat % 16) (by omega)
   have e:fQ (c::r)=hxB (c.toNat / 16)::hxB (c.toNat % 16)::fQ r:=rfl
   rw[e,nk,ox r,h1,h2,if_neg (by omega),Option.map_some]
   unfold Nu
   rw[h1,h2,Int.toNat_natCast,Int.toNat_natCast,show 16*(c.toNat / 16)+c.toNat % 16=c.toNat by omega,UInt8.ofNat_toNat]
def wQ (s:List UInt8):Prop:=∀ c∈s,c≠32
theorem dX (k a:Nat):wQ (aP k a):=fun c hc e=>by
 have:=List.all_eq_true.1 (jL k a) c hc
 rw[e] at this;exact absurd this (by decide)
theorem bN {a b:List UInt8}(h1:wQ a)(h2:wQ b):wQ (a++b):=fun c hc=>(List.mem_append.1 hc).elim (h1 c) (h2 c)
theorem eM {c:UInt8}(h:c≠32):wQ [c]:=fun d hd=>by rw[List.mem_singleton.1 hd];exact h
theorem rG:wQ []:=fun c hc=>by cases hc
theorem HS (n:Int)(sc:Nat):wQ (bT n sc):=by
 unfold bT
 refine bN ?_ (bN (dX _ _) ?_)
 ·split
  ·exact eM (by decide)
  ·exact rG
 ·split
  ·exact rG
  ·exact bN (eM (c:=46) (by decide)) (dX _ _)
theorem rF (y:Int)(m:Nat)(d:Int):wQ (cr y m d):=by
 unfold cr
 exact bN (bN (bN (bN (dX _ _) (eM (by decide))) (dX _ _)) (eM (by decide))) (dX _ _)
theorem Dp {t:List UInt8}(ht:wQ t)(h mi s ms:Nat):wQ (fh t h mi s ms):=by
 unfold fh
 refine bN (bN (bN ht (bN (bN (bN (bN (bN (eM (by decide)) (dX _ _)) (eM (by decide))) (dX _ _)) (eM (by decide))) (dX _ _))) ?_) (eM (by decide))
 split
 ·exact rG
 ·exact bN (eM (by decide)) (dX _ _)
theorem xU:∀ s:List UInt8,wQ (fQ s)
 | []=>rG
 | c::r=>by
   have hl:=c.toNat_lt
   have e:fQ (c::r)=[hxB (c.toNat / 16)]++([hxB (c.toNat % 16)]++fQ r):=rfl
   rw[e]
   exact bN (eM (se (by omega)).2) (bN (eM (se (by omega)).2) (xU r))
theorem lY {s:List UInt8}(h:s.head?≠some 32):trL s=s:=by
 cases s with
 | nil=>rfl
 | cons c r=>rw[trL,if_neg (fun e=>h (by rw[e];rfl))]
theorem Gf (n:Nat)(s:List UInt8):trL (spS n++s)=trL s:=by
 induction n with
 | zero=>rfl
 | succ n ih=>rw[xW,List.cons_append,trL,if_pos rfl,ih]
theorem HT (n:Nat):(spS n).reverse=spS n:=by unfold spS;exact List.reverse_replicate
theorem Ll (n:Nat)(s:List UInt8):trR (s++spS n)=trR s:=by
 unfold trR
 rw[List.reverse_append,HT,Gf]
theorem Di (k:Int)(s:List UInt8)(n:Int):cg k (pb k s n)=cg k s:=by
 unfold cg pb
 by_cases h:k=2\/k=3
 ·rw[if_pos h,if_pos h,if_pos h,Gf]
 ·rw[if_neg h,if_neg h,if_neg h,Ll]
theorem l9 {k:Int}{s:List UInt8}(h:wQ s):cg k s=s:=by
 unfold cg
 split
 ·exact lY fun e=>h 32 (List.mem_of_head? e) rfl
 ·unfold trR
  rw[lY fun e=>h 32 (List.mem_reverse.1 (List.mem_of_head? e)) rfl,List.reverse_reverse]
theorem Lk {s:List UInt8}(h:wrB s=true):trR s=s:=by
 have he:Bt s=false:=by
  unfold wrB at h
  cases hh:Bt s with
  | false=>rfl
  | true=>rw[hh] at h;cases h
 unfold trR
 rw[lY ?_,List.reverse_reverse]
 rw[List.head?_reverse,List.getLast?_eq_getElem?]
 unfold Bt at he
 exact of_decide_eq_false he
def mS (T:TFd->List UInt8):List TFd->List Int->List UInt8->List UInt8×Int
 | g::f,n::w,acc=>if g.typ.kind=4/\wrB (T g)=false then ([],6) else mS T f w (acc++pb g.typ.kind (T g) n)
 | [],_,acc=>(acc,0)
 | _,[],acc=>(acc,0)
theorem Bu {T:TFd->List UInt8}{f:List TFd}{w:List Int}{i:Nat}{g:TFd}{n:Int}(hg:f[i]? = some g)(hn:w[i]? = some n)(acc:List UInt8):mS T (f.drop i) (w.drop i) acc=if g.typ.kind=4/\wrB (T g)=false then ([],6) else mS T (f.drop (i+1)) (w.drop (i+1)) (acc++pb g.typ.kind (T g) n):=by
 obtain⟨hi,he⟩:=List.getElem?_eq_some_iff.1 hg
 obtain⟨hj,hf⟩:=List.getElem?_eq_some_iff.1 hn
 rw[List.drop_eq_getElem_cons hi,List.drop_eq_getElem_cons hj,he,hf,mS]
theorem fV:∀ (f:List TFd) (w:List Int) (s:Int),f.length=w.length->wF f w s=0->∀ (i:Nat) (g:TFd) (n:Int),f[i]? = some g->w[i]? = some n->fA g n=0
 | [],_,_,_,_,i,g,n,hg,_=>by simp at hg
 | _::_,[],_,hl,_,i,g,n,_,hn=>by simp at hl
 | x::f,m::w,s,hl,h,i,g,n,hg,hn=>by
   rw[wF] at h
   by_cases h0:fA x m=0
   ·rw[if_pos h0] at h
    cases i with
    | zero=>simp at hg hn;subst hg hn;exact h0
    | succ i=>exact fV f w _ (by simpa using hl) h i g n (by simpa using hg) (by simpa using hn)
   ·rw[if_neg h0] at h;exact absurd h h0
theorem e7 {g:TFd}{n:Int}(h:fA g n=0):1<=n/\n<=4096/\cS g.typ<=n:=by
 unfold fA at h
 by_cases c1:n<1\/4096<n
 ·rw[if_pos c1] at h;cases h
 rw[if_neg c1] at h
 by_cases c2:n<cS g.typ
 ·rw[if_pos c2] at h;cases h
 ·omega
def FTm (v:Val)(g:TFd)(tx:List UInt8):Prop:=(v.fields.find? (bn g.name)=none/\tx=[])\/∃ y,v.fields.find? (bn g.name)=some y/\ag Tryz.prog au (wrF g.typ.kind) [y.value.pv] (.str tx)
def F9 (T:TFd->List UInt8)(f:List TFd)(w:List Int):Prop:=∀ (i:Nat) (g:TFd) (n:Int),f[i]? = some g->w[i]? = some n->((T g).length:Int)<=n
theorem Mn {T:TFd->List UInt8}{f:List TFd}{w:List Int}(hst:∀ (i:Nat) (g:TFd) (n:Int),f[i]? = some g->w[i]? = some n->fA g n=0)(h:∀ g∈f,∀ n:Int,1<=n->cS g.typ<=n->((T g).length:Int)<=n):F9 T f w:=fun i g n a b=>by
 obtain⟨s1,_,s3⟩:=e7 (hst i g n a b)
 exact h g (List.mem_of_getElem? a) n s1 s3
theorem JH {t:Typ}{v:Val}(h9:t.kind=9)(hf:A2 t v=true):v.kind=9:=by
 unfold A2 at hf
 by_cases a:t.kind<1\/10<t.kind\/¬ v.kind=t.kind
 ·rw[aK,dJ a] at hf;cases hf
 ·omega
theorem eP {t:Typ}{w:List Int}(h:kC t w=0):flE t=0/\w.length=t.fields.length/\wF t.fields w 0=0:=by
 unfold kC at h
 by_cases he:flE t=0
 ·rw[if_pos he] at h
  by_cases h1:w.length<t.fields.length
  ·rw[if_pos h1] at h;cases h
  rw[if_neg h1] at h
  by_cases h2:t.fields.length<w.length
  ·rw[if_pos h2] at h;cases h
  rw[if_neg h2] at h
  exact⟨he,by omega,h⟩
 ·rw[if_neg he] at h;exact absurd h he
end Go.Proofs.YtbojpfpliibfbaaGreatDoor

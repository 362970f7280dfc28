/- A part of the proof. -/
import Derived.Test.YtbojpfpliibfbaaGreatDoorCaRC11
set_option maxRecDepth 100000
set_option linter.unusedVariables false
set_option linter.unusedSimpArgs false
namespace Go.Proofs.YtbojpfpliibfbaaGreatDoor
open Go Go.Ab
def xu:List (List UInt8)->List Nat->List Int->List UInt8
 | m::ms,k::ks,v::l=>m++(aQ k v.toNat++xu ms ks l)
 | _,_,_=>[]
theorem oB {p s:List UInt8}(h:pO p s=true):s=p++s.drop p.length:=by
 have h1:=(of_decide_eq_true h).1
 have h2:=List.take_append_drop p.length s
 rw[h1] at h2
 exact h2.symm
theorem oL {k:Nat}{s:List UInt8}{p:Int×List UInt8}(h:qV k s=some p):s=aQ k p.1.toNat++p.2/\0<=p.1:=by
 unfold qV at h
 split at h
 ·rename_i hh
  cases h
  have e:=Fq (s.take k) hh.2
  rw[List.length_take,Nat.min_eq_left hh.1] at e
  simp only
  rw[e,List.take_append_drop]
  exact⟨rfl,(cP _ 0 (by omega) hh.2).1⟩
 ·cases h
theorem kb:∀ (ms:List (List UInt8)) (ks:List Nat) (s:List UInt8) (l:List Int) (r:List UInt8),cn ms ks s=some (l,r)->s=xu ms ks l++r/\∀ x,x∈l->0<=x
 | [],ks,s,l,r,h=>by
   simp only[cn,Option.some.injEq,Prod.mk.injEq] at h
   obtain⟨rfl,rfl⟩:=h
   exact⟨by simp[xu],by simp⟩
 | m::ms,[],s,l,r,h=>by simp[cn] at h
 | m::ms,k::ks,s,l,r,h=>by
   simp only[cn] at h
   split at h
   ·rename_i hp
    split at h
    ·rename_i p hn
     simp only[Option.map_eq_some_iff] at h
     obtain⟨q,hq,he⟩:=h
     cases he
     obtain⟨q1,q2⟩:=q
     have ih:=kb ms ks p.2 q1 q2 hq
     have hb:=oL hn
     refine⟨?_,?_⟩
     ·rw[xu,List.append_assoc,List.append_assoc,<- ih.1,<- hb.1]
      exact oB hp
     ·intro x hx
      rcases List.mem_cons.1 hx with rfl | hx
      ·exact hb.2
      ·exact ih.2 x hx
    ·cases h
   ·cases h
theorem po {y m d n:Int}(h:kV y m d=(n,0)):DateOk y m.toNat d/\n=g7 y m.toNat d - 719162:=by
 unfold kV at h
 split at h
 ·rename_i hd
  cases h
  exact⟨(rJ hd).1,rfl⟩
 ·simp at h
theorem qO {s:List UInt8}{n:Int}(h:bV s=(n,0)):∃ (y:Int) (m:Nat) (d:Int),DateOk y m d/\n=g7 y m d - 719162/\s=bS y m d:=by
 unfold bV at h
 split at h
 ·rename_i y m d hn
  obtain⟨h1,h2⟩:=po h
  obtain⟨hb,_⟩:=kb _ _ _ _ _ hn
  refine⟨y,m.toNat,d,h1,h2,?_⟩
  rw[hb]
  simp[xu,bS]
 ·simp at h
theorem uB {r:List UInt8}{ms:Int}(h:qj r=some ms):0<=ms/\ms<=999/\r=(if ms.toNat=0 then [] else [46]++aQ 3 ms.toNat)++[90]:=by
 unfold qj at h
 split at h
 ·rename_i hp
  split at h
  ·rename_i p hn
   split at h
   ·cases h
   ·rename_i hc
    cases h
    have hb:=oL hn
    have hle:p.1<=999:=by
     unfold qV at hn
     split at hn
     ·rename_i hh
      cases hn
      exact (sr hh.2).2
     ·cases hn
    have hnz:p.1≠0:=fun h=>hc (Or.inl h)
    have hq:p.2=[90]:=Decidable.of_not_not fun h=>hc (Or.inr h)
    refine⟨hb.2,hle,?_⟩
    rw[if_neg (by omega)]
    rw[hq] at hb
    have:=oB hp
    rw[this]
    have e:=hb.1
    simp only[List.length_cons,List.length_nil,Nat.zero_add] at e ⊢
    rw[e,List.append_assoc]
  ·cases h
 ·split at h
  ·rename_i hr
   cases h
   exact⟨by omega,by omega,by simp[hr]⟩
  ·cases h
theorem j4 {s:List UInt8}{n:Int}(h:bU s=(n,0)):∃ (y:Int) (m:Nat) (d:Int) (hh mi sec ms:Nat),DateOk y m d/\hh<=23/\mi<=59/\sec<=59/\ms<=999 /\
  n=(g7 y m d - 719162)*86400000+(((60*(hh:Int)+mi)*60+sec)*1000+ms)/\s=eW (bS y m d) hh mi sec ms:=by
 unfold bU at h
 split at h
 ·rename_i y m d hh mi sec r hn
  split at h
  ·rename_i ms ht
   obtain⟨hb,hpos⟩:=kb _ _ _ _ _ hn
   obtain⟨t1,t2,t3⟩:=uB ht
   unfold yB at h
   split at h
   ·simp at h
   ·rename_i hc
    have hz:(kV y m d).2=0:=Decidable.of_not_not fun h=>hc (Or.inl h)
    have b1:¬ 23<hh:=fun h=>hc (Or.inr (Or.inl h))
    have b2:¬ 59<mi:=fun h=>hc (Or.inr (Or.inr (Or.inl h)))
    have b3:¬ 59<sec:=fun h=>hc (Or.inr (Or.inr (Or.inr h)))
    have p1:=hpos hh (by simp)
    have p2:=hpos mi (by simp)
    have p3:=hpos sec (by simp)
    obtain⟨d1,d2⟩:=po (y:=y) (m:=m) (d:=d) (n:=(kV y m d).1) (by rw[<- hz])
    have e:=congrArg Prod.fst h
    simp only at e
    refine⟨y,m.toNat,d,hh.toNat,mi.toNat,sec.toNat,ms.toNat,d1,by omega,by omega,by omega,by omega,?_,?_⟩
    ·rw[<- e,d2];omega
    ·rw[hb,t3]
     simp[xu,msT,ksT,eW,bS]
  ·simp at h
 ·simp at h
attribute [local irreducible] vc
theorem oC {s:List UInt8}(h:(bi s).2=0):IsN (bi s).1.1 (bi s).1.2/\ce (bi s).1.1 (bi s).1.2=s:=by
 unfold bi at h ⊢
 split at h
 ·cases h
 ·split at h
  ·cases h
  ·split at h
   ·rename_i h1 h2 h3
    rw[if_neg h1,if_neg h2,if_pos h3]
    exact h3
   ·cases h
theorem An (s:List UInt8):-1000000000000000000<=(bV s).1/\(bV s).1<=1000000000000000000:=by
 unfold bV
 split
 ·rename_i y m d hn
  rcases H6 y m d with h | h
  ·have:=mt h;omega
  ·unfold kV at h ⊢
   split
   ·rename_i hh;rw[if_pos hh] at h;cases h
   ·simp
 ·simp
theorem Am {s:List UInt8}(h:(bU s).2=0):-1000000000000000000<=(bU s).1/\(bU s).1<=1000000000000000000:=by
 obtain⟨y,m,d,hh,mi,sec,ms,h1,h2,h3,h4,h5,h6,h7⟩:=j4 (s:=s) (n:=(bU s).1) (by rw[<- h])
 have:=fg h1
 omega
def QOk (q:Qt):Prop:=I64 q.1/\I64 q.2.1/\q.2.2.length<=1000000
theorem qok (a b:Int)(s:List UInt8)(h1:-1000000000000000000<=a/\a<=1000000000000000000)(h2:-1000000000000000000<=b/\b<=1000000000000000000)(h3:s.length<=1000000):QOk (a,b,s):=
 ⟨⟨show _<=a by omega,show a<=_ by omega⟩,⟨show _<=b by omega,show b<=_ by omega⟩,h3⟩
theorem qG:QOk q0:=⟨⟨by decide,by decide⟩,⟨by decide,by decide⟩,by decide⟩
theorem HD (k sc:Int)(s:List UInt8)(hs:s.length<=1000000)(h:(rdC k sc s).2=0):QOk (rdC k sc s).1:=by
 unfold rdC at h ⊢
 split
 ·unfold rdB
  split
  ·exact qok _ _ _ (by decide) (by decide) (by decide)
  ·split<;>exact qG
 ·rename_i h1
  rw[if_neg h1] at h
  split
  ·rename_i h2
   rw[if_pos h2] at h
   unfold rdN at h ⊢
   split
   ·exact qG
   ·split
    ·exact qG
    ·rename_i h3 h4
     obtain⟨⟨a,b,c⟩,_⟩:=oC (Decidable.byContradiction h3)
     exact qok _ _ _ (by omega) (by omega) (by simp)
  ·rename_i h2
   rw[if_neg h2] at h
   split
   ·unfold rdT
    split
    ·exact qG
    ·split
     ·exact qG
     ·exact qok _ _ _ (by decide) (by decide) hs
   ·split
    ·cases hh:kz s with
     | none=>exact qG
     | some b=>
       have:=nl hh
       exact qok _ _ _ (by decide) (by decide) (by omega)
    ·rename_i h3 h4
     rw[if_neg h3,if_neg h4] at h
     split
     ·have:=An s
      exact qok _ _ _ (by omega) (by decide) (by simp)
     ·rename_i h5
      rw[if_neg h5] at h
      have:=Am h
      exact qok _ _ _ (by omega) (by decide) (by simp)
def lF (k:Int)(q:Qt):Val:=.mk k q.1 q.2.1 q.2.2 [] []
theorem pV {k:Int}{q:Qt}(hk:1<=k/\k<=7)(h:QOk q):(lF k q).ok:=by
 unfold lF
 rw[Val.ok_mk]
 exact⟨⟨by omega,by omega⟩,h.1,h.2.1,by have:=h.2.2;omega,by simp,by simp,by simp,by simp⟩
theorem pW (k:Int)(q:Qt):Nz (pX k q) (lF k q).pv:=by
 unfold lF pX jd
 rw[Val.pv_mk]
 repeat' constructor
def wp (t:Typ)(q:Qt):Bool:=(bw 1 t (lF t.kind q) []).isEmpty
theorem KL (t:Typ)(q:Qt)(ht:eJ 1 t)(hk:1<=t.kind/\t.kind<=7)(hq:QOk q):ag Tryz.prog au 42 [t.pv,pX t.kind q] (.bool (wp t q)):=by
 have hv:=pV hk hq
 have key:ag Tryz.prog au 42 [t.pv,(lF t.kind q).pv] (.bool (wp t q)):=by
  unfold wp
  generalize lF t.kind q=v at *
  have h56:=BT t v [] false [] _ (tN 1 v hv) ht hk.2 hv (by simp) ⟨by simp,by simp⟩ rfl
  have e:=Dl (bw 1 t v []) []
  generalize dH false [] (bw 1 t v [])=S at *
  obtain⟨Sd,Sl⟩:=S
  simp only at e
  have e2:(bw 1 t v []).isEmpty=!Sd:=by rw[e,Bool.not_not]
  rw[e2]
  obtain⟨k,m,M,s,w,e,fs⟩:=t
  obtain⟨vk,vi,vs,vt,vl,vf⟩:=v
  simp only[bR,Typ.pv_mk,Val.pv_mk,List.map_nil] at h56
  refine ag.intro Q42.2 (by simp[Q42]) ?_
  simp(disch:=try exact dI) only[Q42,Typ.pv_mk,Val.pv_mk,push_cast,seval]
  refine ab.lentK h56 [4,2] rfl qsZ qsZ ?_
  exact qsZ
 exact key.nz (.cons _ _ _ _ (Nz.refl _) (.cons _ _ _ _ (pW _ _) .nil))
theorem nB:∀ (f a b:Nat),a<=b->(bl f a).length<=(bl f b).length
 | 0,_,_,_=>by simp[bl]
 | f+1,a,b,h=>by
   have ih:=nB f (a / 10) (b / 10) (Nat.div_le_div_right h)
   rw[bl,bl]
   by_cases ha:a<10
   ·rw[if_pos ha]
    by_cases hb:b<10
    ·rw[if_pos hb];simp
    ·rw[if_neg hb];simp
   ·rw[if_neg ha,if_neg (by omega)]
    simp only[List.length_append,List.length_cons,List.length_nil];omega
theorem nD (n:Int)(sc:Nat):(ce n sc).length=(if n<0 then 1 else 0)+(max (dl n.natAbs) (sc+1) - sc)+(if sc=0 then 0 else sc+1):=by
 unfold ce
 rw[List.length_append,List.length_append,fa]
 by_cases h:n<0
 ·rw[if_pos h,if_pos h]
  by_cases h0:sc=0
  ·rw[if_pos h0,if_pos h0];simp
  ·rw[if_neg h0,if_neg h0];simp only[List.length_cons,List.length_nil,fa];omega
 ·rw[if_neg h,if_neg h]
  by_cases h0:sc=0
  ·rw[if_pos h0,if_pos h0];simp
  ·rw[if_neg h0,if_neg h0];simp only[List.length_cons,List.length_nil,fa];omega
theorem K6 {n m M:Int}(sc:Nat)(h1:m<=n)(h2:n<=M):((ce n sc).length:Int)<=max ((ce m sc).length:Int) ((ce M sc).length:Int):=by
 rw[nD,nD,nD]
 by_cases h:n<0
 ·have hm:=nB 20 n.natAbs m.natAbs (by omega)
  rw[if_pos h,if_pos (show m<0 by omega)]
  unfold dl;omega
 ·have hm:=nB 20 n.natAbs M.natAbs (by omega)
  rw[if_neg h,if_neg (show ¬ M<0 by omega)]
  unfold dl;omega
theorem Gn {t:Typ}{x:Val}{p:List UInt8}(h:bw 1 t x p=[]):x.kind=t.kind/\ae x=true:=by
 rw[aK] at h
 by_cases a:t.kind<1\/10<t.kind\/¬ x.kind=t.kind
 ·rw[dX a] at h;cases h
 ·cases b:ae x with
  | false=>rw[gE a b] at h;cases h
  | true=>exact⟨Decidable.byContradiction fun hh=>a (.inr (.inr hh)),rfl⟩
theorem qR {a b:Int}{p:List UInt8}{n:Int}(h:vF a b p n=[]):a<=n/\n<=b:=by
 unfold vF at h
 by_cases c:n<a\/b<n
 ·rw[if_pos c] at h;cases h
 ·omega
theorem nX (k:Int){n:Int}{sc:Nat}(t:List UInt8)(l:List Val)(f:List Fld)(hn:IsN n sc):ag Tryz.prog au 82 [(Val.mk k n (sc:Int) t l f).pv] (.str (ce n sc)):=by
 have h:=yH hn
 generalize ce n sc=d at h ⊢
 refine ag.intro Q82.2 (by simp[Q82]) ?_
 simp(disch:=try exact dI) only[Q82,Val.pv_mk,push_cast,seval]
 refine ab.pure h rfl ?_
 exact qsZ
theorem mZ {k m M s:Int}{w:List (List UInt8)}{e:List Typ}{f:List TFd}(h:dK (.mk k m M s w e f)=0)(hk:k=2\/k=3\/k=6\/k=7):loK k<=m/\M<=hiK k/\(k=2->s=0):=by
 have hb:=(bm h).2.1
 have hf:=mY h
 unfold dh at hb
 have h4:¬ (k=4/\0<w.length):=by omega
 rw[if_neg h4] at hb
 by_cases hc:(2<=k/\k<=8)/\(M<m\/m<loK k\/hiK k<M)
 ·rw[if_pos hc] at hb;exact absurd hb (by decide)
 have h1:¬ (M<m\/m<loK k\/hiK k<M):=fun hh=>hc ⟨by omega,hh⟩
 refine⟨by omega,by omega,fun h2=>?_⟩
 subst h2
 simp only[fE,aL,Bool.or_eq_false_iff] at hf
 simpa using hf.2.1
theorem yE (t:List UInt8)(h mi s ms:Nat):(eW t h mi s ms).length<=t.length+14:=by
 unfold eW
 simp only[List.length_append,List.length_cons,List.length_nil,aW]
 split<;>simp[aW]<;>omega
def wrF (k:Int):Nat:=if k=1 then 84 else if k=2 then 82 else if k=3 then 82 else if k=4 then 85 else if k=5 then 86 else if k=6 then 87 else 89
def spS (n:Nat):List UInt8:=List.replicate n 32
theorem yV:∀ n,Lib.repeatL [32] n=spS n
 | 0=>rfl
 | n+1=>by rw[Lib.repeatL,yV n];rfl
def nR (k:Int)(s:List UInt8)(n:Int):List UInt8:=if k=2\/k=3 then spS (n - s.length).toNat++s else s++spS (n - s.length).toNat
theorem sQ (k:Int)(s:List UInt8)(n:Int)(h:(s.length:Int)<=n):((nR k s n).length:Int)=n:=by
 unfold nR spS
 split
 ·rw[List.length_append,List.length_replicate];omega
 ·rw[List.length_append,List.length_replicate];omega
theorem oc (n:Nat):spS (n+1)=32::spS n:=rfl
theorem kh:∀ (k a:Nat),(aQ k a).all isD=true
 | 0,_=>rfl
 | k+1,a=>by
   rw[aQ,List.all_append,kh k,Bool.true_and]
   have hc:(UInt8.ofNat (48+a % 10)).toNat=48+a % 10:=by rw[UInt8.toNat_ofNat'];omega
   simp only[List.all_cons,List.all_nil,Bool.and_true,isD,hc,Bool.and_eq_true,decide_eq_true_eq]
   omega
theorem lS {n:Int}{sc:Nat}(h:IsN n sc):bi (ce n sc)=((n,sc),0):=by
 have hlen:=wP h
 obtain⟨h1,h2,h3⟩:=h
 have ha:n.natAbs<10 ^ 15:=by
  have:(10:Nat) ^ 15=1000000000000000:=by decide
  omega
 have hs:=iG ha
 obtain⟨K,hK⟩:∃ K,K=max (dl n.natAbs) (sc+1) - sc:=⟨_,rfl⟩
 have hK1:1<=K:=by omega
 have haK:n.natAbs / 10 ^ sc<10 ^ K:=by
  refine Nat.div_lt_of_lt_mul ?_
  rw[<- Nat.pow_add]
  exact Nat.lt_of_lt_of_le hs.2.2 (Nat.pow_le_pow_right (by omega) (by omega))
 have hrd:∀ q:List UInt8,q=aQ K (n.natAbs / 10 ^ sc)++(if sc=0 then [] else 46::aQ sc n.natAbs)->rdS false 0 0 q=(n.natAbs,sc):=by
  intro q hq
  subst hq
  rw[jZ,Nat.zero_mul,Nat.zero_add,Nat.mod_eq_of_lt haK]
  by_cases h0:sc=0
  ·subst h0
   rw[if_pos rfl,rdS,Nat.pow_zero,Nat.div_one]
  ·rw[if_neg h0,rdS,if_neg (by decide)]
   have:(false||decide ((46:UInt8)=46))=true:=rfl
   rw[this]
   have:=mV sc (n.natAbs / 10 ^ sc) 0 n.natAbs []
   rw[List.append_nil] at this
   rw[this,rdS,Nat.zero_add]
   congr 1
   have:=Nat.div_add_mod n.natAbs (10 ^ sc)
   rw[Nat.mul_comm] at this
   exact this
 have hdec:ce n sc=(if n<0 then [45] else [])++(aQ K (n.natAbs / 10 ^ sc)++(if sc=0 then [] else 46::aQ sc n.natAbs)):=by unfold ce;rw[<- hK]
 have hall:rdS false 0 0 (ce n sc)=(n.natAbs,sc)/\sgI (ce n sc) n.natAbs=n/\ce n sc≠[]:=by
  rw[hdec]
  obtain⟨c,r,hcr,hc1,hc2⟩:=kg (k:=K) (a:=n.natAbs / 10 ^ sc) (by omega)
  by_cases hn:n<0
  ·rw[if_pos hn]
   refine⟨?_,?_,by simp⟩
   ·rw[List.singleton_append,rdS,if_neg (by decide)]
    exact hrd _ rfl
   ·unfold sgI
    rw[List.singleton_append,List.head?_cons,if_pos rfl];omega
  ·rw[if_neg hn,List.nil_append]
   refine⟨hrd _ rfl,?_,by rw[hcr];simp⟩
   unfold sgI
   rw[hcr]
   rw[if_neg (by simp;intro q;subst q;simp at hc1)]
   omega
 obtain⟨g1,g2,g3⟩:=hall
 unfold bi
 rw[if_neg g3,if_neg (by omega),g1]
 simp only
 rw[g2,if_pos ⟨⟨h1,h2,h3⟩,rfl⟩]
theorem pm:∀ (k a:Nat),gZ 0 (aQ k a)=((a % 10 ^ k:Nat):Int)
 | 0,a=>by simp[aQ,gZ,Nat.mod_one]
 | k+1,a=>by
   have hc:(UInt8.ofNat (48+a % 10)).toNat=48+a % 10:=by rw[UInt8.toNat_ofNat'];omega
   rw[aQ,jA,pm k,hc]
   have e:=Nat.mod_mul (x:=a) (a:=10) (b:=10 ^ k)
   rw[Nat.mul_comm 10 (10 ^ k),<- Nat.pow_succ] at e
   generalize a / 10 % 10 ^ k=u at *
   generalize a % 10 ^ (k+1)=w at *
   omega
theorem oK {k a:Nat}{r:List UInt8}(h:a<10 ^ k):qV k (aQ k a++r)=some ((a:Int),r):=by
 have hl:=aW k a
 have ht:(aQ k a++r).take k=aQ k a:=by rw[List.take_append_of_le_length (by omega),List.take_of_length_le (by omega)]
 have hd:(aQ k a++r).drop k=r:=by
  have:=List.drop_left (l₁:=aQ k a) (l₂:=r)
  rwa [hl] at this
 unfold qV
 rw[ht,hd,if_pos ⟨by rw[List.length_append];omega,kh k a⟩,pm,Nat.mod_eq_of_lt h]
theorem sO (m r:List UInt8):pO m (m++r)=true:=by
 unfold pO
 exact decide_eq_true ⟨by simp,by simp⟩
theorem cI {m:List UInt8}{ms:List (List UInt8)}{k:Nat}{ks:List Nat}{a:Nat}{r:List UInt8}(h:a<10 ^ k) :
  cn (m::ms) (k::ks) (m++(aQ k a++r))=(cn ms ks r).map fun q=>((a:Int)::q.1,q.2):=by
 rw[cn,if_pos (sO _ _),List.drop_left,oK h]
theorem Qj (y:Int)(m:Nat):mdI y m<=31:=(dY y m).2
theorem Cw {y:Int}{m:Nat}{d:Int}(h:DateOk y m d):y.toNat<10 ^ 4/\m<10 ^ 2/\d.toNat<10 ^ 2/\((y.toNat:Nat):Int)=y/\((d.toNat:Nat):Int)=d:=by
 obtain⟨h1,h2,h3,h4,h5,h6⟩:=h
 have:=Qj y m
 omega
theorem Cv {y:Int}{m:Nat}{d:Int}(h:DateOk y m d):kV y m d=(g7 y m d - 719162,0):=by
 obtain⟨h1,h2,h3,h4,h5,h6⟩:=h
 unfold kV
 rw[if_pos ⟨h1,h2,by omega,by omega,h5,h6⟩,Int.toNat_natCast]
theorem qN {y:Int}{m:Nat}{d:Int}(h:DateOk y m d):bV (bS y m d)=(g7 y m d - 719162,0):=by
 obtain⟨g1,g2,g3,g4,g5⟩:=Cw h
 have e:bS y m d=[]++(aQ 4 y.toNat++([45]++(aQ 2 m++([45]++(aQ 2 d.toNat++[]))))):=by simp[bS]
 have hn:cn [[],[45],[45]] [4,2,2] (bS y m d)=some ([(y.toNat:Int),(m:Int),(d.toNat:Int)],[]):=by
  rw[e,cI g1,cI g2,cI g3];rfl
 unfold bV
 rw[hn,g4,g5]
 exact Cv h
theorem qM {y:Int}{m:Nat}{d:Int}(h:DateOk y m d){hh mi s ms:Nat}(h1:hh<=23)(h2:mi<=59)(h3:s<=59)(h4:ms<=999) :
  bU (eW (bS y m d) hh mi s ms)=((g7 y m d - 719162)*86400000+(((60*(hh:Int)+mi)*60+s)*1000+ms),0):=by
 obtain⟨g1,g2,g3,g4,g5⟩:=Cw h
 obtain⟨q,hq⟩:∃ q,q=(if ms=0 then [] else [46]++aQ 3 ms)++([90]:List UInt8):=⟨_,rfl⟩
 have e:eW (bS y m d) hh mi s ms=[]++(aQ 4 y.toNat++([45]++(aQ 2 m++([45]++(aQ 2 d.toNat++([84]++(aQ 2 hh++([58]++(aQ 2 mi++([58]++(aQ 2 s++q))))))))))):=by
  rw[hq];simp[bS,eW]
 have hn:cn msT ksT (eW (bS y m d) hh mi s ms)=some ([(y.toNat:Int),(m:Int),(d.toNat:Int),(hh:Int),(mi:Int),(s:Int)],q):=by
  unfold msT ksT
  rw[e,cI g1,cI g2,cI g3,cI (by omega),cI (by omega),cI (by omega)];rfl
 have ht:qj q=some (ms:Int):=by
  rw[hq]
  unfold qj
  by_cases h0:ms=0
  ·subst h0;rfl
  ·rw[if_neg h0,List.append_assoc,if_pos (sO [46] _)]
   have:([46]++(aQ 3 ms++([90]:List UInt8))).drop 1=aQ 3 ms++[90]:=rfl
   rw[this,oK (by omega)]
   simp only
   rw[if_neg (fun q=>q.elim (fun q=>h0 (by omega)) (fun q=>q rfl))]
 unfold bU
 rw[hn]
 simp only
 rw[ht]
 simp only
 unfold yB
 rw[g4,g5,Cv h,if_neg (by simp only;omega)]
theorem s9 {n:Nat}(h:n<16):nib (hxB n)=(n:Int)/\hxB n≠32:=by
 have hc:n=0\/n=1\/n=2\/n=3\/n=4\/n=5\/n=6\/n=7\/n=8\/n=9\/n=10\/n=11\/n=12\/n=13\/n=14\/n=15:=by omega
 rcases hc with rfl | rfl | rfl | rfl | rfl | rfl | rfl | rfl | rfl | rfl | rfl | rfl | rfl | rfl | rfl | rfl<;>exact⟨rfl,by decide⟩
theorem pb:∀ s:List UInt8,kz (fD s)=some s
 | []=>rfl
 | c::r=>by
   have hl:=c.toNat_lt
   obtain⟨h1,_⟩:=s9 (n:=c.toNat / 16) (by omega)
   obtain⟨h2,_⟩:=s9 (n:=c.toNat % 16) (by omega)
   have e:fD (c::r)=hxB (c.toNat / 16)::hxB (c.toNat % 16)::fD r:=rfl
   rw[e,kz,pb r,h1,h2,if_neg (by omega),Option.map_some]
   unfold DF
   rw[h1,h2,Int.toNat_natCast,Int.toNat_natCast,show 16*(c.toNat / 16)+c.toNat % 16=c.toNat by omega,UInt8.ofNat_toNat]
def xQ (s:List UInt8):Prop:=∀ c∈s,c≠32
theorem eo (k a:Nat):xQ (aQ k a):=fun c hc e=>by
 have:=List.all_eq_true.1 (kh k a) c hc
 rw[e] at this;exact absurd this (by decide)
theorem bT {a b:List UInt8}(h1:xQ a)(h2:xQ b):xQ (a++b):=fun c hc=>(List.mem_append.1 hc).elim (h1 c) (h2 c)
theorem eY {c:UInt8}(h:c≠32):xQ [c]:=fun d hd=>by rw[List.mem_singleton.1 hd];exact h
theorem sx:xQ []:=fun c hc=>by cases hc
theorem IW (n:Int)(sc:Nat):xQ (ce n sc):=by
 unfold ce
 refine bT ?_ (bT (eo _ _) ?_)
 ·split
  ·exact eY (by decide)
  ·exact sx
 ·split
  ·exact sx
  ·exact bT (eY (c:=46) (by decide)) (eo _ _)
theorem sw (y:Int)(m:Nat)(d:Int):xQ (bS y m d):=by
 unfold bS
 exact bT (bT (bT (bT (eo _ _) (eY (by decide))) (eo _ _)) (eY (by decide))) (eo _ _)
theorem En {t:List UInt8}(ht:xQ t)(h mi s ms:Nat):xQ (eW t h mi s ms):=by
 unfold eW
 refine bT (bT (bT ht (bT (bT (bT (bT (bT (eY (by decide)) (eo _ _)) (eY (by decide))) (eo _ _)) (eY (by decide))) (eo _ _))) ?_) (eY (by decide))
 split
 ·exact sx
 ·exact bT (eY (by decide)) (eo _ _)
theorem yT:∀ s:List UInt8,xQ (fD s)
 | []=>sx
 | c::r=>by
   have hl:=c.toNat_lt
   have e:fD (c::r)=[hxB (c.toNat / 16)]++([hxB (c.toNat % 16)]++fD r):=rfl
   rw[e]
   exact bT (eY (s9 (by omega)).2) (bT (eY (s9 (by omega)).2) (yT r))
theorem mM {s:List UInt8}(h:s.head?≠some 32):trL s=s:=by
 cases s with
 | nil=>rfl
 | cons c r=>rw[trL,if_neg (fun e=>h (by rw[e];rfl))]
theorem Hk (n:Nat)(s:List UInt8):trL (spS n++s)=trL s:=by
 induction n with
 | zero=>rfl
 | succ n ih=>rw[oc,List.cons_append,trL,if_pos rfl,ih]
theorem yU (n:Nat):(spS n).reverse=spS n:=by unfold spS;exact List.reverse_replicate
theorem MA (n:Nat)(s:List UInt8):trR (s++spS n)=trR s:=by
 unfold trR
 rw[List.reverse_append,yU,Hk]
theorem Eg (k:Int)(s:List UInt8)(n:Int):bu k (nR k s n)=bu k s:=by
 unfold bu nR
 by_cases h:k=2\/k=3
 ·rw[if_pos h,if_pos h,if_pos h,Hk]
 ·rw[if_neg h,if_neg h,if_neg h,MA]
theorem mQ {k:Int}{s:List UInt8}(h:xQ s):bu k s=s:=by
 unfold bu
 split
 ·exact mM fun e=>h 32 (List.mem_of_head? e) rfl
 ·unfold trR
  rw[mM fun e=>h 32 (List.mem_reverse.1 (List.mem_of_head? e)) rfl,List.reverse_reverse]
theorem Mz {s:List UInt8}(h:wrB s=true):trR s=s:=by
 have he:Cf s=false:=by
  unfold wrB at h
  cases hh:Cf s with
  | false=>rfl
  | true=>rw[hh] at h;cases h
 unfold trR
 rw[mM ?_,List.reverse_reverse]
 rw[List.head?_reverse,List.getLast?_eq_getElem?]
 unfold Cf at he
 exact of_decide_eq_false he
def gN (T:TFd->List UInt8):List TFd->List Int->List UInt8->List UInt8×Int
 | g::f,n::w,acc=>if g.typ.kind=4/\wrB (T g)=false then ([],6) else gN T f w (acc++nR g.typ.kind (T g) n)
 | [],_,acc=>(acc,0)
 | _,[],acc=>(acc,0)
theorem Cg {T:TFd->List UInt8}{f:List TFd}{w:List Int}{i:Nat}{g:TFd}{n:Int}(hg:f[i]? = some g)(hn:w[i]? = some n)(acc:List UInt8):gN T (f.drop i) (w.drop i) acc=if g.typ.kind=4/\wrB (T g)=false then ([],6) else gN T (f.drop (i+1)) (w.drop (i+1)) (acc++nR g.typ.kind (T g) n):=by
 obtain⟨hi,he⟩:=List.getElem?_eq_some_iff.1 hg
 obtain⟨hj,hf⟩:=List.getElem?_eq_some_iff.1 hn
 rw[List.drop_eq_getElem_cons hi,List.drop_eq_getElem_cons hj,he,hf,gN]
theorem gu:∀ (f:List TFd) (w:List Int) (s:Int),f.length=w.length->xH f w s=0->∀ (i:Nat) (g:TFd) (n:Int),f[i]? = some g->w[i]? = some n->gl g n=0
 | [],_,_,_,_,i,g,n,hg,_=>by simp at hg
 | _::_,[],_,hl,_,i,g,n,_,hn=>by simp at hl
 | x::f,m::w,s,hl,h,i,g,n,hg,hn=>by
   rw[xH] at h
   by_cases h0:gl x m=0
   ·rw[if_pos h0] at h
    cases i with
    | zero=>simp at hg hn;subst hg hn;exact h0
    | succ i=>exact gu f w _ (by simpa using hl) h i g n (by simpa using hg) (by simpa using hn)
   ·rw[if_neg h0] at h;exact absurd h h0
theorem fk {g:TFd}{n:Int}(h:gl g n=0):1<=n/\n<=4096/\dm g.typ<=n:=by
 unfold gl at h
 by_cases c1:n<1\/4096<n
 ·rw[if_pos c1] at h;cases h
 rw[if_neg c1] at h
 by_cases c2:n<dm g.typ
 ·rw[if_pos c2] at h;cases h
 ·omega
def FTm (v:Val)(g:TFd)(tx:List UInt8):Prop:=(v.fields.find? (bc g.name)=none/\tx=[])\/∃ y,v.fields.find? (bc g.name)=some y/\ag Tryz.prog au (wrF g.typ.kind) [y.value.pv] (.str tx)
def LJ (T:TFd->List UInt8)(f:List TFd)(w:List Int):Prop:=∀ (i:Nat) (g:TFd) (n:Int),f[i]? = some g->w[i]? = some n->((T g).length:Int)<=n
theorem KM {t:Typ}{v:Val}(h9:t.kind=9)(hf:DC t v=true):v.kind=9:=by
 unfold DC at hf
 by_cases a:t.kind<1\/10<t.kind\/¬ v.kind=t.kind
 ·rw[aK,dX a] at hf;cases hf
 ·omega
theorem gr {t:Typ}{w:List Int}(h:sE t w=0):flE t=0/\w.length=t.fields.length/\xH t.fields w 0=0:=by
 unfold sE at h
 by_cases he:flE t=0
 ·rw[if_pos he] at h
  by_cases h1:w.length<t.fields.length
  ·rw[if_pos h1] at h;cases h
  rw[if_neg h1] at h
  by_cases h2:t.fields.length<w.length
  ·rw[if_pos h2] at h;cases h
  rw[if_neg h2] at h
  exact⟨he,by omega,h⟩
 ·rw[if_neg he] at h;exact absurd h he
end Go.Proofs.YtbojpfpliibfbaaGreatDoor

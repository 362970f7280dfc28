/- A part of the proof. -/
import Derived.Test.YtbojpfpliibfbaaGreatDoorMxRX3
set_option maxHeartbeats 16000000
set_option maxRecDepth 100000
set_option linter.unusedVariables false
set_option linter.unusedSimpArgs false
namespace Go.Proofs.YtbojpfpliibfbaaGreatDoor
open Go Go.Ab
theorem kf:∀ (k a:Nat),(aQ k a).all isD=true
 | 0,_=>rfl
 | k+1,a=>by
   rw[aQ,List.all_append,kf k,Bool.true_and]
   have hc:(UInt8.ofNat (48+a % 10)).toNat=48+a % 10:=by rw[UInt8.toNat_ofNat'];omega
   simp only[List.all_cons,List.all_nil,Bool.and_true,isD,hc,Bool.and_eq_true,decide_eq_true_eq]
   omega
theorem lS {n:Int}{sc:Nat}(h:IsN n sc):bm (ce n sc)=((n,sc),0):=by
 have hlen:=xD h
 obtain⟨h1,h2,h3⟩:=h
 have ha:n.natAbs<10 ^ 15:=by
  have:(10:Nat) ^ 15=1000000000000000:=by decide
  omega
 have hs:=iE ha
 obtain⟨K,hK⟩:∃ K,K=max (dl n.natAbs) (sc+1) - sc:=⟨_,rfl⟩
 have hK1:1<=K:=by omega
 have haK:n.natAbs / 10 ^ sc<10 ^ K:=by
  refine Nat.div_lt_of_lt_mul ?_
  rw[<- Nat.pow_add]
  exact Nat.lt_of_lt_of_le hs.2.2 (Nat.pow_le_pow_right (by omega) (by omega))
 have hrd:∀ q:List UInt8,q=aQ K (n.natAbs / 10 ^ sc)++(if sc=0 then [] else 46::aQ sc n.natAbs)->rdS false 0 0 q=(n.natAbs,sc):=by
  intro q hq
  subst hq
  rw[jY,Nat.zero_mul,Nat.zero_add,Nat.mod_eq_of_lt haK]
  by_cases h0:sc=0
  ·subst h0
   rw[if_pos rfl,rdS,Nat.pow_zero,Nat.div_one]
  ·rw[if_neg h0,rdS,if_neg (by decide)]
   have:(false||decide ((46:UInt8)=46))=true:=rfl
   rw[this]
   have:=mR sc (n.natAbs / 10 ^ sc) 0 n.natAbs []
   rw[List.append_nil] at this
   rw[this,rdS,Nat.zero_add]
   congr 1
   have:=Nat.div_add_mod n.natAbs (10 ^ sc)
   rw[Nat.mul_comm] at this
   exact this
 have hdec:ce n sc=(if n<0 then [45] else [])++(aQ K (n.natAbs / 10 ^ sc)++(if sc=0 then [] else 46::aQ sc n.natAbs)):=by unfold ce;rw[<- hK]
 have hall:rdS false 0 0 (ce n sc)=(n.natAbs,sc)/\sgI (ce n sc) n.natAbs=n/\ce n sc≠[]:=by
  rw[hdec]
  obtain⟨c,r,hcr,hc1,hc2⟩:=ke (k:=K) (a:=n.natAbs / 10 ^ sc) (by omega)
  by_cases hn:n<0
  ·rw[if_pos hn]
   refine⟨?_,?_,by simp⟩
   ·rw[List.singleton_append,rdS,if_neg (by decide)]
    exact hrd _ rfl
   ·unfold sgI
    rw[List.singleton_append,List.head?_cons,if_pos rfl];omega
  ·rw[if_neg hn,List.nil_append]
   refine⟨hrd _ rfl,?_,by rw[hcr];simp⟩
   unfold sgI
   rw[hcr]
   rw[if_neg (by simp;intro q;subst q;simp at hc1)]
   omega
 obtain⟨g1,g2,g3⟩:=hall
 unfold bm
 rw[if_neg g3,if_neg (by omega),g1]
 simp only
 rw[g2,if_pos ⟨⟨h1,h2,h3⟩,rfl⟩]
theorem pJ:∀ (k a:Nat),gU 0 (aQ k a)=((a % 10 ^ k:Nat):Int)
 | 0,a=>by simp[aQ,gU,Nat.mod_one]
 | k+1,a=>by
   have hc:(UInt8.ofNat (48+a % 10)).toNat=48+a % 10:=by rw[UInt8.toNat_ofNat'];omega
   rw[aQ,jv,pJ k,hc]
   have e:=Nat.mod_mul (x:=a) (a:=10) (b:=10 ^ k)
   rw[Nat.mul_comm 10 (10 ^ k),<- Nat.pow_succ] at e
   generalize a / 10 % 10 ^ k=u at *
   generalize a % 10 ^ (k+1)=w at *
   omega
theorem oR {k a:Nat}{r:List UInt8}(h:a<10 ^ k):rz k (aQ k a++r)=some ((a:Int),r):=by
 have hl:=aT k a
 have ht:(aQ k a++r).take k=aQ k a:=by rw[List.take_append_of_le_length (by omega),List.take_of_length_le (by omega)]
 have hd:(aQ k a++r).drop k=r:=by
  have:=List.drop_left (l₁:=aQ k a) (l₂:=r)
  rwa [hl] at this
 unfold rz
 rw[ht,hd,if_pos ⟨by rw[List.length_append];omega,kf k a⟩,pJ,Nat.mod_eq_of_lt h]
theorem tp (m r:List UInt8):qn m (m++r)=true:=by
 unfold qn
 exact decide_eq_true ⟨by simp,by simp⟩
theorem cJ {m:List UInt8}{ms:List (List UInt8)}{k:Nat}{ks:List Nat}{a:Nat}{r:List UInt8}(h:a<10 ^ k) :
  cn (m::ms) (k::ks) (m++(aQ k a++r))=(cn ms ks r).map fun q=>((a:Int)::q.1,q.2):=by
 rw[cn,if_pos (tp _ _),List.drop_left,oR h]
theorem RS (y:Int)(m:Nat):mdI y m<=31:=(dQ y m).2
theorem DE {y:Int}{m:Nat}{d:Int}(h:DateOk y m d):y.toNat<10 ^ 4/\m<10 ^ 2/\d.toNat<10 ^ 2/\((y.toNat:Nat):Int)=y/\((d.toNat:Nat):Int)=d:=by
 obtain⟨h1,h2,h3,h4,h5,h6⟩:=h
 have:=RS y m
 omega
theorem DD {y:Int}{m:Nat}{d:Int}(h:DateOk y m d):kQ y m d=(jg y m d - 719162,0):=by
 obtain⟨h1,h2,h3,h4,h5,h6⟩:=h
 unfold kQ
 rw[if_pos ⟨h1,h2,by omega,by omega,h5,h6⟩,Int.toNat_natCast]
theorem rq {y:Int}{m:Nat}{d:Int}(h:DateOk y m d):cZ (cE y m d)=(jg y m d - 719162,0):=by
 obtain⟨g1,g2,g3,g4,g5⟩:=DE h
 have e:cE y m d=[]++(aQ 4 y.toNat++([45]++(aQ 2 m++([45]++(aQ 2 d.toNat++[]))))):=by simp[cE]
 have hn:cn [[],[45],[45]] [4,2,2] (cE y m d)=some ([(y.toNat:Int),(m:Int),(d.toNat:Int)],[]):=by
  rw[e,cJ g1,cJ g2,cJ g3];rfl
 unfold cZ
 rw[hn,g4,g5]
 exact DD h
theorem rn {y:Int}{m:Nat}{d:Int}(h:DateOk y m d){hh mi s ms:Nat}(h1:hh<=23)(h2:mi<=59)(h3:s<=59)(h4:ms<=999) :
  cm (fF (cE y m d) hh mi s ms)=((jg y m d - 719162)*86400000+(((60*(hh:Int)+mi)*60+s)*1000+ms),0):=by
 obtain⟨g1,g2,g3,g4,g5⟩:=DE h
 obtain⟨q,hq⟩:∃ q,q=(if ms=0 then [] else [46]++aQ 3 ms)++([90]:List UInt8):=⟨_,rfl⟩
 have e:fF (cE y m d) hh mi s ms=[]++(aQ 4 y.toNat++([45]++(aQ 2 m++([45]++(aQ 2 d.toNat++([84]++(aQ 2 hh++([58]++(aQ 2 mi++([58]++(aQ 2 s++q))))))))))):=by
  rw[hq];simp[cE,fF]
 have hn:cn msT ksT (fF (cE y m d) hh mi s ms)=some ([(y.toNat:Int),(m:Int),(d.toNat:Int),(hh:Int),(mi:Int),(s:Int)],q):=by
  unfold msT ksT
  rw[e,cJ g1,cJ g2,cJ g3,cJ (by omega),cJ (by omega),cJ (by omega)];rfl
 have ht:qG q=some (ms:Int):=by
  rw[hq]
  unfold qG
  by_cases h0:ms=0
  ·subst h0;rfl
  ·rw[if_neg h0,List.append_assoc,if_pos (tp [46] _)]
   have:([46]++(aQ 3 ms++([90]:List UInt8))).drop 1=aQ 3 ms++[90]:=rfl
   rw[this,oR (by omega)]
   simp only
   rw[if_neg (fun q=>q.elim (fun q=>h0 (by omega)) (fun q=>q rfl))]
 unfold cm
 rw[hn]
 simp only
 rw[ht]
 simp only
 unfold zO
 rw[g4,g5,DD h,if_neg (by simp only;omega)]
theorem tD {n:Nat}(h:n<16):nib (hxB n)=(n:Int)/\hxB n≠32:=by
 have hc:n=0\/n=1\/n=2\/n=3\/n=4\/n=5\/n=6\/n=7\/n=8\/n=9\/n=10\/n=11\/n=12\/n=13\/n=14\/n=15:=by omega
 rcases hc with rfl | rfl | rfl | rfl | rfl | rfl | rfl | rfl | rfl | rfl | rfl | rfl | rfl | rfl | rfl | rfl<;>exact⟨rfl,by decide⟩
theorem pr:∀ s:List UInt8,nT (f7 s)=some s
 | []=>rfl
 | c::r=>by
   have hl:=c.toNat_lt
   obtain⟨h1,_⟩:=tD (n:=c.toNat / 16) (by omega)
   obtain⟨h2,_⟩:=tD (n:=c.toNat % 16) (by omega)
   have e:f7 (c::r)=hxB (c.toNat / 16)::hxB (c.toNat % 16)::f7 r:=rfl
   rw[e,nT,pr r,h1,h2,if_neg (by omega),Option.map_some]
   unfold Qg
   rw[h1,h2,Int.toNat_natCast,Int.toNat_natCast,show 16*(c.toNat / 16)+c.toNat % 16=c.toNat by omega,UInt8.ofNat_toNat]
def yU (s:List UInt8):Prop:=∀ c∈s,c≠32
theorem ec (k a:Nat):yU (aQ k a):=fun c hc e=>by
 have:=List.all_eq_true.1 (kf k a) c hc
 rw[e] at this;exact absurd this (by decide)
theorem bS {a b:List UInt8}(h1:yU a)(h2:yU b):yU (a++b):=fun c hc=>(List.mem_append.1 hc).elim (h1 c) (h2 c)
theorem eT {c:UInt8}(h:c≠32):yU [c]:=fun d hd=>by rw[List.mem_singleton.1 hd];exact h
theorem ta:yU []:=fun c hc=>by cases hc
theorem Kp (n:Int)(sc:Nat):yU (ce n sc):=by
 unfold ce
 refine bS ?_ (bS (ec _ _) ?_)
 ·split
  ·exact eT (by decide)
  ·exact ta
 ·split
  ·exact ta
  ·exact bS (eT (c:=46) (by decide)) (ec _ _)
theorem s9 (y:Int)(m:Nat)(d:Int):yU (cE y m d):=by
 unfold cE
 exact bS (bS (bS (bS (ec _ _) (eT (by decide))) (ec _ _)) (eT (by decide))) (ec _ _)
theorem FF {t:List UInt8}(ht:yU t)(h mi s ms:Nat):yU (fF t h mi s ms):=by
 unfold fF
 refine bS (bS (bS ht (bS (bS (bS (bS (bS (eT (by decide)) (ec _ _)) (eT (by decide))) (ec _ _)) (eT (by decide))) (ec _ _))) ?_) (eT (by decide))
 split
 ·exact ta
 ·exact bS (eT (by decide)) (ec _ _)
theorem Am:∀ s:List UInt8,yU (f7 s)
 | []=>ta
 | c::r=>by
   have hl:=c.toNat_lt
   have e:f7 (c::r)=[hxB (c.toNat / 16)]++([hxB (c.toNat % 16)]++f7 r):=rfl
   rw[e]
   exact bS (eT (tD (by omega)).2) (bS (eT (tD (by omega)).2) (Am r))
theorem mI {s:List UInt8}(h:s.head?≠some 32):trL s=s:=by
 cases s with
 | nil=>rfl
 | cons c r=>rw[trL,if_neg (fun e=>h (by rw[e];rfl))]
theorem IO (n:Nat)(s:List UInt8):trL (spS n++s)=trL s:=by
 induction n with
 | zero=>rfl
 | succ n ih=>rw[Ao,List.cons_append,trL,if_pos rfl,ih]
theorem Kq (n:Nat):(spS n).reverse=spS n:=by unfold spS;exact List.reverse_replicate
theorem NV (n:Nat)(s:List UInt8):trR (s++spS n)=trR s:=by
 unfold trR
 rw[List.reverse_append,Kq,IO]
theorem Fx (k:Int)(s:List UInt8)(n:Int):cx k (nS k s n)=cx k s:=by
 unfold cx nS
 by_cases h:k=2\/k=3
 ·rw[if_pos h,if_pos h,if_pos h,IO]
 ·rw[if_neg h,if_neg h,if_neg h,NV]
theorem mL {k:Int}{s:List UInt8}(h:yU s):cx k s=s:=by
 unfold cx
 split
 ·exact mI fun e=>h 32 (List.mem_of_head? e) rfl
 ·unfold trR
  rw[mI fun e=>h 32 (List.mem_reverse.1 (List.mem_of_head? e)) rfl,List.reverse_reverse]
theorem NU {s:List UInt8}(h:wrB s=true):trR s=s:=by
 have he:Dn s=false:=by
  unfold wrB at h
  cases hh:Dn s with
  | false=>rfl
  | true=>rw[hh] at h;cases h
 unfold trR
 rw[mI ?_,List.reverse_reverse]
 rw[List.head?_reverse,List.getLast?_eq_getElem?]
 unfold Dn at he
 exact of_decide_eq_false he
attribute [local irreducible] vc
def gH (T:TFd->List UInt8):List TFd->List Int->List UInt8->List UInt8×Int
 | g::f,n::w,acc=>if g.typ.kind=4/\wrB (T g)=false then ([],6) else gH T f w (acc++nS g.typ.kind (T g) n)
 | [],_,acc=>(acc,0)
 | _,[],acc=>(acc,0)
theorem Do {T:TFd->List UInt8}{f:List TFd}{w:List Int}{i:Nat}{g:TFd}{n:Int}(hg:f[i]? = some g)(hn:w[i]? = some n)(acc:List UInt8):gH T (f.drop i) (w.drop i) acc=if g.typ.kind=4/\wrB (T g)=false then ([],6) else gH T (f.drop (i+1)) (w.drop (i+1)) (acc++nS g.typ.kind (T g) n):=by
 obtain⟨hi,he⟩:=List.getElem?_eq_some_iff.1 hg
 obtain⟨hj,hf⟩:=List.getElem?_eq_some_iff.1 hn
 rw[List.drop_eq_getElem_cons hi,List.drop_eq_getElem_cons hj,he,hf,gH]
theorem go:∀ (f:List TFd) (w:List Int) (s:Int),f.length=w.length->yF f w s=0->∀ (i:Nat) (g:TFd) (n:Int),f[i]? = some g->w[i]? = some n->fS g n=0
 | [],_,_,_,_,i,g,n,hg,_=>by simp at hg
 | _::_,[],_,hl,_,i,g,n,_,hn=>by simp at hl
 | x::f,m::w,s,hl,h,i,g,n,hg,hn=>by
   rw[yF] at h
   by_cases h0:fS x m=0
   ·rw[if_pos h0] at h
    cases i with
    | zero=>simp at hg hn;subst hg hn;exact h0
    | succ i=>exact go f w _ (by simpa using hl) h i g n (by simpa using hg) (by simpa using hn)
   ·rw[if_neg h0] at h;exact absurd h h0
theorem fp {g:TFd}{n:Int}(h:fS g n=0):1<=n/\n<=4096/\cD g.typ<=n:=by
 unfold fS at h
 by_cases c1:n<1\/4096<n
 ·rw[if_pos c1] at h;cases h
 rw[if_neg c1] at h
 by_cases c2:n<cD g.typ
 ·rw[if_pos c2] at h;cases h
 ·omega
def FTm (v:Val)(g:TFd)(tx:List UInt8):Prop:=(v.fields.find? (aF g.name)=none/\tx=[])\/∃ y,v.fields.find? (aF g.name)=some y/\ag Tryz.prog aq (wrF g.typ.kind) [y.value.pv] (.str tx)
def lC (T:TFd->List UInt8)(f:List TFd)(w:List Int):Prop:=∀ (i:Nat) (g:TFd) (n:Int),f[i]? = some g->w[i]? = some n->((T g).length:Int)<=n
theorem OZ {T:TFd->List UInt8}{f:List TFd}{w:List Int}(hst:∀ (i:Nat) (g:TFd) (n:Int),f[i]? = some g->w[i]? = some n->fS g n=0)(h:∀ g∈f,∀ n:Int,1<=n->cD g.typ<=n->((T g).length:Int)<=n):lC T f w:=fun i g n a b=>by
 obtain⟨s1,_,s3⟩:=fp (hst i g n a b)
 exact h g (List.mem_of_getElem? a) n s1 s3
theorem Mc {t:Typ}{v:Val}(h9:t.kind=9)(hf:nU t v=true):v.kind=9:=by
 unfold nU at hf
 by_cases a:t.kind<1\/10<t.kind\/¬ v.kind=t.kind
 ·rw[bz,bM a] at hf;cases hf
 ·omega
theorem eY {t:Typ}{w:List Int}(h:lf t w=0):flE t=0/\w.length=t.fields.length/\yF t.fields w 0=0:=by
 unfold lf at h
 by_cases he:flE t=0
 ·rw[if_pos he] at h
  by_cases h1:w.length<t.fields.length
  ·rw[if_pos h1] at h;cases h
  rw[if_neg h1] at h
  by_cases h2:t.fields.length<w.length
  ·rw[if_pos h2] at h;cases h
  rw[if_neg h2] at h
  exact⟨he,by omega,h⟩
 ·rw[if_neg he] at h;exact absurd h he
structure CellOk (g:TFd):Prop where
 own:dM g.typ=0
 kd:1<=g.typ.kind/\g.typ.kind<=7
 ty:yD 1 g.typ
 emp:ag Tryz.prog aq 36 [g.typ.pv] (.bool (aX g.typ))/\ag Tryz.prog aq 40 [g.typ.pv] (.bool (aX g.typ))
 dft:g.need=3->∃ x r,g.dflt=x::r/\x.ok/\ag Tryz.prog aq 92 [x.pv] x.pv
def yK (t:Typ)(r:Qt×Int):Int:=if r.2=0 then (if yI t r.1=true then 0 else 18) else r.2
def vPQ (k:Int)(r:Qt×Int):PV:=if r.2=0\/6<=k then qA k r.1 else eP
def rdR (t:Typ)(s:List UInt8):Qt×Int:=rdC t.kind t.scale s
def Ms (g:TFd):PV:=match g.dflt with
 | []=>eP
 | x::_=>x.pv
def yQ (g:TFd):Int:=if aX g.typ=true\/g.need=2\/g.need=3 then 0 else 19
def yP (g:TFd):PV:=if aX g.typ=true then i8 g.typ.kind 0 0 [] else if g.need=2 then eP else if g.need=3 then Ms g else eP
def nW (g:TFd)(s:List UInt8):Int:=if cx g.typ.kind s=[] then yQ g else yK g.typ (rdR g.typ (cx g.typ.kind s))
def MH (g:TFd)(s:List UInt8):PV:=if cx g.typ.kind s=[] then yP g else vPQ g.typ.kind (rdR g.typ (cx g.typ.kind s))
theorem SH {g:TFd}(h:aX g.typ=true):yP g=i8 g.typ.kind 0 0 []/\yQ g=0:=⟨if_pos h,if_pos (.inl h)⟩
theorem SF {g:TFd}(h:aX g.typ=false)(h2:g.need=2):yP g=eP/\yQ g=0:=by
 unfold yP yQ
 rw[if_neg (by rw[h];decide),if_pos h2,if_pos (.inr (.inl h2))]
 exact⟨rfl,rfl⟩
theorem SE {g:TFd}(h:aX g.typ=false)(h2:¬ g.need=2)(h3:g.need=3):yP g=Ms g/\yQ g=0:=by
 unfold yP yQ
 rw[if_neg (by rw[h];decide),if_neg h2,if_pos h3,if_pos (.inr (.inr h3))]
 exact⟨rfl,rfl⟩
theorem SD {g:TFd}(h:aX g.typ=false)(h2:¬ g.need=2)(h3:¬ g.need=3):yP g=eP/\yQ g=19:=by
 unfold yP yQ
 rw[if_neg (by rw[h];decide),if_neg h2,if_neg h3,if_neg (fun q=>q.elim (by rw[h];decide) fun q=>q.elim h2 h3)]
 exact⟨rfl,rfl⟩
theorem H7 {T:Nat}{p:PV}(g:TFd)(h:CellOk g)(s:List UInt8)(hs:s.length<=1000000)(h0:cx g.typ.kind s=[]):ag Tryz.prog (bR T p) 53 [.str s,g.pv] (.tup [yP g,.int .i64 (yQ g)]):=by
 obtain⟨ho,hk,ht,⟨he,_⟩,hd⟩:=h
 have hL:=toE (T:=T) (p:=p) (sY s)
 have hR:=toE (T:=T) (p:=p) (sX s hs)
 have hE:=toE (T:=T) (p:=p) he
 have b1:=SH (g:=g)
 have b2:=SF (g:=g)
 have b3:=SE (g:=g)
 have b4:=SD (g:=g)
 have hfin:∀ (x:Val) (r:List Val),g.dflt=x::r->Ms g=x.pv:=fun x r h=>by unfold Ms;rw[h]
 generalize yP g=P at *
 generalize yQ g=E at *
 generalize Ms g=D at *
 generalize aX g.typ=B at *
 obtain⟨n,nm,nd,⟨k,m,M,sc,w,e,f⟩,d⟩:=g
 simp only[TFd.typ,TFd.need,TFd.dflt,Typ.kind,Typ.pv_mk] at *
 unfold cx at h0
 have hc:k=2\/k=3\/¬ k=2/\¬ k=3:=by omega
 refine ag.intro Q53.2 (by simp[Q53]) ?_
 rcases hc with rfl | rfl | ⟨n2,n3⟩
 case' inl=>
  rw[if_pos (.inl rfl)] at h0
  rw[h0] at hL
  simp(disch:=try exact dI) only[Q53,TFd.pv_mk,Typ.pv_mk,ae,List.cons_append,List.nil_append,push_cast,seval]
  refine ab.pure hL rfl ?_
 case' inr.inl=>
  rw[if_pos (.inr rfl)] at h0
  rw[h0] at hL
  simp(disch:=try exact dI) only[Q53,TFd.pv_mk,Typ.pv_mk,ae,List.cons_append,List.nil_append,push_cast,seval]
  refine ab.pure hL rfl ?_
 case' inr.inr=>
  rw[if_neg (fun h=>h.elim n2 n3)] at h0
  rw[h0] at hR
  simp(disch:=try exact dI) only[Q53,TFd.pv_mk,Typ.pv_mk,ae,List.cons_append,List.nil_append,n2,n3,push_cast,seval]
  refine ab.pure hR rfl ?_
 all_goals
  refine zgZ ?_
  refine ab.pure hE rfl ?_
  cases B with
  | true=>
    obtain⟨rfl,rfl⟩:=b1 rfl
    simp(disch:=try exact dI) only[i8,push_cast,seval]
  | false=>
    by_cases h2:nd=2
    ·obtain⟨rfl,rfl⟩:=b2 rfl h2
     simp(disch:=try exact dI) only[h2,eP,push_cast,seval]
    ·by_cases h3:nd=3
     ·obtain⟨rfl,rfl⟩:=b3 rfl h2 h3
      obtain⟨x,r,hx,_,hC⟩:=hd h3
      obtain rfl:=hfin x r hx
      subst hx
      obtain⟨vk,vn,vs,vt,vl,vf⟩:=x
      replace hC:=toE (T:=T) (p:=p) hC
      simp only[Val.pv_mk] at hC ⊢
      simp(disch:=try exact dI) only[h2,h3,aD,List.map_cons,Val.pv_mk,push_cast,seval]
      refine ab.pure hC rfl ?_
      exact qsZ
     ·obtain⟨rfl,rfl⟩:=b4 rfl h2 h3
      simp(disch:=try exact dI) only[h2,h3,eP,push_cast,seval]
theorem IL {k:Int}{r:Qt×Int}(h:r.2=0\/6<=k):vPQ k r=qA k r.1:=if_pos h
theorem NS {k:Int}{r:Qt×Int}(h:¬ (r.2=0\/6<=k)):vPQ k r=eP:=if_neg h
theorem IM (k:Int)(r:Qt×Int):∃ (a b c:Int) (d:List UInt8),vPQ k r=i8 a b c d:=by
 by_cases h:r.2=0\/6<=k
 ·rw[IL h];exact⟨_,_,_,_,rfl⟩
 ·rw[NS h];exact⟨_,_,_,_,rfl⟩
theorem RL (k:Int)(r:Qt×Int):rdP k r = .tup [vPQ k r,.int .i64 r.2]:=rfl
theorem H6 {T:Nat}{p:PV}(g:TFd)(h:CellOk g)(s:List UInt8)(hs:s.length<=1000000)(h0:¬ cx g.typ.kind s=[]):ag Tryz.prog (bR T p) 53 [.str s,g.pv] (.tup [vPQ g.typ.kind (rdR g.typ (cx g.typ.kind s)),.int .i64 (yK g.typ (rdR g.typ (cx g.typ.kind s)))]):=by
 obtain⟨ho,hk,ht,_,_⟩:=h
 have hL:=toE (T:=T) (p:=p) (sY s)
 have hR:=toE (T:=T) (p:=p) (sX s hs)
 have hsl:(cx g.typ.kind s).length<=1000000:=Nat.le_trans (Ai _ _) hs
 have hrd:ag Tryz.prog (bR T p) 107 [.str (cx g.typ.kind s),g.typ.pv] (.tup [vPQ g.typ.kind (rdR g.typ (cx g.typ.kind s)),.int .i64 (rdR g.typ (cx g.typ.kind s)).2]):=by
  rw[<- RL]
  unfold rdR
  obtain⟨n,nm,nd,⟨k,m,M,sc,w,e,f⟩,d⟩:=g
  exact KV k m M sc w e f _ hk hsl
 have hft:(rdR g.typ (cx g.typ.kind s)).2=0->ag Tryz.prog (bR T p) 42 [g.typ.pv,vPQ g.typ.kind (rdR g.typ (cx g.typ.kind s))] (.bool (yI g.typ (rdR g.typ (cx g.typ.kind s)).1)):=fun h=>by
  rw[IL (.inl h)]
  exact toE (Mb g.typ _ ht hk (I3 _ _ _ hsl h))
 have hst:(g.typ.kind=2\/g.typ.kind=3->cx g.typ.kind s=trL s)/\(¬ (g.typ.kind=2\/g.typ.kind=3)->cx g.typ.kind s=trR s):=⟨fun h=>if_pos h,fun h=>if_neg h⟩
 have he1:(rdR g.typ (cx g.typ.kind s)).2=0->yI g.typ (rdR g.typ (cx g.typ.kind s)).1=true->yK g.typ (rdR g.typ (cx g.typ.kind s))=0:=fun a b=>by unfold yK;rw[if_pos a,if_pos b]
 have he2:(rdR g.typ (cx g.typ.kind s)).2=0->yI g.typ (rdR g.typ (cx g.typ.kind s)).1=false->yK g.typ (rdR g.typ (cx g.typ.kind s))=18:=fun a b=>by unfold yK;rw[if_pos a,if_neg (by rw[b];decide)]
 have he3:¬ (rdR g.typ (cx g.typ.kind s)).2=0->yK g.typ (rdR g.typ (cx g.typ.kind s))=(rdR g.typ (cx g.typ.kind s)).2:=fun a=>if_neg a
 obtain⟨v1,v2,v3,v4,hV⟩:=IM g.typ.kind (rdR g.typ (cx g.typ.kind s))
 rw[hV] at hrd hft ⊢
 generalize yI g.typ (rdR g.typ (cx g.typ.kind s)).1=F at *
 generalize yK g.typ (rdR g.typ (cx g.typ.kind s))=E at *
 generalize (rdR g.typ (cx g.typ.kind s)).2=z at *
 clear hV
 generalize cx g.typ.kind s=u at *
 obtain⟨n,nm,nd,⟨k,m,M,sc,w,e,f⟩,d⟩:=g
 simp only[TFd.typ,Typ.kind,Typ.pv_mk,i8] at *
 have hc:k=2\/k=3\/¬ k=2/\¬ k=3:=by omega
 refine ag.intro Q53.2 (by simp[Q53]) ?_
 rcases hc with rfl | rfl | ⟨n2,n3⟩
 case' inl=>
  rw[<- hst.1 (.inl rfl)] at hL
  simp(disch:=try exact dI) only[Q53,TFd.pv_mk,Typ.pv_mk,ae,List.cons_append,List.nil_append,push_cast,seval]
  refine ab.pure hL rfl ?_
 case' inr.inl=>
  rw[<- hst.1 (.inr rfl)] at hL
  simp(disch:=try exact dI) only[Q53,TFd.pv_mk,Typ.pv_mk,ae,List.cons_append,List.nil_append,push_cast,seval]
  refine ab.pure hL rfl ?_
 case' inr.inr=>
  rw[<- hst.2 (fun h=>h.elim n2 n3)] at hR
  simp(disch:=try exact dI) only[Q53,TFd.pv_mk,Typ.pv_mk,ae,List.cons_append,List.nil_append,n2,n3,push_cast,seval]
  refine ab.pure hR rfl ?_
 all_goals
  simp(disch:=try exact dI) only[h0,push_cast,seval]
  refine ab.pure hrd rfl ?_
  by_cases hz:z=0
  ·subst hz
   refine zgZ ?_
   refine ab.pure (hft rfl) rfl ?_
   cases F with
   | true=>
     obtain rfl:=he1 rfl rfl
     exact qsZ
   | false=>
     obtain rfl:=he2 rfl rfl
     exact qsZ
  ·obtain rfl:=he3 hz
   simp(disch:=try exact dI) only[hz,push_cast,seval]
theorem PY {T:Nat}{p:PV}(g:TFd)(h:CellOk g)(s:List UInt8)(hs:s.length<=1000000):ag Tryz.prog (bR T p) 53 [.str s,g.pv] (.tup [MH g s,.int .i64 (nW g s)]):=by
 unfold MH nW
 by_cases h0:cx g.typ.kind s=[]
 ·rw[if_pos h0,if_pos h0];exact H7 g h s hs h0
 ·rw[if_neg h0,if_neg h0];exact H6 g h s hs h0
end Go.Proofs.YtbojpfpliibfbaaGreatDoor

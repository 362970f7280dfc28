/- A part. -/
import Derived.Test.YtbaaokocnegdoaaGreatDoorEnVUk
set_option linter.unusedVariables false
set_option linter.unusedSimpArgs false
set_option maxHeartbeats 16000000
set_option maxRecDepth 100000
open Nat renaming zero_add->VA,mul_comm->Wa,pow_succ->Wd
open List renaming append_nil->VZ,singleton_append->WH,nil_append->VB,length_append->Vp,append_assoc->VQ,cons_append->VF
open Int renaming toNat_natCast->WA
namespace Go.Proofs.YtbaaokocnegdoaaGreatDoor
open Go Go.Ab
attribute [local irreducible] vc
theorem qP:∀ (k a:Nat),(aT k a).all isD=true
 | 0,_=>rfl
 | k+1,a=>by
   rw[aT,List.all_append,qP k,Bool.true_and]
   have hc:(UInt8.ofNat (48+a % 10)).toNat=48+a % 10:=by rw[UInt8.toNat_ofNat'];omega
   simp only[List.all_cons,List.all_nil,Bool.and_true,isD,hc,Bool.and_eq_true,decide_eq_true_eq]
   omega
theorem nL {n:Int}{sc:Nat}(h:IsN n sc):aY (iX n sc)=((n,sc),0):=by
 have hlen:=wz h
 obtain⟨h1,h2,h3⟩:=h
 have ha:n.natAbs<10 ^ 15:=by
  have:(10:Nat) ^ 15=1000000000000000:=by decide
  omega
 have hs:=jI ha
 obtain⟨K,hK⟩:∃ K,K=max (dl n.natAbs) (sc+1) - sc:=⟨_,rfl⟩
 have hK1:1<=K:=by omega
 have haK:n.natAbs / 10 ^ sc<10 ^ K:=by
  refine Nat.div_lt_of_lt_mul ?_
  rw[<- Nat.pow_add]
  exact Nat.lt_of_lt_of_le hs.2.2 (Nat.pow_le_pow_right (by omega) (by omega))
 have hrd:∀ q:List UInt8,q=aT K (n.natAbs / 10 ^ sc)++(if sc=0 then [] else 46::aT sc n.natAbs)->rdS false 0 0 q=(n.natAbs,sc):=by
  intro q hq
  subst hq
  rw[lG,Nat.zero_mul,VA,Nat.mod_eq_of_lt haK]
  by_cases h0:sc=0
  ·subst h0
   rw[if_pos rfl,rdS,Nat.pow_zero,Nat.div_one]
  ·rw[if_neg h0,rdS,if_neg (by decide)]
   have:(false||decide ((46:UInt8)=46))=true:=rfl
   rw[this]
   have:=oK sc (n.natAbs / 10 ^ sc) 0 n.natAbs []
   rw[VZ] at this
   rw[this,rdS,VA]
   congr 1
   have:=Nat.div_add_mod n.natAbs (10 ^ sc)
   rw[Wa] at this
   exact this
 have hdec:iX n sc=(if n<0 then [45] else [])++(aT K (n.natAbs / 10 ^ sc)++(if sc=0 then [] else 46::aT sc n.natAbs)):=by unfold iX;rw[<- hK]
 have hall:rdS false 0 0 (iX n sc)=(n.natAbs,sc)/\sgI (iX n sc) n.natAbs=n/\iX n sc≠[]:=by
  rw[hdec]
  obtain⟨c,r,hcr,hc1,hc2⟩:=lW (k:=K) (a:=n.natAbs / 10 ^ sc) (by omega)
  by_cases hn:n<0
  ·rw[if_pos hn]
   refine⟨?_,?_,by simp⟩
   ·rw[WH,rdS,if_neg (by decide)]
    exact hrd _ rfl
   ·unfold sgI
    rw[WH,List.head?_cons,if_pos rfl];omega
  ·rw[if_neg hn,VB]
   refine⟨hrd _ rfl,?_,by rw[hcr];simp⟩
   unfold sgI
   rw[hcr]
   rw[if_neg (by simp;intro q;subst q;simp at hc1)]
   omega
 obtain⟨g1,g2,g3⟩:=hall
 unfold aY
 rw[if_neg g3,if_neg (by omega),g1]
 simp only
 rw[g2,if_pos ⟨⟨h1,h2,h3⟩,rfl⟩]
theorem rG:∀ (k a:Nat),je 0 (aT k a)=((a % 10 ^ k:Nat):Int)
 | 0,a=>by simp[aT,je,Nat.mod_one]
 | k+1,a=>by
   have hc:(UInt8.ofNat (48+a % 10)).toNat=48+a % 10:=by rw[UInt8.toNat_ofNat'];omega
   rw[aT,kK,rG k,hc]
   have e:=Nat.mod_mul (x:=a) (a:=10) (b:=10 ^ k)
   rw[Wa 10 (10 ^ k),<- Wd] at e
   generalize a / 10 % 10 ^ k=u at *
   generalize a % 10 ^ (k+1)=w at *
   omega
theorem qQ {k a:Nat}{r:List UInt8}(h:a<10 ^ k):tr k (aT k a++r)=some ((a:Int),r):=by
 have hl:=aM k a
 have ht:(aT k a++r).take k=aT k a:=by rw[List.take_append_of_le_length (by omega),List.take_of_length_le (by omega)]
 have hd:(aT k a++r).drop k=r:=by
  have:=List.drop_left (l₁:=aT k a) (l₂:=r)
  rwa [hl] at this
 unfold tr
 rw[ht,hd,if_pos ⟨by rw[Vp];omega,qP k a⟩,rG,Nat.mod_eq_of_lt h]
theorem vA (m r:List UInt8):sk m (m++r)=true:=by
 unfold sk
 exact decide_eq_true ⟨by simp,by simp⟩
theorem dj {m:List UInt8}{ms:List (List UInt8)}{k:Nat}{ks:List Nat}{a:Nat}{r:List UInt8}(h:a<10 ^ k) :
  cQ (m::ms) (k::ks) (m++(aT k a++r))=(cQ ms ks r).map fun q=>((a:Int)::q.1,q.2):=by
 rw[cQ,if_pos (vA _ _),List.drop_left,qQ h]
theorem SO (y:Int)(m:Nat):mdI y m<=31:=(bx y m).2
theorem EW {y:Int}{m:Nat}{d:Int}(h:DateOk y m d):y.toNat<10 ^ 4/\m<10 ^ 2/\d.toNat<10 ^ 2/\((y.toNat:Nat):Int)=y/\((d.toNat:Nat):Int)=d:=by
 obtain⟨h1,h2,h3,h4,h5,h6⟩:=h
 have:=SO y m
 omega
theorem EV {y:Int}{m:Nat}{d:Int}(h:DateOk y m d):mO y m d=(dT y m d - 719162,0):=by
 obtain⟨h1,h2,h3,h4,h5,h6⟩:=h
 unfold mO
 rw[if_pos ⟨h1,h2,by omega,by omega,h5,h6⟩,WA]
theorem th {y:Int}{m:Nat}{d:Int}(h:DateOk y m d):cz (cD y m d)=(dT y m d - 719162,0):=by
 obtain⟨g1,g2,g3,g4,g5⟩:=EW h
 have e:cD y m d=[]++(aT 4 y.toNat++([45]++(aT 2 m++([45]++(aT 2 d.toNat++[]))))):=by simp[cD]
 have hn:cQ [[],[45],[45]] [4,2,2] (cD y m d)=some ([(y.toNat:Int),(m:Int),(d.toNat:Int)],[]):=by
  rw[e,dj g1,dj g2,dj g3];rfl
 unfold cz
 rw[hn,g4,g5]
 exact EV h
theorem tg {y:Int}{m:Nat}{d:Int}(h:DateOk y m d){hh mi s ms:Nat}(h1:hh<=23)(h2:mi<=59)(h3:s<=59)(h4:ms<=999) :
  cy (ij (cD y m d) hh mi s ms)=((dT y m d - 719162)*86400000+(((60*(hh:Int)+mi)*60+s)*1000+ms),0):=by
 obtain⟨g1,g2,g3,g4,g5⟩:=EW h
 obtain⟨q,hq⟩:∃ q,q=(if ms=0 then [] else [46]++aT 3 ms)++([90]:List UInt8):=⟨_,rfl⟩
 have e:ij (cD y m d) hh mi s ms=[]++(aT 4 y.toNat++([45]++(aT 2 m++([45]++(aT 2 d.toNat++([84]++(aT 2 hh++([58]++(aT 2 mi++([58]++(aT 2 s++q))))))))))):=by
  rw[hq];simp[cD,ij]
 have hn:cQ msT ksT (ij (cD y m d) hh mi s ms)=some ([(y.toNat:Int),(m:Int),(d.toNat:Int),(hh:Int),(mi:Int),(s:Int)],q):=by
  unfold msT ksT
  rw[e,dj g1,dj g2,dj g3,dj (by omega),dj (by omega),dj (by omega)];rfl
 have ht:sy q=some (ms:Int):=by
  rw[hq]
  unfold sy
  by_cases h0:ms=0
  ·subst h0;rfl
  ·rw[if_neg h0,VQ,if_pos (vA [46] _)]
   have:([46]++(aT 3 ms++([90]:List UInt8))).drop 1=aT 3 ms++[90]:=rfl
   rw[this,qQ (by omega)]
   simp only
   rw[if_neg (fun q=>q.elim (fun q=>h0 (by omega)) (fun q=>q rfl))]
 unfold cy
 rw[hn]
 simp only
 rw[ht]
 simp only
 unfold Bw
 rw[g4,g5,EV h,if_neg (by simp only;omega)]
theorem Kf {n:Nat}(h:n<16):nib (hx n)=(n:Int):=by
 have hc:n=0\/n=1\/n=2\/n=3\/n=4\/n=5\/n=6\/n=7\/n=8\/n=9\/n=10\/n=11\/n=12\/n=13\/n=14\/n=15:=by omega
 rcases hc with rfl | rfl | rfl | rfl | rfl | rfl | rfl | rfl | rfl | rfl | rfl | rfl | rfl | rfl | rfl | rfl<;>rfl
theorem rq:∀ s:List UInt8,sl (nl s)=some s
 | []=>rfl
 | c::r=>by
   have hl:=c.toNat_lt
   have h1:=Kf (n:=c.toNat / 16) (by omega)
   have h2:=Kf (n:=c.toNat % 16) (by omega)
   rw[nl,sl,rq r,h1,h2,if_neg (by omega),Option.map_some]
   unfold AS
   rw[h1,h2,WA,WA,show 16*(c.toNat / 16)+c.toNat % 16=c.toNat by omega,UInt8.ofNat_toNat]
theorem K9 {t:Typ}{x:Val}(hk:1<=t.kind/\t.kind<=7)(h:FitS t x):bm t.kind (x.num,x.scale,x.text)=x:=by
 have h1:=h.kd
 have h2:=h.fm
 obtain⟨k,n,s,tx,l,f⟩:=x
 simp only[Val.kind,Val.num,Val.scale,Val.text] at *
 rw[<- h1] at hk ⊢
 have e:k=1\/k=2\/k=3\/k=4\/k=5\/k=6\/k=7:=by omega
 have key:l=[]/\f=[]:=by
  rcases e with rfl | rfl | rfl | rfl | rfl | rfl | rfl
  all_goals
   simp[aE] at h2
   simp[h2]
 obtain⟨rfl,rfl⟩:=key
 rfl
theorem tk {k m M s:Int}{w:List (List UInt8)}{e:List Typ}{f:List TFd}(h:fv (.mk k m M s w e f)=0)(hk:k=2\/k=3\/k=6\/k=7):loK k<=m/\M<=hiK k/\(k=3->0<=s/\s<=12):=by
 have hb:=(bE h).2.1
 unfold cU at hb
 have h4:¬ (k=4/\0<w.length):=by omega
 rw[if_neg h4] at hb
 by_cases hc:(2<=k/\k<=8)/\(M<m\/m<loK k\/hiK k<M)
 ·rw[if_pos hc] at hb;exact absurd hb (by decide)
 have h1:¬ (M<m\/m<loK k\/hiK k<M):=fun hh=>hc ⟨by omega,hh⟩
 rw[if_neg hc] at hb
 refine⟨by omega,by omega,fun h3=>?_⟩
 by_cases hs:k=3/\inB s 0 12=false
 ·rw[if_pos hs] at hb;exact absurd hb (by decide)
 ·have:inB s 0 12=true:=by
   cases hi:inB s 0 12 with
   | true=>rfl
   | false=>exact absurd ⟨h3,hi⟩ hs
  simpa[inB] using this
inductive TxtD:Typ->Val->List UInt8->Prop where
 | bool {m M s w e f x}:FitS (.mk 1 m M s w e f) x->TxtD (.mk 1 m M s w e f) x (if x.num=1 then gR else eF)
 | num {k m M s w e f x} (sc:Nat):(k=2\/k=3)->FitS (.mk k m M s w e f) x->x.scale=(sc:Int)->IsN x.num sc->TxtD (.mk k m M s w e f) x (iX x.num sc)
 | text {m M s w e f x}:FitS (.mk 4 m M s w e f) x->TxtD (.mk 4 m M s w e f) x x.text
 | octs {m M s w e f x}:FitS (.mk 5 m M s w e f) x->TxtD (.mk 5 m M s w e f) x (nl x.text)
 | day {m M s w e f x} (y:Int) (mo:Nat) (d:Int):FitS (.mk 6 m M s w e f) x->DateOk y mo d->x.num=dT y mo d - 719162->TxtD (.mk 6 m M s w e f) x (cD y mo d)
 | time {m M s w e f x} (y:Int) (mo:Nat) (d:Int) (h mi se ms:Nat):FitS (.mk 7 m M s w e f) x->DateOk y mo d->h<=23->mi<=59->se<=59->ms<=999->x.num=(dT y mo d - 719162)*86400000+(((60*(h:Int)+mi)*60+se)*1000+ms)->TxtD (.mk 7 m M s w e f) x (ij (cD y mo d) h mi se ms)
theorem O5 {t:Typ}{x:Val}(ho:fv t=0)(hk:1<=t.kind/\t.kind<=7)(h:FitS t x):∃ tx,TxtD t x tx:=by
 obtain⟨k,m,M,s,w,e,f⟩:=t
 simp only[Typ.kind] at hk
 have hn:=h.nm
 simp only[Typ.kind,Typ.min,Typ.max] at hn
 have hc:k=1\/(k=2\/k=3)\/k=4\/k=5\/k=6\/k=7:=by omega
 rcases hc with rfl | h23 | rfl | rfl | rfl | rfl
 ·exact⟨_,.bool h⟩
 ·have hb:=tk ho (by omega)
  have hnn:=hn (by omega)
  have hlo:loK k = -999999999999999/\hiK k=999999999999999:=by rcases h23 with rfl | rfl<;>exact⟨rfl,rfl⟩
  have hs:0<=x.scale/\x.scale<=12:=by
   rcases h23 with rfl | rfl
   ·have h2:=h.fm
    have h1:=h.kd
    obtain⟨vk,vn,vs,vt,vl,vf⟩:=x
    simp only[Val.kind,Typ.kind] at h1
    subst h1
    simp[aE] at h2
    simp only[Val.scale];omega
   ·have:=h.sc rfl
    simp only[Typ.scale] at this
    rw[this];exact hb.2.2 rfl
  exact⟨_,.num x.scale.toNat h23 h (by omega) (by unfold IsN;omega)⟩
 ·exact⟨_,.text h⟩
 ·exact⟨_,.octs h⟩
 ·have hb:=tk ho (by omega)
  have hnn:=hn (by omega)
  rw[show loK 6 = -719162 from rfl,show hiK 6=2932896 from rfl] at hb
  obtain⟨y,mo,d,hD,hd⟩:=Kx (n:=x.num+719162) (by omega) (by omega)
  exact⟨_,.day y mo d h hD (by omega)⟩
 ·have hb:=tk ho (by omega)
  have hnn:=hn (by omega)
  rw[show loK 7 = -62135596800000 from rfl,show hiK 7=253402300799999 from rfl] at hb
  obtain⟨y,mo,d,hD,hd⟩:=Kx (n:=x.num / 86400000+719162) (by omega) (by omega)
  obtain⟨r,hr⟩:∃ r:Nat,r=(x.num % 86400000).toNat:=⟨_,rfl⟩
  exact⟨_,.time y mo d (r / 3600000) (r / 60000 % 60) (r / 1000 % 60) (r % 1000) h hD (by omega) (by omega) (by omega) (by omega) (by rw[<- hd];omega)⟩
theorem Bx (t:List UInt8)(h mi s ms:Nat):(ij t h mi s ms).length<=t.length+14:=by
 unfold ij
 simp only[Vp,List.length_cons,List.length_nil,aM]
 split<;>simp[aM]<;>omega
theorem ga {t:Typ}{x:Val}{tx:List UInt8}(h:TxtD t x tx)(hl:x.text.length<=2000):rdQ t.kind tx=((x.num,x.scale,x.text),true)/\tx.length<=5000/\FitS t x:=by
 cases h with
 | bool hf=>
   have h1:=hf.kd
   have h2:=hf.fm
   obtain⟨k,n,sc,tx,l,fs⟩:=x
   simp only[Val.kind,Typ.kind] at h1
   subst h1
   have hn:(n=0\/n=1)/\sc=0/\tx=[]:=by
    simp[aE] at h2
    exact⟨h2.1,h2.2.1,h2.2.2.1⟩
   obtain⟨hn,rfl,rfl⟩:=hn
   simp only[Val.num,Val.scale,Val.text,Typ.kind]
   rcases hn with rfl | rfl
   ·exact⟨rfl,by simp[gR,eF],hf⟩
   ·exact⟨rfl,by simp[gR,eF],hf⟩
 | num sc hk hf hs hN=>
   have h1:=hf.kd
   have h2:=hf.fm
   have hl17:=wz hN
   obtain⟨vk,vn,vs,vt,vl,vf⟩:=x
   simp only[Val.kind,Typ.kind,Val.num,Val.scale,Val.text] at *
   subst hs h1
   refine⟨?_,by omega,hf⟩
   have ht:vt=[]:=by
    rcases hk with rfl | rfl
    ·simp[aE] at h2;exact h2.2.1
    ·simp[aE] at h2;exact h2.1
   subst ht
   rcases hk with rfl | rfl
   ·rw[Cm,nL hN]
    simp[aE] at h2
    simp;omega
   ·rw[Cl,nL hN];simp
 | text hf=>
   have h1:=hf.kd
   have h2:=hf.fm
   obtain⟨vk,vn,vs,vt,vl,vf⟩:=x
   simp only[Val.kind,Typ.kind,Val.num,Val.scale,Val.text] at *
   subst h1
   simp[aE] at h2
   obtain⟨_,rfl,rfl,_⟩:=h2
   exact⟨rfl,by omega,hf⟩
 | octs hf=>
   have h1:=hf.kd
   have h2:=hf.fm
   have hw:=kF x.text
   have hb:=rq x.text
   obtain⟨vk,vn,vs,vt,vl,vf⟩:=x
   simp only[Val.kind,Typ.kind,Val.num,Val.scale,Val.text] at *
   subst h1
   simp[aE] at h2
   obtain⟨rfl,rfl,_⟩:=h2
   have hev:(nl vt).length % 2=0:=by omega
   refine⟨?_,by omega,hf⟩
   rw[Ck,<- iM hev,hb,decide_eq_true hev];rfl
 | day y mo d hf hD hn=>
   have h1:=hf.kd
   have h2:=hf.fm
   have hp:=th hD
   have hl:=ik y mo d
   obtain⟨vk,vn,vs,vt,vl,vf⟩:=x
   simp only[Val.kind,Typ.kind,Val.num,Val.scale,Val.text] at *
   subst h1 hn
   simp[aE] at h2
   obtain⟨rfl,rfl,_⟩:=h2
   refine⟨?_,by omega,hf⟩
   rw[Cj,hp];rfl
 | time y mo d h mi se ms hf hD e1 e2 e3 e4 hn=>
   have h1:=hf.kd
   have h2:=hf.fm
   have hp:=tg hD e1 e2 e3 e4
   have hl:=ik y mo d
   have hl2:=Bx (cD y mo d) h mi se ms
   obtain⟨vk,vn,vs,vt,vl,vf⟩:=x
   simp only[Val.kind,Typ.kind,Val.num,Val.scale,Val.text] at *
   subst h1 hn
   simp[aE] at h2
   obtain⟨rfl,rfl,_⟩:=h2
   refine⟨?_,by omega,hf⟩
   rw[Ci,hp];rfl
theorem xP {k:Int}(h:1<=k/\k<=7):nj k=true:=(dQ k).2 h
theorem QX {t:Typ}{x:Val}{tx:List UInt8}(h:TxtD t x tx)(hl:x.text.length<=2000)(ht:eK 1 t)(hk:1<=t.kind/\t.kind<=7):ae Tryz.prog aq 16 [t.pv,x.pv] (.tup [.str tx,.int .i64 0]):=by
 obtain⟨h1,h2,hf⟩:=ga h hl
 have hv:=K9 hk hf
 have hm:(aO 1 t (bm t.kind (rdQ t.kind tx).1) []).isEmpty=true:=by
  rw[h1]
  simp only
  rw[hv,pm hk hf];rfl
 have:=Jh h2 ht (xP hk) (by rw[h1]) hm
 rw[h1] at this
 simp only at this
 rwa [hv] at this
theorem O3 {t:Typ}{x:Val}{tx:List UInt8}(h:TxtD t x tx)(hl:x.text.length<=2000)(hk:1<=t.kind/\t.kind<=7):kX t tx=(x,0):=by
 obtain⟨h1,h2,hf⟩:=ga h hl
 have hv:=K9 hk hf
 unfold kX
 rw[xP hk,h1]
 simp only[hv,pm hk hf]
 simp
theorem dD (n c:Nat)(hn:n<=1000000000000)(hc:c<=20):ae Tryz.prog aq 157 [.int .i64 (n:Int),.int .i64 (c:Int)] (.str (aT c n)):=by
 refine ae.intro Ul.2 (by simp[Ul]) ?_
 simp(disch:=try exact dI) only[Ul,push_cast,seval]
 refine ap ([]) (fun i:Nat=>[(0,.pv (.int .i64 ((n / 10 ^ i:Nat):Int))),(5,.pv (.str (aT i n))),(6,.pv (.int .i64 (i:Int)))]) (fun _=>[]) (fun i=>i<=c) (fun i=>c - i) (0) ?_;intro e0 σ0 n0 h0;simp(disch:=try exact dI) only[push_cast,seval] at h0;obtain⟨rfl,rfl,rfl⟩:=h0;refine⟨?_,?_,?_⟩
 ·simp(disch:=try exact dI) only[aT,Nat.pow_zero,Nat.div_one,push_cast,seval]
 ·omega
 rintro i hi
 by_cases hlt:i<c
 ·have hltI:(i:Int)<(c:Int):=by omega
  have hs:=iG i n
  have hq:n / 10 ^ (i+1)=n / 10 ^ i / 10:=by rw[Wd,Nat.div_div_eq_div_mul]
  have hle:n / 10 ^ i<=n:=Nat.div_le_self ..
  have hll:=aM i n
  generalize n / 10 ^ i=q at *
  generalize aT i n=T at *
  have ht:(48+(q:Int) % 10).toNat=48+q % 10:=by omega
  have hqI:(q:Int) / 10=(n:Int) / 10 ^ (i+1):=by
   have h:((n / 10 ^ (i+1):Nat):Int)=((q / 10:Nat):Int):=by rw[hq]
   push_cast at h
   exact h.symm
  simp(disch:=try exact dI) only[ht,push_cast,seval]
  exact⟨i+1,aI (by simp(disch:=try exact dI) only[hs,hqI,push_cast,seval]),by omega,by omega⟩
 ·obtain rfl:i=c:=by omega
  simp(disch:=try exact dI) only[Int.lt_irrefl,push_cast,seval]
theorem KI {y z:Int}(h1:1<=y)(h:y<=z):bV y<=bV z:=by
 unfold bV;omega
theorem KJ {y:Int}(h:1<=y):bV y<=366*(y - 1):=by
 unfold bV;omega
theorem Je {y:Int}{m:Nat}{d:Int}(h:DateOk y m d):ae Tryz.prog aq 156 [.int .i64 (dT y m d - 719162)] (.tup [.int .i64 y,.int .i64 (m:Int),.int .i64 d]):=by
 have hb:=mN h
 obtain⟨h1,h2,h3,h4,h5,h6⟩:=h
 have hbu:=KJ (y:=y+1) (by omega)
 have hbl:0<=bV y:=by unfold bV;omega
 have hD:dT y m d=bV y+cb y (m - 1)+d - 1:=rfl
 have hN:dT y m d<=3652424:=by
  have:=KI (y:=y+1) (z:=10000) (by omega) (by omega)
  have e:bV 10000=3652059:=by decide
  omega
 generalize dT y m d=N at *
 obtain⟨k0,hk0⟩:∃ k0:Nat,k0=(N / 366).toNat:=⟨_,rfl⟩
 have hq:N - 719162+719162=N:=by omega
 have hdiv:N.tdiv 366=(k0:Int):=by rw[Int.tdiv_eq_ediv_of_nonneg (by omega)];omega
 have hk1:(k0:Int)+1<=y:=by
  have hlt:N<366*y:=by
   have:=KJ (y:=y+1) (by omega)
   omega
  omega
 refine ae.intro Um.2 (by simp[Um]) ?_
 simp(disch:=try exact dI) only[Um,hq,hdiv,push_cast,seval]
 have hstop:∀ z:Int,1<=z->z<=y->N<bV (z+1)->z=y:=fun z z1 z2 z3=>by
  by_cases hz:z=y
  ·exact hz
  ·have:=KI (y:=z+1) (z:=y) (by omega) (by omega)
   omega
 have hk:(N - 719162 - -719162) / 366=(k0:Int):=by omega
 refine gP ([]) (fun j:Nat=>[(2,.pv (.int .i64 ((k0:Int)+1+j)))]) (fun _=>[]) (fun j=>(k0:Int)+1+j<=y) (fun j=>(y - ((k0:Int)+1+j)).toNat) (0) ([0,2]) (fun j=>(k0:Int)+1+j=y) ?_;intro e0 σ0 n0 h0;simp(disch:=try exact dI) only[push_cast,seval] at h0;obtain⟨rfl,rfl,rfl⟩:=h0;refine⟨?_,?_,?_,?_⟩
 ·simp(disch:=try exact dI) only[hk,Int.add_zero,push_cast,seval]
 ·omega
 ·rintro j hj
  generalize hz:(k0:Int)+1+(j:Int)=z at hj
  have hz1:1<=z:=by omega
  by_cases h9:z<9999
  ·have hr:=Cg (y:=z+1) (m:=1) (d:=1) ⟨by omega,by omega,by omega,by omega,by omega,by have:=(bx (z+1) ((1:Nat):Int)).1;omega⟩
   rw[show dT (z+1) 1 1=bV (z+1) by unfold dT;simp[cb]] at hr
   have hb1:0<=bV (z+1)/\bV (z+1)<=4000000:=by unfold bV;omega
   have hst:=hstop z hz1 hj
   have hgo:¬ N<bV (z+1)->z+1<=y:=fun h=>by
    by_cases hzy:z=y
    ·subst hzy;exact absurd hb.2 h
    ·omega
   have hz2:(k0:Int)+1+((j:Int)+1)=z+1:=by omega
   generalize bV (z+1)=B at *
   by_cases hB:N<B
   ·have hBI:N - 719162<B - 719162:=by omega
    simp(disch:=try exact dI) only[h9,hz,push_cast,seval]
    refine ab.pure hr rfl ?_
    simp(disch:=try exact dI) only[hBI,hz,push_cast,seval]
    exact⟨j,by rw[hz];exact hst hB,by simp(disch:=try exact dI) only[hz,push_cast,seval]⟩
   ·have hBI:¬ N - 719162<B - 719162:=by omega
    simp(disch:=try exact dI) only[h9,hz,push_cast,seval]
    refine ab.pure hr rfl ?_
    simp(disch:=try exact dI) only[hBI,hz,push_cast,seval]
    have:=hgo hB
    exact⟨j+1,aI (by simp(disch:=try exact dI) only[hz2,push_cast,seval]),by omega,by omega⟩
  ·simp(disch:=try exact dI) only[h9,hz,push_cast,seval]
   exact⟨j,by omega,by simp(disch:=try exact dI) only[hz,push_cast,seval]⟩
 intro j hj s1 hs1;simp(disch:=try exact dI) only[push_cast,seval] at hs1;subst hs1
 simp(disch:=try exact dI) only[hj,push_cast,seval]
 have hr:=Cg (y:=y) (m:=1) (d:=1) ⟨h1,h2,by omega,by omega,by omega,by have:=(bx y ((1:Nat):Int)).1;omega⟩
 rw[show dT y 1 1=bV y by unfold dT;simp[cb]] at hr
 refine ab.pure hr rfl ?_
 have hbu2:bV y<=4000000:=by omega
 have hle:∀ j:Nat,j+1<m->cb y (j+1)<=cb y (m - 1):=fun j hj=>by
  have:=bK y (m - 1 - (j+1)) (j+1)
  rw[show j+1+(m - 1 - (j+1))=m - 1 by omega] at this
  omega
 have hs0:∀ j:Nat,0<=cb y j:=fun j=>by
  have:=bK y j 0
  rw[VA,show cb y 0=0 from rfl] at this
  omega
 generalize bV y=B at *
 have hsub:N - 719162 - (B - 719162)=N - B:=by omega
 simp(disch:=try exact dI) only[hsub,push_cast,seval]
 refine ap ([]) (fun i:Nat=>[(3,.pv (.int .i64 ((i:Int)+1))),(5,.pv (.int .i64 (N - B - cb y i)))]) (fun _=>[]) (fun i=>i+1<=m) (fun i=>m - i) (0) ?_;intro e0 σ0 n0 h0;simp(disch:=try exact dI) only[push_cast,seval] at h0;obtain⟨rfl,rfl,rfl⟩:=h0;refine⟨?_,?_,?_⟩
 ·simp(disch:=try exact dI) only[show cb y 0=0 from rfl,Int.sub_zero,push_cast,seval]
 ·omega
 rintro i hi
 have hm:=oV h1 h2 (i+1) (by omega) (by omega)
 have hsi:=hs0 i
 have hmb:=bx y ((i+1:Nat):Int)
 have hss:cb y (i+1)=cb y i+mdI y ((i+1:Nat):Int):=rfl
 by_cases hlt:i+1<m
 ·have hl:=hle i hlt
  generalize mdI y ((i+1:Nat):Int)=M at *
  generalize cb y i=S at *
  have hge:M<=N - B - S:=by omega
  refine zgZ ?_
  refine ab.pure hm rfl ?_
  simp(disch:=try exact dI) only[hge,push_cast,seval]
  refine ab.pure hm rfl ?_
  refine zgZ ?_
  exact⟨i+1,aI (by simp(disch:=try exact dI) only[hss,Int.sub_sub,Int.add_assoc,push_cast,seval]),by omega,by omega⟩
 ·obtain rfl:m=i+1:=by omega
  rw[Nat.add_sub_cancel] at hD
  generalize mdI y ((i+1:Nat):Int)=M at *
  generalize cb y i=S at *
  have hge:¬ M<=N - B - S:=by omega
  have hd:N - B - S+1=d:=by omega
  refine zgZ ?_
  refine ab.pure hm rfl ?_
  simp(disch:=try exact dI) only[hge,hd,push_cast,seval]
theorem B0 {y:Int}{m:Nat}{d:Int}(h:DateOk y m d):ae Tryz.prog aq 106 [.int .i64 (dT y m d - 719162)] (.str (cD y m d)):=by
 have hc:=Je h
 have hmb:=bx y (m:Int)
 obtain⟨h1,h2,h3,h4,h5,h6⟩:=h
 have hy:=dD y.toNat 4 (by omega) (by omega)
 have hm:=dD m 2 (by omega) (by omega)
 have hd:=dD d.toNat 2 (by omega) (by omega)
 rw[show ((y.toNat:Nat):Int)=y by omega] at hy
 rw[show ((d.toNat:Nat):Int)=d by omega] at hd
 have l1:=aM 4 y.toNat
 have l2:=aM 2 m
 have l3:=aM 2 d.toNat
 unfold cD
 generalize aT 4 y.toNat=a at *
 generalize aT 2 m=b at *
 generalize aT 2 d.toNat=c at *
 generalize dT y m d - 719162=N at *
 refine ae.intro Uq.2 (by simp[Uq]) ?_
 simp(disch:=try exact dI) only[Uq,push_cast,seval]
 refine ab.pure hc rfl ?_
 refine zgZ ?_
 refine ab.pure hy rfl ?_
 refine zgZ ?_
 refine ab.pure hm rfl ?_
 refine zgZ ?_
 refine ab.pure hd rfl ?_
 exact qsZ
theorem GI (n:Int)(h1:-1000000000000000<=n)(h2:n<=1000000000000000):ae Tryz.prog aq 158 [.int .i64 n] (.tup [.int .i64 (n / 86400000),.int .i64 (n % 86400000)]):=by
 obtain⟨q,hq⟩:∃ q,q=n.tdiv 86400000:=⟨_,rfl⟩
 obtain⟨r,hr⟩:∃ r,r=n.tmod 86400000:=⟨_,rfl⟩
 have hqr:(0<=r/\q=n / 86400000/\r=n % 86400000)\/(r<0/\q - 1=n / 86400000/\r+86400000=n % 86400000):=by
  by_cases h0:0<=n
  ·rw[cZ h0] at hq
   rw[cY h0] at hr
   left;omega
  ·have e:n = -(-n):=by omega
   rw[e,Int.neg_tdiv,cZ (by omega)] at hq
   rw[e,Int.neg_tmod,cY (by omega)] at hr
   omega
 refine ae.intro Sa.2 (by simp[Sa]) ?_
 rcases hqr with ⟨c,e1,e2⟩ | ⟨c,e1,e2⟩
 ·rw[<- e1,<- e2]
  have c':¬ r<0:=by omega
  simp(disch:=try exact dI) only[Sa,<- hq,<- hr,c',push_cast,seval]
 ·rw[<- e1,<- e2]
  simp(disch:=try exact dI) only[Sa,<- hq,<- hr,c,push_cast,seval]
theorem GW {y:Int}{m:Nat}{d:Int}(hD:DateOk y m d){h mi s ms:Nat}(h1:h<=23)(h2:mi<=59)(h3:s<=59)(h4:ms<=999) :
  ae Tryz.prog aq 107 [.int .i64 ((dT y m d - 719162)*86400000+((((60*(h:Int)+mi)*60+s)*1000+ms)))] (.str (ij (cD y m d) h mi s ms)):=by
 have hr:=cq hD
 have ht:=B0 hD
 have htl:=ik y m d
 obtain⟨r,hre⟩:∃ r,r=((60*(h:Int)+mi)*60+s)*1000+ms:=⟨_,rfl⟩
 rw[<- hre]
 have hDr:-719162<=dT y m d - 719162/\dT y m d - 719162<=2932896:=by omega
 clear hr
 generalize dT y m d - 719162=D at *
 have hs:=GI (D*86400000+r) (by omega) (by omega)
 rw[show (D*86400000+r) / 86400000=D by omega,show (D*86400000+r) % 86400000=r by omega] at hs
 have p1:=dD h 2 (by omega) (by omega)
 have p2:=dD mi 2 (by omega) (by omega)
 have p3:=dD s 2 (by omega) (by omega)
 have p4:=dD ms 3 (by omega) (by omega)
 have l1:=aM 2 h
 have l2:=aM 2 mi
 have l3:=aM 2 s
 have l4:=aM 3 ms
 unfold ij
 generalize aT 2 h=a1 at *
 generalize aT 2 mi=a2 at *
 generalize aT 2 s=a3 at *
 generalize aT 3 ms=a4 at *
 generalize cD y m d=T at *
 have q1:r / 3600000=(h:Int):=by omega
 have q2:r / 60000 % 60=(mi:Int):=by omega
 have q3:r / 1000 % 60=(s:Int):=by omega
 have q4:r % 1000=(ms:Int):=by omega
 generalize D*86400000+r=N at *
 refine ae.intro Sg.2 (by simp[Sg]) ?_
 by_cases hz:ms=0
 ·subst hz
  rw[if_pos rfl]
  simp(disch:=try exact dI) only[Sg,push_cast,seval]
  refine ab.pure hs rfl ?_
  refine zgZ ?_
  refine ab.pure ht rfl ?_
  simp(disch:=try exact dI) only[q1,push_cast,seval]
  refine ab.pure p1 rfl ?_
  simp(disch:=try exact dI) only[q2,push_cast,seval]
  refine ab.pure p2 rfl ?_
  simp(disch:=try exact dI) only[q3,push_cast,seval]
  refine ab.pure p3 rfl ?_
  simp(disch:=try exact dI) only[q4,VQ,VZ,VF,VB,push_cast,seval]
 ·rw[if_neg hz]
  have hzI:¬ (ms:Int)=0:=by omega
  simp(disch:=try exact dI) only[Sg,push_cast,seval]
  refine ab.pure hs rfl ?_
  refine zgZ ?_
  refine ab.pure ht rfl ?_
  simp(disch:=try exact dI) only[q1,push_cast,seval]
  refine ab.pure p1 rfl ?_
  simp(disch:=try exact dI) only[q2,push_cast,seval]
  refine ab.pure p2 rfl ?_
  simp(disch:=try exact dI) only[q3,push_cast,seval]
  refine ab.pure p3 rfl ?_
  simp(disch:=try exact dI) only[q4,hzI,push_cast,seval]
  refine ab.pure p4 rfl ?_
  simp(disch:=try exact dI) only[VQ,VZ,VF,VB,push_cast,seval]

/- A part of the proof. -/
import Derived.Test.YtbaaokocnegdoaaGreatDoorAgVUj
set_option linter.unusedVariables false
set_option linter.unusedSimpArgs false
set_option maxHeartbeats 16000000
set_option maxRecDepth 100000
namespace Go.Proofs.YtbaaokocnegdoaaGreatDoor
open Go Go.Ab
attribute [local irreducible] vc
theorem pN:∀ (k a:Nat),(aW k a).all isD=true
 | 0,_=>rfl
 | k+1,a=>by
   rw[aW,List.all_append,pN k,Bool.true_and]
   have hc:(UInt8.ofNat (48+a % 10)).toNat=48+a % 10:=by rw[UInt8.toNat_ofNat'];omega
   simp only[List.all_cons,List.all_nil,Bool.and_true,isD,hc,Bool.and_eq_true,decide_eq_true_eq]
   omega
theorem mM {n:Int}{sc:Nat}(h:IsN n sc):aS (iW n sc)=((n,sc),0):=by
 have hlen:=vP h
 obtain⟨h1,h2,h3⟩:=h
 have ha:n.natAbs<10 ^ 15:=by
  have:(10:Nat) ^ 15=1000000000000000:=by decide
  omega
 have hs:=lI ha
 obtain⟨K,hK⟩:∃ K,K=max (dl n.natAbs) (sc+1) - sc:=⟨_,rfl⟩
 have hK1:1<=K:=by omega
 have haK:n.natAbs / 10 ^ sc<10 ^ K:=by
  refine Nat.div_lt_of_lt_mul ?_
  rw[<- Nat.pow_add]
  exact Nat.lt_of_lt_of_le hs.2.2 (Nat.pow_le_pow_right (by omega) (by omega))
 have hrd:∀ q:List UInt8,q=aW K (n.natAbs / 10 ^ sc)++(if sc=0 then [] else 46::aW sc n.natAbs)->rdS false 0 0 q=(n.natAbs,sc):=by
  intro q hq
  subst hq
  rw[kz,Nat.zero_mul,Nat.zero_add,Nat.mod_eq_of_lt haK]
  by_cases h0:sc=0
  ·subst h0
   rw[if_pos rfl,rdS,Nat.pow_zero,Nat.div_one]
  ·rw[if_neg h0,rdS,if_neg (by decide)]
   have:(false||decide ((46:UInt8)=46))=true:=rfl
   rw[this]
   have:=nM sc (n.natAbs / 10 ^ sc) 0 n.natAbs []
   rw[List.append_nil] at this
   rw[this,rdS,Nat.zero_add]
   congr 1
   have:=Nat.div_add_mod n.natAbs (10 ^ sc)
   rw[Nat.mul_comm] at this
   exact this
 have hdec:iW n sc=(if n<0 then [45] else [])++(aW K (n.natAbs / 10 ^ sc)++(if sc=0 then [] else 46::aW sc n.natAbs)):=by unfold iW;rw[<- hK]
 have hall:rdS false 0 0 (iW n sc)=(n.natAbs,sc)/\sgI (iW n sc) n.natAbs=n/\iW n sc≠[]:=by
  rw[hdec]
  obtain⟨c,r,hcr,hc1,hc2⟩:=kQ (k:=K) (a:=n.natAbs / 10 ^ sc) (by omega)
  by_cases hn:n<0
  ·rw[if_pos hn]
   refine⟨?_,?_,by simp⟩
   ·rw[List.singleton_append,rdS,if_neg (by decide)]
    exact hrd _ rfl
   ·unfold sgI
    rw[List.singleton_append,List.head?_cons,if_pos rfl];omega
  ·rw[if_neg hn,List.nil_append]
   refine⟨hrd _ rfl,?_,by rw[hcr];simp⟩
   unfold sgI
   rw[hcr]
   rw[if_neg (by simp;intro q;subst q;simp at hc1)]
   omega
 obtain⟨g1,g2,g3⟩:=hall
 unfold aS
 rw[if_neg g3,if_neg (by omega),g1]
 simp only
 rw[g2,if_pos ⟨⟨h1,h2,h3⟩,rfl⟩]
theorem qL:∀ (k a:Nat),io 0 (aW k a)=((a % 10 ^ k:Nat):Int)
 | 0,a=>by simp[aW,io,Nat.mod_one]
 | k+1,a=>by
   have hc:(UInt8.ofNat (48+a % 10)).toNat=48+a % 10:=by rw[UInt8.toNat_ofNat'];omega
   rw[aW,jZ,qL k,hc]
   have e:=Nat.mod_mul (x:=a) (a:=10) (b:=10 ^ k)
   rw[Nat.mul_comm 10 (10 ^ k),<- Nat.pow_succ] at e
   generalize a / 10 % 10 ^ k=u at *
   generalize a % 10 ^ (k+1)=w at *
   omega
theorem pO {k a:Nat}{r:List UInt8}(h:a<10 ^ k):sJ k (aW k a++r)=some ((a:Int),r):=by
 have hl:=aT k a
 have ht:(aW k a++r).take k=aW k a:=by rw[List.take_append_of_le_length (by omega),List.take_of_length_le (by omega)]
 have hd:(aW k a++r).drop k=r:=by
  have:=List.drop_left (l₁:=aW k a) (l₂:=r)
  rwa [hl] at this
 unfold sJ
 rw[ht,hd,if_pos ⟨by rw[List.length_append];omega,pN k a⟩,qL,Nat.mod_eq_of_lt h]
theorem uM (m r:List UInt8):rt m (m++r)=true:=by
 unfold rt
 exact decide_eq_true ⟨by simp,by simp⟩
theorem cE {m:List UInt8}{ms:List (List UInt8)}{k:Nat}{ks:List Nat}{a:Nat}{r:List UInt8}(h:a<10 ^ k) :
  cr (m::ms) (k::ks) (m++(aW k a++r))=(cr ms ks r).map fun q=>((a:Int)::q.1,q.2):=by
 rw[cr,if_pos (uM _ _),List.drop_left,pO h]
theorem Se (y:Int)(m:Nat):mdI y m<=31:=(dS y m).2
theorem EB {y:Int}{m:Nat}{d:Int}(h:DateOk y m d):y.toNat<10 ^ 4/\m<10 ^ 2/\d.toNat<10 ^ 2/\((y.toNat:Nat):Int)=y/\((d.toNat:Nat):Int)=d:=by
 obtain⟨h1,h2,h3,h4,h5,h6⟩:=h
 have:=Se y m
 omega
theorem EA {y:Int}{m:Nat}{d:Int}(h:DateOk y m d):lO y m d=(iX y m d - 719162,0):=by
 obtain⟨h1,h2,h3,h4,h5,h6⟩:=h
 unfold lO
 rw[if_pos ⟨h1,h2,by omega,by omega,h5,h6⟩,Int.toNat_natCast]
theorem sD {y:Int}{m:Nat}{d:Int}(h:DateOk y m d):ca (dw y m d)=(iX y m d - 719162,0):=by
 obtain⟨g1,g2,g3,g4,g5⟩:=EB h
 have e:dw y m d=[]++(aW 4 y.toNat++([45]++(aW 2 m++([45]++(aW 2 d.toNat++[]))))):=by simp[dw]
 have hn:cr [[],[45],[45]] [4,2,2] (dw y m d)=some ([(y.toNat:Int),(m:Int),(d.toNat:Int)],[]):=by
  rw[e,cE g1,cE g2,cE g3];rfl
 unfold ca
 rw[hn,g4,g5]
 exact EA h
theorem sC {y:Int}{m:Nat}{d:Int}(h:DateOk y m d){hh mi s ms:Nat}(h1:hh<=23)(h2:mi<=59)(h3:s<=59)(h4:ms<=999) :
  b9 (ke (dw y m d) hh mi s ms)=((iX y m d - 719162)*86400000+(((60*(hh:Int)+mi)*60+s)*1000+ms),0):=by
 obtain⟨g1,g2,g3,g4,g5⟩:=EB h
 obtain⟨q,hq⟩:∃ q,q=(if ms=0 then [] else [46]++aW 3 ms)++([90]:List UInt8):=⟨_,rfl⟩
 have e:ke (dw y m d) hh mi s ms=[]++(aW 4 y.toNat++([45]++(aW 2 m++([45]++(aW 2 d.toNat++([84]++(aW 2 hh++([58]++(aW 2 mi++([58]++(aW 2 s++q))))))))))):=by
  rw[hq];simp[dw,ke]
 have hn:cr msT ksT (ke (dw y m d) hh mi s ms)=some ([(y.toNat:Int),(m:Int),(d.toNat:Int),(hh:Int),(mi:Int),(s:Int)],q):=by
  unfold msT ksT
  rw[e,cE g1,cE g2,cE g3,cE (by omega),cE (by omega),cE (by omega)];rfl
 have ht:rL q=some (ms:Int):=by
  rw[hq]
  unfold rL
  by_cases h0:ms=0
  ·subst h0;rfl
  ·rw[if_neg h0,List.append_assoc,if_pos (uM [46] _)]
   have:([46]++(aW 3 ms++([90]:List UInt8))).drop 1=aW 3 ms++[90]:=rfl
   rw[this,pO (by omega)]
   simp only
   rw[if_neg (fun q=>q.elim (fun q=>h0 (by omega)) (fun q=>q rfl))]
 unfold b9
 rw[hn]
 simp only
 rw[ht]
 simp only
 unfold Bc
 rw[g4,g5,EA h,if_neg (by simp only;omega)]
theorem Ka {n:Nat}(h:n<16):nib (hx n)=(n:Int):=by
 have hc:n=0\/n=1\/n=2\/n=3\/n=4\/n=5\/n=6\/n=7\/n=8\/n=9\/n=10\/n=11\/n=12\/n=13\/n=14\/n=15:=by omega
 rcases hc with rfl | rfl | rfl | rfl | rfl | rfl | rfl | rfl | rfl | rfl | rfl | rfl | rfl | rfl | rfl | rfl<;>rfl
theorem qv:∀ s:List UInt8,rx (ru s)=some s
 | []=>rfl
 | c::r=>by
   have hl:=c.toNat_lt
   have h1:=Ka (n:=c.toNat / 16) (by omega)
   have h2:=Ka (n:=c.toNat % 16) (by omega)
   rw[ru,rx,qv r,h1,h2,if_neg (by omega),Option.map_some]
   unfold AF
   rw[h1,h2,Int.toNat_natCast,Int.toNat_natCast,show 16*(c.toNat / 16)+c.toNat % 16=c.toNat by omega,UInt8.ofNat_toNat]
theorem KY {t:Typ}{x:Val}(hk:1<=t.kind/\t.kind<=7)(h:FitS t x):bh t.kind (x.num,x.scale,x.text)=x:=by
 have h1:=h.kd
 have h2:=h.fm
 obtain⟨k,n,s,tx,l,f⟩:=x
 simp only[Val.kind,Val.num,Val.scale,Val.text] at *
 rw[<- h1] at hk ⊢
 have e:k=1\/k=2\/k=3\/k=4\/k=5\/k=6\/k=7:=by omega
 have key:l=[]/\f=[]:=by
  rcases e with rfl | rfl | rfl | rfl | rfl | rfl | rfl
  all_goals
   simp[az] at h2
   simp[h2]
 obtain⟨rfl,rfl⟩:=key
 rfl
theorem sF {k m M s:Int}{w:List (List UInt8)}{e:List Typ}{f:List TFd}(h:jk (.mk k m M s w e f)=0)(hk:k=2\/k=3\/k=6\/k=7):loK k<=m/\M<=hiK k/\(k=3->0<=s/\s<=12):=by
 have hb:=(cn h).2.1
 unfold eW at hb
 have h4:¬ (k=4/\0<w.length):=by omega
 rw[if_neg h4] at hb
 by_cases hc:(2<=k/\k<=8)/\(M<m\/m<loK k\/hiK k<M)
 ·rw[if_pos hc] at hb;exact absurd hb (by decide)
 have h1:¬ (M<m\/m<loK k\/hiK k<M):=fun hh=>hc ⟨by omega,hh⟩
 rw[if_neg hc] at hb
 refine⟨by omega,by omega,fun h3=>?_⟩
 by_cases hs:k=3/\inB s 0 12=false
 ·rw[if_pos hs] at hb;exact absurd hb (by decide)
 ·have:inB s 0 12=true:=by
   cases hi:inB s 0 12 with
   | true=>rfl
   | false=>exact absurd ⟨h3,hi⟩ hs
  simpa[inB] using this
inductive TxtD:Typ->Val->List UInt8->Prop where
 | bool {m M s w e f x}:FitS (.mk 1 m M s w e f) x->TxtD (.mk 1 m M s w e f) x (if x.num=1 then gw else eR)
 | num {k m M s w e f x} (sc:Nat):(k=2\/k=3)->FitS (.mk k m M s w e f) x->x.scale=(sc:Int)->IsN x.num sc->TxtD (.mk k m M s w e f) x (iW x.num sc)
 | text {m M s w e f x}:FitS (.mk 4 m M s w e f) x->TxtD (.mk 4 m M s w e f) x x.text
 | octs {m M s w e f x}:FitS (.mk 5 m M s w e f) x->TxtD (.mk 5 m M s w e f) x (ru x.text)
 | day {m M s w e f x} (y:Int) (mo:Nat) (d:Int):FitS (.mk 6 m M s w e f) x->DateOk y mo d->x.num=iX y mo d - 719162->TxtD (.mk 6 m M s w e f) x (dw y mo d)
 | time {m M s w e f x} (y:Int) (mo:Nat) (d:Int) (h mi se ms:Nat):FitS (.mk 7 m M s w e f) x->DateOk y mo d->h<=23->mi<=59->se<=59->ms<=999->x.num=(iX y mo d - 719162)*86400000+(((60*(h:Int)+mi)*60+se)*1000+ms)->TxtD (.mk 7 m M s w e f) x (ke (dw y mo d) h mi se ms)
theorem OE {t:Typ}{x:Val}(ho:jk t=0)(hk:1<=t.kind/\t.kind<=7)(h:FitS t x):∃ tx,TxtD t x tx:=by
 obtain⟨k,m,M,s,w,e,f⟩:=t
 simp only[Typ.kind] at hk
 have hn:=h.nm
 simp only[Typ.kind,Typ.min,Typ.max] at hn
 have hc:k=1\/(k=2\/k=3)\/k=4\/k=5\/k=6\/k=7:=by omega
 rcases hc with rfl | h23 | rfl | rfl | rfl | rfl
 ·exact⟨_,.bool h⟩
 ·have hb:=sF ho (by omega)
  have hnn:=hn (by omega)
  have hlo:loK k = -999999999999999/\hiK k=999999999999999:=by rcases h23 with rfl | rfl<;>exact⟨rfl,rfl⟩
  have hs:0<=x.scale/\x.scale<=12:=by
   rcases h23 with rfl | rfl
   ·have h2:=h.fm
    have h1:=h.kd
    obtain⟨vk,vn,vs,vt,vl,vf⟩:=x
    simp only[Val.kind,Typ.kind] at h1
    subst h1
    simp[az] at h2
    simp only[Val.scale];omega
   ·have:=h.sc rfl
    simp only[Typ.scale] at this
    rw[this];exact hb.2.2 rfl
  exact⟨_,.num x.scale.toNat h23 h (by omega) (by unfold IsN;omega)⟩
 ·exact⟨_,.text h⟩
 ·exact⟨_,.octs h⟩
 ·have hb:=sF ho (by omega)
  have hnn:=hn (by omega)
  rw[show loK 6 = -719162 from rfl,show hiK 6=2932896 from rfl] at hb
  obtain⟨y,mo,d,hD,hd⟩:=Ks (n:=x.num+719162) (by omega) (by omega)
  exact⟨_,.day y mo d h hD (by omega)⟩
 ·have hb:=sF ho (by omega)
  have hnn:=hn (by omega)
  rw[show loK 7 = -62135596800000 from rfl,show hiK 7=253402300799999 from rfl] at hb
  obtain⟨y,mo,d,hD,hd⟩:=Ks (n:=x.num / 86400000+719162) (by omega) (by omega)
  obtain⟨r,hr⟩:∃ r:Nat,r=(x.num % 86400000).toNat:=⟨_,rfl⟩
  exact⟨_,.time y mo d (r / 3600000) (r / 60000 % 60) (r / 1000 % 60) (r % 1000) h hD (by omega) (by omega) (by omega) (by omega) (by rw[<- hd];omega)⟩
theorem Bd (t:List UInt8)(h mi s ms:Nat):(ke t h mi s ms).length<=t.length+14:=by
 unfold ke
 simp only[List.length_append,List.length_cons,List.length_nil,aT]
 split<;>simp[aT]<;>omega
theorem jM {t:Typ}{x:Val}{tx:List UInt8}(h:TxtD t x tx)(hl:x.text.length<=2000):rdQ t.kind tx=((x.num,x.scale,x.text),true)/\tx.length<=5000/\FitS t x:=by
 cases h with
 | bool hf=>
   have h1:=hf.kd
   have h2:=hf.fm
   obtain⟨k,n,sc,tx,l,fs⟩:=x
   simp only[Val.kind,Typ.kind] at h1
   subst h1
   have hn:(n=0\/n=1)/\sc=0/\tx=[]:=by
    simp[az] at h2
    exact⟨h2.1,h2.2.1,h2.2.2.1⟩
   obtain⟨hn,rfl,rfl⟩:=hn
   simp only[Val.num,Val.scale,Val.text,Typ.kind]
   rcases hn with rfl | rfl
   ·exact⟨rfl,by simp[gw,eR],hf⟩
   ·exact⟨rfl,by simp[gw,eR],hf⟩
 | num sc hk hf hs hN=>
   have h1:=hf.kd
   have h2:=hf.fm
   have hl17:=vP hN
   obtain⟨vk,vn,vs,vt,vl,vf⟩:=x
   simp only[Val.kind,Typ.kind,Val.num,Val.scale,Val.text] at *
   subst hs h1
   refine⟨?_,by omega,hf⟩
   have ht:vt=[]:=by
    rcases hk with rfl | rfl
    ·simp[az] at h2;exact h2.2.1
    ·simp[az] at h2;exact h2.1
   subst ht
   rcases hk with rfl | rfl
   ·rw[BY,mM hN]
    simp[az] at h2
    simp;omega
   ·rw[BX,mM hN];simp
 | text hf=>
   have h1:=hf.kd
   have h2:=hf.fm
   obtain⟨vk,vn,vs,vt,vl,vf⟩:=x
   simp only[Val.kind,Typ.kind,Val.num,Val.scale,Val.text] at *
   subst h1
   simp[az] at h2
   obtain⟨_,rfl,rfl,_⟩:=h2
   exact⟨rfl,by omega,hf⟩
 | octs hf=>
   have h1:=hf.kd
   have h2:=hf.fm
   have hw:=oa x.text
   have hb:=qv x.text
   obtain⟨vk,vn,vs,vt,vl,vf⟩:=x
   simp only[Val.kind,Typ.kind,Val.num,Val.scale,Val.text] at *
   subst h1
   simp[az] at h2
   obtain⟨rfl,rfl,_⟩:=h2
   have hev:(ru vt).length % 2=0:=by omega
   refine⟨?_,by omega,hf⟩
   rw[BW,<- gQ hev,hb,decide_eq_true hev];rfl
 | day y mo d hf hD hn=>
   have h1:=hf.kd
   have h2:=hf.fm
   have hp:=sD hD
   have hl:=kf y mo d
   obtain⟨vk,vn,vs,vt,vl,vf⟩:=x
   simp only[Val.kind,Typ.kind,Val.num,Val.scale,Val.text] at *
   subst h1 hn
   simp[az] at h2
   obtain⟨rfl,rfl,_⟩:=h2
   refine⟨?_,by omega,hf⟩
   rw[BV,hp];rfl
 | time y mo d h mi se ms hf hD e1 e2 e3 e4 hn=>
   have h1:=hf.kd
   have h2:=hf.fm
   have hp:=sC hD e1 e2 e3 e4
   have hl:=kf y mo d
   have hl2:=Bd (dw y mo d) h mi se ms
   obtain⟨vk,vn,vs,vt,vl,vf⟩:=x
   simp only[Val.kind,Typ.kind,Val.num,Val.scale,Val.text] at *
   subst h1 hn
   simp[az] at h2
   obtain⟨rfl,rfl,_⟩:=h2
   refine⟨?_,by omega,hf⟩
   rw[BU,hp];rfl
theorem Bz {k:Int}(h:1<=k/\k<=7):nZ k=true:=(dr k).2 h
theorem Qv {t:Typ}{x:Val}{tx:List UInt8}(h:TxtD t x tx)(hl:x.text.length<=2000)(ht:eI 1 t)(hk:1<=t.kind/\t.kind<=7):ae Tryz.prog au 16 [t.pv,x.pv] (.tup [.str tx,.int .i64 0]):=by
 obtain⟨h1,h2,hf⟩:=jM h hl
 have hv:=KY hk hf
 have hm:(aK 1 t (bh t.kind (rdQ t.kind tx).1) []).isEmpty=true:=by
  rw[h1]
  simp only
  rw[hv,og hk hf];rfl
 have:=I4 h2 ht (Bz hk) (by rw[h1]) hm
 rw[h1] at this
 simp only at this
 rwa [hv] at this
theorem OB {t:Typ}{x:Val}{tx:List UInt8}(h:TxtD t x tx)(hl:x.text.length<=2000)(hk:1<=t.kind/\t.kind<=7):j9 t tx=(x,0):=by
 obtain⟨h1,h2,hf⟩:=jM h hl
 have hv:=KY hk hf
 unfold j9
 rw[Bz hk,h1]
 simp only[hv,og hk hf]
 simp
theorem M7 {t:Typ}{x:Val}(hk:1<=t.kind/\t.kind<=7)(h:FitS t x)(hl:x.text.length<=2000):dep 1 x:=by
 have hv:=KY hk h
 rw[<- hv]
 exact jL (by simp only;omega)
def FTd (v:Val)(g:TFd)(tx:List UInt8):Prop:=(v.fields.find? (aU g.name)=none/\tx=[]/\g.need=2)\/∃ y,v.fields.find? (aU g.name)=some y/\FitS g.typ y.value/\TxtD g.typ y.value tx/\y.value.text.length<=2000/\y.value.ok
def iq (T:TFd->List UInt8)(sep:UInt8)(v:Val)(g:TFd):Cel:=match v.fields.find? (aU g.name) with
 | some _=>(T g,decide (T g=[])||spc sep (T g))
 | none=>([],false)
theorem ox {T:TFd->List UInt8}{sep:UInt8}{v:Val}{g:TFd}(h:FTd v g (T g)):(iq T sep v g).1.length<=5000:=by
 unfold iq
 rcases h with ⟨h1,_⟩ | ⟨y,h1,_,h3,h4,_⟩
 ·rw[h1];simp
 ·rw[h1];exact (jM h3 h4).2.1
theorem OM {n:Int}(hs:jx n=true)(t:List UInt8)(ht:t.length<=70000):ae Tryz.prog au 53 [.str t,.int .i64 n] (.bool (spc n.toNat.toUInt8 t)):=by
 obtain⟨h1,h2⟩:=ut hs
 rw[<- fg]
 have hb:jx ((n.toNat.toUInt8).toNat:Int)=true:=by rw[<- h1];exact hs
 have hn:n<128:=by unfold jx at hs;simp at hs;omega
 have h128:(n.toNat.toUInt8).toNat<128:=by omega
 have:=oX hb (jt t [34,13,10,n.toNat.toUInt8] (by omega) (by simp) (by simp) (by simp;simpa using h128))
 rw[<- h1] at this
 exact this
theorem vY (c:Cel):g9 c = .agg [.str c.1,.bool c.2]:=rfl
theorem y8 {m:Int}{T:Nat}{p:PV}(t:Typ)(hR:RTy t)(v:Val)(hv:v.ok)(h9:v.kind=9)(n:Int)(hs:jx n=true)(h17:ae Tryz.prog au 17 [t.pv,.int .i64 n] (.int .i64 0))(h37:ae Tryz.prog au 37 [t.pv,v.pv] (.bool true))(hvl:v.fields.length<=1000000)(Tx:TFd->List UInt8)(hT:∀ g∈t.fields,FTd v g (Tx g)) :
  ae Tryz.prog (jc m T p) 20 [t.pv,.int .i64 n,v.pv] (.tup [.str (fK true n.toNat.toUInt8 (t.fields.map (iq Tx n.toNat.toUInt8 v))).1,.int .i64 (fK true n.toNat.toUInt8 (t.fields.map (iq Tx n.toNat.toUInt8 v))).2]):=by
 have h17:=xG (m:=m) (T:=T) (p:=p) h17
 have h37:=xG (m:=m) (T:=T) (p:=p) h37
 have h52:=fun name=>xG (m:=m) (T:=T) (p:=p) (oh v name hv h9 hvl)
 have h26:=xM (m:=m) (T:=T) (p:=p) (MM m (t.fields.map (iq Tx n.toNat.toUInt8 v)) n (fun c hc=>by
  obtain⟨g,hg,rfl⟩:=List.mem_map.1 hc
  have:=ox (sep:=n.toNat.toUInt8) (hT g hg)
  omega))
 rw[hs] at h26
 have h53:=fun (g:TFd) (hg:g∈t.fields) (htl:(Tx g).length<=5000)=>xG (m:=m) (T:=T) (p:=p) (OM hs (Tx g) (by omega))
 have hfl:=hR.fld
 have hl6:=hR.len
 clear hR
 obtain⟨k,a,b,c,w,e,f⟩:=t
 obtain⟨vk,vn,vs,vt,vl,vf⟩:=v
 simp only[Typ.fields,Val.fields,Val.kind] at *
 subst h9
 generalize n.toNat.toUInt8=sep at *
 obtain⟨R,hRr⟩:∃ R,R=f.map (iq Tx sep (.mk 9 vn vs vt vl vf)):=⟨_,rfl⟩
 rw[<- hRr] at h26 ⊢
 simp only[Typ.pv_mk,Val.pv_mk] at h17 h37 h52 ⊢
 refine ae.intro Q20.2 (by simp[Q20]) ?_
 simp(disch:=try exact dI) only[Q20,push_cast,seval]
 refine ab.pure h17 rfl ?_
 refine zgZ ?_
 refine ab.pure h37 rfl ?_
 refine zgZ ?_
 refine aC ([(9,0,66,2)]) (fun i:Nat=>[(9,.olist 1 2 ((R.take i).map g9)),(30,.pv (.int .i64 (i:Int)))]) (fun _=>[]) (fun i=>i<=f.length) (fun i=>f.length - i) (0) ?_;intro e0 σ0 n0 h0;simp(disch:=try exact dI) only[push_cast,seval] at h0;obtain⟨rfl,rfl,rfl⟩:=h0;refine⟨?_,?_,?_⟩
 ·simp(disch:=try exact dI) only[List.take_zero,List.map_nil,push_cast,seval]
 ·omega
 rintro i hi
 by_cases hlt:i<f.length
 ·have hltI:(i:Int)<(f.length:Int):=by omega
  obtain⟨g,hg⟩:∃ g,f[i]? = some g:=⟨_,List.getElem?_eq_getElem hlt⟩
  have hgm:=List.mem_of_getElem? hg
  have hRi:R[i]? = some (iq Tx sep (.mk 9 vn vs vt vl vf) g):=by rw[hRr,List.getElem?_map,hg];rfl
  have hsn:(R.take (i+1)).map g9=(R.take i).map g9++[g9 (iq Tx sep (.mk 9 vn vs vt vl vf) g)]:=by rw[aG hRi,List.map_append];rfl
  have hRl:((R.take i).map g9).length<=64:=by rw[List.length_map,List.length_take];omega
  have h52g:=h52 g.name
  have hTg:=hT g hgm
  have hty:=(hfl g hgm).ty
  have hkd:=(hfl g hgm).kd
  unfold iq at hsn
  simp only[Val.fields] at hsn
  unfold FTd at hTg
  simp only[Val.fields] at hTg
  clear hT h52
  rcases hTg with ⟨h1,h2,_⟩ | ⟨⟨yn,⟨yk,yi,ys,yt,yl,yf⟩⟩,h1,hf1,hf2,hf3,hf4⟩
  ·rw[h1] at h52g hsn
   simp only[vlR,Option.map_none,Option.getD_none,Option.isSome_none,aJ,Val.pv_mk,List.map_nil] at h52g
   rw[vY] at hsn
   generalize (R.take i).map g9=K at *
   obtain⟨n',nm',nd',⟨k',m',M',s',w',e',f'⟩,d'⟩:=g
   simp only[TFd.name] at h52g
   simp(disch:=try exact dI) only[hltI,hg,Option.map_some,TFd.pv_mk,Typ.pv_mk,ak,push_cast,seval]
   refine ab.pure h52g rfl ?_
   refine zgZ ?_
   exact⟨i+1,aR (by simp(disch:=try exact dI) only[hsn,push_cast,seval]),by omega,by omega⟩
  ·rw[h1] at h52g hsn
   simp only[vlR,Option.map_some,Option.getD_some,Option.isSome_some,Fld.value,Val.pv_mk] at h52g
   have h16:=xG (m:=m) (T:=T) (p:=p) (Qv hf2 hf3 hty hkd)
   have h53g:=h53 g hgm (jM hf2 hf3).2.1
   simp only[vY] at hsn
   simp only[Fld.value,Val.pv_mk] at h16
   generalize (R.take i).map g9=K at *
   generalize Tx g=tx at *
   generalize spc sep tx=B at *
   obtain⟨n',nm',nd',⟨k',m',M',s',w',e',f'⟩,d'⟩:=g
   simp only[TFd.name,TFd.typ,Typ.pv_mk] at h52g h16
   simp(disch:=try exact dI) only[hltI,hg,Option.map_some,TFd.pv_mk,Typ.pv_mk,ak,push_cast,seval]
   refine ab.pure h52g rfl ?_
   refine zgZ ?_
   refine ab.pure h16 rfl ?_
   by_cases h0:tx=[]
   ·subst h0
    rw[show (decide (([]:List UInt8)=[])||B)=true from by simp] at hsn
    refine zgZ ?_
    exact⟨i+1,aR (by simp(disch:=try exact dI) only[hsn,push_cast,seval]),by omega,by omega⟩
   ·rw[show (decide (tx=[])||B)=B from by simp[h0]] at hsn
    simp(disch:=try exact dI) only[h0,push_cast,seval]
    refine ab.pure h53g rfl ?_
    refine zgZ ?_
    exact⟨i+1,aR (by simp(disch:=try exact dI) only[hsn,push_cast,seval]),by omega,by omega⟩
 ·obtain rfl:i=f.length:=by omega
  rw[show R.take f.length=R from List.take_of_length_le (by rw[hRr,List.length_map];exact Nat.le_refl _)]
  generalize (fK true sep R).1=J1 at *
  generalize (fK true sep R).2=J2 at *
  simp(disch:=try exact dI) only[Int.lt_irrefl,push_cast,seval]
  refine ab.pure h26 rfl ?_
  exact qsZ
end Go.Proofs.YtbaaokocnegdoaaGreatDoor

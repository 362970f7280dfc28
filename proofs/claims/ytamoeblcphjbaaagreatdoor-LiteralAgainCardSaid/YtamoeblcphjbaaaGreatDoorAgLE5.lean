/- A part of the proof for LiteralAgainCardSaid. -/
import Derived.Test.YtamoeblcphjbaaaGreatDoorAgLE2
import Derived.Test.YtamoeblcphjbaaaGreatDoorAgLC24
import Derived.Test.YtamoeblcphjbaaaGreatDoorAgLC11
import Derived.Test.YtamoeblcphjbaaaGreatDoorAgL2
import Derived.Test.YtamoeblcphjbaaaGreatDoorAgLC17
set_option maxRecDepth 100000
set_option linter.unusedVariables false
set_option linter.unusedSimpArgs false
namespace Go.Proofs.YtamoeblcphjbaaaGreatDoor
open Go Go.Ab
theorem GC {q:UInt8→Bool}:∀ (N r:List UInt8),N.all q=true→(r.head?.any q)=false→(N++r).takeWhile q=N
 | [],r,_,h=>by
   cases r with
   | nil=>rfl
   | cons c r=>simp at h;simp[h]
 | c::N,r,h1,h2=>by
   simp only[List.all_cons,Bool.and_eq_true] at h1
   rw[List.cons_append,List.takeWhile_cons,if_pos h1.1,GC N r h1.2 h2]
theorem qB {q:UInt8→Bool}{s N r:List UInt8}{a:Nat}(h:s.drop a=N++r)(h1:N.all q=true)(h2:(r.head?.any q)=false):bx q s a=a+N.length:=by
 unfold bx;rw[h,GC N r h1 h2]
def mI (r:List UInt8):Prop:=∀ c,r.head? = some c→c=44∨c=93∨c=125∨c=41
theorem yc {q:UInt8→Bool}{r:List UInt8}(h:mI r)(hq:q 44=false∧q 93=false∧q 125=false∧q 41=false):(r.head?.any q)=false:=by
 cases hr:r.head? with
 | none=>rfl
 | some c=>
   obtain⟨h1,h2,h3,h4⟩:=hq
   show q c=false
   rcases h c hr with rfl | rfl | rfl | rfl<;>assumption
theorem na {s r:List UInt8}{i:Nat}(h:s.drop i=r):s[i]? = r.head?:=by
 rw[← h,List.head?_drop]
theorem CN {s w r:List UInt8}{i:Nat}{c:UInt8}{w':List UInt8}(h:s.drop i=w++r)(hw:w=c::w')(hc:aO c=true)(hx:¬ (c.toNat=120∧(w'++r).head? = some 34))(ha:w.all cQ=true)(hr:(r.head?.any cQ)=false) :
  A s i=⟨s,i+w.length,{ kind:=1,pos:=i,text:=w },0,0⟩:=by
 have h':s.drop i=c::(w'++r):=by rw[h,hw];rfl
 obtain⟨hci,hd⟩:=cy h'
 have hn:bx cQ s i=i+w.length:=qB h ha hr
 have key:∀ c:UInt8,aO c=true→¬ c.toNat=34∧aR c=false:=eT (by decide +kernel)
 obtain⟨k1,k2⟩:=key c hc
 rw[O5 hci k2]
 have hx':¬ (c.toNat=120∧(⟨s,i,{ pos:=i },0,0⟩:Rd).s[i+1]? = some 34):=by
  intro q
  apply hx
  refine⟨q.1,?_⟩
  have:=na hd
  rw[← this];exact q.2
 unfold dC
 rw[if_neg k1,if_neg hx',if_pos hc]
 simp only
 rw[hn,eB,if_pos rfl]
 simp only
 rw[gy h]
theorem wY {s r:List UInt8}{i:Nat}{c:UInt8}(h:s.drop i=c::r)(hc:CP c=true):A s i=⟨s,i+1,{ kind:=5,pos:=i,text:=[c] },0,0⟩:=by
 obtain⟨hci,hd⟩:=cy h
 have key:∀ c:UInt8,CP c=true→¬ c.toNat=34∧aR c=false∧¬ c.toNat=120∧aO c=false∧isD c=false∧¬ c.toNat=45∧¬ c.toNat=46:=eT (by decide +kernel)
 obtain⟨k1,k2,k3,k4,k5,k6,k7⟩:=key c hc
 rw[O5 hci k2]
 unfold dC
 rw[if_neg k1,if_neg (fun q=>k3 q.1),if_neg (by rw[k4];decide),if_neg (by rw[k5];rintro (q | q);cases q;exact k6 q),if_neg (fun q=>k7 q.1),if_pos hc]
 simp only
 rw[eB,if_pos rfl]
 simp only
 have:=gy (a:=[c]) (b:=r) h
 simp only[List.length_singleton] at this
 rw[this]
theorem fk:∀ (k a:Nat),(aY k a).all isD=true
 | 0,_=>rfl
 | k+1,a=>by
   rw[aY,List.all_append,fk k,Bool.true_and]
   have hc:(UInt8.ofNat (48+a % 10)).toNat=48+a % 10:=by rw[UInt8.toNat_ofNat'];omega
   simp only[List.all_cons,List.all_nil,Bool.and_true,isD,hc,Bool.and_eq_true,decide_eq_true_eq]
   omega
theorem Fw {n:Int}(h:IsN n 0):cS n=c8 n 0:=by
 obtain⟨h1,h2,_⟩:=h
 have ha:n.natAbs<10 ^ 15:=by
  have:(10:Nat) ^ 15=1000000000000000:=by decide
  omega
 have hs:=eN ha
 have hd:bl 20 n.natAbs=aY (dl n.natAbs) n.natAbs:=by
  have:=pA (a:=n.natAbs) (K:=dl n.natAbs) ha (Nat.le_refl _)
  simpa using this
 unfold c8
 rw[if_pos rfl,List.append_nil,show max (dl n.natAbs) (0+1) - 0=dl n.natAbs by omega,Nat.pow_zero,Nat.div_one,← hd]
 unfold cS
 by_cases hn:n<0
 ·rw[if_pos hn,if_pos hn];rfl
 ·rw[if_neg hn,if_neg hn,List.nil_append,show n.toNat=n.natAbs by omega]
theorem vu {n:Int}{sc:Nat}(h:IsN n sc):bg (c8 n sc)=((n,sc),0):=by
 have hlen:=mm h
 obtain⟨h1,h2,h3⟩:=h
 have ha:n.natAbs<10 ^ 15:=by
  have:(10:Nat) ^ 15=1000000000000000:=by decide
  omega
 have hs:=eN ha
 obtain⟨K,hK⟩:∃ K,K=max (dl n.natAbs) (sc+1) - sc:=⟨_,rfl⟩
 have hK1:1≤K:=by omega
 have haK:n.natAbs / 10 ^ sc<10 ^ K:=by
  refine Nat.div_lt_of_lt_mul ?_
  rw[← Nat.pow_add]
  exact Nat.lt_of_lt_of_le hs.2.2 (Nat.pow_le_pow_right (by omega) (by omega))
 have hrd:∀ q:List UInt8,q=aY K (n.natAbs / 10 ^ sc)++(if sc=0 then [] else 46::aY sc n.natAbs)→rdS false 0 0 q=(n.natAbs,sc):=by
  intro q hq
  subst hq
  rw[kg,Nat.zero_mul,Nat.zero_add,Nat.mod_eq_of_lt haK]
  by_cases h0:sc=0
  ·subst h0
   rw[if_pos rfl,rdS,Nat.pow_zero,Nat.div_one]
  ·rw[if_neg h0,rdS,if_neg (by decide)]
   have:(false||decide ((46:UInt8)=46))=true:=rfl
   rw[this]
   have:=mN sc (n.natAbs / 10 ^ sc) 0 n.natAbs []
   rw[List.append_nil] at this
   rw[this,rdS,Nat.zero_add]
   congr 1
   have:=Nat.div_add_mod n.natAbs (10 ^ sc)
   rw[Nat.mul_comm] at this
   exact this
 have hdec:c8 n sc=(if n<0 then [45] else [])++(aY K (n.natAbs / 10 ^ sc)++(if sc=0 then [] else 46::aY sc n.natAbs)):=by unfold c8;rw[← hK]
 have hall:rdS false 0 0 (c8 n sc)=(n.natAbs,sc)∧sgI (c8 n sc) n.natAbs=n∧c8 n sc≠[]:=by
  rw[hdec]
  obtain⟨c,r,hcr,hc1,hc2⟩:=dr (k:=K) (a:=n.natAbs / 10 ^ sc) (by omega)
  by_cases hn:n<0
  ·rw[if_pos hn]
   refine⟨?_,?_,by simp⟩
   ·rw[List.singleton_append,rdS,if_neg (by decide)]
    exact hrd _ rfl
   ·unfold sgI
    rw[List.singleton_append,List.head?_cons,if_pos rfl];omega
  ·rw[if_neg hn,List.nil_append]
   refine⟨hrd _ rfl,?_,by rw[hcr];simp⟩
   unfold sgI
   rw[hcr]
   rw[if_neg (by simp;intro q;subst q;simp at hc1)]
   omega
 obtain⟨g1,g2,g3⟩:=hall
 unfold bg
 rw[if_neg g3,if_neg (by omega),g1]
 simp only
 rw[g2,if_pos ⟨⟨h1,h2,h3⟩,rfl⟩]
theorem F1 {n:Int}{sc:Nat}(h:IsN n sc):(c8 n sc).getLast?≠some 100:=by
 have ha:n.natAbs<10 ^ 15:=by
  have:(10:Nat) ^ 15=1000000000000000:=by decide
  have:=h.1;have:=h.2.1
  omega
 have hs:=eN ha
 have key:∀ (k a:Nat),0<k→(aY k a).getLast?≠some 100:=by
  intro k a hk
  obtain⟨j,rfl⟩:∃ j,k=j+1:=⟨k - 1,by omega⟩
  rw[aY,List.getLast?_concat]
  intro q
  have:=congrArg UInt8.toNat (Option.some.inj q)
  rw[UInt8.toNat_ofNat'] at this
  have h100:(100:UInt8).toNat=100:=rfl
  omega
 unfold c8
 by_cases h0:sc=0
 ·subst h0
  rw[if_pos rfl,List.append_nil]
  have hk:=key (max (dl n.natAbs) (0+1) - 0) (n.natAbs / 10 ^ 0) (by omega)
  obtain⟨c,r,hcr,_,_⟩:=dr (k:=max (dl n.natAbs) (0+1) - 0) (a:=n.natAbs / 10 ^ 0) (by omega)
  rw[hcr] at hk ⊢
  rw[List.getLast?_append]
  cases hl:(c::r).getLast? with
  | none=>simp at hl
  | some x=>rw[hl] at hk;simpa using hk
 ·rw[if_neg h0]
  have hk:=key sc n.natAbs (by omega)
  obtain⟨c,r,hcr,_,_⟩:=dr (k:=sc) (a:=n.natAbs) (by omega)
  rw[hcr] at hk ⊢
  rw[List.getLast?_append,List.getLast?_append,List.getLast?_cons_cons]
  cases hl:(c::r).getLast? with
  | none=>simp at hl
  | some x=>rw[hl] at hk;simpa using hk
theorem pD {n:Int}{sc:Nat}(h:IsN n sc):∃ sg N F,c8 n sc=sg++(N++F)∧(sg=[]∨sg=[45])∧(∃ c r,N=c::r∧isD c=true)∧N.all isD=true∧(sc=0→F=[])∧(sc≠0→∃ M c r,F=46::M∧M=c::r∧M.all isD=true):=by
 have ha:n.natAbs<10 ^ 15:=by
  have:(10:Nat) ^ 15=1000000000000000:=by decide
  have:=h.1;have:=h.2.1
  omega
 have hs:=eN ha
 refine⟨if n<0 then [45] else [],aY (max (dl n.natAbs) (sc+1) - sc) (n.natAbs / 10 ^ sc),if sc=0 then [] else 46::aY sc n.natAbs,rfl,?_,?_,fk _ _,fun h0=>if_pos h0,fun h0=>?_⟩
 ·split
  ·exact .inr rfl
  ·exact .inl rfl
 ·obtain⟨c,r,hcr,h1,h2⟩:=dr (k:=max (dl n.natAbs) (sc+1) - sc) (a:=n.natAbs / 10 ^ sc) (by omega)
  exact⟨c,r,hcr,by simp[isD,h1,h2]⟩
 ·obtain⟨c,r,hcr,_,_⟩:=dr (k:=sc) (a:=n.natAbs) (by omega)
  exact⟨_,c,r,if_neg h0,hcr,fk _ _⟩
theorem Jr {s:List UInt8}{i:Nat}{c:UInt8}(hc:isD c=true∨c=45):dC ⟨s,i,{ pos:=i },0,0⟩ i c=p7 ⟨s,i,{ pos:=i },0,0⟩ i∧aR c=false:=by
 have key:∀ c:UInt8,(isD c=true∨c=45)→¬ c.toNat=34∧¬ c.toNat=120∧aO c=false∧(isD c=true∨c.toNat=45)∧aR c=false:=eT (by decide +kernel)
 obtain⟨k1,k2,k3,k4,k5⟩:=key c hc
 refine⟨?_,k5⟩
 unfold dC
 rw[if_neg k1,if_neg (fun q=>k2 q.1),if_neg (by rw[k3];decide),if_pos k4]
theorem Nb {c:UInt8}(h:isD c=true):c≠45∧c≠46∧c≠100:=by
 have key:∀ c:UInt8,isD c=true→c≠45∧c≠46∧c≠100:=eT (by decide +kernel)
 exact key c h
theorem O3 {s r:List UInt8}{i:Nat}{n:Int}{sc:Nat}(hn:IsN n sc)(b:Bool)(hb:b=true→sc=0)(h:s.drop i=c8 n sc++((if b=true then [100] else [])++r))(hr:mI r) :
  A s i=⟨s,i+(c8 n sc++(if b=true then [100] else [])).length,{ kind:=2,pos:=i,text:=c8 n sc++(if b=true then [100] else []),num:=n,sc:=sc,dec:=b||decide (sc≠0),exa:=b },0,0⟩:=by
 have hp:=vu hn
 have hlast:=F1 hn
 obtain⟨sg,N,F,e,hsg,⟨c0,N',hN,hc0⟩,hNa,hF0,hF1⟩:=pD hn
 have hh:s.drop i=sg++(N++(F++((if b=true then [100] else [])++r))):=by rw[h,e];simp
 obtain⟨a,hadef⟩:∃ a,a=i+sg.length:=⟨_,rfl⟩
 have hda:s.drop a=N++(F++((if b=true then [100] else [])++r)):=by rw[hadef];exact bK hh
 have hfd:(F++((if b=true then [100] else [])++r)).head?.any isD=false:=by
  by_cases h0:sc=0
  ·rw[hF0 h0,List.nil_append]
   cases b with
   | true=>rfl
   | false=>exact yc hr (by decide)
  ·obtain⟨M,c,r',hFM,_,_⟩:=hF1 h0
   rw[hFM];rfl
 have hz:bx isD s a=a+N.length:=qB hda hNa hfd
 have hdz:s.drop (a+N.length)=F++((if b=true then [100] else [])++r):=bK hda
 have hN1:1≤N.length:=by rw[hN];simp
 obtain⟨c,hc,hcd,hca⟩:∃ c,s[i]? = some c∧(isD c=true∨c=45)∧(if s[i]? = some 45 then i+1 else i)=a:=by
  rcases hsg with rfl | rfl
  ·have:s.drop i=c0::(N'++(F++((if b=true then [100] else [])++r))):=by rw[hh,hN];rfl
   obtain⟨q1,q2⟩:=cy this
   refine⟨c0,q1,.inl hc0,?_⟩
   rw[q1,if_neg (fun q=>(Nb hc0).1 (Option.some.inj q)),hadef];simp
  ·obtain⟨q1,q2⟩:=cy (c:=45) (r:=N++(F++((if b=true then [100] else [])++r))) hh
   exact⟨45,q1,.inr rfl,by rw[q1,if_pos rfl,hadef];rfl⟩
 obtain⟨hlex,hbl⟩:=Jr (s:=s) (i:=i) hcd
 have hE:vE s (a+N.length)=(i+(c8 n sc++(if b=true then [100] else [])).length,b||decide (sc≠0),b):=by
  have hlen:(c8 n sc).length=sg.length+(N.length+F.length):=by rw[e];simp
  by_cases h0:sc=0
  ·have hF:=hF0 h0
   rw[hF,List.nil_append] at hdz
   rw[hF] at hlen
   have hd0:decide (sc≠0)=false:=decide_eq_false (fun q=>q h0)
   rw[hd0,Bool.or_false]
   cases b with
   | true=>
     have hz1:=na hdz
     simp only[if_true,List.singleton_append,List.head?_cons] at hz1
     rw[oN (fun q=>by rw[hz1] at q;exact absurd q.1 (by decide)) hz1]
     simp only[if_true,List.length_append,hlen,List.length_nil,List.length_singleton]
     rw[show a+N.length+1=i+(sg.length+(N.length+0)+1) by omega]
   | false=>
     have hz1:=na hdz
     simp only[Bool.false_eq_true,if_false,List.nil_append] at hz1
     have q1:s[a+N.length]?≠some 46:=by
      rw[hz1];intro q
      have:=hr 46 q
      revert this;decide
     have q2:s[a+N.length]?≠some 100:=by
      rw[hz1];intro q
      have:=hr 100 q
      revert this;decide
     rw[gJ (fun q=>q1 q.1) q2]
     simp only[Bool.false_eq_true,if_false,List.append_nil,hlen,List.length_nil]
     rw[show a+N.length=i+(sg.length+(N.length+0)) by omega]
  ·have hb0:b=false:=by
    cases b with
    | true=>exact absurd (hb rfl) h0
    | false=>rfl
   subst hb0
   obtain⟨M,c1,M',hFM,hM,hMa⟩:=hF1 h0
   simp only[Bool.false_eq_true,if_false,List.nil_append] at hdz ⊢
   rw[hFM,List.cons_append] at hdz
   obtain⟨z1,z2⟩:=cy hdz
   have hM1:s[a+N.length+1]? = some c1:=by rw[na z2,hM];rfl
   have hc1:isD c1=true:=by rw[hM] at hMa;simp only[List.all_cons,Bool.and_eq_true] at hMa;exact hMa.1
   rw[Aa ⟨z1,by rw[hM1];exact hc1⟩,qB z2 hMa (yc hr (by decide)),List.append_nil,hlen,hFM,Bool.false_or,decide_eq_true h0]
   rw[show a+N.length+1+M.length=i+(sg.length+(N.length+(46::M).length)) by simp only[List.length_cons];omega]
 have htx:s.drop i=(c8 n sc++(if b=true then [100] else []))++r:=by rw[h];simp
 have hta:=gy htx
 have hcut:cY (c8 n sc++(if b=true then [100] else []))=c8 n sc:=by
  cases b with
  | true=>simp only[if_true];unfold cY;rw[if_pos (by simp),List.dropLast_concat]
  | false=>simp only[Bool.false_eq_true,if_false,List.append_nil];unfold cY;rw[if_neg hlast]
 rw[O5 hc hbl,hlex,cC (R:=⟨s,i,{ pos:=i },0,0⟩) hca hz (by omega) hE]
 simp only
 rw[hta,hcut,hp,cu,eB,if_pos rfl]
 simp only
 rw[hta]
end Go.Proofs.YtamoeblcphjbaaaGreatDoor
namespace Go.Proofs.YtamoeblcphjbaaaGreatDoor
open Go Go.Ab
theorem pC:∀ (k a:Nat),jo 0 (aY k a)=((a % 10 ^ k:Nat):Int)
 | 0,a=>by simp[aY,jo,Nat.mod_one]
 | k+1,a=>by
   have hc:(UInt8.ofNat (48+a % 10)).toNat=48+a % 10:=by rw[UInt8.toNat_ofNat'];omega
   rw[aY,jJ,pC k,hc]
   have e:=Nat.mod_mul (x:=a) (a:=10) (b:=10 ^ k)
   rw[Nat.mul_comm 10 (10 ^ k),← Nat.pow_succ] at e
   generalize a / 10 % 10 ^ k=u at *
   generalize a % 10 ^ (k+1)=w at *
   omega
theorem oL {k a:Nat}{r:List UInt8}(h:a<10 ^ k):rc k (aY k a++r)=some ((a:Int),r):=by
 have hl:=aV k a
 have ht:(aY k a++r).take k=aY k a:=by rw[List.take_append_of_le_length (by omega),List.take_of_length_le (by omega)]
 have hd:(aY k a++r).drop k=r:=by
  have:=List.drop_left (l₁:=aY k a) (l₂:=r)
  rwa [hl] at this
 unfold rc
 rw[ht,hd,if_pos ⟨by rw[List.length_append];omega,fk k a⟩,pC,Nat.mod_eq_of_lt h]
theorem sV (m r:List UInt8):fO m (m++r)=true:=by
 unfold fO
 exact decide_eq_true ⟨by simp,by simp⟩
theorem dh {m:List UInt8}{ms:List (List UInt8)}{k:Nat}{ks:List Nat}{a:Nat}{r:List UInt8}(h:a<10 ^ k) :
  cR (m::ms) (k::ks) (m++(aY k a++r))=(cR ms ks r).map fun q=>((a:Int)::q.1,q.2):=by
 rw[cR,if_pos (sV _ _),List.drop_left,oL h]
theorem P0 (y:Int)(m:Nat):mdI y m≤31:=(ed y m).2
theorem BL {y:Int}{m:Nat}{d:Int}(h:DateOk y m d):y.toNat<10 ^ 4∧m<10 ^ 2∧d.toNat<10 ^ 2∧((y.toNat:Nat):Int)=y∧((d.toNat:Nat):Int)=d:=by
 obtain⟨h1,h2,h3,h4,h5,h6⟩:=h
 have:=P0 y m
 omega
theorem BK {y:Int}{m:Nat}{d:Int}(h:DateOk y m d):lu y m d=(iO y m d - 719162,0):=by
 obtain⟨h1,h2,h3,h4,h5,h6⟩:=h
 unfold lu
 rw[if_pos ⟨h1,h2,by omega,by omega,h5,h6⟩,Int.toNat_natCast]
theorem q8 {y:Int}{m:Nat}{d:Int}(h:DateOk y m d):cn (cG y m d)=(iO y m d - 719162,0):=by
 obtain⟨g1,g2,g3,g4,g5⟩:=BL h
 have e:cG y m d=[]++(aY 4 y.toNat++([45]++(aY 2 m++([45]++(aY 2 d.toNat++[]))))):=by simp[cG]
 have hn:cR [[],[45],[45]] [4,2,2] (cG y m d)=some ([(y.toNat:Int),(m:Int),(d.toNat:Int)],[]):=by
  rw[e,dh g1,dh g2,dh g3];rfl
 unfold cn
 rw[hn,g4,g5]
 exact BK h
theorem qZ {y:Int}{m:Nat}{d:Int}(h:DateOk y m d){hh mi s ms:Nat}(h1:hh≤23)(h2:mi≤59)(h3:s≤59)(h4:ms≤999) :
  bP (fJ (cG y m d) hh mi s ms)=((iO y m d - 719162)*86400000+(((60*(hh:Int)+mi)*60+s)*1000+ms),0):=by
 obtain⟨g1,g2,g3,g4,g5⟩:=BL h
 obtain⟨q,hq⟩:∃ q,q=(if ms=0 then [] else [46]++aY 3 ms)++([90]:List UInt8):=⟨_,rfl⟩
 have e:fJ (cG y m d) hh mi s ms=[]++(aY 4 y.toNat++([45]++(aY 2 m++([45]++(aY 2 d.toNat++([84]++(aY 2 hh++([58]++(aY 2 mi++([58]++(aY 2 s++q))))))))))):=by
  rw[hq];simp[cG,fJ]
 have hn:cR msT ksT (fJ (cG y m d) hh mi s ms)=some ([(y.toNat:Int),(m:Int),(d.toNat:Int),(hh:Int),(mi:Int),(s:Int)],q):=by
  unfold msT ksT
  rw[e,dh g1,dh g2,dh g3,dh (by omega),dh (by omega),dh (by omega)];rfl
 have ht:qq q=some (ms:Int):=by
  rw[hq]
  unfold qq
  by_cases h0:ms=0
  ·subst h0;rfl
  ·rw[if_neg h0,List.append_assoc,if_pos (sV [46] _)]
   have:([46]++(aY 3 ms++([90]:List UInt8))).drop 1=aY 3 ms++[90]:=rfl
   rw[this,oL (by omega)]
   simp only
   rw[if_neg (fun q=>q.elim (fun q=>h0 (by omega)) (fun q=>q rfl))]
 unfold bP
 rw[hn]
 simp only
 rw[ht]
 simp only
 unfold uG
 rw[g4,g5,BK h,if_neg (by simp only;omega)]
end Go.Proofs.YtamoeblcphjbaaaGreatDoor
-- many steps
namespace Go.Proofs.YtamoeblcphjbaaaGreatDoor
open Go Go.Ab
attribute [local irreducible] vc
theorem py (f g n:Nat)(hf:0<f)(hg:0<g)(h1:n<10 ^ f)(h2:n<10 ^ g):bl f n=bl g n:=by
 rw[fp f n h1 hf,fp g n h2 hg]
theorem lc:∀ (f n:Nat),0<f→n<10 ^ f→(bl f n).length≤f
 | 0,_,h,_=>absurd h (by omega)
 | f+1,n,_,hn=>by
   rw[bl]
   by_cases h:n<10
   ·rw[if_pos h];simp
   ·rw[if_neg h,List.length_append]
    have hf':n / 10<10 ^ f:=by rw[Nat.pow_succ] at hn;exact Nat.div_lt_of_lt_mul (by rw[Nat.mul_comm];exact hn)
    have f0:0<f:=by cases f with
     | zero=>simp at hf';omega
     | succ f=>omega
    have:=lc f (n / 10) f0 hf'
    simp;omega
theorem iC:∀ (f n:Nat),0<f→f≤18→n<10 ^ f→aq Tryz.prog aF 41 [.int .i64 (n:Int)] (.str (bl f n))
 | 0,_,h,_,_=>absurd h (by omega)
 | f+1,n,_,hf,hn=>by
   have hp:10 ^ (f+1)≤10 ^ 18:=Nat.pow_le_pow_right (by omega) hf
   have h0:¬ (n:Int)<0:=by omega
   refine aq.intro HE (by simp[F41]) ?_
   by_cases h:n<10
   ·have hI:(n:Int)<10:=by omega
    rw[bl,if_pos h]
    have e:UInt8.ofNat (48+(n:Int)).toNat=UInt8.ofNat (48+n):=by congr 1
    simp(disch:=try exact dI) only[F41,h0,hI,e,push_cast,seval]
   ·have hI:¬ (n:Int)<10:=by omega
    have hf':n / 10<10 ^ f:=by rw[Nat.pow_succ] at hn;exact Nat.div_lt_of_lt_mul (by rw[Nat.mul_comm];exact hn)
    have f0:0<f:=by cases f with
     | zero=>simp at hf';omega
     | succ f=>omega
    have ih:=iC f (n / 10) f0 (by omega) hf'
    rw[bl,if_neg h]
    have hd:((n:Int) / 10)=((n / 10:Nat):Int):=by omega
    obtain⟨q,hq⟩:∃ q,q=n / 10:=⟨_,rfl⟩
    obtain⟨m,hm⟩:∃ m,m=n % 10:=⟨_,rfl⟩
    have hqI:((n:Int) / 10)=(q:Int):=by omega
    have hmI:((n:Int) % 10)=(m:Int):=by omega
    have e:UInt8.ofNat (48+(m:Int)).toNat=UInt8.ofNat (48+m):=by congr 1
    have hdl:=lc f (n / 10) f0 hf'
    rw[← hq] at ih hdl ⊢
    rw[← hm]
    generalize bl f q=D at *
    clear hd
    simp(disch:=try exact dI) only[F41,h0,hI,hqI,push_cast,seval]
    refine ae ih rfl ?_
    simp(disch:=try exact dI) only[hqI,hmI,e,push_cast,seval]
theorem E0 (n:Int)(h0:-999999999999999≤n)(h1:n≤999999999999999):aq Tryz.prog aF 41 [.int .i64 n] (.str (cS n)):=by
 by_cases h:n<0
 ·obtain⟨m,hm⟩:∃ m:Nat,n = -(m:Int):=⟨n.natAbs,by omega⟩
  subst hm
  have ih:=iC 18 m (by omega) (by omega) (by omega)
  have e:cS (-(m:Int))=[45]++bl 18 m:=by
   rw[cS,if_pos h,show (-(m:Int)).natAbs=m by omega,py 20 18 m (by omega) (by omega) (by omega) (by omega)];rfl
  have hdl:=lc 18 m (by omega) (by omega)
  rw[e]
  generalize bl 18 m=D at *
  have hneg:(0:Int) - -(m:Int)=(m:Int):=by omega
  refine aq.intro HE (by simp[F41]) ?_
  simp(disch:=try exact dI) only[F41,h,hneg,push_cast,seval]
  refine ab.pure ih rfl ?_
  simp(disch:=try exact dI) only[push_cast,seval]
 ·obtain⟨m,hm⟩:∃ m:Nat,n=(m:Int):=⟨n.toNat,by omega⟩
  subst hm
  have ih:=iC 18 m (by omega) (by omega) (by omega)
  rw[cS,if_neg h,Int.toNat_natCast,py 20 18 m (by omega) (by omega) (by omega) (by omega)]
  exact ih
end Go.Proofs.YtamoeblcphjbaaaGreatDoor

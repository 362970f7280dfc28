/- A part. -/
import Derived.Test.YtamoeblcphjbaaaGreatDoorTyLX3
set_option linter.unusedVariables false
set_option linter.unusedSimpArgs false
set_option maxHeartbeats 16000000
set_option maxRecDepth 100000
open List renaming length_append->WF,replicate->Xt,getElem?_eq_getElem->WE,mem_of_getElem?->WK,append_nil->W7,length_cons->WG
open Bool renaming and_eq_true->WT,false_eq_true->Xz
namespace Go.Proofs.YtamoeblcphjbaaaGreatDoor
open Go Go.Ab
theorem sw:∀ (k a:Nat),kU 0 (bn k a)=((a % 10 ^ k:Nat):Int)
 | 0,a=>by simp[bn,kU,Nat.mod_one]
 | k+1,a=>by
   have hc:(UInt8.ofNat (48+a % 10)).toNat=48+a % 10:=by rw[UInt8.toNat_ofNat'];omega
   rw[bn,lu,sw k,hc]
   have e:=Nat.mod_mul (x:=a) (a:=10) (b:=10 ^ k)
   rw[Nat.mul_comm 10 (10 ^ k),<- Nat.pow_succ] at e
   generalize a / 10 % 10 ^ k=u at *
   generalize a % 10 ^ (k+1)=w at *
   omega
theorem rD {k a:Nat}{r:List UInt8}(h:a<10 ^ k):ua k (bn k a++r)=some ((a:Int),r):=by
 have hl:=bj k a
 have ht:(bn k a++r).take k=bn k a:=by rw[List.take_append_of_le_length (by omega),List.take_of_length_le (by omega)]
 have hd:(bn k a++r).drop k=r:=by
  have:=List.drop_left (l₁:=bn k a) (l₂:=r)
  rwa [hl] at this
 unfold ua
 rw[ht,hd,if_pos ⟨by rw[WF];omega,gv k a⟩,sw,Nat.mod_eq_of_lt h]
theorem wq (m r:List UInt8):ii m (m++r)=true:=by
 unfold ii
 exact decide_eq_true ⟨by simp,by simp⟩
theorem dM {m:List UInt8}{ms:List (List UInt8)}{k:Nat}{ks:List Nat}{a:Nat}{r:List UInt8}(h:a<10 ^ k) :
  dy (m::ms) (k::ks) (m++(bn k a++r))=(dy ms ks r).map fun q=>((a:Int)::q.1,q.2):=by
 rw[dy,if_pos (wq _ _),List.drop_left,rD h]
theorem T5 (y:Int)(m:Nat):mdI y m<=31:=(eS y m).2
theorem Ft {y:Int}{m:Nat}{d:Int}(h:DateOk y m d):y.toNat<10 ^ 4/\m<10 ^ 2/\d.toNat<10 ^ 2/\((y.toNat:Nat):Int)=y/\((d.toNat:Nat):Int)=d:=by
 obtain⟨h1,h2,h3,h4,h5,h6⟩:=h
 have:=T5 y m
 omega
theorem Fs {y:Int}{m:Nat}{d:Int}(h:DateOk y m d):nB y m d=(kh y m d - 719162,0):=by
 obtain⟨h1,h2,h3,h4,h5,h6⟩:=h
 unfold nB
 rw[if_pos ⟨h1,h2,by omega,by omega,h5,h6⟩,Int.toNat_natCast]
theorem tY {y:Int}{m:Nat}{d:Int}(h:DateOk y m d):bU (de y m d)=(kh y m d - 719162,0):=by
 obtain⟨g1,g2,g3,g4,g5⟩:=Ft h
 have e:de y m d=[]++(bn 4 y.toNat++([45]++(bn 2 m++([45]++(bn 2 d.toNat++[]))))):=by simp[de]
 have hn:dy [[],[45],[45]] [4,2,2] (de y m d)=some ([(y.toNat:Int),(m:Int),(d.toNat:Int)],[]):=by
  rw[e,dM g1,dM g2,dM g3];rfl
 unfold bU
 rw[hn,g4,g5]
 exact Fs h
theorem tW {y:Int}{m:Nat}{d:Int}(h:DateOk y m d){hh mi s ms:Nat}(h1:hh<=23)(h2:mi<=59)(h3:s<=59)(h4:ms<=999) :
  bG (g7 (de y m d) hh mi s ms)=((kh y m d - 719162)*86400000+(((60*(hh:Int)+mi)*60+s)*1000+ms),0):=by
 obtain⟨g1,g2,g3,g4,g5⟩:=Ft h
 obtain⟨q,hq⟩:∃ q,q=(if ms=0 then [] else [46]++bn 3 ms)++([90]:List UInt8):=⟨_,rfl⟩
 have e:g7 (de y m d) hh mi s ms=[]++(bn 4 y.toNat++([45]++(bn 2 m++([45]++(bn 2 d.toNat++([84]++(bn 2 hh++([58]++(bn 2 mi++([58]++(bn 2 s++q))))))))))):=by
  rw[hq];simp[de,g7]
 have hn:dy msT ksT (g7 (de y m d) hh mi s ms)=some ([(y.toNat:Int),(m:Int),(d.toNat:Int),(hh:Int),(mi:Int),(s:Int)],q):=by
  unfold msT ksT
  rw[e,dM g1,dM g2,dM g3,dM (by omega),dM (by omega),dM (by omega)];rfl
 have ht:tk q=some (ms:Int):=by
  rw[hq]
  unfold tk
  by_cases h0:ms=0
  ·subst h0;rfl
  ·rw[if_neg h0,List.append_assoc,if_pos (wq [46] _)]
   have:([46]++(bn 3 ms++([90]:List UInt8))).drop 1=bn 3 ms++[90]:=rfl
   rw[this,rD (by omega)]
   simp only
   rw[if_neg (fun q=>q.elim (fun q=>h0 (by omega)) (fun q=>q rfl))]
 unfold bG
 rw[hn]
 simp only
 rw[ht]
 simp only
 unfold yE
 rw[g4,g5,Fs h,if_neg (by simp only;omega)]
attribute [local irreducible] vc
theorem kn:∀ a:List UInt8,Lib.compareBytes a a=0
 | []=>by simp[Lib.compareBytes]
 | a::r=>by
   rw[Lib.compareBytes]
   have:¬ a<a:=UInt8.lt_irrefl a
   simp[this,kn r]
theorem Li (x:Int):am Tryz.prog aC 173 [.int .i64 x] (.bool false):=by
 refine am.intro Vq.2 (by simp[Vq]) ?_
 simp(disch:=try exact dI) only[Vq,eq_self,push_cast,seval]
theorem Fz (x:Int):am Tryz.prog aC 102 [.int .i64 x,.int .i64 x] (.int .i64 0):=by
 refine am.intro VN.2 (by simp[VN]) ?_
 simp(disch:=try exact dI) only[VN,push_cast,seval]
 refine ae.pure (Li x) rfl ?_
 refine zgZ ?_
 refine ae.pure (Li x) rfl ?_
 simp(disch:=try exact dI) only[Int.lt_irrefl,push_cast,seval]
theorem Q8 (n:Nat)(hn:n<=1000):am Tryz.prog aC 101 [.list (Xt n (PV.int .i64 0))] (.int .i64 0):=by
 refine am.intro VO.2 (by simp[VO]) ?_
 simp(disch:=try exact dI) only[VO,push_cast,seval]
 refine aG ([]) (fun i:Nat=>[(8,.pv (.int .i64 (i:Int)))]) (fun _=>[]) (fun i=>i<=n) (fun i=>n - i) (0) ?_;intro e0 σ0 n0 h0;simp(disch:=try exact dI) only[push_cast,seval] at h0;obtain⟨rfl,rfl,rfl⟩:=h0;refine⟨?_,?_,?_⟩
 ·exact qsZ
 ·exact Nat.zero_le _
 intro i hi
 have hrl:(Xt n (PV.int .i64 0)).length=n:=List.length_replicate
 by_cases hlt:i<n
 ·have hltI:(i:Int)<(n:Int):=by omega
  have hx:(Xt n (PV.int .i64 0))[i]? = some (.int .i64 0):=by rw[List.getElem?_replicate,if_pos hlt]
  simp(disch:=try exact dI) only[hrl,hltI,hx,eq_self,push_cast,seval]
  exact⟨i+1,bl qsZ,by omega,by omega⟩
 ·have hltI:¬ (i:Int)<(n:Int):=by omega
  simp(disch:=try exact dI) only[hrl,hltI,push_cast,seval]
theorem AO (l:List Val)(g:Nat)(hg:∀ x∈l,am Tryz.prog aC g [x.pv,x.pv] (.int .i64 0))(hl:l.length<=9000000000000):am Tryz.prog aC 104 [.list (l.map Val.pv),.list (l.map Val.pv),.clo g [] []] (.int .i64 0):=by
 refine am.intro VM.2 (by simp[VM]) ?_
 simp(disch:=try exact dI) only[VM,push_cast,seval]
 refine aG ([]) (fun m:Nat=>[(13,.pv (.int .i64 (m:Int)))]) (fun m=>[]) (fun m=>m<=l.length) (fun m=>l.length - m) (0) ?_;intro e0 σ0 n0 h0;simp(disch:=try exact dI) only[push_cast,seval] at h0;obtain⟨rfl,rfl,rfl⟩:=h0;refine⟨?_,?_,?_⟩
 ·exact qsZ
 ·exact Nat.zero_le _
 intro m hm
 by_cases hlt:m<l.length
 ·have hltI:(m:Int)<l.length:=by omega
  obtain⟨x,hx⟩:∃ x,l[m]? = some x:=⟨_,WE hlt⟩
  have hcall:=hg x (WK hx)
  obtain⟨w1,w2,w3,w4,w5,w6⟩:=x
  rw[WD] at hcall
  simp(disch:=try exact dI) only[hx,WD,push_cast,seval]
  refine ae.pure hcall rfl ?_
  refine zgZ ?_
  exact⟨m+1,bl qsZ,by omega,by omega⟩
 ·have hltI:¬ (m:Int)<l.length:=by omega
  simp(disch:=try exact dI) only[Int.lt_irrefl,push_cast,seval]
theorem AN (l:List Fld)(g:Nat)(hg:∀ x∈l,am Tryz.prog aC g [x.pv,x.pv] (.int .i64 0))(hl:l.length<=9000000000000):am Tryz.prog aC 105 [.list (l.map Fld.pv),.list (l.map Fld.pv),.clo g [] []] (.int .i64 0):=by
 refine am.intro VL.2 (by simp[VL]) ?_
 simp(disch:=try exact dI) only[VL,push_cast,seval]
 refine aG ([]) (fun m:Nat=>[(13,.pv (.int .i64 (m:Int)))]) (fun m=>[]) (fun m=>m<=l.length) (fun m=>l.length - m) (0) ?_;intro e0 σ0 n0 h0;simp(disch:=try exact dI) only[push_cast,seval] at h0;obtain⟨rfl,rfl,rfl⟩:=h0;refine⟨?_,?_,?_⟩
 ·exact qsZ
 ·exact Nat.zero_le _
 intro m hm
 by_cases hlt:m<l.length
 ·have hltI:(m:Int)<l.length:=by omega
  obtain⟨x,hx⟩:∃ x,l[m]? = some x:=⟨_,WE hlt⟩
  have hcall:=hg x (WK hx)
  obtain⟨w0,⟨w1,w2,w3,w4,w5,w6⟩⟩:=x
  simp only[Wq,WD] at hcall
  simp(disch:=try exact dI) only[hx,Wq,WD,push_cast,seval]
  refine ae.pure hcall rfl ?_
  refine zgZ ?_
  exact⟨m+1,bl qsZ,by omega,by omega⟩
 ·have hltI:¬ (m:Int)<l.length:=by omega
  simp(disch:=try exact dI) only[Int.lt_irrefl,push_cast,seval]
theorem Sd (x:Fld)(hcall:am Tryz.prog aC 48 [x.value.pv,x.value.pv] (.int .i64 0)):am Tryz.prog aC 106 [x.pv,x.pv] (.int .i64 0):=by
 obtain⟨xn,xv⟩:=x
 have h102:=kj xn xn
 rw[kn] at h102
 have h130:=Q8 2 (by decide)
 simp only[Xt] at h130
 obtain⟨w1,w2,w3,w4,w5,w6⟩:=xv
 simp only[Fld.value,WD] at hcall
 refine am.intro VK.2 (by simp[VK]) ?_
 simp(disch:=try exact dI) only[VK,Wq,WD,push_cast,seval]
 refine ag h102 rfl ?_
 refine zgZ ?_
 refine ae.pure hcall rfl ?_
 refine zgZ ?_
 refine ae.pure h130 rfl ?_
 exact qsZ
theorem oM:∀ (n:Nat) (a:Val),sN n a->a.ok->am Tryz.prog aC 48 [a.pv,a.pv] (.int .i64 0)
 | 0,a,h,_=>h.elim
 | n+1,a,hd,ha=>by
   have ih:=oM n
   obtain⟨w1,w2,w3,w4,w5,w6⟩:=a
   simp only[sN] at hd
   obtain⟨d4,d5⟩:=hd
   rw[WC] at ha
   obtain⟨a1,a2,a3,a4,a5,a7,a6,a8⟩:=ha
   have h132:=AO w5 48 (fun x hx=>ih x (d4 x hx) (a7 x hx)) (by omega)
   have h133:=AN w6 106 (fun x hx=>Sd x (ih x.value (d5 x hx) (by have:=a8 x hx;obtain⟨xn,xv⟩:=x;rw[Wp] at this;exact this.2))) (by omega)
   have h1:=Fz w1
   have h2:=Fz w2
   have h3:=Fz w3
   have h4:=kj w4 w4
   rw[kn] at h4
   have h130:=Q8 6 (by decide)
   simp only[Xt] at h130
   refine am.intro Q48.2 (by simp[Q48]) ?_
   simp(disch:=try exact dI) only[Q48,WD,push_cast,seval]
   refine ag h1 rfl ?_
   refine zgZ ?_
   refine ag h2 rfl ?_
   refine zgZ ?_
   refine ag h3 rfl ?_
   refine zgZ ?_
   refine ag h4 rfl ?_
   refine zgZ ?_
   refine ag h132 rfl ?_
   refine zgZ ?_
   refine ae.pure h133 rfl ?_
   refine zgZ ?_
   refine ae.pure h130 rfl ?_
   exact qsZ
theorem Aw (v:Val)(hv:v.ok):am Tryz.prog aC 19 [v.pv,v.pv] (.bool true):=by
 obtain⟨n,hn⟩:=iL v
 have hcall:=oM n v hn hv
 obtain⟨w1,w2,w3,w4,w5,w6⟩:=v
 simp only[WD] at hcall ⊢
 refine am.intro Q19.2 (by simp[Q19]) ?_
 simp(disch:=try exact dI) only[Q19,push_cast,seval]
 refine ae.pure hcall rfl ?_
 exact qsZ
open Go.RowKit
theorem wR:∀ (a b:List UInt8),Op.bytesLess a b=decide (Lib.compareBytes a b<0)
 | [],[]=>rfl
 | _::_,[]=>rfl
 | [],_::_=>rfl
 | a::x,b::y=>by
   rw[Op.bytesLess,wR x y]
   simp only[Lib.compareBytes]
   by_cases h1:a<b
   ·simp[h1]
   ·by_cases h2:b<a
    ·have h3:¬ a=b:=by rintro rfl;exact h1 h2
     simp[h1,h2,h3]
    ·have h3:a=b:=UInt8.le_antisymm (UInt8.not_lt.1 h2) (UInt8.not_lt.1 h1)
     subst h3
     simp[h1]
theorem So {a b:List UInt8}(h1:¬ Lib.compareBytes a b<0)(h2:a≠b):Lib.compareBytes b a<0:=by
 have key:∀ a b:List UInt8,¬ Lib.compareBytes a b<0->a≠b->Lib.compareBytes b a<0:=by
  intro a
  induction a with
  | nil=>
    intro b h1 h2
    cases b with
    | nil=>exact absurd rfl h2
    | cons y q=>simp[Lib.compareBytes] at h1
  | cons x p ih=>
    intro b h1 h2
    cases b with
    | nil=>simp[Lib.compareBytes]
    | cons y q=>
      simp only[Lib.compareBytes] at h1 ⊢
      by_cases c1:x<y
      ·rw[if_pos c1] at h1;exact absurd (by decide) h1
      ·by_cases c2:y<x
       ·rw[if_pos c2];decide
       ·have h3:x=y:=UInt8.le_antisymm (UInt8.not_lt.1 c2) (UInt8.not_lt.1 c1)
        subst h3
        rw[if_neg c1,if_neg c1] at h1 ⊢
        exact ih q h1 (fun e=>h2 (by rw[e]))
 exact key a b h1 h2
def L7:Option (List UInt8)->List (List UInt8)->Prop
 | _,[]=>True
 | p,s::r=>bz s=true/\(∀ q,p=some q->Lib.compareBytes q s<0)/\L7 (some s) r
theorem L0:∀ (L:List (List UInt8)) (p:Option (List UInt8)),eq p L=0->L7 p L
 | [],p,_=>trivial
 | s::r,p,h=>by
   rw[eq] at h
   by_cases h1:bz s=false
   ·rw[if_pos h1] at h;omega
   rw[if_neg h1] at h
   by_cases h2:p=some s
   ·rw[if_pos h2] at h;omega
   rw[if_neg h2] at h
   by_cases h3:(p.any fun q=>cK s q)=true
   ·rw[if_pos h3] at h;omega
   rw[if_neg h3] at h
   refine⟨by simpa using h1,fun q hq=>?_,L0 r _ h⟩
   subst hq
   have h4:Op.bytesLess s q=false:=by simpa[cK] using h3
   rw[wR] at h4
   exact So (of_decide_eq_false h4) (fun e=>h2 (by rw[e]))
theorem L6:∀ (L:List (List UInt8)) (p:Option (List UInt8)) (q:List UInt8),L7 p L->p=some q->∀ s∈L,Lib.compareBytes q s<0
 | [],_,_,_,_,s,hs=>by cases hs
 | a::r,p,q,h,hp,s,hs=>by
   obtain⟨h1,h2,h3⟩:=h
   rcases List.mem_cons.1 hs with rfl | hs
   ·exact h2 q hp
   ·exact lC _ _ _ (h2 q hp) (L6 r _ a h3 rfl s hs)
theorem F9:∀ (L:List (List UInt8)) (p:Option (List UInt8)),L7 p L->L.Pairwise fun a b=>Lib.compareBytes a b<0
 | [],_,_=>.nil
 | a::r,p,h=>List.pairwise_cons.2 ⟨fun s hs=>L6 r _ a h.2.2 rfl s hs,F9 r _ h.2.2⟩
theorem Qr {l:List Fld}(h:L7 none (l.map Fld.name)):srt l=l:=by
 have hp:=F9 _ _ h
 have hp2:l.Pairwise fun a b=>Lib.compareBytes a.name b.name<0:=by
  rw[List.pairwise_map] at hp;exact hp
 have hs:(srt l).Pairwise fun a b=>¬ Lib.compareBytes b.name a.name<0:=by
  rw[List.pairwise_iff_getElem]
  intro i j hi hj hij
  exact yR l i j _ _ hij (WE hi) (WE hj)
 refine List.Perm.eq_of_pairwise (le:=fun a b=>¬ Lib.compareBytes b.name a.name<0) ?_ hs (hp2.imp fun {a b} hab hba=>?_) (pd l)
 ·intro a b ha hb h1 h2
  have hb':=hb
  have ha':=(pd l).mem_iff.1 ha
  obtain⟨i,hi,rfl⟩:=List.getElem_of_mem ha'
  obtain⟨j,hj,rfl⟩:=List.getElem_of_mem hb'
  have hpw:=List.pairwise_iff_getElem.1 hp2
  rcases Nat.lt_trichotomy i j with h | h | h
  ·exact absurd (hpw i j hi hj h) h2
  ·subst h;rfl
  ·exact absurd (hpw j i hj hi h) h1
 ·have:=lC _ _ _ hab hba
  rw[qm] at this
  exact absurd this (by decide)
theorem gz {R:Rd}{t:List UInt8}(h:R.now.kind≠5/\R.now.kind≠1):isT R t=false:=by
 unfold isT
 rw[decide_eq_false h.1,decide_eq_false h.2];simp
theorem dq {R:Rd}{t:List UInt8}(h:R.now.text≠t):isT R t=false:=by
 unfold isT
 rw[decide_eq_false h];simp
theorem uJ {R:Rd}{t:List UInt8}(h0:R.e=0)(hk:R.now.kind=5)(ht:R.now.text=t):isT R t=true:=by
 unfold isT
 rw[decide_eq_true h0,decide_eq_true hk,decide_eq_true ht];rfl
theorem Mg {s r:List UInt8}{j:Nat}(h:s.drop j=r)(hr:nC r):(A s j).e=0/\isT (A s j) [40]=false:=by
 cases r with
 | nil=>
   rw[S9 (List.drop_eq_nil_iff.1 h)]
   exact⟨rfl,gz ⟨by simp,by simp⟩⟩
 | cons c r'=>
   have hc:=hr c rfl
   have hs:vP c=true:=by rcases hc with rfl | rfl | rfl | rfl<;>rfl
   rw[nu h hs]
   refine⟨rfl,dq ?_⟩
   simp only
   rcases hc with rfl | rfl | rfl | rfl<;>decide
def bJ (s:List UInt8)(f d:Nat)(v:Val)(X:List UInt8):Prop:=
 ∀ i r,s.drop i=X++r->nC r->aS srt f d (A s i)=(v,A s (i+X.length))/\(A s i).e=0/\isT (A s i) [93]=false
theorem jg {w:List UInt8}(h:bz w=true):∃ c r,w=c::r/\aY c=true/\w.all db=true:=by
 unfold bz at h
 simp only[WT,decide_eq_true_eq] at h
 obtain⟨h1,h2,h3,h4⟩:=h
 cases w with
 | nil=>simp at h1
 | cons c r=>
   have k1:∀ c:UInt8,Be c=true->aY c=true:=fP (by decide +kernel)
   have k2:∀ c:UInt8,okC c=true->db c=true:=fP (by decide +kernel)
   refine⟨c,r,rfl,k1 c h3,?_⟩
   rw[List.all_eq_true] at h4 ⊢
   exact fun x hx=>k2 x (h4 x hx)
theorem f8 {w:List UInt8}{c:UInt8}{w' r:List UInt8}(hw:w=c::w')(ha:w.all db=true)(hr:r.head?≠some 34):¬ (c.toNat=120/\(w'++r).head? = some 34):=by
 rintro⟨_,h⟩
 cases w' with
 | nil=>exact hr h
 | cons b q=>
   rw[hw] at ha
   simp only[List.all_cons,WT] at ha
   have:b=34:=Option.some.inj h
   subst this
   exact absurd ha.2.1 (by decide)
theorem MG {r:List UInt8}(h:nC r):r.head?≠some 34:=by
 intro q
 have:=h 34 q
 revert this;decide
theorem B5 {r:List UInt8}(h:nC r):(r.head?.any db)=false:=B6 h (by decide)
theorem cP {s:List UInt8}{n:Nat}{w:Tk}:bi ⟨s,n,w,0,0⟩=A s n:=UZ rfl rfl
theorem qY {s:List UInt8}{f d:Nat}{v:Val}{w:List UInt8}{c:UInt8}{w':List UInt8}(hw:w=c::w')(hc:aY c=true)(ha:w.all db=true)
  (hv:∀ (R:Rd) (t:Tk),R.e=0->isT R [40]=false->t.text=w->dc (aS srt f (d+1)) R t d=(v,R)):bJ s (f+1) d v w:=by
 intro i r h hr
 have hA:=sX h hw hc (f8 hw ha (MG hr)) ha (B5 hr)
 have hst:=Mg (aQ h) hr
 have hne:w≠[91]/\w≠[123]/\w≠[93]:=by
  rw[hw]
  refine⟨fun q=>?_,fun q=>?_,fun q=>?_⟩ <;>
  ·have:=(List.cons.inj q).1
   subst this
   exact absurd hc (by decide)
 rw[hA]
 refine⟨?_,rfl,dq hne.2.2⟩
 rw[ga rfl (.inr (.inr (.inr (.inl rfl))))]
 unfold eL
 rw[if_neg (fun q=>absurd q.1 (by simp)),if_neg (by simp),if_neg (by simp),if_neg (by simp),if_neg hne.1,if_neg hne.2.1,cP]
 exact hv _ _ hst.1 hst.2 rfl
theorem CH {s:List UInt8}{f d:Nat}:bJ s (f+1) d (.mk 1 1 0 [] [] []) [116,114,117,101]:=
 qY rfl (by decide) (by decide) fun R t h0 hi ht=>by rw[mA h0 hi,if_pos ht]
theorem yX {s:List UInt8}{f d:Nat}:bJ s (f+1) d (.mk 1 0 0 [] [] []) [102,97,108,115,101]:=
 qY rfl (by decide) (by decide) fun R t h0 hi ht=>by rw[mA h0 hi,if_neg (by rw[ht];decide),if_pos ht]
theorem wF {n:Int}{sc:Nat}(h:IsN n sc)(b:Bool):∃ c r,cl n sc++(if b=true then [100] else [])=c::r/\c≠93:=by
 obtain⟨sg,N,F,e,hsg,⟨c0,N',hN,hc0⟩,_⟩:=m7 h
 rw[e,hN]
 rcases hsg with rfl | rfl
 ·refine⟨c0,_,rfl,?_⟩
  rintro rfl
  exact absurd hc0 (by decide)
 ·exact⟨45,_,rfl,by decide⟩
theorem Ex {X:List UInt8}{c d:UInt8}{r:List UInt8}(h:X=c::r)(hc:c≠d):X≠[d]:=by
 rw[h];intro q;exact hc (List.cons.inj q).1
theorem HT {s:List UInt8}{f d:Nat}{n:Int}(h:IsN n 0):bJ s (f+1) d (.mk 2 n 0 [] [] []) (aN n):=by
 intro i r hs hr
 rw[gT h] at hs ⊢
 have hA:=S8 h false (by simp) (by simpa using hs) hr
 simp only[Xz,if_false,W7,Bool.false_or] at hA
 rw[hA]
 obtain⟨c,r',hc,hne⟩:=wF h false
 simp only[Xz,if_false,W7] at hc
 refine⟨?_,rfl,dq (Ex hc hne)⟩
 rw[ga rfl (.inl rfl)]
 unfold eL
 rw[if_neg (by simp),if_pos rfl,cP]
theorem HV {s:List UInt8}{f d:Nat}{n:Int}{sc:Nat}(h:IsN n sc):bJ s (f+1) d (.mk 3 n sc [] [] []) (cl n sc++(if sc=0 then [100] else [])):=by
 intro i r hs hr
 have hb:(if sc=0 then ([100]:List UInt8) else [])=if decide (sc=0)=true then [100] else []:=by
  by_cases h0:sc=0<;>simp[h0]
 rw[hb] at hs ⊢
 have hA:=S8 h (decide (sc=0)) (by simp) (by rw[hs];simp) hr
 rw[hA]
 obtain⟨c,r',hc,hne⟩:=wF h (decide (sc=0))
 refine⟨?_,rfl,dq (Ex hc hne)⟩
 rw[ga rfl (.inl rfl)]
 unfold eL
 rw[if_pos ⟨rfl,by by_cases h0:sc=0<;>simp[h0]⟩,cP]
theorem HR {s t:List UInt8}{f d:Nat}(h:Lib.validD t=true):bJ s (f+1) d (.mk 4 0 0 t [] []) (aA t):=by
 intro i r hs hr
 rw[Gv hs h]
 refine⟨?_,rfl,gz ⟨by simp,by simp⟩⟩
 rw[ga rfl (.inr (.inl rfl))]
 unfold eL
 rw[if_neg (by simp),if_neg (by simp),if_pos rfl,cP]
theorem HU {s t:List UInt8}{f d:Nat}:bJ s (f+1) d (.mk 5 0 0 t [] []) (ox t):=by
 intro i r hs hr
 rw[VT hs]
 refine⟨?_,rfl,gz ⟨by simp,by simp⟩⟩
 rw[ga rfl (.inr (.inr (.inl rfl)))]
 unfold eL
 rw[if_neg (by simp),if_neg (by simp),if_neg (by simp),if_pos rfl,cP]
theorem mb {s w t:List UInt8}{f d:Nat}{k n:Int}{ps:List UInt8->Int×Int}{c:UInt8}{w':List UInt8}(hw:w=c::w')(hc:aY c=true)(ha:w.all db=true)(hv:Lib.validD t=true)(hp:ps t=(n,0))
  (hn:∀ (R:Rd) (t:Tk),R.e=0->isT R [40]=false->t.text=w->dc (aS srt f (d+1)) R t d=(.mk k (aR R ps).1 0 [] [] [],(aR R ps).2)) :
  bJ s (f+1) d (.mk k n 0 [] [] []) (w++[32]++aA t):=by
 intro i r hs hr
 have hs1:s.drop i=w++(32::(aA t++r)):=by rw[hs];simp
 have hA:=sX hs1 hw hc (f8 hw ha (by simp)) ha rfl
 have hd1:=aQ hs1
 obtain⟨hb1,hd2⟩:=bt hd1
 have hA2:A s (i+w.length)=A s (i+w.length+1):=nv hb1 (by decide)
 have hA3:=Gv (i:=i+w.length+1) hd2 hv
 have hne:w≠[91]/\w≠[123]/\w≠[93]:=by
  rw[hw]
  refine⟨fun q=>?_,fun q=>?_,fun q=>?_⟩ <;>
  ·have:=(List.cons.inj q).1
   subst this
   exact absurd hc (by decide)
 rw[hA]
 refine⟨?_,rfl,dq hne.2.2⟩
 rw[ga rfl (.inr (.inr (.inr (.inl rfl))))]
 unfold eL
 rw[if_neg (fun q=>absurd q.1 (by simp)),if_neg (by simp),if_neg (by simp),if_neg (by simp),if_neg hne.1,if_neg hne.2.1,cP,hA2,hA3]
 rw[hn _ _ rfl (gz ⟨by simp,by simp⟩) rfl]
 have hm:aR ⟨s,i+w.length+1+(aA t).length,{ kind:=3,pos:=i+w.length+1,text:=aA t,bytes:=t },0,0⟩ ps=(n,A s (i+w.length+1+(aA t).length)):=by
  unfold aR
  rw[ku rfl rfl]
  simp only
  rw[cP]
  have he:(A s (i+w.length+1+(aA t).length)).e=0:=(Mg (aQ hd2) hr).1
  rw[if_pos he,hp]
  simp only
  rw[if_pos trivial]
 rw[hm]
 simp only
 rw[show i+w.length+1+(aA t).length=i+(w++[32]++aA t).length by simp;omega]
inductive NumF:List UInt8->List UInt8->Bool->Bool->Prop
 | int {r:List UInt8}:(r.head?.any isD)=false->¬ (r[0]? = some 46/\(r[1]?.any isD)=true)->¬ r[0]? = some 100->NumF [] r false false
 | dot {M r:List UInt8} {c:UInt8} {M':List UInt8}:M=c::M'->M.all isD=true->(r.head?.any isD)=false->NumF (46::M) r true false
 | dec {r:List UInt8}:NumF [100] r true true
theorem NumF.first {F r:List UInt8}{d x:Bool}(h:NumF F r d x):((F++r).head?.any isD)=false:=by
 cases h with
 | int h1 _ _=>exact h1
 | dot _ _ _=>rfl
 | dec=>rfl
theorem NumF.at {s F r:List UInt8}{d x:Bool}{z:Nat}(h:NumF F r d x)(hz:s.drop z=F++r):ub s z=(z+F.length,d,x):=by
 cases h with
 | int h1 h2 h3=>
   rw[List.nil_append] at hz
   have e:∀ k,s[z+k]? = r[k]?:=fun k=>by rw[<- hz,List.getElem?_drop]
   exact ol (fun q=>h2 ⟨by rw[<- e 0];exact q.1,by rw[<- e 1];exact q.2⟩) (fun q=>h3 (by rw[<- e 0];exact q))
 | @dot M r c M' hM ha hr=>
   obtain⟨z1,z2⟩:=bt (c:=46) (r:=M++r) hz
   have hM1:s[z+1]? = some c:=by rw[mL z2,hM];rfl
   have hc1:isD c=true:=by rw[hM] at ha;simp only[List.all_cons,WT] at ha;exact ha.1
   rw[Dw ⟨z1,by rw[hM1];exact hc1⟩,l7 z2 ha hr]
   simp only[WG]
   rw[show z+1+M.length=z+(M.length+1) by omega]
 | dec=>
   obtain⟨z1,z2⟩:=bt (c:=100) (r:=r) hz
   exact wG (fun q=>by rw[z1] at q;exact absurd q.1 (by decide)) z1
theorem NJ {s sg N F r:List UInt8}{p:Nat}{d x:Bool}(h:s.drop p=sg++(N++(F++r)))(hsg:sg=[]\/sg=[45]){c0:UInt8}{N':List UInt8}(hN:N=c0::N')(hNa:N.all isD=true)(hF:NumF F r d x) :
  rC ⟨s,p,{ pos:=p },0,0⟩ p=Bd ⟨s,p,{ pos:=p },0,0⟩ p (p+(sg++(N++F)).length,d,x) (bC (fK (sg++(N++F))))/\∃ c,s[p]? = some c/\(isD c=true\/c=45):=by
 have hc0:isD c0=true:=by rw[hN] at hNa;simp only[List.all_cons,WT] at hNa;exact hNa.1
 obtain⟨a,hadef⟩:∃ a,a=p+sg.length:=⟨_,rfl⟩
 have hda:s.drop a=N++(F++r):=by rw[hadef];exact aQ h
 have hz:bR isD s a=a+N.length:=l7 hda hNa hF.first
 have hdz:s.drop (a+N.length)=F++r:=aQ hda
 have hN1:1<=N.length:=by rw[hN];simp
 obtain⟨c,hc,hcd,hca⟩:∃ c,s[p]? = some c/\(isD c=true\/c=45)/\(if s[p]? = some 45 then p+1 else p)=a:=by
  rcases hsg with rfl | rfl
  ·have:s.drop p=c0::(N'++(F++r)):=by rw[h,hN];rfl
   obtain⟨q1,q2⟩:=bt this
   refine⟨c0,q1,.inl hc0,?_⟩
   rw[q1,if_neg (fun q=>(Ls hc0).1 (Option.some.inj q)),hadef];simp
  ·obtain⟨q1,q2⟩:=bt (c:=45) (r:=N++(F++r)) h
   exact⟨45,q1,.inr rfl,by rw[q1,if_pos rfl,hadef];rfl⟩
 refine⟨?_,c,hc,hcd⟩
 have hE:=hF.at hdz
 have hlen:a+N.length+F.length=p+(sg++(N++F)).length:=by rw[hadef];simp only[WF];omega
 rw[hlen] at hE
 have htx:s.drop p=(sg++(N++F))++r:=by rw[h];simp
 rw[fS (R:=⟨s,p,{ pos:=p },0,0⟩) hca hz (by omega) hE]
 simp only
 rw[en htx]
theorem Lg {s sg N F r:List UInt8}{p:Nat}{d x:Bool}(h:s.drop p=sg++(N++(F++r)))(hsg:sg=[]\/sg=[45]){c0:UInt8}{N':List UInt8}(hN:N=c0::N')(hNa:N.all isD=true)(hF:NumF F r d x){n:Int}{sc:Nat}(hq:bC (fK (sg++(N++F)))=((n,sc),0)) :
  A s p=⟨s,p+(sg++(N++F)).length,{ kind:=2,pos:=p,text:=sg++(N++F),num:=n,sc:=sc,dec:=d,exa:=x },0,0⟩:=by
 obtain⟨h1,c,hc,hcd⟩:=NJ h hsg hN hNa hF
 obtain⟨hlex,hbl⟩:=DW (s:=s) (i:=p) hcd
 have htx:s.drop p=(sg++(N++F))++r:=by rw[h];simp
 rw[PG hc hbl,hlex,h1,hq,fT,dH,if_pos rfl]
 simp only
 rw[en htx]
theorem Gw {s r:List UInt8}{i:Nat}(h:s.drop i=46::46::r):A s i=⟨s,i+2,{ kind:=5,pos:=i,text:=[46,46] },0,0⟩:=by
 obtain⟨hc,hd⟩:=bt h
 obtain⟨hc2,_⟩:=bt hd
 rw[PG hc (by decide),Ry (by decide) (by rintro⟨q,_⟩;exact absurd q (by decide)) (by decide) (by decide) ⟨rfl,hc2⟩,dH,if_pos rfl]
 simp only
 have:=en (a:=[46,46]) (b:=r) h
 simp only[WG,List.length_nil] at this
 rw[this]

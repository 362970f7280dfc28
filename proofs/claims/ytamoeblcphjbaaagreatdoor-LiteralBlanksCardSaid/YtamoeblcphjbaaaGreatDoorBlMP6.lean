/- A part. -/
import Derived.Test.YtamoeblcphjbaaaGreatDoorBlMP3
set_option linter.unusedVariables false
set_option linter.unusedSimpArgs false
set_option maxHeartbeats 16000000
set_option maxRecDepth 100000
open UInt8 renaming ofNat->U0,toNat_ofNat'->Ve,toNat_inj->US
open List renaming getElem?_eq_getElem->Uo,length_append->Us,length_cons->Ut,length_nil->Ux,drop_eq_nil_of_le->U1,length_singleton->UL,all_eq_true->UP,getElem?_drop->U7,length_drop->UC,length_take->UM,getElem?_take->UT,getElem?_eq_some_iff->Up
namespace Go.Proofs.YtamoeblcphjbaaaGreatDoor
open Go Go.Ab
attribute [local irreducible] vc
def ES (M:Mo)(a:Nat):(List UInt8×Nat)×Mo:=dt M a false (eb (M.s.drop (a+2)) (a+2) none [])
theorem Mb {c:UInt8}{r o:List UInt8}{i:Nat}(h:c.toNat=34):eb (c::r) i none o = .done o (i+1):=by rw[eb,if_pos ⟨h,rfl⟩]
theorem Ma {c:UInt8}{r o:List UInt8}{i:Nat}(h:¬ c.toNat=34)(hc:eP c=none):eb (c::r) i none o = .bad i 13:=by rw[eb,if_neg (fun q=>h q.1),hc]
theorem Hk {c:UInt8}{o:List UInt8}{i n:Nat}(h:¬ c.toNat=34)(hc:eP c=some n):eb [c] i none o = .short:=by rw[eb,if_neg (fun q=>h q.1),hc];rfl
theorem Hl {c b:UInt8}{r o:List UInt8}{i n:Nat}(h:¬ c.toNat=34)(hc:eP c=some n)(hb:eP b=none):eb (c::b::r) i none o = .bad (i+1) 13:=by
 rw[eb,if_neg (fun q=>h q.1),hc]
 simp only
 rw[eb,if_neg (fun q=>by cases q.2),hb]
theorem Hj {c b:UInt8}{r o:List UInt8}{i n m:Nat}(h:¬ c.toNat=34)(hc:eP c=some n)(hb:eP b=some m):eb (c::b::r) i none o=eb r (i+2) none (o++[U0 (16*n+m)]):=by
 rw[eb,if_neg (fun q=>h q.1),hc]
 simp only
 rw[eb,if_neg (fun q=>by cases q.2),hb]
section
variable {T:Nat}{p:PV}
theorem H4 (M:Mo)(a:Nat)(hs:M.s.length<=65536)(ha:a+2<=M.s.length):aI Tryz.prog (bE T p) 1 110 [.ptr 0 0,.pv (.int .i64 (a:Int))] [moB M] (.pv (.tup [.str (ES M a).1.1,.int .i64 ((ES M a).1.2:Int)])) [moB (ES M a).2]:=by
 have hf:=fun i e=>vS (T:=T) (p:=p) M i e
 have hhx:=fun c=>toE (T:=T) (p:=p) (Jn c)
 unfold ES
 obtain⟨Z,hZ⟩:∃ Z,Z=eb (M.s.drop (a+2)) (a+2) none []:=⟨_,rfl⟩
 rw[<- hZ]
 refine aI.intro Tu.2 (by simp[Tu]) ?_
 simp(disch:=try exact dI) only[Tu,moB,moC,push_cast,seval]
 refine aK ([(6,0,5,1)]) (fun y:Nat×List UInt8=>[(6,.olist 1 1 (aC y.2)),(7,.pv (.int .i64 (y.1:Int)))]) (fun _=>[]) (fun y=>y.1<=M.s.length/\y.2.length<=y.1/\Z=eb (M.s.drop y.1) y.1 none y.2) (fun y=>M.s.length - y.1) ((a+2,[])) ?_;intro e0 σ0 n0 h0;simp(disch:=try exact dI) only[push_cast,seval] at h0;obtain⟨rfl,rfl,rfl⟩:=h0;refine⟨?_,?_,?_⟩
 ·refine zgZ ?_
  exact⟨.refl _,by omega⟩
 ·exact⟨by simp only;omega,by simp,hZ⟩
 rintro⟨j,out⟩ ⟨hj,ho,hZj⟩
 simp only at hj ho hZj
 by_cases hlt:j<M.s.length
 ·obtain⟨c,hc⟩:∃ c,M.s[j]? = some c:=⟨_,Uo hlt⟩
  have hltI:(j:Int)<(M.s.length:Int):=by omega
  have hnlI:¬ (M.s.length:Int)<=(j:Int):=by omega
  have hu8:=ii out
  have hbl:=dX out
  rw[aU hc] at hZj
  by_cases h34:c.toNat=34
  ·have h34I:((c.toNat:Int)=34)=True:=eq_true (by omega)
   rw[Mb h34] at hZj
   subst hZj
   simp only[dt]
   rw[if_neg (fun h=>by cases h.1)]
   simp(disch:=try exact dI) only[hltI,hc,ag,h34I,push_cast,seval]
   simp(disch:=try exact dI) only[hnlI,aC,push_cast,seval]
   exact am [] qsZ
  have h34I:¬ (c.toNat:Int)=34:=by omega
  have hx:=hhx c
  cases hv:eP c with
  | none=>
    rw[lO hv] at hx
    rw[Ma h34 hv] at hZj
    subst hZj
    have hfa:=hf j 13
    simp only[moB,moC] at hfa
    simp(disch:=try exact dI) only[hltI,hc,ag,h34I,push_cast,seval]
    refine ae.pure hx rfl ?_
    refine zgZ ?_
    refine ae.lentK hfa [0] rfl qsZ qsZ ?_
    refine zgZ ?_
    exact am [] (by simp(disch:=try exact dI) only[dt,cj,push_cast,seval])
  | some n=>
    rw[lN hv] at hx
    have hn0:¬ (n:Int)<0:=by omega
    have hn16:=gS hv
    by_cases hl1:j+1<M.s.length
    ·obtain⟨b,hb⟩:∃ b,M.s[j+1]? = some b:=⟨_,Uo hl1⟩
     have hl1I:¬ (M.s.length:Int)<=(j:Int)+1:=by omega
     rw[aU hb] at hZj
     have hx2:=hhx b
     cases hv2:eP b with
     | none=>
       rw[lO hv2] at hx2
       rw[Hl h34 hv hv2] at hZj
       subst hZj
       have hfa:=hf (j+1) 13
       simp only[moB,moC] at hfa
       simp(disch:=try exact dI) only[hltI,hc,ag,h34I,push_cast,seval]
       refine ae.pure hx rfl ?_
       simp(disch:=try exact dI) only[hn0,hl1I,hb,ag,push_cast,seval]
       refine ae.pure hx2 rfl ?_
       refine zgZ ?_
       refine ae.lentK hfa [0] rfl qsZ qsZ ?_
       refine zgZ ?_
       exact am [] (by simp(disch:=try exact dI) only[dt,cj,push_cast,seval])
     | some m=>
       rw[lN hv2] at hx2
       rw[Hj h34 hv hv2] at hZj
       have hm0:¬ (m:Int)<0:=by omega
       have hm16:=gS hv2
       have hw:=fE (n:=16*(n:Int)+(m:Int)) (by omega) (by omega)
       have hB:aC (out++[U0 (16*n+m)])=aC out++[.int .u8 (16*(n:Int)+(m:Int))]:=by
        rw[cB]
        congr 1
        simp only[aC,List.map_cons,List.map_nil]
        rw[Ve,show (((16*n+m) % 2 ^ 8:Nat):Int)=16*(n:Int)+(m:Int) by omega]
       generalize hQ:aC out=Q at *
       simp(disch:=try exact dI) only[hltI,hc,ag,h34I,push_cast,seval]
       refine ae.pure hx rfl ?_
       simp(disch:=try exact dI) only[hn0,hl1I,hb,ag,push_cast,seval]
       refine ae.pure hx2 rfl ?_
       simp(disch:=try exact dI) only[hm0,hw,push_cast,seval]
       exact⟨(j+2,out++[U0 (16*n+m)]),bu (by simp(disch:=try exact dI) only[hB,push_cast,seval];omega),⟨by simp only;omega,by simp only[Us,Ut,Ux];omega,hZj⟩,by simp only;omega⟩
    ·have hl1I:(M.s.length:Int)<=(j:Int)+1:=by omega
     rw[show M.s.drop (j+1)=[] from U1 (by omega),Hk h34 hv] at hZj
     subst hZj
     have hfa:=hf a 4
     simp only[moB,moC] at hfa
     simp(disch:=try exact dI) only[hltI,hc,ag,h34I,push_cast,seval]
     refine ae.pure hx rfl ?_
     simp(disch:=try exact dI) only[hn0,hl1I,push_cast,seval]
     refine ae.lentK hfa [0] rfl qsZ qsZ ?_
     refine zgZ ?_
     exact am [] (by simp(disch:=try exact dI) only[dt,cj,push_cast,seval])
 ·have hltI:¬ (j:Int)<(M.s.length:Int):=by omega
  have hle:(M.s.length:Int)<=(j:Int):=by omega
  rw[U1 (by omega)] at hZj
  have hZj:Z = .short:=hZj
  subst hZj
  have hfa:=hf a 4
  simp only[moB,moC] at hfa
  simp(disch:=try exact dI) only[hltI,push_cast,seval]
  refine ae.lentK hfa [0] rfl qsZ qsZ ?_
  refine zgZ ?_
  exact am [] (by simp(disch:=try exact dI) only[dt,cj,push_cast,seval])
end
theorem DQ (s:List UInt8)(hs:s.length<=100000)(h0:s≠[]):au Tryz.prog aH 114 [.str s] (.str (ct s)):=by
 refine au.intro Rr.2 (by simp[Rr]) ?_
 unfold ct
 rcases List.eq_nil_or_concat s with rfl | ⟨l,c,rfl⟩
 ·exact absurd rfl h0
 ·rw[List.concat_eq_append] at hs ⊢
  rw[Us,UL] at hs
  have e1:(l.length:Int)+1 - 1=(l.length:Int):=by omega
  have hg:(l++[c])[l.length]? = some c:=by simp
  have hl:(l++[c]).getLast? = some c:=by simp
  by_cases hc:c=100
  ·subst hc
   have hcI:((100:UInt8).toNat:Int)=100:=rfl
   rw[hl,if_pos rfl,List.dropLast_concat]
   simp(disch:=try exact dI) only[Rr,Us,Ut,Ux,e1,hg,ag,hcI,List.take_left,push_cast,seval]
  ·have hcI:¬ (c.toNat:Int)=100:=fun h=>hc (US.1 (by simpa using (show c.toNat=100 by omega)))
   rw[hl,if_neg (fun q=>hc (Option.some.inj q))]
   simp(disch:=try exact dI) only[Rr,Us,Ut,Ux,e1,hg,ag,hcI,push_cast,seval]
def rJ (M:Mo)(i:Nat)(c:UInt8):Mo×Nat:=
 if c.toNat=34 then ({ (EP { M with k:=115 } i).2 with v:=(EP { M with k:=115 } i).1.1 },(EP { M with k:=115 } i).1.2)
 else if c.toNat=120/\M.s[i+1]? = some 34 then ({ (ES { M with k:=120 } i).2 with v:=(ES { M with k:=120 } i).1.1 },(ES { M with k:=120 } i).1.2)
 else if aM c=true then ({ M with k:=119 },aN bA M.s (i+1))
 else if isD c=true\/(c.toNat=45/\(M.s[i+1]?.any isD)=true) then ({ M with k:=110 },(mL M.s (aN isD M.s (i+1))).1)
 else if c.toNat=46/\M.s[i+1]? = some 46 then ({ M with k:=46 },i+2)
 else if pi c=true then ({ M with k:=c.toNat },i+1)
 else (cC M 13 i,i+1)
def gX (q:Mo×Nat)(i:Nat):Mo:=if q.1.e=0 then { q.1 with x:=(q.1.s.take q.2).drop i,nx:=q.2 } else q.1
def lz (M:Mo)(i:Nat):Mo:=if M.k=110/\M.e=0 then (if (aW (ct M.x)).2=0 then M else cC M (aW (ct M.x)).2 i) else M
def nextM (M:Mo):Mo:=
 match M.s[aN az M.s M.nx]? with
 | none=>{ M with nx:=aN az M.s M.nx,k:=0,p:=aN az M.s M.nx,x:=[],v:=[] }
 | some c=>if M.e=0 then lz (gX (rJ { M with nx:=aN az M.s M.nx,k:=0,p:=aN az M.s M.nx,x:=[],v:=[] } (aN az M.s M.nx) c) (aN az M.s M.nx)) (aN az M.s M.nx)
   else { M with nx:=aN az M.s M.nx,k:=0,p:=aN az M.s M.nx,x:=[],v:=[] }
def Ry (M:Mo)(R:Rd):Prop:=M.p=R.now.pos /\
 ((R.now.kind=0/\M.k=0)\/(R.now.kind=1/\M.k=119/\M.x=R.now.text/\∃ b r,R.now.text=b::r/\aM b=true) \/
  (R.now.kind=2/\M.k=110/\aW (ct M.x)=((R.now.num,R.now.sc),0)/\R.now.dec=(decide (0<R.now.sc)||decide (M.x.getLast? = some 100))/\M.x≠[]) \/
  (R.now.kind=3/\M.k=115/\M.v=R.now.bytes)\/(R.now.kind=4/\M.k=120/\M.v=R.now.bytes) \/
  (R.now.kind=5/\((M.k=46/\R.now.text=[46,46])\/∃ c:UInt8,pi c=true/\M.k=c.toNat/\R.now.text=[c])))
def Sim (M:Mo)(R:Rd):Prop:=M.s=R.s/\((R.e=0/\M.e=0/\M.nx=R.next/\Ry M R)\/(R.e≠0/\M.e=R.e/\M.bad=R.off))
theorem Dw {M:Mo}{e:Int}{i:Nat}(h:M.e=0):cC M e i = { M with e:=e,bad:=i }:=if_pos h
theorem up {s:List UInt8}{i:Nat}{k:Int}{km:Nat}{b:Bool}{Z:Sc}{M:Mo}{R:Rd}(hM:M = { s:=s,nx:=i,k:=km,p:=i,e:=0,bad:=M.bad })(hR:R=⟨s,i,{ pos:=i },0,R.off⟩)(hk:(k=3/\km=115)\/(k=4/\km=120))(hZ:∀ j,¬ Z = .bad j 0) :
  Sim (lz (gX ({ (dt M i b Z).2 with v:=(dt M i b Z).1.1 },(dt M i b Z).1.2) i) i) (de (bq R i k b Z) i):=by
 have hRe:R.e=0:=by rw[hR]
 have hMe:M.e=0:=by rw[hM]
 have hk110:km≠110:=by rcases hk with ⟨_,rfl⟩ | ⟨_,rfl⟩<;>decide
 have hMk:M.k=km:=by rw[hM]
 have hMs:M.s=s:=by rw[hM]
 have hRs:R.s=s:=by rw[hR]
 have err:∀ (e:Int) (j:Nat) (v:List UInt8) (n:Nat) (R':Rd),e≠0->R'.e=e->R'.off=j->R'.s=s->Sim (lz (gX ({ cC M e j with v:=v },n) i) i) (de R' i):=by
  intro e j v n R' he h1 h2 h3
  rw[Dw hMe]
  unfold gX
  rw[if_neg he]
  unfold lz
  rw[if_neg (fun q=>he q.2),mZ (by rw[h1];exact he)]
  exact⟨hMs.trans h3.symm,.inr ⟨by rw[h1];exact he,h1.symm,h2.symm⟩⟩
 cases Z with
 | short=>exact err 4 i _ _ _ (by decide) (by rw[bq,aP,if_pos hRe]) (by rw[bq,aP,if_pos hRe]) (by rw[bq,aP,if_pos hRe];exact hRs)
 | bad j e=>
   have he:e≠0:=fun q=>hZ j (by rw[q])
   exact err e j _ _ _ he (by rw[bq,aP,if_pos hRe]) (by rw[bq,aP,if_pos hRe]) (by rw[bq,aP,if_pos hRe];exact hRs)
 | done o j=>
   have hqM:dt M i b (.done o j)=((o,j),if b=true/\Lib.validD o=false then cC M 16 i else M):=rfl
   have hqR:bq R i k b (.done o j) = { (if b=true/\Lib.validD o=false then aP R i 16 else R) with now:={ (if b=true/\Lib.validD o=false then aP R i 16 else R).now with kind:=k,bytes:=o },next:=j }:=rfl
   by_cases hv:b=true/\Lib.validD o=false
   ·rw[if_pos hv] at hqM
    rw[if_pos hv] at hqR
    rw[hqM,hqR]
    exact err 16 i _ _ _ (by decide) (by simp only[aP,if_pos hRe]) (by simp only[aP,if_pos hRe]) (by simp only[aP,if_pos hRe];exact hRs)
   ·rw[if_neg hv] at hqM
    rw[if_neg hv] at hqR
    rw[hqM,hqR]
    simp only
    unfold gX
    rw[if_pos hMe]
    unfold lz
    rw[if_neg (fun q=>hk110 (hMk.symm.trans q.1)),cW (R:={ R with now:={ R.now with kind:=k,bytes:=o },next:=j }) hRe]
    refine⟨hMs.trans hRs.symm,.inl ⟨hRe,hMe,rfl,by rw[hM,hR],?_⟩⟩
    rcases hk with ⟨rfl,rfl⟩ | ⟨rfl,rfl⟩
    ·exact .inr (.inr (.inr (.inl ⟨rfl,hMk,rfl⟩)))
    ·exact .inr (.inr (.inr (.inr (.inl ⟨rfl,hMk,rfl⟩))))
theorem IK {q:UInt8->Bool}:∀ (N r:List UInt8),N.all q=true->(r.head?.any q)=false->(N++r).takeWhile q=N
 | [],r,_,h=>by
   cases r with
   | nil=>rfl
   | cons c r=>simp at h;simp[h]
 | c::N,r,h1,h2=>by
   simp only[List.all_cons,Bool.and_eq_true] at h1
   rw[List.cons_append,List.takeWhile_cons,if_pos h1.1,IK N r h1.2 h2]
theorem og {q:UInt8->Bool}{s N r:List UInt8}{a:Nat}(h:s.drop a=N++r)(h1:N.all q=true)(h2:(r.head?.any q)=false):aN q s a=a+N.length:=by
 unfold aN;rw[h,IK N r h1 h2]
theorem oL {s r:List UInt8}{i:Nat}(h:s.drop i=r):s[i]? = r.head?:=by
 rw[<- h,List.head?_drop]
theorem JL {s w r:List UInt8}{i:Nat}{c:UInt8}{w':List UInt8}(h:s.drop i=w++r)(hw:w=c::w')(hc:aM c=true)(hx:¬ (c.toNat=120/\(w'++r).head? = some 34))(ha:w.all bA=true)(hr:(r.head?.any bA)=false) :
  A s i=⟨s,i+w.length,{ kind:=1,pos:=i,text:=w },0,0⟩:=by
 have h':s.drop i=c::(w'++r):=by rw[h,hw];rfl
 obtain⟨hci,hd⟩:=db h'
 have hn:aN bA s i=i+w.length:=og h ha hr
 have key:∀ c:UInt8,aM c=true->¬ c.toNat=34/\az c=false:=fH (by decide +kernel)
 obtain⟨k1,k2⟩:=key c hc
 rw[JN hci k2]
 have hx':¬ (c.toNat=120/\(⟨s,i,{ pos:=i },0,0⟩:Rd).s[i+1]? = some 34):=by
  intro q
  apply hx
  refine⟨q.1,?_⟩
  have:=oL hd
  rw[<- this];exact q.2
 unfold eO
 rw[if_neg k1,if_neg hx',if_pos hc]
 simp only
 rw[hn,de,if_pos rfl]
 simp only
 rw[b9 h]
theorem QV {s r:List UInt8}{i:Nat}{c:UInt8}(h:s.drop i=c::r)(hc:pi c=true):A s i=⟨s,i+1,{ kind:=5,pos:=i,text:=[c] },0,0⟩:=by
 obtain⟨hci,hd⟩:=db h
 have key:∀ c:UInt8,pi c=true->¬ c.toNat=34/\az c=false/\¬ c.toNat=120/\aM c=false/\isD c=false/\¬ c.toNat=45/\¬ c.toNat=46:=fH (by decide +kernel)
 obtain⟨k1,k2,k3,k4,k5,k6,k7⟩:=key c hc
 rw[JN hci k2]
 unfold eO
 rw[if_neg k1,if_neg (fun q=>k3 q.1),if_neg (by rw[k4];decide),if_neg (by rw[k5];rintro (q | q);cases q;exact k6 q),if_neg (fun q=>k7 q.1),if_pos hc]
 simp only
 rw[de,if_pos rfl]
 simp only
 have:=b9 (a:=[c]) (b:=r) h
 simp only[UL] at this
 rw[this]
theorem ql:∀ (k a:Nat),(bQ k a).all isD=true
 | 0,_=>rfl
 | k+1,a=>by
   rw[bQ,List.all_append,ql k,Bool.true_and]
   have hc:(U0 (48+a % 10)).toNat=48+a % 10:=by rw[Ve];omega
   simp only[List.all_cons,List.all_nil,Bool.and_true,isD,hc,Bool.and_eq_true,decide_eq_true_eq]
   omega
theorem CD {s:List UInt8}{i:Nat}{c:UInt8}(hc:isD c=true\/c=45):eO ⟨s,i,{ pos:=i },0,0⟩ i c=qm ⟨s,i,{ pos:=i },0,0⟩ i/\az c=false:=by
 have key:∀ c:UInt8,(isD c=true\/c=45)->¬ c.toNat=34/\¬ c.toNat=120/\aM c=false/\(isD c=true\/c.toNat=45)/\az c=false:=fH (by decide +kernel)
 obtain⟨k1,k2,k3,k4,k5⟩:=key c hc
 refine⟨?_,k5⟩
 unfold eO
 rw[if_neg k1,if_neg (fun q=>k2 q.1),if_neg (by rw[k3];decide),if_pos k4]
theorem Pz {c:UInt8}(h:isD c=true):c≠45/\c≠46/\c≠100:=by
 have key:∀ c:UInt8,isD c=true->c≠45/\c≠46/\c≠100:=fH (by decide +kernel)
 exact key c h
theorem Ju (k a:Nat):(46:UInt8)∉bQ k a:=fun h=>by
 have:=UP.1 (ql k a) _ h
 exact absurd this (by decide)
theorem HR {n:Int}{sc:Nat}:(46:UInt8)∈nL n sc↔0<sc:=by
 unfold nL
 by_cases h:sc=0
 ·subst h
  simp[Ju]
 ·simp[h,Ju]
  omega
theorem nk {s:List UInt8}{n:Int}{sc:Nat}(h:aW s=((n,sc),0)):(46:UInt8)∈s↔0<sc:=by
 unfold aW at h
 split at h
 ·cases h
 split at h
 ·cases h
 split at h
 ·rename_i hc
  simp only[Prod.mk.injEq,and_true] at h
  obtain⟨rfl,rfl⟩:=h
  rw[<- HR (n:=sgI s (rdS false 0 0 s).1),hc.2]
 ·cases h
theorem IY {q:UInt8->Bool}{s:List UInt8}{a k:Nat}(h1:a<=k)(h2:k<aN q s a):∃ c,s[k]? = some c/\q c=true:=by
 unfold aN at h2
 have hk:k - a<((s.drop a).takeWhile q).length:=by omega
 have hg:((s.drop a).takeWhile q)[k - a]? = some ((s.drop a).takeWhile q)[k - a]:=Uo hk
 have hp:(s.drop a).takeWhile q <+: s.drop a:=List.takeWhile_prefix q
 refine⟨_,?_,(UP.1 List.all_takeWhile _ (List.getElem_mem hk))⟩
 obtain⟨r,hr⟩:=hp
 have:(s.drop a)[k - a]? = some ((s.drop a).takeWhile q)[k - a]:=by
  conv=>lhs;rw[<- hr]
  rw[List.getElem?_append_left hk];exact hg
 rw[U7,show a+(k - a)=k by omega] at this
 exact this
theorem r6 {s:List UInt8}{i w:Nat}(h1:i<w)(h2:w<=s.length):((s.take w).drop i).getLast? = s[w - 1]?:=by
 rw[List.getLast?_eq_getElem?,U7,UC,UM,UT]
 rw[show i+(min w s.length - i - 1)=w - 1 by omega,if_pos (by omega)]
theorem IS {s:List UInt8}{i w:Nat}{c:UInt8}:c∈(s.take w).drop i↔∃ k,i<=k/\k<w/\s[k]? = some c:=by
 rw[List.mem_iff_getElem?]
 constructor
 ·rintro⟨k,hk⟩
  rw[U7,UT] at hk
  split at hk
  ·exact⟨i+k,by omega,by assumption,hk⟩
  ·cases hk
 ·rintro⟨k,h1,h2,h3⟩
  refine⟨k - i,?_⟩
  rw[U7,UT,show i+(k - i)=k by omega,if_pos h2,h3]
theorem JA {x:List UInt8}(h:x.getLast?≠some 100):ct x=x:=if_neg h
theorem th {c:UInt8}(h:isD c=true):c≠100/\c≠46:=by
 constructor<;>(rintro rfl;exact absurd h (by decide))
theorem MI {s:List UInt8}{i a:Nat}(ha:a=i\/(a=i+1/\s[i]? = some 45))(hza:a<aN isD s a)(hal:a<=s.length){n:Int}{sc:Nat}
  (hp:aW (ct ((s.take (mL s (aN isD s a)).1).drop i))=((n,sc),0)) :
  (mL s (aN isD s a)).2.1=(decide (0<sc)||decide (((s.take (mL s (aN isD s a)).1).drop i).getLast? = some 100)):=by
 have hzl:aN isD s a<=s.length:=bI hal
 have hdig:∀ k,a<=k->k<aN isD s a->∃ c,s[k]? = some c/\isD c=true:=fun k h1 h2=>IY h1 h2
 generalize aN isD s a=z at *
 have hiz:i<z:=by omega
 by_cases h1:s[z]? = some 46/\(s[z+1]?.any isD)=true
 ·have hw:z+1<aN isD s (z+1):=by
   cases hb:s[z+1]? with
   | none=>rw[hb] at h1;cases h1.2
   | some b=>
     rw[eA hb,if_pos (by have:=h1.2;rw[hb] at this;exact this)]
     have:=df (q:=isD) (s:=s) (i:=z+1+1)
     omega
  have hzl1:z<s.length:=(Up.1 h1.1).1
  have hwl:aN isD s (z+1)<=s.length:=bI (by omega)
  rw[qo h1] at hp ⊢
  simp only at hp ⊢
  obtain⟨c,hc,hcd⟩:=IY (q:=isD) (s:=s) (a:=z+1) (k:=aN isD s (z+1) - 1) (by omega) (by omega)
  have hl:=r6 (s:=s) (i:=i) (w:=aN isD s (z+1)) (by omega) hwl
  rw[hc] at hl
  rw[JA (by rw[hl];intro q;exact (th hcd).1 (Option.some.inj q))] at hp
  rw[decide_eq_true ((nk hp).1 (IS.2 ⟨z,by omega,by omega,h1.1⟩))]
  rfl
 ·by_cases h2:s[z]? = some 100
  ·have hzl1:z<s.length:=(Up.1 h2).1
   rw[lB h1 h2]
   simp only
   rw[r6 (by omega) (by omega),Nat.add_sub_cancel,h2]
   simp
  ·rw[ea h1 h2] at hp ⊢
   simp only at hp ⊢
   obtain⟨c,hc,hcd⟩:=hdig (z - 1) (by omega) (by omega)
   have hl:=r6 (s:=s) (i:=i) (w:=z) hiz hzl
   rw[hc] at hl
   have hne:((s.take z).drop i).getLast?≠some 100:=by rw[hl];intro q;exact (th hcd).1 (Option.some.inj q)
   rw[JA hne] at hp
   have hsc:¬ 0<sc:=fun q=>by
    obtain⟨k,k1,k2,k3⟩:=IS.1 ((nk hp).2 q)
    by_cases hka:a<=k
    ·obtain⟨b,hb,hbd⟩:=hdig k hka k2
     rw[k3] at hb
     exact (th hbd).2 (Option.some.inj hb).symm
    ·rcases ha with ha | ⟨ha,ha2⟩
     ·omega
     ·have:k=i:=by omega
      rw[this,ha2] at k3
      exact absurd (Option.some.inj k3) (by decide)
   rw[decide_eq_false hsc,decide_eq_false hne];rfl
theorem I9 {M:Mo}{i:Nat}(h:M.k≠110):lz M i=M:=if_neg (fun q=>h q.1)
theorem Kk {s:List UInt8}{i off bad:Nat}{c:UInt8}(hs:s.length<=65536)(hc:s[i]? = some c) :
  Sim (lz (gX (rJ { s:=s,nx:=i,p:=i,bad:=bad } i c) i) i) (de (eO ⟨s,i,{ pos:=i },0,off⟩ i c) i):=by
 have hi:i<s.length:=(Up.1 hc).1
 unfold rJ eO
 by_cases h1:c.toNat=34
 ·rw[if_pos h1,if_pos h1]
  exact up (k:=3) (km:=115) (b:=true) (M:={ s:=s,nx:=i,k:=115,p:=i,bad:=bad }) (R:=⟨s,i,{ pos:=i },0,off⟩) rfl rfl (.inl ⟨rfl,rfl⟩) (fun j=>kQ _ _ _ _)
 rw[if_neg h1,if_neg h1]
 by_cases h2:c.toNat=120/\s[i+1]? = some 34
 ·rw[if_pos h2,if_pos h2]
  exact up (k:=4) (km:=120) (b:=false) (M:={ s:=s,nx:=i,k:=120,p:=i,bad:=bad }) (R:=⟨s,i,{ pos:=i },0,off⟩) rfl rfl (.inr ⟨rfl,rfl⟩) (fun j=>lQ _ _ _ _)
 rw[if_neg h2,if_neg h2]
 by_cases h3:aM c=true
 ·rw[if_pos h3,if_pos h3]
  have hr:aN bA s i=aN bA s (i+1):=by rw[eA hc,if_pos (by unfold bA;rw[h3];rfl)]
  simp only
  rw[hr]
  refine⟨rfl,.inl ⟨rfl,rfl,rfl,rfl,.inr (.inl ⟨rfl,rfl,rfl,c,(s.drop (i+1)).take (aN bA s (i+1) - i - 1),?_,h3⟩)⟩⟩
  have hle:=df (q:=bA) (s:=s) (i:=i+1)
  show (s.take (aN bA s (i+1))).drop i=_
  rw[List.drop_take,aU hc,show aN bA s (i+1) - i=(aN bA s (i+1) - i - 1)+1 by omega,List.take_succ_cons]
  rfl
 rw[if_neg h3,if_neg h3]
 have err:Sim (lz (gX (cC { s:=s,nx:=i,p:=i,bad:=bad } 13 i,i+1) i) i) (de (aP ⟨s,i,{ pos:=i },0,off⟩ i 13) i):=by
  exact⟨rfl,.inr ⟨fun h=>absurd (show (13:Int)=0 from h) (by decide),rfl,rfl⟩⟩
 by_cases h4:isD c=true\/c.toNat=45
 ·rw[if_pos h4]
  by_cases h5:isD c=true\/(c.toNat=45/\(s[i+1]?.any isD)=true)
  ·rw[if_pos h5]
   obtain⟨a,ha⟩:∃ a,(if s[i]? = some 45 then i+1 else i)=a:=⟨_,rfl⟩
   have key:aN isD s a=aN isD s (i+1)/\a<aN isD s a/\(a=i\/(a=i+1/\s[i]? = some 45))/\a<=s.length:=by
    by_cases h45:s[i]? = some 45
    ·rw[if_pos h45] at ha
     subst ha
     refine⟨rfl,?_,.inr ⟨rfl,h45⟩,by omega⟩
     have hcc:c=45:=Option.some.inj (hc.symm.trans h45)
     subst hcc
     have h6:=(h5.resolve_left (by decide)).2
     cases hb:s[i+1]? with
     | none=>rw[hb] at h6;cases h6
     | some b=>
       rw[eA hb,if_pos (by rw[hb] at h6;exact h6)]
       have:=df (q:=isD) (s:=s) (i:=i+1+1)
       omega
    ·rw[if_neg h45] at ha
     subst ha
     have hD:isD c=true:=h5.resolve_right fun q=>h45 (by rw[hc,US.1 (show c.toNat=(45:UInt8).toNat from q.1)])
     have hr:aN isD s i=aN isD s (i+1):=by rw[eA hc,if_pos hD]
     refine⟨hr,?_,.inl rfl,by omega⟩
     rw[hr]
     have:=df (q:=isD) (s:=s) (i:=i+1)
     omega
   obtain⟨k1,k2,k3,k4⟩:=key
   have hdec:=fun (n:Int) (sc:Nat)=>MI (s:=s) (i:=i) (a:=a) k3 k2 k4 (n:=n) (sc:=sc)
   have hle:=sJ (s:=s) (z:=aN isD s a) (bI k4)
   rw[cH (R:=⟨s,i,{ pos:=i },0,off⟩) (z:=aN isD s a) ha rfl (Nat.ne_of_gt k2) rfl]
   simp only
   rw[<- k1]
   generalize mL s (aN isD s a)=w at *
   obtain⟨w1,w2,w3⟩:=w
   simp only at hdec hle ⊢
   have hx:(s.take w1).drop i≠[]:=by
    intro q
    have:=congrArg List.length q
    rw[UC,UM,Ux] at this
    omega
   generalize hP:aW (ct ((s.take w1).drop i))=P at *
   obtain⟨⟨n,sc⟩,e⟩:=P
   by_cases he:e=0
   ·subst he
    rw[cJ,show lz (gX (({ s:=s,nx:=i,k:=110,p:=i,bad:=bad }:Mo),w1) i) i = { s:=s,nx:=w1,k:=110,p:=i,x:=(s.take w1).drop i,bad:=bad } by
     unfold gX
     rw[if_pos rfl]
     unfold lz
     rw[if_pos ⟨rfl,rfl⟩]
     simp only
     rw[hP,if_pos rfl]]
    exact⟨rfl,.inl ⟨rfl,rfl,rfl,rfl,.inr (.inr (.inl ⟨rfl,rfl,hP,hdec n sc rfl,hx⟩))⟩⟩
   ·rw[cI he,show lz (gX (({ s:=s,nx:=i,k:=110,p:=i,bad:=bad }:Mo),w1) i) i=cC { s:=s,nx:=w1,k:=110,p:=i,x:=(s.take w1).drop i,bad:=bad } e i by
     unfold gX
     rw[if_pos rfl]
     unfold lz
     rw[if_pos ⟨rfl,rfl⟩]
     simp only
     rw[hP]
     simp only
     rw[if_neg he],Dw rfl,aP,if_pos rfl,mZ he]
    exact⟨rfl,.inr ⟨he,rfl,rfl⟩⟩
  ·have h45:c.toNat=45:=h4.resolve_left fun q=>h5 (.inl q)
   have hcc:c=45:=US.1 h45
   subst hcc
   rw[if_neg h5,if_neg (fun q=>absurd q.1 (by decide)),if_neg (by decide)]
   rw[ly (a:=i+1) (if_pos hc) (by
    have hn:¬ (s[i+1]?.any isD)=true:=fun q=>h5 (.inr ⟨rfl,q⟩)
    show aN isD s (i+1)=i+1
    cases hb:s[i+1]? with
    | none=>exact gM (Nat.le_of_not_lt fun h=>by rw[Uo h] at hb;cases hb)
    | some b=>rw[eA hb,if_neg (by rw[hb] at hn;exact hn)])]
   exact err
 rw[if_neg h4,if_neg (fun q=>h4 (q.elim .inl fun q=>.inr q.1))]
 by_cases h6:c.toNat=46/\s[i+1]? = some 46
 ·rw[if_pos h6,if_pos h6]
  refine⟨rfl,.inl ⟨rfl,rfl,rfl,rfl,.inr (.inr (.inr (.inr (.inr ⟨rfl,.inl ⟨rfl,?_⟩⟩))))⟩⟩
  show (s.take (i+2)).drop i=[46,46]
  rw[List.drop_take,aU hc,aU h6.2,show i+2 - i=2 by omega,US.1 (show c.toNat=(46:UInt8).toNat from h6.1)]
  rfl
 rw[if_neg h6,if_neg h6]
 by_cases h7:pi c=true
 ·rw[if_pos h7,if_pos h7]
  have hk:c.toNat≠110:=fun q=>by
   rw[US.1 (show c.toNat=(110:UInt8).toNat from q)] at h7
   exact absurd h7 (by decide)
  rw[show lz (gX (({ s:=s,nx:=i,k:=c.toNat,p:=i,bad:=bad }:Mo),i+1) i) i = { s:=s,nx:=i+1,k:=c.toNat,p:=i,x:=(s.take (i+1)).drop i,bad:=bad } by
   unfold gX
   rw[if_pos rfl,I9 hk]]
  refine⟨rfl,.inl ⟨rfl,rfl,rfl,rfl,.inr (.inr (.inr (.inr (.inr ⟨rfl,.inr ⟨c,h7,rfl,?_⟩⟩))))⟩⟩
  show (s.take (i+1)).drop i=[c]
  rw[List.drop_take,aU hc,show i+1 - i=1 by omega]
  rfl
 ·rw[if_neg h7,if_neg h7]
  exact err

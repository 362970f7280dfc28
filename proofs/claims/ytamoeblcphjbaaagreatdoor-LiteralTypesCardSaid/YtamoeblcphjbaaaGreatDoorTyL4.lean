/- A part. -/
import Derived.Test.YtamoeblcphjbaaaGreatDoorTyLQ6
set_option linter.unusedVariables false
set_option linter.unusedSimpArgs false
set_option maxHeartbeats 16000000
set_option maxRecDepth 100000
open List renaming length_take->Xd,getElem?_eq_getElem->WE,nil_append->WO,cons_append->WQ,take_length->WV,length_append->WF,append_nil->W7,mem_of_getElem?->WK,append_assoc->WS,map_cons->WP,map_nil->Xp
open Nat renaming pow_succ->XJ,div_lt_of_lt_mul->XW,mul_comm->XA
open UInt8 renaming ofNat->Xn
open Int renaming toNat_natCast->Xs
namespace Go.Proofs.YtamoeblcphjbaaaGreatDoor
open Go Go.Ab
attribute [local irreducible] vc
def hdQ (s:List UInt8):Nat×List UInt8->St
 | (i,[])=>⟨[(0,.pv (.str s)),(3,.ptr 0 0),(6,.pv (.int .i64 (s.length:Int))),(7,.pv (.int .i64 (i:Int)))],[(0,.cells 83 true [.pv .nilp,.pv .nils])],1⟩
 | (i,b::r)=>⟨[(0,.pv (.str s)),(3,.ptr 0 0),(6,.pv (.int .i64 (s.length:Int))),(7,.pv (.int .i64 (i:Int)))],[(0,.cells 83 true [.ptr 0 0,.row 1 1 0 (r.length+1)]),(1,.cells 5 false ((aD (b::r)).map .pv))],2⟩
def exQ:List UInt8->St
 | []=>⟨[(3,.ptr 0 0)],[(0,.cells 83 true [.pv .nilp,.pv .nils])],1⟩
 | b::r=>⟨[(3,.ptr 0 0)],[(0,.cells 83 true [.ptr 0 0,.row 1 1 0 (r.length+1)]),(1,.cells 5 false ((aD (b::r)).map .pv))],2⟩
theorem DQ {n:Nat}(h:n<16):(Gz.take (n+1)).drop n=[hxB n]:=by
 have h1:=Ep h
 have hl:n<(Gz.take (n+1)).length:=by rw[Xd];simp[Gz];omega
 rw[List.drop_eq_getElem_cons hl,List.drop_eq_nil_of_le (by rw[Xd];omega)]
 have:(Gz.take (n+1))[n]? = some (hxB n):=by rw[List.getElem?_take,if_pos (by omega)];exact h1
 rw[WE hl] at this
 rw[Option.some.inj this]
theorem Ik (s:List UInt8)(hs:s.length<=100000):am Tryz.prog aC 22 [.str s] (.str (ox s)):=by
 refine am.intro Q22.2 (by simp[Q22]) ?_
 simp(disch:=try exact dI) only[Q22,push_cast,seval]
 refine GH (hdQ s) (fun y=>y.1<=s.length/\y.2=(s.take y.1).flatMap hx2) (fun y=>s.length - y.1) (0,[]) [3] exQ (fun y=>y=s.flatMap hx2) ?_ ?_ ?_ ?_
 ·exact bl (by simp(disch:=try exact dI) only[hdQ,push_cast,seval])
 ·exact⟨by simp,by simp⟩
 ·rintro⟨i,M⟩ ⟨hi,hM⟩
  simp only at hi hM
  have hl:M.length<=200000:=by
   rw[hM,gD,Xd];omega
  by_cases hlt:i<s.length
  ·obtain⟨c,hc⟩:∃ c,s[i]? = some c:=⟨_,WE hlt⟩
   have hltI:(i:Int)<(s.length:Int):=by omega
   have hB:=jr hc hx2
   rw[<- hM] at hB
   obtain⟨q,hqN⟩:∃ q,q=c.toNat / 16:=⟨_,rfl⟩
   obtain⟨m,hmN⟩:∃ m,m=c.toNat % 16:=⟨_,rfl⟩
   have hcl:=c.toNat_lt
   have hq16:q<16:=by omega
   have hm16:m<16:=by omega
   have hq:((c.toNat:Int) / 16)=(q:Int):=by omega
   have hm:((c.toNat:Int) % 16)=(m:Int):=by omega
   have hxq:=DQ hq16
   have hxm:=DQ hm16
   simp only[Gz,List.take_succ_cons] at hxq hxm
   unfold hx2 at hB
   rw[<- hqN,<- hmN] at hB
   cases M with
   | nil=>
     have k1:=qC false [] ([hxB q]++[hxB m]) (by simp) (by simp)
     simp only[bB,aB,WO,WQ] at k1
     rw[WO] at hB
     simp(disch:=try exact dI) only[hdQ,hltI,hc,hq,hm,hxq,hxm,WQ,WO,push_cast,seval]
     refine ae.lentK k1 [0] rfl qsZ qsZ ?_
     refine zgZ ?_
     exact⟨(i+1,[hxB q,hxB m]),bl (by simp(disch:=try exact dI) only[hdQ,push_cast,seval]),⟨by simp only;omega,hB.symm⟩,by simp only;omega⟩
   | cons b r=>
     have k1:=qC true (b::r) ([hxB q]++[hxB m]) (by simp at hl ⊢;omega) (by simp)
     rw[show (b::r)++([hxB q]++[hxB m])=b::(r++[hxB q,hxB m]) by simp] at k1
     simp only[bB,aB,WO,WQ] at k1
     rw[WQ] at hB
     simp(disch:=try exact dI) only[hdQ,hltI,hc,hq,hm,hxq,hxm,WQ,WO,push_cast,seval]
     refine ae.lentK k1 [0,1] rfl qsZ qsZ ?_
     refine zgZ ?_
     exact⟨(i+1,b::(r++[hxB q,hxB m])),bl (by simp(disch:=try exact dI) only[hdQ,push_cast,seval]),⟨by simp only;omega,hB.symm⟩,by simp only;omega⟩
  ·have hltI:¬ (i:Int)<(s.length:Int):=by omega
   obtain rfl:i=s.length:=by omega
   rw[WV] at hM
   cases M with
   | nil=>
     simp(disch:=try exact dI) only[hdQ,hltI,push_cast,seval]
     exact⟨[],bl (by simp(disch:=try exact dI) only[exQ,push_cast,seval]),hM⟩
   | cons b r=>
     simp(disch:=try exact dI) only[hdQ,hltI,push_cast,seval]
     exact⟨b::r,bl (by simp(disch:=try exact dI) only[exQ,push_cast,seval]),hM⟩
 ·rintro y hy
  have hl:y.length<=200000:=by rw[hy,gD];omega
  have hh:ox s=120::34::(y++[34]):=by rw[hy];rfl
  rw[hh]
  cases y with
  | nil=>
    have k:=lN false [] (by simp)
    simp only[bB,aB] at k
    simp(disch:=try exact dI) only[exQ,push_cast,seval]
    refine ae.lentK k [0] rfl qsZ qsZ ?_
    exact qsZ
  | cons b r=>
    have k:=lN true (b::r) (by omega)
    rw[kq] at k
    have hl2:r.length<=200000:=by simp at hl;omega
    simp(disch:=try exact dI) only[exQ,push_cast,seval]
    refine ae.lentK k [0,1] rfl qsZ qsZ ?_
    exact qsZ
theorem sr (f g n:Nat)(hf:0<f)(hg:0<g)(h1:n<10 ^ f)(h2:n<10 ^ g):bI f n=bI g n:=by
 rw[gG f n h1 hf,gG g n h2 hg]
theorem m6:∀ (f n:Nat),0<f->n<10 ^ f->(bI f n).length<=f
 | 0,_,h,_=>absurd h (by omega)
 | f+1,n,_,hn=>by
   rw[bI]
   by_cases h:n<10
   ·rw[if_pos h];simp
   ·rw[if_neg h,WF]
    have hf':n / 10<10 ^ f:=by rw[XJ] at hn;exact XW (by rw[XA];exact hn)
    have f0:0<f:=by cases f with
     | zero=>simp at hf';omega
     | succ f=>omega
    have:=m6 f (n / 10) f0 hf'
    simp;omega
theorem jZ:∀ (f n:Nat),0<f->f<=18->n<10 ^ f->am Tryz.prog aC 41 [.int .i64 (n:Int)] (.str (bI f n))
 | 0,_,h,_,_=>absurd h (by omega)
 | f+1,n,_,hf,hn=>by
   have hp:10 ^ (f+1)<=10 ^ 18:=Nat.pow_le_pow_right (by omega) hf
   have h0:¬ (n:Int)<0:=by omega
   refine am.intro Q41.2 (by simp[Q41]) ?_
   by_cases h:n<10
   ·have hI:(n:Int)<10:=by omega
    rw[bI,if_pos h]
    have e:Xn (48+(n:Int)).toNat=Xn (48+n):=by congr 1
    simp(disch:=try exact dI) only[Q41,h0,hI,e,push_cast,seval]
   ·have hI:¬ (n:Int)<10:=by omega
    have hf':n / 10<10 ^ f:=by rw[XJ] at hn;exact XW (by rw[XA];exact hn)
    have f0:0<f:=by cases f with
     | zero=>simp at hf';omega
     | succ f=>omega
    have ih:=jZ f (n / 10) f0 (by omega) hf'
    rw[bI,if_neg h]
    have hd:((n:Int) / 10)=((n / 10:Nat):Int):=by omega
    obtain⟨q,hq⟩:∃ q,q=n / 10:=⟨_,rfl⟩
    obtain⟨m,hm⟩:∃ m,m=n % 10:=⟨_,rfl⟩
    have hqI:((n:Int) / 10)=(q:Int):=by omega
    have hmI:((n:Int) % 10)=(m:Int):=by omega
    have e:Xn (48+(m:Int)).toNat=Xn (48+m):=by congr 1
    have hdl:=m6 f (n / 10) f0 hf'
    rw[<- hq] at ih hdl ⊢
    rw[<- hm]
    generalize bI f q=D at *
    clear hd
    simp(disch:=try exact dI) only[Q41,h0,hI,hqI,push_cast,seval]
    refine ag ih rfl ?_
    simp(disch:=try exact dI) only[hqI,hmI,e,push_cast,seval]
theorem je (n:Int)(h0:-999999999999999<=n)(h1:n<=999999999999999):am Tryz.prog aC 41 [.int .i64 n] (.str (aN n)):=by
 by_cases h:n<0
 ·obtain⟨m,hm⟩:∃ m:Nat,n = -(m:Int):=⟨n.natAbs,by omega⟩
  subst hm
  have ih:=jZ 18 m (by omega) (by omega) (by omega)
  have e:aN (-(m:Int))=[45]++bI 18 m:=by
   rw[aN,if_pos h,show (-(m:Int)).natAbs=m by omega,sr 20 18 m (by omega) (by omega) (by omega) (by omega)];rfl
  have hdl:=m6 18 m (by omega) (by omega)
  rw[e]
  generalize bI 18 m=D at *
  have hneg:(0:Int) - -(m:Int)=(m:Int):=by omega
  refine am.intro Q41.2 (by simp[Q41]) ?_
  simp(disch:=try exact dI) only[Q41,h,hneg,push_cast,seval]
  refine ae.pure ih rfl ?_
  exact qsZ
 ·obtain⟨m,hm⟩:∃ m:Nat,n=(m:Int):=⟨n.toNat,by omega⟩
  subst hm
  have ih:=jZ 18 m (by omega) (by omega) (by omega)
  rw[aN,if_neg h,Xs,sr 20 18 m (by omega) (by omega) (by omega) (by omega)]
  exact ih
end Go.Proofs.YtamoeblcphjbaaaGreatDoor
namespace Go.Ab
open Go
theorem Bp (n:Int)(h0:0<=n):∀ k:Nat,n<fe ((k:Int)+1)->∃ y:Int,1<=y/\y<=k/\fe y<=n/\n<fe (y+1)
 | 0,h=>absurd h (by rw[show fe (((0:Nat):Int)+1)=0 from rfl];omega)
 | k+1,h=>by
   by_cases hk:fe ((k:Int)+1)<=n
   ·exact⟨(k:Int)+1,by omega,by omega,hk,by simpa using h⟩
   ·obtain⟨y,a,b,c,d⟩:=Bp n h0 k (by omega)
    exact⟨y,a,by omega,c,d⟩
theorem wK (y r:Int)(h0:0<=r):∀ k:Nat,r<eJ y k->∃ m:Nat,1<=m/\m<=k/\eJ y (m - 1)<=r/\r<eJ y m
 | 0,h=>absurd h (by rw[show eJ y 0=0 from rfl];omega)
 | k+1,h=>by
   by_cases hk:eJ y k<=r
   ·exact⟨k+1,by omega,by omega,hk,h⟩
   ·obtain⟨m,a,b,c,d⟩:=wK y r h0 k (by omega)
    exact⟨m,a,by omega,c,d⟩
theorem LM {n:Int}(h0:0<=n)(h1:n<=3652058):∃ y m d,DateOk y m d/\n=kh y m d:=by
 have hb:fe (((9999:Nat):Int)+1)=3652059:=by decide
 obtain⟨y,y1,y2,b1,b2⟩:=Bp n h0 9999 (by rw[hb];omega)
 have hs:=qn y
 have h12:=KV y
 obtain⟨m,m1,m2,c1,c2⟩:=wK y (n - fe y) (by omega) 12 (by omega)
 have hm:eJ y m=eJ y (m - 1)+mdI y m:=by
  obtain⟨k,rfl⟩:∃ k,m=k+1:=⟨m - 1,by omega⟩
  simp[eJ]
 exact⟨y,m,n - fe y - eJ y (m - 1)+1,⟨y1,by simpa using y2,m1,m2,by omega,by omega⟩,by unfold kh;omega⟩
end Go.Ab
namespace Go.Proofs.YtamoeblcphjbaaaGreatDoor
open Go Go.Ab
def ep (s:List UInt8):Prop:=s.flatMap dz=s
theorem bK {a b:List UInt8}(ha:ep a)(hb:ep b):ep (a++b):=by
 unfold ep at *;rw[List.flatMap_append,ha,hb]
theorem cN:∀ (k n:Nat),ep (bn k n)
 | 0,_=>rfl
 | k+1,n=>by
   rw[bn]
   refine bK (cN k _) ?_
   unfold ep
   have hc:(Xn (48+n % 10)).toNat=48+n % 10:=by
    rw[UInt8.toNat_ofNat'];omega
   simp only[List.flatMap_cons,List.flatMap_nil,W7]
   exact JR (by omega) (by omega)
theorem mo (y:Int)(m:Nat)(d:Int):ep (de y m d):=by
 unfold de
 exact bK (bK (bK (bK (cN _ _) rfl) (cN _ _)) rfl) (cN _ _)
theorem r5 (y:Int)(m:Nat)(d:Int):(de y m d).length=10:=by
 simp[de,bj]
theorem tV {t:List UInt8}(ht:ep t)(h mi s ms:Nat):ep (g7 t h mi s ms):=by
 unfold g7
 refine bK (bK (bK ht ?_) ?_) rfl
 ·exact bK (bK (bK (bK (bK rfl (cN _ _)) rfl) (cN _ _)) rfl) (cN _ _)
 ·split
  ·rfl
  ·exact bK rfl (cN _ _)
theorem DX (t:List UInt8)(h mi s ms:Nat):(g7 t h mi s ms).length<=t.length+14:=by
 unfold g7
 split<;>simp[bj]<;>omega
theorem lx {n:Int}(h0:-719162<=n)(h1:n<=2932896):∃ s,(am Tryz.prog aC 43 [.int .i64 n] (.tup [.str s,.int .i64 0])/\ep s/\s.length<=10)/\∃ y m d,DateOk y m d/\n=kh y m d - 719162/\s=de y m d:=by
 obtain⟨y,m,d,hd,he⟩:=LM (n:=n+719162) (by omega) (by omega)
 refine⟨de y m d,⟨?_,mo _ _ _,by rw[r5];omega⟩,y,m,d,hd,by omega,rfl⟩
 have:=KS hd
 rw[<- he,show n+719162 - 719162=n by omega] at this
 exact this
theorem iT {n:Int}(h0:-62135596800000<=n)(h1:n<=253402300799999):∃ s,(am Tryz.prog aC 44 [.int .i64 n] (.tup [.str s,.int .i64 0])/\ep s/\s.length<=24) /\
  ∃ y m d,∃ h mi sc ms:Nat,DateOk y m d/\h<=23/\mi<=59/\sc<=59/\ms<=999/\n=(kh y m d - 719162)*86400000+(((60*(h:Int)+mi)*60+sc)*1000+ms)/\s=g7 (de y m d) h mi sc ms:=by
 obtain⟨D,hD⟩:∃ D,D=n / 86400000:=⟨_,rfl⟩
 obtain⟨r,hr⟩:∃ r:Nat,(r:Int)=n % 86400000:=⟨(n % 86400000).toNat,by omega⟩
 obtain⟨y,m,d,hd,he⟩:=LM (n:=D+719162) (by omega) (by omega)
 have hr1:r<86400000:=by omega
 have hn:n=(kh y m d - 719162)*86400000+((((60*((r / 3600000:Nat):Int)+((r / 60000 % 60:Nat):Int))*60+((r / 1000 % 60:Nat):Int))*1000+((r % 1000:Nat):Int))):=by
  rw[<- he];omega
 refine⟨g7 (de y m d) (r / 3600000) (r / 60000 % 60) (r / 1000 % 60) (r % 1000),⟨?_,tV (mo _ _ _) _ _ _ _,?_⟩,y,m,d,r / 3600000,r / 60000 % 60,r / 1000 % 60,r % 1000,hd,by omega,by omega,by omega,by omega,hn,rfl⟩
 ·have:=yD hd (h:=r / 3600000) (mi:=r / 60000 % 60) (s:=r / 1000 % 60) (ms:=r % 1000) (by omega) (by omega) (by omega) (by omega)
  rw[<- hn] at this
  exact this
 ·have:=DX (de y m d) (r / 3600000) (r / 60000 % 60) (r / 1000 % 60) (r % 1000)
  rw[r5] at this
  exact this
attribute [local irreducible] vc
noncomputable def gV (n:Int):List UInt8:=if h:-719162<=n/\n<=2932896 then (lx h.1 h.2).choose else []
theorem iH {n:Int}(h:-719162<=n/\n<=2932896):am Tryz.prog aC 43 [.int .i64 n] (.tup [.str (gV n),.int .i64 0])/\ep (gV n)/\(gV n).length<=10:=by
 rw[gV,dif_pos h];exact (lx h.1 h.2).choose_spec.1
noncomputable def ct (n:Int):List UInt8:=if h:-62135596800000<=n/\n<=253402300799999 then (iT h.1 h.2).choose else []
theorem fl {n:Int}(h:-62135596800000<=n/\n<=253402300799999):am Tryz.prog aC 44 [.int .i64 n] (.tup [.str (ct n),.int .i64 0])/\ep (ct n)/\(ct n).length<=24:=by
 rw[ct,dif_pos h];exact (iT h.1 h.2).choose_spec.1
theorem di {s:List UInt8}(h:ep s):aA s=34::(s++[34]):=by unfold aA;rw[h]
noncomputable def aF:Nat->Val->List UInt8
 | 0,_=>[]
 | f+1,.mk k n s t l fs=>
   if k=0 then [110,117,108,108] else if k=1 then (if n=1 then [116,114,117,101] else [102,97,108,115,101]) else if k=2 then aN n
   else if k=3 then cl n s.toNat++(if s=0 then [100] else []) else if k=4 then aA t else if k=5 then ox t
   else if k=6 then [100,97,116,101,32]++aA (gV n) else if k=7 then [116,105,109,101,32]++aA (ct n)
   else if k=8 then [91]++aM [44,32] (l.map (aF f))++[93]
   else if k=9 then [123]++aM [44,32] (fs.map fun x=>x.name++[58,32]++aF f x.value)++[125]
   else t++[40]++aF f (l.headD (.mk 0 0 0 [] [] []))++[41]
theorem wE {n:Int}{sc:Nat}(h:IsN n sc):am Tryz.prog aC 67 [.int .i64 n,.int .i64 (sc:Int)] (.str (cl n sc)):=by
 have h1:=qE h
 refine am.intro Q67.2 (by simp[Q67]) ?_
 simp(disch:=try exact dI) only[Q67,push_cast,seval]
 refine ae.pure h1 rfl ?_
 exact qsZ
section
variable (f:Nat)(n s:Int)(t:List UInt8)(l:List Val)(fs:List Fld)
theorem G8 (h:-999999999999999<=n/\n<=999999999999999):am Tryz.prog aC 37 [(Val.mk 2 n s t l fs).pv] (.str (aF (f+1) (.mk 2 n s t l fs))):=by
 rw[show aF (f+1) (.mk 2 n s t l fs)=aN n from rfl]
 have hi:=eF n (by omega) (by omega)
 refine am.intro Q37.2 (by simp[Q37]) ?_
 simp(disch:=try exact dI) only[Q37,WD,push_cast,seval]
 refine ae.pure hi rfl ?_
 exact qsZ
theorem G6 (h:t.length<=1024):am Tryz.prog aC 37 [(Val.mk 4 n s t l fs).pv] (.str (aF (f+1) (.mk 4 n s t l fs))):=by
 rw[show aF (f+1) (.mk 4 n s t l fs)=aA t from rfl]
 have hi:=mj t (by omega)
 refine am.intro Q37.2 (by simp[Q37]) ?_
 simp(disch:=try exact dI) only[Q37,WD,push_cast,seval]
 refine ae.pure hi rfl ?_
 exact qsZ
theorem G5 (h:t.length<=1024):am Tryz.prog aC 37 [(Val.mk 5 n s t l fs).pv] (.str (aF (f+1) (.mk 5 n s t l fs))):=by
 rw[show aF (f+1) (.mk 5 n s t l fs)=ox t from rfl]
 have hi:=Ik t (by omega)
 refine am.intro Q37.2 (by simp[Q37]) ?_
 simp(disch:=try exact dI) only[Q37,WD,push_cast,seval]
 refine ae.pure hi rfl ?_
 exact qsZ
theorem bf (x:List UInt8):(aA x).length<=6*x.length+2:=by
 have:=js x
 rw[aA,List.length_cons,WF,List.length_singleton];omega
theorem G4 (h:-719162<=n/\n<=2932896):am Tryz.prog aC 37 [(Val.mk 6 n s t l fs).pv] (.str (aF (f+1) (.mk 6 n s t l fs))):=by
 rw[show aF (f+1) (.mk 6 n s t l fs)=[100,97,116,101,32]++aA (gV n) from rfl]
 obtain⟨h1,h2,h3⟩:=iH h
 have hi:=mj (gV n) (by omega)
 have hq:=bf (gV n)
 generalize aA (gV n)=Q at *
 refine am.intro Q37.2 (by simp[Q37]) ?_
 simp(disch:=try exact dI) only[Q37,WD,push_cast,seval]
 refine ae.pure h1 rfl ?_
 refine zgZ ?_
 refine ae.pure hi rfl ?_
 exact qsZ
theorem G3 (h:-62135596800000<=n/\n<=253402300799999):am Tryz.prog aC 37 [(Val.mk 7 n s t l fs).pv] (.str (aF (f+1) (.mk 7 n s t l fs))):=by
 rw[show aF (f+1) (.mk 7 n s t l fs)=[116,105,109,101,32]++aA (ct n) from rfl]
 obtain⟨h1,h2,h3⟩:=fl h
 have hi:=mj (ct n) (by omega)
 have hq:=bf (ct n)
 generalize aA (ct n)=Q at *
 refine am.intro Q37.2 (by simp[Q37]) ?_
 simp(disch:=try exact dI) only[Q37,WD,push_cast,seval]
 refine ae.pure h1 rfl ?_
 refine zgZ ?_
 refine ae.pure hi rfl ?_
 exact qsZ
end
def vh (b:Bool):List UInt8:=if b=true then [116,114,117,101] else [102,97,108,115,101]
theorem JK (b:Bool):am Tryz.prog aC 146 [.bool b] (.str (vh b)):=by
 refine am.intro TA.2 (by simp[TA]) ?_
 cases b with
 | true=>simp(disch:=try exact dI) only[TA,vh,push_cast,seval]
 | false=>simp(disch:=try exact dI) only[TA,vh,push_cast,seval]
theorem EY (b:Bool):am Tryz.prog aC 65 [.bool b] (.str (vh b)):=by
 have h:=JK b
 generalize vh b=Q at *
 refine am.intro Q65.2 (by simp[Q65]) ?_
 simp(disch:=try exact dI) only[Q65,push_cast,seval]
 refine ae.pure h rfl ?_
 exact qsZ
section
variable (f:Nat)(n s:Int)(t:List UInt8)(l:List Val)(fs:List Fld)
theorem G9:am Tryz.prog aC 37 [(Val.mk 1 n s t l fs).pv] (.str (aF (f+1) (.mk 1 n s t l fs))):=by
 rw[show aF (f+1) (.mk 1 n s t l fs)=(if n=1 then [116,114,117,101] else [102,97,108,115,101]) from rfl]
 by_cases h:n=1
 ·rw[if_pos h]
  have hb:=EY true
  rw[show vh true=[116,114,117,101] from rfl] at hb
  refine am.intro Q37.2 (by simp[Q37]) ?_
  simp(disch:=try exact dI) only[Q37,WD,h,push_cast,seval]
  refine ae.pure hb rfl ?_
  exact qsZ
 ·rw[if_neg h]
  have hb:=EY false
  rw[show vh false=[102,97,108,115,101] from rfl] at hb
  refine am.intro Q37.2 (by simp[Q37]) ?_
  simp(disch:=try exact dI) only[Q37,WD,h,push_cast,seval]
  refine ae.pure hb rfl ?_
  exact qsZ
theorem cw {n:Int}{sc:Nat}(h:IsN n sc):(cl n sc).length<=1000:=by
 obtain⟨h1,h2,h3⟩:=h
 have hd:=(fH (a:=n.natAbs) (by omega)).2.1
 unfold cl
 rw[WF,WF,bj]
 split<;>split<;>simp[bj]<;>omega
theorem G7 (h:IsN n s.toNat)(hs:0<=s):am Tryz.prog aC 37 [(Val.mk 3 n s t l fs).pv] (.str (aF (f+1) (.mk 3 n s t l fs))):=by
 rw[show aF (f+1) (.mk 3 n s t l fs)=cl n s.toNat++(if s=0 then [100] else []) from rfl]
 obtain⟨m,hm⟩:∃ m:Nat,s=(m:Int):=⟨s.toNat,by omega⟩
 subst hm
 rw[Xs] at h ⊢
 have h1:=wE h
 have hl:=cw h
 generalize cl n m=D at *
 by_cases h0:m=0
 ·subst h0
  rw[if_pos (show ((0:Nat):Int)=0 from rfl)]
  refine am.intro Q37.2 (by simp[Q37]) ?_
  simp(disch:=try exact dI) only[Q37,WD,push_cast,seval]
  refine ae.pure h1 rfl ?_
  exact qsZ
 ·have h0I:¬ (m:Int)=0:=by omega
  rw[if_neg h0I,W7]
  refine am.intro Q37.2 (by simp[Q37]) ?_
  simp(disch:=try exact dI) only[Q37,WD,h0I,push_cast,seval]
  refine ae.pure h1 rfl ?_
  simp(disch:=try exact dI) only[h0I,push_cast,seval]
end
theorem Lr (L:List (List UInt8))(hN:L.length<=1000000)(hl:(aM [44,32] L).length<=100000000):am Tryz.prog aC 68 [.list (L.map .str)] (.str (aM [44,32] L)):=by
 have h:=pJ L [44,32] (by omega) (by omega)
 generalize aM [44,32] L=Q at *
 refine am.intro Q68.2 (by simp[Q68]) ?_
 simp(disch:=try exact dI) only[Q68,push_cast,seval]
 refine ae.pure h rfl ?_
 exact qsZ
section
variable (f:Nat)(n s:Int)(t:List UInt8)(l:List Val)(fs:List Fld)
theorem G2 (ih:∀ x∈l,am Tryz.prog aC 37 [x.pv] (.str (aF f x)))(hN:l.length<=256)(hj:(aM [44,32] (l.map (aF f))).length<=100000000) :
  am Tryz.prog aC 37 [(Val.mk 8 n s t l fs).pv] (.str (aF (f+1) (.mk 8 n s t l fs))):=by
 rw[show aF (f+1) (.mk 8 n s t l fs)=[91]++aM [44,32] (l.map (aF f))++[93] from rfl]
 have hjn:=Lr (l.map (aF f)) (by simp;omega) hj
 refine am.intro Q37.2 (by simp[Q37]) ?_
 simp(disch:=try exact dI) only[Q37,WD,push_cast,seval]
 refine aG ([(3,0,9,1)]) (fun i:Nat=>[(3,.olist 0 1 (((l.take i).map (aF f)).map PV.str)),(78,.pv (.int .i64 (i:Int)))]) (fun _=>[]) (fun i=>i<=l.length) (fun i=>l.length - i) (0) ?_;intro e0 σ0 n0 h0;simp(disch:=try exact dI) only[push_cast,seval] at h0;obtain⟨rfl,rfl,rfl⟩:=h0;refine⟨?_,?_,?_⟩
 ·exact qsZ
 ·omega
 ·rintro i hi
  by_cases hlt:i<l.length
  ·have hltI:(i:Int)<(l.length:Int):=by omega
   obtain⟨x,hx⟩:∃ x,l[i]? = some x:=⟨_,WE hlt⟩
   have hx':(l.map Val.pv)[i]? = some x.pv:=by simp[hx]
   have hc:=ih x (WK hx)
   have hts:=aK hx
   have hQ:(((l.take (i+1)).map (aF f)).map PV.str)=((l.take i).map (aF f)).map PV.str++[.str (aF f x)]:=by rw[hts];simp
   have hl:(((l.take i).map (aF f)).map PV.str).length<=256:=by simp;omega
   generalize ((l.take i).map (aF f)).map PV.str=Q at *
   generalize aF f x=X at *
   obtain⟨xk,xn,xs,xt,xl,xf⟩:=x
   simp only[WD] at hx' hc
   simp(disch:=try exact dI) only[hltI,hx',push_cast,seval]
   refine ae.pure hc rfl ?_
   refine zgZ ?_
   exact⟨i+1,bl (by simp(disch:=try exact dI) only[hQ,push_cast,seval]),by omega,by omega⟩
  ·have hltI:¬ (i:Int)<(l.length:Int):=by omega
   obtain rfl:i=l.length:=by omega
   rw[WV]
   generalize aM [44,32] (l.map (aF f))=J at *
   simp(disch:=try exact dI) only[hltI,push_cast,seval]
   refine ae.pure hjn rfl ?_
   exact qsZ
noncomputable def iE (f:Nat)(x:Fld):List UInt8:=x.name++[58,32]++aF f x.value
theorem G1 (ih:∀ x∈fs,am Tryz.prog aC 37 [x.value.pv] (.str (aF f x.value)))(hN:fs.length<=64)(hb:∀ x∈fs,x.name.length<=1024/\(aF f x.value).length<=100000000)(hj:(aM [44,32] (fs.map (iE f))).length<=100000000) :
  am Tryz.prog aC 37 [(Val.mk 9 n s t l fs).pv] (.str (aF (f+1) (.mk 9 n s t l fs))):=by
 rw[show aF (f+1) (.mk 9 n s t l fs)=[123]++aM [44,32] (fs.map (iE f))++[125] from rfl]
 have hjn:=Lr (fs.map (iE f)) (by simp;omega) hj
 refine am.intro Q37.2 (by simp[Q37]) ?_
 simp(disch:=try exact dI) only[Q37,WD,push_cast,seval]
 refine aG ([(3,0,9,1)]) (fun i:Nat=>[(3,.olist 0 1 (((fs.take i).map (iE f)).map PV.str)),(97,.pv (.int .i64 (i:Int)))]) (fun _=>[]) (fun i=>i<=fs.length) (fun i=>fs.length - i) (0) ?_;intro e0 σ0 n0 h0;simp(disch:=try exact dI) only[push_cast,seval] at h0;obtain⟨rfl,rfl,rfl⟩:=h0;refine⟨?_,?_,?_⟩
 ·exact qsZ
 ·omega
 ·rintro i hi
  by_cases hlt:i<fs.length
  ·have hltI:(i:Int)<(fs.length:Int):=by omega
   obtain⟨x,hx⟩:∃ x,fs[i]? = some x:=⟨_,WE hlt⟩
   have hx':(fs.map Fld.pv)[i]? = some x.pv:=by simp[hx]
   have hc:=ih x (WK hx)
   obtain⟨b1,b2⟩:=hb x (WK hx)
   have hts:=aK hx
   have hQ:(((fs.take (i+1)).map (iE f)).map PV.str)=((fs.take i).map (iE f)).map PV.str++[.str (x.name++[58,32]++aF f x.value)]:=by rw[hts];simp[iE]
   have hl:(((fs.take i).map (iE f)).map PV.str).length<=64:=by simp;omega
   generalize ((fs.take i).map (iE f)).map PV.str=Q at *
   obtain⟨nm,x⟩:=x
   simp only[Fld.value,Fld.name] at hc b1 b2 hQ
   generalize aF f x=X at *
   obtain⟨xk,xn,xs,xt,xl,xf⟩:=x
   simp only[Wq,WD] at hx' hc
   simp(disch:=try exact dI) only[hltI,hx',push_cast,seval]
   refine ag hc rfl ?_
   refine zgZ ?_
   exact⟨i+1,bl (by simp(disch:=try exact dI) only[hQ,WS,push_cast,seval]),by omega,by omega⟩
  ·have hltI:¬ (i:Int)<(fs.length:Int):=by omega
   obtain rfl:i=fs.length:=by omega
   rw[WV]
   generalize aM [44,32] (fs.map (iE f))=J at *
   simp(disch:=try exact dI) only[hltI,push_cast,seval]
   refine ae.pure hjn rfl ?_
   exact qsZ
theorem BT (x:Val)(ih:am Tryz.prog aC 37 [x.pv] (.str (aF f x)))(h1:t.length<=1024)(h2:(aF f x).length<=100000000) :
  am Tryz.prog aC 37 [(Val.mk 10 n s t [x] fs).pv] (.str (aF (f+1) (.mk 10 n s t [x] fs))):=by
 rw[show aF (f+1) (.mk 10 n s t [x] fs)=t++[40]++aF f x++[41] from rfl]
 generalize aF f x=X at *
 obtain⟨xk,xn,xs,xt,xl,xf⟩:=x
 simp only[WD] at ih
 refine am.intro Q37.2 (by simp[Q37]) ?_
 simp(disch:=try exact dI) only[Q37,WD,WP,Xp,aJ,push_cast,seval]
 refine ag ih rfl ?_
 simp(disch:=try exact dI) only[WS,push_cast,seval]
end
section
variable (f:Nat)(n s:Int)(t:List UInt8)(l:List Val)(fs:List Fld)
theorem Hj:am Tryz.prog aC 17 [(Val.mk 1 n s t l fs).pv] (.str (aF (f+1) (.mk 1 n s t l fs))):=by
 rw[show aF (f+1) (.mk 1 n s t l fs)=(if n=1 then [116,114,117,101] else [102,97,108,115,101]) from rfl]
 refine am.intro Q17.2 (by simp[Q17]) ?_
 by_cases h:n=1
 ·rw[if_pos h]
  simp(disch:=try exact dI) only[Q17,WD,h,push_cast,seval]
 ·rw[if_neg h]
  simp(disch:=try exact dI) only[Q17,WD,h,push_cast,seval]
theorem Hi (h:-999999999999999<=n/\n<=999999999999999):am Tryz.prog aC 17 [(Val.mk 2 n s t l fs).pv] (.str (aF (f+1) (.mk 2 n s t l fs))):=by
 rw[show aF (f+1) (.mk 2 n s t l fs)=aN n from rfl]
 have hi:=je n h.1 h.2
 refine am.intro Q17.2 (by simp[Q17]) ?_
 simp(disch:=try exact dI) only[Q17,WD,push_cast,seval]
 refine ae.pure hi rfl ?_
 exact qsZ
theorem Hh (h:IsN n s.toNat)(hs:0<=s):am Tryz.prog aC 17 [(Val.mk 3 n s t l fs).pv] (.str (aF (f+1) (.mk 3 n s t l fs))):=by
 rw[show aF (f+1) (.mk 3 n s t l fs)=cl n s.toNat++(if s=0 then [100] else []) from rfl]
 obtain⟨m,hm⟩:∃ m:Nat,s=(m:Int):=⟨s.toNat,by omega⟩
 subst hm
 rw[Xs] at h ⊢
 have h1:=qE h
 have hl:=cw h
 generalize cl n m=D at *
 by_cases h0:m=0
 ·subst h0
  rw[if_pos (show ((0:Nat):Int)=0 from rfl)]
  refine am.intro Q17.2 (by simp[Q17]) ?_
  simp(disch:=try exact dI) only[Q17,WD,push_cast,seval]
  refine ae.pure h1 rfl ?_
  exact qsZ
 ·have h0I:¬ (m:Int)=0:=by omega
  rw[if_neg h0I,W7]
  refine am.intro Q17.2 (by simp[Q17]) ?_
  simp(disch:=try exact dI) only[Q17,WD,h0I,push_cast,seval]
  refine ae.pure h1 rfl ?_
  simp(disch:=try exact dI) only[h0I,push_cast,seval]
theorem Hg (h:t.length<=1024):am Tryz.prog aC 17 [(Val.mk 4 n s t l fs).pv] (.str (aF (f+1) (.mk 4 n s t l fs))):=by
 rw[show aF (f+1) (.mk 4 n s t l fs)=aA t from rfl]
 have hi:=wn t (by omega)
 refine am.intro Q17.2 (by simp[Q17]) ?_
 simp(disch:=try exact dI) only[Q17,WD,push_cast,seval]
 refine ae.pure hi rfl ?_
 exact qsZ
theorem Hf (h:t.length<=1024):am Tryz.prog aC 17 [(Val.mk 5 n s t l fs).pv] (.str (aF (f+1) (.mk 5 n s t l fs))):=by
 rw[show aF (f+1) (.mk 5 n s t l fs)=ox t from rfl]
 have hi:=Oj t (by omega)
 refine am.intro Q17.2 (by simp[Q17]) ?_
 simp(disch:=try exact dI) only[Q17,WD,push_cast,seval]
 refine ae.pure hi rfl ?_
 exact qsZ
theorem He (h:-719162<=n/\n<=2932896):am Tryz.prog aC 17 [(Val.mk 6 n s t l fs).pv] (.str (aF (f+1) (.mk 6 n s t l fs))):=by
 rw[show aF (f+1) (.mk 6 n s t l fs)=[100,97,116,101,32]++aA (gV n) from rfl]
 obtain⟨h1,h2,h3⟩:=iH h
 rw[di h2]
 generalize gV n=Q at *
 refine am.intro Q17.2 (by simp[Q17]) ?_
 simp(disch:=try exact dI) only[Q17,WD,push_cast,seval]
 refine ae.pure h1 rfl ?_
 simp(disch:=try exact dI) only[WS,push_cast,seval]
theorem Hc (h:-62135596800000<=n/\n<=253402300799999):am Tryz.prog aC 17 [(Val.mk 7 n s t l fs).pv] (.str (aF (f+1) (.mk 7 n s t l fs))):=by
 rw[show aF (f+1) (.mk 7 n s t l fs)=[116,105,109,101,32]++aA (ct n) from rfl]
 obtain⟨h1,h2,h3⟩:=fl h
 rw[di h2]
 generalize ct n=Q at *
 refine am.intro Q17.2 (by simp[Q17]) ?_
 simp(disch:=try exact dI) only[Q17,WD,push_cast,seval]
 refine ae.pure h1 rfl ?_
 simp(disch:=try exact dI) only[WS,push_cast,seval]
theorem BU (x:Val)(ih:am Tryz.prog aC 17 [x.pv] (.str (aF f x)))(h1:t.length<=1024)(h2:(aF f x).length<=100000000) :
  am Tryz.prog aC 17 [(Val.mk 10 n s t [x] fs).pv] (.str (aF (f+1) (.mk 10 n s t [x] fs))):=by
 rw[show aF (f+1) (.mk 10 n s t [x] fs)=t++[40]++aF f x++[41] from rfl]
 generalize aF f x=X at *
 obtain⟨xk,xn,xs,xt,xl,xf⟩:=x
 simp only[WD] at ih
 refine am.intro Q17.2 (by simp[Q17]) ?_
 simp(disch:=try exact dI) only[Q17,WD,WP,Xp,aJ,push_cast,seval]
 refine ag ih rfl ?_
 simp(disch:=try exact dI) only[WS,push_cast,seval]
end
theorem ow (sep:List UInt8)(y:List UInt8):∀ (x:List UInt8) (l:List (List UInt8)),aM sep (x::(l++[y]))=aM sep (x::l)++(sep++y)
 | x,[]=>by simp[aM]
 | x,z::r=>by
   have ih:=ow sep y z r
   simp only[WQ,aM] at ih ⊢
   rw[ih];simp
theorem r7 {L:List (List UInt8)}(sep y:List UInt8)(h:L≠[]):aM sep (L++[y])=aM sep L++(sep++y):=by
 cases L with
 | nil=>exact absurd rfl h
 | cons x r=>exact ow sep y x r
section
variable (f:Nat)(n s:Int)(t:List UInt8)(l:List Val)(fs:List Fld)
theorem Hb (ih:∀ x∈l,am Tryz.prog aC 17 [x.pv] (.str (aF f x)))(hN:l.length<=256)(hj:∀ i,(aM [44,32] ((l.take i).map (aF f))).length<=100000000)(hb:∀ x∈l,(aF f x).length<=100000000) :
  am Tryz.prog aC 17 [(Val.mk 8 n s t l fs).pv] (.str (aF (f+1) (.mk 8 n s t l fs))):=by
 rw[show aF (f+1) (.mk 8 n s t l fs)=[91]++aM [44,32] (l.map (aF f))++[93] from rfl]
 refine am.intro Q17.2 (by simp[Q17]) ?_
 simp(disch:=try exact dI) only[Q17,WD,push_cast,seval]
 refine aG ([]) (fun i:Nat=>[(9,.pv (.str ([91]++aM [44,32] ((l.take i).map (aF f))))),(10,.pv (.int .i64 (i:Int)))]) (fun _=>[]) (fun i=>i<=l.length) (fun i=>l.length - i) (0) ?_;intro e0 σ0 n0 h0;simp(disch:=try exact dI) only[push_cast,seval] at h0;obtain⟨rfl,rfl,rfl⟩:=h0;refine⟨?_,?_,?_⟩
 ·refine zgZ ?_
  exact .refl _
 ·omega
 ·rintro i hi
  have hji:=hj i
  by_cases hlt:i<l.length
  ·have hltI:(i:Int)<(l.length:Int):=by omega
   obtain⟨x,hx⟩:∃ x,l[i]? = some x:=⟨_,WE hlt⟩
   have hx':(l.map Val.pv)[i]? = some x.pv:=by simp[hx]
   have hc:=ih x (WK hx)
   have hbx:=hb x (WK hx)
   have hts:(l.take (i+1)).map (aF f)=(l.take i).map (aF f)++[aF f x]:=by rw[aK hx];simp
   by_cases h0:i=0
   ·subst h0
    have hQ:aM [44,32] ((l.take (0+1)).map (aF f))=aF f x:=by rw[hts];rfl
    generalize aF f x=X at *
    obtain⟨xk,xn,xs,xt,xl,xf⟩:=x
    simp only[WD] at hx' hc
    have hl0:(0:Int)<(l.length:Int):=by omega
    have hj0:aM [44,32] ([]:List (List UInt8))=[]:=rfl
    simp(disch:=try exact dI) only[hltI,hl0,hx',aJ,List.take_zero,Xp,hj0,push_cast,seval]
    refine ae.pure hc rfl ?_
    refine zgZ ?_
    exact⟨1,bl (by simp(disch:=try exact dI) only[hQ,push_cast,seval]),by omega,by omega⟩
   ·have h0I:(0:Int)<(i:Int):=by omega
    have hne:(l.take i).map (aF f)≠[]:=by
     intro h
     have:=congrArg List.length h
     rw[List.length_map,Xd,List.length_nil] at this;omega
    have hQ:aM [44,32] ((l.take (i+1)).map (aF f))=aM [44,32] ((l.take i).map (aF f))++([44,32]++aF f x):=by rw[hts,r7 _ _ hne]
    generalize aF f x=X at *
    generalize aM [44,32] ((l.take i).map (aF f))=J at *
    obtain⟨xk,xn,xs,xt,xl,xf⟩:=x
    simp only[WD] at hx' hc
    simp(disch:=try exact dI) only[hltI,h0I,hx',push_cast,seval]
    refine ae.pure hc rfl ?_
    refine zgZ ?_
    exact⟨i+1,bl (by simp(disch:=try exact dI) only[hQ,WS,push_cast,seval]),by omega,by omega⟩
  ·have hltI:¬ (i:Int)<(l.length:Int):=by omega
   obtain rfl:i=l.length:=by omega
   rw[WV] at *
   generalize aM [44,32] (l.map (aF f))=J at *
   simp(disch:=try exact dI) only[hltI,push_cast,seval]
end

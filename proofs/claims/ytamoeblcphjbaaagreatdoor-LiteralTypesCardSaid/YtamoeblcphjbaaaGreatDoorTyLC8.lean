/- A part. -/
import Derived.Test.YtamoeblcphjbaaaGreatDoorTyLC21
set_option linter.unusedVariables false
set_option linter.unusedSimpArgs false
set_option maxHeartbeats 16000000
set_option maxRecDepth 100000
open Option renaming map_eq_some_iff->WI
open List renaming map_cons->WP,map_nil->Xp,length_cons->WG,length_nil->WL,append_assoc->WS
namespace Go.Proofs.YtamoeblcphjbaaaGreatDoor
open Go Go.Ab
attribute [local irreducible] vc
def nB (y m d:Int):Int×Int:=if 1<=y/\y<=9999/\1<=m/\m<=12/\1<=d/\d<=mdI y m then (kh y m.toNat d - 719162,0) else (0,17)
theorem uW {y m d:Int}(h:1<=y/\y<=9999/\1<=m/\m<=12/\1<=d/\d<=mdI y m):DateOk y m.toNat d/\((m.toNat:Nat):Int)=m:=by
 have e:((m.toNat:Nat):Int)=m:=by omega
 exact⟨⟨h.1,h.2.1,by omega,by omega,h.2.2.2.2.1,by rw[e];exact h.2.2.2.2.2⟩,e⟩
theorem OX {y m d:Int}(h:¬ (1<=y/\y<=9999/\1<=m/\m<=12/\1<=d/\d<=mdI y m))(k:Nat)(hk:m=k):¬ DateOk y k d:=by
 intro hd
 subst hk
 exact h ⟨hd.y1,hd.y2,by have:=hd.m1;omega,by have:=hd.m2;omega,hd.d1,hd.d2⟩
theorem LL (y m d:Int):am Tryz.prog aC 191 [.int .i64 y,.int .i64 m,.int .i64 d] (.tup [.int .i64 (nB y m d).1,.int .i64 (nB y m d).2]):=by
 unfold nB
 by_cases h:1<=y/\y<=9999/\1<=m/\m<=12/\1<=d/\d<=mdI y m
 ·rw[if_pos h]
  obtain⟨h1,h2⟩:=uW h
  have:=RY h1
  rwa [h2] at this
 ·rw[if_neg h]
  exact RZ (OX h)
theorem LN (y m d:Int):(nB y m d).2=0\/(nB y m d).2=17:=by unfold nB;split<;>simp
theorem mx:∀ {ms:List (List UInt8)} {ks:List Nat} {s:List UInt8} {p:List Int×List UInt8},dy ms ks s=some p->p.1.length=ms.length
 | [],_,s,p,h=>by simp only[dy] at h;cases h;rfl
 | m::ms,[],s,p,h=>by simp[dy] at h
 | m::ms,k::ks,s,p,h=>by
   simp only[dy] at h
   split at h
   ·cases hn:ua k (s.drop m.length) with
    | none=>rw[hn] at h;cases h
    | some q=>
      rw[hn] at h
      simp only[WI] at h
      obtain⟨r,hr,rfl⟩:=h
      simp[mx hr]
   ·cases h
def bU (s:List UInt8):Int×Int:=
 match dy [[],[45],[45]] [4,2,2] s with
 | some ([y,m,d],[])=>nB y m d
 | _=>(0,13)
theorem rE1 (sz:Nat)(l:List PV):g8 sz l 1=ij sz l 1 l[1]?:=rfl
theorem rE2 (sz:Nat)(l:List PV):g8 sz l 2=ij sz l 2 l[2]?:=rfl
theorem Db (s:List UInt8):am Tryz.prog aC 128 [.str s] (.tup [.int .i64 (bU s).1,.int .i64 (bU s).2]):=by
 have hn:=ry s [[],[45],[45]] [4,2,2] rfl (by simp) (by simp)
 simp only[WP,Xp,PR] at hn
 unfold bU
 cases hv:dy [[],[45],[45]] [4,2,2] s with
 | none=>
   rw[hv] at hn
   simp only[rx] at hn
   refine am.intro KB.2 (by simp[KB]) ?_
   simp(disch:=try exact dI) only[KB,push_cast,seval]
   refine ae.pure hn rfl ?_
   exact qsZ
 | some p=>
   have hl:=mx hv
   obtain⟨l,r⟩:=p
   simp only at hl
   obtain⟨y,m,d,rfl⟩:∃ y m d,l=[y,m,d]:=by
    match l,hl with
    | [y,m,d],_=>exact⟨y,m,d,rfl⟩
   rw[hv] at hn
   simp only[rx,WP,Xp] at hn
   cases r with
   | nil=>
     have hd:=LL y m d
     refine am.intro KB.2 (by simp[KB]) ?_
     simp(disch:=try exact dI) only[KB,push_cast,seval]
     refine ae.pure hn rfl ?_
     simp(disch:=try exact dI) only[rE1,rE2,push_cast,seval]
     refine ag hd rfl ?_
     exact qsZ
   | cons c r=>
     have hcr:(!decide (c::r=[]))=true:=by simp
     refine am.intro KB.2 (by simp[KB]) ?_
     simp(disch:=try exact dI) only[KB,push_cast,seval]
     refine ae.pure hn rfl ?_
     simp(disch:=try exact dI) only[hcr,push_cast,seval]
theorem eR {m:List UInt8}{ms:List (List UInt8)}{k:Nat}{ks:List Nat}{s:List UInt8}{v:Int}{l:List Int}{r:List UInt8}(h:dy (m::ms) (k::ks) s=some (v::l,r)) :
  k<=(s.drop m.length).length/\((s.drop m.length).take k).all isD=true/\v=kU 0 ((s.drop m.length).take k)/\dy ms ks ((s.drop m.length).drop k)=some (l,r):=by
 simp only[dy] at h
 split at h
 ·unfold ua at h
  split at h
  ·rename_i hc
   split at hc
   ·rename_i hd
    cases hc
    simp only[WI] at h
    obtain⟨a,ha,he⟩:=h
    cases he
    exact⟨hd.1,hd.2,rfl,ha⟩
   ·cases hc
  ·cases h
 ·cases h
def yE (y m d h mi s ms:Int):Int×Int:=if (nB y m d).2≠0\/23<h\/59<mi\/59<s then (0,17) else ((nB y m d).1*86400000+(((60*h+mi)*60+s)*1000+ms),0)
def tk (r:List UInt8):Option Int:=
 if ii [46] r=true then (match ua 3 (r.drop 1) with
  | some p=>if p.1=0\/p.2≠[90] then none else some p.1
  | none=>none) else if r=[90] then some 0 else none
def msT:List (List UInt8):=[[],[45],[45],[84],[58],[58]]
def ksT:List Nat:=[4,2,2,2,2,2]
def bG (s:List UInt8):Int×Int:=
 match dy msT ksT s with
 | some ([y,m,d,h,mi,sec],r)=>(match tk r with
   | some ms=>yE y m d h mi sec ms
   | none=>(0,13))
 | _=>(0,13)
theorem oL {y m d:Int}(h:(nB y m d).2=0):-719162<=(nB y m d).1/\(nB y m d).1<=2932896:=by
 unfold nB at h ⊢
 split
 ·rename_i hd
  have:=gI (uW hd).1
  simp only
  omega
 ·rename_i hd
  rw[if_neg hd] at h;simp at h
theorem Lq {d r:Int}(h1:-719162<=d/\d<=2932896)(h2:0<=r/\r<=86399999):am Tryz.prog aC 194 [.int .i64 d,.int .i64 r] (.tup [.int .i64 (d*86400000+r),.int .i64 0]):=by
 have hi1:=eG h1
 have hi2:=eG h2
 refine am.intro Vl.2 (by simp[Vl]) ?_
 simp(disch:=try exact dI) only[Vl,push_cast,seval]
 refine ae.pure hi1 rfl ?_
 refine zgZ ?_
 refine ae.pure hi2 rfl ?_
 exact qsZ
theorem BO {l:List UInt8}(h:(l.take 2).all isD=true):0<=kU 0 (l.take 2)/\kU 0 (l.take 2)<=99:=by
 have:=dS _ 0 (by omega) h
 have hp:10 ^ (l.take 2).length<=10 ^ 2:=Nat.pow_le_pow_right (by omega) (by simp;omega)
 omega
theorem vM {l:List UInt8}(h:(l.take 3).all isD=true):0<=kU 0 (l.take 3)/\kU 0 (l.take 3)<=999:=by
 have:=dS _ 0 (by omega) h
 have hp:10 ^ (l.take 3).length<=10 ^ 3:=Nat.pow_le_pow_right (by omega) (by simp;omega)
 omega
theorem rE3 (sz:Nat)(l:List PV):g8 sz l 3=ij sz l 3 l[3]?:=rfl
theorem rE4 (sz:Nat)(l:List PV):g8 sz l 4=ij sz l 4 l[4]?:=rfl
theorem rE5 (sz:Nat)(l:List PV):g8 sz l 5=ij sz l 5 l[5]?:=rfl
theorem mq (s:List UInt8):am Tryz.prog aC 130 [.str s] (.tup [.int .i64 (bG s).1,.int .i64 (bG s).2]):=by
 have hn:=ry s msT ksT rfl (by simp[msT]) (by simp[ksT])
 unfold bG
 cases hv:dy msT ksT s with
 | none=>
   rw[hv] at hn
   simp only[rx,msT,ksT,WP,Xp,PR] at hn
   refine am.intro ek.2 (by simp[ek]) ?_
   simp(disch:=try exact dI) only[ek,push_cast,seval]
   refine ae.pure hn rfl ?_
   exact qsZ
 | some p=>
   have hl:=mx hv
   obtain⟨l,r⟩:=p
   simp only[msT] at hl
   obtain⟨y,m,d,h,mi,sec,rfl⟩:∃ y m d h mi sec,l=[y,m,d,h,mi,sec]:=by
    match l,hl with
    | [y,m,d,h,mi,sec],_=>exact⟨y,m,d,h,mi,sec,rfl⟩
   have hv':=hv
   simp only[msT,ksT] at hv'
   obtain⟨_,_,_,n1⟩:=eR hv'
   obtain⟨_,_,_,n2⟩:=eR n1
   obtain⟨_,_,_,n3⟩:=eR n2
   obtain⟨_,g4,v4,n4⟩:=eR n3
   obtain⟨_,g5,v5,n5⟩:=eR n4
   obtain⟨_,g6,v6,n6⟩:=eR n5
   have b4:=BO g4
   have b5:=BO g5
   have b6:=BO g6
   rw[<- v4] at b4
   rw[<- v5] at b5
   rw[<- v6] at b6
   clear g4 g5 g6 v4 v5 v6 n1 n2 n3 n4 n5 n6 hv'
   rw[hv] at hn
   simp only[rx,msT,ksT,WP,Xp,PR] at hn
   have hc:=xN r [46]
   have hd:=LL y m d
   have hrg:=fun h=>oL (y:=y) (m:=m) (d:=d) h
   have hee:=LN y m d
   have main:∀ ms:Int,0<=ms->ms<=999->True:=fun _ _ _=>trivial
   simp only
   cases hb:ii [46] r with
   | true=>
     rw[hb] at hc
     simp only[if_true,WG,WL,Nat.zero_add] at hc
     have h3:=wD (r.drop 1) 3 (by omega)
     unfold tk
     rw[hb,if_pos rfl]
     cases hq:ua 3 (r.drop 1) with
     | none=>
       rw[hq] at h3
       simp only[Lh] at h3
       refine am.intro ek.2 (by simp[ek]) ?_
       simp(disch:=try exact dI) only[ek,push_cast,seval]
       refine ae.pure hn rfl ?_
       refine zgZ ?_
       refine ae.pure hc rfl ?_
       refine zgZ ?_
       refine ae.pure h3 rfl ?_
       exact qsZ
     | some q=>
       rw[hq] at h3
       simp only[Lh] at h3
       obtain⟨ms,q⟩:=q
       simp only at h3 ⊢
       have hms:0<=ms/\ms<=999:=by
        unfold ua at hq
        split at hq
        ·rename_i hh
         cases hq
         exact vM hh.2
        ·cases hq
       by_cases hm0:ms=0
       ·rw[if_pos (Or.inl hm0)]
        subst hm0
        refine am.intro ek.2 (by simp[ek]) ?_
        simp(disch:=try exact dI) only[ek,push_cast,seval]
        refine ae.pure hn rfl ?_
        refine zgZ ?_
        refine ae.pure hc rfl ?_
        refine zgZ ?_
        refine ae.pure h3 rfl ?_
        exact qsZ
       ·by_cases hq90:q=[90]
        ·subst hq90
         rw[if_neg (by simp[hm0])]
         simp only
         unfold yE
         generalize nB y m d=R at *
         obtain⟨R1,R2⟩:=R
         simp only at hd hrg hee ⊢
         rcases hee with hz | hz
         ·have hrg':=hrg hz
          subst hz
          by_cases c1:23<h
          ·rw[if_pos (Or.inr (Or.inl c1))]
           refine am.intro ek.2 (by simp[ek]) ?_
           simp(disch:=try exact dI) only[ek,push_cast,seval]
           refine ae.pure hn rfl ?_
           refine zgZ ?_
           refine ae.pure hc rfl ?_
           refine zgZ ?_
           refine ae.pure h3 rfl ?_
           simp(disch:=try exact dI) only[aJ,rE1,rE2,rE3,rE4,rE5,push_cast,seval]
           refine ag hd rfl ?_
           simp(disch:=try exact dI) only[aJ,rE1,rE2,rE3,rE4,rE5,push_cast,seval]
          by_cases c2:59<mi
          ·rw[if_pos (Or.inr (Or.inr (Or.inl c2)))]
           refine am.intro ek.2 (by simp[ek]) ?_
           simp(disch:=try exact dI) only[ek,push_cast,seval]
           refine ae.pure hn rfl ?_
           refine zgZ ?_
           refine ae.pure hc rfl ?_
           refine zgZ ?_
           refine ae.pure h3 rfl ?_
           simp(disch:=try exact dI) only[aJ,rE1,rE2,rE3,rE4,rE5,push_cast,seval]
           refine ag hd rfl ?_
           simp(disch:=try exact dI) only[aJ,rE1,rE2,rE3,rE4,rE5,push_cast,seval]
          by_cases c3:59<sec
          ·rw[if_pos (Or.inr (Or.inr (Or.inr c3)))]
           refine am.intro ek.2 (by simp[ek]) ?_
           simp(disch:=try exact dI) only[ek,push_cast,seval]
           refine ae.pure hn rfl ?_
           refine zgZ ?_
           refine ae.pure hc rfl ?_
           refine zgZ ?_
           refine ae.pure h3 rfl ?_
           simp(disch:=try exact dI) only[aJ,rE1,rE2,rE3,rE4,rE5,push_cast,seval]
           refine ag hd rfl ?_
           simp(disch:=try exact dI) only[aJ,rE1,rE2,rE3,rE4,rE5,push_cast,seval]
          rw[if_neg (by simp;omega)]
          have hj:=Lq hrg' (r:=((60*h+mi)*60+sec)*1000+ms) (by omega)
          refine am.intro ek.2 (by simp[ek]) ?_
          simp(disch:=try exact dI) only[ek,push_cast,seval]
          refine ae.pure hn rfl ?_
          refine zgZ ?_
          refine ae.pure hc rfl ?_
          refine zgZ ?_
          refine ae.pure h3 rfl ?_
          simp(disch:=try exact dI) only[aJ,rE1,rE2,rE3,rE4,rE5,push_cast,seval]
          refine ag hd rfl ?_
          simp(disch:=try exact dI) only[aJ,rE1,rE2,rE3,rE4,rE5,push_cast,seval]
          refine ag hj rfl ?_
          exact qsZ
         ·subst hz
          rw[if_pos (Or.inl (by decide))]
          refine am.intro ek.2 (by simp[ek]) ?_
          simp(disch:=try exact dI) only[ek,push_cast,seval]
          refine ae.pure hn rfl ?_
          refine zgZ ?_
          refine ae.pure hc rfl ?_
          refine zgZ ?_
          refine ae.pure h3 rfl ?_
          simp(disch:=try exact dI) only[aJ,rE1,rE2,rE3,rE4,rE5,push_cast,seval]
          refine ag hd rfl ?_
          simp(disch:=try exact dI) only[aJ,rE1,rE2,rE3,rE4,rE5,push_cast,seval]
        ·rw[if_pos (Or.inr hq90)]
         have hqd:(!decide (q=[90]))=true:=by simp[hq90]
         refine am.intro ek.2 (by simp[ek]) ?_
         simp(disch:=try exact dI) only[ek,push_cast,seval]
         refine ae.pure hn rfl ?_
         refine zgZ ?_
         refine ae.pure hc rfl ?_
         refine zgZ ?_
         refine ae.pure h3 rfl ?_
         simp(disch:=try exact dI) only[hqd,push_cast,seval]
   | false=>
     rw[hb] at hc
     simp only[Bool.false_eq_true,if_false] at hc
     unfold tk
     rw[hb,if_neg (by simp)]
     by_cases hr90:r=[90]
     ·subst hr90
      rw[if_pos rfl]
      simp only
      unfold yE
      generalize nB y m d=R at *
      obtain⟨R1,R2⟩:=R
      simp only at hd hrg hee ⊢
      rcases hee with hz | hz
      ·have hrg':=hrg hz
       subst hz
       by_cases c1:23<h
       ·rw[if_pos (Or.inr (Or.inl c1))]
        refine am.intro ek.2 (by simp[ek]) ?_
        simp(disch:=try exact dI) only[ek,push_cast,seval]
        refine ae.pure hn rfl ?_
        refine zgZ ?_
        refine ae.pure hc rfl ?_
        simp(disch:=try exact dI) only[aJ,rE1,rE2,rE3,rE4,rE5,push_cast,seval]
        refine ag hd rfl ?_
        simp(disch:=try exact dI) only[aJ,rE1,rE2,rE3,rE4,rE5,push_cast,seval]
       by_cases c2:59<mi
       ·rw[if_pos (Or.inr (Or.inr (Or.inl c2)))]
        refine am.intro ek.2 (by simp[ek]) ?_
        simp(disch:=try exact dI) only[ek,push_cast,seval]
        refine ae.pure hn rfl ?_
        refine zgZ ?_
        refine ae.pure hc rfl ?_
        simp(disch:=try exact dI) only[aJ,rE1,rE2,rE3,rE4,rE5,push_cast,seval]
        refine ag hd rfl ?_
        simp(disch:=try exact dI) only[aJ,rE1,rE2,rE3,rE4,rE5,push_cast,seval]
       by_cases c3:59<sec
       ·rw[if_pos (Or.inr (Or.inr (Or.inr c3)))]
        refine am.intro ek.2 (by simp[ek]) ?_
        simp(disch:=try exact dI) only[ek,push_cast,seval]
        refine ae.pure hn rfl ?_
        refine zgZ ?_
        refine ae.pure hc rfl ?_
        simp(disch:=try exact dI) only[aJ,rE1,rE2,rE3,rE4,rE5,push_cast,seval]
        refine ag hd rfl ?_
        simp(disch:=try exact dI) only[aJ,rE1,rE2,rE3,rE4,rE5,push_cast,seval]
       rw[if_neg (by simp;omega)]
       have hj:=Lq hrg' (r:=((60*h+mi)*60+sec)*1000+0) (by omega)
       refine am.intro ek.2 (by simp[ek]) ?_
       simp(disch:=try exact dI) only[ek,push_cast,seval]
       refine ae.pure hn rfl ?_
       refine zgZ ?_
       refine ae.pure hc rfl ?_
       simp(disch:=try exact dI) only[aJ,rE1,rE2,rE3,rE4,rE5,push_cast,seval]
       refine ag hd rfl ?_
       simp(disch:=try exact dI) only[aJ,rE1,rE2,rE3,rE4,rE5,push_cast,seval]
       refine ag hj rfl ?_
       exact qsZ
      ·subst hz
       rw[if_pos (Or.inl (by decide))]
       refine am.intro ek.2 (by simp[ek]) ?_
       simp(disch:=try exact dI) only[ek,push_cast,seval]
       refine ae.pure hn rfl ?_
       refine zgZ ?_
       refine ae.pure hc rfl ?_
       simp(disch:=try exact dI) only[aJ,rE1,rE2,rE3,rE4,rE5,push_cast,seval]
       refine ag hd rfl ?_
       simp(disch:=try exact dI) only[aJ,rE1,rE2,rE3,rE4,rE5,push_cast,seval]
     ·rw[if_neg hr90]
      have hrd:(!decide (r=[90]))=true:=by simp[hr90]
      refine am.intro ek.2 (by simp[ek]) ?_
      simp(disch:=try exact dI) only[ek,push_cast,seval]
      refine ae.pure hn rfl ?_
      refine zgZ ?_
      refine ae.pure hc rfl ?_
      simp(disch:=try exact dI) only[hrd,push_cast,seval]
def F5:List (List UInt8)->List Nat->List Int->List UInt8
 | m::ms,k::ks,v::l=>m++(bn k v.toNat++F5 ms ks l)
 | _,_,_=>[]
theorem rm {p s:List UInt8}(h:ii p s=true):s=p++s.drop p.length:=by
 have h1:=(of_decide_eq_true h).1
 have h2:=List.take_append_drop p.length s
 rw[h1] at h2
 exact h2.symm
theorem rE {k:Nat}{s:List UInt8}{p:Int×List UInt8}(h:ua k s=some p):s=bn k p.1.toNat++p.2/\0<=p.1:=by
 unfold ua at h
 split at h
 ·rename_i hh
  cases h
  have e:=IE (s.take k) hh.2
  rw[List.length_take,Nat.min_eq_left hh.1] at e
  simp only
  rw[e,List.take_append_drop]
  exact⟨rfl,(dS _ 0 (by omega) hh.2).1⟩
 ·cases h
theorem ru:∀ (ms:List (List UInt8)) (ks:List Nat) (s:List UInt8) (l:List Int) (r:List UInt8),dy ms ks s=some (l,r)->s=F5 ms ks l++r/\∀ x,x∈l->0<=x
 | [],ks,s,l,r,h=>by
   simp only[dy,Option.some.injEq,Prod.mk.injEq] at h
   obtain⟨rfl,rfl⟩:=h
   exact⟨by simp[F5],by simp⟩
 | m::ms,[],s,l,r,h=>by simp[dy] at h
 | m::ms,k::ks,s,l,r,h=>by
   simp only[dy] at h
   split at h
   ·rename_i hp
    split at h
    ·rename_i p hn
     simp only[WI] at h
     obtain⟨q,hq,he⟩:=h
     cases he
     obtain⟨q1,q2⟩:=q
     have ih:=ru ms ks p.2 q1 q2 hq
     have hb:=rE hn
     refine⟨?_,?_⟩
     ·rw[F5,WS,WS,<- ih.1,<- hb.1]
      exact rm hp
     ·intro x hx
      rcases List.mem_cons.1 hx with rfl | hx
      ·exact hb.2
      ·exact ih.2 x hx
    ·cases h
   ·cases h
theorem Fr {y m d n:Int}(h:nB y m d=(n,0)):DateOk y m.toNat d/\n=kh y m.toNat d - 719162:=by
 unfold nB at h
 split at h
 ·rename_i hd
  cases h
  exact⟨(uW hd).1,rfl⟩
 ·simp at h
theorem yG {r:List UInt8}{ms:Int}(h:tk r=some ms):0<=ms/\ms<=999/\r=(if ms.toNat=0 then [] else [46]++bn 3 ms.toNat)++[90]:=by
 unfold tk at h
 split at h
 ·rename_i hp
  split at h
  ·rename_i p hn
   split at h
   ·cases h
   ·rename_i hc
    cases h
    have hb:=rE hn
    have hle:p.1<=999:=by
     unfold ua at hn
     split at hn
     ·rename_i hh
      cases hn
      exact (vM hh.2).2
     ·cases hn
    have hnz:p.1≠0:=fun h=>hc (Or.inl h)
    have hq:p.2=[90]:=Decidable.of_not_not fun h=>hc (Or.inr h)
    refine⟨hb.2,hle,?_⟩
    rw[if_neg (by omega)]
    rw[hq] at hb
    have:=rm hp
    rw[this]
    have e:=hb.1
    simp only[WG,WL,Nat.zero_add] at e ⊢
    rw[e,WS]
  ·cases h
 ·split at h
  ·rename_i hr
   cases h
   exact⟨by omega,by omega,by simp[hr]⟩
  ·cases h
theorem tX {s:List UInt8}{n:Int}(h:bG s=(n,0)):∃ (y:Int) (m:Nat) (d:Int) (hh mi sec ms:Nat),DateOk y m d/\hh<=23/\mi<=59/\sec<=59/\ms<=999 /\
  n=(kh y m d - 719162)*86400000+(((60*(hh:Int)+mi)*60+sec)*1000+ms)/\s=g7 (de y m d) hh mi sec ms:=by
 unfold bG at h
 split at h
 ·rename_i y m d hh mi sec r hn
  split at h
  ·rename_i ms ht
   obtain⟨hb,hpos⟩:=ru _ _ _ _ _ hn
   obtain⟨t1,t2,t3⟩:=yG ht
   unfold yE at h
   split at h
   ·simp at h
   ·rename_i hc
    have hz:(nB y m d).2=0:=Decidable.of_not_not fun h=>hc (Or.inl h)
    have b1:¬ 23<hh:=fun h=>hc (Or.inr (Or.inl h))
    have b2:¬ 59<mi:=fun h=>hc (Or.inr (Or.inr (Or.inl h)))
    have b3:¬ 59<sec:=fun h=>hc (Or.inr (Or.inr (Or.inr h)))
    have p1:=hpos hh (by simp)
    have p2:=hpos mi (by simp)
    have p3:=hpos sec (by simp)
    obtain⟨d1,d2⟩:=Fr (y:=y) (m:=m) (d:=d) (n:=(nB y m d).1) (by rw[<- hz])
    have e:=congrArg Prod.fst h
    simp only at e
    refine⟨y,m.toNat,d,hh.toNat,mi.toNat,sec.toNat,ms.toNat,d1,by omega,by omega,by omega,by omega,?_,?_⟩
    ·rw[<- e,d2];omega
    ·rw[hb,t3]
     simp[F5,msT,ksT,g7,de]
  ·simp at h
 ·simp at h
def bu (v:Val):List Val:=if v.kind=8\/v.kind=10 then v.lst else if v.kind=9 then v.fields.map Fld.value else []
theorem cu {v:Val}(h:v.kind=8\/v.kind=10):bu v=v.lst:=if_pos h
theorem eP {v:Val}(h:v.kind=9):bu v=v.fields.map Fld.value:=by unfold bu;rw[if_neg (by omega),if_pos h]
theorem zz {v:Val}(h:¬ (v.kind=8\/v.kind=10))(h9:¬ v.kind=9):bu v=[]:=by unfold bu;rw[if_neg h,if_neg h9]
theorem Ir (v:Val)(hf:v.fields.length*104<=140737488351232):am Tryz.prog aC 149 [v.pv] (.list ((bu v).map Val.pv)):=by
 obtain⟨k,n,s,t,l,fs⟩:=v
 simp only[Val.fields] at hf
 by_cases h8:k=8\/k=10
 ·rw[cu (v:=.mk k n s t l fs) h8]
  simp only[Val.lst]
  rcases h8 with rfl | rfl
  ·refine am.intro Bl.2 (by simp[Bl]) ?_
   simp(disch:=try exact dI) only[Bl,WD,push_cast,seval]
  ·refine am.intro Bl.2 (by simp[Bl]) ?_
   simp(disch:=try exact dI) only[Bl,WD,push_cast,seval]
 ·by_cases h9:k=9
  ·subst h9
   rw[eP (v:=.mk 9 n s t l fs) rfl]
   simp only[Val.fields]
   refine am.intro Bl.2 (by simp[Bl]) ?_
   simp(disch:=try exact dI) only[Bl,WD,push_cast,seval]
   refine aG ([(3,0,25,6)]) (fun i:Nat=>[(3,.olist 0 6 (((fs.take i).map Fld.value).map Val.pv)),(18,.pv (.int .i64 (i:Int)))]) (fun _=>[]) (fun i=>i<=fs.length) (fun i=>fs.length - i) (0) ?_;intro e0 σ0 n0 h0;simp(disch:=try exact dI) only[push_cast,seval] at h0;obtain⟨rfl,rfl,rfl⟩:=h0;refine⟨?_,?_,?_⟩
   ·exact qsZ
   ·omega
   rintro i hi
   by_cases hlt:i<fs.length
   ·have hltI:(i:Int)<(fs.length:Int):=by omega
    obtain⟨c,hc⟩:∃ c,fs[i]? = some c:=⟨_,List.getElem?_eq_getElem hlt⟩
    have hts:=aK hc
    obtain⟨nm,⟨k',n',s',t',l',f'⟩⟩:=c
    have hcp:(fs.map Fld.pv)[i]? = some (.agg [.str nm,.int .i64 k',.int .i64 n',.int .i64 s',.str t',.list (l'.map Val.pv),.list (f'.map Fld.pv)]):=by simp[hc,Wq,WD,ap]
    simp(disch:=try exact dI) only[hcp,push_cast,seval]
    exact⟨i+1,bl (by simp(disch:=try exact dI) only[hts,List.map_append,Fld.value,WD,push_cast,seval]),by omega,by omega⟩
   ·have he:i=fs.length:=by omega
    subst he
    simp(disch:=try exact dI) only[List.take_length,t8,push_cast,seval]
  ·rw[zz (v:=.mk k n s t l fs) h8 h9]
   refine am.intro Bl.2 (by simp[Bl]) ?_
   have e1:¬ k=8:=by omega
   have e2:¬ k=10:=by omega
   simp(disch:=try exact dI) only[Bl,WD,push_cast,seval]

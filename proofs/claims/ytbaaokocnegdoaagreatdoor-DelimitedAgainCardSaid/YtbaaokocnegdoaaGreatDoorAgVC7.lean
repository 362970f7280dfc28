/- A part of the proof. -/
import Derived.Test.YtbaaokocnegdoaaGreatDoorAgVC2
set_option linter.unusedVariables false
set_option linter.unusedSimpArgs false
set_option maxHeartbeats 16000000
set_option maxRecDepth 100000
namespace Go.Proofs.YtbaaokocnegdoaaGreatDoor
open Go Go.Ab
attribute [local irreducible] vc
def rt (p s:List UInt8):Bool:=decide (s.take p.length=p/\p.length<=s.length)
theorem EC (s p:List UInt8):ae Tryz.prog au 128 [.str s,.str p] (.tup [.str (if rt p s=true then s.drop p.length else s),.bool (rt p s)]):=by
 have hp:=DO s p
 have hl:rt p s=true->p.length<=s.length:=fun h=>(of_decide_eq_true h).2
 refine ae.intro Ov.2 (by simp[Ov]) ?_
 change ae Tryz.prog au 177 [.str s,.str p] (.bool (rt p s)) at hp
 cases hb:rt p s with
 | true=>
   have:=hl hb
   rw[hb] at hp
   simp only[if_true]
   simp(disch:=try exact dI) only[Ov,push_cast,seval]
   refine ab.pure hp rfl ?_
   simp(disch:=try exact dI) only[List.take_length,push_cast,seval]
 | false=>
   rw[hb] at hp
   simp only[Bool.false_eq_true,if_false]
   simp(disch:=try exact dI) only[Ov,push_cast,seval]
   refine ab.pure hp rfl ?_
   exact qsZ
theorem vQ (s p:List UInt8):ae Tryz.prog au 76 [.str s,.str p] (.tup [.str (if rt p s=true then s.drop p.length else s),.bool (rt p s)]):=by
 have h:=EC s p
 generalize (if rt p s=true then s.drop p.length else s)=q at *
 generalize rt p s=b at *
 refine ae.intro Q76.2 (by simp[Q76]) ?_
 simp(disch:=try exact dI) only[Q76,push_cast,seval]
 refine ab.pure h rfl ?_
 exact qsZ
def cr:List (List UInt8)->List Nat->List UInt8->Option (List Int×List UInt8)
 | [],_,s=>some ([],s)
 | _::_,[],_=>none
 | m::ms,k::ks,s=>if rt m s=true then (match sJ k (s.drop m.length) with
   | some p=>(cr ms ks p.2).map fun q=>(p.1::q.1,q.2)
   | none=>none) else none
def pK (s:List UInt8):Option (List Int×List UInt8)->PV
 | some p=>.tup [.list (p.1.map (PV.int .i64)),.str p.2,.bool true]
 | none=>.tup [.nils,.str s,.bool false]
theorem pL (s:List UInt8)(ms:List (List UInt8))(ks:List Nat)(hm:ms.length=ks.length)(hl:ms.length<=100)(hk:∀ k,k∈ks->k<=8) :
  ae Tryz.prog au 74 [.str s,.list (ms.map PV.str),.list (ks.map oJ)] (pK s (cr ms ks s)):=by
 obtain⟨R,hR⟩:∃ R,R=cr ms ks s:=⟨_,rfl⟩
 rw[<- hR]
 refine ae.intro Q74.2 (by simp[Q74]) ?_
 simp(disch:=try exact dI) only[Q74,push_cast,seval]
 refine aC ([(6,0,3,1)]) (fun y:Nat×List Int×List UInt8=>[(6,.olist 0 1 (y.2.1.map (PV.int .i64))),(7,.pv (.str y.2.2)),(15,.pv (.int .i64 (y.1:Int)))]) (fun _=>[]) (fun y=>y.1<=ms.length/\y.2.1.length<=y.1/\R=(cr (ms.drop y.1) (ks.drop y.1) y.2.2).map fun q=>(y.2.1++q.1,q.2)) (fun y=>ms.length - y.1) ((0,[],s)) ?_;intro e0 σ0 n0 h0;simp(disch:=try exact dI) only[push_cast,seval] at h0;obtain⟨rfl,rfl,rfl⟩:=h0;refine⟨?_,?_,?_⟩
 ·exact qsZ
 ·exact⟨by simp,by simp,by simp[hR]⟩
 rintro⟨i,L,r⟩ ⟨h1,h2,h3⟩
 simp only at h1 h2 h3
 by_cases hlt:i<ms.length
 ·obtain⟨m,hmi⟩:∃ m,ms[i]? = some m:=⟨_,List.getElem?_eq_getElem hlt⟩
  obtain⟨k,hki⟩:∃ k,ks[i]? = some k:=⟨_,List.getElem?_eq_getElem (by omega)⟩
  have hmp:(ms.map PV.str)[i]? = some (.str m):=by simp[hmi]
  have hkp:(ks.map oJ)[i]? = some (.int .i64 (k:Int)):=by simp[hki,oJ]
  have hk8:=hk k (List.mem_of_getElem? hki)
  have hc:=vQ r m
  rw[bO hmi,bO hki] at h3
  simp only[cr] at h3
  cases hb:rt m r with
  | false=>
    rw[hb] at hc h3
    simp only[Bool.false_eq_true,if_false,Option.map_none] at hc h3
    rw[h3]
    simp(disch:=try exact dI) only[hmp,push_cast,seval]
    refine ab.pure hc rfl ?_
    simp(disch:=try exact dI) only[pK,push_cast,seval]
  | true=>
    rw[hb] at hc h3
    simp only[if_true] at hc h3
    have hn:=uT (r.drop m.length) k hk8
    cases hv:sJ k (r.drop m.length) with
    | none=>
      rw[hv] at hn h3
      simp only[J9,Option.map_none] at hn h3
      rw[h3]
      simp(disch:=try exact dI) only[hmp,push_cast,seval]
      refine ab.pure hc rfl ?_
      simp(disch:=try exact dI) only[hkp,push_cast,seval]
      refine ab.pure hn rfl ?_
      simp(disch:=try exact dI) only[pK,push_cast,seval]
    | some p=>
      rw[hv] at hn h3
      simp only[J9] at hn h3
      simp(disch:=try exact dI) only[hmp,push_cast,seval]
      refine ab.pure hc rfl ?_
      simp(disch:=try exact dI) only[hkp,push_cast,seval]
      refine ab.pure hn rfl ?_
      refine zgZ ?_
      exact⟨(i+1,L++[p.1],p.2),aR (by simp(disch:=try exact dI) only[List.map_append,push_cast,seval]),⟨by simp only;omega,by simp;omega,by rw[h3,Option.map_map];congr 1;funext q;simp⟩,by simp only;omega⟩
 ·have hi:i=ms.length:=by omega
  have hd1:ms.drop i=[]:=List.drop_eq_nil_of_le (by omega)
  rw[hd1] at h3
  simp only[cr,Option.map_some,List.append_nil] at h3
  rw[h3]
  simp(disch:=try exact dI) only[pK,push_cast,seval]
def lO (y m d:Int):Int×Int:=if 1<=y/\y<=9999/\1<=m/\m<=12/\1<=d/\d<=mdI y m then (iX y m.toNat d - 719162,0) else (0,17)
theorem tN {y m d:Int}(h:1<=y/\y<=9999/\1<=m/\m<=12/\1<=d/\d<=mdI y m):DateOk y m.toNat d/\((m.toNat:Nat):Int)=m:=by
 have e:((m.toNat:Nat):Int)=m:=by omega
 exact⟨⟨h.1,h.2.1,by omega,by omega,h.2.2.2.2.1,by rw[e];exact h.2.2.2.2.2⟩,e⟩
theorem Nq {y m d:Int}(h:¬ (1<=y/\y<=9999/\1<=m/\m<=12/\1<=d/\d<=mdI y m))(k:Nat)(hk:m=k):¬ DateOk y k d:=by
 intro hd
 subst hk
 exact h ⟨hd.y1,hd.y2,by have:=hd.m1;omega,by have:=hd.m2;omega,hd.d1,hd.d2⟩
theorem Kr (y m d:Int):ae Tryz.prog au 75 [.int .i64 y,.int .i64 m,.int .i64 d] (.tup [.int .i64 (lO y m d).1,.int .i64 (lO y m d).2]):=by
 unfold lO
 by_cases h:1<=y/\y<=9999/\1<=m/\m<=12/\1<=d/\d<=mdI y m
 ·rw[if_pos h]
  obtain⟨h1,h2⟩:=tN h
  have:=Qc h1
  rwa [h2] at this
 ·rw[if_neg h]
  exact Qd (Nq h)
theorem Kt (y m d:Int):(lO y m d).2=0\/(lO y m d).2=17:=by unfold lO;split<;>simp
theorem kP:∀ {ms:List (List UInt8)} {ks:List Nat} {s:List UInt8} {p:List Int×List UInt8},cr ms ks s=some p->p.1.length=ms.length
 | [],_,s,p,h=>by simp only[cr] at h;cases h;rfl
 | m::ms,[],s,p,h=>by simp[cr] at h
 | m::ms,k::ks,s,p,h=>by
   simp only[cr] at h
   split at h
   ·cases hn:sJ k (s.drop m.length) with
    | none=>rw[hn] at h;cases h
    | some q=>
      rw[hn] at h
      simp only[Option.map_eq_some_iff] at h
      obtain⟨r,hr,rfl⟩:=h
      simp[kP hr]
   ·cases h
def ca (s:List UInt8):Int×Int:=
 match cr [[],[45],[45]] [4,2,2] s with
 | some ([y,m,d],[])=>lO y m d
 | _=>(0,13)
theorem rE1 (sz:Nat)(l:List PV):f8 sz l 1=fR sz l 1 l[1]?:=rfl
theorem rE2 (sz:Nat)(l:List PV):f8 sz l 2=fR sz l 2 l[2]?:=rfl
theorem Mf (s:List UInt8):ae Tryz.prog au 35 [.str s] (.tup [.int .i64 (ca s).1,.int .i64 (ca s).2]):=by
 have hn:=pL s [[],[45],[45]] [4,2,2] rfl (by simp) (by simp)
 simp only[List.map_cons,List.map_nil,oJ] at hn
 unfold ca
 cases hv:cr [[],[45],[45]] [4,2,2] s with
 | none=>
   rw[hv] at hn
   simp only[pK] at hn
   refine ae.intro Q35.2 (by simp[Q35]) ?_
   simp(disch:=try exact dI) only[Q35,push_cast,seval]
   refine ab.pure hn rfl ?_
   exact qsZ
 | some p=>
   have hl:=kP hv
   obtain⟨l,r⟩:=p
   simp only at hl
   obtain⟨y,m,d,rfl⟩:∃ y m d,l=[y,m,d]:=by
    match l,hl with
    | [y,m,d],_=>exact⟨y,m,d,rfl⟩
   rw[hv] at hn
   simp only[pK,List.map_cons,List.map_nil] at hn
   cases r with
   | nil=>
     have hd:=Kr y m d
     refine ae.intro Q35.2 (by simp[Q35]) ?_
     simp(disch:=try exact dI) only[Q35,push_cast,seval]
     refine ab.pure hn rfl ?_
     simp(disch:=try exact dI) only[rE1,rE2,push_cast,seval]
     refine ag hd rfl ?_
     exact qsZ
   | cons c r=>
     have hcr:(!decide (c::r=[]))=true:=by simp
     refine ae.intro Q35.2 (by simp[Q35]) ?_
     simp(disch:=try exact dI) only[Q35,push_cast,seval]
     refine ab.pure hn rfl ?_
     simp(disch:=try exact dI) only[hcr,push_cast,seval]
theorem dO {m:List UInt8}{ms:List (List UInt8)}{k:Nat}{ks:List Nat}{s:List UInt8}{v:Int}{l:List Int}{r:List UInt8}(h:cr (m::ms) (k::ks) s=some (v::l,r)) :
  k<=(s.drop m.length).length/\((s.drop m.length).take k).all isD=true/\v=io 0 ((s.drop m.length).take k)/\cr ms ks ((s.drop m.length).drop k)=some (l,r):=by
 simp only[cr] at h
 split at h
 ·unfold sJ at h
  split at h
  ·rename_i hc
   split at hc
   ·rename_i hd
    cases hc
    simp only[Option.map_eq_some_iff] at h
    obtain⟨a,ha,he⟩:=h
    cases he
    exact⟨hd.1,hd.2,rfl,ha⟩
   ·cases hc
  ·cases h
 ·cases h
def Bc (y m d h mi s ms:Int):Int×Int:=if (lO y m d).2≠0\/23<h\/59<mi\/59<s then (0,17) else ((lO y m d).1*86400000+(((60*h+mi)*60+s)*1000+ms),0)
def rL (r:List UInt8):Option Int:=
 if rt [46] r=true then (match sJ 3 (r.drop 1) with
  | some p=>if p.1=0\/p.2≠[90] then none else some p.1
  | none=>none) else if r=[90] then some 0 else none
def msT:List (List UInt8):=[[],[45],[45],[84],[58],[58]]
def ksT:List Nat:=[4,2,2,2,2,2]
def b9 (s:List UInt8):Int×Int:=
 match cr msT ksT s with
 | some ([y,m,d,h,mi,sec],r)=>(match rL r with
   | some ms=>Bc y m d h mi sec ms
   | none=>(0,13))
 | _=>(0,13)
theorem nj {y m d:Int}(h:(lO y m d).2=0):-719162<=(lO y m d).1/\(lO y m d).1<=2932896:=by
 unfold lO at h ⊢
 split
 ·rename_i hd
  have:=ff (tN hd).1
  simp only
  omega
 ·rename_i hd
  rw[if_neg hd] at h;simp at h
theorem Kf {d r:Int}(h1:-719162<=d/\d<=2932896)(h2:0<=r/\r<=86399999):ae Tryz.prog au 78 [.int .i64 d,.int .i64 r] (.tup [.int .i64 (d*86400000+r),.int .i64 0]):=by
 have hi1:=dC h1
 have hi2:=dC h2
 refine ae.intro Q78.2 (by simp[Q78]) ?_
 simp(disch:=try exact dI) only[Q78,push_cast,seval]
 refine ab.pure hi1 rfl ?_
 refine zgZ ?_
 refine ab.pure hi2 rfl ?_
 exact qsZ
theorem Ba {l:List UInt8}(h:(l.take 2).all isD=true):0<=io 0 (l.take 2)/\io 0 (l.take 2)<=99:=by
 have:=cN _ 0 (by omega) h
 have hp:10 ^ (l.take 2).length<=10 ^ 2:=Nat.pow_le_pow_right (by omega) (by simp;omega)
 omega
theorem up {l:List UInt8}(h:(l.take 3).all isD=true):0<=io 0 (l.take 3)/\io 0 (l.take 3)<=999:=by
 have:=cN _ 0 (by omega) h
 have hp:10 ^ (l.take 3).length<=10 ^ 3:=Nat.pow_le_pow_right (by omega) (by simp;omega)
 omega
theorem rE3 (sz:Nat)(l:List PV):f8 sz l 3=fR sz l 3 l[3]?:=rfl
theorem rE4 (sz:Nat)(l:List PV):f8 sz l 4=fR sz l 4 l[4]?:=rfl
theorem rE5 (sz:Nat)(l:List PV):f8 sz l 5=fR sz l 5 l[5]?:=rfl
theorem sB (s:List UInt8):ae Tryz.prog au 36 [.str s] (.tup [.int .i64 (b9 s).1,.int .i64 (b9 s).2]):=by
 have hn:=pL s msT ksT rfl (by simp[msT]) (by simp[ksT])
 unfold b9
 cases hv:cr msT ksT s with
 | none=>
   rw[hv] at hn
   simp only[pK,msT,ksT,List.map_cons,List.map_nil,oJ] at hn
   refine ae.intro Q36.2 (by simp[Q36]) ?_
   simp(disch:=try exact dI) only[Q36,push_cast,seval]
   refine ab.pure hn rfl ?_
   exact qsZ
 | some p=>
   have hl:=kP hv
   obtain⟨l,r⟩:=p
   simp only[msT] at hl
   obtain⟨y,m,d,h,mi,sec,rfl⟩:∃ y m d h mi sec,l=[y,m,d,h,mi,sec]:=by
    match l,hl with
    | [y,m,d,h,mi,sec],_=>exact⟨y,m,d,h,mi,sec,rfl⟩
   have hv':=hv
   simp only[msT,ksT] at hv'
   obtain⟨_,_,_,n1⟩:=dO hv'
   obtain⟨_,_,_,n2⟩:=dO n1
   obtain⟨_,_,_,n3⟩:=dO n2
   obtain⟨_,g4,v4,n4⟩:=dO n3
   obtain⟨_,g5,v5,n5⟩:=dO n4
   obtain⟨_,g6,v6,n6⟩:=dO n5
   have b4:=Ba g4
   have b5:=Ba g5
   have b6:=Ba g6
   rw[<- v4] at b4
   rw[<- v5] at b5
   rw[<- v6] at b6
   clear g4 g5 g6 v4 v5 v6 n1 n2 n3 n4 n5 n6 hv'
   rw[hv] at hn
   simp only[pK,msT,ksT,List.map_cons,List.map_nil,oJ] at hn
   have hc:=vQ r [46]
   have hd:=Kr y m d
   have hrg:=fun h=>nj (y:=y) (m:=m) (d:=d) h
   have hee:=Kt y m d
   have main:∀ ms:Int,0<=ms->ms<=999->True:=fun _ _ _=>trivial
   simp only
   cases hb:rt [46] r with
   | true=>
     rw[hb] at hc
     simp only[if_true,List.length_cons,List.length_nil,Nat.zero_add] at hc
     have h3:=uT (r.drop 1) 3 (by omega)
     unfold rL
     rw[hb,if_pos rfl]
     cases hq:sJ 3 (r.drop 1) with
     | none=>
       rw[hq] at h3
       simp only[J9] at h3
       refine ae.intro Q36.2 (by simp[Q36]) ?_
       simp(disch:=try exact dI) only[Q36,push_cast,seval]
       refine ab.pure hn rfl ?_
       refine zgZ ?_
       refine ab.pure hc rfl ?_
       refine zgZ ?_
       refine ab.pure h3 rfl ?_
       exact qsZ
     | some q=>
       rw[hq] at h3
       simp only[J9] at h3
       obtain⟨ms,q⟩:=q
       simp only at h3 ⊢
       have hms:0<=ms/\ms<=999:=by
        unfold sJ at hq
        split at hq
        ·rename_i hh
         cases hq
         exact up hh.2
        ·cases hq
       by_cases hm0:ms=0
       ·rw[if_pos (Or.inl hm0)]
        subst hm0
        refine ae.intro Q36.2 (by simp[Q36]) ?_
        simp(disch:=try exact dI) only[Q36,push_cast,seval]
        refine ab.pure hn rfl ?_
        refine zgZ ?_
        refine ab.pure hc rfl ?_
        refine zgZ ?_
        refine ab.pure h3 rfl ?_
        exact qsZ
       ·by_cases hq90:q=[90]
        ·subst hq90
         rw[if_neg (by simp[hm0])]
         simp only
         unfold Bc
         generalize lO y m d=R at *
         obtain⟨R1,R2⟩:=R
         simp only at hd hrg hee ⊢
         rcases hee with hz | hz
         ·have hrg':=hrg hz
          subst hz
          by_cases c1:23<h
          ·rw[if_pos (Or.inr (Or.inl c1))]
           refine ae.intro Q36.2 (by simp[Q36]) ?_
           simp(disch:=try exact dI) only[Q36,push_cast,seval]
           refine ab.pure hn rfl ?_
           refine zgZ ?_
           refine ab.pure hc rfl ?_
           refine zgZ ?_
           refine ab.pure h3 rfl ?_
           simp(disch:=try exact dI) only[aE,rE1,rE2,rE3,rE4,rE5,push_cast,seval]
           refine ag hd rfl ?_
           simp(disch:=try exact dI) only[aE,rE1,rE2,rE3,rE4,rE5,push_cast,seval]
          by_cases c2:59<mi
          ·rw[if_pos (Or.inr (Or.inr (Or.inl c2)))]
           refine ae.intro Q36.2 (by simp[Q36]) ?_
           simp(disch:=try exact dI) only[Q36,push_cast,seval]
           refine ab.pure hn rfl ?_
           refine zgZ ?_
           refine ab.pure hc rfl ?_
           refine zgZ ?_
           refine ab.pure h3 rfl ?_
           simp(disch:=try exact dI) only[aE,rE1,rE2,rE3,rE4,rE5,push_cast,seval]
           refine ag hd rfl ?_
           simp(disch:=try exact dI) only[aE,rE1,rE2,rE3,rE4,rE5,push_cast,seval]
          by_cases c3:59<sec
          ·rw[if_pos (Or.inr (Or.inr (Or.inr c3)))]
           refine ae.intro Q36.2 (by simp[Q36]) ?_
           simp(disch:=try exact dI) only[Q36,push_cast,seval]
           refine ab.pure hn rfl ?_
           refine zgZ ?_
           refine ab.pure hc rfl ?_
           refine zgZ ?_
           refine ab.pure h3 rfl ?_
           simp(disch:=try exact dI) only[aE,rE1,rE2,rE3,rE4,rE5,push_cast,seval]
           refine ag hd rfl ?_
           simp(disch:=try exact dI) only[aE,rE1,rE2,rE3,rE4,rE5,push_cast,seval]
          rw[if_neg (by simp;omega)]
          have hj:=Kf hrg' (r:=((60*h+mi)*60+sec)*1000+ms) (by omega)
          refine ae.intro Q36.2 (by simp[Q36]) ?_
          simp(disch:=try exact dI) only[Q36,push_cast,seval]
          refine ab.pure hn rfl ?_
          refine zgZ ?_
          refine ab.pure hc rfl ?_
          refine zgZ ?_
          refine ab.pure h3 rfl ?_
          simp(disch:=try exact dI) only[aE,rE1,rE2,rE3,rE4,rE5,push_cast,seval]
          refine ag hd rfl ?_
          simp(disch:=try exact dI) only[aE,rE1,rE2,rE3,rE4,rE5,push_cast,seval]
          refine ag hj rfl ?_
          exact qsZ
         ·subst hz
          rw[if_pos (Or.inl (by decide))]
          refine ae.intro Q36.2 (by simp[Q36]) ?_
          simp(disch:=try exact dI) only[Q36,push_cast,seval]
          refine ab.pure hn rfl ?_
          refine zgZ ?_
          refine ab.pure hc rfl ?_
          refine zgZ ?_
          refine ab.pure h3 rfl ?_
          simp(disch:=try exact dI) only[aE,rE1,rE2,rE3,rE4,rE5,push_cast,seval]
          refine ag hd rfl ?_
          simp(disch:=try exact dI) only[aE,rE1,rE2,rE3,rE4,rE5,push_cast,seval]
        ·rw[if_pos (Or.inr hq90)]
         have hqd:(!decide (q=[90]))=true:=by simp[hq90]
         refine ae.intro Q36.2 (by simp[Q36]) ?_
         simp(disch:=try exact dI) only[Q36,push_cast,seval]
         refine ab.pure hn rfl ?_
         refine zgZ ?_
         refine ab.pure hc rfl ?_
         refine zgZ ?_
         refine ab.pure h3 rfl ?_
         simp(disch:=try exact dI) only[hqd,push_cast,seval]
   | false=>
     rw[hb] at hc
     simp only[Bool.false_eq_true,if_false] at hc
     unfold rL
     rw[hb,if_neg (by simp)]
     by_cases hr90:r=[90]
     ·subst hr90
      rw[if_pos rfl]
      simp only
      unfold Bc
      generalize lO y m d=R at *
      obtain⟨R1,R2⟩:=R
      simp only at hd hrg hee ⊢
      rcases hee with hz | hz
      ·have hrg':=hrg hz
       subst hz
       by_cases c1:23<h
       ·rw[if_pos (Or.inr (Or.inl c1))]
        refine ae.intro Q36.2 (by simp[Q36]) ?_
        simp(disch:=try exact dI) only[Q36,push_cast,seval]
        refine ab.pure hn rfl ?_
        refine zgZ ?_
        refine ab.pure hc rfl ?_
        simp(disch:=try exact dI) only[aE,rE1,rE2,rE3,rE4,rE5,push_cast,seval]
        refine ag hd rfl ?_
        simp(disch:=try exact dI) only[aE,rE1,rE2,rE3,rE4,rE5,push_cast,seval]
       by_cases c2:59<mi
       ·rw[if_pos (Or.inr (Or.inr (Or.inl c2)))]
        refine ae.intro Q36.2 (by simp[Q36]) ?_
        simp(disch:=try exact dI) only[Q36,push_cast,seval]
        refine ab.pure hn rfl ?_
        refine zgZ ?_
        refine ab.pure hc rfl ?_
        simp(disch:=try exact dI) only[aE,rE1,rE2,rE3,rE4,rE5,push_cast,seval]
        refine ag hd rfl ?_
        simp(disch:=try exact dI) only[aE,rE1,rE2,rE3,rE4,rE5,push_cast,seval]
       by_cases c3:59<sec
       ·rw[if_pos (Or.inr (Or.inr (Or.inr c3)))]
        refine ae.intro Q36.2 (by simp[Q36]) ?_
        simp(disch:=try exact dI) only[Q36,push_cast,seval]
        refine ab.pure hn rfl ?_
        refine zgZ ?_
        refine ab.pure hc rfl ?_
        simp(disch:=try exact dI) only[aE,rE1,rE2,rE3,rE4,rE5,push_cast,seval]
        refine ag hd rfl ?_
        simp(disch:=try exact dI) only[aE,rE1,rE2,rE3,rE4,rE5,push_cast,seval]
       rw[if_neg (by simp;omega)]
       have hj:=Kf hrg' (r:=((60*h+mi)*60+sec)*1000+0) (by omega)
       refine ae.intro Q36.2 (by simp[Q36]) ?_
       simp(disch:=try exact dI) only[Q36,push_cast,seval]
       refine ab.pure hn rfl ?_
       refine zgZ ?_
       refine ab.pure hc rfl ?_
       simp(disch:=try exact dI) only[aE,rE1,rE2,rE3,rE4,rE5,push_cast,seval]
       refine ag hd rfl ?_
       simp(disch:=try exact dI) only[aE,rE1,rE2,rE3,rE4,rE5,push_cast,seval]
       refine ag hj rfl ?_
       exact qsZ
      ·subst hz
       rw[if_pos (Or.inl (by decide))]
       refine ae.intro Q36.2 (by simp[Q36]) ?_
       simp(disch:=try exact dI) only[Q36,push_cast,seval]
       refine ab.pure hn rfl ?_
       refine zgZ ?_
       refine ab.pure hc rfl ?_
       simp(disch:=try exact dI) only[aE,rE1,rE2,rE3,rE4,rE5,push_cast,seval]
       refine ag hd rfl ?_
       simp(disch:=try exact dI) only[aE,rE1,rE2,rE3,rE4,rE5,push_cast,seval]
     ·rw[if_neg hr90]
      have hrd:(!decide (r=[90]))=true:=by simp[hr90]
      refine ae.intro Q36.2 (by simp[Q36]) ?_
      simp(disch:=try exact dI) only[Q36,push_cast,seval]
      refine ab.pure hn rfl ?_
      refine zgZ ?_
      refine ab.pure hc rfl ?_
      simp(disch:=try exact dI) only[hrd,push_cast,seval]
structure NumsT (s:List UInt8)(y m d h mi sec:Int):Prop where
 len:19<=s.length
 day:ca (s.take 10)=lO y m d
 h1:((s.drop 11).take 2).all isD=true
 h2:h=io 0 ((s.drop 11).take 2)
 m1:((s.drop 14).take 2).all isD=true
 m2:mi=io 0 ((s.drop 14).take 2)
 s1:((s.drop 17).take 2).all isD=true
 s2:sec=io 0 ((s.drop 17).take 2)
end Go.Proofs.YtbaaokocnegdoaaGreatDoor

/- A part. -/
import Derived.Test.YtbaaokocnegdoaaGreatDoorEnV19
set_option linter.unusedVariables false
set_option linter.unusedSimpArgs false
set_option maxHeartbeats 16000000
set_option maxRecDepth 100000
open List renaming length_cons->Vq,getElem?_eq_getElem->Vg,mem_of_getElem?->Vk,take_length->VR,map_cons->VG,map_nil->Vo
open Nat renaming pow_le_pow_right->Wg
open Bool renaming false_eq_true->Vz
open Option renaming map_none->WK,map_eq_some_iff->Vi
namespace Go.Proofs.YtbaaokocnegdoaaGreatDoor
open Go Go.Ab
attribute [local irreducible] vc
def isD (c:UInt8):Bool:=decide (48<=c.toNat)&&decide (c.toNat<=57)
def je:Int->List UInt8->Int
 | n,[]=>n
 | n,c::r=>je (10*n+((c.toNat:Int) - 48)) r
theorem kK (c:UInt8):∀ (l:List UInt8) (n:Int),je n (l++[c])=10*je n l+((c.toNat:Int) - 48)
 | [],n=>rfl
 | d::l,n=>by simp only[List.cons_append,je];exact kK c l _
theorem mh {c:UInt8}(h:isD c=true):48<=c.toNat/\c.toNat<=57:=by simpa[isD] using h
theorem dx:∀ (l:List UInt8) (n:Int),0<=n->l.all isD=true->0<=je n l/\je n l+1<=(n+1)*((10 ^ l.length:Nat):Int)
 | [],n,h0,_=>by simp[je];omega
 | c::r,n,h0,hd=>by
   simp only[List.all_cons,Bool.and_eq_true] at hd
   have hc:=mh hd.1
   have ih:=dx r (10*n+((c.toNat:Int) - 48)) (by omega) hd.2
   refine⟨ih.1,Int.le_trans ih.2 ?_⟩
   rw[Vq,Nat.pow_succ]
   have hp:(0:Int)<=((10 ^ r.length:Nat):Int):=Int.natCast_nonneg _
   have h1:(10*n+((c.toNat:Int) - 48)+1)*((10 ^ r.length:Nat):Int)<=((n+1)*10)*((10 ^ r.length:Nat):Int):=Int.mul_le_mul_of_nonneg_right (by omega) hp
   have h2:((n+1)*10)*((10 ^ r.length:Nat):Int)=(n+1)*((10 ^ r.length*10:Nat):Int):=by
    rw[Int.mul_assoc,Int.natCast_mul,Int.mul_comm (10:Int)];rfl
   exact Int.le_trans h1 (Int.le_of_eq h2)
theorem QB {l:List UInt8}(h:l.all isD=true)(hl:l.length<=9):0<=je 0 l/\je 0 l<=999999999:=by
 have:=dx l 0 (by omega) h
 have hp:10 ^ l.length<=10 ^ 9:=Wg (by omega) hl
 omega
def tr (k:Nat)(s:List UInt8):Option (Int×List UInt8):=if k<=s.length/\(s.take k).all isD=true then some (je 0 (s.take k),s.drop k) else none
def Ke (s:List UInt8):Option (Int×List UInt8)->PV
 | some p=>.tup [.int .i64 p.1,.str p.2,.bool true]
 | none=>.tup [.int .i64 0,.str s,.bool false]
theorem vH (s:List UInt8)(k:Nat)(hk:k<=8):ae Tryz.prog aq 77 [.str s,.int .i64 (k:Int)] (Ke s (tr k s)):=by
 refine ae.intro Q77.2 (by simp[Q77]) ?_
 by_cases hl:s.length<k
 ·rw[show tr k s=none from if_neg (by omega)]
  simp(disch:=try exact dI) only[Q77,Ke,push_cast,seval]
 ·obtain⟨R,hR⟩:∃ R,R=tr k s:=⟨_,rfl⟩
  rw[<- hR]
  simp(disch:=try exact dI) only[Q77,push_cast,seval]
  refine ap ([]) (fun i:Nat=>[(4,.pv (.int .i64 (je 0 (s.take i)))),(14,.pv (.int .i64 (i:Int)))]) (fun _=>[]) (fun i=>i<=k/\(s.take i).all isD=true) (fun i=>k - i) (0) ?_;intro e0 σ0 n0 h0;simp(disch:=try exact dI) only[push_cast,seval] at h0;obtain⟨rfl,rfl,rfl⟩:=h0;refine⟨?_,?_,?_⟩
  ·refine zgZ ?_
   rfl
  ·exact⟨by omega,by simp⟩
  rintro i ⟨hi,hd⟩
  have hdl:=QB hd (by simp;omega)
  by_cases hlt:i<k
  ·obtain⟨c,hc⟩:∃ c,s[i]? = some c:=⟨_,Vg (by omega)⟩
   have hcl:=c.toNat_lt
   have hw:=ii (n:=(c.toNat:Int)) (by omega) (by omega)
   have hts:=aD hc
   by_cases hcd:isD c=true
   ·have hb:=mh hcd
    have hin:=d9 (n:=(c.toNat:Int)) (lo:=48) (hi:=57) ⟨by omega,by omega⟩
    have hw2:=ii (n:=(c.toNat:Int) - 48) (by omega) (by omega)
    have hdv:je 0 (s.take (i+1))=10*je 0 (s.take i)+((c.toNat:Int) - 48):=by rw[hts,kK]
    have hd2:(s.take (i+1)).all isD=true:=by rw[hts,List.all_append,hd];simp[hcd]
    simp(disch:=try exact dI) only[hc,am,hw,push_cast,seval]
    refine ab.pure hin rfl ?_
    simp(disch:=try exact dI) only[hc,am,hw2,push_cast,seval]
    exact⟨i+1,aI (by simp(disch:=try exact dI) only[hdv,push_cast,seval]),⟨by omega,hd2⟩,by omega⟩
   ·have hin:=pc (n:=(c.toNat:Int)) (lo:=48) (hi:=57) (fun h=>hcd (by simp[isD];omega))
    have hnone:R=none:=by
     rw[hR]
     refine if_neg fun h=>hcd ?_
     exact List.all_eq_true.1 h.2 c (Vk (i:=i) (by rw[List.getElem?_take_of_lt hlt];exact hc))
    rw[hnone]
    simp(disch:=try exact dI) only[hc,am,hw,push_cast,seval]
    refine ab.pure hin rfl ?_
    simp(disch:=try exact dI) only[Ke,push_cast,seval]
  ·have hik:i=k:=by omega
   subst hik
   have hsome:R=some (je 0 (s.take i),s.drop i):=by rw[hR];exact if_pos ⟨by omega,hd⟩
   rw[hsome]
   simp(disch:=try exact dI) only[Ke,VR,push_cast,seval]
theorem D3 (s p:List UInt8):ae Tryz.prog aq 177 [.str s,.str p] (.bool (decide (s.take p.length=p/\p.length<=s.length))):=by
 refine ae.intro N8.2 (by simp[N8]) ?_
 by_cases hl:p.length<=s.length
 ·by_cases he:s.take p.length=p
  ·rw[show decide (s.take p.length=p/\p.length<=s.length)=true from decide_eq_true ⟨he,hl⟩]
   simp(disch:=try exact dI) only[N8,he,push_cast,seval]
  ·rw[show decide (s.take p.length=p/\p.length<=s.length)=false from decide_eq_false (fun h=>he h.1)]
   simp(disch:=try exact dI) only[N8,he,push_cast,seval]
 ·rw[show decide (s.take p.length=p/\p.length<=s.length)=false from decide_eq_false (fun h=>hl h.2)]
  simp(disch:=try exact dI) only[N8,push_cast,seval]
def sk (p s:List UInt8):Bool:=decide (s.take p.length=p/\p.length<=s.length)
theorem EX (s p:List UInt8):ae Tryz.prog aq 128 [.str s,.str p] (.tup [.str (if sk p s=true then s.drop p.length else s),.bool (sk p s)]):=by
 have hp:=D3 s p
 have hl:sk p s=true->p.length<=s.length:=fun h=>(of_decide_eq_true h).2
 refine ae.intro OU.2 (by simp[OU]) ?_
 change ae Tryz.prog aq 177 [.str s,.str p] (.bool (sk p s)) at hp
 cases hb:sk p s with
 | true=>
   have:=hl hb
   rw[hb] at hp
   simp only[if_true]
   simp(disch:=try exact dI) only[OU,push_cast,seval]
   refine ab.pure hp rfl ?_
   simp(disch:=try exact dI) only[VR,push_cast,seval]
 | false=>
   rw[hb] at hp
   simp only[Vz,if_false]
   simp(disch:=try exact dI) only[OU,push_cast,seval]
   refine ab.pure hp rfl ?_
   exact qsZ
theorem wA (s p:List UInt8):ae Tryz.prog aq 76 [.str s,.str p] (.tup [.str (if sk p s=true then s.drop p.length else s),.bool (sk p s)]):=by
 have h:=EX s p
 generalize (if sk p s=true then s.drop p.length else s)=q at *
 generalize sk p s=b at *
 refine ae.intro Q76.2 (by simp[Q76]) ?_
 simp(disch:=try exact dI) only[Q76,push_cast,seval]
 refine ab.pure h rfl ?_
 exact qsZ
def cQ:List (List UInt8)->List Nat->List UInt8->Option (List Int×List UInt8)
 | [],_,s=>some ([],s)
 | _::_,[],_=>none
 | m::ms,k::ks,s=>if sk m s=true then (match tr k (s.drop m.length) with
   | some p=>(cQ ms ks p.2).map fun q=>(p.1::q.1,q.2)
   | none=>none) else none
def qM (s:List UInt8):Option (List Int×List UInt8)->PV
 | some p=>.tup [.list (p.1.map (PV.int .i64)),.str p.2,.bool true]
 | none=>.tup [.nils,.str s,.bool false]
theorem qN (s:List UInt8)(ms:List (List UInt8))(ks:List Nat)(hm:ms.length=ks.length)(hl:ms.length<=100)(hk:∀ k,k∈ks->k<=8) :
  ae Tryz.prog aq 74 [.str s,.list (ms.map PV.str),.list (ks.map gj)] (qM s (cQ ms ks s)):=by
 obtain⟨R,hR⟩:∃ R,R=cQ ms ks s:=⟨_,rfl⟩
 rw[<- hR]
 refine ae.intro Q74.2 (by simp[Q74]) ?_
 simp(disch:=try exact dI) only[Q74,push_cast,seval]
 refine ap ([(6,0,3,1)]) (fun y:Nat×List Int×List UInt8=>[(6,.olist 0 1 (y.2.1.map (PV.int .i64))),(7,.pv (.str y.2.2)),(15,.pv (.int .i64 (y.1:Int)))]) (fun _=>[]) (fun y=>y.1<=ms.length/\y.2.1.length<=y.1/\R=(cQ (ms.drop y.1) (ks.drop y.1) y.2.2).map fun q=>(y.2.1++q.1,q.2)) (fun y=>ms.length - y.1) ((0,[],s)) ?_;intro e0 σ0 n0 h0;simp(disch:=try exact dI) only[push_cast,seval] at h0;obtain⟨rfl,rfl,rfl⟩:=h0;refine⟨?_,?_,?_⟩
 ·exact qsZ
 ·exact⟨by simp,by simp,by simp[hR]⟩
 rintro⟨i,L,r⟩ ⟨h1,h2,h3⟩
 simp only at h1 h2 h3
 by_cases hlt:i<ms.length
 ·obtain⟨m,hmi⟩:∃ m,ms[i]? = some m:=⟨_,Vg hlt⟩
  obtain⟨k,hki⟩:∃ k,ks[i]? = some k:=⟨_,Vg (by omega)⟩
  have hmp:(ms.map PV.str)[i]? = some (.str m):=by simp[hmi]
  have hkp:(ks.map gj)[i]? = some (.int .i64 (k:Int)):=by simp[hki,gj]
  have hk8:=hk k (Vk hki)
  have hc:=wA r m
  rw[bD hmi,bD hki] at h3
  simp only[cQ] at h3
  cases hb:sk m r with
  | false=>
    rw[hb] at hc h3
    simp only[Vz,if_false,WK] at hc h3
    rw[h3]
    simp(disch:=try exact dI) only[hmp,push_cast,seval]
    refine ab.pure hc rfl ?_
    simp(disch:=try exact dI) only[qM,push_cast,seval]
  | true=>
    rw[hb] at hc h3
    simp only[if_true] at hc h3
    have hn:=vH (r.drop m.length) k hk8
    cases hv:tr k (r.drop m.length) with
    | none=>
      rw[hv] at hn h3
      simp only[Ke,WK] at hn h3
      rw[h3]
      simp(disch:=try exact dI) only[hmp,push_cast,seval]
      refine ab.pure hc rfl ?_
      simp(disch:=try exact dI) only[hkp,push_cast,seval]
      refine ab.pure hn rfl ?_
      simp(disch:=try exact dI) only[qM,push_cast,seval]
    | some p=>
      rw[hv] at hn h3
      simp only[Ke] at hn h3
      simp(disch:=try exact dI) only[hmp,push_cast,seval]
      refine ab.pure hc rfl ?_
      simp(disch:=try exact dI) only[hkp,push_cast,seval]
      refine ab.pure hn rfl ?_
      refine zgZ ?_
      exact⟨(i+1,L++[p.1],p.2),aI (by simp(disch:=try exact dI) only[List.map_append,push_cast,seval]),⟨by simp only;omega,by simp;omega,by rw[h3,Option.map_map];congr 1;funext q;simp⟩,by simp only;omega⟩
 ·have hi:i=ms.length:=by omega
  have hd1:ms.drop i=[]:=List.drop_eq_nil_of_le (by omega)
  rw[hd1] at h3
  simp only[cQ,Option.map_some,List.append_nil] at h3
  rw[h3]
  simp(disch:=try exact dI) only[qM,push_cast,seval]
def mO (y m d:Int):Int×Int:=if 1<=y/\y<=9999/\1<=m/\m<=12/\1<=d/\d<=mdI y m then (dT y m.toNat d - 719162,0) else (0,17)
theorem ue {y m d:Int}(h:1<=y/\y<=9999/\1<=m/\m<=12/\1<=d/\d<=mdI y m):DateOk y m.toNat d/\((m.toNat:Nat):Int)=m:=by
 have e:((m.toNat:Nat):Int)=m:=by omega
 exact⟨⟨h.1,h.2.1,by omega,by omega,h.2.2.2.2.1,by rw[e];exact h.2.2.2.2.2⟩,e⟩
theorem NA {y m d:Int}(h:¬ (1<=y/\y<=9999/\1<=m/\m<=12/\1<=d/\d<=mdI y m))(k:Nat)(hk:m=k):¬ DateOk y k d:=by
 intro hd
 subst hk
 exact h ⟨hd.y1,hd.y2,by have:=hd.m1;omega,by have:=hd.m2;omega,hd.d1,hd.d2⟩
theorem Kw (y m d:Int):ae Tryz.prog aq 75 [.int .i64 y,.int .i64 m,.int .i64 d] (.tup [.int .i64 (mO y m d).1,.int .i64 (mO y m d).2]):=by
 unfold mO
 by_cases h:1<=y/\y<=9999/\1<=m/\m<=12/\1<=d/\d<=mdI y m
 ·rw[if_pos h]
  obtain⟨h1,h2⟩:=ue h
  have:=QF h1
  rwa [h2] at this
 ·rw[if_neg h]
  exact QG (NA h)
theorem Ky (y m d:Int):(mO y m d).2=0\/(mO y m d).2=17:=by unfold mO;split<;>simp
theorem lV:∀ {ms:List (List UInt8)} {ks:List Nat} {s:List UInt8} {p:List Int×List UInt8},cQ ms ks s=some p->p.1.length=ms.length
 | [],_,s,p,h=>by simp only[cQ] at h;cases h;rfl
 | m::ms,[],s,p,h=>by simp[cQ] at h
 | m::ms,k::ks,s,p,h=>by
   simp only[cQ] at h
   split at h
   ·cases hn:tr k (s.drop m.length) with
    | none=>rw[hn] at h;cases h
    | some q=>
      rw[hn] at h
      simp only[Vi] at h
      obtain⟨r,hr,rfl⟩:=h
      simp[lV hr]
   ·cases h
def cz (s:List UInt8):Int×Int:=
 match cQ [[],[45],[45]] [4,2,2] s with
 | some ([y,m,d],[])=>mO y m d
 | _=>(0,13)
theorem rE1 (sz:Nat)(l:List PV):eS sz l 1=dO sz l 1 l[1]?:=rfl
theorem rE2 (sz:Nat)(l:List PV):eS sz l 2=dO sz l 2 l[2]?:=rfl
theorem Mq (s:List UInt8):ae Tryz.prog aq 35 [.str s] (.tup [.int .i64 (cz s).1,.int .i64 (cz s).2]):=by
 have hn:=qN s [[],[45],[45]] [4,2,2] rfl (by simp) (by simp)
 simp only[VG,Vo,gj] at hn
 unfold cz
 cases hv:cQ [[],[45],[45]] [4,2,2] s with
 | none=>
   rw[hv] at hn
   simp only[qM] at hn
   refine ae.intro Q35.2 (by simp[Q35]) ?_
   simp(disch:=try exact dI) only[Q35,push_cast,seval]
   refine ab.pure hn rfl ?_
   exact qsZ
 | some p=>
   have hl:=lV hv
   obtain⟨l,r⟩:=p
   simp only at hl
   obtain⟨y,m,d,rfl⟩:∃ y m d,l=[y,m,d]:=by
    match l,hl with
    | [y,m,d],_=>exact⟨y,m,d,rfl⟩
   rw[hv] at hn
   simp only[qM,VG,Vo] at hn
   cases r with
   | nil=>
     have hd:=Kw y m d
     refine ae.intro Q35.2 (by simp[Q35]) ?_
     simp(disch:=try exact dI) only[Q35,push_cast,seval]
     refine ab.pure hn rfl ?_
     simp(disch:=try exact dI) only[rE1,rE2,push_cast,seval]
     refine ak hd rfl ?_
     exact qsZ
   | cons c r=>
     have hcr:(!decide (c::r=[]))=true:=by simp
     refine ae.intro Q35.2 (by simp[Q35]) ?_
     simp(disch:=try exact dI) only[Q35,push_cast,seval]
     refine ab.pure hn rfl ?_
     simp(disch:=try exact dI) only[hcr,push_cast,seval]
theorem eA {m:List UInt8}{ms:List (List UInt8)}{k:Nat}{ks:List Nat}{s:List UInt8}{v:Int}{l:List Int}{r:List UInt8}(h:cQ (m::ms) (k::ks) s=some (v::l,r)) :
  k<=(s.drop m.length).length/\((s.drop m.length).take k).all isD=true/\v=je 0 ((s.drop m.length).take k)/\cQ ms ks ((s.drop m.length).drop k)=some (l,r):=by
 simp only[cQ] at h
 split at h
 ·unfold tr at h
  split at h
  ·rename_i hc
   split at hc
   ·rename_i hd
    cases hc
    simp only[Vi] at h
    obtain⟨a,ha,he⟩:=h
    cases he
    exact⟨hd.1,hd.2,rfl,ha⟩
   ·cases hc
  ·cases h
 ·cases h
def Bw (y m d h mi s ms:Int):Int×Int:=if (mO y m d).2≠0\/23<h\/59<mi\/59<s then (0,17) else ((mO y m d).1*86400000+(((60*h+mi)*60+s)*1000+ms),0)
def sy (r:List UInt8):Option Int:=
 if sk [46] r=true then (match tr 3 (r.drop 1) with
  | some p=>if p.1=0\/p.2≠[90] then none else some p.1
  | none=>none) else if r=[90] then some 0 else none
def msT:List (List UInt8):=[[],[45],[45],[84],[58],[58]]
def ksT:List Nat:=[4,2,2,2,2,2]
def cy (s:List UInt8):Int×Int:=
 match cQ msT ksT s with
 | some ([y,m,d,h,mi,sec],r)=>(match sy r with
   | some ms=>Bw y m d h mi sec ms
   | none=>(0,13))
 | _=>(0,13)
theorem oj {y m d:Int}(h:(mO y m d).2=0):-719162<=(mO y m d).1/\(mO y m d).1<=2932896:=by
 unfold mO at h ⊢
 split
 ·rename_i hd
  have:=cq (ue hd).1
  simp only
  omega
 ·rename_i hd
  rw[if_neg hd] at h;simp at h
theorem Kk {d r:Int}(h1:-719162<=d/\d<=2932896)(h2:0<=r/\r<=86399999):ae Tryz.prog aq 78 [.int .i64 d,.int .i64 r] (.tup [.int .i64 (d*86400000+r),.int .i64 0]):=by
 have hi1:=d9 h1
 have hi2:=d9 h2
 refine ae.intro Q78.2 (by simp[Q78]) ?_
 simp(disch:=try exact dI) only[Q78,push_cast,seval]
 refine ab.pure hi1 rfl ?_
 refine zgZ ?_
 refine ab.pure hi2 rfl ?_
 exact qsZ
theorem Bv {l:List UInt8}(h:(l.take 2).all isD=true):0<=je 0 (l.take 2)/\je 0 (l.take 2)<=99:=by
 have:=dx _ 0 (by omega) h
 have hp:10 ^ (l.take 2).length<=10 ^ 2:=Wg (by omega) (by simp;omega)
 omega
theorem uP {l:List UInt8}(h:(l.take 3).all isD=true):0<=je 0 (l.take 3)/\je 0 (l.take 3)<=999:=by
 have:=dx _ 0 (by omega) h
 have hp:10 ^ (l.take 3).length<=10 ^ 3:=Wg (by omega) (by simp;omega)
 omega
theorem rE3 (sz:Nat)(l:List PV):eS sz l 3=dO sz l 3 l[3]?:=rfl
theorem rE4 (sz:Nat)(l:List PV):eS sz l 4=dO sz l 4 l[4]?:=rfl
theorem rE5 (sz:Nat)(l:List PV):eS sz l 5=dO sz l 5 l[5]?:=rfl
theorem tf (s:List UInt8):ae Tryz.prog aq 36 [.str s] (.tup [.int .i64 (cy s).1,.int .i64 (cy s).2]):=by
 have hn:=qN s msT ksT rfl (by simp[msT]) (by simp[ksT])
 unfold cy
 cases hv:cQ msT ksT s with
 | none=>
   rw[hv] at hn
   simp only[qM,msT,ksT,VG,Vo,gj] at hn
   refine ae.intro Q36.2 (by simp[Q36]) ?_
   simp(disch:=try exact dI) only[Q36,push_cast,seval]
   refine ab.pure hn rfl ?_
   exact qsZ
 | some p=>
   have hl:=lV hv
   obtain⟨l,r⟩:=p
   simp only[msT] at hl
   obtain⟨y,m,d,h,mi,sec,rfl⟩:∃ y m d h mi sec,l=[y,m,d,h,mi,sec]:=by
    match l,hl with
    | [y,m,d,h,mi,sec],_=>exact⟨y,m,d,h,mi,sec,rfl⟩
   have hv':=hv
   simp only[msT,ksT] at hv'
   obtain⟨_,_,_,n1⟩:=eA hv'
   obtain⟨_,_,_,n2⟩:=eA n1
   obtain⟨_,_,_,n3⟩:=eA n2
   obtain⟨_,g4,v4,n4⟩:=eA n3
   obtain⟨_,g5,v5,n5⟩:=eA n4
   obtain⟨_,g6,v6,n6⟩:=eA n5
   have b4:=Bv g4
   have b5:=Bv g5
   have b6:=Bv g6
   rw[<- v4] at b4
   rw[<- v5] at b5
   rw[<- v6] at b6
   clear g4 g5 g6 v4 v5 v6 n1 n2 n3 n4 n5 n6 hv'
   rw[hv] at hn
   simp only[qM,msT,ksT,VG,Vo,gj] at hn
   have hc:=wA r [46]
   have hd:=Kw y m d
   have hrg:=fun h=>oj (y:=y) (m:=m) (d:=d) h
   have hee:=Ky y m d
   have main:∀ ms:Int,0<=ms->ms<=999->True:=fun _ _ _=>trivial
   simp only
   cases hb:sk [46] r with
   | true=>
     rw[hb] at hc
     simp only[if_true,Vq,List.length_nil,Nat.zero_add] at hc
     have h3:=vH (r.drop 1) 3 (by omega)
     unfold sy
     rw[hb,if_pos rfl]
     cases hq:tr 3 (r.drop 1) with
     | none=>
       rw[hq] at h3
       simp only[Ke] at h3
       refine ae.intro Q36.2 (by simp[Q36]) ?_
       simp(disch:=try exact dI) only[Q36,push_cast,seval]
       refine ab.pure hn rfl ?_
       refine zgZ ?_
       refine ab.pure hc rfl ?_
       refine zgZ ?_
       refine ab.pure h3 rfl ?_
       exact qsZ
     | some q=>
       rw[hq] at h3
       simp only[Ke] at h3
       obtain⟨ms,q⟩:=q
       simp only at h3 ⊢
       have hms:0<=ms/\ms<=999:=by
        unfold tr at hq
        split at hq
        ·rename_i hh
         cases hq
         exact uP hh.2
        ·cases hq
       by_cases hm0:ms=0
       ·rw[if_pos (Or.inl hm0)]
        subst hm0
        refine ae.intro Q36.2 (by simp[Q36]) ?_
        simp(disch:=try exact dI) only[Q36,push_cast,seval]
        refine ab.pure hn rfl ?_
        refine zgZ ?_
        refine ab.pure hc rfl ?_
        refine zgZ ?_
        refine ab.pure h3 rfl ?_
        exact qsZ
       ·by_cases hq90:q=[90]
        ·subst hq90
         rw[if_neg (by simp[hm0])]
         simp only
         unfold Bw
         generalize mO y m d=R at *
         obtain⟨R1,R2⟩:=R
         simp only at hd hrg hee ⊢
         rcases hee with hz | hz
         ·have hrg':=hrg hz
          subst hz
          by_cases c1:23<h
          ·rw[if_pos (Or.inr (Or.inl c1))]
           refine ae.intro Q36.2 (by simp[Q36]) ?_
           simp(disch:=try exact dI) only[Q36,push_cast,seval]
           refine ab.pure hn rfl ?_
           refine zgZ ?_
           refine ab.pure hc rfl ?_
           refine zgZ ?_
           refine ab.pure h3 rfl ?_
           simp(disch:=try exact dI) only[az,rE1,rE2,rE3,rE4,rE5,push_cast,seval]
           refine ak hd rfl ?_
           simp(disch:=try exact dI) only[az,rE1,rE2,rE3,rE4,rE5,push_cast,seval]
          by_cases c2:59<mi
          ·rw[if_pos (Or.inr (Or.inr (Or.inl c2)))]
           refine ae.intro Q36.2 (by simp[Q36]) ?_
           simp(disch:=try exact dI) only[Q36,push_cast,seval]
           refine ab.pure hn rfl ?_
           refine zgZ ?_
           refine ab.pure hc rfl ?_
           refine zgZ ?_
           refine ab.pure h3 rfl ?_
           simp(disch:=try exact dI) only[az,rE1,rE2,rE3,rE4,rE5,push_cast,seval]
           refine ak hd rfl ?_
           simp(disch:=try exact dI) only[az,rE1,rE2,rE3,rE4,rE5,push_cast,seval]
          by_cases c3:59<sec
          ·rw[if_pos (Or.inr (Or.inr (Or.inr c3)))]
           refine ae.intro Q36.2 (by simp[Q36]) ?_
           simp(disch:=try exact dI) only[Q36,push_cast,seval]
           refine ab.pure hn rfl ?_
           refine zgZ ?_
           refine ab.pure hc rfl ?_
           refine zgZ ?_
           refine ab.pure h3 rfl ?_
           simp(disch:=try exact dI) only[az,rE1,rE2,rE3,rE4,rE5,push_cast,seval]
           refine ak hd rfl ?_
           simp(disch:=try exact dI) only[az,rE1,rE2,rE3,rE4,rE5,push_cast,seval]
          rw[if_neg (by simp;omega)]
          have hj:=Kk hrg' (r:=((60*h+mi)*60+sec)*1000+ms) (by omega)
          refine ae.intro Q36.2 (by simp[Q36]) ?_
          simp(disch:=try exact dI) only[Q36,push_cast,seval]
          refine ab.pure hn rfl ?_
          refine zgZ ?_
          refine ab.pure hc rfl ?_
          refine zgZ ?_
          refine ab.pure h3 rfl ?_
          simp(disch:=try exact dI) only[az,rE1,rE2,rE3,rE4,rE5,push_cast,seval]
          refine ak hd rfl ?_
          simp(disch:=try exact dI) only[az,rE1,rE2,rE3,rE4,rE5,push_cast,seval]
          refine ak hj rfl ?_
          exact qsZ
         ·subst hz
          rw[if_pos (Or.inl (by decide))]
          refine ae.intro Q36.2 (by simp[Q36]) ?_
          simp(disch:=try exact dI) only[Q36,push_cast,seval]
          refine ab.pure hn rfl ?_
          refine zgZ ?_
          refine ab.pure hc rfl ?_
          refine zgZ ?_
          refine ab.pure h3 rfl ?_
          simp(disch:=try exact dI) only[az,rE1,rE2,rE3,rE4,rE5,push_cast,seval]
          refine ak hd rfl ?_
          simp(disch:=try exact dI) only[az,rE1,rE2,rE3,rE4,rE5,push_cast,seval]
        ·rw[if_pos (Or.inr hq90)]
         have hqd:(!decide (q=[90]))=true:=by simp[hq90]
         refine ae.intro Q36.2 (by simp[Q36]) ?_
         simp(disch:=try exact dI) only[Q36,push_cast,seval]
         refine ab.pure hn rfl ?_
         refine zgZ ?_
         refine ab.pure hc rfl ?_
         refine zgZ ?_
         refine ab.pure h3 rfl ?_
         simp(disch:=try exact dI) only[hqd,push_cast,seval]
   | false=>
     rw[hb] at hc
     simp only[Vz,if_false] at hc
     unfold sy
     rw[hb,if_neg (by simp)]
     by_cases hr90:r=[90]
     ·subst hr90
      rw[if_pos rfl]
      simp only
      unfold Bw
      generalize mO y m d=R at *
      obtain⟨R1,R2⟩:=R
      simp only at hd hrg hee ⊢
      rcases hee with hz | hz
      ·have hrg':=hrg hz
       subst hz
       by_cases c1:23<h
       ·rw[if_pos (Or.inr (Or.inl c1))]
        refine ae.intro Q36.2 (by simp[Q36]) ?_
        simp(disch:=try exact dI) only[Q36,push_cast,seval]
        refine ab.pure hn rfl ?_
        refine zgZ ?_
        refine ab.pure hc rfl ?_
        simp(disch:=try exact dI) only[az,rE1,rE2,rE3,rE4,rE5,push_cast,seval]
        refine ak hd rfl ?_
        simp(disch:=try exact dI) only[az,rE1,rE2,rE3,rE4,rE5,push_cast,seval]
       by_cases c2:59<mi
       ·rw[if_pos (Or.inr (Or.inr (Or.inl c2)))]
        refine ae.intro Q36.2 (by simp[Q36]) ?_
        simp(disch:=try exact dI) only[Q36,push_cast,seval]
        refine ab.pure hn rfl ?_
        refine zgZ ?_
        refine ab.pure hc rfl ?_
        simp(disch:=try exact dI) only[az,rE1,rE2,rE3,rE4,rE5,push_cast,seval]
        refine ak hd rfl ?_
        simp(disch:=try exact dI) only[az,rE1,rE2,rE3,rE4,rE5,push_cast,seval]
       by_cases c3:59<sec
       ·rw[if_pos (Or.inr (Or.inr (Or.inr c3)))]
        refine ae.intro Q36.2 (by simp[Q36]) ?_
        simp(disch:=try exact dI) only[Q36,push_cast,seval]
        refine ab.pure hn rfl ?_
        refine zgZ ?_
        refine ab.pure hc rfl ?_
        simp(disch:=try exact dI) only[az,rE1,rE2,rE3,rE4,rE5,push_cast,seval]
        refine ak hd rfl ?_
        simp(disch:=try exact dI) only[az,rE1,rE2,rE3,rE4,rE5,push_cast,seval]
       rw[if_neg (by simp;omega)]
       have hj:=Kk hrg' (r:=((60*h+mi)*60+sec)*1000+0) (by omega)
       refine ae.intro Q36.2 (by simp[Q36]) ?_
       simp(disch:=try exact dI) only[Q36,push_cast,seval]
       refine ab.pure hn rfl ?_
       refine zgZ ?_
       refine ab.pure hc rfl ?_
       simp(disch:=try exact dI) only[az,rE1,rE2,rE3,rE4,rE5,push_cast,seval]
       refine ak hd rfl ?_
       simp(disch:=try exact dI) only[az,rE1,rE2,rE3,rE4,rE5,push_cast,seval]
       refine ak hj rfl ?_
       exact qsZ
      ·subst hz
       rw[if_pos (Or.inl (by decide))]
       refine ae.intro Q36.2 (by simp[Q36]) ?_
       simp(disch:=try exact dI) only[Q36,push_cast,seval]
       refine ab.pure hn rfl ?_
       refine zgZ ?_
       refine ab.pure hc rfl ?_
       simp(disch:=try exact dI) only[az,rE1,rE2,rE3,rE4,rE5,push_cast,seval]
       refine ak hd rfl ?_
       simp(disch:=try exact dI) only[az,rE1,rE2,rE3,rE4,rE5,push_cast,seval]
     ·rw[if_neg hr90]
      have hrd:(!decide (r=[90]))=true:=by simp[hr90]
      refine ae.intro Q36.2 (by simp[Q36]) ?_
      simp(disch:=try exact dI) only[Q36,push_cast,seval]
      refine ab.pure hn rfl ?_
      refine zgZ ?_
      refine ab.pure hc rfl ?_
      simp(disch:=try exact dI) only[hrd,push_cast,seval]
structure NumsT (s:List UInt8)(y m d h mi sec:Int):Prop where
 len:19<=s.length
 day:cz (s.take 10)=mO y m d
 h1:((s.drop 11).take 2).all isD=true
 h2:h=je 0 ((s.drop 11).take 2)
 m1:((s.drop 14).take 2).all isD=true
 m2:mi=je 0 ((s.drop 14).take 2)
 s1:((s.drop 17).take 2).all isD=true
 s2:sec=je 0 ((s.drop 17).take 2)

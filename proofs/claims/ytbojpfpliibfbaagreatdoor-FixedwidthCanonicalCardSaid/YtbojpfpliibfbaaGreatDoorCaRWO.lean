/- A part of the proof. -/
import Derived.Test.YtbojpfpliibfbaaGreatDoorCaRWN
set_option maxRecDepth 100000
set_option linter.unusedVariables false
set_option linter.unusedSimpArgs false
namespace Go.Proofs.YtbojpfpliibfbaaGreatDoor
open Go Go.Ab
attribute [local irreducible] vc
theorem wy {k:Int}{b:List TFd}{g:TFd}(h:cB k b g=0):g.name.length<=100:=by
 obtain⟨n,nm,nd,t,d⟩:=g
 rw[kL] at h
 by_cases hn:cJ nm=false
 ·rw[if_pos hn] at h;cases h
 have hn:cJ nm=true:=by simpa using hn
 simp only[cJ,Bool.and_eq_true,decide_eq_true_eq] at hn
 have:=hn.2.1
 simp only[TFd.name];omega
theorem rB {t:Typ}(h:lN t=0)(ht:t.ok)(hf:eS t=true):eJ 2 t/\∀ g∈t.fields,g.typ.kind<=7:=by
 have hty:=go h
 obtain⟨h9,_,hs⟩:=cj hf
 have h7:∀ g∈t.fields,g.typ.kind<=7:=fun g hg=>by
  have:=hs g hg
  simp only[scB,Bool.and_eq_true] at this
  exact of_decide_eq_true this.2
 refine⟨?_,h7⟩
 obtain⟨k,m,M,s,w,e,f⟩:=t
 obtain⟨ho,h8,h10⟩:=hty
 obtain⟨he,_⟩:=j6 ho
 rw[Typ.ok_mk] at ht
 obtain⟨_,_,_,_,t1,_,t3,t5,t4,t6⟩:=ht
 refine⟨by simp only[Typ.fields];omega,by simp only[Typ.words];omega,fun x hx=>?_,fun g hg=>?_⟩
 ·simp only[Typ.elem] at hx
  rw[he (fun hk=>by simp only[Typ.kind] at h9;omega)] at hx;cases hx
 ·have hg7:=h7 g hg
  simp only[Typ.fields] at hg
  obtain⟨b,hb⟩:=cY f [] (bm ho).2.2.2 g hg
  refine⟨wy hb,?_⟩
  have hgv:=(h10 (.inl h9) g hg).1
  have hgo:=iP hgv
  have hgt:=(fJ (t6 g hg)).1
  obtain⟨n',nm',nd',⟨k',m',M',s',w',e',f'⟩,d'⟩:=g
  simp only[TFd.typ,Typ.kind] at hg7 hgo hgt ⊢
  obtain⟨he',hf'⟩:=j6 hgo
  rw[Typ.ok_mk] at hgt
  obtain⟨_,_,_,_,u1,_,u3,u5,u4,u6⟩:=hgt
  obtain rfl:=he' (by omega)
  obtain rfl:=hf' (by omega)
  exact⟨by simp[Typ.fields],by simp only[Typ.words];omega,fun x hx=>(by cases hx),fun x hx=>(by cases hx)⟩
def DC (t:Typ)(v:Val):Bool:=(bw 2 t v []).isEmpty
theorem NI {t:Typ}(h:lN t=0)(ht:t.ok)(hf:eS t=true)(v:Val)(hv:v.ok):ag Tryz.prog au 42 [t.pv,v.pv] (.bool (DC t v)):=NJ t v (rB h ht hf).1 (cj hf).1 (rB h ht hf).2 hv
theorem sZ (s:List UInt8)(k:Nat)(hk:k<=8):ag Tryz.prog au 213 [.str s,.int .i64 (k:Int)] (HJ s (qV k s)):=by
 refine ag.intro PD.2 (by simp[PD]) ?_
 by_cases hl:s.length<k
 ·rw[show qV k s=none from if_neg (by omega)]
  simp(disch:=try exact dI) only[PD,HJ,push_cast,seval]
 ·obtain⟨R,hR⟩:∃ R,R=qV k s:=⟨_,rfl⟩
  rw[<- hR]
  simp(disch:=try exact dI) only[PD,push_cast,seval]
  refine az ([]) (fun i:Nat=>[(4,.pv (.int .i64 (gZ 0 (s.take i)))),(14,.pv (.int .i64 (i:Int)))]) (fun _=>[]) (fun i=>i<=k/\(s.take i).all isD=true) (fun i=>k - i) (0) ?_;intro e0 σ0 n0 h0;simp(disch:=try exact dI) only[push_cast,seval] at h0;obtain⟨rfl,rfl,rfl⟩:=h0;refine⟨?_,?_,?_⟩
  ·refine zgZ ?_
   rfl
  ·exact⟨by omega,by simp⟩
  rintro i ⟨hi,hd⟩
  have hdl:=N1 hd (by simp;omega)
  by_cases hlt:i<k
  ·obtain⟨c,hc⟩:∃ c,s[i]? = some c:=⟨_,List.getElem?_eq_getElem (by omega)⟩
   have hcl:=c.toNat_lt
   have hw:=mG (n:=(c.toNat:Int)) (by omega) (by omega)
   have hts:=aM hc
   by_cases hcd:isD c=true
   ·have hb:=kw hcd
    have hin:=dE (n:=(c.toNat:Int)) (lo:=48) (hi:=57) ⟨by omega,by omega⟩
    have hw2:=mG (n:=(c.toNat:Int) - 48) (by omega) (by omega)
    have hdv:gZ 0 (s.take (i+1))=10*gZ 0 (s.take i)+((c.toNat:Int) - 48):=by rw[hts,jA]
    have hd2:(s.take (i+1)).all isD=true:=by rw[hts,List.all_append,hd];simp[hcd]
    simp(disch:=try exact dI) only[hc,aS,hw,push_cast,seval]
    refine ab.pure hin rfl ?_
    simp(disch:=try exact dI) only[hc,aS,hw2,push_cast,seval]
    exact⟨i+1,aZ (by simp(disch:=try exact dI) only[hdv,push_cast,seval]),⟨by omega,hd2⟩,by omega⟩
   ·have hin:=ni (n:=(c.toNat:Int)) (lo:=48) (hi:=57) (fun h=>hcd (by simp[isD];omega))
    have hnone:R=none:=by
     rw[hR]
     refine if_neg fun h=>hcd ?_
     exact List.all_eq_true.1 h.2 c (List.mem_of_getElem? (i:=i) (by rw[List.getElem?_take_of_lt hlt];exact hc))
    rw[hnone]
    simp(disch:=try exact dI) only[hc,aS,hw,push_cast,seval]
    refine ab.pure hin rfl ?_
    simp(disch:=try exact dI) only[HJ,push_cast,seval]
  ·have hik:i=k:=by omega
   subst hik
   have hsome:R=some (gZ 0 (s.take i),s.drop i):=by rw[hR];exact if_pos ⟨by omega,hd⟩
   rw[hsome]
   simp(disch:=try exact dI) only[HJ,List.take_length,push_cast,seval]
theorem Bz (s p:List UInt8):ag Tryz.prog au 149 [.str s,.str p] (.bool (decide (s.take p.length=p/\p.length<=s.length))):=by
 refine ag.intro Pb.2 (by simp[Pb]) ?_
 by_cases hl:p.length<=s.length
 ·by_cases he:s.take p.length=p
  ·rw[show decide (s.take p.length=p/\p.length<=s.length)=true from decide_eq_true ⟨he,hl⟩]
   simp(disch:=try exact dI) only[Pb,he,push_cast,seval]
  ·rw[show decide (s.take p.length=p/\p.length<=s.length)=false from decide_eq_false (fun h=>he h.1)]
   simp(disch:=try exact dI) only[Pb,he,push_cast,seval]
 ·rw[show decide (s.take p.length=p/\p.length<=s.length)=false from decide_eq_false (fun h=>hl h.2)]
  simp(disch:=try exact dI) only[Pb,push_cast,seval]
def pO (p s:List UInt8):Bool:=decide (s.take p.length=p/\p.length<=s.length)
theorem Cx (s p:List UInt8):ag Tryz.prog au 252 [.str s,.str p] (.tup [.str (if pO p s=true then s.drop p.length else s),.bool (pO p s)]):=by
 have hp:=Bz s p
 have hl:pO p s=true->p.length<=s.length:=fun h=>(of_decide_eq_true h).2
 refine ag.intro PB.2 (by simp[PB]) ?_
 change ag Tryz.prog au 149 [.str s,.str p] (.bool (pO p s)) at hp
 cases hb:pO p s with
 | true=>
   have:=hl hb
   rw[hb] at hp
   simp only[if_true]
   simp(disch:=try exact dI) only[PB,push_cast,seval]
   refine ab.pure hp rfl ?_
   simp(disch:=try exact dI) only[List.take_length,push_cast,seval]
 | false=>
   rw[hb] at hp
   simp only[Bool.false_eq_true,if_false]
   simp(disch:=try exact dI) only[PB,push_cast,seval]
   refine ab.pure hp rfl ?_
   exact qsZ
theorem tP (s p:List UInt8):ag Tryz.prog au 212 [.str s,.str p] (.tup [.str (if pO p s=true then s.drop p.length else s),.bool (pO p s)]):=by
 have h:=Cx s p
 generalize (if pO p s=true then s.drop p.length else s)=q at *
 generalize pO p s=b at *
 refine ag.intro Rs.2 (by simp[Rs]) ?_
 simp(disch:=try exact dI) only[Rs,push_cast,seval]
 refine ab.pure h rfl ?_
 exact qsZ
def cn:List (List UInt8)->List Nat->List UInt8->Option (List Int×List UInt8)
 | [],_,s=>some ([],s)
 | _::_,[],_=>none
 | m::ms,k::ks,s=>if pO m s=true then (match qV k (s.drop m.length) with
   | some p=>(cn ms ks p.2).map fun q=>(p.1::q.1,q.2)
   | none=>none) else none
def oH (s:List UInt8):Option (List Int×List UInt8)->PV
 | some p=>.tup [.list (p.1.map (PV.int .i64)),.str p.2,.bool true]
 | none=>.tup [.nils,.str s,.bool false]
theorem oI (s:List UInt8)(ms:List (List UInt8))(ks:List Nat)(hm:ms.length=ks.length)(hl:ms.length<=100)(hk:∀ k,k∈ks->k<=8) :
  ag Tryz.prog au 210 [.str s,.list (ms.map PV.str),.list (ks.map lk)] (oH s (cn ms ks s)):=by
 obtain⟨R,hR⟩:∃ R,R=cn ms ks s:=⟨_,rfl⟩
 rw[<- hR]
 refine ag.intro Rt.2 (by simp[Rt]) ?_
 simp(disch:=try exact dI) only[Rt,push_cast,seval]
 refine az ([(6,0,3,1)]) (fun y:Nat×List Int×List UInt8=>[(6,.olist 0 1 (y.2.1.map (PV.int .i64))),(7,.pv (.str y.2.2)),(15,.pv (.int .i64 (y.1:Int)))]) (fun _=>[]) (fun y=>y.1<=ms.length/\y.2.1.length<=y.1/\R=(cn (ms.drop y.1) (ks.drop y.1) y.2.2).map fun q=>(y.2.1++q.1,q.2)) (fun y=>ms.length - y.1) ((0,[],s)) ?_;intro e0 σ0 n0 h0;simp(disch:=try exact dI) only[push_cast,seval] at h0;obtain⟨rfl,rfl,rfl⟩:=h0;refine⟨?_,?_,?_⟩
 ·exact qsZ
 ·exact⟨by simp,by simp,by simp[hR]⟩
 rintro⟨i,L,r⟩ ⟨h1,h2,h3⟩
 simp only at h1 h2 h3
 by_cases hlt:i<ms.length
 ·obtain⟨m,hmi⟩:∃ m,ms[i]? = some m:=⟨_,List.getElem?_eq_getElem hlt⟩
  obtain⟨k,hki⟩:∃ k,ks[i]? = some k:=⟨_,List.getElem?_eq_getElem (by omega)⟩
  have hmp:(ms.map PV.str)[i]? = some (.str m):=by simp[hmi]
  have hkp:(ks.map lk)[i]? = some (.int .i64 (k:Int)):=by simp[hki,lk]
  have hk8:=hk k (List.mem_of_getElem? hki)
  have hc:=tP r m
  rw[cu hmi,cu hki] at h3
  simp only[cn] at h3
  cases hb:pO m r with
  | false=>
    rw[hb] at hc h3
    simp only[Bool.false_eq_true,if_false,Option.map_none] at hc h3
    rw[h3]
    simp(disch:=try exact dI) only[hmp,push_cast,seval]
    refine ab.pure hc rfl ?_
    simp(disch:=try exact dI) only[oH,push_cast,seval]
  | true=>
    rw[hb] at hc h3
    simp only[if_true] at hc h3
    have hn:=sZ (r.drop m.length) k hk8
    cases hv:qV k (r.drop m.length) with
    | none=>
      rw[hv] at hn h3
      simp only[HJ,Option.map_none] at hn h3
      rw[h3]
      simp(disch:=try exact dI) only[hmp,push_cast,seval]
      refine ab.pure hc rfl ?_
      simp(disch:=try exact dI) only[hkp,push_cast,seval]
      refine ab.pure hn rfl ?_
      simp(disch:=try exact dI) only[oH,push_cast,seval]
    | some p=>
      rw[hv] at hn h3
      simp only[HJ] at hn h3
      simp(disch:=try exact dI) only[hmp,push_cast,seval]
      refine ab.pure hc rfl ?_
      simp(disch:=try exact dI) only[hkp,push_cast,seval]
      refine ab.pure hn rfl ?_
      refine zgZ ?_
      exact⟨(i+1,L++[p.1],p.2),aZ (by simp(disch:=try exact dI) only[List.map_append,push_cast,seval]),⟨by simp only;omega,by simp;omega,by rw[h3,Option.map_map];congr 1;funext q;simp⟩,by simp only;omega⟩
 ·have hi:i=ms.length:=by omega
  have hd1:ms.drop i=[]:=List.drop_eq_nil_of_le (by omega)
  rw[hd1] at h3
  simp only[cn,Option.map_some,List.append_nil] at h3
  rw[h3]
  simp(disch:=try exact dI) only[oH,push_cast,seval]
def kV (y m d:Int):Int×Int:=if 1<=y/\y<=9999/\1<=m/\m<=12/\1<=d/\d<=mdI y m then (g7 y m.toNat d - 719162,0) else (0,17)
theorem rJ {y m d:Int}(h:1<=y/\y<=9999/\1<=m/\m<=12/\1<=d/\d<=mdI y m):DateOk y m.toNat d/\((m.toNat:Nat):Int)=m:=by
 have e:((m.toNat:Nat):Int)=m:=by omega
 exact⟨⟨h.1,h.2.1,by omega,by omega,h.2.2.2.2.1,by rw[e];exact h.2.2.2.2.2⟩,e⟩
theorem K7 {y m d:Int}(h:¬ (1<=y/\y<=9999/\1<=m/\m<=12/\1<=d/\d<=mdI y m))(k:Nat)(hk:m=k):¬ DateOk y k d:=by
 intro hd
 subst hk
 exact h ⟨hd.y1,hd.y2,by have:=hd.m1;omega,by have:=hd.m2;omega,hd.d1,hd.d2⟩
theorem H4 (y m d:Int):ag Tryz.prog au 211 [.int .i64 y,.int .i64 m,.int .i64 d] (.tup [.int .i64 (kV y m d).1,.int .i64 (kV y m d).2]):=by
 unfold kV
 by_cases h:1<=y/\y<=9999/\1<=m/\m<=12/\1<=d/\d<=mdI y m
 ·rw[if_pos h]
  obtain⟨h1,h2⟩:=rJ h
  have:=N4 h1
  rwa [h2] at this
 ·rw[if_neg h]
  exact N5 (K7 h)
theorem H6 (y m d:Int):(kV y m d).2=0\/(kV y m d).2=17:=by unfold kV;split<;>simp
theorem ke:∀ {ms:List (List UInt8)} {ks:List Nat} {s:List UInt8} {p:List Int×List UInt8},cn ms ks s=some p->p.1.length=ms.length
 | [],_,s,p,h=>by simp only[cn] at h;cases h;rfl
 | m::ms,[],s,p,h=>by simp[cn] at h
 | m::ms,k::ks,s,p,h=>by
   simp only[cn] at h
   split at h
   ·cases hn:qV k (s.drop m.length) with
    | none=>rw[hn] at h;cases h
    | some q=>
      rw[hn] at h
      simp only[Option.map_eq_some_iff] at h
      obtain⟨r,hr,rfl⟩:=h
      simp[ke hr]
   ·cases h
def bV (s:List UInt8):Int×Int:=
 match cn [[],[45],[45]] [4,2,2] s with
 | some ([y,m,d],[])=>kV y m d
 | _=>(0,13)
theorem rE1 (sz:Nat)(l:List PV):fB sz l 1=eM sz l 1 l[1]?:=rfl
theorem rE2 (sz:Nat)(l:List PV):fB sz l 2=eM sz l 2 l[2]?:=rfl
theorem JS (s:List UInt8):ag Tryz.prog au 168 [.str s] (.tup [.int .i64 (bV s).1,.int .i64 (bV s).2]):=by
 have hn:=oI s [[],[45],[45]] [4,2,2] rfl (by simp) (by simp)
 simp only[List.map_cons,List.map_nil,lk] at hn
 unfold bV
 cases hv:cn [[],[45],[45]] [4,2,2] s with
 | none=>
   rw[hv] at hn
   simp only[oH] at hn
   refine ag.intro Ha.2 (by simp[Ha]) ?_
   simp(disch:=try exact dI) only[Ha,push_cast,seval]
   refine ab.pure hn rfl ?_
   exact qsZ
 | some p=>
   have hl:=ke hv
   obtain⟨l,r⟩:=p
   simp only at hl
   obtain⟨y,m,d,rfl⟩:∃ y m d,l=[y,m,d]:=by
    match l,hl with
    | [y,m,d],_=>exact⟨y,m,d,rfl⟩
   rw[hv] at hn
   simp only[oH,List.map_cons,List.map_nil] at hn
   cases r with
   | nil=>
     have hd:=H4 y m d
     refine ag.intro Ha.2 (by simp[Ha]) ?_
     simp(disch:=try exact dI) only[Ha,push_cast,seval]
     refine ab.pure hn rfl ?_
     simp(disch:=try exact dI) only[rE1,rE2,push_cast,seval]
     refine aq hd rfl ?_
     exact qsZ
   | cons c r=>
     have hcr:(!decide (c::r=[]))=true:=by simp
     refine ag.intro Ha.2 (by simp[Ha]) ?_
     simp(disch:=try exact dI) only[Ha,push_cast,seval]
     refine ab.pure hn rfl ?_
     simp(disch:=try exact dI) only[hcr,push_cast,seval]
theorem u8n (c d:UInt8):((c.toNat:Int)=(d.toNat:Int))↔c=d:=⟨fun h=>UInt8.toNat_inj.1 (by omega),fun h=>h▸rfl⟩
theorem dU {m:List UInt8}{ms:List (List UInt8)}{k:Nat}{ks:List Nat}{s:List UInt8}{v:Int}{l:List Int}{r:List UInt8}(h:cn (m::ms) (k::ks) s=some (v::l,r)) :
  k<=(s.drop m.length).length/\((s.drop m.length).take k).all isD=true/\v=gZ 0 ((s.drop m.length).take k)/\cn ms ks ((s.drop m.length).drop k)=some (l,r):=by
 simp only[cn] at h
 split at h
 ·unfold qV at h
  split at h
  ·rename_i hc
   split at hc
   ·rename_i hd
    cases hc
    simp only[Option.map_eq_some_iff] at h
    obtain⟨a,ha,he⟩:=h
    cases he
    exact⟨hd.1,hd.2,rfl,ha⟩
   ·cases hc
  ·cases h
 ·cases h
end Go.Proofs.YtbojpfpliibfbaaGreatDoor

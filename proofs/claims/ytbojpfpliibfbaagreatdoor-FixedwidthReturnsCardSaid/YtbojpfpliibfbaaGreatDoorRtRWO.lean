/- A part of the proof. -/
import Derived.Test.YtbojpfpliibfbaaGreatDoorRtRWN
set_option maxRecDepth 100000
set_option linter.unusedVariables false
set_option linter.unusedSimpArgs false
namespace Go.Proofs.YtbojpfpliibfbaaGreatDoor
open Go Go.Ab
attribute [local irreducible] vc
theorem vw {k:Int}{b:List TFd}{g:TFd}(h:cm k b g=0):g.name.length<=100:=by
 obtain⟨n,nm,nd,t,d⟩:=g
 rw[j8] at h
 by_cases hn:cy nm=false
 ·rw[if_pos hn] at h;cases h
 have hn:cy nm=true:=by simpa using hn
 simp only[cy,Bool.and_eq_true,decide_eq_true_eq] at hn
 have:=hn.2.1
 simp only[TFd.name];omega
theorem qK {t:Typ}(h:mc t=0)(ht:t.ok)(hf:eW t=true):eq 2 t/\∀ g∈t.fields,g.typ.kind<=7:=by
 have hty:=jr h
 obtain⟨h9,_,hs⟩:=dc hf
 have h7:∀ g∈t.fields,g.typ.kind<=7:=fun g hg=>by
  have:=hs g hg
  simp only[scB,Bool.and_eq_true] at this
  exact of_decide_eq_true this.2
 refine⟨?_,h7⟩
 obtain⟨k,m,M,s,w,e,f⟩:=t
 obtain⟨ho,h8,h10⟩:=hty
 obtain⟨he,_⟩:=jE ho
 rw[Typ.ok_mk] at ht
 obtain⟨_,_,_,_,t1,_,t3,t5,t4,t6⟩:=ht
 refine⟨by simp only[Typ.fields];omega,by simp only[Typ.words];omega,fun x hx=>?_,fun g hg=>?_⟩
 ·simp only[Typ.elem] at hx
  rw[he (fun hk=>by simp only[Typ.kind] at h9;omega)] at hx;cases hx
 ·have hg7:=h7 g hg
  simp only[Typ.fields] at hg
  obtain⟨b,hb⟩:=cJ f [] (bm ho).2.2.2 g hg
  refine⟨vw hb,?_⟩
  have hgv:=(h10 (.inl h9) g hg).1
  have hgo:=ii hgv
  have hgt:=(fq (t6 g hg)).1
  obtain⟨n',nm',nd',⟨k',m',M',s',w',e',f'⟩,d'⟩:=g
  simp only[TFd.typ,Typ.kind] at hg7 hgo hgt ⊢
  obtain⟨he',hf'⟩:=jE hgo
  rw[Typ.ok_mk] at hgt
  obtain⟨_,_,_,_,u1,_,u3,u5,u4,u6⟩:=hgt
  obtain rfl:=he' (by omega)
  obtain rfl:=hf' (by omega)
  exact⟨by simp[Typ.fields],by simp only[Typ.words];omega,fun x hx=>(by cases hx),fun x hx=>(by cases hx)⟩
def A2 (t:Typ)(v:Val):Bool:=(bq 2 t v []).isEmpty
theorem GS {t:Typ}(h:mc t=0)(ht:t.ok)(hf:eW t=true)(v:Val)(hv:v.ok):ag Tryz.prog au 42 [t.pv,v.pv] (.bool (A2 t v)):=Mz t v (qK h ht hf).1 (dc hf).1 (qK h ht hf).2 hv
theorem r8 (s:List UInt8)(k:Nat)(hk:k<=8):ag Tryz.prog au 213 [.str s,.int .i64 (k:Int)] (GD s (qk k s)):=by
 refine ag.intro On.2 (by simp[On]) ?_
 by_cases hl:s.length<k
 ·rw[show qk k s=none from if_neg (by omega)]
  simp(disch:=try exact dI) only[On,GD,push_cast,seval]
 ·obtain⟨R,hR⟩:∃ R,R=qk k s:=⟨_,rfl⟩
  rw[<- hR]
  simp(disch:=try exact dI) only[On,push_cast,seval]
  refine aC ([]) (fun i:Nat=>[(4,.pv (.int .i64 (gy 0 (s.take i)))),(14,.pv (.int .i64 (i:Int)))]) (fun _=>[]) (fun i=>i<=k/\(s.take i).all isD=true) (fun i=>k - i) (0) ?_;intro e0 σ0 n0 h0;simp(disch:=try exact dI) only[push_cast,seval] at h0;obtain⟨rfl,rfl,rfl⟩:=h0;refine⟨?_,?_,?_⟩
  ·refine zgZ ?_
   rfl
  ·exact⟨by omega,by simp⟩
  rintro i ⟨hi,hd⟩
  have hdl:=MR hd (by simp;omega)
  by_cases hlt:i<k
  ·obtain⟨c,hc⟩:∃ c,s[i]? = some c:=⟨_,List.getElem?_eq_getElem (by omega)⟩
   have hcl:=c.toNat_lt
   have hw:=lT (n:=(c.toNat:Int)) (by omega) (by omega)
   have hts:=aL hc
   by_cases hcd:isD c=true
   ·have hb:=jW hcd
    have hin:=dr (n:=(c.toNat:Int)) (lo:=48) (hi:=57) ⟨by omega,by omega⟩
    have hw2:=lT (n:=(c.toNat:Int) - 48) (by omega) (by omega)
    have hdv:gy 0 (s.take (i+1))=10*gy 0 (s.take i)+((c.toNat:Int) - 48):=by rw[hts,i6]
    have hd2:(s.take (i+1)).all isD=true:=by rw[hts,List.all_append,hd];simp[hcd]
    simp(disch:=try exact dI) only[hc,aR,hw,push_cast,seval]
    refine ab.pure hin rfl ?_
    simp(disch:=try exact dI) only[hc,aR,hw2,push_cast,seval]
    exact⟨i+1,aX (by simp(disch:=try exact dI) only[hdv,push_cast,seval]),⟨by omega,hd2⟩,by omega⟩
   ·have hin:=mE (n:=(c.toNat:Int)) (lo:=48) (hi:=57) (fun h=>hcd (by simp[isD];omega))
    have hnone:R=none:=by
     rw[hR]
     refine if_neg fun h=>hcd ?_
     exact List.all_eq_true.1 h.2 c (List.mem_of_getElem? (i:=i) (by rw[List.getElem?_take_of_lt hlt];exact hc))
    rw[hnone]
    simp(disch:=try exact dI) only[hc,aR,hw,push_cast,seval]
    refine ab.pure hin rfl ?_
    simp(disch:=try exact dI) only[GD,push_cast,seval]
  ·have hik:i=k:=by omega
   subst hik
   have hsome:R=some (gy 0 (s.take i),s.drop i):=by rw[hR];exact if_pos ⟨by omega,hd⟩
   rw[hsome]
   simp(disch:=try exact dI) only[GD,List.take_length,push_cast,seval]
theorem AG (s p:List UInt8):ag Tryz.prog au 149 [.str s,.str p] (.bool (decide (s.take p.length=p/\p.length<=s.length))):=by
 refine ag.intro NZ.2 (by simp[NZ]) ?_
 by_cases hl:p.length<=s.length
 ·by_cases he:s.take p.length=p
  ·rw[show decide (s.take p.length=p/\p.length<=s.length)=true from decide_eq_true ⟨he,hl⟩]
   simp(disch:=try exact dI) only[NZ,he,push_cast,seval]
  ·rw[show decide (s.take p.length=p/\p.length<=s.length)=false from decide_eq_false (fun h=>he h.1)]
   simp(disch:=try exact dI) only[NZ,he,push_cast,seval]
 ·rw[show decide (s.take p.length=p/\p.length<=s.length)=false from decide_eq_false (fun h=>hl h.2)]
  simp(disch:=try exact dI) only[NZ,push_cast,seval]
def pa (p s:List UInt8):Bool:=decide (s.take p.length=p/\p.length<=s.length)
theorem BI (s p:List UInt8):ag Tryz.prog au 252 [.str s,.str p] (.tup [.str (if pa p s=true then s.drop p.length else s),.bool (pa p s)]):=by
 have hp:=AG s p
 have hl:pa p s=true->p.length<=s.length:=fun h=>(of_decide_eq_true h).2
 refine ag.intro Ol.2 (by simp[Ol]) ?_
 change ag Tryz.prog au 149 [.str s,.str p] (.bool (pa p s)) at hp
 cases hb:pa p s with
 | true=>
   have:=hl hb
   rw[hb] at hp
   simp only[if_true]
   simp(disch:=try exact dI) only[Ol,push_cast,seval]
   refine ab.pure hp rfl ?_
   simp(disch:=try exact dI) only[List.take_length,push_cast,seval]
 | false=>
   rw[hb] at hp
   simp only[Bool.false_eq_true,if_false]
   simp(disch:=try exact dI) only[Ol,push_cast,seval]
   refine ab.pure hp rfl ?_
   exact qsZ
theorem sR (s p:List UInt8):ag Tryz.prog au 212 [.str s,.str p] (.tup [.str (if pa p s=true then s.drop p.length else s),.bool (pa p s)]):=by
 have h:=BI s p
 generalize (if pa p s=true then s.drop p.length else s)=q at *
 generalize pa p s=b at *
 refine ag.intro Qj.2 (by simp[Qj]) ?_
 simp(disch:=try exact dI) only[Qj,push_cast,seval]
 refine ab.pure h rfl ?_
 exact qsZ
def bZ:List (List UInt8)->List Nat->List UInt8->Option (List Int×List UInt8)
 | [],_,s=>some ([],s)
 | _::_,[],_=>none
 | m::ms,k::ks,s=>if pa m s=true then (match qk k (s.drop m.length) with
   | some p=>(bZ ms ks p.2).map fun q=>(p.1::q.1,q.2)
   | none=>none) else none
def nZ (s:List UInt8):Option (List Int×List UInt8)->PV
 | some p=>.tup [.list (p.1.map (PV.int .i64)),.str p.2,.bool true]
 | none=>.tup [.nils,.str s,.bool false]
theorem n7 (s:List UInt8)(ms:List (List UInt8))(ks:List Nat)(hm:ms.length=ks.length)(hl:ms.length<=100)(hk:∀ k,k∈ks->k<=8) :
  ag Tryz.prog au 210 [.str s,.list (ms.map PV.str),.list (ks.map kz)] (nZ s (bZ ms ks s)):=by
 obtain⟨R,hR⟩:∃ R,R=bZ ms ks s:=⟨_,rfl⟩
 rw[<- hR]
 refine ag.intro Qk.2 (by simp[Qk]) ?_
 simp(disch:=try exact dI) only[Qk,push_cast,seval]
 refine aC ([(6,0,3,1)]) (fun y:Nat×List Int×List UInt8=>[(6,.olist 0 1 (y.2.1.map (PV.int .i64))),(7,.pv (.str y.2.2)),(15,.pv (.int .i64 (y.1:Int)))]) (fun _=>[]) (fun y=>y.1<=ms.length/\y.2.1.length<=y.1/\R=(bZ (ms.drop y.1) (ks.drop y.1) y.2.2).map fun q=>(y.2.1++q.1,q.2)) (fun y=>ms.length - y.1) ((0,[],s)) ?_;intro e0 σ0 n0 h0;simp(disch:=try exact dI) only[push_cast,seval] at h0;obtain⟨rfl,rfl,rfl⟩:=h0;refine⟨?_,?_,?_⟩
 ·exact qsZ
 ·exact⟨by simp,by simp,by simp[hR]⟩
 rintro⟨i,L,r⟩ ⟨h1,h2,h3⟩
 simp only at h1 h2 h3
 by_cases hlt:i<ms.length
 ·obtain⟨m,hmi⟩:∃ m,ms[i]? = some m:=⟨_,List.getElem?_eq_getElem hlt⟩
  obtain⟨k,hki⟩:∃ k,ks[i]? = some k:=⟨_,List.getElem?_eq_getElem (by omega)⟩
  have hmp:(ms.map PV.str)[i]? = some (.str m):=by simp[hmi]
  have hkp:(ks.map kz)[i]? = some (.int .i64 (k:Int)):=by simp[hki,kz]
  have hk8:=hk k (List.mem_of_getElem? hki)
  have hc:=sR r m
  rw[cL hmi,cL hki] at h3
  simp only[bZ] at h3
  cases hb:pa m r with
  | false=>
    rw[hb] at hc h3
    simp only[Bool.false_eq_true,if_false,Option.map_none] at hc h3
    rw[h3]
    simp(disch:=try exact dI) only[hmp,push_cast,seval]
    refine ab.pure hc rfl ?_
    simp(disch:=try exact dI) only[nZ,push_cast,seval]
  | true=>
    rw[hb] at hc h3
    simp only[if_true] at hc h3
    have hn:=r8 (r.drop m.length) k hk8
    cases hv:qk k (r.drop m.length) with
    | none=>
      rw[hv] at hn h3
      simp only[GD,Option.map_none] at hn h3
      rw[h3]
      simp(disch:=try exact dI) only[hmp,push_cast,seval]
      refine ab.pure hc rfl ?_
      simp(disch:=try exact dI) only[hkp,push_cast,seval]
      refine ab.pure hn rfl ?_
      simp(disch:=try exact dI) only[nZ,push_cast,seval]
    | some p=>
      rw[hv] at hn h3
      simp only[GD] at hn h3
      simp(disch:=try exact dI) only[hmp,push_cast,seval]
      refine ab.pure hc rfl ?_
      simp(disch:=try exact dI) only[hkp,push_cast,seval]
      refine ab.pure hn rfl ?_
      refine zgZ ?_
      exact⟨(i+1,L++[p.1],p.2),aX (by simp(disch:=try exact dI) only[List.map_append,push_cast,seval]),⟨by simp only;omega,by simp;omega,by rw[h3,Option.map_map];congr 1;funext q;simp⟩,by simp only;omega⟩
 ·have hi:i=ms.length:=by omega
  have hd1:ms.drop i=[]:=List.drop_eq_nil_of_le (by omega)
  rw[hd1] at h3
  simp only[bZ,Option.map_some,List.append_nil] at h3
  rw[h3]
  simp(disch:=try exact dI) only[nZ,push_cast,seval]
def ki (y m d:Int):Int×Int:=if 1<=y/\y<=9999/\1<=m/\m<=12/\1<=d/\d<=mdI y m then (iL y m.toNat d - 719162,0) else (0,17)
theorem qR {y m d:Int}(h:1<=y/\y<=9999/\1<=m/\m<=12/\1<=d/\d<=mdI y m):DateOk y m.toNat d/\((m.toNat:Nat):Int)=m:=by
 have e:((m.toNat:Nat):Int)=m:=by omega
 exact⟨⟨h.1,h.2.1,by omega,by omega,h.2.2.2.2.1,by rw[e];exact h.2.2.2.2.2⟩,e⟩
theorem J1 {y m d:Int}(h:¬ (1<=y/\y<=9999/\1<=m/\m<=12/\1<=d/\d<=mdI y m))(k:Nat)(hk:m=k):¬ DateOk y k d:=by
 intro hd
 subst hk
 exact h ⟨hd.y1,hd.y2,by have:=hd.m1;omega,by have:=hd.m2;omega,hd.d1,hd.d2⟩
theorem GZ (y m d:Int):ag Tryz.prog au 211 [.int .i64 y,.int .i64 m,.int .i64 d] (.tup [.int .i64 (ki y m d).1,.int .i64 (ki y m d).2]):=by
 unfold ki
 by_cases h:1<=y/\y<=9999/\1<=m/\m<=12/\1<=d/\d<=mdI y m
 ·rw[if_pos h]
  obtain⟨h1,h2⟩:=qR h
  have:=MT h1
  rwa [h2] at this
 ·rw[if_neg h]
  exact MU (J1 h)
theorem G1 (y m d:Int):(ki y m d).2=0\/(ki y m d).2=17:=by unfold ki;split<;>simp
theorem jI:∀ {ms:List (List UInt8)} {ks:List Nat} {s:List UInt8} {p:List Int×List UInt8},bZ ms ks s=some p->p.1.length=ms.length
 | [],_,s,p,h=>by simp only[bZ] at h;cases h;rfl
 | m::ms,[],s,p,h=>by simp[bZ] at h
 | m::ms,k::ks,s,p,h=>by
   simp only[bZ] at h
   split at h
   ·cases hn:qk k (s.drop m.length) with
    | none=>rw[hn] at h;cases h
    | some q=>
      rw[hn] at h
      simp only[Option.map_eq_some_iff] at h
      obtain⟨r,hr,rfl⟩:=h
      simp[jI hr]
   ·cases h
def cG (s:List UInt8):Int×Int:=
 match bZ [[],[45],[45]] [4,2,2] s with
 | some ([y,m,d],[])=>ki y m d
 | _=>(0,13)
theorem rE1 (sz:Nat)(l:List PV):fi sz l 1=ey sz l 1 l[1]?:=rfl
theorem rE2 (sz:Nat)(l:List PV):fi sz l 2=ey sz l 2 l[2]?:=rfl
theorem IK (s:List UInt8):ag Tryz.prog au 168 [.str s] (.tup [.int .i64 (cG s).1,.int .i64 (cG s).2]):=by
 have hn:=n7 s [[],[45],[45]] [4,2,2] rfl (by simp) (by simp)
 simp only[List.map_cons,List.map_nil,kz] at hn
 unfold cG
 cases hv:bZ [[],[45],[45]] [4,2,2] s with
 | none=>
   rw[hv] at hn
   simp only[nZ] at hn
   refine ag.intro F6.2 (by simp[F6]) ?_
   simp(disch:=try exact dI) only[F6,push_cast,seval]
   refine ab.pure hn rfl ?_
   exact qsZ
 | some p=>
   have hl:=jI hv
   obtain⟨l,r⟩:=p
   simp only at hl
   obtain⟨y,m,d,rfl⟩:∃ y m d,l=[y,m,d]:=by
    match l,hl with
    | [y,m,d],_=>exact⟨y,m,d,rfl⟩
   rw[hv] at hn
   simp only[nZ,List.map_cons,List.map_nil] at hn
   cases r with
   | nil=>
     have hd:=GZ y m d
     refine ag.intro F6.2 (by simp[F6]) ?_
     simp(disch:=try exact dI) only[F6,push_cast,seval]
     refine ab.pure hn rfl ?_
     simp(disch:=try exact dI) only[rE1,rE2,push_cast,seval]
     refine aq hd rfl ?_
     exact qsZ
   | cons c r=>
     have hcr:(!decide (c::r=[]))=true:=by simp
     refine ag.intro F6.2 (by simp[F6]) ?_
     simp(disch:=try exact dI) only[F6,push_cast,seval]
     refine ab.pure hn rfl ?_
     simp(disch:=try exact dI) only[hcr,push_cast,seval]
theorem u8n (c d:UInt8):((c.toNat:Int)=(d.toNat:Int))↔c=d:=⟨fun h=>UInt8.toNat_inj.1 (by omega),fun h=>h▸rfl⟩
theorem dG {m:List UInt8}{ms:List (List UInt8)}{k:Nat}{ks:List Nat}{s:List UInt8}{v:Int}{l:List Int}{r:List UInt8}(h:bZ (m::ms) (k::ks) s=some (v::l,r)) :
  k<=(s.drop m.length).length/\((s.drop m.length).take k).all isD=true/\v=gy 0 ((s.drop m.length).take k)/\bZ ms ks ((s.drop m.length).drop k)=some (l,r):=by
 simp only[bZ] at h
 split at h
 ·unfold qk at h
  split at h
  ·rename_i hc
   split at hc
   ·rename_i hd
    cases hc
    simp only[Option.map_eq_some_iff] at h
    obtain⟨a,ha,he⟩:=h
    cases he
    exact⟨hd.1,hd.2,rfl,ha⟩
   ·cases hc
  ·cases h
 ·cases h
end Go.Proofs.YtbojpfpliibfbaaGreatDoor

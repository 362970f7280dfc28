/- A part of the proof. -/
import Derived.Test.YtbojpfpliibfbaaGreatDoorMxRY4
set_option maxHeartbeats 16000000
set_option maxRecDepth 100000
set_option linter.unusedVariables false
set_option linter.unusedSimpArgs false
namespace Go.Proofs.YtbojpfpliibfbaaGreatDoor
open Go Go.Ab
attribute [local irreducible] vc
def wrA:List AV:=[.pv .nilf,.pv (.clo 84 [] []),.pv (.clo 82 [] []),.pv (.clo 82 [] []),.pv (.clo 85 [] []),.pv (.clo 86 [] []),.pv (.clo 87 [] []),.pv (.clo 89 [] [])]
theorem NJ {k:Int}(h:1<=k/\k<=7):([.pv .nilf,.pv (.clo 84 [] []),.pv (.clo 82 [] []),.pv (.clo 82 [] []),.pv (.clo 85 [] []),.pv (.clo 86 [] []),.pv (.clo 87 [] []),.pv (.clo 89 [] [])]:List AV)[k.toNat*1]? = some (.pv (.clo (wrF k) [] [])):=by
 have hc:k=1\/k=2\/k=3\/k=4\/k=5\/k=6\/k=7:=by omega
 rcases hc with h | h | h | h | h | h | h<;>rw[h]<;>rfl
def dY (W V:PV)(F:List PV)(n i:Nat):List (Nat×AV):=[(1,.pv W),(5,.pv (.eptr [V] 0 0)),(9,.ptr 0 0),(10,.ptr 1 0),(29,.pv (.list F)),(30,.pv (.int .i64 (n:Int))),(31,.pv (.int .i64 (i:Int)))]
def hdS (W V:PV)(F:List PV)(n i:Nat):List UInt8->St
 | []=>⟨dY W V F n i,[(0,.cells 76 true [.pv .nilp,.pv .nils]),(1,.cells 78 true wrA)],2⟩
 | c::r=>⟨dY W V F n i,[(0,.cells 76 true [.ptr 0 0,.row 2 1 0 (r.length+1)]),(1,.cells 78 true wrA),(2,.cells 5 false ((aw (c::r)).map .pv))],3⟩
def exS:List UInt8->St
 | []=>⟨[(9,.ptr 0 0)],[(0,.cells 76 true [.pv .nilp,.pv .nils])],1⟩
 | c::r=>⟨[(9,.ptr 0 0)],[(0,.cells 76 true [.ptr 0 0,.row 1 1 0 (r.length+1)]),(1,.cells 5 false ((aw (c::r)).map .pv))],2⟩
theorem yw (t:Typ)(ht:t.ok)(w:List Int)(v:Val)(hv:v.ok)(he:lf t w=0)(hfit:nU t v=true)(T:TFd->List UInt8)(hT:∀ g∈t.fields,FTm v g (T g))(hTl:lC T t.fields w):ag Tryz.prog aq 14 [t.pv,.list (db w),v.pv] (.tup [.str (gH T t.fields w []).1,.int .i64 (gH T t.fields w []).2]):=by
 have h12:=lP t ht w
 obtain⟨hfe,hlen,hrl⟩:=eY he
 obtain⟨h0,hfl⟩:=iB hfe
 have h42:=Jm h0 ht hfl v hv
 rw[hfit] at h42
 obtain⟨h9,hfp,hsc⟩:=cj hfl
 have hv9:=Mc h9 hfit
 have h44:=fun name=>nw v name hv hv9 (by obtain⟨vk,vn,vs,vt,vl,vf⟩:=v;rw[Val.ok_mk] at hv;simp only[Val.fields];omega)
 have h43:ag Tryz.prog aq 43 [] NH:=n9
 have hst:=go t.fields w 0 hlen.symm hrl
 have hf64:t.fields.length<=64:=by
  have ho:=gh (iO h0)
  obtain⟨k,m,M,s,wd,e,f⟩:=t
  exact BE ho
 rw[he] at h12
 clear he hfe hrl h0 hfl hfit h9 ht
 obtain⟨k,m,M,s,wd,e,f⟩:=t
 obtain⟨vk,vn,vs,vt,vl,vf⟩:=v
 simp only[Typ.fields,Val.fields,Val.kind] at *
 subst hv9
 obtain⟨R,hR⟩:∃ R,R=gH T f w []:=⟨_,rfl⟩
 rw[<- hR]
 simp only[Typ.pv_mk,Val.pv_mk] at h12 h42 h44 ⊢
 unfold NH at h43
 refine ag.intro Q14.2 (by simp[Q14]) ?_
 simp(disch:=try exact dI) only[Q14,push_cast,seval]
 refine ab.pure h12 rfl ?_
 refine zgZ ?_
 refine ab.pure h42 rfl ?_
 refine zgZ ?_
 refine ab.pure h43 rfl ?_
 simp(disch:=try exact dI) only[tw,oH,push_cast,seval]
 refine EY (fun x:Nat×List UInt8=>hdS (.list (db w)) (.agg [.int .i64 9,.int .i64 vn,.int .i64 vs,.str vt,.list (vl.map Val.pv),.list (vf.map Fld.pv)]) (f.map TFd.pv) f.length x.1 x.2) (fun x=>x.1<=f.length/\R=gH T (f.drop x.1) (w.drop x.1) x.2/\x.2.length<=4096*x.1/\(x.1=0\/x.2≠[])) (fun x=>f.length - x.1) (0,[]) [9] exS (fun acc=>R=(acc,0)/\acc≠[]/\acc.length<=300000) ?_ ?_ ?_ ?_
 ·exact aV (by simp(disch:=try exact dI) only[hdS,dY,wrA,push_cast,seval])
 ·exact⟨by simp,by simpa using hR,by simp,.inl rfl⟩
 ·rintro⟨i,acc⟩ ⟨hi,hr,hacc,hne⟩
  simp only at hi hr hacc hne
  by_cases hlt:i<f.length
  ·have hltI:(i:Int)<(f.length:Int):=by omega
   obtain⟨g,hg⟩:∃ g,f[i]? = some g:=⟨_,List.getElem?_eq_getElem hlt⟩
   obtain⟨n,hn⟩:∃ n,w[i]? = some n:=⟨_,List.getElem?_eq_getElem (by omega)⟩
   have hnp:=jr hn
   obtain⟨hn1,hn2,hn3⟩:=fp (hst i g n hg hn)
   rw[Do hg hn] at hr
   have hTx:=hT g (List.mem_of_getElem? hg)
   have hkr:1<=g.typ.kind/\g.typ.kind<=7:=by
    have:=hsc g (List.mem_of_getElem? hg)
    simp only[scB,Bool.and_eq_true] at this
    exact⟨of_decide_eq_true this.1,of_decide_eq_true this.2⟩
   have hka:=NJ hkr
   have htl:=hTl i g n hg hn
   have hpl:=mV g.typ.kind (T g) n htl
   have hpd:nS g.typ.kind (T g) n=if g.typ.kind=2\/g.typ.kind=3 then spS (n - (T g).length).toNat++T g else T g++spS (n - (T g).length).toNat:=rfl
   have hwr:=jC (T g) (by omega)
   have hrep:=jU [32] (n - ((T g).length:Int)) (by omega) (by omega) (by simp;omega)
   rw[An] at hrep
   have hmx:max 0 (n - ((T g).length:Int))=n - ((T g).length:Int):=by omega
   have hspl:(spS (n - ((T g).length:Int)).toNat).length<=4096:=by rw[spS,List.length_replicate];omega
   have h44g:=h44 g.name
   unfold FTm at hTx
   simp only[Val.fields] at hTx
   have hsrc:(ag Tryz.prog aq 44 [.agg [.int .i64 9,.int .i64 vn,.int .i64 vs,.str vt,.list (vl.map Val.pv),.list (vf.map Fld.pv)],.str g.name] (.tup [.agg [.int .i64 0,.int .i64 0,.int .i64 0,.str [],.list [],.list []],.bool false])/\T g=[])\/∃ (yk yi ys:Int) (yt:List UInt8) (yl:List Val) (yf:List Fld),ag Tryz.prog aq 44 [.agg [.int .i64 9,.int .i64 vn,.int .i64 vs,.str vt,.list (vl.map Val.pv),.list (vf.map Fld.pv)],.str g.name] (.tup [.agg [.int .i64 yk,.int .i64 yi,.int .i64 ys,.str yt,.list (yl.map Val.pv),.list (yf.map Fld.pv)],.bool true])/\ag Tryz.prog aq (wrF g.typ.kind) [.agg [.int .i64 yk,.int .i64 yi,.int .i64 ys,.str yt,.list (yl.map Val.pv),.list (yf.map Fld.pv)]] (.str (T g)):=by
    rcases hTx with ⟨q1,q2⟩ | ⟨⟨yn,⟨yk,yi,ys,yt,yl,yf⟩⟩,q1,q2⟩
    ·rw[q1] at h44g
     simp only[vlR,Option.map_none,Option.getD_none,Option.isSome_none,eM,Val.pv_mk,List.map_nil] at h44g
     exact .inl ⟨h44g,q2⟩
    ·rw[q1] at h44g
     simp only[vlR,Option.map_some,Option.getD_some,Option.isSome_some,Fld.value,Val.pv_mk] at h44g
     have q3:=q2
     simp only[Fld.value,Val.pv_mk] at q3
     exact .inr ⟨yk,yi,ys,yt,yl,yf,h44g,q3⟩
   have hw4:g.typ.kind=4->wrF g.typ.kind=85:=fun h=>by rw[h];rfl
   have hw2:g.typ.kind=2->wrF g.typ.kind=82:=fun h=>by rw[h];rfl
   have hw3:g.typ.kind=3->wrF g.typ.kind=82:=fun h=>by rw[h];rfl
   have hmx0:max 0 (n - 0)=n:=by omega
   have hrep0:T g=[]->ag Tryz.prog aq 45 [.str [32],.int .i64 n] (.str (spS (n - ((T g).length:Int)).toNat)):=fun h=>by
    have h2:=hrep
    rw[h] at h2 ⊢
    simpa using h2
   generalize wrF g.typ.kind=wf at *
   generalize T g=tx at *
   generalize hkd:g.typ.kind=kd at *
   generalize nS kd tx n=C at *
   generalize hWB:wrB tx=B at *
   generalize spS (n - (tx.length:Int)).toNat=SP at *
   have hCl:C.length<=4096/\1<=C.length:=by omega
   have hws:=NI (decide (acc≠[])) acc C (by omega) (by omega)
   clear hTx h44g h44 hst hT hsc hTl
   obtain⟨n',nm',nd',⟨k',m',M',s',w',e',f'⟩,d'⟩:=g
   simp only[TFd.name,TFd.typ,Typ.kind] at hsrc hkd
   subst kd
   have hacc2:(acc++C).length<=4096*(i+1):=by rw[List.length_append];omega
   obtain⟨c2,r2,hc2⟩:∃ c r,acc++C=c::r:=by
    cases h:acc++C with
    | nil=>
      have h2:(acc++C).length=0:=by rw[h];rfl
      rw[List.length_append] at h2;omega
    | cons c r=>exact⟨c,r,rfl⟩
   by_cases c1:k'=4/\B=false
   ·obtain⟨rfl,rfl⟩:=c1
    rw[if_pos ⟨rfl,rfl⟩] at hr
    subst hr
    obtain rfl:=hw4 rfl
    cases acc with
    | nil=>
      rcases hsrc with ⟨hf1,rfl⟩ | ⟨yk,yi,ys,yt,yl,yf,hf1,hf2⟩
      ·simp(disch:=try exact dI) only[hdS,dY,wrA,hg,Option.map_some,TFd.pv_mk,Typ.pv_mk,ae,push_cast,seval]
       refine ab.pure hf1 rfl ?_
       refine zgZ ?_
       refine ab.pure hwr rfl ?_
       exact qsZ
      ·simp(disch:=try exact dI) only[hdS,dY,wrA,hg,Option.map_some,TFd.pv_mk,Typ.pv_mk,ae,push_cast,seval]
       refine ab.pure hf1 rfl ?_
       simp(disch:=try exact dI) only[aA,hka,push_cast,seval]
       refine ab.pure hf2 rfl ?_
       refine zgZ ?_
       refine ab.pure hwr rfl ?_
       exact qsZ
    | cons a0 ar=>
      rcases hsrc with ⟨hf1,rfl⟩ | ⟨yk,yi,ys,yt,yl,yf,hf1,hf2⟩
      ·simp(disch:=try exact dI) only[hdS,dY,wrA,hg,Option.map_some,TFd.pv_mk,Typ.pv_mk,ae,push_cast,seval]
       refine ab.pure hf1 rfl ?_
       refine zgZ ?_
       refine ab.pure hwr rfl ?_
       exact qsZ
      ·simp(disch:=try exact dI) only[hdS,dY,wrA,hg,Option.map_some,TFd.pv_mk,Typ.pv_mk,ae,push_cast,seval]
       refine ab.pure hf1 rfl ?_
       simp(disch:=try exact dI) only[aA,hka,push_cast,seval]
       refine ab.pure hf2 rfl ?_
       refine zgZ ?_
       refine ab.pure hwr rfl ?_
       exact qsZ
   rw[if_neg c1] at hr
   rw[hc2] at hr hws
   cases acc with
   | nil=>
     rw[show decide (([]:List UInt8)≠[])=false from rfl] at hws
     simp only[bB,aB] at hws
     rcases hsrc with ⟨hf1,rfl⟩ | ⟨yk,yi,ys,yt,yl,yf,hf1,hf2⟩
     ·by_cases c4:k'=4
      ·subst c4
       obtain rfl:=hw4 rfl
       obtain rfl:B=true:=by cases B with
        | true=>rfl
        | false=>exact absurd ⟨rfl,rfl⟩ c1
       rw[if_neg (by decide)] at hpd
       subst hpd
       simp(disch:=try exact dI) only[hdS,dY,wrA,hg,Option.map_some,TFd.pv_mk,Typ.pv_mk,ae,push_cast,seval]
       refine ab.pure hf1 rfl ?_
       refine zgZ ?_
       refine ab.pure hwr rfl ?_
       simp(disch:=try exact dI) only[hnp,hmx0,push_cast,seval]
       refine ab.pure (hrep0 rfl) rfl ?_
       refine zgZ ?_
       refine ab.lentK hws [0] rfl qsZ qsZ ?_
       refine zgZ ?_
       exact⟨(i+1,c2::r2),aV (by simp(disch:=try exact dI) only[hdS,dY,wrA,push_cast,seval]),⟨by simp only;omega,hr,by rw[<- hc2];exact hacc2,.inr (by simp)⟩,by simp only;omega⟩
      ·by_cases c23:k'=2\/k'=3
       ·rw[if_pos c23] at hpd
        subst hpd
        rcases c23 with rfl | rfl
        ·obtain rfl:=hw2 rfl
         simp(disch:=try exact dI) only[hdS,dY,wrA,hg,Option.map_some,TFd.pv_mk,Typ.pv_mk,ae,push_cast,seval]
         refine ab.pure hf1 rfl ?_
         simp(disch:=try exact dI) only[hnp,hmx0,push_cast,seval]
         refine ab.pure (hrep0 rfl) rfl ?_
         refine zgZ ?_
         refine ab.lentK hws [0] rfl qsZ qsZ ?_
         refine zgZ ?_
         exact⟨(i+1,c2::r2),aV (by simp(disch:=try exact dI) only[hdS,dY,wrA,push_cast,seval]),⟨by simp only;omega,hr,by rw[<- hc2];exact hacc2,.inr (by simp)⟩,by simp only;omega⟩
        ·obtain rfl:=hw3 rfl
         simp(disch:=try exact dI) only[hdS,dY,wrA,hg,Option.map_some,TFd.pv_mk,Typ.pv_mk,ae,push_cast,seval]
         refine ab.pure hf1 rfl ?_
         simp(disch:=try exact dI) only[hnp,hmx0,push_cast,seval]
         refine ab.pure (hrep0 rfl) rfl ?_
         refine zgZ ?_
         refine ab.lentK hws [0] rfl qsZ qsZ ?_
         refine zgZ ?_
         exact⟨(i+1,c2::r2),aV (by simp(disch:=try exact dI) only[hdS,dY,wrA,push_cast,seval]),⟨by simp only;omega,hr,by rw[<- hc2];exact hacc2,.inr (by simp)⟩,by simp only;omega⟩
       ·rw[if_neg c23] at hpd
        subst hpd
        have c2a:¬ k'=2:=fun h=>c23 (.inl h)
        have c2b:¬ k'=3:=fun h=>c23 (.inr h)
        simp(disch:=try exact dI) only[hdS,dY,wrA,hg,Option.map_some,TFd.pv_mk,Typ.pv_mk,ae,push_cast,seval]
        refine ab.pure hf1 rfl ?_
        simp(disch:=try exact dI) only[c4,hnp,hmx0,push_cast,seval]
        refine ab.pure (hrep0 rfl) rfl ?_
        simp(disch:=try exact dI) only[c2a,c2b,push_cast,seval]
        refine ab.lentK hws [0] rfl qsZ qsZ ?_
        refine zgZ ?_
        exact⟨(i+1,c2::r2),aV (by simp(disch:=try exact dI) only[hdS,dY,wrA,push_cast,seval]),⟨by simp only;omega,hr,by rw[<- hc2];exact hacc2,.inr (by simp)⟩,by simp only;omega⟩
     ·by_cases c4:k'=4
      ·subst c4
       obtain rfl:=hw4 rfl
       obtain rfl:B=true:=by cases B with
        | true=>rfl
        | false=>exact absurd ⟨rfl,rfl⟩ c1
       rw[if_neg (by decide)] at hpd
       subst hpd
       simp(disch:=try exact dI) only[hdS,dY,wrA,hg,Option.map_some,TFd.pv_mk,Typ.pv_mk,ae,push_cast,seval]
       refine ab.pure hf1 rfl ?_
       simp(disch:=try exact dI) only[aA,hka,push_cast,seval]
       refine ab.pure hf2 rfl ?_
       refine zgZ ?_
       refine ab.pure hwr rfl ?_
       simp(disch:=try exact dI) only[hnp,hmx,push_cast,seval]
       refine ab.pure hrep rfl ?_
       refine zgZ ?_
       refine ab.lentK hws [0] rfl qsZ qsZ ?_
       refine zgZ ?_
       exact⟨(i+1,c2::r2),aV (by simp(disch:=try exact dI) only[hdS,dY,wrA,push_cast,seval]),⟨by simp only;omega,hr,by rw[<- hc2];exact hacc2,.inr (by simp)⟩,by simp only;omega⟩
      ·by_cases c23:k'=2\/k'=3
       ·rw[if_pos c23] at hpd
        subst hpd
        rcases c23 with rfl | rfl
        ·obtain rfl:=hw2 rfl
         simp(disch:=try exact dI) only[hdS,dY,wrA,hg,Option.map_some,TFd.pv_mk,Typ.pv_mk,ae,push_cast,seval]
         refine ab.pure hf1 rfl ?_
         simp(disch:=try exact dI) only[aA,hka,push_cast,seval]
         refine ab.pure hf2 rfl ?_
         simp(disch:=try exact dI) only[hnp,hmx,push_cast,seval]
         refine ab.pure hrep rfl ?_
         refine zgZ ?_
         refine ab.lentK hws [0] rfl qsZ qsZ ?_
         refine zgZ ?_
         exact⟨(i+1,c2::r2),aV (by simp(disch:=try exact dI) only[hdS,dY,wrA,push_cast,seval]),⟨by simp only;omega,hr,by rw[<- hc2];exact hacc2,.inr (by simp)⟩,by simp only;omega⟩
        ·obtain rfl:=hw3 rfl
         simp(disch:=try exact dI) only[hdS,dY,wrA,hg,Option.map_some,TFd.pv_mk,Typ.pv_mk,ae,push_cast,seval]
         refine ab.pure hf1 rfl ?_
         simp(disch:=try exact dI) only[aA,hka,push_cast,seval]
         refine ab.pure hf2 rfl ?_
         simp(disch:=try exact dI) only[hnp,hmx,push_cast,seval]
         refine ab.pure hrep rfl ?_
         refine zgZ ?_
         refine ab.lentK hws [0] rfl qsZ qsZ ?_
         refine zgZ ?_
         exact⟨(i+1,c2::r2),aV (by simp(disch:=try exact dI) only[hdS,dY,wrA,push_cast,seval]),⟨by simp only;omega,hr,by rw[<- hc2];exact hacc2,.inr (by simp)⟩,by simp only;omega⟩
       ·rw[if_neg c23] at hpd
        subst hpd
        have c2a:¬ k'=2:=fun h=>c23 (.inl h)
        have c2b:¬ k'=3:=fun h=>c23 (.inr h)
        simp(disch:=try exact dI) only[hdS,dY,wrA,hg,Option.map_some,TFd.pv_mk,Typ.pv_mk,ae,push_cast,seval]
        refine ab.pure hf1 rfl ?_
        simp(disch:=try exact dI) only[aA,hka,push_cast,seval]
        refine ab.pure hf2 rfl ?_
        simp(disch:=try exact dI) only[c4,hnp,hmx,push_cast,seval]
        refine ab.pure hrep rfl ?_
        simp(disch:=try exact dI) only[c2a,c2b,push_cast,seval]
        refine ab.lentK hws [0] rfl qsZ qsZ ?_
        refine zgZ ?_
        exact⟨(i+1,c2::r2),aV (by simp(disch:=try exact dI) only[hdS,dY,wrA,push_cast,seval]),⟨by simp only;omega,hr,by rw[<- hc2];exact hacc2,.inr (by simp)⟩,by simp only;omega⟩
   | cons a0 ar=>
     rw[show decide (a0::ar≠[])=true by simp] at hws
     simp only[bB,aB] at hws
     rcases hsrc with ⟨hf1,rfl⟩ | ⟨yk,yi,ys,yt,yl,yf,hf1,hf2⟩
     ·by_cases c4:k'=4
      ·subst c4
       obtain rfl:=hw4 rfl
       obtain rfl:B=true:=by cases B with
        | true=>rfl
        | false=>exact absurd ⟨rfl,rfl⟩ c1
       rw[if_neg (by decide)] at hpd
       subst hpd
       simp(disch:=try exact dI) only[hdS,dY,wrA,hg,Option.map_some,TFd.pv_mk,Typ.pv_mk,ae,push_cast,seval]
       refine ab.pure hf1 rfl ?_
       refine zgZ ?_
       refine ab.pure hwr rfl ?_
       simp(disch:=try exact dI) only[hnp,hmx0,push_cast,seval]
       refine ab.pure (hrep0 rfl) rfl ?_
       refine zgZ ?_
       refine ab.lentK hws [0,2] rfl qsZ qsZ ?_
       refine zgZ ?_
       exact⟨(i+1,c2::r2),aV (by simp(disch:=try exact dI) only[hdS,dY,wrA,push_cast,seval]),⟨by simp only;omega,hr,by rw[<- hc2];exact hacc2,.inr (by simp)⟩,by simp only;omega⟩
      ·by_cases c23:k'=2\/k'=3
       ·rw[if_pos c23] at hpd
        subst hpd
        rcases c23 with rfl | rfl
        ·obtain rfl:=hw2 rfl
         simp(disch:=try exact dI) only[hdS,dY,wrA,hg,Option.map_some,TFd.pv_mk,Typ.pv_mk,ae,push_cast,seval]
         refine ab.pure hf1 rfl ?_
         simp(disch:=try exact dI) only[hnp,hmx0,push_cast,seval]
         refine ab.pure (hrep0 rfl) rfl ?_
         refine zgZ ?_
         refine ab.lentK hws [0,2] rfl qsZ qsZ ?_
         refine zgZ ?_
         exact⟨(i+1,c2::r2),aV (by simp(disch:=try exact dI) only[hdS,dY,wrA,push_cast,seval]),⟨by simp only;omega,hr,by rw[<- hc2];exact hacc2,.inr (by simp)⟩,by simp only;omega⟩
        ·obtain rfl:=hw3 rfl
         simp(disch:=try exact dI) only[hdS,dY,wrA,hg,Option.map_some,TFd.pv_mk,Typ.pv_mk,ae,push_cast,seval]
         refine ab.pure hf1 rfl ?_
         simp(disch:=try exact dI) only[hnp,hmx0,push_cast,seval]
         refine ab.pure (hrep0 rfl) rfl ?_
         refine zgZ ?_
         refine ab.lentK hws [0,2] rfl qsZ qsZ ?_
         refine zgZ ?_
         exact⟨(i+1,c2::r2),aV (by simp(disch:=try exact dI) only[hdS,dY,wrA,push_cast,seval]),⟨by simp only;omega,hr,by rw[<- hc2];exact hacc2,.inr (by simp)⟩,by simp only;omega⟩
       ·rw[if_neg c23] at hpd
        subst hpd
        have c2a:¬ k'=2:=fun h=>c23 (.inl h)
        have c2b:¬ k'=3:=fun h=>c23 (.inr h)
        simp(disch:=try exact dI) only[hdS,dY,wrA,hg,Option.map_some,TFd.pv_mk,Typ.pv_mk,ae,push_cast,seval]
        refine ab.pure hf1 rfl ?_
        simp(disch:=try exact dI) only[c4,hnp,hmx0,push_cast,seval]
        refine ab.pure (hrep0 rfl) rfl ?_
        simp(disch:=try exact dI) only[c2a,c2b,push_cast,seval]
        refine ab.lentK hws [0,2] rfl qsZ qsZ ?_
        refine zgZ ?_
        exact⟨(i+1,c2::r2),aV (by simp(disch:=try exact dI) only[hdS,dY,wrA,push_cast,seval]),⟨by simp only;omega,hr,by rw[<- hc2];exact hacc2,.inr (by simp)⟩,by simp only;omega⟩
     ·by_cases c4:k'=4
      ·subst c4
       obtain rfl:=hw4 rfl
       obtain rfl:B=true:=by cases B with
        | true=>rfl
        | false=>exact absurd ⟨rfl,rfl⟩ c1
       rw[if_neg (by decide)] at hpd
       subst hpd
       simp(disch:=try exact dI) only[hdS,dY,wrA,hg,Option.map_some,TFd.pv_mk,Typ.pv_mk,ae,push_cast,seval]
       refine ab.pure hf1 rfl ?_
       simp(disch:=try exact dI) only[aA,hka,push_cast,seval]
       refine ab.pure hf2 rfl ?_
       refine zgZ ?_
       refine ab.pure hwr rfl ?_
       simp(disch:=try exact dI) only[hnp,hmx,push_cast,seval]
       refine ab.pure hrep rfl ?_
       refine zgZ ?_
       refine ab.lentK hws [0,2] rfl qsZ qsZ ?_
       refine zgZ ?_
       exact⟨(i+1,c2::r2),aV (by simp(disch:=try exact dI) only[hdS,dY,wrA,push_cast,seval]),⟨by simp only;omega,hr,by rw[<- hc2];exact hacc2,.inr (by simp)⟩,by simp only;omega⟩
      ·by_cases c23:k'=2\/k'=3
       ·rw[if_pos c23] at hpd
        subst hpd
        rcases c23 with rfl | rfl
        ·obtain rfl:=hw2 rfl
         simp(disch:=try exact dI) only[hdS,dY,wrA,hg,Option.map_some,TFd.pv_mk,Typ.pv_mk,ae,push_cast,seval]
         refine ab.pure hf1 rfl ?_
         simp(disch:=try exact dI) only[aA,hka,push_cast,seval]
         refine ab.pure hf2 rfl ?_
         simp(disch:=try exact dI) only[hnp,hmx,push_cast,seval]
         refine ab.pure hrep rfl ?_
         refine zgZ ?_
         refine ab.lentK hws [0,2] rfl qsZ qsZ ?_
         refine zgZ ?_
         exact⟨(i+1,c2::r2),aV (by simp(disch:=try exact dI) only[hdS,dY,wrA,push_cast,seval]),⟨by simp only;omega,hr,by rw[<- hc2];exact hacc2,.inr (by simp)⟩,by simp only;omega⟩
        ·obtain rfl:=hw3 rfl
         simp(disch:=try exact dI) only[hdS,dY,wrA,hg,Option.map_some,TFd.pv_mk,Typ.pv_mk,ae,push_cast,seval]
         refine ab.pure hf1 rfl ?_
         simp(disch:=try exact dI) only[aA,hka,push_cast,seval]
         refine ab.pure hf2 rfl ?_
         simp(disch:=try exact dI) only[hnp,hmx,push_cast,seval]
         refine ab.pure hrep rfl ?_
         refine zgZ ?_
         refine ab.lentK hws [0,2] rfl qsZ qsZ ?_
         refine zgZ ?_
         exact⟨(i+1,c2::r2),aV (by simp(disch:=try exact dI) only[hdS,dY,wrA,push_cast,seval]),⟨by simp only;omega,hr,by rw[<- hc2];exact hacc2,.inr (by simp)⟩,by simp only;omega⟩
       ·rw[if_neg c23] at hpd
        subst hpd
        have c2a:¬ k'=2:=fun h=>c23 (.inl h)
        have c2b:¬ k'=3:=fun h=>c23 (.inr h)
        simp(disch:=try exact dI) only[hdS,dY,wrA,hg,Option.map_some,TFd.pv_mk,Typ.pv_mk,ae,push_cast,seval]
        refine ab.pure hf1 rfl ?_
        simp(disch:=try exact dI) only[aA,hka,push_cast,seval]
        refine ab.pure hf2 rfl ?_
        simp(disch:=try exact dI) only[c4,hnp,hmx,push_cast,seval]
        refine ab.pure hrep rfl ?_
        simp(disch:=try exact dI) only[c2a,c2b,push_cast,seval]
        refine ab.lentK hws [0,2] rfl qsZ qsZ ?_
        refine zgZ ?_
        exact⟨(i+1,c2::r2),aV (by simp(disch:=try exact dI) only[hdS,dY,wrA,push_cast,seval]),⟨by simp only;omega,hr,by rw[<- hc2];exact hacc2,.inr (by simp)⟩,by simp only;omega⟩
  ·obtain rfl:i=f.length:=by omega
   rw[List.drop_length,gH] at hr
   cases acc with
   | nil=>exact absurd (hne.resolve_left (by omega)) (by simp)
   | cons a0 ar=>
     simp(disch:=try exact dI) only[hdS,dY,wrA,Int.lt_irrefl,push_cast,seval]
     exact⟨a0::ar,aV (by simp(disch:=try exact dI) only[exS,push_cast,seval]),hr,by simp,by omega⟩
 ·rintro acc ⟨hr,hne,hl⟩
  subst hr
  cases acc with
  | nil=>exact absurd rfl hne
  | cons a0 ar=>
    have hstB:=Ki true (a0::ar) (by omega)
    simp only[bB,aB,stB] at hstB
    simp(disch:=try exact dI) only[exS,push_cast,seval]
    refine ab.lentK hstB [0,1] rfl qsZ qsZ ?_
    exact qsZ
theorem yx (t:Typ)(ht:t.ok)(w:List Int)(v:Val)(he:¬ lf t w=0):ag Tryz.prog aq 14 [t.pv,.list (db w),v.pv] (.tup [.str [],.int .i64 (lf t w)]):=by
 have h12:=lP t ht w
 generalize lf t w=z at *
 obtain⟨k,m,M,s,wd,e,f⟩:=t
 obtain⟨vk,vn,vs,vt,vl,vf⟩:=v
 simp only[Typ.pv_mk,Val.pv_mk] at h12 ⊢
 refine ag.intro Q14.2 (by simp[Q14]) ?_
 simp(disch:=try exact dI) only[Q14,push_cast,seval]
 refine ab.pure h12 rfl ?_
 simp(disch:=try exact dI) only[he,push_cast,seval]
theorem yu (t:Typ)(ht:t.ok)(w:List Int)(v:Val)(hv:v.ok)(he:lf t w=0)(hfit:nU t v=false):ag Tryz.prog aq 14 [t.pv,.list (db w),v.pv] (.tup [.str [],.int .i64 18]):=by
 have h12:=lP t ht w
 obtain⟨hfe,_,_⟩:=eY he
 obtain⟨h0,hfl⟩:=iB hfe
 have h42:=Jm h0 ht hfl v hv
 rw[hfit] at h42
 rw[he] at h12
 clear he hfe h0 hfl hfit
 obtain⟨k,m,M,s,wd,e,f⟩:=t
 obtain⟨vk,vn,vs,vt,vl,vf⟩:=v
 simp only[Typ.pv_mk,Val.pv_mk] at h12 h42 ⊢
 refine ag.intro Q14.2 (by simp[Q14]) ?_
 simp(disch:=try exact dI) only[Q14,push_cast,seval]
 refine ab.pure h12 rfl ?_
 refine zgZ ?_
 refine ab.pure h42 rfl ?_
 exact qsZ
end Go.Proofs.YtbojpfpliibfbaaGreatDoor

/- A part of the proof. -/
import Derived.Test.YtbojpfpliibfbaaGreatDoorDeRSf
set_option maxHeartbeats 16000000
set_option maxRecDepth 100000
set_option linter.unusedVariables false
set_option linter.unusedSimpArgs false
namespace Go.Proofs.YtbojpfpliibfbaaGreatDoor
open Go Go.Ab
attribute [local irreducible] vc
theorem AZ (v:Val):ak Tryz.prog ap 67 [v.pv] (.bool (aS v)):=by
 obtain⟨k,n,s,t,l,fs⟩:=v
 have h5:(l.length=0/\(l.length:Int)=0)\/(¬ l.length=0/\¬ (l.length:Int)=0):=by omega
 have h6:(fs.length=0/\(fs.length:Int)=0)\/(¬ fs.length=0/\¬ (fs.length:Int)=0):=by omega
 obtain⟨r,hr⟩:∃ r,r=aS (.mk k n s t l fs):=⟨_,rfl⟩
 rw[<- hr]
 refine ak.intro Q67.2 (by simp[Q67]) ?_
 rcases Classical.em (k=0) with a | a
 all_goals first | (have:=hend;skip) | (refine aO (c:=false) hr ?_ ?_;(focus (simp[aS, *];done));rintro rfl;have hend:=trivial;clear h5 h6) | rcases Classical.em (n=0) with b | b
 all_goals first | (have:=hend;skip) | (refine aO (c:=false) hr ?_ ?_;(focus (simp[aS, *];done));rintro rfl;have hend:=trivial;clear h5 h6) | rcases Classical.em (s=0) with c | c
 all_goals first | (have:=hend;skip) | (refine aO (c:=false) hr ?_ ?_;(focus (simp[aS, *];done));rintro rfl;have hend:=trivial;clear h5 h6) | rcases Classical.em (t=[]) with d | d
 all_goals first | (have:=hend;skip) | (refine aO (c:=false) hr ?_ ?_;(focus (simp[aS, *];done));rintro rfl;have hend:=trivial;clear h5 h6) | rcases h5 with ⟨e,e1⟩ | ⟨e,e1⟩
 all_goals first | (have:=hend;skip) | (refine aO (c:=false) hr ?_ ?_;(focus (simp[aS, *];done));rintro rfl;have hend:=trivial;clear h6) | rcases h6 with ⟨f,f1⟩ | ⟨f,f1⟩
 all_goals first | (have:=hend;skip) | (refine aO (c:=true) hr ?_ ?_;(focus (simp[aS, *];done));rintro rfl) | (refine aO (c:=false) hr ?_ ?_;(focus (simp[aS, *];done));rintro rfl)
 all_goals clear hr
 all_goals simp(disch:=try exact dI) only[Q67,Val.pv_mk, *,push_cast,seval]
theorem yO (v:Val)(hk:1<=v.kind/\v.kind<=10):ak Tryz.prog ap 267 [v.pv] (.bool (!bj v)):=by
 obtain⟨k,n,s,t,l,fs⟩:=v
 simp only[Val.kind] at hk
 obtain⟨h1,h2,h3,h4,h5⟩:=yM k n s t l fs hk
 obtain⟨r,hr⟩:∃ r,r=bj (.mk k n s t l fs):=⟨_,rfl⟩
 rw[<- hr]
 refine ak.intro RG.2 (by simp[RG]) ?_
 have hc:k=1\/k=2\/k=3\/k=4\/k=5\/k=6\/k=7\/k=8\/k=9\/k=10:=by omega
 clear hk
 rcases hc with rfl | rfl | rfl | rfl | rfl | rfl | rfl | rfl | rfl | rfl
 all_goals rcases h1 with a | ⟨a,b⟩ | ⟨a,b⟩
 all_goals try omega
 all_goals first | (have:=hend;skip) | (refine aO (c:=false) hr ?_ ?_;(focus (simp[bj, *];done));rintro rfl;have hend:=trivial;clear h2 h3 h4 h5) | rcases h2 with a2 | ⟨a2,b2⟩ | ⟨a2,b2⟩
 all_goals try omega
 all_goals first | (have:=hend;skip) | (refine aO (c:=false) hr ?_ ?_;(focus (simp[bj, *];done));rintro rfl;have hend:=trivial;clear h3 h4 h5) | rcases h3 with a3 | ⟨a3,b3⟩ | ⟨a3,b3⟩
 all_goals try omega
 all_goals first | (have:=hend;skip) | (refine aO (c:=false) hr ?_ ?_;(focus (simp[bj, *];done));rintro rfl;have hend:=trivial;clear h4 h5) | rcases h4 with a4 | ⟨a4,b4,c4⟩ | ⟨a4,b4,c4⟩
 all_goals try omega
 all_goals first | (have:=hend;skip) | (refine aO (c:=false) hr ?_ ?_;(focus (simp[bj, *];done));rintro rfl;have hend:=trivial;clear h5) | rcases h5 with a5 | ⟨a5,b5,c5⟩ | ⟨a5,b5,c5⟩
 all_goals try omega
 all_goals first | (have:=hend;skip) | (refine aO (c:=true) hr ?_ ?_;(focus (simp[bj, *];done));rintro rfl) | (refine aO (c:=false) hr ?_ ?_;(focus (simp[bj, *];done));rintro rfl)
 all_goals clear hr
 all_goals simp(disch:=try exact dI) only[RG,Bool.not_true,Bool.not_false,Val.pv_mk, *,push_cast,seval]
theorem rB (s:List UInt8):ak Tryz.prog ap 66 [.str s] (.bool (bz s)):=by
 refine ak.intro Q66.2 (by simp[Q66]) ?_
 by_cases h1:0<s.length
 ·by_cases h32:s.length<=32
  ·have e:bz s=(iW (s.headD 0)&&s.all okC):=by simp only[bz,decide_eq_true h1,decide_eq_true h32,Bool.true_and]
   rw[e]
   have hd0:s[0]? = some (s.headD 0):=by cases s with
    | nil=>simp at h1
    | cons a b=>rfl
   simp(disch:=try exact dI) only[Q66,push_cast,seval]
   refine am ([]) (fun i:Nat=>[(3,.pv (.int .i64 (i:Int)))]) (fun _=>[]) (fun i=>i<=s.length/\(s.take i).all okC=true/\(0<i->iW (s.headD 0)=true)) (fun i=>s.length - i) (0) ?_;intro e0 σ0 n0 h0;simp(disch:=try exact dI) only[push_cast,seval] at h0;obtain⟨rfl,rfl,rfl⟩:=h0;refine⟨?_,?_,?_⟩
   ·exact qsZ
   ·exact⟨by omega,by simp,by omega⟩
   rintro i ⟨hi,hall,hl0⟩
   by_cases hlt:i<s.length
   ·have hltI:(i:Int)<(s.length:Int):=by omega
    obtain⟨b,hb⟩:∃ b,s[i]? = some b:=⟨_,List.getElem?_eq_getElem hlt⟩
    have hbn:=b.toNat_lt
    have hsn:=uP hb
    rw[hall,Bool.true_and] at hsn
    by_cases hlt2:97<=b.toNat/\b.toNat<=122
    ·have hok:okC b=true:=by simp[okC,iW];omega
     have hlet:0<i+1->iW (s.headD 0)=true:=by
      intro _
      by_cases hi0:i=0
      ·subst hi0
       rw[hb] at hd0
       rw[<- Option.some.inj hd0]
       simp[iW];omega
      ·exact hl0 (by omega)
     simp(disch:=try exact dI) only[hb,aq,push_cast,seval]
     exact⟨i+1,aI qsZ,⟨by omega,by rw[hsn,hok],hlet⟩,by omega⟩
    ·by_cases hi0:i=0
     ·subst hi0
      have hbad:(iW (s.headD 0)&&s.all okC)=false:=by
       rw[hb] at hd0
       rw[<- Option.some.inj hd0]
       simp only[iW,Bool.and_eq_false_iff,decide_eq_false_iff_not];left;omega
      rw[hbad]
      have hc:b.toNat<97\/122<b.toNat:=by omega
      rcases hc with hc | hc
      ·simp(disch:=try exact dI) only[hb,aq,push_cast,seval]
      ·simp(disch:=try exact dI) only[hb,aq,push_cast,seval]
     ·have hi0I:¬ (i:Int)=0:=by omega
      have hl:=hl0 (by omega)
      have hc:b.toNat<48\/(48<=b.toNat/\b.toNat<=57)\/(57<b.toNat/\b.toNat<97/\b.toNat≠95)\/b.toNat=95\/122<b.toNat:=by omega
      rcases hc with hc | hc | hc | hc | hc
      ·have hbad:(iW (s.headD 0)&&s.all okC)=false:=by rw[iP hb (by simp[okC,iW];omega),Bool.and_false]
       rw[hbad]
       simp(disch:=try exact dI) only[hb,aq,push_cast,seval]
      ·have hok:okC b=true:=by simp[okC,iW];omega
       simp(disch:=try exact dI) only[hb,aq,push_cast,seval]
       exact⟨i+1,aI qsZ,⟨by omega,by rw[hsn,hok],fun _=>hl⟩,by omega⟩
      ·have hbad:(iW (s.headD 0)&&s.all okC)=false:=by rw[iP hb (by simp[okC,iW];omega),Bool.and_false]
       rw[hbad]
       simp(disch:=try exact dI) only[hb,aq,push_cast,seval]
      ·have hok:okC b=true:=by simp[okC,iW];omega
       simp(disch:=try exact dI) only[hb,aq,push_cast,seval]
       exact⟨i+1,aI qsZ,⟨by omega,by rw[hsn,hok],fun _=>hl⟩,by omega⟩
      ·have hbad:(iW (s.headD 0)&&s.all okC)=false:=by rw[iP hb (by simp[okC,iW];omega),Bool.and_false]
       rw[hbad]
       simp(disch:=try exact dI) only[hb,aq,push_cast,seval]
   ·have he:s.take i=s:=List.take_of_length_le (by omega)
    rw[he] at hall
    rw[hall,hl0 (by omega)]
    exact qsZ
  ·have e:bz s=false:=by simp[bz,h32]
   rw[e]
   simp(disch:=try exact dI) only[Q66,push_cast,seval]
 ·have e:bz s=false:=by simp[bz,h1]
  rw[e]
  simp(disch:=try exact dI) only[Q66,push_cast,seval]
theorem ix (n a b:Int):ak Tryz.prog ap 268 [.int .i64 n,.int .i64 a,.int .i64 b] (.bool (!inB n a b)):=by
 refine ak.intro Pp.2 (by simp[Pp]) ?_
 by_cases h1:a<=n
 ·have h1':¬ n<a:=by omega
  by_cases h2:n<=b
  ·have h2':¬ b<n:=by omega
   rw[show inB n a b=true by simp[inB,h1,h2]]
   simp(disch:=try exact dI) only[Pp,h1',h2',push_cast,seval]
  ·have h2':b<n:=by omega
   rw[show inB n a b=false by simp[inB,h2]]
   simp(disch:=try exact dI) only[Pp,h1',h2',push_cast,seval]
 ·have h1':n<a:=by omega
  rw[show inB n a b=false by simp[inB,h1]]
  simp(disch:=try exact dI) only[Pp,h1',push_cast,seval]
def fA (fs:List Fld):Int:=if cU fs.length 64 9=0 then eF none (fs.map Fld.name) else cU fs.length 64 9
theorem Cg (fs:List Fld):ak Tryz.prog ap 269 [.list (fs.map Fld.pv)] (.int .i64 (fA fs)):=by
 unfold fA
 by_cases h64:(64:Int)<fs.length
 ·rw[show cU fs.length 64 9=9 from if_pos h64]
  rw[if_neg (by omega)]
  refine ak.intro Ma.2 (by simp[Ma]) ?_
  simp(disch:=try exact dI) only[Ma,h64,push_cast,seval]
 ·rw[show cU fs.length 64 9=0 from if_neg h64]
  rw[if_pos rfl]
  have hfl:fs.length<=64:=by omega
  obtain⟨R,hR⟩:∃ R,R=eF none (fs.map Fld.name):=⟨_,rfl⟩
  rw[<- hR]
  refine ak.intro Ma.2 (by simp[Ma]) ?_
  simp(disch:=try exact dI) only[Ma,h64,push_cast,seval]
  refine am ([]) (fun i:Nat=>[(3,.pv (.int .i64 (i:Int)))]) (fun _=>[]) (fun i=>i<=fs.length/\R=eF (gI fs i) ((fs.map Fld.name).drop i)) (fun i=>fs.length - i) (0) ?_;intro e0 σ0 n0 h0;simp(disch:=try exact dI) only[push_cast,seval] at h0;obtain⟨rfl,rfl,rfl⟩:=h0;refine⟨?_,?_,?_⟩
  ·exact qsZ
  ·exact⟨by omega,by simpa[gI] using hR⟩
  rintro i ⟨hi,hr⟩
  by_cases hlt:i<fs.length
  ·have hltI:(i:Int)<(fs.length:Int):=by omega
   obtain⟨c,hc⟩:∃ c,fs[i]? = some c:=⟨_,List.getElem?_eq_getElem hlt⟩
   obtain⟨nm,⟨k',n',s',t',l',f'⟩⟩:=c
   have hcp:(fs.map Fld.pv)[i]? = some (.agg [.str nm,.int .i64 k',.int .i64 n',.int .i64 s',.str t',.list (l'.map Val.pv),.list (f'.map Fld.pv)]):=by simp[hc,Fld.pv_mk,Val.pv_mk,ag]
   have hnm:(fs.map Fld.name)[i]? = some nm:=by simp[hc,Fld.name]
   have hn:=rB nm
   rw[kw hnm] at hr
   have hnext:gI fs (i+1)=some nm:=by simp[gI,hc,Fld.name]
   cases hb:bz nm with
   | false=>
     rw[hb] at hn hr
     rw[if_pos rfl] at hr
     subst hr
     simp(disch:=try exact dI) only[hcp,push_cast,seval]
     refine ab.pure hn rfl ?_
     exact qsZ
   | true=>
     rw[hb] at hn hr
     rw[if_neg (by simp)] at hr
     by_cases hi0:i=0
     ·have hiI:¬ (0:Int)<(i:Int):=by omega
      have hpn:gI fs i=none:=if_pos hi0
      rw[hpn,if_neg (by simp),if_neg (by simp),<- hnext] at hr
      simp(disch:=try exact dI) only[hcp,push_cast,seval]
      refine ab.pure hn rfl ?_
      refine zgZ ?_
      exact⟨i+1,aI qsZ,⟨by omega,by rw[List.map_drop];exact hr⟩,by omega⟩
     ·obtain⟨j,rfl⟩:∃ j,i=j+1:=⟨i - 1,by omega⟩
      obtain⟨c,hc'⟩:∃ c,fs[j]? = some c:=⟨_,List.getElem?_eq_getElem (by omega)⟩
      have hpn:gI fs (j+1)=some c.name:=by simp[gI,hc']
      obtain⟨q,⟨k2,n2,s2,t2,l2,f2⟩⟩:=c
      have hcq:(fs.map Fld.pv)[j]? = some (.agg [.str q,.int .i64 k2,.int .i64 n2,.int .i64 s2,.str t2,.list (l2.map Val.pv),.list (f2.map Fld.pv)]):=by simp[hc',Fld.pv_mk,Val.pv_mk,ag]
      simp only[Fld.name] at hpn
      rw[hpn] at hr
      by_cases hq:nm=q
      ·subst hq
       rw[if_pos rfl] at hr
       subst hr
       simp(disch:=try exact dI) only[hcp,hcq,Int.add_sub_cancel,push_cast,seval]
       refine ab.pure hn rfl ?_
       simp(disch:=try exact dI) only[hcp,hcq,Int.add_sub_cancel,push_cast,seval]
      ·rw[if_neg (by simpa using fun e=>hq e.symm)] at hr
       cases hlt2:bf nm q with
       | true=>
         rw[if_pos (by simpa using hlt2)] at hr
         subst hr
         simp(disch:=try exact dI) only[hcp,hcq,Int.add_sub_cancel,push_cast,seval]
         refine ab.pure hn rfl ?_
         simp(disch:=try exact dI) only[hcp,hcq,Int.add_sub_cancel,hq,hlt2,push_cast,seval]
       | false=>
         rw[if_neg (by simp[hlt2]),<- hnext] at hr
         simp(disch:=try exact dI) only[hcp,hcq,Int.add_sub_cancel,push_cast,seval]
         refine ab.pure hn rfl ?_
         simp(disch:=try exact dI) only[hcp,hcq,Int.add_sub_cancel,hq,hlt2,push_cast,seval]
         exact⟨j+1+1,aI qsZ,⟨by omega,by rw[List.map_drop];exact hr⟩,by omega⟩
  ·have hie:i=fs.length:=by omega
   subst hie
   rw[List.drop_of_length_le (by simp)] at hr
   rw[show R=0 from hr]
   exact qsZ
theorem tl (v:Val)(hl:v.lst.length*88<=140737488351232)(hf:v.fields.length*104<=140737488351232):ak Tryz.prog ap 237 [v.pv] (.list ((bg v).map Val.pv)):=by
 obtain⟨k,n,s,t,l,fs⟩:=v
 simp only[Val.fields,Val.lst] at hf hl
 by_cases h8:k=8\/k=10
 ·rw[bT (v:=.mk k n s t l fs) h8]
  simp only[Val.lst]
  cases l with
  | nil=>
    rcases h8 with rfl | rfl
    ·refine ak.intro oa.2 (by simp[oa]) ?_
     simp(disch:=try exact dI) only[oa,Val.pv_mk,push_cast,seval]
    ·refine ak.intro oa.2 (by simp[oa]) ?_
     simp(disch:=try exact dI) only[oa,Val.pv_mk,push_cast,seval]
  | cons x r=>
    rw[List.length_cons] at hl
    rcases h8 with rfl | rfl
    ·refine ak.intro oa.2 (by simp[oa]) ?_
     simp(disch:=try exact dI) only[oa,Val.pv_mk,Val.cells_len,push_cast,seval]
    ·refine ak.intro oa.2 (by simp[oa]) ?_
     simp(disch:=try exact dI) only[oa,Val.pv_mk,Val.cells_len,push_cast,seval]
 ·by_cases h9:k=9
  ·subst h9
   rw[db (v:=.mk 9 n s t l fs) rfl]
   simp only[Val.fields]
   refine ak.intro oa.2 (by simp[oa]) ?_
   simp(disch:=try exact dI) only[oa,Val.pv_mk,push_cast,seval]
   refine am ([(3,0,36,6)]) (fun i:Nat=>[(3,.olist 0 6 (((fs.take i).map Fld.value).map Val.pv)),(4,.pv (.int .i64 (i:Int)))]) (fun _=>[]) (fun i=>i<=fs.length) (fun i=>fs.length - i) (0) ?_;intro e0 σ0 n0 h0;simp(disch:=try exact dI) only[push_cast,seval] at h0;obtain⟨rfl,rfl,rfl⟩:=h0;refine⟨?_,?_,?_⟩
   ·exact qsZ
   ·omega
   rintro i hi
   by_cases hlt:i<fs.length
   ·have hltI:(i:Int)<(fs.length:Int):=by omega
    obtain⟨c,hc⟩:∃ c,fs[i]? = some c:=⟨_,List.getElem?_eq_getElem hlt⟩
    have hts:=aB hc
    have hlt2:(fs.take i).length=i:=by rw[List.length_take];omega
    obtain⟨nm,⟨k',n',s',t',l',f'⟩⟩:=c
    have hcp:(fs.map Fld.pv)[i]? = some (.agg [.str nm,.int .i64 k',.int .i64 n',.int .i64 s',.str t',.list (l'.map Val.pv),.list (f'.map Fld.pv)]):=by simp[hc,Fld.pv_mk,Val.pv_mk,ag]
    simp(disch:=try exact dI) only[hcp,hlt2,push_cast,seval]
    exact⟨i+1,aI (by simp(disch:=try exact dI) only[hts,List.map_append,Fld.value,Val.pv_mk,push_cast,seval]),by omega,by omega⟩
   ·have he:i=fs.length:=by omega
    subst he
    simp(disch:=try exact dI) only[List.take_length,nl,push_cast,seval]
  ·rw[dP (v:=.mk k n s t l fs) h8 h9]
   refine ak.intro oa.2 (by simp[oa]) ?_
   have e1:¬ k=8:=by omega
   have e2:¬ k=10:=by omega
   simp(disch:=try exact dI) only[oa,Val.pv_mk,push_cast,seval]
def szN:Nat->Val->Nat
 | 0,_=>0
 | n+1,v=>1+((bg v).map (szN n)).sum
theorem kS {α β:Type}{p:α->List β}{q:α->Nat}:∀ (l:List α),(∀ x∈l,(p x).length=q x)->(l.flatMap p).length=(l.map q).sum
 | [],_=>rfl
 | x::r,h=>by
   rw[List.flatMap_cons,List.length_append,h x (List.mem_cons_self ..),kS r fun y hy=>h y (List.mem_cons_of_mem _ hy)]
   simp
theorem rj:∀ (n:Nat) (lv:Int) (v:Val),(cJ n lv v).length=szN n v
 | 0,_,_=>rfl
 | n+1,lv,v=>by
   rw[cJ,szN,List.length_cons,kS _ fun x _=>rj n (Go.RowKit.wrap64 (lv+1)) x]
   omega
theorem oh {p:Val->Nat}{f:List Val}{i:Nat}{g:Val}(h:f[i]? = some g):((f.take (i+1)).map p).sum=((f.take i).map p).sum+p g:=by
 rw[aB h,List.map_append,List.sum_append];simp
theorem yZ {p:Val->Nat}{f:List Val}(i:Nat):((f.take i).map p).sum<=(f.map p).sum:=by
 have h:(f.map p).sum=((f.take i).map p).sum+((f.drop i).map p).sum:=by
  rw[<- List.sum_append,<- List.map_append,List.take_append_drop]
 omega
theorem Em {p:Val->Nat}{f:List Val}{i:Nat}{g:Val}(h:f[i]? = some g):p g<=(f.map p).sum:=by
 have h1:=oh (p:=p) h
 have h2:=yZ (p:=p) (f:=f) (i+1)
 omega
theorem wb (v:Val)(hv:v.ok):(bg v).length<=140737488351232:=by
 obtain⟨k,n,s,t,l,fs⟩:=v
 rw[Val.ok_mk] at hv
 obtain⟨_,_,_,_,h5,_,h7,_⟩:=hv
 by_cases h8:k=8\/k=10
 ·rw[bT (v:=.mk k n s t l fs) h8];simp only[Val.lst];omega
 ·by_cases h9:k=9
  ·rw[db (v:=.mk k n s t l fs) h9];simp only[Val.fields,List.length_map];omega
  ·rw[dP (v:=.mk k n s t l fs) h8 h9];simp
theorem oN {v x:Val}(hv:v.ok)(hx:x∈bg v):x.ok:=by
 obtain⟨k,n,s,t,l,fs⟩:=v
 rw[Val.ok_mk] at hv
 obtain⟨_,_,_,_,_,h6,_,h8'⟩:=hv
 by_cases h8:k=8\/k=10
 ·rw[bT (v:=.mk k n s t l fs) h8] at hx;exact h6 x hx
 ·by_cases h9:k=9
  ·rw[db (v:=.mk k n s t l fs) h9] at hx
   obtain⟨f,hf,rfl⟩:=List.mem_map.1 hx
   have:=h8' f hf
   obtain⟨a,b⟩:=f
   rw[Fld.ok_mk] at this;exact this.2
  ·rw[dP (v:=.mk k n s t l fs) h8 h9] at hx;cases hx
theorem zf:∀ (n:Nat) (v:Val),cW n v->v.ok->szN n v<=9223372036854775806->ak Tryz.prog ap 190 [v.pv] (.int .i64 (szN n v:Int))
 | 0,_,h,_,_=>h.elim
 | n+1,v,hd,hv,hs=>by
   have ih:=zf n
   have hpl:=wb v hv
   have hpo:=fun x (hx:x∈bg v)=>oN hv hx
   have hp:=tl v (by cases v;rw[Val.ok_mk] at hv;exact hv.2.2.2.2.1) (by cases v;rw[Val.ok_mk] at hv;exact hv.2.2.2.2.2.2.1)
   rw[cW] at hd
   rw[szN] at hs ⊢
   generalize bg v=ps at *
   obtain⟨k,vn,s,t,l,fs⟩:=v
   simp only[Val.pv_mk] at hp
   refine ak.intro RZ.2 (by simp[RZ]) ?_
   simp(disch:=try exact dI) only[RZ,Val.pv_mk,push_cast,seval]
   refine ab.pure hp rfl ?_
   refine zgZ ?_
   refine am ([]) (fun i:Nat=>[(3,.pv (.int .i64 ((1+((ps.take i).map (szN n)).sum:Nat):Int))),(5,.pv (.int .i64 (i:Int)))]) (fun _=>[]) (fun i=>i<=ps.length) (fun i=>ps.length - i) (0) ?_;intro e0 σ0 n0 h0;simp(disch:=try exact dI) only[push_cast,seval] at h0;obtain⟨rfl,rfl,rfl⟩:=h0;refine⟨?_,?_,?_⟩
   ·simp(disch:=try exact dI) only[List.take_zero,List.map_nil,List.sum_nil,push_cast,seval]
   ·omega
   rintro i hi
   by_cases hlt:i<ps.length
   ·have hltI:(i:Int)<(ps.length:Int):=by omega
    obtain⟨x,hx⟩:∃ x,ps[i]? = some x:=⟨_,List.getElem?_eq_getElem hlt⟩
    have hxm:=List.mem_of_getElem? hx
    have h1:=oh (p:=szN n) hx
    have h2:=yZ (p:=szN n) (f:=ps) (i+1)
    have h3:=Em (p:=szN n) hx
    have hc:=ih x (hd x hxm) (hpo x hxm) (by omega)
    generalize ((ps.take i).map (szN n)).sum=S at *
    generalize szN n x=z at *
    obtain⟨xk,xn,xs,xt,xl,xf⟩:=x
    simp only[Val.pv_mk] at hc
    simp(disch:=try exact dI) only[hx,Option.map_some,Val.pv_mk,push_cast,seval]
    refine ab.pure hc rfl ?_
    refine zgZ ?_
    exact⟨i+1,aI (by simp(disch:=try exact dI) only[h1,Int.add_assoc,push_cast,seval]),by omega,by omega⟩
   ·obtain rfl:i=ps.length:=by omega
    rw[List.take_length]
    simp(disch:=try exact dI) only[Int.lt_irrefl,push_cast,seval]
def JW (v:Val):Int:=if aS v=true then 19 else if v.kind<1\/10<v.kind then 11 else if bj v=false then 3 else bd v
theorem nj (n a b:Int):ek n a b=if inB n a b=false then 2 else 0:=by
 unfold ek inB;by_cases h1:a<=n<;>by_cases h2:n<=b<;>simp[h1,h2]<;>omega
theorem AF (n a b s c d:Int):(if ek n a b=0 then ek s c d else ek n a b)=if inB n a b=false then 2 else if inB s c d=false then 2 else 0:=by
 rw[nj,nj];by_cases h:inB n a b=false<;>simp[h]
theorem Qw (n a b:Int):ek n a b=if ek n a b=0 then ek 0 0 12 else ek n a b:=by
 by_cases h:ek n a b=0
 ·rw[if_pos h,h];rfl
 ·rw[if_neg h]
theorem Np (v:Val):ak Tryz.prog ap 236 [v.pv] (.int .i64 (JW v)):=by
 obtain⟨k,n,s,t,l,fs⟩:=v
 have hn:=AZ (.mk k n s t l fs)
 have hu:=yO (.mk k n s t l fs)
 have hs:bj (.mk k n s t l fs)=true->k=2->s=0:=by simp only[bj,Bool.and_eq_true,Bool.or_eq_true,decide_eq_true_eq];omega
 rw[show JW (.mk k n s t l fs)=if aS (.mk k n s t l fs)=true then 19 else if k<1\/10<k then 11 else if bj (.mk k n s t l fs)=false then 3 else bd (.mk k n s t l fs) from rfl]
 generalize aS (.mk k n s t l fs)=b1 at hn ⊢
 generalize bj (.mk k n s t l fs)=b2 at hu hs ⊢
 simp only[Val.pv_mk,Val.kind] at hn hu
 refine ak.intro RN.2 (by simp[RN]) ?_
 simp(disch:=try exact dI) only[RN,Val.pv_mk,push_cast,seval]
 refine ab.pure hn rfl ?_
 cases b1 with
 | true=>simp(disch:=try exact dI) only[push_cast,seval]
 | false=>
 rw[if_neg (show ¬ false=true by decide)]
 by_cases h1:k<1
 ·rw[if_pos (.inl h1)]
  simp(disch:=try exact dI) only[h1,push_cast,seval]
 by_cases h2:10<k
 ·rw[if_pos (.inr h2)]
  simp(disch:=try exact dI) only[h1,h2,push_cast,seval]
 rw[if_neg (by omega)]
 have hu:=hu (by omega)
 simp(disch:=try exact dI) only[h1,h2,push_cast,seval]
 refine ab.pure hu rfl ?_
 cases b2 with
 | false=>simp(disch:=try exact dI) only[push_cast,seval]
 | true=>
 rw[if_neg (show ¬ true=false by decide)]
 have hs:=hs rfl
 have hc:(k=1\/k=6\/k=7)\/(k=2\/k=3)\/(k=4\/k=5)\/k=8\/k=9\/k=10:=by omega
 clear h1 h2
 rcases hc with h | h | h | rfl | rfl | rfl
 ·rcases h with rfl | rfl | rfl
  all_goals
   simp only[bd,Int.reduceEq,reduceIte]
   rw[nj]
   refine zgZ ?_
   refine ab.pure (ix n _ _) rfl ?_
   generalize inB n _ _=q
   cases q<;>simp(disch:=try exact dI) only[push_cast,seval]
 ·rcases h with rfl | rfl
  case' inl=>have h0:=hs rfl;subst h0
  all_goals
   simp only[bd,Int.reduceEq,reduceIte]
   first | rw[AF] | rw[Qw,AF]
   refine zgZ ?_
   refine ab.pure (ix n _ _) rfl ?_
   generalize inB n _ _=q
   cases q
   case' true=>
    refine zgZ ?_
    refine ab.pure (ix _ 0 12) rfl ?_
    generalize inB _ 0 12=q
    cases q
   all_goals simp(disch:=try exact dI) only[push_cast,seval]
 ·rcases h with rfl | rfl
  all_goals
   simp only[bd,Int.reduceEq,reduceIte]
   by_cases h5:(1024:Int)<t.length
   ·rw[show cU t.length 1024 5=5 from if_pos h5]
    simp(disch:=try exact dI) only[h5,push_cast,seval]
   ·rw[show cU t.length 1024 5=0 from if_neg h5]
    simp(disch:=try exact dI) only[h5,push_cast,seval]
    all_goals
     refine ab.pure (cw t) rfl ?_
     cases Lib.validD t<;>simp(disch:=try exact dI) only[push_cast,seval]
 ·rw[show bd (.mk 8 n s t l fs)=cU l.length 256 9 from rfl]
  by_cases h5:(256:Int)<l.length
  ·rw[show cU l.length 256 9=9 from if_pos h5]
   simp(disch:=try exact dI) only[h5,push_cast,seval]
  ·rw[show cU l.length 256 9=0 from if_neg h5]
   simp(disch:=try exact dI) only[h5,push_cast,seval]
 ·rw[show bd (.mk 9 n s t l fs)=fA fs from rfl]
  have hr:=Cg fs
  generalize fA fs=q at hr ⊢
  refine zgZ ?_
  refine ab.pure hr rfl ?_
  exact qsZ
 ·rw[show bd (.mk 10 n s t l fs)=(if bz t=false then 12 else if l.length=0 then 4 else cU l.length 1 3) from rfl]
  have hr:=rB t
  generalize bz t=q at hr ⊢
  refine zgZ ?_
  refine ab.pure hr rfl ?_
  cases q with
  | false=>simp(disch:=try exact dI) only[push_cast,seval]
  | true=>
  by_cases h0:l.length=0
  ·have h0I:(l.length:Int)=0:=by omega
   rw[if_pos h0]
   simp(disch:=try exact dI) only[h0I,push_cast,seval]
  ·have h0I:¬ (l.length:Int)=0:=by omega
   rw[if_neg h0]
   by_cases h5:(1:Int)<l.length
   ·rw[show cU l.length 1 3=3 from if_pos h5]
    simp(disch:=try exact dI) only[h0I,h5,push_cast,seval]
   ·rw[show cU l.length 1 3=0 from if_neg h5]
    simp(disch:=try exact dI) only[h0I,h5,push_cast,seval]
section
variable (m M s:Int)(w:List (List UInt8))(e:List Typ)(f:List TFd)
theorem yP (k:Int)(hk:1<=k/\k<=10):ak Tryz.prog ap 183 [(Typ.mk k m M s w e f).pv] (.bool (du k (.mk k m M s w e f))):=by
 have hi:=kJ k 2 8
 obtain⟨r,hr⟩:∃ r,r=du k (.mk k m M s w e f):=⟨_,rfl⟩
 have h9:decide (9<=k)=(decide (k=9)||decide (k=10)):=by rw[Bool.eq_iff_iff];simp;omega
 rw[<- hr]
 simp only[du,aE,h9] at hr
 rw[show (decide (2<=k)&&decide (k<=8))=inB k 2 8 from rfl] at hr
 generalize inB k 2 8=B at hi hr
 refine ak.intro R3.2 (by simp[R3]) ?_
 have h1:(B=false/\¬ m=0)\/(B=false/\m=0/\¬ M=0)\/(B=false/\m=0/\M=0)\/B=true:=by cases B<;>simp<;>omega
 have h2:(¬ k=3/\¬ s=0)\/(¬ k=3/\s=0)\/k=3:=by omega
 have h3:(¬ k=4/\(0:Int)<(w.length:Int)/\¬ w.length=0)\/(¬ k=4/\¬ (0:Int)<(w.length:Int)/\w.length=0)\/k=4:=by omega
 have h4:(¬ k=8/\(0:Int)<(e.length:Int)/\¬ e.length=0)\/(¬ k=8/\¬ (0:Int)<(e.length:Int)/\e.length=0)\/k=8:=by omega
 have h5:((¬ k=9/\¬ k=10)/\(0:Int)<(f.length:Int)/\¬ f.length=0)\/((¬ k=9/\¬ k=10)/\¬ (0:Int)<(f.length:Int)/\f.length=0)\/k=9\/k=10:=by omega
 rcases h1 with ⟨rfl,a⟩ | ⟨rfl,a,b⟩ | ⟨rfl,a,b⟩ | rfl
 all_goals first | (refine aO (c:=true) hr ?_ ?_;(focus (simp[*];done));rintro rfl;have hend:=trivial;clear h2 h3 h4 h5) | rcases h2 with ⟨a2,b2⟩ | ⟨a2,b2⟩ | a2
 all_goals first | (have:=hend;skip) | (refine aO (c:=true) hr ?_ ?_;(focus (simp[*];done));rintro rfl;have hend:=trivial;clear h3 h4 h5) | rcases h3 with ⟨a3,b3,c3⟩ | ⟨a3,b3,c3⟩ | a3
 all_goals try omega
 all_goals first | (have:=hend;skip) | (refine aO (c:=true) hr ?_ ?_;(focus (simp[*];done));rintro rfl;have hend:=trivial;clear h4 h5) | rcases h4 with ⟨a4,b4,c4⟩ | ⟨a4,b4,c4⟩ | a4
 all_goals try omega
 all_goals first | (have:=hend;skip) | (refine aO (c:=true) hr ?_ ?_;(focus (simp[*];done));rintro rfl;have hend:=trivial;clear h5) | rcases h5 with ⟨⟨a5,d5⟩,b5,c5⟩ | ⟨⟨a5,d5⟩,b5,c5⟩ | a5 | a5
 all_goals try omega
 all_goals first | (have:=hend;skip) | (refine aO (c:=true) hr ?_ ?_;(focus (simp[*];done));rintro rfl) | (refine aO (c:=false) hr ?_ ?_;(focus (simp[*];done));rintro rfl)
 all_goals clear hr
 all_goals first | (refine aO (r:=k) (c:=3) rfl ?_ ?_;(focus omega);rintro rfl) | (refine aO (r:=k) (c:=4) rfl ?_ ?_;(focus omega);rintro rfl) | (refine aO (r:=k) (c:=8) rfl ?_ ?_;(focus omega);rintro rfl) | (refine aO (r:=k) (c:=9) rfl ?_ ?_;(focus omega);rintro rfl) | (refine aO (r:=k) (c:=10) rfl ?_ ?_;(focus omega);rintro rfl) | skip
 all_goals
  simp(disch:=try exact dI) only[R3,Typ.pv_mk, *,push_cast,seval]
  refine ab.pure hi rfl ?_
  simp(disch:=try exact dI) only[*,push_cast,seval]
theorem Bm (k:Int)(hk:2<=k/\k<=8):ak Tryz.prog ap 185 [.int .i64 k] (.tup [.int .i64 (loK k),.int .i64 (hiK k)]):=by
 have hc:k=2\/k=3\/k=4\/k=5\/k=6\/k=7\/k=8:=by omega
 clear hk
 rcases hc with rfl | rfl | rfl | rfl | rfl | rfl | rfl
 all_goals
  refine ak.intro Ml.2 (by simp[Ml]) ?_
  simp only[loK,hiK]
  simp(disch:=try exact dI) only[Ml,push_cast,seval]
theorem Dl (k a b:Int):ak Tryz.prog ap 186 [(Typ.mk k m M s w e f).pv,.int .i64 a,.int .i64 b] (.bool (decide (¬ (M<m\/m<a\/b<M)))):=by
 refine ak.intro Mk.2 (by simp[Mk]) ?_
 by_cases h1:a<=m
 ·by_cases h2:M<=b
  ·by_cases h3:m<=M
   ·rw[decide_eq_true (show ¬ (M<m\/m<a\/b<M) by omega)]
    simp(disch:=try exact dI) only[Mk,Typ.pv_mk,h1,h2,h3,push_cast,seval]
   ·rw[decide_eq_false (show ¬ ¬ (M<m\/m<a\/b<M) by omega)]
    simp(disch:=try exact dI) only[Mk,Typ.pv_mk,h1,h2,h3,push_cast,seval]
  ·rw[decide_eq_false (show ¬ ¬ (M<m\/m<a\/b<M) by omega)]
   simp(disch:=try exact dI) only[Mk,Typ.pv_mk,h1,h2,push_cast,seval]
 ·rw[decide_eq_false (show ¬ ¬ (M<m\/m<a\/b<M) by omega)]
  simp(disch:=try exact dI) only[Mk,Typ.pv_mk,h1,push_cast,seval]
theorem ug (k:Int)(name:List UInt8)(hl:f.length<=9000000000000):ak Tryz.prog ap 238 [(Typ.mk k m M s w e f).pv,.str name] (.int .i64 (dt (named name) f 0)):=by
 refine ak.intro RM.2 (by simp[RM]) ?_
 simp(disch:=try exact dI) only[RM,Typ.pv_mk,push_cast,seval]
 refine am ([]) (fun i:Nat=>[(5,.pv (.int .i64 (i:Int)))]) (fun _=>[]) (fun i=>i<=f.length/\dt (named name) f 0=dt (named name) (f.drop i) i) (fun i=>f.length - i) (0) ?_;intro e0 σ0 n0 h0;simp(disch:=try exact dI) only[push_cast,seval] at h0;obtain⟨rfl,rfl,rfl⟩:=h0;refine⟨?_,?_,?_⟩
 ·exact qsZ
 ·exact⟨by omega,by simp⟩
 rintro i ⟨hi,he⟩
 by_cases hlt:i<f.length
 ·have hltI:(i:Int)<(f.length:Int):=by omega
  obtain⟨x,hx⟩:∃ x,f[i]? = some x:=⟨_,List.getElem?_eq_getElem hlt⟩
  have hhit:=fun h=>di (p:=named name) hx h
  have hmiss:=fun h=>b9 (p:=named name) hx h
  obtain⟨x1,x2,x3,⟨y1,y2,y3,y4,y5,y6,y7⟩,x5⟩:=x
  simp only[named,TFd.name] at hhit hmiss
  by_cases hn:x2=name
  ·rw[he,hhit (decide_eq_true hn)]
   simp(disch:=try exact dI) only[hx,Option.map_some,hn,TFd.pv_mk,Typ.pv_mk,ag,push_cast,seval]
  ·simp(disch:=try exact dI) only[hx,Option.map_some,hn,TFd.pv_mk,Typ.pv_mk,ag,push_cast,seval]
   exact⟨i+1,aI qsZ,⟨by omega,by rw[he];exact hmiss (decide_eq_false hn)⟩,by omega⟩
 ·obtain rfl:i=f.length:=by omega
  rw[he,dj (by omega)]
  simp(disch:=try exact dI) only[Int.lt_irrefl,push_cast,seval]
end
end Go.Proofs.YtbojpfpliibfbaaGreatDoor

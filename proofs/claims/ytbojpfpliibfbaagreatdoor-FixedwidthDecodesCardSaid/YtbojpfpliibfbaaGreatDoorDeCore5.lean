/- A program logic over the model: part 5 (a proof is built on it; nothing of the statement is said here). -/
import Derived.Lib.Join
import Derived.Lib.ItoaNum
import Derived.Lib.LaidTab
import Derived.Lib.AppendIntMem
import Derived.Lib.Strings
import Derived.Lib.Bytealg
import Derived.Lib.ValidLaws
import Derived.ChangeShapes
import Derived.ProofKit
import Derived.OpenShut
import Derived.ShutString
import Derived.ChangeOld
import Derived.Carry
import Derived.WideShapes
import Derived.Deep.DeepHandedRow
import Derived.Lib.LaidU8T
import Derived.Test.YtbojpfpliibfbaaGreatDoorDeCore4
set_option linter.unusedVariables false
set_option linter.unusedSimpArgs false
namespace Go.Ab
open Go Go.RowKit
section
variable {P:Program}{G:Nat->List PV}
theorem eA.named {κ:Kap}{r:Nat}{B:Blk}(h:eA κ r B)(hB:B≠.none):∃ d,κ.nm r=some d:=by
 cases B with
 | none=>exact absurd rfl hB
 | cells T f l=>
   rcases h with ⟨_,_,h⟩ | ⟨b,n,cs,h,_⟩
   ·exact⟨_,h⟩
   ·exact⟨_,h⟩
 | tok e sz=>
   rcases h with h | ⟨g,n,cap,cur,h,_⟩
   ·exact⟨_,h⟩
   ·exact⟨_,h⟩
 | bts e l=>
   obtain⟨b,n,cs,fz,h,_⟩:=h
   exact⟨_,h⟩
theorem Blk.ren_ne {f:Nat->Option Nat}{b:Blk}:b.ren f≠.none↔b≠.none:=by
 cases b<;>simp[Blk.ren]
theorem KA {next:Nat}{rs:List Nat}(hnd:rs.Nodup)(hlt:∀ r∈rs,r<next){i j:Nat}(h:gIn next rs i=gIn next rs j):i=j:=by
 by_cases hi:i<rs.length
 ·have ei:=kQ next rs i _ (List.getElem?_eq_getElem hi)
  have hi':=hlt _ (List.getElem_mem hi)
  by_cases hj:j<rs.length
  ·have ej:=kQ next rs j _ (List.getElem?_eq_getElem hj)
   rw[ei,ej] at h
   exact (List.getElem_inj hnd).1 h
  ·have ej:=mt next rs j (by omega)
   omega
 ·have ei:=mt next rs i (by omega)
  by_cases hj:j<rs.length
  ·have ej:=kQ next rs j _ (List.getElem?_eq_getElem hj)
   have hj':=hlt _ (List.getElem_mem hj)
   omega
  ·have ej:=mt next rs j (by omega)
   omega
theorem pq {f:Nat->Option Nat}{g:Nat->Nat}(hg:∀ i j,g i=g j->i=j)(rest:List (Nat×Blk))(r:Nat):∀ (bs:List Blk) (k:Nat),
  (∀ i b,bs[i]? = some b->g (k+i)=r->lookB r (wi f bs k g++rest)=b.ren f)/\((∀ i,i<bs.length->g (k+i)≠r)->lookB r (wi f bs k g++rest)=lookB r rest)
 | [],k=>⟨by simp,fun _=>rfl⟩
 | b::q,k=>by
   obtain⟨h1,h2⟩:=pq hg rest r q (k+1)
   refine⟨fun i b' hi hr=>?_,fun h=>?_⟩
   ·simp only[wi,List.cons_append,lookB]
    cases i with
    | zero=>
      simp only[List.getElem?_cons_zero,Option.some.injEq] at hi
      subst hi
      rw[if_pos (by simpa using hr)]
    | succ i=>
      rw[if_neg (fun e=>by have:=hg _ _ (e.trans hr.symm);omega)]
      exact h1 i b' (by simpa using hi) (by rw[<- hr];congr 1;omega)
   ·simp only[wi,List.cons_append,lookB]
    rw[if_neg (by have:=h 0 (by simp);simpa using this)]
    exact h2 fun i hi=>by
     have:=h (i+1) (by simp;omega)
     rwa [show k+(i+1)=k+1+i by omega] at this
theorem mm (rest:List (Nat×Blk))(r:Nat):∀ (l:List Nat),lookB r (kt l++rest)=if r∈l then .none else lookB r rest
 | []=>by simp[kt]
 | x::q=>by
   simp only[kt,List.cons_append,lookB,mm rest r q,List.mem_cons]
   by_cases h:x=r
   ·subst h;simp
   ·rw[if_neg h]
    by_cases hq:r∈q
    ·simp[hq]
    ·have:¬ (r=x\/r∈q):=by rintro (e | e);exact h e.symm;exact hq e
     rw[if_neg hq,if_neg this]
theorem bK.frame {k f:Nat}{args0:List AV}{bs:List Blk}{v:AV}{bs':List Blk}(h:bK P G k f args0 bs v bs'){rs:List Nat}{args:List AV}{sto:List (Nat×Blk)}{next:Nat}
  (hargs:AVzL args (AV.renL (gSo next rs) args0)) (hbs:ig sto (gSo next rs) rs bs) (hnd:rs.Nodup) (hlt:∀ r∈rs,r<next) (hk:k<=bs.length) (hk':k<=bs'.length) (hne:∀ b∈bs.take k,b≠.none) :
  cj P G f args sto next fun v' sto' next'=>v'=v.ren (gSo next (rs.take k))/\sto'=wi (gSo next (rs.take k)) bs' 0 (gIn next (rs.take k))++(kt (rs.drop k)++sto)/\next'=next+(bs'.length - k):=by
 obtain⟨hcal,h⟩:=h
 refine⟨hcal,fun κ vals hS hf hsz hvals=>?_⟩
 obtain⟨hrl,hat⟩:=hbs.get
 let κ1:Kap:=⟨κ.w,fun i=>κ.nm (gIn next rs i),κ.imm⟩
 have hσ1:(fun r=>lookB r (bG bs 0))=fun r=>bs.getD r .none:=f0 bs
 have hlook:∀ i b,bs[i]? = some b->∃ r,rs[i]? = some r/\gIn next rs i=r/\eA κ r (b.ren (gSo next rs))/\(b≠.none->lookB r sto≠.none):=by
  intro i b hb
  have hi:i<rs.length:=by rw[hrl];exact (List.getElem?_eq_some_iff.1 hb).1
  have hr:=List.getElem?_eq_getElem hi
  obtain⟨q1,q2⟩:=(hat i _ b hr hb).rel (hS.blk rs[i])
  exact⟨rs[i],hr,kQ next rs i _ hr,q1,fun hb'=>q2 (Blk.ren_ne.2 hb')⟩
 have hlive:∀ i,bs.getD i .none≠.none->∃ b,bs[i]? = some b/\b≠.none:=by
  intro i hi
  rw[List.getD_eq_getElem?_getD] at hi
  cases hb:bs[i]? with
  | none=>rw[hb] at hi;exact absurd rfl hi
  | some b=>rw[hb] at hi;exact⟨b,rfl,hi⟩
 have hB1:∀ i b,bs[i]? = some b->eA κ1 i b:=by
  intro i b hb
  obtain⟨r,hr,hgr,hB,_⟩:=hlook i b hb
  exact eA.unren (κ:=κ) (κ':=κ1) rfl rfl (g:=gIn next rs) (fun _=>rfl) (by rw[hgr];exact hB)
 have hl1:∀ b,(bY κ1 (fun r=>lookB r (bG bs 0)) G).lent b->(bY κ (fun r=>lookB r sto) G).lent b:=by
  rintro b ⟨i,d,h1,h2,h3⟩
  simp only[congrFun hσ1 i] at h1
  obtain⟨b',hb,hbn⟩:=hlive i h1
  obtain⟨r,hr,hgr,_,hn⟩:=hlook i b' hb
  exact⟨r,d,hn hbn,by rw[<- hgr];exact h2,h3⟩
 have hm1:∀ b,(bY κ1 (fun r=>lookB r (bG bs 0)) G).mine b->(bY κ (fun r=>lookB r sto) G).mine b:=fun b hb=>hb.elim .inl (fun h=>.inr (hl1 b h))
 have hS1:SRel (bY κ1 (fun r=>lookB r (bG bs 0)) G) κ1 (fun r=>lookB r (bG bs 0)):=by
  refine⟨fun i=>?_,fun i j d d' b h1 h2 hij hd hd' hb=>?_,fun i d b h1 hd hb=>.inr ⟨i,d,h1,hd,hb⟩,hS.immLt,?_⟩
  ·rw[congrFun hσ1 i]
   show eA κ1 i (bs.getD i .none)
   rw[List.getD_eq_getElem?_getD]
   cases hb:bs[i]? with
   | none=>trivial
   | some b=>exact hB1 i b hb
  ·simp only[congrFun hσ1 i] at h1
   simp only[congrFun hσ1 j] at h2
   obtain⟨b1,hb1,hn1⟩:=hlive i h1
   obtain⟨b2,hb2,hn2⟩:=hlive j h2
   obtain⟨r,hr,hgr,_,hn⟩:=hlook i b1 hb1
   obtain⟨r',hr',hgr',_,hn'⟩:=hlook j b2 hb2
   refine hS.apart r r' d d' b (hn hn1) (hn' hn2) (fun e=>hij ?_) (by rw[<- hgr];exact hd) (by rw[<- hgr'];exact hd') hb
   obtain⟨hi,ei⟩:=List.getElem?_eq_some_iff.1 hr
   obtain⟨hj,ej⟩:=List.getElem?_eq_some_iff.1 hr'
   exact (List.getElem_inj hnd).1 (ei.trans (e.trans ej.symm))
  ·refine⟨fun g o p hp=>?_,fun g hg=>?_⟩
   ·exact hS.glob.1 g o p hp
   ·obtain⟨h1,h2,h3⟩:=hS.glob.2 g hg
    exact⟨h1,fun hl=>h2 (hl1 g hl),h3⟩
 have hf1:∀ r,bs.length<=r->κ1.nm r=none:=fun r hr=>by
  show κ.nm (gIn next rs r)=none
  rw[mt next rs r (by omega)]
  exact hf _ (by omega)
 have hlen0:args0.length=args.length:=by
  rw[hargs.length]
  have:∀ (f:Nat->Option Nat) (l:List AV),(AV.renL f l).length=l.length:=by
   intro f l
   induction l with
   | nil=>simp[AV.renL]
   | cons x r ih=>simp[AV.renL,ih]
  rw[this]
 have hv1:∀ (i:Nat) (x:AV),args0[i]? = some x->ARel κ1 x (vals.getD i Go.undef):=
  (jT (κ:=κ) (κ':=κ1) rfl rfl (g:=gIn next rs) (fun _=>rfl) args0 vals (fun i x hx=>by
   obtain⟨y,hy,hyx⟩:=hargs.get i x hx
   exact hyx.rel (hvals i y hy))).2
 refine (h κ1 vals hS1 hf1 (by omega) hv1).mono ?_
 rintro e w' ⟨u,v',κ1',sto',next',rfl,rfl,he,hL,hv,hS',hf',rfl,rfl,rfl⟩
 obtain⟨g,hgdef⟩:∃ g,g=gIn next (rs.take k):=⟨_,rfl⟩
 have htl:(rs.take k).length=k:=by rw[List.length_take];omega
 have hg1:∀ i,i<k->∃ r,rs[i]? = some r/\g i=r/\r<next:=by
  intro i hi
  have hi':i<rs.length:=by omega
  have hr:=List.getElem?_eq_getElem hi'
  refine⟨rs[i],hr,?_,hlt _ (List.getElem_mem hi')⟩
  rw[hgdef]
  exact kQ next _ i _ (by rw[List.getElem?_take,if_pos hi];exact hr)
 have hg2:∀ i,k<=i->g i=next+(i - k):=fun i hi=>by rw[hgdef,mt next _ i (by omega),htl]
 have hginj:∀ i j,g i=g j->i=j:=fun i j hij=>by
  rw[hgdef] at hij
  exact KA (hnd.sublist (List.take_sublist _ _)) (fun r hr=>hlt r (List.mem_of_mem_take hr)) hij
 have hso:gSo next (rs.take k)=fun r=>some (g r):=by rw[hgdef];rfl
 rw[hso,<- hgdef]
 let κ':Kap:=⟨κ1'.w,fun r=>if r<next then κ.nm r else κ1'.nm (k+(r - next)),κ1'.imm⟩
 have hnmk:∀ i,i<k->κ1'.nm i=κ1.nm i:=by
  intro i hi
  have hib:i<bs.length:=by omega
  have hb:=List.getElem?_eq_getElem hib
  obtain⟨d,hd⟩:=(hB1 i _ hb).named (hne _ (List.mem_take_iff_getElem.2 ⟨i,by omega,rfl⟩))
  rw[hd]
  exact he.nm i d (by simp only[Kap.cut];rw[if_pos hi];exact hd)
 have hnm':∀ i,κ'.nm (g i)=κ1'.nm i:=by
  intro i
  by_cases hi:i<k
  ·obtain⟨r,hr,hgr,hrn⟩:=hg1 i hi
   show (if g i<next then κ.nm (g i) else κ1'.nm (k+(g i - next)))=_
   rw[hgr,if_pos hrn,hnmk i hi]
   show κ.nm r=κ.nm (gIn next rs i)
   rw[kQ next rs i r hr]
  ·show (if g i<next then κ.nm (g i) else κ1'.nm (k+(g i - next)))=_
   rw[hg2 i (by omega),if_neg (by omega)]
   congr 1;omega
 have hext:Ext κ κ':=⟨fun b o hi=>he.imm b o hi,fun b o v hi hc=>he.cell b o v hi hc,fun r d hd=>by
  have hr:r<next:=by
   rcases Nat.lt_or_ge r next with h | h
   ·exact h
   ·rw[hf r h] at hd;cases hd
  show (if r<next then κ.nm r else _)=_
  rw[if_pos hr];exact hd,fun b o ho hc=>he.obj b o ho hc⟩
 have hout:∀ r d b,lookB r sto≠.none->r∉rs->κ.nm r=some d->d.block=some b->b<κ.w.heap.size/\¬ (bY κ1 (fun r=>lookB r (bG bs 0)) G).lent b:=by
  intro r d b h1 h2 h3 h4
  refine⟨(hS.blk r).lt h1 h3 h4,?_⟩
  rintro⟨i,d',q1,q2,q3⟩
  simp only[congrFun hσ1 i] at q1
  obtain⟨b',hb,hbn⟩:=hlive i q1
  obtain⟨r',hr',hgr,_,hn⟩:=hlook i b' hb
  refine hS.apart r r' d d' b h1 (hn hbn) (fun e=>h2 (e▸List.mem_of_getElem? hr')) h3 (by rw[<- hgr];exact q2) h4 q3
 have hmem:∀ r,r∈rs->(∃ i,i<bs'.length/\g i=r)\/r∈rs.drop k:=by
  intro r hr
  obtain⟨i,hi⟩:=List.getElem?_of_mem hr
  by_cases hik:i<k
  ·obtain⟨r',hr',hgr,_⟩:=hg1 i hik
   rw[hi] at hr';cases hr'
   exact .inl ⟨i,by omega,hgr⟩
  ·refine .inr (List.mem_of_getElem? (i:=i - k) ?_)
   rw[List.getElem?_drop,show k+(i - k)=i by omega];exact hi
 have hσ':∀ r,(∃ i b,bs'[i]? = some b/\g i=r/\lookB r (wi (fun r=>some (g r)) bs' 0 g++(kt (rs.drop k)++sto))=b.ren (fun r=>some (g r))) \/
   lookB r (wi (fun r=>some (g r)) bs' 0 g++(kt (rs.drop k)++sto)) = .none\/(r∉rs/\(∀ i,i<bs'.length->g i≠r)/\lookB r (wi (fun r=>some (g r)) bs' 0 g++(kt (rs.drop k)++sto))=lookB r sto):=by
  intro r
  obtain⟨q1,q2⟩:=pq (f:=fun r=>some (g r)) hginj (kt (rs.drop k)++sto) r bs' 0
  by_cases hi:∃ i,i<bs'.length/\g i=r
  ·obtain⟨i,hi,hgi⟩:=hi
   exact .inl ⟨i,bs'[i],List.getElem?_eq_getElem hi,hgi,q1 i _ (List.getElem?_eq_getElem hi) (by rw[Nat.zero_add];exact hgi)⟩
  ·have hni:∀ i,i<bs'.length->g i≠r:=fun i h1 h2=>hi ⟨i,h1,h2⟩
   have e:=q2 (fun i h1=>by rw[Nat.zero_add];exact hni i h1)
   rw[mm] at e
   by_cases hr:r∈rs.drop k
   ·rw[if_pos hr] at e;exact .inr (.inl e)
   ·rw[if_neg hr] at e
    exact .inr (.inr ⟨fun h=>(hmem r h).elim hi hr,hni,e⟩)
 have hlive':∀ i b,bs'[i]? = some b->b.ren (fun r=>some (g r))≠.none->lookB i (bG bs' 0)≠.none:=by
  intro i b hb hbn
  have e2:lookB i (bG bs' 0)=bs'.getD i .none:=congrFun (f0 bs') i
  rw[e2,List.getD_eq_getElem?_getD,hb]
  exact Blk.ren_ne.1 hbn
 refine⟨u,_,κ',_,_,rfl,rfl,hext,⟨hL.os,hL.tape,hL.output,hL.size,fun b hb hl=>hL.block b hb fun h=>hl (hl1 b h),fun b o hi=>(hL.imm b o hi).imp id (hm1 b)⟩,
  qS (κ:=κ1') (κ':=κ') rfl rfl (fun r r' hr=>by cases hr;exact hnm' r) v' u hv,?_,fun r hr=>?_,rfl,rfl,rfl⟩
 ·refine⟨fun r=>?_,fun r r' d d' b h1 h2 hrr hd hd' hb=>?_,fun r d b h1 hd hb=>?_,hS'.immLt,?_⟩
  ·show eA κ' r (lookB r _)
   rcases hσ' r with ⟨i,b,hb,hgi,e⟩ | e | ⟨hr,hni,e⟩
   ·rw[e,<- hgi]
    refine eA.ren (κ:=κ1') (κ':=κ') rfl rfl hnm' ?_
    have:=hS'.blk i
    have e2:lookB i (bG bs' 0)=bs'.getD i .none:=congrFun (f0 bs') i
    simp only[e2,List.getD_eq_getElem?_getD,hb] at this
    exact this
   ·rw[e];trivial
   ·rw[e]
    refine (hS.blk r).keep hext fun hbn d b hd hb=>?_
    obtain⟨q1,q2⟩:=hout r d b hbn hr hd hb
    refine⟨hL.block b q1 q2,fun o ho=>?_⟩
    rcases hL.imm b o ho with h | h | h
    ·exact h
    ·exact absurd q1 (Nat.not_lt.2 h)
    ·exact absurd h q2
  ·have cal:∀ r i b0 d,bs'[i]? = some b0->g i=r->b0.ren (fun r=>some (g r))≠.none->κ'.nm r=some d->lookB i (bG bs' 0)≠.none/\κ1'.nm i=some d:=by
    intro r i b0 d hb0 hgi hbn hd
    exact⟨hlive' i b0 hb0 hbn,by rw[<- hnm' i,hgi];exact hd⟩
   have own:∀ r d,r∉rs->lookB r sto≠.none->κ'.nm r=some d->κ.nm r=some d:=by
    intro r d hr hbn hd
    obtain⟨d',hd'⟩:=(hS.blk r).named hbn
    have:=hext.nm r d' hd'
    rw[this] at hd;cases hd;exact hd'
   have mix:∀ r i b0 d d' b,bs'[i]? = some b0->b0.ren (fun r=>some (g r))≠.none->κ1'.nm i=some d->d.block=some b->lookB i (bG bs' 0)≠.none->r∉rs->lookB r sto≠.none->κ.nm r=some d'->d'.block≠some b:=by
    intro r i b0 d d' b hb0 hbn hd hdb hl hr hrl hd' hdb'
    obtain⟨q1,q2⟩:=hout r d' b hrl hr hd' hdb'
    rcases hS'.mine i d b hl hd hdb with h | h
    ·exact absurd q1 (Nat.not_lt.2 h)
    ·exact q2 h
   rcases hσ' r with ⟨i,b1,hb1,hgi,e⟩ | e | ⟨hr,hni,e⟩
   ·have h1':b1.ren (fun r=>some (g r))≠.none:=by
     intro h0;exact h1 (e.trans h0)
    obtain⟨p1,p2⟩:=cal r i b1 d hb1 hgi h1' hd
    rcases hσ' r' with ⟨j,b2,hb2,hgj,e'⟩ | e' | ⟨hr',hni',e'⟩
    ·have h2':b2.ren (fun r=>some (g r))≠.none:=by
      intro h0;exact h2 (e'.trans h0)
     obtain⟨p3,p4⟩:=cal r' j b2 d' hb2 hgj h2' hd'
     exact hS'.apart i j d d' b p1 p3 (fun hij=>hrr (by rw[<- hgi,<- hgj,hij])) p2 p4 hb
    ·exact absurd e' h2
    ·have h2':lookB r' sto≠.none:=by intro h0;exact h2 (e'.trans h0)
     exact mix r' i b1 d d' b hb1 h1' p2 hb p1 hr' h2' (own r' d' hr' h2' hd')
   ·exact absurd e h1
   ·have h1':lookB r sto≠.none:=by intro h0;exact h1 (e.trans h0)
    have hd0:=own r d hr h1' hd
    rcases hσ' r' with ⟨j,b2,hb2,hgj,e'⟩ | e' | ⟨hr',hni',e'⟩
    ·have h2':b2.ren (fun r=>some (g r))≠.none:=by
      intro h0;exact h2 (e'.trans h0)
     obtain⟨p3,p4⟩:=cal r' j b2 d' hb2 hgj h2' hd'
     intro hb'
     exact mix r j b2 d' d b hb2 h2' p4 hb' p3 hr h1' hd0 hb
    ·exact absurd e' h2
    ·have h2':lookB r' sto≠.none:=by intro h0;exact h2 (e'.trans h0)
     exact hS.apart r r' d d' b h1' h2' hrr hd0 (own r' d' hr' h2' hd') hb
  ·rcases hσ' r with ⟨i,b1,hb1,hgi,e⟩ | e | ⟨hr,hni,e⟩
   ·have h1':b1.ren (fun r=>some (g r))≠.none:=by
     intro h0;exact h1 (e.trans h0)
    refine hm1 b (hS'.mine i d b (hlive' i b1 hb1 h1') (by rw[<- hnm' i,hgi];exact hd) hb)
   ·exact absurd e h1
   ·have h1':lookB r sto≠.none:=by intro h0;exact h1 (e.trans h0)
    obtain⟨d',hd'⟩:=(hS.blk r).named h1'
    have:=hext.nm r d' hd'
    rw[this] at hd;cases hd
    exact .inr ⟨r,d,h1',hd',hb⟩
  ·refine⟨hS'.glob.1,fun g' hg'=>?_⟩
   obtain⟨h1,h2,cs,T,fz,h3,h4⟩:=hS.glob.2 g' hg'
   exact⟨h1,h2,cs,T,fz,(hL.block g' h1 fun h=>h2 (hl1 g' h)).trans h3,h4⟩
 ·show (if r<next then κ.nm r else κ1'.nm (k+(r - next)))=none
  rw[if_neg (by omega)]
  exact hf' _ (by omega)
def H5 (k:Nat)(rs:List Nat)(bs bs':List Blk)(next:Nat):Bool:=
 decide (k<=bs.length)&&decide (k<=bs'.length)&&(bs.take k).all (fun b=>match b with | .none=>false | _=>true)&&rs.all (fun r=>decide (r<next))&&decide rs.Nodup
theorem ab.lentK {k f:Nat}{args0:List AV}{bs:List Blk}{v:AV}{bs':List Blk}(h:bK P G k f args0 bs v bs')(rs:List Nat){args:List AV}{env:List (Nat×AV)}{sto:List (Nat×Blk)}{next:Nat}{K:AV->St->Prop}
  (hok:H5 k rs bs bs' next=true) (hargs:AVzL args (AV.renL (gSo next rs) args0)) (hbs:ig sto (gSo next rs) rs bs)
  (hK:K (v.ren (gSo next (rs.take k))) ⟨env,wi (gSo next (rs.take k)) bs' 0 (gIn next (rs.take k))++(kt (rs.drop k)++sto),next+(bs'.length - k)⟩):ab P G f args ⟨env,sto,next⟩ K:=by
 simp only[H5,Bool.and_eq_true,decide_eq_true_eq,List.all_eq_true] at hok
 obtain⟨⟨⟨⟨h1,h2⟩,h3⟩,h4⟩,h5⟩:=hok
 refine ab.lent (h.frame hargs hbs h5 h4 h1 h2 (fun b hb e=>?_)) ?_
 ·have:=h3 b hb
  subst e;cases this
 ·rintro v' sto' next' ⟨rfl,rfl,rfl⟩
  exact hK
end
section
variable {P:Program}{G:Nat->List PV}
end
theorem EX (k k':IntKind)(x y:Int):JJ (.pv (.int k x)) (.pv (.int k' y))=some (.pv (.int k (min x y))):=by
 simp only[JJ,Option.some.injEq,AV.pv.injEq,PV.int.injEq,true_and]
 split<;>omega
theorem EY (k k':IntKind)(x y:Int):JK (.pv (.int k x)) (.pv (.int k' y))=some (.pv (.int k (max x y))):=by
 simp only[JK,Option.some.injEq,AV.pv.injEq,PV.int.injEq,true_and]
 split<;>omega
theorem map_take {α β:Type}(f:α->β)(l:List α)(n:Nat):(l.map f).take n=(l.take n).map f:=List.map_take.symm
theorem map_drop {α β:Type}(f:α->β)(l:List α)(n:Nat):(l.map f).drop n=(l.drop n).map f:=List.map_drop.symm
theorem AR {α β:Type}(f:α->β):(none:Option α).map f=none:=_root_.id rfl
def ia (mu:Bool)(e sz by_ new:Nat)(σ:aw)(x:AV):Option (List PV)->Option (AV×List (Nat×Blk))
 | some ys=>match mu,x with
   | false,.pv .nils=>match ys with
     | []=>some (.pv .nils,[])
     | y::r=>if ov 0 (r.length+1) by_=true then some (.olist new sz (y::r),[(new,.tok e sz)]) else none
   | false,.olist q s l=>match σ q with
     | .tok e' sz'=>if e'=e/\sz'=sz/\s=sz/\ov l.length ys.length by_=true then some (.olist new sz (l++ys),[(q,.none),(new,.tok e sz)]) else none
     | _=>none
   | true,.pv .nils=>match ys with
     | []=>some (.pv .nils,[])
     | y::r=>if ov 0 (r.length+1) by_=true then some (.row new sz 0 (r.length+1),[(new,.cells e false (bv (y::r)))]) else none
   | true,.row q s off len=>match σ q with
     | .cells e' _ l=>if e'=e/\s=sz/\off=0/\len*sz<=l.length/\ov len ys.length by_=true then some (.row new sz 0 (len+ys.length),[(q,.none),(new,.cells e false (l.take (len*sz)++bv ys))]) else none
     | _=>none
   | _,_=>none
 | none=>none
def Hi (e sz by_ new q s:Nat)(l ys:List PV):Blk->Option (AV×List (Nat×Blk))
 | .tok e' sz'=>if e'=e/\sz'=sz/\s=sz/\ov l.length ys.length by_=true then some (.olist new sz (l++ys),[(q,.none),(new,.tok e sz)]) else none
 | _=>none
def sl (e sz by_ new q s off len:Nat)(ys:List PV):Blk->Option (AV×List (Nat×Blk))
 | .cells e' _ l=>if e'=e/\s=sz/\off=0/\len*sz<=l.length/\ov len ys.length by_=true then some (.row new sz 0 (len+ys.length),[(q,.none),(new,.cells e false (l.take (len*sz)++bv ys))]) else none
 | _=>none
theorem vV (mu:Bool)(e sz by_ new:Nat)(σ:aw)(x y:AV):dE mu e sz by_ new σ x y=ia mu e sz by_ new σ x (bB σ sz y):=by
 unfold dE ia
 cases bB σ sz y<;>rfl
theorem O4 (e sz by_ new:Nat)(σ:aw)(q s:Nat)(l ys:List PV):ia false e sz by_ new σ (.olist q s l) (some ys)=Hi e sz by_ new q s l ys (σ q):=by
 simp only[ia,Hi]
theorem Hh {e sz by_ new q:Nat}{l ys:List PV}(h1:l.length+ys.length<=9223372036854775807)(h2:(l.length+ys.length)*by_<=140737488355328):Hi e sz by_ new q sz l ys (.tok e sz)=some (.olist new sz (l++ys),[(q,.none),(new,.tok e sz)]):=by
 simp[Hi,m8 h1 h2]
theorem Hf (e sz by_ new:Nat)(σ:aw):ia false e sz by_ new σ (.pv .nils) (some [])=some (.pv .nils,[]):=_root_.id rfl
theorem He {e sz by_ new:Nat}{σ:aw}{y:PV}{r:List PV}(h1:r.length+1<=9223372036854775807)(h2:(r.length+1)*by_<=140737488355328):ia false e sz by_ new σ (.pv .nils) (some (y::r))=some (.olist new sz (y::r),[(new,.tok e sz)]):=by
 simp only[ia];rw[if_pos (m8 (by omega) (by simpa using h2))]
theorem Ll (e sz by_ new:Nat)(σ:aw)(q s off len:Nat)(ys:List PV):ia true e sz by_ new σ (.row q s off len) (some ys)=sl e sz by_ new q s off len ys (σ q):=by
 simp only[ia,sl]
theorem jH {e sz by_ new q len:Nat}{f:Bool}{l:List AV}{ys:List PV}(h0:len*sz<=l.length)(h1:len+ys.length<=9223372036854775807)(h2:(len+ys.length)*by_<=140737488355328) :
  sl e sz by_ new q sz 0 len ys (.cells e f l)=some (.row new sz 0 (len+ys.length),[(q,.none),(new,.cells e false (l.take (len*sz)++bv ys))]):=by
 simp[sl,h0,m8 h1 h2]
def uj (l:List PV):Bool->Option (List PV)
 | true=>some l
 | false=>none
theorem xa (σ:aw)(sz:Nat)(l:List PV):bB σ sz (.pv (.list l))=uj l (l.all fun y=>y.cells.length == sz):=by
 simp only[bB]
 cases l.all (fun y=>y.cells.length == sz)<;>rfl
theorem xb (l:List PV):uj l true=some l:=_root_.id rfl
theorem r3 (σ:aw)(sz r:Nat)(l:List PV):bB σ sz (.olist r sz l)=some l:=by simp[bB]
def PN (e sz new:Nat):Option (List PV)->Option (AV×List (Nat×Blk))
 | some ps=>if ps.all (fun p=>p.cells.length == sz&&p.cells.all PV.one)=true then some (.olist new sz ps,[(new,.tok e sz)]) else none
 | none=>none
theorem Ro {e sz len new:Nat}{vs:List AV}(h:vs.length=len)(h2:len<=9223372036854775807):eh false e sz len new vs=PN e sz new (pvs vs):=by
 simp only[eh,h,h2,true_and,if_true,PN]
 cases pvs vs<;>rfl
def SA (e sz new:Nat)(ps:List PV):Bool->Option (AV×List (Nat×Blk))
 | true=>some (.olist new sz ps,[(new,.tok e sz)])
 | false=>none
theorem OR (e sz new:Nat)(ps:List PV):SA e sz new ps true=some (.olist new sz ps,[(new,.tok e sz)]):=_root_.id rfl
theorem Dk (e sz new:Nat)(ps:List PV):PN e sz new (some ps)=SA e sz new ps (ps.all fun p=>p.cells.length == sz&&p.cells.all PV.one):=by
 simp only[PN]
 cases ps.all (fun p=>p.cells.length == sz&&p.cells.all PV.one)<;>rfl
theorem tw (b:Bool):PV.one (.bool b)=true:=_root_.id rfl
theorem AL (k:IntKind)(n:Int):PV.one (.int k n)=true:=_root_.id rfl
theorem AJ (s:List UInt8):PV.one (.str s)=true:=_root_.id rfl
theorem Fv:PV.one .nils=true:=_root_.id rfl
theorem tv (l:List PV):PV.one (.list l)=true:=_root_.id rfl
theorem JY (p:PV):AV.one (.pv p)=p.one:=_root_.id rfl
theorem Fy (r o:Nat):AV.one (.ptr r o)=true:=_root_.id rfl
theorem Fx (r s o n:Nat):AV.one (.row r s o n)=true:=_root_.id rfl
theorem wk (r s:Nat)(l:List PV):AV.one (.olist r s l)=true:=_root_.id rfl
theorem Fz (f:Nat)(a b:List AV):AV.one (.clo f a b)=true:=_root_.id rfl
def oT (sz:Nat)(l:List PV)(h:Nat):Option Nat->Option AV
 | some a=>if HJ sz l a=true then some (.pv (.list ((l.take h).drop a))) else none
 | none=>none
def oS (sz:Nat)(l:List PV)(lo:Option AV):Option Nat->Option AV
 | some h=>oT sz l h (aU 0 h lo)
 | none=>none
theorem oG (sz:Nat)(l:List PV)(lo hi:Option AV):ef sz (.pv (.list l)) lo hi=oS sz l lo (aU l.length l.length hi):=by
 show HW sz l lo hi=_
 unfold HW oS oT
 cases aU l.length l.length hi with
 | none=>rfl
 | some h=>simp only;cases aU 0 h lo<;>rfl
theorem nc (sz r s:Nat)(l:List PV)(lo hi:Option AV):ef sz (.olist r s l) lo hi=oS sz l lo (aU l.length l.length hi):=by
 show HW sz l lo hi=_
 unfold HW oS oT
 cases aU l.length l.length hi with
 | none=>rfl
 | some h=>simp only;cases aU 0 h lo<;>rfl
theorem rx (sz:Nat)(l:List PV)(lo:Option AV)(h:Nat):oS sz l lo (some h)=oT sz l h (aU 0 h lo):=_root_.id rfl
theorem wm (sz:Nat)(l:List PV)(h:Nat):oT sz l h (some 0)=some (.pv (.list (l.take h))):=by
 simp[oT,HJ]
theorem mg {sz:Nat}{l:List PV}{h a:Nat}(hs:HJ sz l a=true):oT sz l h (some a)=some (.pv (.list ((l.take h).drop a))):=if_pos hs
theorem wl (sz:Nat)(l:List PV)(i:Nat)(y:PV):cK sz l i (some y)=if y.cells.length=sz then some (.pv (.eptr l i 0)) else none:=_root_.id rfl
theorem Hk {α β:Type}(f:α->β)(p:β->Bool)(l:List α):(l.map f).all p=l.all fun x=>p (f x):=by
 rw[List.all_map];rfl
theorem O5 {α:Type}(l:List α):(l.all fun _=>true)=true:=by simp
theorem OY (n:Nat):(n == n)=true:=by simp
def NI (sz:Nat)(e:PV):Bool->Option AV
 | true=>some (.pv e)
 | false=>dF true sz 0 (e.cells.map .pv)
theorem Km (sz:Nat)(e:PV):NI sz e true=some (.pv e):=_root_.id rfl
theorem F3 (sz:Nat)(e:PV):lI true sz 0 e=NI sz e (e.isAgg&&decide (e.cells.length=sz)):=by
 simp only[lI,true_and]
 by_cases h:e.isAgg=true/\e.cells.length=sz
 ·rw[if_pos h,h.1,decide_eq_true h.2];rfl
 ·rw[if_neg h]
  have:(e.isAgg&&decide (e.cells.length=sz))=false:=by
   rw[Bool.eq_false_iff]
   intro hh
   simp only[Bool.and_eq_true,decide_eq_true_eq] at hh
   exact h hh
  rw[this];rfl
theorem BD (cs:List PV):(PV.agg cs).isAgg=true:=_root_.id rfl
theorem iY {α:Type}{sz:Nat}{f:α->PV}(hf:∀ x,(f x).cells.length=sz)(l:List α):(bv (l.map f)).length=l.length*sz:=by
 have:=gS (sz:=sz) ((l.map f).map PV.cells) (by
  intro y hy
  simp only[List.mem_map] at hy
  obtain⟨p,⟨s,_,rfl⟩,rfl⟩:=hy
  exact hf s)
 simp only[bv,List.length_map,List.flatMap_def] at this ⊢
 exact this
def fzO (σ:aw):Option AV->Option (AV×List (Nat×Blk))
 | some v=>(DR σ v).map KD
 | none=>none
theorem NX (G:Nat->List PV)(σ:aw)(g:Bool)(sz:Nat)(v:AV):KR G σ (some (g,sz)) v=fzO σ (eK G g sz σ v):=by
 simp only[KR,fzO];cases eK G g sz σ v<;>rfl
theorem Gw (σ:aw)(v:AV):fzO σ (some v)=(DR σ v).map KD:=_root_.id rfl
theorem Gy (σ:aw)(cs:List AV):DR σ (.agg cs)=(GA σ cs).map fun p=>(.agg p.1,p.2):=_root_.id rfl
theorem Gx (σ:aw)(r s n:Nat):DR σ (.row r s 0 n)=KG s n r (σ r):=_root_.id rfl
theorem KE (σ:aw)(p:PV):KF σ (.pv p)=some (p,[]):=_root_.id rfl
theorem GC (σ:aw)(r s n:Nat):KF σ (.row r s 0 n)=KG s n r (σ r):=_root_.id rfl
theorem Gz (σ:aw):GA σ []=some ([],[]):=_root_.id rfl
theorem BW (σ:aw)(x:AV)(r:List AV):GA σ (x::r)=PJ (KF σ x) (GA σ r):=_root_.id rfl
theorem BX (p:PV)(a:List Nat)(q:List PV)(b:List Nat):PJ (some (p,a)) (some (q,b))=some (p::q,a++b):=_root_.id rfl
theorem KC (p:PV)(l:List Nat):KD (p,l)=(.pv p,l.map fun r=>(r,.none)):=_root_.id rfl
theorem tZ {α:Type}{sz:Nat}{f:α->PV}(hf:∀ x,∃ cs,f x = .agg cs/\cs.length=sz/\∀ p∈cs,p.one=true)(hsz:2<=sz)(l:List α){n r T:Nat}{b:Bool}(hn:n=l.length) :
  KG sz n r (.cells T b (bv (l.map f)))=some (.list (l.map f),[r]):=by
 have hlen:=iY (sz:=sz) (f:=f) (fun x=>by obtain⟨cs,h1,h2,_⟩:=hf x;rw[h1];exact h2) l
 subst hn
 have hone:(bv (l.map f)).all AV.one=true:=by
  rw[List.all_eq_true]
  intro x hx
  simp only[bv,List.mem_map,List.mem_flatMap] at hx
  obtain⟨p,⟨q,⟨s,_,rfl⟩,hq⟩,rfl⟩:=hx
  obtain⟨cs,h1,h2,h3⟩:=hf s
  rw[h1] at hq
  exact h3 p hq
 have hpv:pvs (bv (l.map f))=some ((l.map f).flatMap PV.cells):=pvs_map _
 have hch:∀ l:List α,iN sz l.length ((l.map f).flatMap PV.cells)=l.map f:=by
  intro l
  induction l with
  | nil=>rfl
  | cons x r ih=>
    obtain⟨cs,h1,h2,_⟩:=hf x
    simp only[List.length_cons,iN,List.map_cons,List.flatMap_cons,h1,ag]
    rw[if_neg (by omega),List.take_left' h2,List.drop_left' h2,ih]
 simp only[KG]
 rw[if_pos ⟨by omega,by omega,by rw[List.take_of_length_le (by omega)];exact hone⟩,List.take_of_length_le (by omega),hpv]
 simp[hch]
theorem FN (p:PV):(AV.pv p).names=[]:=_root_.id rfl
theorem A6 (r o:Nat):(AV.ptr r o).names=[r]:=_root_.id rfl
theorem A5 (r a b c:Nat):(AV.row r a b c).names=[r]:=_root_.id rfl
theorem FO (r a:Nat)(l:List PV):(AV.olist r a l).names=[r]:=_root_.id rfl
theorem A8 (f:Nat)(fs cs:List AV):(AV.clo f fs cs).names=AV.namesL fs++AV.namesL cs:=by simp only[AV.names]
theorem A9:AV.any.names=[]:=_root_.id rfl
theorem wu:AV.namesL []=[]:=_root_.id rfl
theorem kv (x:AV)(r:List AV):AV.namesL (x::r)=x.names++AV.namesL r:=by simp only[AV.namesL]
theorem ku:∀ l:List PV,AV.namesL (l.map .pv)=[]
 | []=>rfl
 | x::r=>by rw[List.map_cons,kv,ku r];rfl
theorem rA (l:List PV):AV.namesL (bv l)=[]:=ku _
theorem pc (T:Nat)(f:Bool)(l:List AV):(Blk.cells T f l).names=AV.namesL l:=_root_.id rfl
theorem wv (e s:Nat):(Blk.tok e s).names=[]:=_root_.id rfl
theorem Hm (acc:List Nat):bx acc []=acc:=_root_.id rfl
def Lu (acc:List Nat)(n:Nat):Bool->List Nat
 | true=>acc
 | false=>acc++[n]
theorem ja (x:Nat):∀ l:List Nat,l.contains x=tJ x l
 | []=>rfl
 | y::r=>by
   rw[List.contains_cons,ja x r,pi]
   by_cases h:y=x
   ·simp[h]
   ·have h':¬ x=y:=fun e=>h e.symm
    simp[h,h']
theorem DB (acc:List Nat)(n:Nat)(r:List Nat):bx acc (n::r)=bx (Lu acc n (tJ n acc)) r:=by
 simp only[bx,ja]
 cases tJ n acc<;>rfl
theorem Ls (acc:List Nat)(n:Nat):Lu acc n true=acc:=_root_.id rfl
theorem Lt (acc:List Nat)(n:Nat):Lu acc n false=acc++[n]:=_root_.id rfl
def geN (m0:Nat):List Nat->List Nat
 | []=>[]
 | x::r=>if m0<=x then x::geN m0 r else geN m0 r
theorem Kz (m0:Nat):geN m0 []=[]:=_root_.id rfl
theorem tU (m0 x:Nat)(r:List Nat):geN m0 (x::r)=if m0<=x then x::geN m0 r else geN m0 r:=_root_.id rfl
theorem BV (m0:Nat):∀ l:List Nat,l.filter (fun r=>decide (m0<=r))=geN m0 l
 | []=>rfl
 | x::r=>by rw[List.filter_cons,BV m0 r,tU];simp
def dB (sto:List (Nat×Blk)):List Nat->List Nat
 | []=>[]
 | r::q=>(lookB r sto).names++dB sto q
theorem pY (sto:List (Nat×Blk)):dB sto []=[]:=_root_.id rfl
theorem g8 (sto:List (Nat×Blk))(r:Nat)(q:List Nat):dB sto (r::q)=(lookB r sto).names++dB sto q:=_root_.id rfl
theorem gl (sto:List (Nat×Blk)):∀ l:List Nat,(l.flatMap fun r=>(lookB r sto).names)=dB sto l
 | []=>rfl
 | r::q=>by rw[List.flatMap_cons,gl sto q,g8]
theorem JB (m0:Nat)(sto:List (Nat×Blk))(acc:List Nat):fK m0 sto 0 acc=acc:=_root_.id rfl
theorem JA (m0:Nat)(sto:List (Nat×Blk))(k:Nat)(acc:List Nat):fK m0 sto (k+1) acc=fK m0 sto k (bx acc (geN m0 (dB sto acc))):=by
 rw[<- BV,<- gl];rfl
def eu (e:List (Nat×AV)):List Nat->List Nat
 | []=>[]
 | k::r=>(look k e).names++eu e r
theorem pL (e:List (Nat×AV)):eu e []=[]:=_root_.id rfl
theorem nK (e:List (Nat×AV))(k:Nat)(r:List Nat):eu e (k::r)=(look k e).names++eu e r:=_root_.id rfl
theorem k8 (e:List (Nat×AV))(σ:List (Nat×Blk))(n:Nat):∀ l:List Nat,(l.flatMap fun i=>((⟨e,σ,n⟩:St).E i).names)=eu e l
 | []=>rfl
 | k::r=>by rw[List.flatMap_cons,k8 e σ n r];rfl
def zy:Nat->Nat->List Nat
 | 0,_=>[]
 | n+1,k=>k::zy n (k+1)
theorem Qq (k:Nat):zy 0 k=[]:=_root_.id rfl
theorem M8 (n k:Nat):zy (n+1) k=k::zy n (k+1):=_root_.id rfl
theorem zx:∀ n k:Nat,zy n k=List.range' k n
 | 0,k=>rfl
 | n+1,k=>by rw[M8,zx n,List.range'_succ]
theorem HS (n:Nat):List.range n=zy n 0:=by rw[zx,List.range_eq_range']
theorem J1 (m0:Nat)(keep:List Nat)(e:List (Nat×AV))(σ:List (Nat×Blk))(n:Nat):Nu m0 keep ⟨e,σ,n⟩=fK m0 σ σ.length (bx [] (geN m0 (eu e keep++dB σ (zy m0 0)))):=by
 rw[<- BV,<- k8 e σ n,<- gl,<- HS];rfl
def o9 (f:Nat->Option Nat)(e:List (Nat×AV)):List Nat->List (Nat×AV)
 | []=>[]
 | k::r=>(k,(look k e).ren f)::o9 f e r
theorem A1 (f:Nat->Option Nat)(e:List (Nat×AV)):o9 f e []=[]:=_root_.id rfl
theorem wo (f:Nat->Option Nat)(e:List (Nat×AV))(k:Nat)(r:List Nat):o9 f e (k::r)=(k,(look k e).ren f)::o9 f e r:=_root_.id rfl
def A0 (m0:Nat)(keep:List Nat)(e:List (Nat×AV))(σ:List (Nat×Blk))(os:List Nat):St:=⟨o9 (dG m0 os) e keep,eE m0 (dG m0 os) σ (zy m0 0++os) 0,m0+os.length⟩
theorem J7 (m0:Nat)(keep:List Nat)(e:List (Nat×AV))(σ:List (Nat×Blk))(n:Nat):norm m0 keep ⟨e,σ,n⟩=A0 m0 keep e σ (fK m0 σ σ.length (bx [] (geN m0 (eu e keep++dB σ (zy m0 0))))):=by
 rw[<- J1 m0 keep e σ n]
 have hE:∀ (f:Nat->Option Nat) (l:List Nat),(l.map fun i=>(i,((⟨e,σ,n⟩:St).E i).ren f))=o9 f e l:=by
  intro f l
  induction l with
  | nil=>rfl
  | cons k r ih=>rw[List.map_cons,ih];rfl
 simp only[norm,A0,hE,HS]
theorem J9 (m0:Nat)(keep:List Nat)(e:List (Nat×AV))(σ:List (Nat×Blk))(x:Nat)(r:List Nat):A0 m0 keep e σ (x::r)=⟨o9 (dG m0 (x::r)) e keep,eE m0 (dG m0 (x::r)) σ (zy m0 0++(x::r)) 0,m0+(x::r).length⟩:=_root_.id rfl
theorem J8 (m0:Nat)(keep:List Nat)(e:List (Nat×AV))(σ:List (Nat×Blk)):A0 m0 keep e σ []=⟨o9 (dG m0 []) e keep,eE m0 (dG m0 []) σ (zy m0 0) 0,m0⟩:=by
 simp only[A0,List.append_nil];rfl
theorem vJ (m0:Nat)(f:Nat->Option Nat)(σ:List (Nat×Blk))(k:Nat):eE m0 f σ [] k=[]:=_root_.id rfl
theorem qT (m0:Nat)(f:Nat->Option Nat)(σ:List (Nat×Blk))(r:Nat)(q:List Nat)(k:Nat):eE m0 f σ (r::q) k=(k,(lookB r σ).ren f)::eE m0 f σ q (k+1):=_root_.id rfl
theorem wq (m0:Nat)(os:List Nat)(r:Nat):dG m0 os r=if r<m0 then some r else H8 r os m0:=_root_.id rfl
theorem BI (x y:Nat)(r:List Nat)(k:Nat):H8 x (y::r) k=if y=x then some k else H8 x r (k+1):=_root_.id rfl
def Qs (o:Nat):Option Nat->AV
 | some q=>.ptr q o
 | none=>.any
def Qr (a b c:Nat):Option Nat->AV
 | some q=>.row q a b c
 | none=>.any
def Qu (a:Nat)(l:List PV):Option Nat->AV
 | some q=>.olist q a l
 | none=>.pv (.list l)
theorem HU (f:Nat->Option Nat)(p:PV):(AV.pv p).ren f = .pv p:=by simp only[AV.ren]
theorem Jw (f:Nat->Option Nat):AV.any.ren f = .any:=by simp only[AV.ren]
theorem Ju (f:Nat->Option Nat)(r o:Nat):(AV.ptr r o).ren f=Qs o (f r):=by simp only[AV.ren,Qs]<;>(cases f r<;>rfl)
theorem Jt (f:Nat->Option Nat)(r a b c:Nat):(AV.row r a b c).ren f=Qr a b c (f r):=by simp only[AV.ren,Qr]<;>(cases f r<;>rfl)
theorem Ng (f:Nat->Option Nat)(r a:Nat)(l:List PV):(AV.olist r a l).ren f=Qu a l (f r):=by simp only[AV.ren,Qu]<;>(cases f r<;>rfl)
theorem Jv (f:Nat->Option Nat)(g:Nat)(fs cs:List AV):(AV.clo g fs cs).ren f = .clo g (AV.renL f fs) (AV.renL f cs):=by simp only[AV.ren]
theorem zF (o q:Nat):Qs o (some q) = .ptr q o:=_root_.id rfl
theorem zE (a b c q:Nat):Qr a b c (some q) = .row q a b c:=_root_.id rfl
theorem zG (a:Nat)(l:List PV)(q:Nat):Qu a l (some q) = .olist q a l:=_root_.id rfl
theorem EN (f:Nat->Option Nat):AV.renL f []=[]:=_root_.id rfl
theorem oz (f:Nat->Option Nat)(x:AV)(r:List AV):AV.renL f (x::r)=x.ren f::AV.renL f r:=by simp only[AV.renL]
theorem qU (f:Nat->Option Nat):∀ l:List PV,AV.renL f (l.map .pv)=l.map .pv
 | []=>rfl
 | x::r=>by rw[List.map_cons,oz,qU f r,HU]
theorem zH (f:Nat->Option Nat)(l:List PV):AV.renL f (bv l)=bv l:=qU f _
theorem vK (f:Nat->Option Nat)(T:Nat)(b:Bool)(l:List AV):(Blk.cells T b l).ren f = .cells T b (AV.renL f l):=_root_.id rfl
theorem EO (f:Nat->Option Nat)(e s:Nat):(Blk.tok e s).ren f = .tok e s:=_root_.id rfl
theorem FE (A:List (Nat×Nat×Nat×Nat))(m0:Nat)(keep:List Nat)(s:St):eo A m0 keep s=norm m0 keep (Ho A s):=_root_.id rfl
theorem Hn (s:St):Ho [] s=s:=_root_.id rfl
theorem DC (k e sz:Nat)(r:List (Nat×Nat×Nat×Nat))(env:List (Nat×AV))(σ:List (Nat×Blk))(n:Nat):Ho ((k,0,e,sz)::r) ⟨env,σ,n⟩=Ho r (L5 k e sz ⟨env,σ,n⟩ (look k env)):=_root_.id rfl
theorem DD (k j e sz:Nat)(r:List (Nat×Nat×Nat×Nat))(env:List (Nat×AV))(σ:List (Nat×Blk))(n:Nat):Ho ((k,j+1,e,sz)::r) ⟨env,σ,n⟩=Ho r (accP j e sz ⟨env,σ,n⟩ (look k env)):=_root_.id rfl
theorem DG (k e sz:Nat)(env:List (Nat×AV))(σ:List (Nat×Blk))(n:Nat):L5 k e sz ⟨env,σ,n⟩ (.pv .nils)=⟨(k,iA n e sz)::env,(n,cN e sz)::σ,n+1⟩:=_root_.id rfl
theorem Kb {n e sz:Nat}(h:e<1000000):iA n e sz = .olist n sz []:=if_pos h
theorem Ka {n e sz:Nat}(h:1000000<=e):iA n e sz = .row n sz 0 0:=if_neg (Nat.not_lt.2 h)
theorem FH {e sz:Nat}(h:e<1000000):cN e sz = .tok e sz:=if_pos h
theorem FG {e sz:Nat}(h:1000000<=e):cN e sz = .cells (e - 1000000) false []:=if_neg (Nat.not_lt.2 h)
theorem Ly (k e sz r a:Nat)(l:List PV)(s:St):L5 k e sz s (.olist r a l)=s:=_root_.id rfl
theorem Hq (o e sz r b:Nat)(env:List (Nat×AV))(σ:List (Nat×Blk))(n:Nat):accP o e sz ⟨env,σ,n⟩ (.ptr r b)=accB r (b+o) e sz ⟨env,σ,n⟩ (lookB r σ):=_root_.id rfl
theorem xZ (r o e sz T:Nat)(f:Bool)(l:List AV)(s:St):accB r o e sz s (.cells T f l)=L4 r T f l o e sz s l[o]?:=_root_.id rfl
theorem DF (r T:Nat)(f:Bool)(l:List AV)(o e sz:Nat)(env:List (Nat×AV))(σ:List (Nat×Blk))(n:Nat):L4 r T f l o e sz ⟨env,σ,n⟩ (some (.pv .nils))=⟨env,(r,.cells T f (l.set o (iA n e sz)))::(n,cN e sz)::σ,n+1⟩:=_root_.id rfl
theorem Hr (r T:Nat)(f:Bool)(l:List AV)(o e sz:Nat)(s:St)(q a b c:Nat):L4 r T f l o e sz s (some (.row q a b c))=s:=_root_.id rfl
theorem Lx (r T:Nat)(f:Bool)(l:List AV)(o e sz:Nat)(s:St)(q a:Nat)(k:List PV):L4 r T f l o e sz s (some (.olist q a k))=s:=_root_.id rfl
theorem SI {α:Type}(x y:α)(r:List α):(x::r).set 0 y=y::r:=_root_.id rfl
theorem SH {α:Type}(x y:α)(r:List α)(n:Nat):(x::r).set (n+1) y=x::r.set n y:=_root_.id rfl
theorem Qf (e e':List (Nat×AV))(σ σ':List (Nat×Blk))(n n':Nat):(St.mk e σ n=St.mk e' σ' n')=(e=e'/\σ=σ'/\n=n'):=by rw[St.mk.injEq]
theorem Oe {a b:Nat}(h:a<b):decide (a<b)=true:=decide_eq_true h
theorem Of {a b:Nat}(h:¬ a<b):decide (a<b)=false:=decide_eq_false h
theorem Og {a b:Nat}(h:a<=b):decide (a<=b)=true:=decide_eq_true h
theorem Oh {a b:Nat}(h:¬ a<=b):decide (a<=b)=false:=decide_eq_false h
theorem aB {α:Type}{l:List α}{m:Nat}{x:α}(h:l[m]? = some x):l.take (m+1)=l.take m++[x]:=by
 obtain⟨h1,h2⟩:=List.getElem?_eq_some_iff.1 h
 rw[List.take_succ_eq_append_getElem h1,h2]
def NV (cells:List AV)(off sz:Nat)(r:List (Nat×Nat×AV))(xc:List AV):Bool->Option (List AV)
 | true=>ga (cells.take off++xc++cells.drop (off+sz)) r
 | false=>none
theorem KP (cells:List AV)(off sz:Nat)(r:List (Nat×Nat×AV))(xc:List AV):NV cells off sz r xc true=ga (cells.take off++xc++cells.drop (off+sz)) r:=_root_.id rfl
theorem Cf (cells:List AV):ga cells []=some cells:=_root_.id rfl
theorem wV (cells:List AV)(off sz:Nat)(x:AV)(r:List (Nat×Nat×AV)):ga cells ((off,sz,x)::r)=NV cells off sz r x.cells (x.known&&decide (x.cells.length=sz)&&decide (off+sz<=cells.length)):=by
 simp only[ga]
 by_cases h:x.known=true/\x.cells.length=sz/\off+sz<=cells.length
 ·rw[if_pos h,h.1,decide_eq_true h.2.1,decide_eq_true h.2.2];rfl
 ·rw[if_neg h]
  have:(x.known&&decide (x.cells.length=sz)&&decide (off+sz<=cells.length))=false:=by
   rw[Bool.eq_false_iff]
   intro hh
   simp only[Bool.and_eq_true,decide_eq_true_eq] at hh
   exact h ⟨hh.1.1,hh.1.2,hh.2⟩
  rw[this];rfl
theorem Fp (sz off:Nat)(cs:List AV):JR sz off cs=if off+sz<=cs.length then some (jh ((cs.drop off).take sz)) else none:=_root_.id rfl
section
variable {P:Program}{G:Nat->List PV}
end
theorem Cu (k:Nat):bG [] k=[]:=_root_.id rfl
theorem w8 (b:Blk)(r:List Blk)(k:Nat):bG (b::r) k=(k,b)::bG r (k+1):=_root_.id rfl
theorem wI (sto:List (Nat×Blk))(f:Nat->Option Nat):ig sto f [] []=True:=_root_.id rfl
theorem rQ (sto:List (Nat×Blk))(f:Nat->Option Nat)(r:Nat)(rs:List Nat)(b:Blk)(bs:List Blk):ig sto f (r::rs) (b::bs)=(BlkZ (lookB r sto) (b.ren f)/\ig sto f rs bs):=_root_.id rfl
theorem Fu (f:Nat->Option Nat)(i:Nat)(g:Nat->Nat):wi f [] i g=[]:=_root_.id rfl
theorem AH (f:Nat->Option Nat)(b:Blk)(r:List Blk)(i:Nat)(g:Nat->Nat):wi f (b::r) i g=(g i,b.ren f)::wi f r (i+1) g:=_root_.id rfl
theorem A2:kt []=[]:=_root_.id rfl
theorem NS (next:Nat)(rs:List Nat)(r:Nat):gSo next rs r=some (gIn next rs r):=_root_.id rfl
theorem QO (next r:Nat)(q:List Nat):gIn next (r::q) 0=r:=_root_.id rfl
theorem QN (next r i:Nat)(q:List Nat):gIn next (r::q) (i+1)=gIn next q i:=_root_.id rfl
theorem na {sz r off n:Nat}{k:IntKind}{h:Int}(h0:0<=h)(h1:h<=n)(hs:0<sz):ef sz (.row r sz off n) none (some (.pv (.int k h)))=some (.row r sz off h.toNat):=by
 simp[ef,aU,h0,h1,hs]
theorem Ec (n:Nat):((n:Int)+1).toNat=n+1:=by omega
theorem Hl (n:Int):n+1 - 1=n:=by omega
theorem aJ (A:List (Nat×Nat×Nat×Nat)){k:Nat}{v v':AV}{bs':List Blk}{sto':List (Nat×Blk)}{next':Nat}(h:StZ (eo A k [0] ⟨[(0,v')],sto',next'⟩) ⟨[(0,v)],bG bs' 0,bs'.length⟩):Kr k v bs' v' sto' next':=Wk.head h
section
variable {P:Program}{G:Nat->List PV}
theorem DN (F:St->Prop)(s:St):Sq F .norm s=F s:=_root_.id rfl
theorem Ha (b:ACode)(Q:AExit->St->Prop)(e:List (Nat×AV))(σ:List (Nat×Blk))(n:Nat):Lg (fun m=>vc P G m b) Q ⟨e,σ,n⟩=vc P G n b Q ⟨e,σ,n⟩:=_root_.id rfl
theorem Fe (e:List (Nat×AV)):Ff [] [] e=e:=_root_.id rfl
theorem Al (p:Nat)(ps:List Nat)(x:PV)(xs:List PV)(e:List (Nat×AV)):Ff (p::ps) (x::xs) e=Ff ps xs ((p,.pv x)::e):=_root_.id rfl
def Rt {ι:Type}(A:List (Nat×Nat×Nat×Nat))(S:ι->St)(Inv:Nat->ι->Prop)(i m0:Nat)(keep:List Nat)(Q:AExit->St->Prop)(e0:List (Nat×AV)):AExit->St->Prop
 | .norm,s'=>∃ x',Hd A m0 keep ⟨e0,s'.sto,s'.next⟩ (S x')/\Inv (i+1) x'
 | .exit j,s'=>Q (.exit j) ⟨e0,s'.sto,s'.next⟩
 | .ret,s'=>Q .ret ⟨e0,s'.sto,s'.next⟩
theorem DJ {ι:Type}(A:List (Nat×Nat×Nat×Nat))(S:ι->St)(Inv:Nat->ι->Prop)(i m0:Nat)(keep:List Nat)(Q:AExit->St->Prop)(e0 e:List (Nat×AV))(σ:List (Nat×Blk))(n:Nat):Rt A S Inv i m0 keep Q e0 .norm ⟨e,σ,n⟩ = ∃ x',Hd A m0 keep ⟨e0,σ,n⟩ (S x')/\Inv (i+1) x':=_root_.id rfl
theorem Hu {ι:Type}(A:List (Nat×Nat×Nat×Nat))(S:ι->St)(Inv:Nat->ι->Prop)(i m0:Nat)(keep:List Nat)(Q:AExit->St->Prop)(e0 e:List (Nat×AV))(σ:List (Nat×Blk))(n:Nat):Rt A S Inv i m0 keep Q e0 .ret ⟨e,σ,n⟩=Q .ret ⟨e0,σ,n⟩:=_root_.id rfl
theorem NQ:∀ (lb:List PV),pvs (lb.map AV.pv)=some lb
 | []=>rfl
 | p::r=>by simp[pvs,AV.toPV,NQ r]
theorem sB {ι:Type}(A:List (Nat×Nat×Nat×Nat))(ch:ι->List (Nat×AV))(chB:ι->List (Nat×Blk))(Inv:Nat->ι->Prop)(x0:ι){gf:Nat}{lb:List PV}{xs:List (List PV)}(hs:L6 P G gf lb xs)
  {m0:Nat} {f:AX} {ps keep:List Nat} {a b:ACode} {Q:AExit->St->Prop} {s:St}
  (h:∀ e0 σ0 n0,eo A m0 keep s=⟨e0,σ0,n0⟩->StZ ⟨e0,σ0,n0⟩ ⟨fY e0 (ch x0),iw σ0 (chB x0),n0⟩/\Inv 0 x0/\dn (f.ev (fun i=>look i (fY e0 (ch x0))))=some (gf,[],lb.map AV.pv) /\
   (∀ i x y,xs[i]? = some y->Inv i x->y.length=ps.length/\vc P G n0 a (Sq (Lg (fun m=>vc P G m b) (Rt A (fun x=>⟨fY e0 (ch x),iw σ0 (chB x),n0⟩) Inv i m0 keep Q (fY e0 (ch x))))) ⟨Ff ps y (fY e0 (ch x)),iw σ0 (chB x),n0⟩) /\
   ∀ x,Inv xs.length x->Q .norm ⟨fY e0 (ch x),iw σ0 (chB x),n0⟩):vc P G m0 (.range f ps keep a b) Q s:=by
 obtain⟨h1,h2,h3,h4,h5⟩:=h (eo A m0 keep s).env (eo A m0 keep s).sto (eo A m0 keep s).next rfl
 let S:ι->St:=fun x=>⟨fY (eo A m0 keep s).env (ch x),iw (eo A m0 keep s).sto (chB x),(eo A m0 keep s).next⟩
 refine⟨fun i t=>∃ x,t=S x/\Inv i x,S x0,aI h1,⟨x0,rfl,h2⟩,?_⟩
 have e:dn (f.ev (S x0).E)=some (gf,[],lb.map AV.pv):=h3
 rw[e]
 refine⟨rfl,lb,xs,NQ lb,hs,?_,?_⟩
 ·rintro i y t hy ⟨x,rfl,hx⟩
  obtain⟨k1,k2⟩:=h4 i x y hy hx
  refine⟨k1,dg a (fun e s hs=>?_) _ k2⟩
  cases e with
  | norm=>
    refine dg b (fun e s hs=>?_) s hs
    cases e with
    | norm=>
      obtain⟨x',q1,q2⟩:=hs
      exact⟨S x',q1,x',rfl,q2⟩
    | exit j=>exact hs
    | ret=>exact hs
  | exit j=>exact hs.elim
  | ret=>exact hs.elim
 ·rintro t ⟨x,rfl,hx⟩
  exact h5 x hx
end
attribute [push_cast] gr IE QY QZ Q0 Q1 Q2 Q3 Bj FY wF Bk QS QT GN GO KU GQ KT GM IY yU vu vr vq qN vp qM Eh yV yW qL qK Ek El JM Eg Ef yY Ej Ei vo JG JH vS re Au JS oK vT rc oJ vR EZ z8 z7 vQ E0 rg rh CO Dn qW Fb E1 E5 E3 E2 Fa E4 E6 E7 E8 E9 Ah Ag Ad Ae Af Ai EW zY Ac EV JL AQ SR SQ JO Aj Ak vW nh IT vd Ea D9 Eb Bb kz rJ Kg rF Kh rG rH C9 xO xM xL pT xN ag xK C7 C5 xI xJ C8 rP wG zZ vP Ko Kn uY uX wD OS FW xP Bh F6 Bv Bt Bs rR Bu Bf wC rL rM Ki JI vN oj Er m8 D3 yN GZ G0 JZ FJ FL FK FM G6 yE u7 yw yx yu qA CB xj oQ oR FF Fc N9 Oa CA Ev Ey Ex M5 M4 rK pk pj pl nq nr IK D2 yF xm r4 K0 pm rN po pn nv nu Kf FQ FP ww By wL K1 xh CR xE CS xG K4 K5 FV ND FD DH DI Hs sv sw x8 IG MB II KZ Mz IJ D1 IH MA FA QH QI EK zB HC LL Js Na Nb M9 xB zA vI Fg NM BC BF wO wN sr su x7 Aq vZ AD we Ar v8 AE wg nl J4 Ny Nv J5 Nx Nw J6 FB EX EY map_take map_drop AR vV O4 Hh Hf He Ll jH xa xb r3 Ro OR Dk tw AL AJ Fv tv JY Fy Fx wk Fz oG nc rx wm mg wl Hk O5 OY Km F3 BD NX Gw Gy Gx KE GC Gz BW BX KC FN A6 A5 FO A8 A9 wu kv ku rA pc wv Hm DB Ls Lt Kz tU pY g8 JB JA pL nK Qq M8 A1 wo J7 J9 J8 vJ qT wq BI HU Jw Ju Jt Ng Jv zF zE zG EN oz qU zH vK EO FE Hn DC DD DG Kb Ka FH FG Ly Hq xZ DF Hr Lx SI SH Qf Oe Of Og Oh KP Cf wV Fp Hc O0 GS Ct Do OT Dt Du Ep zb ML Cu w8 wI rQ Fu AH A2 NS QO QN na Ec Hl Nat.zero_add Nat.add_zero List.length_cons List.length_nil List.nil_append List.cons_append List.append_nil List.append_assoc List.getElem?_map List.length_map List.map_nil List.map_cons List.take_succ_cons List.take_zero List.drop_succ_cons List.drop_zero List.take_nil List.drop_nil List.all_cons List.all_nil Bool.and_true Bool.true_and Bool.and_false Bool.false_and Bool.not_true Bool.not_false decide_true decide_false Bool.not_not Int.natCast_add Int.cast_ofNat_Int Int.toNat_natCast Option.some.injEq and_true true_and ge_iff_le Nat.le_refl Nat.zero_le Nat.not_lt_zero and_self
attribute [push_cast] DN Ha Fe Al DJ Hu
attribute [push_cast high] Int.cast_ofNat_Int
def wU:List AV->List AV
 | []=>[]
 | x::r=>x.cells++wU r
theorem Ca:wU []=[]:=_root_.id rfl
theorem wT (x:AV)(r:List AV):wU (x::r)=x.cells++wU r:=_root_.id rfl
theorem ub:∀ l:List AV,l.flatMap AV.cells=wU l
 | []=>rfl
 | x::r=>by rw[List.flatMap_cons,ub r];rfl
section
variable {P:Program}{G:Nat->List PV}
theorem Ot {b:Bool}(h:b=true):Chk b:=h
theorem Rn {e sz len new:Nat}{vs:List AV}(h:Chk (decide (vs.length=len)&&decide (len<=9223372036854775807)&&vs.all (fun v=>v.known&&v.cells.length == sz&&v.cells.all AV.one))):eh true e sz len new vs=some (.row new sz 0 len,[(new,.cells e true (wU vs))]):=by
 have h':=h
 simp only[Chk,Bool.and_eq_true,decide_eq_true_eq] at h'
 obtain⟨⟨h1,h2⟩,h3⟩:=h'
 simp only[eh]
 rw[if_pos ⟨h1,h2⟩,if_pos h3,ub]
theorem tf:∀ l:List PV,pvs (l.map .pv)=some l
 | []=>rfl
 | x::r=>by simp[pvs,AV.toPV,tf r]
end
attribute [push_cast] Rn Ca wT
section
variable {α β:Type}
def iQ (p:Nat->Bool):Nat->Bool
 | 0=>true
 | n+1=>iQ p n&&p n
theorem ic {p:Nat->Bool}:∀ {n:Nat},iQ p n=true↔∀ k,k<n->p k=true
 | 0=>by simp[iQ]
 | n+1=>by
   rw[iQ,Bool.and_eq_true,ic]
   constructor
   ·rintro⟨h1,h2⟩ k hk
    rcases Nat.lt_succ_iff_lt_or_eq.1 hk with h | h
    ·exact h1 k h
    ·rw[h];exact h2
   ·exact fun h=>⟨fun k hk=>h k (by omega),h n (by omega)⟩
theorem ba {p:Nat->Bool}{k n:Nat}(h:p k=false)(hk:k<n):iQ p n=false:=by
 cases ha:iQ p n with
 | false=>rfl
 | true=>rw[ic.1 ha k hk] at h;cases h
theorem a8 {l:List α}{m:Nat}{x:α}(h:l[m]? = some x):l.drop m=x::l.drop (m+1):=by
 obtain⟨h1,h2⟩:=List.getElem?_eq_some_iff.1 h
 rw[List.drop_eq_getElem_cons h1,h2]
theorem nL {l:List α}{m:Nat}(h:¬ m<l.length):l.drop m=[]:=List.drop_eq_nil_of_le (by omega)
theorem sK {l:List α}{m:Nat}(h:¬ m<l.length):l.take m=l:=List.take_of_length_le (by omega)
theorem ud {l:List α}{m:Nat}{x:α}{p:α->Bool}(h:l[m]? = some x)(hp:p x=true):(l.drop m).find? p=some x:=by
 rw[a8 h,List.find?_cons,hp]
theorem pH {l:List α}{m:Nat}{x:α}{p:α->Bool}(h:l[m]? = some x)(hp:p x=false):(l.drop m).find? p=(l.drop (m+1)).find? p:=by
 rw[a8 h,List.find?_cons,hp]
theorem ue {l:List α}{m:Nat}{p:α->Bool}(h:¬ m<l.length):(l.drop m).find? p=none:=by rw[nL h];rfl
theorem Lm {l:List α}{m:Nat}{x:α}{p:α->Bool}(h:l[m]? = some x)(hp:p x=true):(l.drop m).any p=true:=by
 rw[a8 h,List.any_cons,hp];rfl
theorem Hj {l:List α}{m:Nat}{x:α}{p:α->Bool}(h:l[m]? = some x)(hp:p x=false):(l.drop m).any p=(l.drop (m+1)).any p:=by
 rw[a8 h,List.any_cons,hp];rfl
theorem Ln {l:List α}{m:Nat}{p:α->Bool}(h:¬ m<l.length):(l.drop m).any p=false:=by rw[nL h];rfl
def dt (p:α->Bool):List α->Nat->Int
 | [],_=>-1
 | x::r,m=>if p x=true then (m:Int) else dt p r (m+1)
theorem di {l:List α}{m:Nat}{x:α}{p:α->Bool}(h:l[m]? = some x)(hp:p x=true):dt p (l.drop m) m=m:=by
 rw[a8 h,dt,if_pos hp]
theorem b9 {l:List α}{m:Nat}{x:α}{p:α->Bool}(h:l[m]? = some x)(hp:p x=false):dt p (l.drop m) m=dt p (l.drop (m+1)) (m+1):=by
 rw[a8 h,dt,if_neg (by rw[hp];simp)]
theorem dj {l:List α}{m:Nat}{p:α->Bool}(h:¬ m<l.length):dt p (l.drop m) m = -1:=by rw[nL h];rfl
theorem bp {p:α->Bool}:∀ (l:List α) (m:Nat),(l.find? p=none/\dt p l m = -1)\/∃ (k:Nat) (x:α),l[k]? = some x/\l.find? p=some x/\dt p l m=((m+k:Nat):Int)
 | [],m=>.inl ⟨rfl,rfl⟩
 | x::r,m=>by
   cases hx:p x with
   | true=>exact .inr ⟨0,x,rfl,by rw[List.find?_cons,hx],by rw[dt,if_pos hx];rfl⟩
   | false=>
     rw[List.find?_cons,hx,dt,if_neg (by rw[hx];simp)]
     rcases bp r (m+1) with ⟨h1,h2⟩ | ⟨k,y,h1,h2,h3⟩
     ·exact .inl ⟨h1,h2⟩
     ·exact .inr ⟨k+1,y,by simpa using h1,h2,by rw[h3];congr 1;omega⟩
theorem dz {p:α->Bool}(l:List α):(l.find? p).isSome=l.any p:=by
 induction l with
 | nil=>rfl
 | cons x r ih=>rw[List.find?_cons,List.any_cons];cases p x<;>simp[ih]
def Ss:Option (List UInt8)->Option AV
 | some l=>some (.pv (.str l))
 | none=>none
def Il (n:Int):Option (List UInt8)->Option (List UInt8)
 | some l=>some (UInt8.ofNat n.toNat::l)
 | none=>none
theorem AO (l:List UInt8):Ss (some l)=some (.pv (.str l)):=_root_.id rfl
theorem lg (n:Int)(l:List UInt8):Il n (some l)=some (UInt8.ofNat n.toNat::l):=_root_.id rfl
theorem IQ:u8s []=some []:=_root_.id rfl
theorem sF (n:Int)(r:List PV):u8s (.int .u8 n::r)=Il n (u8s r):=by
 simp only[u8s];cases u8s r<;>rfl
theorem gu:∀ l:List UInt8,u8s (l.map fun b=>PV.int .u8 (b.toNat:Int))=some l
 | []=>rfl
 | b::r=>by rw[List.map_cons,sF,gu r,lg];simp
theorem D8 (σ:aw)(r:Nat)(l:List PV):gD σ (.olist r 1 l)=Ss (u8s l):=by
 simp only[gD,bB,if_true];cases u8s l<;>rfl
end
theorem wB (G:Nat->List PV)(e:List (Nat×AV))(σ:List (Nat×Blk))(new:Nat)(x:AX):nt G e σ new (.toStr x)=qz [] (gD (fun r=>lookB r σ) (evE e x)):=by
 simp only[nt];cases gD (fun r=>lookB r σ) (evE e x)<;>rfl
theorem gv {a b:Int}(h:0<=a):a.tdiv b=a / b:=Int.tdiv_eq_ediv_of_nonneg h
theorem fI {a b:Int}(h:0<=a):a.tmod b=a % b:=Int.tmod_eq_emod_of_nonneg h
def G9:Option UInt8->Option AV
 | some b=>some (.pv (.int .u8 (b.toNat:Int)))
 | none=>none
theorem aq (b:UInt8):G9 (some b)=some (.pv (.int .u8 (b.toNat:Int))):=_root_.id rfl
theorem iu (l:List UInt8)(k:IntKind)(i:Nat):gF (.pv (.str l)) (.pv (.int k (i:Int)))=G9 l[i]?:=by
 simp only[gF,Int.toNat_natCast]
 rw[if_pos (by omega)]
 cases l[i]? <;> rfl
theorem qZ (l:List UInt8)(k:IntKind):gF (.pv (.str l)) (.pv (.int k 0))=G9 l[0]?:=iu l k 0
theorem q8 (l:List UInt8)(k:IntKind)(i:Nat):gF (.pv (.str l)) (.pv (.int k ((i:Int)+1)))=G9 l[i+1]?:=iu l k (i+1)
attribute [push_cast] aq iu qZ q8 wB gv fI AO lg IQ sF gu D8
open Go.Sort
theorem cR {P:Program}{G:Nat->List PV}{f:Nat}{args:List PV}{r:PV}(hc:bN P f=true)
  (h:∀ (w:World) (imm:Nat->Nat->Prop) (vals:Array Value),ck G w imm->vals.size=args.length->(∀ (i:Nat) (x:PV),args[i]? = some x->PRel w imm x (vals.getD i Go.undef)) ->
   Calls P f vals w fun e w'=>∃ u,e = .returned u/\Below w.heap.size w w'/\PRel w' imm r u):ak P G f args r:=by
 refine⟨hc,fun w imm vals hG hlt hsz hargs=>(h w imm vals hG hsz hargs).mono ?_⟩
 rintro e w' ⟨u,rfl,hb,hr⟩
 exact⟨u,imm,rfl,hb,fun _ _ h=>h,fun _ _ h=>.inl h,fun b o h=>Nat.lt_of_lt_of_le (hlt b o h) hb.size,hr⟩
theorem j0 {w:World}{imm:Nat->Nat->Prop}{l:List UInt8}(h:l.length<=maxLen):PRel w imm (.str l) (.string ⟨l.toArray⟩):=by
 have:=PRel.str (w:=w) (imm:=imm) ⟨l.toArray⟩ (by show l.toArray.size<=maxLen;simpa using h)
 simpa using this
theorem jZ {w:World}{imm:Nat->Nat->Prop}{l:List UInt8}{v:Value}(h:PRel w imm (.str l) v):v = .string ⟨l.toArray⟩/\l.length<=maxLen:=by
 cases h with
 | str s hs=>exact⟨by simp,hs⟩
theorem yH {vals:Array Value}(h:vals.size=1):vals = #[vals.getD 0 Go.undef]:=by
 apply Array.ext
 ·simp[h]
 ·intro i h1 h2
  have:i=0:=by omega
  subst this
  simp[Array.getD_eq_getD_getElem?,h]
theorem yG {vals:Array Value}(h:vals.size=2):vals = #[vals.getD 0 Go.undef,vals.getD 1 Go.undef]:=by
 apply Array.ext
 ·simp[h]
 ·intro i h1 h2
  have:i=0\/i=1:=by omega
  rcases this with rfl | rfl<;>simp[Array.getD_eq_getD_getElem?,h]
def bI:Nat->Nat->List UInt8
 | 0,_=>[]
 | n+1,k=>if k<10 then [UInt8.ofNat (48+k)] else bI n (k / 10)++[UInt8.ofNat (48+k % 10)]
def lJ (n:Int):List UInt8:=if n<0 then 45::bI 20 n.natAbs else bI 20 n.toNat
theorem ld:∀ (f k:Nat),k<10 ^ f->0<f->bI f k=Lib.decDigits k
 | 0,k,_,h=>absurd h (by simp)
 | f+1,k,hk,_=>by
   rw[bI,Lib.decDigits]
   by_cases h:k<10
   ·simp[h]
   ·rw[if_neg h,dif_neg h]
    have h10:k / 10<10 ^ f:=by
     rw[Nat.pow_succ] at hk
     exact Nat.div_lt_of_lt_mul (by rw[Nat.mul_comm];exact hk)
    rw[ld f (k / 10) h10 (by
     rcases Nat.eq_zero_or_pos f with h0 | h0
     ·subst h0
      simp at hk
      omega
     ·exact h0)]
theorem iK:∀ (f k:Nat),(bI f k).length<=f
 | 0,k=>by simp[bI]
 | f+1,k=>by
   rw[bI]
   split
   ·simp
   ·have:=iK f (k / 10)
    simp;omega
theorem tO {n:Int}(h0:-9223372036854775808<=n)(h1:n<=9223372036854775807):lJ n=Lib.itoa n:=by
 have e:(10:Nat) ^ 20=100000000000000000000:=by decide
 unfold lJ Lib.itoa
 split
 ·rw[ld 20 n.natAbs (by rw[e];omega) (by decide)]
 ·rw[ld 20 n.toNat (by rw[e];omega) (by decide)]
theorem BB (n:Int):(lJ n).length<=21:=by
 unfold lJ
 split
 ·have:=iK 20 n.natAbs
  simp;omega
 ·have:=iK 20 n.toNat
  omega
theorem Ee {P:Program}{G:Nat->List PV}{w:World}{imm:Nat->Nat->Prop}{name:String}{k:IntKind}{zs:List Int}{g:Nat}(hn:P.globalNamed name=some g)(hG:G g=zs.map (PV.int k))(hz:zs≠[])(h:ck G w imm) :
  Lib.TabIs P w name k zs:=by
 obtain⟨cs,T,fz,h1,h2⟩:=h.2 g (by rw[hG];simpa using hz)
 have hcs:cs=(zs.map fun z=>Value.int k z).toArray:=by
  rw[hG] at h2
  simp only[List.length_map] at h2
  apply Array.ext
  ·simp[h2]
  ·intro i hi hi'
   have hiz:i<zs.length:=by omega
   obtain⟨_,v,h3,_,h4⟩:=h.1 g i (.int k zs[i]) (by rw[hG];simp[hiz])
   have hv:v = .int k zs[i]:=by cases h4;rfl
   have hc:=cell_of_row w g i cs T fz h1
   rw[h3,hv] at hc
   have:=(Array.getElem?_eq_some_iff.1 hc.symm).2
   simp[this]
 unfold Lib.TabIs World.var?
 rw[hn]
 simp only[Option.bind_some,h1]
 rw[hcs]
theorem Bz {P:Program}{G:Nat->List PV}{f g:Nat}{name:String}(hc:bN P f=true)(hn:P.globalNamed name=some g)(hG:G g=Lib.pow10Tab.map (PV.int .u64))
  (h:∀ (n:Int) (h0:-9223372036854775808<=n) (h1:n<=9223372036854775807) (w:World) (htab:Lib.TabIs P w name .u64 Lib.pow10Tab),
   Calls P f #[.int .i64 n] w fun e w'=>e = .returned (.string ⟨(Lib.itoa n).toArray⟩)/\∃ k os,w'=Sort.grow (w.drewN k) os)
  (n:Int) (h0:-9223372036854775808<=n) (h1:n<=9223372036854775807):ak P G f [.int .i64 n] (.str (lJ n)):=by
 refine cR hc fun w imm vals hGl hsz hargs=>?_
 have hv:=yH hsz
 have h2:=hargs 0 (.int .i64 n) rfl
 have h3:vals.getD 0 Go.undef = .int .i64 n:=by
  generalize vals.getD 0 Go.undef=x at h2
  cases h2;rfl
 rw[hv,h3]
 refine (h n h0 h1 w (Ee hn hG (by
  intro e
  have:=congrArg List.length e
  rw[Lib.pow10Tab_length] at this
  simp at this) hGl)).mono ?_
 rintro e w' ⟨rfl,k,os,rfl⟩
 refine⟨_,rfl,Lib.below_grow _ w (Nat.le_refl _) k os,?_⟩
 rw[tO h0 h1,<- tO h0 h1]
 refine j0 ?_
 have:=BB n
 unfold maxLen;omega
theorem pR {P:Program}{G:Nat->List PV}{f:Nat}(hc:bN P f=true)
  (h:∀ (a b:ByteArray) (w:World),Calls P f #[.string a,.string b] w fun e w'=>e = .returned (.int .i64 (Lib.compareBytes a.data.toList b.data.toList))/\w'=w) (a b:List UInt8) :
  ak P G f [.str a,.str b] (.int .i64 (Lib.compareBytes a b)):=by
 refine cR hc fun w imm vals hGl hsz hargs=>?_
 have hv:=yG hsz
 obtain⟨ha,_⟩:=jZ (hargs 0 (.str a) rfl)
 obtain⟨hb,_⟩:=jZ (hargs 1 (.str b) rfl)
 rw[hv,ha,hb]
 refine (h _ _ w).mono ?_
 rintro e w' ⟨rfl,rfl⟩
 refine⟨_,rfl,Below.refl _ _,?_⟩
 simpa using PRel.int (w:=w') (imm:=imm) .i64 (Lib.compareBytes a b)
def qv (p:Nat):List UInt8:=
 if p<128 then [UInt8.ofNat p]
 else if p<2048 then [UInt8.ofNat (192+p / 64),UInt8.ofNat (128+p % 64)]
 else if p<65536 then [UInt8.ofNat (224+p / 4096),UInt8.ofNat (128+p / 64 % 64),UInt8.ofNat (128+p % 64)]
 else [UInt8.ofNat (240+p / 262144),UInt8.ofNat (128+p / 4096 % 64),UInt8.ofNat (128+p / 64 % 64),UInt8.ofNat (128+p % 64)]
def jg (p:Nat):Bool:=decide (p<=1114111)&&(decide (p<55296)||decide (57343<p))
def decP (l:List UInt8):Nat×Nat:=
 if l=[] then (0,0) else if Lib.decodeL l=(65533,1) then (0,0) else Lib.decodeL l
def byN (l:List UInt8)(i:Nat):Nat:=(l.getD i 0).toNat
theorem fR {l:List UInt8}{i:Nat}{b:UInt8}(h:l[i]? = some b):byN l i=b.toNat:=by
 rw[byN,List.getD_eq_getElem?_getD,h];rfl
theorem fQ (l:List UInt8)(i:Nat):byN l i<256:=UInt8.toNat_lt _
theorem mW {n:Nat}{b:UInt8}(h:n<256):UInt8.ofNat n=b↔n=b.toNat:=by
 constructor
 ·rintro rfl;simp[UInt8.toNat_ofNat',Nat.mod_eq_of_lt h]
 ·rintro rfl;exact UInt8.ofNat_toNat
def QP (p:Nat×Nat):Nat×Nat:=if p=(65533,1) then (0,0) else p
theorem f8:QP (65533,1)=(0,0):=rfl
theorem KK {p n:Nat}(h:n≠1):QP (p,n)=(p,n):=if_neg (by simp[h])
theorem pO {l:List UInt8}(h:l≠[]):decP l=QP (Lib.decodeN l.length (byN l 0) (byN l 1) (byN l 2) (byN l 3)):=by
 rw[decP,if_neg h,Lib.decodeL_N];rfl
theorem Q8 {l:List UInt8}(h:l≠[])(h0:byN l 0<128):decP l=(byN l 0,1):=by
 rw[pO h,Lib.decodeN,if_pos h0]
 exact if_neg (by simp;omega)
theorem CI {l:List UInt8}(h:l≠[])(h0:(128<=byN l 0/\byN l 0<192)\/248<=byN l 0):decP l=(0,0):=by
 have hlt:=fQ l 0
 rw[pO h,Lib.decodeN,if_neg (by omega),if_neg (by omega),if_neg (by omega),if_neg (by omega),f8]
theorem Q7 {l:List UInt8}(h:l≠[])(h0:192<=byN l 0/\byN l 0<224) :
  decP l=if 1<l.length/\(128<=byN l 1/\byN l 1<192)/\128<=64*(byN l 0 - 192)+(byN l 1 - 128) then (64*(byN l 0 - 192)+(byN l 1 - 128),2) else (0,0):=by
 have hlt:=fQ l 1
 rw[pO h]
 generalize byN l 0=b0 at *
 generalize byN l 1=b1 at *
 generalize byN l 2=b2 at *
 generalize byN l 3=b3 at *
 unfold Lib.decodeN
 rw[if_neg (by omega)]
 by_cases hc:1<l.length/\b1 / 64=2
 ·rw[if_pos ⟨by omega,hc⟩]
  by_cases hp:b0 % 32*64+b1 % 64>=128
  ·rw[if_pos hp,KK (by omega),if_pos ⟨hc.1,by omega,by omega⟩]
   exact Prod.ext (by simp only;omega) rfl
  ·rw[if_neg hp,f8,if_neg (by omega)]
 ·rw[if_neg (by omega),if_neg (by omega),if_neg (by omega),f8,if_neg (by omega)]
theorem Q6 {l:List UInt8}(h:l≠[])(h0:224<=byN l 0/\byN l 0<240) :
  decP l=if 2<l.length/\(128<=byN l 1/\byN l 1<192)/\(128<=byN l 2/\byN l 2<192)/\(2048<=4096*(byN l 0 - 224)+64*(byN l 1 - 128)+(byN l 2 - 128)/\(4096*(byN l 0 - 224)+64*(byN l 1 - 128)+(byN l 2 - 128)<55296\/57343<4096*(byN l 0 - 224)+64*(byN l 1 - 128)+(byN l 2 - 128)))
   then (4096*(byN l 0 - 224)+64*(byN l 1 - 128)+(byN l 2 - 128),3) else (0,0):=by
 have hlt:=fQ l 1
 have hlt2:=fQ l 2
 rw[pO h]
 generalize byN l 0=b0 at *
 generalize byN l 1=b1 at *
 generalize byN l 2=b2 at *
 generalize byN l 3=b3 at *
 unfold Lib.decodeN
 rw[if_neg (by omega),if_neg (by omega)]
 by_cases hc:(1<l.length/\b1 / 64=2)/\(2<l.length/\b2 / 64=2)
 ·rw[if_pos ⟨by omega,hc⟩]
  have e:b0 % 16*4096+b1 % 64*64+b2 % 64=4096*(b0 - 224)+64*(b1 - 128)+(b2 - 128):=by omega
  rw[e]
  have hp0:4096*(b0 - 224)+64*(b1 - 128)+(b2 - 128)<=65535:=by omega
  generalize 4096*(b0 - 224)+64*(b1 - 128)+(b2 - 128)=p at *
  by_cases hp:p>=2048/\(p<55296\/(57344<=p/\p<=1114111))
  ·rw[if_pos hp,KK (by omega),if_pos ⟨hc.2.1,by omega,by omega,by omega⟩]
  ·rw[if_neg hp,f8,if_neg]
   rintro⟨_,_,_,h4,h5⟩
   omega
 ·rw[if_neg (by omega),if_neg (by omega),f8,if_neg (by omega)]
theorem Q4 {l:List UInt8}(h:l≠[])(h0:240<=byN l 0/\byN l 0<248) :
  decP l=if 3<l.length/\(128<=byN l 1/\byN l 1<192)/\(128<=byN l 2/\byN l 2<192)/\(128<=byN l 3/\byN l 3<192) /\
    (65536<=262144*(byN l 0 - 240)+4096*(byN l 1 - 128)+64*(byN l 2 - 128)+(byN l 3 - 128)/\262144*(byN l 0 - 240)+4096*(byN l 1 - 128)+64*(byN l 2 - 128)+(byN l 3 - 128)<=1114111)
   then (262144*(byN l 0 - 240)+4096*(byN l 1 - 128)+64*(byN l 2 - 128)+(byN l 3 - 128),4) else (0,0):=by
 have hlt:=fQ l 1
 have hlt2:=fQ l 2
 have hlt3:=fQ l 3
 rw[pO h]
 generalize byN l 0=b0 at *
 generalize byN l 1=b1 at *
 generalize byN l 2=b2 at *
 generalize byN l 3=b3 at *
 unfold Lib.decodeN
 rw[if_neg (by omega),if_neg (by omega),if_neg (by omega)]
 by_cases hc:(1<l.length/\b1 / 64=2)/\(2<l.length/\b2 / 64=2)/\(3<l.length/\b3 / 64=2)
 ·rw[if_pos ⟨by omega,hc⟩]
  have e:b0 % 8*262144+b1 % 64*4096+b2 % 64*64+b3 % 64=262144*(b0 - 240)+4096*(b1 - 128)+64*(b2 - 128)+(b3 - 128):=by omega
  rw[e]
  generalize 262144*(b0 - 240)+4096*(b1 - 128)+64*(b2 - 128)+(b3 - 128)=p at *
  by_cases hp:p>=65536/\(p<55296\/(57344<=p/\p<=1114111))
  ·rw[if_pos hp,KK (by omega),if_pos ⟨hc.2.2.1,by omega,by omega,by omega,by omega⟩]
  ·rw[if_neg hp,f8,if_neg]
   rintro⟨_,_,_,_,h4,h5⟩
   omega
 ·rw[if_neg (by omega),f8,if_neg (by omega)]
theorem HI {l:List UInt8}{a b:UInt8}(h0:l[0]? = some a)(h1:l[1]? = some b):l.take 2=[a,b]:=by
 rw[aB h1,aB h0];rfl
theorem HH {l:List UInt8}{a b c:UInt8}(h0:l[0]? = some a)(h1:l[1]? = some b)(h2:l[2]? = some c):l.take 3=[a,b,c]:=by
 rw[aB h2,HI h0 h1];rfl
theorem MJ {l:List UInt8}{a b c d:UInt8}(h0:l[0]? = some a)(h1:l[1]? = some b)(h2:l[2]? = some c)(h3:l[3]? = some d):l.take 4=[a,b,c,d]:=by
 rw[aB h3,HH h0 h1 h2];rfl
theorem QW {a b:UInt8}(h0:192<=a.toNat/\a.toNat<224)(h1:128<=b.toNat/\b.toNat<192):qv (64*(a.toNat - 192)+(b.toNat - 128))=[a,b]↔128<=64*(a.toNat - 192)+(b.toNat - 128):=by
 unfold qv
 generalize hp:64*(a.toNat - 192)+(b.toNat - 128)=p
 by_cases h:p<128
 ·rw[if_pos h]
  constructor
  ·intro e;simp at e
  ·intro;omega
 ·rw[if_neg h,if_pos (by omega)]
  simp only[List.cons.injEq,and_true]
  rw[mW (by omega),mW (by omega)]
  omega
theorem QV {a b c:UInt8}(h0:224<=a.toNat/\a.toNat<240)(h1:128<=b.toNat/\b.toNat<192)(h2:128<=c.toNat/\c.toNat<192) :
  qv (4096*(a.toNat - 224)+64*(b.toNat - 128)+(c.toNat - 128))=[a,b,c]↔2048<=4096*(a.toNat - 224)+64*(b.toNat - 128)+(c.toNat - 128):=by
 unfold qv
 generalize hp:4096*(a.toNat - 224)+64*(b.toNat - 128)+(c.toNat - 128)=p
 by_cases h:p<128
 ·rw[if_pos h]
  constructor
  ·intro e;simp at e
  ·intro;omega
 ·rw[if_neg h]
  by_cases h':p<2048
  ·rw[if_pos h']
   constructor
   ·intro e;simp at e
   ·intro;omega
  ·rw[if_neg h',if_pos (by omega)]
   simp only[List.cons.injEq,and_true]
   rw[mW (by omega),mW (by omega),mW (by omega)]
   omega
theorem QU {a b c d:UInt8}(h0:240<=a.toNat/\a.toNat<248)(h1:128<=b.toNat/\b.toNat<192)(h2:128<=c.toNat/\c.toNat<192)(h3:128<=d.toNat/\d.toNat<192)
  (hm:262144*(a.toNat - 240)+4096*(b.toNat - 128)+64*(c.toNat - 128)+(d.toNat - 128)<=1114111) :
  qv (262144*(a.toNat - 240)+4096*(b.toNat - 128)+64*(c.toNat - 128)+(d.toNat - 128))=[a,b,c,d]↔65536<=262144*(a.toNat - 240)+4096*(b.toNat - 128)+64*(c.toNat - 128)+(d.toNat - 128):=by
 unfold qv
 generalize hp:262144*(a.toNat - 240)+4096*(b.toNat - 128)+64*(c.toNat - 128)+(d.toNat - 128)=p at *
 by_cases h:p<128
 ·rw[if_pos h]
  constructor
  ·intro e;simp at e
  ·intro;omega
 ·rw[if_neg h]
  by_cases h':p<2048
  ·rw[if_pos h']
   constructor
   ·intro e;simp at e
   ·intro;omega
  ·rw[if_neg h']
   by_cases h'':p<65536
   ·rw[if_pos h'']
    constructor
    ·intro e;simp at e
    ·intro;omega
   ·rw[if_neg h'']
    simp only[List.cons.injEq,and_true]
    rw[mW (by omega),mW (by omega),mW (by omega),mW (by omega)]
    omega
theorem u9 {l:List UInt8}(h:l≠[]):Lib.validD l=if (decP l).2=0 then false else Lib.validD (l.drop (decP l).2):=by
 rw[Lib.validD_step l h,decP,if_neg h]
 have hw:=Lib.decodeL_width l
 by_cases hb:Lib.decodeL l=(65533,1)
 ·rw[if_pos hb,if_pos (by rw[hb];simp),if_pos rfl]
 ·rw[if_neg hb,if_neg (fun hh=>hb (Prod.ext hh.1 hh.2)),if_neg (by omega)]
theorem Ig (l:List UInt8):(decP l).2<=l.length:=by
 unfold decP
 split
 ·simp
 ·split
  ·simp
  ·exact Lib.decodeL_le l ‹_›
section
variable {P:Program}{G:Nat->List PV}
end
section
variable (e:List (Nat×AV))(σ:List (Nat×Blk))(new:Nat)
theorem NG (G:Nat->List PV)(o:XOp):nt G e σ new (.xop o)=DO e σ new o:=_root_.id rfl
end
attribute [push_cast] NG
section
variable {e:List (Nat×AV)}{σ:List (Nat×Blk)}{new:Nat}
theorem nQ (l k:List UInt8):aH (l++k)=aH l++aH k:=by simp[aH]
theorem oc (x y:AX):DO e σ new (.idxb x y)=qz [] (q9 (evE e x) (evE e y)):=by
 simp only[DO,qz];cases q9 (evE e x) (evE e y)<;>rfl
theorem oI (s:List UInt8)(c:Int):q9 (.pv (.str s)) (.pv (.int .u8 c))=some (.pv (.int .i64 (nC c.toNat.toUInt8 s 0))):=_root_.id rfl
end
section
variable {P:Program}{G:Nat->List PV}
end
attribute [push_cast] oc oI
def bh (P:Program)(t:TypeId):Bool:=
 match P.underlying t with
 | some (.struct _) | some (.array _ _)=>true
 | _=>false
def cQ (g:Bool)(cs:List PV):PV:=
 match g with
 | true=>.agg cs
 | false=>cs.headD .undef
def kV (P:Program)(f:Field)(cs:List PV):PV:=cQ (bh P f.type) ((cs.drop f.offset).take (P.cellsOf f.type))
inductive HasT (P:Program):TypeId->PV->Prop
 | bool (t:TypeId) (b:Bool):P.underlying t=some .bool->HasT P t (.bool b)
 | int (t:TypeId) (k:IntKind) (n:Int):P.underlying t=some (.int k)->(Lit.int k n).wf=true->HasT P t (.int k n)
 | str (t:TypeId) (s:List UInt8):P.underlying t=some .string->s.length<=140737488351232->HasT P t (.str s)
 | list (t e:TypeId) (l:List PV):P.underlying t=some (.slice e)->l.length<=maxLen->l.length*P.bytesOf e<=140737488351232->(∀ (i:Nat) (x:PV),l[i]? = some x->HasT P e x)->HasT P t (.list l)
 | arr (t e:TypeId) (n:Nat) (cs:List PV):P.underlying t=some (.array n e)->cs.length=P.cellsOf t->(∀ i,i<n->HasT P e (cQ (bh P e) ((cs.drop (i*P.cellsOf e)).take (P.cellsOf e))))->HasT P t (.agg cs)
 | agg (t:TypeId) (fs:Array Field) (cs:List PV):P.underlying t=some (.struct fs)->cs.length=P.cellsOf t->(∀ (i:Nat) (f:Field),fs.toList[i]? = some f->HasT P f.type (kV P f cs))->HasT P t (.agg cs)
def yj (w:World)(imm:Nat->Nat->Prop)(p:PV)(cs:List Value):Prop:=
 p.cells.length=cs.length/\∀ (i:Nat) (x:PV),p.cells[i]? = some x->PRel w imm x (cs.getD i Go.undef)/\(cs.getD i Go.undef).oneCell'=true
def yc (P:Program):List Field->Nat->Option Nat
 | [],o=>some o
 | f::r,o=>if f.offset=o then yc P r (o+P.cellsOf f.type) else none
def HZ (P:Program)(ts:List TypeId)(t:TypeId):Bool:=
 match P.underlying t with
 | some .bool | some (.int _) | some .string=>true
 | some (.slice e)=>ts.contains e&&decide (0<P.cellsOf e)
 | some (.struct fs)=>(match yc P fs.toList 0 with
   | some n=>decide (n=P.cellsOf t)
   | none=>false)&&fs.toList.all fun f=>ts.contains f.type
 | some (.array n e)=>ts.contains e&&decide (n*P.cellsOf e=P.cellsOf t)
 | _=>false
def PF (P:Program)(ts:List TypeId):Bool:=ts.all fun t=>HZ P ts t
theorem HasT.cell {P:Program}{t:TypeId}{p:PV}(h:HasT P t p):cQ (bh P t) p.cells=p:=by
 cases h with
 | bool _ h=>simp[bh,‹P.underlying t=_›,cQ,PV.cells]
 | int _ _ h _=>simp[bh,‹P.underlying t=_›,cQ,PV.cells]
 | str _ h _=>simp[bh,‹P.underlying t=_›,cQ,PV.cells]
 | list _ _ h _ _ _=>simp[bh,‹P.underlying t=_›,cQ,PV.cells]
 | arr _ _ _ h _ _=>simp[bh,‹P.underlying t=_›,cQ,PV.cells]
 | agg _ _ h _ _=>simp[bh,‹P.underlying t=_›,cQ,PV.cells]
theorem Bp {P:Program}:∀ (fs:List Field) (o n:Nat),yc P fs o=some n->o<=n/\∀ f∈fs,o<=f.offset
 | [],o,n,h=>by simp only[yc,Option.some.injEq] at h;subst h;simp
 | f::r,o,n,h=>by
   simp only[yc] at h
   split at h
   ·rename_i ho
    obtain⟨h1,h2⟩:=Bp r _ n h
    refine⟨by omega,fun g hg=>?_⟩
    rcases List.mem_cons.1 hg with rfl | hg
    ·omega
    ·have:=h2 g hg;omega
   ·cases h
section
variable {H:Type}{enc:TypeId×Value->H}{P:Program}{w:World}{spare:Nat->Bool}{held:Bool}{ts:List TypeId}{imm:Nat->Nat->Prop}
theorem gC {p:PV}{v:Value}(hc:p.cells=[p])(h:PRel w imm p v)(h1:v.oneCell'=true):yj w imm p [v]:=by
 refine⟨by rw[hc];rfl,fun i x hx=>?_⟩
 rw[hc] at hx
 cases i with
 | zero=>simp only[List.getElem?_cons_zero,Option.some.injEq] at hx;subst hx;exact⟨h,h1⟩
 | succ i=>simp at hx
theorem iG {F:Field->Option (DataW H×List MemPlace)}{cs:List Value}{n:Nat}(hcs:cs.length=n)
  (hF:∀ f x,F f=some x->(x.1.weights P f.type).all (·<=reachBytes)=true->f.type∈ts->∃ p,HasT P f.type p/\yj w imm p ((cs.drop f.offset).take (P.cellsOf f.type))):∀ (fs:List Field) (o:Nat) (xs:List (DataW H×List MemPlace)),yc P fs o=some n->(∀ f∈fs,f.type∈ts)->fs.mapM F=some xs->(DataW.weightsEach P (fs.map (·.type)) (xs.map (·.1))).all (·<=reachBytes)=true ->
  ∃ ps:List PV,ps.length=n - o/\(∀ (i:Nat) (x:PV),ps[i]? = some x->PRel w imm x (cs.getD (o+i) Go.undef)/\(cs.getD (o+i) Go.undef).oneCell'=true) /\
    ∀ f∈fs,HasT P f.type (cQ (bh P f.type) ((ps.drop (f.offset - o)).take (P.cellsOf f.type)))
 | [],o,xs,hl,_,_,_=>by
   simp only[yc,Option.some.injEq] at hl
   subst hl
   exact⟨[],by simp,by simp,by simp⟩
 | f::r,o,xs,hl,ht,hm,hz=>by
   simp only[yc] at hl
   split at hl
   ·rename_i ho
    simp only[List.mapM_cons,Option.bind_eq_bind,Option.bind_eq_some_iff,Option.pure_def,Option.some.injEq] at hm
    obtain⟨x,hx,xs',hxs,rfl⟩:=hm
    simp only[List.map_cons,DataW.weightsEach,List.all_append,Bool.and_eq_true] at hz
    obtain⟨p,hp,hr1,hr2⟩:=hF f x hx hz.1 (ht f (by simp))
    obtain⟨q1,q2⟩:=Bp r _ n hl
    obtain⟨ps,h1,h2,h3⟩:=iG hcs hF r _ xs' hl (fun g hg=>ht g (by simp[hg])) hxs hz.2
    have hpl:p.cells.length=P.cellsOf f.type:=by rw[hr1];simp;omega
    refine⟨p.cells++ps,by simp only[List.length_append];omega,fun i x hx=>?_,fun g hg=>?_⟩
    ·by_cases hi:i<p.cells.length
     ·rw[List.getElem?_append_left hi] at hx
      have:=hr2 i x hx
      have e:((cs.drop f.offset).take (P.cellsOf f.type)).getD i Go.undef=cs.getD (o+i) Go.undef:=by
       simp only[List.getD_eq_getElem?_getD,List.getElem?_take,List.getElem?_drop]
       rw[if_pos (by omega),ho]
      rw[e] at this;exact this
     ·rw[List.getElem?_append_right (by omega)] at hx
      have:=h2 _ x hx
      have e:o+P.cellsOf f.type+(i - p.cells.length)=o+i:=by omega
      rw[e] at this;exact this
    ·rcases List.mem_cons.1 hg with rfl | hg'
     ·have e:((p.cells++ps).drop (g.offset - o)).take (P.cellsOf g.type)=p.cells:=by
       rw[ho,Nat.sub_self,List.drop_zero,<- hpl,List.take_left]
      rw[e,hp.cell];exact hp
     ·have:=q2 g hg'
      have e:(p.cells++ps).drop (g.offset - o)=ps.drop (g.offset - (o+P.cellsOf f.type)):=by
       rw[List.drop_append,List.drop_eq_nil_of_le (by omega),List.nil_append]
       congr 1;omega
      rw[e];exact h3 g hg'
   ·cases hl
theorem fp {t:TypeId}{p:PV}{v:Value}(hp:HasT P t p)(h:yj w imm p v.cells.toList)(ha:bh P t=true->∃ cs,v = .agg cs)(ha':bh P t=false->v.cells = #[v]):PRel w imm p v:=by
 have hc:=hp.cell
 cases hg:bh P t with
 | false=>
   rw[hg] at hc
   rw[ha' hg] at h
   obtain⟨h1,h2⟩:=h
   have:p.cells=[p]:=by
    have hl:p.cells.length=1:=by rw[h1];simp
    obtain⟨q,hq⟩:=List.length_eq_one_iff.1 hl
    rw[hq] at hc ⊢
    simp only[cQ,List.headD_cons] at hc
    rw[hc]
   have:=(h2 0 p (by rw[this];rfl)).1
   simpa using this
 | true=>
   rw[hg] at hc
   obtain⟨cs,rfl⟩:=ha hg
   obtain⟨h1,h2⟩:=h
   simp only[cQ] at hc
   rw[<- hc]
   refine .agg _ _ (by simpa[Value.cells] using h1.symm) fun i x hx=>?_
   rw[aC]
   exact (h2 i x hx).1
theorem jz {α β:Type}{f:α->Option β}:∀ {l:List α} {r:List β},l.mapM f=some r->r.length=l.length
 | [],r,h=>by simp at h;subst h;rfl
 | x::l,r,h=>by
   simp only[List.mapM_cons,Option.bind_eq_bind,Option.bind_eq_some_iff,Option.pure_def,Option.some.injEq] at h
   obtain⟨b,hb,r',hr',rfl⟩:=h
   simp[jz hr']
theorem G3 {w:World}{a:Addr}{n:Nat}{v:Value}(h:w.cell? (a.add n)=some v):w.cell? ⟨a.block,a.off+n,none⟩=some v:=by
 obtain⟨b,off,spot⟩:=a
 unfold Addr.add at h
 by_cases hn:n=0
 ·subst hn
  rw[if_pos rfl] at h
  have:=World.cell?_spot h
  simp only at this
  subst this
  exact h
 ·rw[if_neg hn] at h;exact h
theorem DA (a:Addr)(n:Nat):(a.add n).block=a.block:=by unfold Addr.add;split<;>rfl
theorem Lr (a:Addr)(n:Nat):(a.add n).off=a.off+n:=by unfold Addr.add;split<;>simp_all
theorem uD {w:World}{a:Addr}{n:Nat}{cs:List Value}(h:w.cells? 0 a n=some cs):cs.length=n/\∀ (j:Nat) (v:Value),cs[j]? = some v->w.cell? (a.add j)=some v:=by
 unfold World.cells? at h
 rw[if_pos (Nat.zero_le _)] at h
 have hl:=jz h
 simp only[List.length_range] at hl
 refine⟨hl,fun j v hv=>?_⟩
 have hj:j<n:=by rw[<- hl];exact (List.getElem?_eq_some_iff.1 hv).1
 obtain⟨b,hb,hf⟩:=Lib.mapM_at h j j (by simp[hj])
 rw[hv] at hb;cases hb
 exact hf
theorem jP {e:TypeId}:∀ {l:List (DataW H)},(DataW.weightsAll P e l).all (·<=reachBytes)=true->∀ d∈l,(d.weights P e).all (·<=reachBytes)=true
 | [],_,d,hd=>by cases hd
 | x::r,h,d,hd=>by
   simp only[DataW.weightsAll,List.all_append,Bool.and_eq_true] at h
   rcases List.mem_cons.1 hd with rfl | hd
   ·exact h.1
   ·exact jP h.2 d hd
theorem ze {t e:TypeId}{a:Addr}{len cap:Nat}{R:List Value->Option (DataW H×List MemPlace)}{d:DataW H}{ps:List MemPlace}(hu:P.underlying t=some (.slice e))(hpos:0<P.cellsOf e)
  (hz:(d.weights P t).all (·<=reachBytes)=true) (ih:∀ cs d ps,R cs=some (d,ps)->(d.weights P e).all (·<=reachBytes)=true->∃ p,HasT P e p/\yj w imm p cs) (himm:∀ b o,b<w.heap.size->imm b o)
  (h:(if 0<=a.block/\len<=cap/\cap<=maxLen then
   (List.mapM (fun i=>(w.cells? 0 (a.add (i*P.cellsOf e)) (P.cellsOf e)).bind R) (List.range len)).bind fun elems=>
    Option.map (fun rest=>(DataW.slice (List.map (fun x=>x.fst) elems) (List.map (fun x=>x.fst) rest),MemPlace.row a ((elems.length+rest.length)*P.cellsOf e)++List.flatMap (fun x=>x.snd) (elems++rest)))
     (if spare a.block=true then List.mapM (fun j=>(w.cells? 0 (a.add ((len+j)*P.cellsOf e)) (P.cellsOf e)).bind R) (List.range (cap - len)) else some [])
   else none)=some (d,ps)):∃ p,HasT P t p/\yj w imm p [.slice (some a) len cap]:=by
 split at h
 ·rename_i hh
  obtain⟨_,hlc,hcm⟩:=hh
  simp only[Option.bind_eq_some_iff] at h
  obtain⟨elems,he,hrest⟩:=h
  simp only[Option.map_eq_some_iff,Prod.mk.injEq] at hrest
  obtain⟨rest,_,rfl,_⟩:=hrest
  simp only[DataW.weights,hu,List.all_cons,List.all_append,Bool.and_eq_true,decide_eq_true_eq,List.length_map] at hz
  obtain⟨hz1,hz2,_⟩:=hz
  have hel:elems.length=len:=by rw[jz he];simp
  have hzl:len*P.bytesOf e<=140737488351232:=by
   have h1:elems.length*P.bytesOf e<=(elems.length+rest.length)*P.bytesOf e:=Nat.mul_le_mul_right _ (by omega)
   have h2:(elems.length+rest.length)*P.bytesOf e<=140737488351232:=hz1
   exact Nat.le_trans (by rw[<- hel];exact h1) h2
  have hat:∀ i,i<len->∃ cs,w.cells? 0 (a.add (i*P.cellsOf e)) (P.cellsOf e)=some cs/\∃ p,HasT P e p/\yj w imm p cs:=by
   intro i hi
   obtain⟨b,hb,hf⟩:=Lib.mapM_at he i i (by simp[hi])
   simp only[Option.bind_eq_some_iff] at hf
   obtain⟨cs,h1,h2⟩:=hf
   obtain⟨p,h3,h4⟩:=ih cs b.1 b.2 h2 (jP hz2 b.1 (List.mem_map.2 ⟨b,List.mem_of_getElem? hb,rfl⟩))
   exact⟨cs,h1,p,h3,h4⟩
  have hex:∃ l:List PV,l.length=len/\∀ (i:Nat) (x:PV),l[i]? = some x->HasT P e x/\∃ cs,w.cells? 0 (a.add (i*P.cellsOf e)) (P.cellsOf e)=some cs/\yj w imm x cs:=by
   refine⟨(List.range len).map fun i=>if h:i<len then (hat i h).choose_spec.2.choose else .undef,by simp,fun i x hx=>?_⟩
   simp only[List.getElem?_map,Option.map_eq_some_iff] at hx
   obtain⟨j,hj,rfl⟩:=hx
   obtain⟨hlt,hji⟩:=List.getElem?_eq_some_iff.1 hj
   simp at hlt hji
   subst hji
   rw[dif_pos hlt]
   exact⟨(hat i hlt).choose_spec.2.choose_spec.1,_,(hat i hlt).choose_spec.1,(hat i hlt).choose_spec.2.choose_spec.2⟩
  obtain⟨l,hl,hle⟩:=hex
  refine⟨.list l,.list _ _ _ hu (by omega) (by rw[hl];exact hzl) (fun i x hx=>(hle i x hx).1),gC rfl ?_ rfl⟩
  by_cases h0:len=0
  ·have:l=[]:=List.eq_nil_of_length_eq_zero (by omega)
   subst this
   rw[h0]
   exact .lnil _ _ hcm
  ·have hcell:∀ (i:Nat) (x:PV) (j:Nat) (y:PV),l[i]? = some x->x.cells[j]? = some y->∃ v,w.cell? ((a.add (i*P.cellsOf e)).add j)=some v/\w.cell? ⟨a.block,a.off+i*P.cellsOf e+j,none⟩=some v/\PRel w imm y v/\v.oneCell'=true:=by
    intro i x j y hx hy
    obtain⟨_,cs,h1,h2,h3⟩:=hle i x hx
    obtain⟨k1,k2⟩:=uD h1
    have hj:j<cs.length:=by rw[<- h2];exact (List.getElem?_eq_some_iff.1 hy).1
    have h4:=h3 j y hy
    have h5:=k2 j _ (List.getElem?_eq_getElem hj)
    refine⟨cs[j],h5,?_,?_⟩
    ·have:=G3 h5
     rw[DA,Lr] at this;exact this
    ·simpa[List.getD_eq_getElem?_getD,hj] using h4
   have hlen:∀ (i:Nat) (x:PV),l[i]? = some x->x.cells.length=P.cellsOf e:=by
    intro i x hx
    obtain⟨_,cs,h1,h2,_⟩:=hle i x hx
    rw[h2,(uD h1).1]
   obtain⟨b,off,spot⟩:=a
   have hspot:spot=none:=by
    have hx:=List.getElem?_eq_getElem (show 0<l.length by omega)
    have hy:=List.getElem?_eq_getElem (show 0<(l[0]'(by omega)).cells.length by rw[hlen 0 _ hx];exact hpos)
    obtain⟨v,hv,_⟩:=hcell 0 _ 0 _ hx hy
    have:=World.cell?_spot hv
    simpa[Addr.add] using this
   subst hspot
   have:=PRel.list (w:=w) (imm:=imm) l b off cap (P.cellsOf e) (fun i j=>(w.cell? ⟨b,off+i*P.cellsOf e+j,none⟩).getD Go.undef) (by omega) hcm hlen (fun i x j y hx hy=>by
     obtain⟨v,_,hv,_,h1⟩:=hcell i x j y hx hy
     have hv':w.cell? ⟨b,off+i*P.cellsOf e+j,none⟩=some v:=hv
     have hb:=World.block_lt_of_cell? w _ hv'
     exact⟨himm _ _ hb,by rw[hv'];rfl,by rw[hv'];exact h1⟩) (fun i x j y hx hy=>by
     obtain⟨v,_,hv,h1,_⟩:=hcell i x j y hx hy
     have hv':w.cell? ⟨b,off+i*P.cellsOf e+j,none⟩=some v:=hv
     rw[hv'];exact h1)
   rw[hl] at this
   exact this
 ·cases h
theorem vv {t:TypeId}{fs:Array Field}{cs:List Value}{R:TypeId->List Value->Option (DataW H×List MemPlace)}{d:DataW H}{ps:List MemPlace}(hu:P.underlying t=some (.struct fs))
  (hstep:((match yc P fs.toList 0 with
   | some n=>decide (n=P.cellsOf t)
   | none=>false)&&fs.toList.all fun f=>ts.contains f.type)=true)
  (hz:(d.weights P t).all (·<=reachBytes)=true) (ih:∀ t cs d ps,t∈ts->R t cs=some (d,ps)->(d.weights P t).all (·<=reachBytes)=true->∃ p,HasT P t p/\yj w imm p cs)
  (h:(if cs.length=P.cellsOf t then Option.map (fun xs=>(DataW.agg (List.map (fun x=>x.fst) xs),List.flatMap (fun x=>x.snd) xs)) (List.mapM (fun f=>R f.type (List.take (P.cellsOf f.type) (List.drop f.offset cs))) fs.toList) else none)=some (d,ps)) :
  ∃ p,HasT P t p/\yj w imm p cs:=by
 split at h
 ·rename_i hcs
  simp only[Option.map_eq_some_iff,Prod.mk.injEq] at h
  obtain⟨xs,hxs,rfl,_⟩:=h
  simp only[DataW.weights,hu] at hz
  simp only[Bool.and_eq_true] at hstep
  obtain⟨h1,h2⟩:=hstep
  split at h1
  ·rename_i n hn
   simp only[decide_eq_true_eq] at h1
   subst h1
   obtain⟨qs,k1,k2,k3⟩:=iG (w:=w) (imm:=imm) (P:=P) (ts:=ts) (H:=H) hcs (F:=fun f=>R f.type (List.take (P.cellsOf f.type) (List.drop f.offset cs))) (fun f x hx hz hf=>ih f.type _ x.1 x.2 hf hx hz) fs.toList 0 xs hn (fun f hf=>by simpa using (List.all_eq_true.1 h2) f hf) hxs hz
   refine⟨.agg qs,.agg _ fs _ hu (by omega) (fun i f hf=>?_),by simp only[PV.cells];omega,fun i x hx=>?_⟩
   ·have:=k3 f (List.mem_of_getElem? hf)
    rwa [Nat.sub_zero] at this
   ·have:=k2 i x hx
    rwa [Nat.zero_add] at this
  ·cases h1
 ·cases h
def xV (P:Program)(e:TypeId):Nat->Nat->List Field
 | 0,_=>[]
 | n+1,k=>{ (default:Field) with type:=e,offset:=k*P.cellsOf e }::xV P e n (k+1)
theorem uM (P:Program)(e:TypeId):∀ n k,yc P (xV P e n k) (k*P.cellsOf e)=some ((k+n)*P.cellsOf e)
 | 0,k=>by simp[xV,yc]
 | n+1,k=>by
   rw[xV,yc,if_pos rfl]
   have:=uM P e n (k+1)
   simp only
   rw[show k*P.cellsOf e+P.cellsOf e=(k+1)*P.cellsOf e by rw[Nat.succ_mul],this]
   congr 2;omega
theorem uL {P:Program}{e:TypeId}:∀ {n k:Nat} {f:Field},f∈xV P e n k->f.type=e
 | 0,_,_,h=>by cases h
 | n+1,k,f,h=>by
   rcases List.mem_cons.1 h with rfl | h
   ·rfl
   ·exact uL h
theorem Dw {P:Program}{e:TypeId}:∀ {n k i:Nat},i<n->∃ f,f∈xV P e n k/\f.type=e/\f.offset=(k+i)*P.cellsOf e
 | 0,_,_,h=>by omega
 | n+1,k,0,_=>⟨_,List.mem_cons_self,rfl,by simp⟩
 | n+1,k,i+1,h=>by
   obtain⟨f,h1,h2,h3⟩:=Dw (P:=P) (e:=e) (n:=n) (k:=k+1) (i:=i) (by omega)
   exact⟨f,List.mem_cons_of_mem _ h1,h2,by rw[h3];congr 1;omega⟩
theorem p6 {α:Type}{P:Program}{e:TypeId}{R:TypeId->List Value->Option α}{cs:List Value}:∀ (n k:Nat),(List.range' k n).mapM (fun i=>R e ((cs.drop (i*P.cellsOf e)).take (P.cellsOf e)))=(xV P e n k).mapM (fun f=>R f.type ((cs.drop f.offset).take (P.cellsOf f.type)))
 | 0,k=>by simp[xV]
 | n+1,k=>by
   rw[List.range'_succ,xV,List.mapM_cons,List.mapM_cons,p6 n (k+1)]
theorem jc {P:Program}{e:TypeId}:∀ (n k:Nat) (l:List (DataW H)),l.length=n->DataW.weightsEach P ((xV P e n k).map (·.type)) l=DataW.weightsAll P e l
 | 0,k,l,h=>by
   obtain rfl:=List.eq_nil_of_length_eq_zero h
   simp[xV,DataW.weightsEach,DataW.weightsAll]
 | n+1,k,l,h=>by
   cases l with
   | nil=>simp at h
   | cons d r=>
     simp only[xV,List.map_cons,DataW.weightsEach,DataW.weightsAll]
     rw[jc n (k+1) r (by simpa using h)]
theorem Lj {t e:TypeId}{n:Nat}{cs:List Value}{R:TypeId->List Value->Option (DataW H×List MemPlace)}{d:DataW H}{ps:List MemPlace}(hu:P.underlying t=some (.array n e))
  (hstep:ts.contains e=true/\n*P.cellsOf e=P.cellsOf t)
  (hz:(d.weights P t).all (·<=reachBytes)=true) (ih:∀ t cs d ps,t∈ts->R t cs=some (d,ps)->(d.weights P t).all (·<=reachBytes)=true->∃ p,HasT P t p/\yj w imm p cs)
  (h:(if cs.length=P.cellsOf t then Option.map (fun xs=>(DataW.agg (List.map (fun x=>x.fst) xs),List.flatMap (fun x=>x.snd) xs)) (List.mapM (fun i=>R e (List.take (P.cellsOf e) (List.drop (i*P.cellsOf e) cs))) (List.range n)) else none)=some (d,ps)) :
  ∃ p,HasT P t p/\yj w imm p cs:=by
 split at h
 ·rename_i hcs
  simp only[Option.map_eq_some_iff,Prod.mk.injEq] at h
  obtain⟨xs,hxs,rfl,_⟩:=h
  have hxl:xs.length=n:=by rw[jz hxs];simp
  rw[List.range_eq_range',p6 n 0] at hxs
  simp only[DataW.weights,hu] at hz
  rw[<- jc (P:=P) n 0 _ (by simpa using hxl)] at hz
  have hlay:=uM P e n 0
  rw[Nat.zero_mul,Nat.zero_add,hstep.2] at hlay
  obtain⟨qs,k1,k2,k3⟩:=iG (w:=w) (imm:=imm) (P:=P) (ts:=ts) (H:=H) hcs (F:=fun f=>R f.type (List.take (P.cellsOf f.type) (List.drop f.offset cs))) (fun f x hx hz hf=>ih f.type _ x.1 x.2 hf hx hz) (xV P e n 0) 0 xs hlay
   (fun f hf=>by rw[uL hf];simpa using hstep.1) hxs hz
  refine⟨.agg qs,.arr _ e n _ hu (by omega) (fun i hi=>?_),by simp only[PV.cells];omega,fun i x hx=>?_⟩
  ·obtain⟨f,hf,h1,h2⟩:=Dw (P:=P) (e:=e) (k:=0) hi
   have:=k3 f hf
   rwa [h1,h2,Nat.sub_zero,Nat.zero_add] at this
  ·have:=k2 i x hx
   rwa [Nat.zero_add] at this
 ·cases h
theorem jr (hts:PF P ts=true)(himm:∀ b o,b<w.heap.size->imm b o):∀ (fuel:Nat) (t:TypeId) (cs:List Value) (d:DataW H) (ps:List MemPlace),t∈ts->DataW.trod enc P w 0 spare held fuel t cs=some (d,ps)->(d.weights P t).all (·<=reachBytes)=true->∃ p,HasT P t p/\yj w imm p cs
 | 0,t,cs,d,ps,_,h,_=>by simp[DataW.trod] at h
 | fuel+1,t,cs,d,ps,ht,h,hz=>by
   have hstep:=(List.all_eq_true.1 hts) t ht
   unfold HZ at hstep
   rw[DataW.trod.eq_def] at h
   simp only at h
   cases hu:P.underlying t with
   | none=>rw[hu] at hstep;simp at hstep
   | some u=>
     rw[hu] at hstep h
     cases u with
     | bool=>
       split at h
       all_goals first
        | (rename_i b h1;exact⟨.bool b,.bool _ _ hu,gC rfl (.bool _) rfl⟩)
        | (exfalso;simp_all;done)
        | skip
     | int k=>
       split at h
       all_goals first
        | (rename_i k' k2 n heq
           simp only[Option.some.injEq,TypeDesc.int.injEq] at heq
           subst heq
           split at h
           ·rename_i hh
            obtain⟨rfl,hw⟩:=hh
            exact⟨.int _ n,.int _ _ _ hu hw,gC rfl (.int _ _) rfl⟩
           ·cases h)
        | (exfalso;simp_all;done)
        | skip
     | string=>
       split at h
       all_goals first
        | (rename_i s _
           split at h
           ·rename_i hh
            cases h
            simp only[DataW.weights,List.all_cons,List.all_nil,Bool.and_true,decide_eq_true_eq] at hz
            exact⟨.str s.data.toList,.str _ _ hu hz,gC rfl (.str _ hh) rfl⟩
           ·cases h)
        | (exfalso;simp_all;done)
        | skip
     | slice e=>
       split at h
       all_goals first
        | (exact⟨.list [],.list _ _ _ hu (by simp) (by simp) (by simp),gC rfl (.lnil none 0 (by simp)) rfl⟩)
        | (rename_i e' a len cap heq
           simp only[Option.some.injEq,TypeDesc.slice.injEq] at heq
           subst heq
           simp only[Bool.and_eq_true,decide_eq_true_eq] at hstep
           exact ze hu hstep.2 hz (fun cs d ps h hz=>jr hts himm fuel _ cs d ps (by simpa using hstep.1) h hz) himm h)
        | (exfalso;simp_all;done)
        | skip
     | struct fs=>
       split at h
       all_goals first
        | (rename_i fs' heq
           simp only[Option.some.injEq,TypeDesc.struct.injEq] at heq
           subst heq
           exact vv hu hstep hz (fun t cs d ps ht h hz=>jr hts himm fuel t cs d ps ht h hz) h)
        | (exfalso;simp_all;done)
        | skip
     | array n e=>
       simp only[Bool.and_eq_true,decide_eq_true_eq] at hstep
       split at h
       all_goals first
        | (rename_i n' e' heq
           simp only[Option.some.injEq,TypeDesc.array.injEq] at heq
           obtain⟨rfl,rfl⟩:=heq
           exact Lj hu hstep hz (fun t cs d ps ht h hz=>jr hts himm fuel t cs d ps ht h hz) h)
        | (exfalso;simp_all;done)
        | skip
     | _=>simp at hstep
end
open Go.ChangeShapes Go.WideShapes
section
variable {H:Type}{enc:TypeId×Value->H}{P:Program}{W:World}{ts:List TypeId}{base:Nat}
def nA (W:World):Nat->Nat->Prop:=fun b _=>b<W.heap.size
theorem Lk (hts:PF P ts=true){t:TypeId}(ht:t∈ts){v:Value}{d:DataW H}{p:List MemPlace}(hok:Value.okWide P W .any base t v)(h:DataW.Trod enc P W 0 (fun _=>true) true t v d p)(hz:(d.weights P t).all (·<=reachBytes)=true) :
  ∃ x,HasT P t x/\PRel W (nA W) x v:=by
 obtain⟨fuel,hf⟩:=h
 obtain⟨x,h1,h2⟩:=jr (w:=W) (imm:=nA W) hts (fun b o h=>h) fuel t _ d p ht hf hz
 refine⟨x,h1,?_⟩
 cases h1 with
 | bool _ b hu=>obtain⟨b',rfl⟩:=okWide_bool hu hok;exact fp (.bool _ _ hu) h2 (by simp[bh,hu]) (fun _=>rfl)
 | int _ k n hu hw=>obtain⟨b',rfl⟩:=okWide_int hu hok;exact fp (.int _ _ _ hu hw) h2 (by simp[bh,hu]) (fun _=>rfl)
 | str _ s hu hs=>obtain⟨b',rfl⟩:=okWide_string hu hok;exact fp (.str _ _ hu hs) h2 (by simp[bh,hu]) (fun _=>rfl)
 | list _ e l hu hl hl2 hle=>obtain⟨a,len,cap,rfl⟩:=okWide_slice hu hok;exact fp (.list _ _ _ hu hl hl2 hle) h2 (by simp[bh,hu]) (fun _=>rfl)
 | arr _ e n cs hu hl hle=>
   have hok':=hok
   simp only[Value.okWide,hu] at hok'
   obtain⟨cs',rfl,_⟩:=hok'
   exact fp (.arr _ _ _ _ hu hl hle) h2 (fun _=>⟨_,rfl⟩) (by simp[bh,hu])
 | agg _ fs cs hu hl hle=>obtain⟨cs',rfl,_⟩:=okWide_struct hu hok;exact fp (.agg _ _ _ hu hl hle) h2 (fun _=>⟨_,rfl⟩) (by simp[bh,hu])
theorem uN (hts:PF P ts=true):∀ (tys:List TypeId) (vs:List Value) (ds:List (DataW H)) (p:List MemPlace),(∀ t∈tys,t∈ts)->(∀ (j:Nat) (t:TypeId) (v:Value),tys[j]? = some t->vs[j]? = some v->Value.okWide P W .any base t v) ->
  DataW.TrodAll enc P W 0 (fun _=>true) true tys vs ds p->(DataW.weightsEach P tys ds).all (·<=reachBytes)=true->vs.length=tys.length/\ds.length=tys.length/\∃ xs:List PV,xs.length=tys.length/\(∀ (i:Nat) (x:PV),xs[i]? = some x->PRel W (nA W) x (vs.getD i Go.undef))/\(∀ (i:Nat) (t:TypeId) (x:PV),tys[i]? = some t->xs[i]? = some x->HasT P t x)
 | [],vs,ds,p,_,_,h,_=>by
   cases vs<;>cases ds<;>simp[DataW.TrodAll] at h
   exact⟨rfl,rfl,[],rfl,by simp,by simp⟩
 | t::tys,vs,ds,p,ht,hok,h,hz=>by
   obtain⟨v,vs',d,ds',p',q',rfl,rfl,rfl,h1,h2⟩:=trodAll_cons h
   simp only[DataW.weightsEach,List.all_append,Bool.and_eq_true] at hz
   obtain⟨x,k1,k2⟩:=Lk (base:=base) hts (ht t (by simp)) (hok 0 t v rfl rfl) h1 hz.1
   obtain⟨l1,l2,xs,l3,l4,l5⟩:=uN hts tys vs' ds' q' (fun t h=>ht t (by simp[h])) (fun j t v h1 h2=>hok (j+1) t v (by simpa using h1) (by simpa using h2)) h2 hz.2
   refine⟨by simp[l1],by simp[l2],x::xs,by simp[l3],fun i y hy=>?_,fun i t' y ht' hy=>?_⟩
   ·cases i with
    | zero=>simp only[List.getElem?_cons_zero,Option.some.injEq] at hy;subst hy;simpa using k2
    | succ i=>simpa using l4 i y (by simpa using hy)
   ·cases i with
    | zero=>
      simp only[List.getElem?_cons_zero,Option.some.injEq] at hy ht'
      subst hy;subst ht';exact k1
    | succ i=>exact l5 i t' y (by simpa using ht') (by simpa using hy)
theorem lR:∀ (tys:List TypeId) (vs:List Value) (ds:List (DataW H)) (p:List MemPlace),DataW.TrodAll enc P W 0 (fun _=>true) true tys vs ds p->∀ x∈p,x.block<W.heap.size
 | [],vs,ds,p,h=>by
   cases vs<;>cases ds<;>simp[DataW.TrodAll] at h
   subst h;simp
 | t::tys,vs,ds,p,h=>by
   obtain⟨v,vs',d,ds',p',q',rfl,rfl,rfl,⟨m,hm⟩,h2⟩:=trodAll_cons h
   intro x hx
   rcases List.mem_append.1 hx with hx | hx
   ·exact DataW.trod_lt m _ _ _ hm x hx
   ·exact lR tys vs' ds' q' h2 x hx
theorem p7 (hlaid:laidOutB P=true){W':World}(hb:Below W.heap.size W W'):∀ (tys:List TypeId) (vs:List Value) (ds:List (DataW H)) (p:List MemPlace),(∀ t∈tys,P.readableRec t=true/\t<P.types.size) ->
  DataW.TrodAll enc P W 0 (fun _=>true) true tys vs ds p->DataW.TrodAll enc P W' 0 (fun b=>decide (b<W.heap.size)) true tys vs ds p
 | [],vs,ds,p,_,h=>by
   cases vs<;>cases ds<;>simp[DataW.TrodAll] at h
   subst h
   exact trodAll_mk0
 | t::tys,vs,ds,p,ht,h=>by
   have hlt:=lR _ _ _ _ h
   obtain⟨v,vs',d,ds',p',q',rfl,rfl,rfl,h1,h2⟩:=trodAll_cons h
   exact trodAll_cons_mk (Below.trod hlaid (ht t (by simp)).1 (ht t (by simp)).2 h1 hb (fun x hx=>hlt x (List.mem_append.2 (.inl hx)))) (p7 hlaid hb tys vs' ds' q' (fun t h=>ht t (by simp[h])) h2)
theorem eB:∀ (ts us:List TypeId) (ds gs:List (DataW H)),(DataW.weightsEach P (ts++us) (ds++gs)).all (·<=reachBytes)=true->(DataW.weightsEach P ts ds).all (·<=reachBytes)=true
 | [],_,_,_,_=>by simp[DataW.weightsEach]
 | _::_,_,[],_,_=>by simp[DataW.weightsEach]
 | t::ts,us,d::ds,gs,h=>by
   simp only[List.cons_append,DataW.weightsEach,List.all_append,Bool.and_eq_true] at h ⊢
   exact⟨h.1,eB ts us ds gs h.2⟩
theorem F4 {f:FuncId}{fn:Func}{s:ChangeSpec}{args:Array Value}{ds gs:List (DataW H)}{before:List MemPlace}{G:Nat->List PV}{tb:TypeId}
  (hs:s.vars=[]) (hlaid:laidOutB P=true) (hread:∀ t∈fn.params.toList,P.readableRec t=true/\t<P.types.size) (hts:PF P ts=true) (htys:∀ t∈fn.params.toList,t∈ts)
  (hres:fn.resultTypes = #[tb]) (htb:P.underlying tb=some .bool)
  (hfn:∀ ds:List (DataW H),ds.length=fn.params.toList.length->s.fn H ds = { results:=[.lit (.bool true)],args:=ds })
  (hval:∀ (j:Nat) (t:TypeId) (v:Value),fn.params[j]? = some t->args[j]? = some v->Value.okWide P W .any base t v) (hW:DataW.Whole enc P fn.params.toList s.vars false W args.toList ds gs before)
  (hsz:(DataW.weightsEach P (fn.params.toList++s.plain.varTypes P) (ds++gs)).all (·<=reachBytes)=true)
  (hG:ck G W (nA W))
  (hlaw:∀ ps:List PV,ps.length=fn.params.toList.length->(∀ (i:Nat) (t:TypeId) (x:PV),fn.params.toList[i]? = some t->ps[i]? = some x->HasT P t x)->ak P G f ps (.bool true)) :
  Calls P f args W fun e W'=>∃ v,e = .returned v/\s.post enc P fn false true false false W args v W':=by
 have hW':=hW
 obtain⟨p,q,hA,hV,rfl,hfz,hnd⟩:=hW
 rw[hs] at hV
 obtain⟨rfl,rfl⟩:=trodVars_none hV
 obtain⟨l1,l2,xs,l3,l4,l5⟩:=uN (base:=base) hts fn.params.toList args.toList ds p htys (fun j t v h1 h2=>hval j t v (by simpa using h1) (by simpa using h2)) hA (eB _ _ _ _ hsz)
 obtain⟨_,hP⟩:=hlaw xs l3 l5
 refine (hP W (nA W) args hG (fun b o h=>h) (by rw[l3,<- l1];simp) (fun i x hx=>by rw[aC];exact l4 i x hx)).mono ?_
 rintro e W' ⟨u,imm',rfl,hb,_,_,_,hu⟩
 cases hu
 refine⟨_,rfl,ds,[],_,[],p,[],hW',?_,?_,?_,hb.frame _,fun h=>by cases h⟩
 ·rw[hres,List.append_nil,hfn ds l2]
  exact trodAll_mk1 (shut_bool htb _)
 ·rw[List.append_nil,hfn ds l2]
  exact p7 hlaid hb _ _ _ _ hread hA
 ·rw[hs,List.append_nil,hfn ds l2]
  rfl
end
open Go.Proofs Go.Lib
section
variable {P:Program}{W:World}
theorem D4 {H:Type}{enc:TypeId×Value->H}{w:World}{base:Nat}{sp:Nat->Bool}{held:Bool}{fuel n:Nat}{t e:TypeId}{cs:List Value}{x:DataW H×List MemPlace}(ht:P.underlying t=some (.array n e))
  (h:DataW.trod enc P w base sp held fuel t cs=some x):cs.length=P.cellsOf t:=by
 cases fuel with
 | zero=>simp[DataW.trod] at h
 | succ fuel=>
   simp only[DataW.trod,ht] at h
   split at h
   ·assumption
   ·cases h
structure TabAt (w:World)(g:Nat)(ps:List PV):Prop where
 obj:∃ cs T fz,w.heap[g]? = some (.cells cs T fz)/\cs.size=ps.length
 cell:∀ (o:Nat) (p:PV),ps[o]? = some p->∃ k z,p = .int k z/\w.cell? ⟨g,o,none⟩=some (.int k z)
theorem BU {G:Nat->List PV}(h:∀ g,G g≠[]->TabAt W g (G g)):ck G W (nA W):=by
 refine⟨fun g o p hp=>?_,fun g hg=>(h g hg).obj⟩
 have hne:G g≠[]:=by intro e;rw[e] at hp;simp at hp
 obtain⟨k,z,rfl,hc⟩:=(h g hne).cell o p hp
 exact⟨World.block_lt_of_cell? W _ hc,_,hc,rfl,.int _ _⟩
theorem mZ {n:String}{g:Nat}{t e:TypeId}{m:Nat}{d:DataW Unit}{ps:List PV}(hv:VarReads P W n d)(hg:P.globalNamed n=some g)(hty:(P.globals[g]?).map (·.type)=some t)(ht:P.underlying t=some (.array m e))(hl:P.cellsOf t=ps.length)
  (h:∀ (o:Nat) (p:PV),ps[o]? = some p->∃ k z,p = .int k z/\W.cell? ⟨g,o,none⟩=some (.int k z)):TabAt W g ps:=by
 refine⟨?_,h⟩
 obtain⟨g',t',cs,fuel,p,hg',hty',hvar,hd⟩:=hv
 obtain rfl:=Option.some.inj (hg.symm.trans hg')
 obtain rfl:=Option.some.inj (hty.symm.trans hty')
 have hlen:=D4 ht hd
 unfold World.var? at hvar
 rw[hg] at hvar
 simp only[Option.bind_some] at hvar
 split at hvar
 ·rename_i cs' T fz hh
  cases hvar
  exact⟨cs,T,fz,hh,by rw[<- hl,<- hlen];simp⟩
 ·cases hvar
theorem vm {n:String}{g:Nat}{t e:TypeId}{m:Nat}{k:IntKind}{zs:List Int}(hv:VarReads P W n (Lib.tabData k zs))(hg:P.globalNamed n=some g)(hty:(P.globals[g]?).map (·.type)=some t)(ht:P.underlying t=some (.array m e))
  (he:P.underlying e=some (.int k)) (hce:P.cellsOf e=1) (hct:P.cellsOf t=m) (hm:m=zs.length):TabAt W g (zs.map (PV.int k)):=by
 have hv':=hv
 refine mZ hv hg hty ht (by rw[hct,hm];simp) fun o p hp=>?_
 simp only[List.getElem?_map,Option.map_eq_some_iff] at hp
 obtain⟨z,hz,rfl⟩:=hp
 refine⟨k,z,rfl,?_⟩
 obtain⟨g',t',cs,fuel,q,hg',hty',hvar,hd⟩:=hv'
 obtain rfl:=Option.some.inj (hg.symm.trans hg')
 obtain rfl:=Option.some.inj (hty.symm.trans hty')
 have hcs:=Lib.cells_of_tab ht he hce hct hd
 rw[World.var?_cell hg hvar o,<- Array.getElem?_toList,hcs]
 simp[hz]
end
end Go.Ab

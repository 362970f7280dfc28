/- A program logic over the model: part 5 (a proof is built on it; nothing of the statement is said here). -/
import Derived.Lib.Join
import Derived.Lib.ItoaNum
import Derived.Lib.LaidTab
import Derived.Lib.AppendIntMem
import Derived.Lib.Strings
import Derived.Lib.Bytealg
import Derived.Lib.ValidLaws
import Derived.ChangeShapes
import Derived.ProofKit
import Derived.OpenShut
import Derived.ShutString
import Derived.ChangeOld
import Derived.Carry
import Derived.WideShapes
import Derived.Deep.DeepHandedRow
import Derived.Lib.LaidU8T
import Derived.Test.YtbojpfpliibfbaaGreatDoorMxCore4
set_option linter.unusedVariables false
set_option linter.unusedSimpArgs false
namespace Go.Ab
open Go Go.RowKit
section
variable {P:Program}{G:Nat->List PV}
theorem eA.named {κ:Kap}{r:Nat}{B:Blk}(h:eA κ r B)(hB:B≠.none):∃ d,κ.nm r=some d:=by
 cases B with
 | none=>exact absurd rfl hB
 | cells T f l=>
   rcases h with ⟨_,_,h⟩ | ⟨b,n,cs,h,_⟩
   ·exact⟨_,h⟩
   ·exact⟨_,h⟩
 | tok e sz=>
   rcases h with h | ⟨g,n,cap,cur,h,_⟩
   ·exact⟨_,h⟩
   ·exact⟨_,h⟩
 | bts e l=>
   obtain⟨b,n,cs,fz,h,_⟩:=h
   exact⟨_,h⟩
theorem Blk.ren_ne {f:Nat->Option Nat}{b:Blk}:b.ren f≠.none↔b≠.none:=by
 cases b<;>simp[Blk.ren]
theorem L2 {next:Nat}{rs:List Nat}(hnd:rs.Nodup)(hlt:∀ r∈rs,r<next){i j:Nat}(h:gIn next rs i=gIn next rs j):i=j:=by
 by_cases hi:i<rs.length
 ·have ei:=kB next rs i _ (List.getElem?_eq_getElem hi)
  have hi':=hlt _ (List.getElem_mem hi)
  by_cases hj:j<rs.length
  ·have ej:=kB next rs j _ (List.getElem?_eq_getElem hj)
   rw[ei,ej] at h
   exact (List.getElem_inj hnd).1 h
  ·have ej:=mc next rs j (by omega)
   omega
 ·have ei:=mc next rs i (by omega)
  by_cases hj:j<rs.length
  ·have ej:=kB next rs j _ (List.getElem?_eq_getElem hj)
   have hj':=hlt _ (List.getElem_mem hj)
   omega
  ·have ej:=mc next rs j (by omega)
   omega
theorem pk {f:Nat->Option Nat}{g:Nat->Nat}(hg:∀ i j,g i=g j->i=j)(rest:List (Nat×Blk))(r:Nat):∀ (bs:List Blk) (k:Nat),
  (∀ i b,bs[i]? = some b->g (k+i)=r->lookB r (wh f bs k g++rest)=b.ren f)/\((∀ i,i<bs.length->g (k+i)≠r)->lookB r (wh f bs k g++rest)=lookB r rest)
 | [],k=>⟨by simp,fun _=>rfl⟩
 | b::q,k=>by
   obtain⟨h1,h2⟩:=pk hg rest r q (k+1)
   refine⟨fun i b' hi hr=>?_,fun h=>?_⟩
   ·simp only[wh,List.cons_append,lookB]
    cases i with
    | zero=>
      simp only[List.getElem?_cons_zero,Option.some.injEq] at hi
      subst hi
      rw[if_pos (by simpa using hr)]
    | succ i=>
      rw[if_neg (fun e=>by have:=hg _ _ (e.trans hr.symm);omega)]
      exact h1 i b' (by simpa using hi) (by rw[<- hr];congr 1;omega)
   ·simp only[wh,List.cons_append,lookB]
    rw[if_neg (by have:=h 0 (by simp);simpa using this)]
    exact h2 fun i hi=>by
     have:=h (i+1) (by simp;omega)
     rwa [show k+(i+1)=k+1+i by omega] at this
theorem l9 (rest:List (Nat×Blk))(r:Nat):∀ (l:List Nat),lookB r (iq l++rest)=if r∈l then .none else lookB r rest
 | []=>by simp[iq]
 | x::q=>by
   simp only[iq,List.cons_append,lookB,l9 rest r q,List.mem_cons]
   by_cases h:x=r
   ·subst h;simp
   ·rw[if_neg h]
    by_cases hq:r∈q
    ·simp[hq]
    ·have:¬ (r=x\/r∈q):=by rintro (e | e);exact h e.symm;exact hq e
     rw[if_neg hq,if_neg this]
theorem bO.frame {k f:Nat}{args0:List AV}{bs:List Blk}{v:AV}{bs':List Blk}(h:bO P G k f args0 bs v bs'){rs:List Nat}{args:List AV}{sto:List (Nat×Blk)}{next:Nat}
  (hargs:AVzL args (AV.renL (gSo next rs) args0)) (hbs:gS sto (gSo next rs) rs bs) (hnd:rs.Nodup) (hlt:∀ r∈rs,r<next) (hk:k<=bs.length) (hk':k<=bs'.length) (hne:∀ b∈bs.take k,b≠.none) :
  bU P G f args sto next fun v' sto' next'=>v'=v.ren (gSo next (rs.take k))/\sto'=wh (gSo next (rs.take k)) bs' 0 (gIn next (rs.take k))++(iq (rs.drop k)++sto)/\next'=next+(bs'.length - k):=by
 obtain⟨hcal,h⟩:=h
 refine⟨hcal,fun κ vals hS hf hsz hvals=>?_⟩
 obtain⟨hrl,hat⟩:=hbs.get
 let κ1:Kap:=⟨κ.w,fun i=>κ.nm (gIn next rs i),κ.imm⟩
 have hσ1:(fun r=>lookB r (bE bs 0))=fun r=>bs.getD r .none:=fW bs
 have hlook:∀ i b,bs[i]? = some b->∃ r,rs[i]? = some r/\gIn next rs i=r/\eA κ r (b.ren (gSo next rs))/\(b≠.none->lookB r sto≠.none):=by
  intro i b hb
  have hi:i<rs.length:=by rw[hrl];exact (List.getElem?_eq_some_iff.1 hb).1
  have hr:=List.getElem?_eq_getElem hi
  obtain⟨q1,q2⟩:=(hat i _ b hr hb).rel (hS.blk rs[i])
  exact⟨rs[i],hr,kB next rs i _ hr,q1,fun hb'=>q2 (Blk.ren_ne.2 hb')⟩
 have hlive:∀ i,bs.getD i .none≠.none->∃ b,bs[i]? = some b/\b≠.none:=by
  intro i hi
  rw[List.getD_eq_getElem?_getD] at hi
  cases hb:bs[i]? with
  | none=>rw[hb] at hi;exact absurd rfl hi
  | some b=>rw[hb] at hi;exact⟨b,rfl,hi⟩
 have hB1:∀ i b,bs[i]? = some b->eA κ1 i b:=by
  intro i b hb
  obtain⟨r,hr,hgr,hB,_⟩:=hlook i b hb
  exact eA.unren (κ:=κ) (κ':=κ1) rfl rfl (g:=gIn next rs) (fun _=>rfl) (by rw[hgr];exact hB)
 have hl1:∀ b,(bP κ1 (fun r=>lookB r (bE bs 0)) G).lent b->(bP κ (fun r=>lookB r sto) G).lent b:=by
  rintro b ⟨i,d,h1,h2,h3⟩
  simp only[congrFun hσ1 i] at h1
  obtain⟨b',hb,hbn⟩:=hlive i h1
  obtain⟨r,hr,hgr,_,hn⟩:=hlook i b' hb
  exact⟨r,d,hn hbn,by rw[<- hgr];exact h2,h3⟩
 have hm1:∀ b,(bP κ1 (fun r=>lookB r (bE bs 0)) G).mine b->(bP κ (fun r=>lookB r sto) G).mine b:=fun b hb=>hb.elim .inl (fun h=>.inr (hl1 b h))
 have hS1:SRel (bP κ1 (fun r=>lookB r (bE bs 0)) G) κ1 (fun r=>lookB r (bE bs 0)):=by
  refine⟨fun i=>?_,fun i j d d' b h1 h2 hij hd hd' hb=>?_,fun i d b h1 hd hb=>.inr ⟨i,d,h1,hd,hb⟩,hS.immLt,?_⟩
  ·rw[congrFun hσ1 i]
   show eA κ1 i (bs.getD i .none)
   rw[List.getD_eq_getElem?_getD]
   cases hb:bs[i]? with
   | none=>trivial
   | some b=>exact hB1 i b hb
  ·simp only[congrFun hσ1 i] at h1
   simp only[congrFun hσ1 j] at h2
   obtain⟨b1,hb1,hn1⟩:=hlive i h1
   obtain⟨b2,hb2,hn2⟩:=hlive j h2
   obtain⟨r,hr,hgr,_,hn⟩:=hlook i b1 hb1
   obtain⟨r',hr',hgr',_,hn'⟩:=hlook j b2 hb2
   refine hS.apart r r' d d' b (hn hn1) (hn' hn2) (fun e=>hij ?_) (by rw[<- hgr];exact hd) (by rw[<- hgr'];exact hd') hb
   obtain⟨hi,ei⟩:=List.getElem?_eq_some_iff.1 hr
   obtain⟨hj,ej⟩:=List.getElem?_eq_some_iff.1 hr'
   exact (List.getElem_inj hnd).1 (ei.trans (e.trans ej.symm))
  ·refine⟨fun g o p hp=>?_,fun g hg=>?_⟩
   ·exact hS.glob.1 g o p hp
   ·obtain⟨h1,h2,h3⟩:=hS.glob.2 g hg
    exact⟨h1,fun hl=>h2 (hl1 g hl),h3⟩
 have hf1:∀ r,bs.length<=r->κ1.nm r=none:=fun r hr=>by
  show κ.nm (gIn next rs r)=none
  rw[mc next rs r (by omega)]
  exact hf _ (by omega)
 have hlen0:args0.length=args.length:=by
  rw[hargs.length]
  have:∀ (f:Nat->Option Nat) (l:List AV),(AV.renL f l).length=l.length:=by
   intro f l
   induction l with
   | nil=>simp[AV.renL]
   | cons x r ih=>simp[AV.renL,ih]
  rw[this]
 have hv1:∀ (i:Nat) (x:AV),args0[i]? = some x->ARel κ1 x (vals.getD i Go.undef):=
  (jI (κ:=κ) (κ':=κ1) rfl rfl (g:=gIn next rs) (fun _=>rfl) args0 vals (fun i x hx=>by
   obtain⟨y,hy,hyx⟩:=hargs.get i x hx
   exact hyx.rel (hvals i y hy))).2
 refine (h κ1 vals hS1 hf1 (by omega) hv1).mono ?_
 rintro e w' ⟨u,v',κ1',sto',next',rfl,rfl,he,hL,hv,hS',hf',rfl,rfl,rfl⟩
 obtain⟨g,hgdef⟩:∃ g,g=gIn next (rs.take k):=⟨_,rfl⟩
 have htl:(rs.take k).length=k:=by rw[List.length_take];omega
 have hg1:∀ i,i<k->∃ r,rs[i]? = some r/\g i=r/\r<next:=by
  intro i hi
  have hi':i<rs.length:=by omega
  have hr:=List.getElem?_eq_getElem hi'
  refine⟨rs[i],hr,?_,hlt _ (List.getElem_mem hi')⟩
  rw[hgdef]
  exact kB next _ i _ (by rw[List.getElem?_take,if_pos hi];exact hr)
 have hg2:∀ i,k<=i->g i=next+(i - k):=fun i hi=>by rw[hgdef,mc next _ i (by omega),htl]
 have hginj:∀ i j,g i=g j->i=j:=fun i j hij=>by
  rw[hgdef] at hij
  exact L2 (hnd.sublist (List.take_sublist _ _)) (fun r hr=>hlt r (List.mem_of_mem_take hr)) hij
 have hso:gSo next (rs.take k)=fun r=>some (g r):=by rw[hgdef];rfl
 rw[hso,<- hgdef]
 let κ':Kap:=⟨κ1'.w,fun r=>if r<next then κ.nm r else κ1'.nm (k+(r - next)),κ1'.imm⟩
 have hnmk:∀ i,i<k->κ1'.nm i=κ1.nm i:=by
  intro i hi
  have hib:i<bs.length:=by omega
  have hb:=List.getElem?_eq_getElem hib
  obtain⟨d,hd⟩:=(hB1 i _ hb).named (hne _ (List.mem_take_iff_getElem.2 ⟨i,by omega,rfl⟩))
  rw[hd]
  exact he.nm i d (by simp only[Kap.cut];rw[if_pos hi];exact hd)
 have hnm':∀ i,κ'.nm (g i)=κ1'.nm i:=by
  intro i
  by_cases hi:i<k
  ·obtain⟨r,hr,hgr,hrn⟩:=hg1 i hi
   show (if g i<next then κ.nm (g i) else κ1'.nm (k+(g i - next)))=_
   rw[hgr,if_pos hrn,hnmk i hi]
   show κ.nm r=κ.nm (gIn next rs i)
   rw[kB next rs i r hr]
  ·show (if g i<next then κ.nm (g i) else κ1'.nm (k+(g i - next)))=_
   rw[hg2 i (by omega),if_neg (by omega)]
   congr 1;omega
 have hext:Ext κ κ':=⟨fun b o hi=>he.imm b o hi,fun b o v hi hc=>he.cell b o v hi hc,fun r d hd=>by
  have hr:r<next:=by
   rcases Nat.lt_or_ge r next with h | h
   ·exact h
   ·rw[hf r h] at hd;cases hd
  show (if r<next then κ.nm r else _)=_
  rw[if_pos hr];exact hd,fun b o ho hc=>he.obj b o ho hc⟩
 have hout:∀ r d b,lookB r sto≠.none->r∉rs->κ.nm r=some d->d.block=some b->b<κ.w.heap.size/\¬ (bP κ1 (fun r=>lookB r (bE bs 0)) G).lent b:=by
  intro r d b h1 h2 h3 h4
  refine⟨(hS.blk r).lt h1 h3 h4,?_⟩
  rintro⟨i,d',q1,q2,q3⟩
  simp only[congrFun hσ1 i] at q1
  obtain⟨b',hb,hbn⟩:=hlive i q1
  obtain⟨r',hr',hgr,_,hn⟩:=hlook i b' hb
  refine hS.apart r r' d d' b h1 (hn hbn) (fun e=>h2 (e▸List.mem_of_getElem? hr')) h3 (by rw[<- hgr];exact q2) h4 q3
 have hmem:∀ r,r∈rs->(∃ i,i<bs'.length/\g i=r)\/r∈rs.drop k:=by
  intro r hr
  obtain⟨i,hi⟩:=List.getElem?_of_mem hr
  by_cases hik:i<k
  ·obtain⟨r',hr',hgr,_⟩:=hg1 i hik
   rw[hi] at hr';cases hr'
   exact .inl ⟨i,by omega,hgr⟩
  ·refine .inr (List.mem_of_getElem? (i:=i - k) ?_)
   rw[List.getElem?_drop,show k+(i - k)=i by omega];exact hi
 have hσ':∀ r,(∃ i b,bs'[i]? = some b/\g i=r/\lookB r (wh (fun r=>some (g r)) bs' 0 g++(iq (rs.drop k)++sto))=b.ren (fun r=>some (g r))) \/
   lookB r (wh (fun r=>some (g r)) bs' 0 g++(iq (rs.drop k)++sto)) = .none\/(r∉rs/\(∀ i,i<bs'.length->g i≠r)/\lookB r (wh (fun r=>some (g r)) bs' 0 g++(iq (rs.drop k)++sto))=lookB r sto):=by
  intro r
  obtain⟨q1,q2⟩:=pk (f:=fun r=>some (g r)) hginj (iq (rs.drop k)++sto) r bs' 0
  by_cases hi:∃ i,i<bs'.length/\g i=r
  ·obtain⟨i,hi,hgi⟩:=hi
   exact .inl ⟨i,bs'[i],List.getElem?_eq_getElem hi,hgi,q1 i _ (List.getElem?_eq_getElem hi) (by rw[Nat.zero_add];exact hgi)⟩
  ·have hni:∀ i,i<bs'.length->g i≠r:=fun i h1 h2=>hi ⟨i,h1,h2⟩
   have e:=q2 (fun i h1=>by rw[Nat.zero_add];exact hni i h1)
   rw[l9] at e
   by_cases hr:r∈rs.drop k
   ·rw[if_pos hr] at e;exact .inr (.inl e)
   ·rw[if_neg hr] at e
    exact .inr (.inr ⟨fun h=>(hmem r h).elim hi hr,hni,e⟩)
 have hlive':∀ i b,bs'[i]? = some b->b.ren (fun r=>some (g r))≠.none->lookB i (bE bs' 0)≠.none:=by
  intro i b hb hbn
  have e2:lookB i (bE bs' 0)=bs'.getD i .none:=congrFun (fW bs') i
  rw[e2,List.getD_eq_getElem?_getD,hb]
  exact Blk.ren_ne.1 hbn
 refine⟨u,_,κ',_,_,rfl,rfl,hext,⟨hL.os,hL.tape,hL.output,hL.size,fun b hb hl=>hL.block b hb fun h=>hl (hl1 b h),fun b o hi=>(hL.imm b o hi).imp id (hm1 b)⟩,
  qN (κ:=κ1') (κ':=κ') rfl rfl (fun r r' hr=>by cases hr;exact hnm' r) v' u hv,?_,fun r hr=>?_,rfl,rfl,rfl⟩
 ·refine⟨fun r=>?_,fun r r' d d' b h1 h2 hrr hd hd' hb=>?_,fun r d b h1 hd hb=>?_,hS'.immLt,?_⟩
  ·show eA κ' r (lookB r _)
   rcases hσ' r with ⟨i,b,hb,hgi,e⟩ | e | ⟨hr,hni,e⟩
   ·rw[e,<- hgi]
    refine eA.ren (κ:=κ1') (κ':=κ') rfl rfl hnm' ?_
    have:=hS'.blk i
    have e2:lookB i (bE bs' 0)=bs'.getD i .none:=congrFun (fW bs') i
    simp only[e2,List.getD_eq_getElem?_getD,hb] at this
    exact this
   ·rw[e];trivial
   ·rw[e]
    refine (hS.blk r).keep hext fun hbn d b hd hb=>?_
    obtain⟨q1,q2⟩:=hout r d b hbn hr hd hb
    refine⟨hL.block b q1 q2,fun o ho=>?_⟩
    rcases hL.imm b o ho with h | h | h
    ·exact h
    ·exact absurd q1 (Nat.not_lt.2 h)
    ·exact absurd h q2
  ·have cal:∀ r i b0 d,bs'[i]? = some b0->g i=r->b0.ren (fun r=>some (g r))≠.none->κ'.nm r=some d->lookB i (bE bs' 0)≠.none/\κ1'.nm i=some d:=by
    intro r i b0 d hb0 hgi hbn hd
    exact⟨hlive' i b0 hb0 hbn,by rw[<- hnm' i,hgi];exact hd⟩
   have own:∀ r d,r∉rs->lookB r sto≠.none->κ'.nm r=some d->κ.nm r=some d:=by
    intro r d hr hbn hd
    obtain⟨d',hd'⟩:=(hS.blk r).named hbn
    have:=hext.nm r d' hd'
    rw[this] at hd;cases hd;exact hd'
   have mix:∀ r i b0 d d' b,bs'[i]? = some b0->b0.ren (fun r=>some (g r))≠.none->κ1'.nm i=some d->d.block=some b->lookB i (bE bs' 0)≠.none->r∉rs->lookB r sto≠.none->κ.nm r=some d'->d'.block≠some b:=by
    intro r i b0 d d' b hb0 hbn hd hdb hl hr hrl hd' hdb'
    obtain⟨q1,q2⟩:=hout r d' b hrl hr hd' hdb'
    rcases hS'.mine i d b hl hd hdb with h | h
    ·exact absurd q1 (Nat.not_lt.2 h)
    ·exact q2 h
   rcases hσ' r with ⟨i,b1,hb1,hgi,e⟩ | e | ⟨hr,hni,e⟩
   ·have h1':b1.ren (fun r=>some (g r))≠.none:=by
     intro h0;exact h1 (e.trans h0)
    obtain⟨p1,p2⟩:=cal r i b1 d hb1 hgi h1' hd
    rcases hσ' r' with ⟨j,b2,hb2,hgj,e'⟩ | e' | ⟨hr',hni',e'⟩
    ·have h2':b2.ren (fun r=>some (g r))≠.none:=by
      intro h0;exact h2 (e'.trans h0)
     obtain⟨p3,p4⟩:=cal r' j b2 d' hb2 hgj h2' hd'
     exact hS'.apart i j d d' b p1 p3 (fun hij=>hrr (by rw[<- hgi,<- hgj,hij])) p2 p4 hb
    ·exact absurd e' h2
    ·have h2':lookB r' sto≠.none:=by intro h0;exact h2 (e'.trans h0)
     exact mix r' i b1 d d' b hb1 h1' p2 hb p1 hr' h2' (own r' d' hr' h2' hd')
   ·exact absurd e h1
   ·have h1':lookB r sto≠.none:=by intro h0;exact h1 (e.trans h0)
    have hd0:=own r d hr h1' hd
    rcases hσ' r' with ⟨j,b2,hb2,hgj,e'⟩ | e' | ⟨hr',hni',e'⟩
    ·have h2':b2.ren (fun r=>some (g r))≠.none:=by
      intro h0;exact h2 (e'.trans h0)
     obtain⟨p3,p4⟩:=cal r' j b2 d' hb2 hgj h2' hd'
     intro hb'
     exact mix r j b2 d' d b hb2 h2' p4 hb' p3 hr h1' hd0 hb
    ·exact absurd e' h2
    ·have h2':lookB r' sto≠.none:=by intro h0;exact h2 (e'.trans h0)
     exact hS.apart r r' d d' b h1' h2' hrr hd0 (own r' d' hr' h2' hd') hb
  ·rcases hσ' r with ⟨i,b1,hb1,hgi,e⟩ | e | ⟨hr,hni,e⟩
   ·have h1':b1.ren (fun r=>some (g r))≠.none:=by
     intro h0;exact h1 (e.trans h0)
    refine hm1 b (hS'.mine i d b (hlive' i b1 hb1 h1') (by rw[<- hnm' i,hgi];exact hd) hb)
   ·exact absurd e h1
   ·have h1':lookB r sto≠.none:=by intro h0;exact h1 (e.trans h0)
    obtain⟨d',hd'⟩:=(hS.blk r).named h1'
    have:=hext.nm r d' hd'
    rw[this] at hd;cases hd
    exact .inr ⟨r,d,h1',hd',hb⟩
  ·refine⟨hS'.glob.1,fun g' hg'=>?_⟩
   obtain⟨h1,h2,cs,T,fz,h3,h4⟩:=hS.glob.2 g' hg'
   exact⟨h1,h2,cs,T,fz,(hL.block g' h1 fun h=>h2 (hl1 g' h)).trans h3,h4⟩
 ·show (if r<next then κ.nm r else κ1'.nm (k+(r - next)))=none
  rw[if_neg (by omega)]
  exact hf' _ (by omega)
def Je (k:Nat)(rs:List Nat)(bs bs':List Blk)(next:Nat):Bool:=
 decide (k<=bs.length)&&decide (k<=bs'.length)&&(bs.take k).all (fun b=>match b with | .none=>false | _=>true)&&rs.all (fun r=>decide (r<next))&&decide rs.Nodup
theorem ab.lentK {k f:Nat}{args0:List AV}{bs:List Blk}{v:AV}{bs':List Blk}(h:bO P G k f args0 bs v bs')(rs:List Nat){args:List AV}{env:List (Nat×AV)}{sto:List (Nat×Blk)}{next:Nat}{K:AV->St->Prop}
  (hok:Je k rs bs bs' next=true) (hargs:AVzL args (AV.renL (gSo next rs) args0)) (hbs:gS sto (gSo next rs) rs bs)
  (hK:K (v.ren (gSo next (rs.take k))) ⟨env,wh (gSo next (rs.take k)) bs' 0 (gIn next (rs.take k))++(iq (rs.drop k)++sto),next+(bs'.length - k)⟩):ab P G f args ⟨env,sto,next⟩ K:=by
 simp only[Je,Bool.and_eq_true,decide_eq_true_eq,List.all_eq_true] at hok
 obtain⟨⟨⟨⟨h1,h2⟩,h3⟩,h4⟩,h5⟩:=hok
 refine ab.lent (h.frame hargs hbs h5 h4 h1 h2 (fun b hb e=>?_)) ?_
 ·have:=h3 b hb
  subst e;cases this
 ·rintro v' sto' next' ⟨rfl,rfl,rfl⟩
  exact hK
theorem ab.weak {f:Nat}{args args':List AV}{s s':St}{K:AV->St->Prop}(hw:WkC s args s' args')(h:ab P G f args' s' K):ab P G f args s K:=by
 obtain⟨s2,args2,hw2,h2⟩:=h
 refine⟨s2,args2,⟨hw2.1.trans hw.1,hw2.2.1.trans hw.2.1,fun c κ0 κ N a w vals hR hv=>?_⟩,?_⟩
 ·obtain⟨κ1,h3,h4⟩:=hw.2.2 c κ0 κ N a w vals hR hv
  exact hw2.2.2 c κ0 κ1 N a w vals h3 h4
 ·rcases h2 with ⟨ps,r,k1,k2,k3⟩ | ⟨Q,k1,k2⟩
  ·exact .inl ⟨ps,r,k1,k2,k3⟩
  ·refine .inr ⟨Q,k1,fun v sto' next' hq=>?_⟩
   have:=k2 v sto' next' hq
   rw[hw.2.1] at this
   exact this
end
section
variable {P:Program}{G:Nat->List PV}
end
theorem F5 (k k':IntKind)(x y:Int):K2 (.pv (.int k x)) (.pv (.int k' y))=some (.pv (.int k (min x y))):=by
 simp only[K2,Option.some.injEq,AV.pv.injEq,PV.int.injEq,true_and]
 split<;>omega
theorem F6 (k k':IntKind)(x y:Int):K3 (.pv (.int k x)) (.pv (.int k' y))=some (.pv (.int k (max x y))):=by
 simp only[K3,Option.some.injEq,AV.pv.injEq,PV.int.injEq,true_and]
 split<;>omega
theorem uY (a:Nat)(b:Int):(min (a:Int) b).toNat=min a b.toNat:=by omega
theorem qF (a:Nat)(b:Int):(min b (a:Int)).toNat=min b.toNat a:=by omega
theorem od {α:Type}(l:List α)(n:Nat):l.take (min l.length n)=l.take n:=by
 rcases Nat.le_total l.length n with h | h
 ·rw[Nat.min_eq_left h,List.take_length,List.take_of_length_le h]
 ·rw[Nat.min_eq_right h]
theorem z7 {α:Type}(l:List α)(n:Nat):l.take (min n l.length)=l.take n:=by rw[Nat.min_comm,od]
theorem map_take {α β:Type}(f:α->β)(l:List α)(n:Nat):(l.map f).take n=(l.take n).map f:=List.map_take.symm
theorem map_drop {α β:Type}(f:α->β)(l:List α)(n:Nat):(l.map f).drop n=(l.drop n).map f:=List.map_drop.symm
theorem BO {α β:Type}(f:α->β):(none:Option α).map f=none:=_root_.id rfl
def fk (mu:Bool)(e sz by_ new:Nat)(σ:ap)(x:AV):Option (List PV)->Option (AV×List (Nat×Blk))
 | some ys=>match mu,x with
   | false,.pv .nils=>match ys with
     | []=>some (.pv .nils,[])
     | y::r=>if nQ 0 (r.length+1) by_=true then some (.olist new sz (y::r),[(new,.tok e sz)]) else none
   | false,.olist q s l=>match σ q with
     | .tok e' sz'=>if e'=e/\sz'=sz/\s=sz/\nQ l.length ys.length by_=true then some (.olist new sz (l++ys),[(q,.none),(new,.tok e sz)]) else none
     | _=>none
   | true,.pv .nils=>match ys with
     | []=>some (.pv .nils,[])
     | y::r=>if nQ 0 (r.length+1) by_=true then some (.row new sz 0 (r.length+1),[(new,.cells e false (ba (y::r)))]) else none
   | true,.row q s off len=>match σ q with
     | .cells e' _ l=>if e'=e/\s=sz/\off=0/\len*sz<=l.length/\nQ len ys.length by_=true then some (.row new sz 0 (len+ys.length),[(q,.none),(new,.cells e false (l.take (len*sz)++ba ys))]) else none
     | _=>none
   | _,_=>none
 | none=>none
def Iq (e sz by_ new q s:Nat)(l ys:List PV):Blk->Option (AV×List (Nat×Blk))
 | .tok e' sz'=>if e'=e/\sz'=sz/\s=sz/\nQ l.length ys.length by_=true then some (.olist new sz (l++ys),[(q,.none),(new,.tok e sz)]) else none
 | _=>none
def p5 (e sz by_ new q s off len:Nat)(ys:List PV):Blk->Option (AV×List (Nat×Blk))
 | .cells e' _ l=>if e'=e/\s=sz/\off=0/\len*sz<=l.length/\nQ len ys.length by_=true then some (.row new sz 0 (len+ys.length),[(q,.none),(new,.cells e false (l.take (len*sz)++ba ys))]) else none
 | _=>none
theorem vU (mu:Bool)(e sz by_ new:Nat)(σ:ap)(x y:AV):dx mu e sz by_ new σ x y=fk mu e sz by_ new σ x (aZ σ sz y):=by
 unfold dx fk
 cases aZ σ sz y<;>rfl
theorem Qv (e sz by_ new:Nat)(σ:ap)(q s:Nat)(l ys:List PV):fk false e sz by_ new σ (.olist q s l) (some ys)=Iq e sz by_ new q s l ys (σ q):=by
 simp only[fk,Iq]
theorem Ip {e sz by_ new q:Nat}{l ys:List PV}(h1:l.length+ys.length<=9223372036854775807)(h2:(l.length+ys.length)*by_<=140737488355328):Iq e sz by_ new q sz l ys (.tok e sz)=some (.olist new sz (l++ys),[(q,.none),(new,.tok e sz)]):=by
 simp[Iq,eW h1 h2]
theorem Io (e sz by_ new:Nat)(σ:ap):fk false e sz by_ new σ (.pv .nils) (some [])=some (.pv .nils,[]):=_root_.id rfl
theorem In {e sz by_ new:Nat}{σ:ap}{y:PV}{r:List PV}(h1:r.length+1<=9223372036854775807)(h2:(r.length+1)*by_<=140737488355328):fk false e sz by_ new σ (.pv .nils) (some (y::r))=some (.olist new sz (y::r),[(new,.tok e sz)]):=by
 simp only[fk];rw[if_pos (eW (by omega) (by simpa using h2))]
theorem MP (e sz by_ new:Nat)(σ:ap)(q s off len:Nat)(ys:List PV):fk true e sz by_ new σ (.row q s off len) (some ys)=p5 e sz by_ new q s off len ys (σ q):=by
 simp only[fk,p5]
theorem nH {e sz by_ new q len:Nat}{f:Bool}{l:List AV}{ys:List PV}(h0:len*sz<=l.length)(h1:len+ys.length<=9223372036854775807)(h2:(len+ys.length)*by_<=140737488355328) :
  p5 e sz by_ new q sz 0 len ys (.cells e f l)=some (.row new sz 0 (len+ys.length),[(q,.none),(new,.cells e false (l.take (len*sz)++ba ys))]):=by
 simp[p5,h0,eW h1 h2]
theorem yg {e sz by_ new q:Nat}{f:Bool}{l:List AV}{ys:List PV}(h1:ys.length<=9223372036854775807)(h2:ys.length*by_<=140737488355328) :
  p5 e sz by_ new q sz 0 0 ys (.cells e f l)=some (.row new sz 0 ys.length,[(q,.none),(new,.cells e false (ba ys))]):=by
 have:=eW (n:=0) (m:=ys.length) (by_:=by_) (by omega) (by simpa using h2)
 simp[p5,this]
def uh (l:List PV):Bool->Option (List PV)
 | true=>some l
 | false=>none
theorem xo (σ:ap)(sz:Nat):aZ σ sz (.pv .nils)=some []:=_root_.id rfl
theorem xp (σ:ap)(sz:Nat)(l:List PV):aZ σ sz (.pv (.list l))=uh l (l.all fun y=>y.cells.length == sz):=by
 simp only[aZ]
 cases l.all (fun y=>y.cells.length == sz)<;>rfl
theorem xq (l:List PV):uh l true=some l:=_root_.id rfl
theorem sl (σ:ap)(sz r:Nat)(l:List PV):aZ σ sz (.olist r sz l)=some l:=by simp[aZ]
def Qj (e sz new:Nat):Option (List PV)->Option (AV×List (Nat×Blk))
 | some ps=>if ps.all (fun p=>p.cells.length == sz&&p.cells.all PV.one)=true then some (.olist new sz ps,[(new,.tok e sz)]) else none
 | none=>none
theorem SB {e sz len new:Nat}{vs:List AV}(h:vs.length=len)(h2:len<=9223372036854775807):cW false e sz len new vs=Qj e sz new (pvs vs):=by
 simp only[cW,h,h2,true_and,if_true,Qj]
 cases pvs vs<;>rfl
def TP (e sz new:Nat)(ps:List PV):Bool->Option (AV×List (Nat×Blk))
 | true=>some (.olist new sz ps,[(new,.tok e sz)])
 | false=>none
theorem Qi (e sz new:Nat)(ps:List PV):TP e sz new ps true=some (.olist new sz ps,[(new,.tok e sz)]):=_root_.id rfl
theorem Eb (e sz new:Nat)(ps:List PV):Qj e sz new (some ps)=TP e sz new ps (ps.all fun p=>p.cells.length == sz&&p.cells.all PV.one):=by
 simp only[Qj]
 cases ps.all (fun p=>p.cells.length == sz&&p.cells.all PV.one)<;>rfl
theorem Ec (e sz new:Nat):Qj e sz new none=none:=_root_.id rfl
theorem Qh {e sz new:Nat}:cW true e sz 0 new []=some (.row new sz 0 0,[(new,.cells e true [])]):=by
 simp[cW]
theorem fu (b:Bool):PV.one (.bool b)=true:=_root_.id rfl
theorem io (k:IntKind)(n:Int):PV.one (.int k n)=true:=_root_.id rfl
theorem il (s:List UInt8):PV.one (.str s)=true:=_root_.id rfl
theorem GD:PV.one .nils=true:=_root_.id rfl
theorem ft (l:List PV):PV.one (.list l)=true:=_root_.id rfl
theorem Lj (p:PV):AV.one (.pv p)=p.one:=_root_.id rfl
theorem GF (r o:Nat):AV.one (.ptr r o)=true:=_root_.id rfl
theorem GE (r s o n:Nat):AV.one (.row r s o n)=true:=_root_.id rfl
theorem wi (r s:Nat)(l:List PV):AV.one (.olist r s l)=true:=_root_.id rfl
theorem GG (f:Nat)(a b:List AV):AV.one (.clo f a b)=true:=_root_.id rfl
def oL (sz:Nat)(l:List PV)(h:Nat):Option Nat->Option AV
 | some a=>if IQ sz l a=true then some (.pv (.list ((l.take h).drop a))) else none
 | none=>none
def oK (sz:Nat)(l:List PV)(lo:Option AV):Option Nat->Option AV
 | some h=>oL sz l h (aW 0 h lo)
 | none=>none
theorem oA (sz:Nat)(l:List PV)(lo hi:Option AV):ee sz (.pv (.list l)) lo hi=oK sz l lo (aW l.length l.length hi):=by
 show I5 sz l lo hi=_
 unfold I5 oK oL
 cases aW l.length l.length hi with
 | none=>rfl
 | some h=>simp only;cases aW 0 h lo<;>rfl
theorem mT (sz r s:Nat)(l:List PV)(lo hi:Option AV):ee sz (.olist r s l) lo hi=oK sz l lo (aW l.length l.length hi):=by
 show I5 sz l lo hi=_
 unfold I5 oK oL
 cases aW l.length l.length hi with
 | none=>rfl
 | some h=>simp only;cases aW 0 h lo<;>rfl
theorem rx (sz:Nat)(l:List PV)(lo:Option AV)(h:Nat):oK sz l lo (some h)=oL sz l h (aW 0 h lo):=_root_.id rfl
theorem wk (sz:Nat)(l:List PV)(h:Nat):oL sz l h (some 0)=some (.pv (.list (l.take h))):=by
 simp[oL,IQ]
theorem lX {sz:Nat}{l:List PV}{h a:Nat}(hs:IQ sz l a=true):oL sz l h (some a)=some (.pv (.list ((l.take h).drop a))):=if_pos hs
theorem wj (sz:Nat)(l:List PV)(i:Nat)(y:PV):eH sz l i (some y)=if y.cells.length=sz then some (.pv (.eptr l i 0)) else none:=_root_.id rfl
theorem Is {α β:Type}(f:α->β)(p:β->Bool)(l:List α):(l.map f).all p=l.all fun x=>p (f x):=by
 rw[List.all_map];rfl
theorem Qw {α:Type}(l:List α):(l.all fun _=>true)=true:=by simp
theorem Qp (n:Nat):(n == n)=true:=by simp
def OX (sz:Nat)(e:PV):Bool->Option AV
 | true=>some (.pv e)
 | false=>cY true sz 0 (e.cells.map .pv)
theorem LI (sz:Nat)(e:PV):OX sz e true=some (.pv e):=_root_.id rfl
theorem Hf (sz:Nat)(e:PV):lr true sz 0 e=OX sz e (e.isAgg&&decide (e.cells.length=sz)):=by
 simp only[lr,true_and]
 by_cases h:e.isAgg=true/\e.cells.length=sz
 ·rw[if_pos h,h.1,decide_eq_true h.2];rfl
 ·rw[if_neg h]
  have:(e.isAgg&&decide (e.cells.length=sz))=false:=by
   rw[Bool.eq_false_iff]
   intro hh
   simp only[Bool.and_eq_true,decide_eq_true_eq] at hh
   exact h hh
  rw[this];rfl
theorem CB (cs:List PV):(PV.agg cs).isAgg=true:=_root_.id rfl
theorem iW {α:Type}{sz:Nat}{f:α->PV}(hf:∀ x,(f x).cells.length=sz)(l:List α):(ba (l.map f)).length=l.length*sz:=by
 have:=gC (sz:=sz) ((l.map f).map PV.cells) (by
  intro y hy
  simp only[List.mem_map] at hy
  obtain⟨p,⟨s,_,rfl⟩,rfl⟩:=hy
  exact hf s)
 simp only[ba,List.length_map,List.flatMap_def] at this ⊢
 exact this
def fzO (σ:ap):Option AV->Option (AV×List (Nat×Blk))
 | some v=>(r9 σ v).map Ji
 | none=>none
theorem Pk (G:Nat->List PV)(σ:ap)(v:AV):Jn G σ none v=(r9 σ v).map Ji:=_root_.id rfl
theorem Pl (G:Nat->List PV)(σ:ap)(g:Bool)(sz:Nat)(v:AV):Jn G σ (some (g,sz)) v=fzO σ (ef G g sz σ v):=by
 simp only[Jn,fzO];cases ef G g sz σ v<;>rfl
theorem HD (σ:ap)(v:AV):fzO σ (some v)=(r9 σ v).map Ji:=_root_.id rfl
theorem HF (σ:ap)(cs:List AV):r9 σ (.agg cs)=(EM σ cs).map fun p=>(.agg p.1,p.2):=_root_.id rfl
theorem L4 (σ:ap)(p:PV):r9 σ (.pv p)=some (p,[]):=_root_.id rfl
theorem L5 (σ:ap)(r s:Nat)(l:List PV):r9 σ (.olist r s l)=some (.list l,[]):=_root_.id rfl
theorem HE (σ:ap)(r s n:Nat):r9 σ (.row r s 0 n)=Jk s n r (σ r):=_root_.id rfl
theorem L7 (σ:ap)(p:PV):Jj σ (.pv p)=some (p,[]):=_root_.id rfl
theorem L8 (σ:ap)(r s:Nat)(l:List PV):Jj σ (.olist r s l)=some (.list l,[]):=_root_.id rfl
theorem HI (σ:ap)(r s n:Nat):Jj σ (.row r s 0 n)=Jk s n r (σ r):=_root_.id rfl
theorem HG (σ:ap):EM σ []=some ([],[]):=_root_.id rfl
theorem CR (σ:ap)(x:AV)(r:List AV):EM σ (x::r)=Q4 (Jj σ x) (EM σ r):=_root_.id rfl
theorem CS (p:PV)(a:List Nat)(q:List PV)(b:List Nat):Q4 (some (p,a)) (some (q,b))=some (p::q,a++b):=_root_.id rfl
theorem L6 (p:PV)(l:List Nat):Ji (p,l)=(.pv p,l.map fun r=>(r,.none)):=_root_.id rfl
theorem tY {α:Type}{sz:Nat}{f:α->PV}(hf:∀ x,∃ cs,f x = .agg cs/\cs.length=sz/\∀ p∈cs,p.one=true)(hsz:2<=sz)(l:List α){n r T:Nat}{b:Bool}(hn:n=l.length) :
  Jk sz n r (.cells T b (ba (l.map f)))=some (.list (l.map f),[r]):=by
 have hlen:=iW (sz:=sz) (f:=f) (fun x=>by obtain⟨cs,h1,h2,_⟩:=hf x;rw[h1];exact h2) l
 subst hn
 have hone:(ba (l.map f)).all AV.one=true:=by
  rw[List.all_eq_true]
  intro x hx
  simp only[ba,List.mem_map,List.mem_flatMap] at hx
  obtain⟨p,⟨q,⟨s,_,rfl⟩,hq⟩,rfl⟩:=hx
  obtain⟨cs,h1,h2,h3⟩:=hf s
  rw[h1] at hq
  exact h3 p hq
 have hpv:pvs (ba (l.map f))=some ((l.map f).flatMap PV.cells):=pvs_map _
 have hch:∀ l:List α,iH sz l.length ((l.map f).flatMap PV.cells)=l.map f:=by
  intro l
  induction l with
  | nil=>rfl
  | cons x r ih=>
    obtain⟨cs,h1,h2,_⟩:=hf x
    simp only[List.length_cons,iH,List.map_cons,List.flatMap_cons,h1,ae]
    rw[if_neg (by omega),List.take_left' h2,List.drop_left' h2,ih]
 simp only[Jk]
 rw[if_pos ⟨by omega,by omega,by rw[List.take_of_length_le (by omega)];exact hone⟩,List.take_of_length_le (by omega),hpv]
 simp[hch]
theorem GY (p:PV):(AV.pv p).names=[]:=_root_.id rfl
theorem B2 (r o:Nat):(AV.ptr r o).names=[r]:=_root_.id rfl
theorem B1 (r a b c:Nat):(AV.row r a b c).names=[r]:=_root_.id rfl
theorem GZ (r a:Nat)(l:List PV):(AV.olist r a l).names=[r]:=_root_.id rfl
theorem B6 (cs:List AV):(AV.agg cs).names=AV.namesL cs:=by simp only[AV.names]
theorem B0 (cs:List AV):(AV.tup cs).names=AV.namesL cs:=by simp only[AV.names]
theorem B4 (f:Nat)(fs cs:List AV):(AV.clo f fs cs).names=AV.namesL fs++AV.namesL cs:=by simp only[AV.names]
theorem B5:AV.any.names=[]:=_root_.id rfl
theorem wq:AV.namesL []=[]:=_root_.id rfl
theorem kh (x:AV)(r:List AV):AV.namesL (x::r)=x.names++AV.namesL r:=by simp only[AV.namesL]
theorem kg:∀ l:List PV,AV.namesL (l.map .pv)=[]
 | []=>rfl
 | x::r=>by rw[List.map_cons,kh,kg r];rfl
theorem rC (l:List PV):AV.namesL (ba l)=[]:=kg _
theorem oV (T:Nat)(f:Bool)(l:List AV):(Blk.cells T f l).names=AV.namesL l:=_root_.id rfl
theorem wu (e s:Nat):(Blk.tok e s).names=[]:=_root_.id rfl
theorem rE:Blk.none.names=[]:=_root_.id rfl
theorem Iu (acc:List Nat):bt acc []=acc:=_root_.id rfl
def MW (acc:List Nat)(n:Nat):Bool->List Nat
 | true=>acc
 | false=>acc++[n]
theorem iZ (x:Nat):∀ l:List Nat,l.contains x=tI x l
 | []=>rfl
 | y::r=>by
   rw[List.contains_cons,iZ x r,o7]
   by_cases h:y=x
   ·simp[h]
   ·have h':¬ x=y:=fun e=>h e.symm
    simp[h,h']
theorem Ev (acc:List Nat)(n:Nat)(r:List Nat):bt acc (n::r)=bt (MW acc n (tI n acc)) r:=by
 simp only[bt,iZ]
 cases tI n acc<;>rfl
theorem MU (acc:List Nat)(n:Nat):MW acc n true=acc:=_root_.id rfl
theorem MV (acc:List Nat)(n:Nat):MW acc n false=acc++[n]:=_root_.id rfl
def geN (m0:Nat):List Nat->List Nat
 | []=>[]
 | x::r=>if m0<=x then x::geN m0 r else geN m0 r
theorem L0 (m0:Nat):geN m0 []=[]:=_root_.id rfl
theorem tT (m0 x:Nat)(r:List Nat):geN m0 (x::r)=if m0<=x then x::geN m0 r else geN m0 r:=_root_.id rfl
theorem CQ (m0:Nat):∀ l:List Nat,l.filter (fun r=>decide (m0<=r))=geN m0 l
 | []=>rfl
 | x::r=>by rw[List.filter_cons,CQ m0 r,tT];simp
def du (sto:List (Nat×Blk)):List Nat->List Nat
 | []=>[]
 | r::q=>(lookB r sto).names++du sto q
theorem pV (sto:List (Nat×Blk)):du sto []=[]:=_root_.id rfl
theorem gO (sto:List (Nat×Blk))(r:Nat)(q:List Nat):du sto (r::q)=(lookB r sto).names++du sto q:=_root_.id rfl
theorem f0 (sto:List (Nat×Blk)):∀ l:List Nat,(l.flatMap fun r=>(lookB r sto).names)=du sto l
 | []=>rfl
 | r::q=>by rw[List.flatMap_cons,f0 sto q,gO]
theorem KX (m0:Nat)(sto:List (Nat×Blk))(acc:List Nat):fK m0 sto 0 acc=acc:=_root_.id rfl
theorem KW (m0:Nat)(sto:List (Nat×Blk))(k:Nat)(acc:List Nat):fK m0 sto (k+1) acc=fK m0 sto k (bt acc (geN m0 (du sto acc))):=by
 rw[<- CQ,<- f0];rfl
def eq (e:List (Nat×AV)):List Nat->List Nat
 | []=>[]
 | k::r=>(look k e).names++eq e r
theorem pE (e:List (Nat×AV)):eq e []=[]:=_root_.id rfl
theorem nB (e:List (Nat×AV))(k:Nat)(r:List Nat):eq e (k::r)=(look k e).names++eq e r:=_root_.id rfl
theorem kN (e:List (Nat×AV))(σ:List (Nat×Blk))(n:Nat):∀ l:List Nat,(l.flatMap fun i=>((⟨e,σ,n⟩:St).E i).names)=eq e l
 | []=>rfl
 | k::r=>by rw[List.flatMap_cons,kN e σ n r];rfl
def Az:Nat->Nat->List Nat
 | 0,_=>[]
 | n+1,k=>k::Az n (k+1)
theorem RH (k:Nat):Az 0 k=[]:=_root_.id rfl
theorem Om (n k:Nat):Az (n+1) k=k::Az n (k+1):=_root_.id rfl
theorem Ay:∀ n k:Nat,Az n k=List.range' k n
 | 0,k=>rfl
 | n+1,k=>by rw[Om,Ay n,List.range'_succ]
theorem I0 (n:Nat):List.range n=Az n 0:=by rw[Ay,List.range_eq_range']
theorem Lm (m0:Nat)(keep:List Nat)(e:List (Nat×AV))(σ:List (Nat×Blk))(n:Nat):OL m0 keep ⟨e,σ,n⟩=fK m0 σ σ.length (bt [] (geN m0 (eq e keep++du σ (Az m0 0)))):=by
 rw[<- CQ,<- kN e σ n,<- f0,<- I0];rfl
def oU (f:Nat->Option Nat)(e:List (Nat×AV)):List Nat->List (Nat×AV)
 | []=>[]
 | k::r=>(k,(look k e).ren f)::oU f e r
theorem BT (f:Nat->Option Nat)(e:List (Nat×AV)):oU f e []=[]:=_root_.id rfl
theorem wm (f:Nat->Option Nat)(e:List (Nat×AV))(k:Nat)(r:List Nat):oU f e (k::r)=(k,(look k e).ren f)::oU f e r:=_root_.id rfl
def BS (m0:Nat)(keep:List Nat)(e:List (Nat×AV))(σ:List (Nat×Blk))(os:List Nat):St:=⟨oU (dy m0 os) e keep,eF m0 (dy m0 os) σ (Az m0 0++os) 0,m0+os.length⟩
theorem Ls (m0:Nat)(keep:List Nat)(e:List (Nat×AV))(σ:List (Nat×Blk))(n:Nat):norm m0 keep ⟨e,σ,n⟩=BS m0 keep e σ (fK m0 σ σ.length (bt [] (geN m0 (eq e keep++du σ (Az m0 0))))):=by
 rw[<- Lm m0 keep e σ n]
 have hE:∀ (f:Nat->Option Nat) (l:List Nat),(l.map fun i=>(i,((⟨e,σ,n⟩:St).E i).ren f))=oU f e l:=by
  intro f l
  induction l with
  | nil=>rfl
  | cons k r ih=>rw[List.map_cons,ih];rfl
 simp only[norm,BS,hE,I0]
theorem Lu (m0:Nat)(keep:List Nat)(e:List (Nat×AV))(σ:List (Nat×Blk))(x:Nat)(r:List Nat):BS m0 keep e σ (x::r)=⟨oU (dy m0 (x::r)) e keep,eF m0 (dy m0 (x::r)) σ (Az m0 0++(x::r)) 0,m0+(x::r).length⟩:=_root_.id rfl
theorem Lt (m0:Nat)(keep:List Nat)(e:List (Nat×AV))(σ:List (Nat×Blk)):BS m0 keep e σ []=⟨oU (dy m0 []) e keep,eF m0 (dy m0 []) σ (Az m0 0) 0,m0⟩:=by
 simp only[BS,List.append_nil];rfl
theorem vB (m0:Nat)(f:Nat->Option Nat)(σ:List (Nat×Blk))(k:Nat):eF m0 f σ [] k=[]:=_root_.id rfl
theorem qO (m0:Nat)(f:Nat->Option Nat)(σ:List (Nat×Blk))(r:Nat)(q:List Nat)(k:Nat):eF m0 f σ (r::q) k=(k,(lookB r σ).ren f)::eF m0 f σ q (k+1):=_root_.id rfl
theorem wp (m0:Nat)(os:List Nat)(r:Nat):dy m0 os r=if r<m0 then some r else Hu r os m0:=_root_.id rfl
theorem Ht (x k:Nat):Hu x [] k=none:=_root_.id rfl
theorem CF (x y:Nat)(r:List Nat)(k:Nat):Hu x (y::r) k=if y=x then some k else Hu x r (k+1):=_root_.id rfl
def RJ (o:Nat):Option Nat->AV
 | some q=>.ptr q o
 | none=>.any
def RI (a b c:Nat):Option Nat->AV
 | some q=>.row q a b c
 | none=>.any
def RK (a:Nat)(l:List PV):Option Nat->AV
 | some q=>.olist q a l
 | none=>.pv (.list l)
theorem I2 (f:Nat->Option Nat)(p:PV):(AV.pv p).ren f = .pv p:=by simp only[AV.ren]
theorem KT (f:Nat->Option Nat):AV.any.ren f = .any:=by simp only[AV.ren]
theorem KR (f:Nat->Option Nat)(r o:Nat):(AV.ptr r o).ren f=RJ o (f r):=by simp only[AV.ren,RJ]<;>(cases f r<;>rfl)
theorem KQ (f:Nat->Option Nat)(r a b c:Nat):(AV.row r a b c).ren f=RI a b c (f r):=by simp only[AV.ren,RI]<;>(cases f r<;>rfl)
theorem Ow (f:Nat->Option Nat)(r a:Nat)(l:List PV):(AV.olist r a l).ren f=RK a l (f r):=by simp only[AV.ren,RK]<;>(cases f r<;>rfl)
theorem KU (f:Nat->Option Nat)(cs:List AV):(AV.agg cs).ren f = .agg (AV.renL f cs):=by simp only[AV.ren]
theorem KP (f:Nat->Option Nat)(cs:List AV):(AV.tup cs).ren f = .tup (AV.renL f cs):=by simp only[AV.ren]
theorem KS (f:Nat->Option Nat)(g:Nat)(fs cs:List AV):(AV.clo g fs cs).ren f = .clo g (AV.renL f fs) (AV.renL f cs):=by simp only[AV.ren]
theorem AF (o q:Nat):RJ o (some q) = .ptr q o:=_root_.id rfl
theorem AE (a b c q:Nat):RI a b c (some q) = .row q a b c:=_root_.id rfl
theorem AG (a:Nat)(l:List PV)(q:Nat):RK a l (some q) = .olist q a l:=_root_.id rfl
theorem FT (f:Nat->Option Nat):AV.renL f []=[]:=_root_.id rfl
theorem ou (f:Nat->Option Nat)(x:AV)(r:List AV):AV.renL f (x::r)=x.ren f::AV.renL f r:=by simp only[AV.renL]
theorem qP (f:Nat->Option Nat):∀ l:List PV,AV.renL f (l.map .pv)=l.map .pv
 | []=>rfl
 | x::r=>by rw[List.map_cons,ou,qP f r,I2]
theorem AH (f:Nat->Option Nat)(l:List PV):AV.renL f (ba l)=ba l:=qP f _
theorem vC (f:Nat->Option Nat)(T:Nat)(b:Bool)(l:List AV):(Blk.cells T b l).ren f = .cells T b (AV.renL f l):=_root_.id rfl
theorem FU (f:Nat->Option Nat)(e s:Nat):(Blk.tok e s).ren f = .tok e s:=_root_.id rfl
theorem AI (f:Nat->Option Nat):Blk.none.ren f = .none:=_root_.id rfl
theorem GL (A:List (Nat×Nat×Nat×Nat))(m0:Nat)(keep:List Nat)(s:St):en A m0 keep s=norm m0 keep (Iw A s):=_root_.id rfl
theorem Iv (s:St):Iw [] s=s:=_root_.id rfl
theorem Ex (k e sz:Nat)(r:List (Nat×Nat×Nat×Nat))(env:List (Nat×AV))(σ:List (Nat×Blk))(n:Nat):Iw ((k,0,e,sz)::r) ⟨env,σ,n⟩=Iw r (MZ k e sz ⟨env,σ,n⟩ (look k env)):=_root_.id rfl
theorem Ey (k j e sz:Nat)(r:List (Nat×Nat×Nat×Nat))(env:List (Nat×AV))(σ:List (Nat×Blk))(n:Nat):Iw ((k,j+1,e,sz)::r) ⟨env,σ,n⟩=Iw r (accP j e sz ⟨env,σ,n⟩ (look k env)):=_root_.id rfl
theorem EB (k e sz:Nat)(env:List (Nat×AV))(σ:List (Nat×Blk))(n:Nat):MZ k e sz ⟨env,σ,n⟩ (.pv .nils)=⟨(k,ir n e sz)::env,(n,cz e sz)::σ,n+1⟩:=_root_.id rfl
theorem IA (k e sz r a b c:Nat)(s:St):MZ k e sz s (.row r a b c)=s:=_root_.id rfl
theorem Lw {n e sz:Nat}(h:e<1000000):ir n e sz = .olist n sz []:=if_pos h
theorem Lv {n e sz:Nat}(h:1000000<=e):ir n e sz = .row n sz 0 0:=if_neg (Nat.not_lt.2 h)
theorem GO {e sz:Nat}(h:e<1000000):cz e sz = .tok e sz:=if_pos h
theorem GN {e sz:Nat}(h:1000000<=e):cz e sz = .cells (e - 1000000) false []:=if_neg (Nat.not_lt.2 h)
theorem MY (k e sz r a:Nat)(l:List PV)(s:St):MZ k e sz s (.olist r a l)=s:=_root_.id rfl
theorem Iy (o e sz r b:Nat)(env:List (Nat×AV))(σ:List (Nat×Blk))(n:Nat):accP o e sz ⟨env,σ,n⟩ (.ptr r b)=accB r (b+o) e sz ⟨env,σ,n⟩ (lookB r σ):=_root_.id rfl
theorem ym (r o e sz T:Nat)(f:Bool)(l:List AV)(s:St):accB r o e sz s (.cells T f l)=Np r T f l o e sz s l[o]?:=_root_.id rfl
theorem EA (r T:Nat)(f:Bool)(l:List AV)(o e sz:Nat)(env:List (Nat×AV))(σ:List (Nat×Blk))(n:Nat):Np r T f l o e sz ⟨env,σ,n⟩ (some (.pv .nils))=⟨env,(r,.cells T f (l.set o (ir n e sz)))::(n,cz e sz)::σ,n+1⟩:=_root_.id rfl
theorem Iz (r T:Nat)(f:Bool)(l:List AV)(o e sz:Nat)(s:St)(q a b c:Nat):Np r T f l o e sz s (some (.row q a b c))=s:=_root_.id rfl
theorem MX (r T:Nat)(f:Bool)(l:List AV)(o e sz:Nat)(s:St)(q a:Nat)(k:List PV):Np r T f l o e sz s (some (.olist q a k))=s:=_root_.id rfl
theorem TU {α:Type}(x y:α)(r:List α):(x::r).set 0 y=y::r:=_root_.id rfl
theorem TT {α:Type}(x y:α)(r:List α)(n:Nat):(x::r).set (n+1) y=x::r.set n y:=_root_.id rfl
theorem Rv (e e':List (Nat×AV))(σ σ':List (Nat×Blk))(n n':Nat):(St.mk e σ n=St.mk e' σ' n')=(e=e'/\σ=σ'/\n=n'):=by rw[St.mk.injEq]
theorem PD {a b:Nat}(h:a<b):decide (a<b)=true:=decide_eq_true h
theorem PE {a b:Nat}(h:¬ a<b):decide (a<b)=false:=decide_eq_false h
theorem PF {a b:Nat}(h:a<=b):decide (a<=b)=true:=decide_eq_true h
theorem PG {a b:Nat}(h:¬ a<=b):decide (a<=b)=false:=decide_eq_false h
theorem PH {a b:Nat}(h:a=b):decide (a=b)=true:=decide_eq_true h
theorem PI {a b:Nat}(h:¬ a=b):decide (a=b)=false:=decide_eq_false h
theorem aH {α:Type}{l:List α}{m:Nat}{x:α}(h:l[m]? = some x):l.take (m+1)=l.take m++[x]:=by
 obtain⟨h1,h2⟩:=List.getElem?_eq_some_iff.1 h
 rw[List.take_succ_eq_append_getElem h1,h2]
def Pi (cells:List AV)(off sz:Nat)(r:List (Nat×Nat×AV))(xc:List AV):Bool->Option (List AV)
 | true=>fZ (cells.take off++xc++cells.drop (off+sz)) r
 | false=>none
theorem Mg (cells:List AV)(off sz:Nat)(r:List (Nat×Nat×AV))(xc:List AV):Pi cells off sz r xc true=fZ (cells.take off++xc++cells.drop (off+sz)) r:=_root_.id rfl
theorem C9 (cells:List AV):fZ cells []=some cells:=_root_.id rfl
theorem xa (cells:List AV)(off sz:Nat)(x:AV)(r:List (Nat×Nat×AV)):fZ cells ((off,sz,x)::r)=Pi cells off sz r x.cells (x.known&&decide (x.cells.length=sz)&&decide (off+sz<=cells.length)):=by
 simp only[fZ]
 by_cases h:x.known=true/\x.cells.length=sz/\off+sz<=cells.length
 ·rw[if_pos h,h.1,decide_eq_true h.2.1,decide_eq_true h.2.2];rfl
 ·rw[if_neg h]
  have:(x.known&&decide (x.cells.length=sz)&&decide (off+sz<=cells.length))=false:=by
   rw[Bool.eq_false_iff]
   intro hh
   simp only[Bool.and_eq_true,decide_eq_true_eq] at hh
   exact h ⟨hh.1.1,hh.1.2,hh.2⟩
  rw[this];rfl
theorem GA (sz off:Nat)(cs:List AV):OG sz off cs=if off+sz<=cs.length then some (jc ((cs.drop off).take sz)) else none:=_root_.id rfl
section
variable {P:Program}{G:Nat->List PV}
def EE {ι:Type}(A:List (Nat×Nat×Nat×Nat))(S:ι->St)(Inv:ι->Prop)(μ:ι->Nat)(x:ι)(m0:Nat)(keep:List Nat)(id:Nat)(keepX:List Nat)(fin:ι->Prop)(Q:AExit->St->Prop):AExit->St->Prop
 | .norm,s'=>∃ x',Hd A m0 keep s' (S x')/\Inv x'/\μ x'<μ x
 | .exit i,s'=>if i=id then ∃ x',fin x'/\norm m0 keepX s'=norm m0 keepX (S x') else Q (.exit i) s'
 | .ret,s'=>Q .ret s'
theorem sF {ι:Type}(A:List (Nat×Nat×Nat×Nat))(S:ι->St)(Inv:ι->Prop)(μ:ι->Nat)(x:ι)(m0:Nat)(keep:List Nat)(id:Nat)(keepX:List Nat)(fin:ι->Prop)(Q:AExit->St->Prop)(s:St):EE A S Inv μ x m0 keep id keepX fin Q .norm s = ∃ x',Hd A m0 keep s (S x')/\Inv x'/\μ x'<μ x:=_root_.id rfl
theorem sG {ι:Type}(A:List (Nat×Nat×Nat×Nat))(S:ι->St)(Inv:ι->Prop)(μ:ι->Nat)(x:ι)(m0:Nat)(keep:List Nat)(id:Nat)(keepX:List Nat)(fin:ι->Prop)(Q:AExit->St->Prop)(i:Nat)(s:St):EE A S Inv μ x m0 keep id keepX fin Q (.exit i) s=if i=id then (∃ x',fin x'/\norm m0 keepX s=norm m0 keepX (S x')) else Q (.exit i) s:=_root_.id rfl
theorem yp {ι:Type}(A:List (Nat×Nat×Nat×Nat))(S:ι->St)(Inv:ι->Prop)(μ:ι->Nat)(x:ι)(m0:Nat)(keep:List Nat)(id:Nat)(keepX:List Nat)(fin:ι->Prop)(Q:AExit->St->Prop)(s:St):EE A S Inv μ x m0 keep id keepX fin Q .ret s=Q .ret s:=_root_.id rfl
end
theorem Dm (k:Nat):bE [] k=[]:=_root_.id rfl
theorem xj (b:Blk)(r:List Blk)(k:Nat):bE (b::r) k=(k,b)::bE r (k+1):=_root_.id rfl
theorem wO (sto:List (Nat×Blk))(f:Nat->Option Nat):gS sto f [] []=True:=_root_.id rfl
theorem r3 (sto:List (Nat×Blk))(f:Nat->Option Nat)(r:Nat)(rs:List Nat)(b:Blk)(bs:List Blk):gS sto f (r::rs) (b::bs)=(BlkZ (lookB r sto) (b.ren f)/\gS sto f rs bs):=_root_.id rfl
theorem GC (f:Nat->Option Nat)(i:Nat)(g:Nat->Nat):wh f [] i g=[]:=_root_.id rfl
theorem BH (f:Nat->Option Nat)(b:Blk)(r:List Blk)(i:Nat)(g:Nat->Nat):wh f (b::r) i g=(g i,b.ren f)::wh f r (i+1) g:=_root_.id rfl
theorem BU:iq []=[]:=_root_.id rfl
theorem wn (r:Nat)(q:List Nat):iq (r::q)=(r,.none)::iq q:=_root_.id rfl
theorem Pe (next:Nat)(rs:List Nat)(r:Nat):gSo next rs r=some (gIn next rs r):=_root_.id rfl
theorem L1 (next i:Nat):gIn next [] i=next+i:=_root_.id rfl
theorem R5 (next r:Nat)(q:List Nat):gIn next (r::q) 0=r:=_root_.id rfl
theorem R4 (next r i:Nat)(q:List Nat):gIn next (r::q) (i+1)=gIn next q i:=_root_.id rfl
def pF (s sz off len:Nat):Blk->Option (List PV)
 | .cells _ _ l=>if s=1/\sz=1/\off+len<=l.length/\((l.drop off).take len).all AV.one=true then pvs ((l.drop off).take len) else none
 | _=>none
theorem sm (σ:ap)(sz r s off len:Nat):aZ σ sz (.row r s off len)=pF s sz off len (σ r):=by
 simp only[aZ,pF]
 cases σ r<;>rfl
theorem k8 (k:IntKind)(l:List Int):(l.map (PV.int k)).all PV.one=true:=by
 rw[List.all_eq_true];intro x hx;obtain⟨n,_,rfl⟩:=List.mem_map.1 hx;rfl
theorem Dt {T:Nat}{f:Bool}{l:List PV}{n:Nat}(h:n<=l.length)(h1:l.all PV.one=true):pF 1 1 0 n (.cells T f (l.map .pv))=some (l.take n):=by
 have h2:(((l.map AV.pv).drop 0).take n)=(l.take n).map .pv:=by rw[List.drop_zero,List.map_take]
 have h3:((l.take n).map AV.pv).all AV.one=true:=by
  rw[List.all_eq_true] at h1 ⊢
  intro x hx
  obtain⟨y,hy,rfl⟩:=List.mem_map.1 hx
  exact h1 y (List.mem_of_mem_take hy)
 have h4:∀ k:List PV,pvs (k.map .pv)=some k:=by
  intro k
  induction k with
  | nil=>rfl
  | cons a r ih=>simp[pvs,AV.toPV,ih]
 simp only[pF]
 rw[if_pos (by refine⟨trivial,trivial,by simp;omega,by rw[h2];exact h3⟩),h2,h4]
theorem xr {T:Nat}{f:Bool}{k:IntKind}{p:List Int}{n:Nat}(h:n=p.length):pF 1 1 0 n (.cells T f ((p.map (PV.int k)).map .pv))=some (p.map (PV.int k)):=by
 rw[Dt (by simp;omega) (k8 k p),List.take_of_length_le (by simp;omega)]
theorem mS {sz r off n:Nat}{k:IntKind}{h:Int}(h0:0<=h)(h1:h<=n)(hs:0<sz):ee sz (.row r sz off n) none (some (.pv (.int k h)))=some (.row r sz off h.toNat):=by
 simp[ee,aW,h0,h1,hs]
theorem Fj (n:Nat):((n:Int)+1).toNat=n+1:=by omega
theorem It (n:Int):n+1 - 1=n:=by omega
def Ng:List Nat->List Nat->List Nat
 | [],a=>a
 | x::r,a=>Ng r (x::a)
theorem FP (a:List Nat):Ng [] a=a:=_root_.id rfl
theorem oq (x:Nat)(r a:List Nat):Ng (x::r) a=Ng r (x::a):=_root_.id rfl
theorem AA:∀ (l a:List Nat),l.reverse++a=Ng l a
 | [],a=>rfl
 | x::r,a=>by rw[oq,<- AA r (x::a)];simp
theorem Cu (l:List (Nat×Blk)):aR l.reverse=Ng (aR l) []:=by
 rw[<- AA,List.append_nil];simp[aR]
theorem FO (ks rs:List Nat):eU 2 ks rs=(0::ks.map (· + 1),rs.map (· + 1)):=by simp[eU]
theorem aM (A:List (Nat×Nat×Nat×Nat)){k:Nat}{v v':AV}{bs':List Blk}{sto':List (Nat×Blk)}{next':Nat}(h:StZ (en A k [0] ⟨[(0,v')],sto',next'⟩) ⟨[(0,v)],bE bs' 0,bs'.length⟩):LN k v bs' v' sto' next':=Wk.head h
theorem ab.nilB (r o e sz:Nat){P:Program}{G:Nat->List PV}{f:Nat}{args:List AV}{s:St}{K:AV->St->Prop}(he:(accB r o e sz s (lookB r s.sto)).env=s.env)(h:ab P G f args (accB r o e sz s (lookB r s.sto)) K):ab P G f args s K:=
 ab.weak (WkC.of (y9 r o e sz s) he args) h
section
variable {P:Program}{G:Nat->List PV}
theorem EI (F:St->Prop)(s:St):TH F .norm s=F s:=_root_.id rfl
theorem Ic (b:ACode)(Q:AExit->St->Prop)(e:List (Nat×AV))(σ:List (Nat×Blk))(n:Nat):ML (fun m=>vc P G m b) Q ⟨e,σ,n⟩=vc P G n b Q ⟨e,σ,n⟩:=_root_.id rfl
theorem Gs (e:List (Nat×AV)):Gt [] [] e=e:=_root_.id rfl
theorem Br (p:Nat)(ps:List Nat)(x:PV)(xs:List PV)(e:List (Nat×AV)):Gt (p::ps) (x::xs) e=Gt ps xs ((p,.pv x)::e):=_root_.id rfl
def Q6 {ι:Type}(A:List (Nat×Nat×Nat×Nat))(S:ι->St)(Inv:Nat->ι->Prop)(i m0:Nat)(keep:List Nat)(Q:AExit->St->Prop)(e0:List (Nat×AV)):AExit->St->Prop
 | .norm,s'=>∃ x',Hd A m0 keep ⟨e0,s'.sto,s'.next⟩ (S x')/\Inv (i+1) x'
 | .exit j,s'=>Q (.exit j) ⟨e0,s'.sto,s'.next⟩
 | .ret,s'=>Q .ret ⟨e0,s'.sto,s'.next⟩
theorem EF {ι:Type}(A:List (Nat×Nat×Nat×Nat))(S:ι->St)(Inv:Nat->ι->Prop)(i m0:Nat)(keep:List Nat)(Q:AExit->St->Prop)(e0 e:List (Nat×AV))(σ:List (Nat×Blk))(n:Nat):Q6 A S Inv i m0 keep Q e0 .norm ⟨e,σ,n⟩ = ∃ x',Hd A m0 keep ⟨e0,σ,n⟩ (S x')/\Inv (i+1) x':=_root_.id rfl
theorem EG {ι:Type}(A:List (Nat×Nat×Nat×Nat))(S:ι->St)(Inv:Nat->ι->Prop)(i m0:Nat)(keep:List Nat)(Q:AExit->St->Prop)(e0:List (Nat×AV))(j:Nat)(e:List (Nat×AV))(σ:List (Nat×Blk))(n:Nat):Q6 A S Inv i m0 keep Q e0 (.exit j) ⟨e,σ,n⟩=Q (.exit j) ⟨e0,σ,n⟩:=_root_.id rfl
theorem IC {ι:Type}(A:List (Nat×Nat×Nat×Nat))(S:ι->St)(Inv:Nat->ι->Prop)(i m0:Nat)(keep:List Nat)(Q:AExit->St->Prop)(e0 e:List (Nat×AV))(σ:List (Nat×Blk))(n:Nat):Q6 A S Inv i m0 keep Q e0 .ret ⟨e,σ,n⟩=Q .ret ⟨e0,σ,n⟩:=_root_.id rfl
theorem Pc:∀ (lb:List PV),pvs (lb.map AV.pv)=some lb
 | []=>rfl
 | p::r=>by simp[pvs,AV.toPV,Pc r]
theorem sQ {ι:Type}(A:List (Nat×Nat×Nat×Nat))(ch:ι->List (Nat×AV))(chB:ι->List (Nat×Blk))(Inv:Nat->ι->Prop)(x0:ι){gf:Nat}{lb:List PV}{xs:List (List PV)}(hs:Nq P G gf lb xs)
  {m0:Nat} {f:AX} {ps keep:List Nat} {a b:ACode} {Q:AExit->St->Prop} {s:St}
  (h:∀ e0 σ0 n0,en A m0 keep s=⟨e0,σ0,n0⟩->StZ ⟨e0,σ0,n0⟩ ⟨fV e0 (ch x0),ij σ0 (chB x0),n0⟩/\Inv 0 x0/\df (f.ev (fun i=>look i (fV e0 (ch x0))))=some (gf,[],lb.map AV.pv) /\
   (∀ i x y,xs[i]? = some y->Inv i x->y.length=ps.length/\vc P G n0 a (TH (ML (fun m=>vc P G m b) (Q6 A (fun x=>⟨fV e0 (ch x),ij σ0 (chB x),n0⟩) Inv i m0 keep Q (fV e0 (ch x))))) ⟨Gt ps y (fV e0 (ch x)),ij σ0 (chB x),n0⟩) /\
   ∀ x,Inv xs.length x->Q .norm ⟨fV e0 (ch x),ij σ0 (chB x),n0⟩):vc P G m0 (.range f ps keep a b) Q s:=by
 obtain⟨h1,h2,h3,h4,h5⟩:=h (en A m0 keep s).env (en A m0 keep s).sto (en A m0 keep s).next rfl
 let S:ι->St:=fun x=>⟨fV (en A m0 keep s).env (ch x),ij (en A m0 keep s).sto (chB x),(en A m0 keep s).next⟩
 refine⟨fun i t=>∃ x,t=S x/\Inv i x,S x0,aV h1,⟨x0,rfl,h2⟩,?_⟩
 have e:df (f.ev (S x0).E)=some (gf,[],lb.map AV.pv):=h3
 rw[e]
 refine⟨rfl,lb,xs,Pc lb,hs,?_,?_⟩
 ·rintro i y t hy ⟨x,rfl,hx⟩
  obtain⟨k1,k2⟩:=h4 i x y hy hx
  refine⟨k1,cu a (fun e s hs=>?_) _ k2⟩
  cases e with
  | norm=>
    refine cu b (fun e s hs=>?_) s hs
    cases e with
    | norm=>
      obtain⟨x',q1,q2⟩:=hs
      exact⟨S x',q1,x',rfl,q2⟩
    | exit j=>exact hs
    | ret=>exact hs
  | exit j=>exact hs.elim
  | ret=>exact hs.elim
 ·rintro t ⟨x,rfl,hx⟩
  exact h5 x hx
end
attribute [push_cast] mC EV JS ET EU Sc Se Sf Sg Si Sj Cj Hb wL Ck R8 Sa R9 wI wJ wK HP HQ Mj HS Mi HO Kh z8 vo vm vj vh qK vg qJ Fp Aa Ac qI qH Fs Ft K8 K9 Fo Fn Ae Fr Fq ve KY KZ vO q8 qZ A7 A8 Lc Ld oE vP qY oD vN F7 A6 A5 vM F9 q9 rc DG Ee qS Gm Gb Gf Gd Gc Gl K7 Ga re Gk Ge Gg Gh Gi Gj Bg Bf Ba Bb Bc Bd Be Bl Gp Bj Bi Bk vR Gn Bh F4 A0 A9 F0 A3 A2 A1 F3 K4 K5 BN wA rP T3 T2 La Bp Bq vV mU J8 uX Fg Ff Fi Fe Fh LB rN rO Lz rI rJ LA rK rL oY DX xZ xV xX xW pP xY ae xU DV DT xO xR xP xQ DW xT xS rZ wM A4 vL vK LK LJ uS uR wF Qk G8 x8 Ce Hi Cs Co Cq Cp r4 Cr Cc wE rV rW LE K1 vF oh Fz eW E4 zE H2 H3 Lk GR GQ GU GT GW GV H8 zq uV zh zj zg qx Dy xx sn oI oJ GM Gq Px Py Dx FC FB FE FD Oj Oi Oh rR pc o9 pg wC rT m5 m6 Cb JY E0 zr xy sq pG Mq Cf ph rX wG rY pj pi m9 m8 Lx G1 G0 ww Cv wS Mr xw DK xL DL xN Mx My G7 OT GK EC ED IB sL sM yy JU NQ JW Mp NO JX EZ JV NP GH RX RY FQ AC II M7 KO Oo Oq On xI AB vA Gu O7 Cy CA LS LR CD wV wU sJ sK yr Bw vX BF wc Bx vZ BG we ry Lo OP OM Lp OO ON Lq GI F5 F6 uY qF od z7 map_take map_drop BO vU Qv Ip Io In MP nH yg xo xp xq sl SB Qi Eb Ec Qh fu io il GD ft Lj GF GE wi GG oA mT rx wk lX wj Is Qw Qp LI Hf CB Pk Pl HD HF L4 L5 HE L7 L8 HI HG CR CS L6 GY B2 B1 GZ B6 B0 B4 B5 wq kh kg rC oV wu rE Iu Ev MU MV L0 tT pV gO KX KW pE nB RH Om BT wm Ls Lu Lt vB qO wp Ht CF I2 KT KR KQ Ow KU KP KS AF AE AG FT ou qP AH vC FU AI GL Iv Ex Ey EB IA Lw Lv GO GN MY Iy ym EA Iz MX TU TT Rv PD PE PF PG PH PI Mg C9 xa GA sF sG yp Ie Qs If Ij Em HU Dl Ef Ql Qn Qm Ih Ek Ej Ii El Fy Aj NY Dm xj wO r3 GC BH BU wn Pe L1 R5 R4 sm k8 xr mS Fj It FP oq Cu FO Nat.zero_add Nat.add_zero List.length_cons List.length_nil List.nil_append List.cons_append List.append_nil List.append_assoc List.getElem?_map List.length_map List.map_nil List.map_cons List.take_succ_cons List.take_zero List.drop_succ_cons List.drop_zero List.take_nil List.drop_nil List.all_cons List.all_nil Bool.and_true Bool.true_and Bool.and_false Bool.false_and Bool.not_true Bool.not_false decide_true decide_false Bool.not_not Int.natCast_add Int.cast_ofNat_Int Int.toNat_natCast Option.some.injEq and_true true_and ge_iff_le Nat.le_refl Nat.zero_le Nat.not_lt_zero and_self
attribute [push_cast] EI Ic Gs Br EF EG IC
attribute [push_cast high] Int.cast_ofNat_Int
def w8:List AV->List AV
 | []=>[]
 | x::r=>x.cells++w8 r
theorem C3:w8 []=[]:=_root_.id rfl
theorem wZ (x:AV)(r:List AV):w8 (x::r)=x.cells++w8 r:=_root_.id rfl
theorem ua:∀ l:List AV,l.flatMap AV.cells=w8 l
 | []=>rfl
 | x::r=>by rw[List.flatMap_cons,ua r];rfl
section
variable {P:Program}{G:Nat->List PV}
theorem PS {b:Bool}(h:b=true):Chk b:=h
theorem SA {e sz len new:Nat}{vs:List AV}(h:Chk (decide (vs.length=len)&&decide (len<=9223372036854775807)&&vs.all (fun v=>v.known&&v.cells.length == sz&&v.cells.all AV.one))):cW true e sz len new vs=some (.row new sz 0 len,[(new,.cells e true (w8 vs))]):=by
 have h':=h
 simp only[Chk,Bool.and_eq_true,decide_eq_true_eq] at h'
 obtain⟨⟨h1,h2⟩,h3⟩:=h'
 simp only[cW]
 rw[if_pos ⟨h1,h2⟩,if_pos h3,ua]
theorem oF:∀ l:List PV,pvs (l.map .pv)=some l
 | []=>rfl
 | x::r=>by simp[pvs,AV.toPV,oF r]
end
attribute [push_cast] SA C3 wZ
section
variable {α β:Type}
def JG (p:Nat->Bool):Nat->Bool
 | 0=>true
 | n+1=>JG p n&&p n
theorem jx {p:Nat->Bool}:∀ {n:Nat},JG p n=true↔∀ k,k<n->p k=true
 | 0=>by simp[JG]
 | n+1=>by
   rw[JG,Bool.and_eq_true,jx]
   constructor
   ·rintro⟨h1,h2⟩ k hk
    rcases Nat.lt_succ_iff_lt_or_eq.1 hk with h | h
    ·exact h1 k h
    ·rw[h];exact h2
   ·exact fun h=>⟨fun k hk=>h k (by omega),h n (by omega)⟩
theorem b9 {l:List α}{m:Nat}{x:α}(h:l[m]? = some x):l.drop m=x::l.drop (m+1):=by
 obtain⟨h1,h2⟩:=List.getElem?_eq_some_iff.1 h
 rw[List.drop_eq_getElem_cons h1,h2]
theorem HV {l:List α}{m:Nat}(h:¬ m<l.length):l.drop m=[]:=List.drop_eq_nil_of_le (by omega)
theorem s7 {l:List α}{m:Nat}(h:¬ m<l.length):l.take m=l:=List.take_of_length_le (by omega)
def dF (p:α->Bool):List α->Nat->Int
 | [],_=>-1
 | x::r,m=>if p x=true then (m:Int) else dF p r (m+1)
theorem dA {l:List α}{m:Nat}{x:α}{p:α->Bool}(h:l[m]? = some x)(hp:p x=true):dF p (l.drop m) m=m:=by
 rw[b9 h,dF,if_pos hp]
theorem ci {l:List α}{m:Nat}{x:α}{p:α->Bool}(h:l[m]? = some x)(hp:p x=false):dF p (l.drop m) m=dF p (l.drop (m+1)) (m+1):=by
 rw[b9 h,dF,if_neg (by rw[hp];simp)]
theorem dB {l:List α}{m:Nat}{p:α->Bool}(h:¬ m<l.length):dF p (l.drop m) m = -1:=by rw[HV h];rfl
theorem bA {p:α->Bool}:∀ (l:List α) (m:Nat),(l.find? p=none/\dF p l m = -1)\/∃ (k:Nat) (x:α),l[k]? = some x/\l.find? p=some x/\dF p l m=((m+k:Nat):Int)
 | [],m=>.inl ⟨rfl,rfl⟩
 | x::r,m=>by
   cases hx:p x with
   | true=>exact .inr ⟨0,x,rfl,by rw[List.find?_cons,hx],by rw[dF,if_pos hx];rfl⟩
   | false=>
     rw[List.find?_cons,hx,dF,if_neg (by rw[hx];simp)]
     rcases bA r (m+1) with ⟨h1,h2⟩ | ⟨k,y,h1,h2,h3⟩
     ·exact .inl ⟨h1,h2⟩
     ·exact .inr ⟨k+1,y,by simpa using h1,h2,by rw[h3];congr 1;omega⟩
theorem dr {p:α->Bool}(l:List α):(l.find? p).isSome=l.any p:=by
 induction l with
 | nil=>rfl
 | cons x r ih=>rw[List.find?_cons,List.any_cons];cases p x<;>simp[ih]
def OK:Option (List UInt8)->Option AV
 | some l=>some (.pv (.str l))
 | none=>none
def Jz (n:Int):Option (List UInt8)->Option (List UInt8)
 | some l=>some (UInt8.ofNat n.toNat::l)
 | none=>none
theorem BL (l:List UInt8):OK (some l)=some (.pv (.str l)):=_root_.id rfl
theorem kU (n:Int)(l:List UInt8):Jz n (some l)=some (UInt8.ofNat n.toNat::l):=_root_.id rfl
theorem J4:u8s []=some []:=_root_.id rfl
theorem sV (n:Int)(r:List PV):u8s (.int .u8 n::r)=Jz n (u8s r):=by
 simp only[u8s];cases u8s r<;>rfl
theorem f9:∀ l:List UInt8,u8s (l.map fun b=>PV.int .u8 (b.toNat:Int))=some l
 | []=>rfl
 | b::r=>by rw[List.map_cons,sV,f9 r,kU];simp
theorem Fd (σ:ap)(r:Nat)(l:List PV):eG σ (.olist r 1 l)=OK (u8s l):=by
 simp only[eG,aZ,if_true];cases u8s l<;>rfl
theorem uW (σ:ap):eG σ (.pv .nils)=some (.pv (.str [])):=_root_.id rfl
theorem Fc (σ:ap)(l:List PV):eG σ (.pv (.list l))=OK (u8s l):=by
 simp only[eG,aZ]
 cases h:u8s l with
 | none=>by_cases hh:(l.all (fun y=>y.cells.length == 1))=true<;>simp[hh,h,OK]
 | some s=>
   obtain⟨ns,rfl,rfl⟩:=mH h
   rw[if_pos (by simp[PV.cells])]
   simp[h,OK]
end
theorem wD (G:Nat->List PV)(e:List (Nat×AV))(σ:List (Nat×Blk))(new:Nat)(x:AX):m7 G e σ new (.toStr x)=gV [] (eG (fun r=>lookB r σ) (evE e x)):=by
 simp only[m7];cases eG (fun r=>lookB r σ) (evE e x)<;>rfl
theorem eS {a b:Int}(h:0<=a):a.tdiv b=a / b:=Int.tdiv_eq_ediv_of_nonneg h
theorem eD {a b:Int}(h:0<=a):a.tmod b=a % b:=Int.tmod_eq_emod_of_nonneg h
def Ia:Option UInt8->Option AV
 | some b=>some (.pv (.int .u8 (b.toNat:Int)))
 | none=>none
theorem aG (b:UInt8):Ia (some b)=some (.pv (.int .u8 (b.toNat:Int))):=_root_.id rfl
theorem ib (l:List UInt8)(k:IntKind)(i:Nat):gu (.pv (.str l)) (.pv (.int k (i:Int)))=Ia l[i]?:=by
 simp only[gu,Int.toNat_natCast]
 rw[if_pos (by omega)]
 cases l[i]? <;> rfl
theorem qV (l:List UInt8)(k:IntKind):gu (.pv (.str l)) (.pv (.int k 0))=Ia l[0]?:=ib l k 0
theorem qW (l:List UInt8)(k:IntKind)(i:Nat):gu (.pv (.str l)) (.pv (.int k ((i:Int)+1)))=Ia l[i+1]?:=ib l k (i+1)
attribute [push_cast] aG ib qV qW wD eS eD BL kU J4 sV f9 Fd uW Fc
open Go.Sort
theorem cI {P:Program}{G:Nat->List PV}{f:Nat}{args:List PV}{r:PV}(hc:bH P f=true)
  (h:∀ (w:World) (imm:Nat->Nat->Prop) (vals:Array Value),bV G w imm->vals.size=args.length->(∀ (i:Nat) (x:PV),args[i]? = some x->PRel w imm x (vals.getD i Go.undef)) ->
   Calls P f vals w fun e w'=>∃ u,e = .returned u/\Below w.heap.size w w'/\PRel w' imm r u):ag P G f args r:=by
 refine⟨hc,fun w imm vals hG hlt hsz hargs=>(h w imm vals hG hsz hargs).mono ?_⟩
 rintro e w' ⟨u,rfl,hb,hr⟩
 exact⟨u,imm,rfl,hb,fun _ _ h=>h,fun _ _ h=>.inl h,fun b o h=>Nat.lt_of_lt_of_le (hlt b o h) hb.size,hr⟩
theorem jN {w:World}{imm:Nat->Nat->Prop}{l:List UInt8}(h:l.length<=maxLen):PRel w imm (.str l) (.string ⟨l.toArray⟩):=by
 have:=PRel.str (w:=w) (imm:=imm) ⟨l.toArray⟩ (by show l.toArray.size<=maxLen;simpa using h)
 simpa using this
theorem jM {w:World}{imm:Nat->Nat->Prop}{l:List UInt8}{v:Value}(h:PRel w imm (.str l) v):v = .string ⟨l.toArray⟩/\l.length<=maxLen:=by
 cases h with
 | str s hs=>exact⟨by simp,hs⟩
theorem zw {vals:Array Value}(h:vals.size=1):vals = #[vals.getD 0 Go.undef]:=by
 apply Array.ext
 ·simp[h]
 ·intro i h1 h2
  have:i=0:=by omega
  subst this
  simp[Array.getD_eq_getD_getElem?,h]
theorem zu {vals:Array Value}(h:vals.size=2):vals = #[vals.getD 0 Go.undef,vals.getD 1 Go.undef]:=by
 apply Array.ext
 ·simp[h]
 ·intro i h1 h2
  have:i=0\/i=1:=by omega
  rcases this with rfl | rfl<;>simp[Array.getD_eq_getD_getElem?,h]
def bg:Nat->Nat->List UInt8
 | 0,_=>[]
 | n+1,k=>if k<10 then [UInt8.ofNat (48+k)] else bg n (k / 10)++[UInt8.ofNat (48+k % 10)]
def fX (n:Int):List UInt8:=if n<0 then 45::bg 20 n.natAbs else bg 20 n.toNat
theorem kP:∀ (f k:Nat),k<10 ^ f->0<f->bg f k=Lib.decDigits k
 | 0,k,_,h=>absurd h (by simp)
 | f+1,k,hk,_=>by
   rw[bg,Lib.decDigits]
   by_cases h:k<10
   ·simp[h]
   ·rw[if_neg h,dif_neg h]
    have h10:k / 10<10 ^ f:=by
     rw[Nat.pow_succ] at hk
     exact Nat.div_lt_of_lt_mul (by rw[Nat.mul_comm];exact hk)
    rw[kP f (k / 10) h10 (by
     rcases Nat.eq_zero_or_pos f with h0 | h0
     ·subst h0
      simp at hk
      omega
     ·exact h0)]
theorem iF:∀ (f k:Nat),(bg f k).length<=f
 | 0,k=>by simp[bg]
 | f+1,k=>by
   rw[bg]
   split
   ·simp
   ·have:=iF f (k / 10)
    simp;omega
theorem tM {n:Int}(h0:-9223372036854775808<=n)(h1:n<=9223372036854775807):fX n=Lib.itoa n:=by
 have e:(10:Nat) ^ 20=100000000000000000000:=by decide
 unfold fX Lib.itoa
 split
 ·rw[kP 20 n.natAbs (by rw[e];omega) (by decide)]
 ·rw[kP 20 n.toNat (by rw[e];omega) (by decide)]
theorem pn (n:Int):(fX n).length<=21:=by
 unfold fX
 split
 ·have:=iF 20 n.natAbs
  simp;omega
 ·have:=iF 20 n.toNat
  omega
theorem Fm {P:Program}{G:Nat->List PV}{w:World}{imm:Nat->Nat->Prop}{name:String}{k:IntKind}{zs:List Int}{g:Nat}(hn:P.globalNamed name=some g)(hG:G g=zs.map (PV.int k))(hz:zs≠[])(h:bV G w imm) :
  Lib.TabIs P w name k zs:=by
 obtain⟨cs,T,fz,h1,h2⟩:=h.2 g (by rw[hG];simpa using hz)
 have hcs:cs=(zs.map fun z=>Value.int k z).toArray:=by
  rw[hG] at h2
  simp only[List.length_map] at h2
  apply Array.ext
  ·simp[h2]
  ·intro i hi hi'
   have hiz:i<zs.length:=by omega
   obtain⟨_,v,h3,_,h4⟩:=h.1 g i (.int k zs[i]) (by rw[hG];simp[hiz])
   have hv:v = .int k zs[i]:=by cases h4;rfl
   have hc:=cell_of_row w g i cs T fz h1
   rw[h3,hv] at hc
   have:=(Array.getElem?_eq_some_iff.1 hc.symm).2
   simp[this]
 unfold Lib.TabIs World.var?
 rw[hn]
 simp only[Option.bind_some,h1]
 rw[hcs]
theorem Cw {P:Program}{G:Nat->List PV}{f g:Nat}{name:String}(hc:bH P f=true)(hn:P.globalNamed name=some g)(hG:G g=Lib.pow10Tab.map (PV.int .u64))
  (h:∀ (n:Int) (h0:-9223372036854775808<=n) (h1:n<=9223372036854775807) (w:World) (htab:Lib.TabIs P w name .u64 Lib.pow10Tab),
   Calls P f #[.int .i64 n] w fun e w'=>e = .returned (.string ⟨(Lib.itoa n).toArray⟩)/\∃ k os,w'=Sort.grow (w.drewN k) os)
  (n:Int) (h0:-9223372036854775808<=n) (h1:n<=9223372036854775807):ag P G f [.int .i64 n] (.str (fX n)):=by
 refine cI hc fun w imm vals hGl hsz hargs=>?_
 have hv:=zw hsz
 have h2:=hargs 0 (.int .i64 n) rfl
 have h3:vals.getD 0 Go.undef = .int .i64 n:=by
  generalize vals.getD 0 Go.undef=x at h2
  cases h2;rfl
 rw[hv,h3]
 refine (h n h0 h1 w (Fm hn hG (by
  intro e
  have:=congrArg List.length e
  rw[Lib.pow10Tab_length] at this
  simp at this) hGl)).mono ?_
 rintro e w' ⟨rfl,k,os,rfl⟩
 refine⟨_,rfl,Lib.below_grow _ w (Nat.le_refl _) k os,?_⟩
 rw[tM h0 h1,<- tM h0 h1]
 refine jN ?_
 have:=pn n
 unfold maxLen;omega
theorem pN {P:Program}{G:Nat->List PV}{f:Nat}(hc:bH P f=true)
  (h:∀ (a b:ByteArray) (w:World),Calls P f #[.string a,.string b] w fun e w'=>e = .returned (.int .i64 (Lib.compareBytes a.data.toList b.data.toList))/\w'=w) (a b:List UInt8) :
  ag P G f [.str a,.str b] (.int .i64 (Lib.compareBytes a b)):=by
 refine cI hc fun w imm vals hGl hsz hargs=>?_
 have hv:=zu hsz
 obtain⟨ha,_⟩:=jM (hargs 0 (.str a) rfl)
 obtain⟨hb,_⟩:=jM (hargs 1 (.str b) rfl)
 rw[hv,ha,hb]
 refine (h _ _ w).mono ?_
 rintro e w' ⟨rfl,rfl⟩
 refine⟨_,rfl,Below.refl _ _,?_⟩
 simpa using PRel.int (w:=w') (imm:=imm) .i64 (Lib.compareBytes a b)
def decP (l:List UInt8):Nat×Nat:=
 if l=[] then (0,0) else if Lib.decodeL l=(65533,1) then (0,0) else Lib.decodeL l
def byN (l:List UInt8)(i:Nat):Nat:=(l.getD i 0).toNat
section
variable {P:Program}{G:Nat->List PV}
end
theorem Im {e sz by_ new:Nat}{σ:ap}{y:PV}{r:List PV}(h1:r.length+1<=9223372036854775807)(h2:(r.length+1)*by_<=140737488355328):fk true e sz by_ new σ (.pv .nils) (some (y::r))=some (.row new sz 0 (r.length+1),[(new,.cells e false (ba (y::r)))]):=by
 simp only[fk];rw[if_pos (eW (by omega) (by simpa using h2))]
section
variable (e:List (Nat×AV))(σ:List (Nat×Blk))(new:Nat)
theorem OV (G:Nat->List PV)(o:XOp):m7 G e σ new (.xop o)=lD e σ new o:=_root_.id rfl
theorem G9 (o:XOp):dR e (.xop o)=fJ e o:=_root_.id rfl
end
attribute [push_cast] Im OV G9
section
variable {e:List (Nat×AV)}{σ:List (Nat×Blk)}{new:Nat}
theorem aS (l:List UInt8):(aw l).length=l.length:=by simp[aw]
theorem mj (l:List UInt8):ba (aw l)=(aw l).map .pv:=by
 unfold ba
 congr 1
 induction l with
 | nil=>rfl
 | cons b r ih=>simp only[aw,List.map_cons,List.flatMap_cons,PV.cells] at ih ⊢;rw[ih];rfl
theorem gN (l k:List UInt8):aw (l++k)=aw l++aw k:=by simp[aw]
theorem Ig (x:AV):AVz x .any=True:=eq_true (.any x)
theorem uP (x:AX):lD e σ new (.noesc x)=some (evE e x,[]):=_root_.id rfl
theorem uM (u n:Nat)(b:Bool)(x:AX):lD e σ new (.ucast u n b x)=gV [] (e5 u n b (fun r=>lookB r σ) (evE e x)):=by
 simp only[lD,gV];cases e5 u n b (fun r=>lookB r σ) (evE e x)<;>rfl
def sU (u n:Nat)(back:Bool)(r o:Nat):Blk->Option AV
 | .cells T f l=>match back with
   | false=>if o<l.length then some (.ptr r o) else none
   | true=>if T=u/\o=0/\f=true/\l.length=n then some (.ptr r o) else none
 | _=>none
theorem vE (u n:Nat)(b:Bool)(τ:ap)(r o:Nat):e5 u n b τ (.ptr r o)=sU u n b r o (τ r):=by
 simp only[e5,sU];cases τ r<;>rfl
theorem E6 {u n r o T:Nat}{f:Bool}{l:List AV}(h:Chk (decide (o<l.length))):sU u n false r o (.cells T f l)=some (.ptr r o):=if_pos (of_decide_eq_true h)
theorem E5 {u n r:Nat}{l:List AV}(h:Chk (decide (l.length=n))):sU u n true r 0 (.cells u true l)=some (.ptr r 0):=if_pos ⟨rfl,rfl,rfl,of_decide_eq_true h⟩
theorem ER (ng:Bool)(x y:AX):lD e σ new (.peq ng x y)=gV [] (K0 ng (evE e x) (evE e y)):=by
 simp only[lD,gV];cases K0 ng (evE e x) (evE e y)<;>rfl
theorem FZ (ng:Bool)(r o:Nat):K0 ng (.ptr r o) (.ptr r o)=some (.pv (.bool (!ng))):=if_pos ⟨rfl,rfl⟩
theorem nY (x y:AX):lD e σ new (.idxb x y)=gV [] (qX (evE e x) (evE e y)):=by
 simp only[lD,gV];cases qX (evE e x) (evE e y)<;>rfl
theorem oC (s:List UInt8)(c:Int):qX (.pv (.str s)) (.pv (.int .u8 c))=some (.pv (.int .i64 (nq c.toNat.toUInt8 s 0))):=_root_.id rfl
theorem yY (t by_:Nat)(x y:AX):lD e σ new (.apps t by_ x y)=lm t by_ new (fun r=>lookB r σ) (evE e x) (evE e y):=_root_.id rfl
theorem vT (t by_:Nat)(τ:ap):lm t by_ new τ (.pv .nils) (.pv (.str []))=some (.pv .nils,[]):=_root_.id rfl
theorem vS {t:Nat}{τ:ap}{c:UInt8}{k:List UInt8}(h:k.length+1<=140737488355328):lm t 1 new τ (.pv .nils) (.pv (.str (c::k)))=some (.row new 1 0 (k.length+1),[(new,.cells t false ((aw (c::k)).map .pv))]):=by
 have h1:aw (c::k) = .int .u8 (c.toNat:Int)::aw k:=_root_.id rfl
 have h2:=eW (n:=0) (m:=(aw k).length+1) (by_:=1) (by rw[aS];omega) (by rw[aS];omega)
 simp only[lm,JF,h1]
 rw[if_pos h2,<- h1,mj,aS]
def Il (t by_ new q s off len:Nat)(k:List UInt8):Blk->Option (AV×List (Nat×Blk))
 | .cells e' _ l=>if e'=t/\s=1/\off=0/\len*1<=l.length/\nQ len (aw k).length by_=true then some (.row new 1 0 (len+(aw k).length),[(q,.none),(new,.cells t false (l.take (len*1)++ba (aw k)))]) else none
 | _=>none
theorem Bm (t by_:Nat)(τ:ap)(q s off len:Nat)(k:List UInt8):lm t by_ new τ (.row q s off len) (.pv (.str k))=Il t by_ new q s off len k (τ q):=by
 simp only[lm,JF,Il]
 cases τ q<;>rfl
theorem Ik {t q len:Nat}{f:Bool}{l k:List UInt8}(hl:len=l.length)(h:l.length+k.length<=140737488355328) :
  Il t 1 new q 1 0 len k (.cells t f ((aw l).map .pv))=some (.row new 1 0 (l.length+k.length),[(q,.none),(new,.cells t false ((aw (l++k)).map .pv))]):=by
 subst hl
 have h2:=eW (n:=l.length) (m:=(aw k).length) (by_:=1) (by rw[aS];omega) (by rw[aS];omega)
 simp only[Il]
 rw[if_pos ⟨trivial,trivial,trivial,by simp[aS],h2⟩,aS,mj,gN,List.map_append,List.take_of_length_le (by simp[aS])]
theorem C2 (k:IntKind)(n:Int):ba [PV.int k n]=[.pv (.int k n)]:=_root_.id rfl
theorem uN (x:AX):lD e σ new (.sdata x)=gV [] (gr (evE e x)):=by
 simp only[lD,gV];cases gr (evE e x)<;>rfl
theorem vH:gr (.pv .nils)=some (.pv .nilp):=_root_.id rfl
theorem vG (r s off n:Nat):gr (.row r s off (n+1))=some (.ptr r off):=by rw[gr];exact if_pos (Nat.succ_pos n)
theorem yX (t:Nat)(x k:AX):lD e σ new (.ustr t x k)=oz t (fun r=>lookB r σ) (evE e x) (evE e k):=_root_.id rfl
theorem AW (t:Nat)(τ:ap):oz t τ (.pv .nilp) (.pv (.int .i64 0))=some (.pv (.str []),[]):=_root_.id rfl
theorem AU (t:Nat)(τ:ap)(r o:Nat)(k:Int):oz t τ (.ptr r o) (.pv (.int .i64 k))=zD t r o k (τ r):=_root_.id rfl
theorem ob:∀ l:List UInt8,u8x (aw l)=some l
 | []=>rfl
 | b::r=>by
   have ih:=ob r
   have h:aw (b::r) = .int .u8 (b.toNat:Int)::aw r:=_root_.id rfl
   have hb:=b.toNat_lt
   rw[h,u8x,if_pos ⟨by omega,by omega⟩,ih]
   simp
theorem E3 {t r:Nat}{k:Int}{f:Bool}{l:List UInt8}(hk:k=(l.length:Int))(h0:0<l.length)(h1:l.length<=140737488355328):zD t r 0 k (.cells t f ((aw l).map .pv))=some (.pv (.str l),[(r,.bts t l)]):=by
 subst hk
 simp only[zD,Int.toNat_natCast]
 rw[if_pos ⟨trivial,trivial,by omega,by simp[aS],by omega⟩,List.take_of_length_le (by simp[aS]),oF,Option.bind_some,ob]
 rfl
theorem wv (t:Nat)(l:List UInt8):(Blk.bts t l).names=[]:=_root_.id rfl
theorem FV (f:Nat->Option Nat)(t:Nat)(l:List UInt8):(Blk.bts t l).ren f = .bts t l:=_root_.id rfl
theorem qu (t b:Nat)(x y:AX):fJ e (.apps t b x y)=(evE e x).name:=_root_.id rfl
theorem qr (t:Nat)(x y:AX):fJ e (.ustr t x y)=(evE e x).name:=_root_.id rfl
theorem nZ (u n:Nat)(b:Bool)(x:AX):fJ e (.ucast u n b x)=(evE e x).name:=_root_.id rfl
theorem n8 (x:AX):fJ e (.noesc x)=[]:=_root_.id rfl
theorem uQ (g:Bool)(x y:AX):fJ e (.peq g x y)=[]:=_root_.id rfl
theorem n7 (x:AX):fJ e (.sdata x)=[]:=_root_.id rfl
theorem qt (x y:AX):fJ e (.idxb x y)=[]:=_root_.id rfl
theorem rU (t b:Nat)(x y:AX):bq (.xop (.apps t b x y))=1:=_root_.id rfl
theorem rQ (t:Nat)(x y:AX):bq (.xop (.ustr t x y))=0:=_root_.id rfl
theorem pd (x:AX):bq (.xop (.sdata x))=0:=_root_.id rfl
theorem o8 (u n:Nat)(b:Bool)(x:AX):bq (.xop (.ucast u n b x))=0:=_root_.id rfl
theorem pf (x:AX):bq (.xop (.noesc x))=0:=_root_.id rfl
theorem wB (g:Bool)(x y:AX):bq (.xop (.peq g x y))=0:=_root_.id rfl
theorem rS (x y:AX):bq (.xop (.idxb x y))=0:=_root_.id rfl
end
section
variable {P:Program}{G:Nat->List PV}
def qk {ι κ:Type}(S:ι->St)(Inv:ι->Prop)(μ:ι->Nat)(x:ι)(m0:Nat)(keep:List Nat)(id:Nat)(keepX:List Nat)(SX:κ->St)(fin:κ->Prop)(Q:AExit->St->Prop):AExit->St->Prop
 | .norm,s'=>∃ x',Hd [] m0 keep s' (S x')/\Inv x'/\μ x'<μ x
 | .exit i,s'=>if i=id then ∃ y,Hd [] m0 keepX s' (SX y)/\fin y else Q (.exit i) s'
 | .ret,s'=>Q .ret s'
theorem sH {ι κ:Type}(S:ι->St)(Inv:ι->Prop)(μ:ι->Nat)(x:ι)(m0:Nat)(keep:List Nat)(id:Nat)(keepX:List Nat)(SX:κ->St)(fin:κ->Prop)(Q:AExit->St->Prop)(s:St):qk S Inv μ x m0 keep id keepX SX fin Q .norm s = ∃ x',Hd [] m0 keep s (S x')/\Inv x'/\μ x'<μ x:=_root_.id rfl
theorem sI {ι κ:Type}(S:ι->St)(Inv:ι->Prop)(μ:ι->Nat)(x:ι)(m0:Nat)(keep:List Nat)(id:Nat)(keepX:List Nat)(SX:κ->St)(fin:κ->Prop)(Q:AExit->St->Prop)(i:Nat)(s:St):qk S Inv μ x m0 keep id keepX SX fin Q (.exit i) s=if i=id then (∃ y,Hd [] m0 keepX s (SX y)/\fin y) else Q (.exit i) s:=_root_.id rfl
theorem yq {ι κ:Type}(S:ι->St)(Inv:ι->Prop)(μ:ι->Nat)(x:ι)(m0:Nat)(keep:List Nat)(id:Nat)(keepX:List Nat)(SX:κ->St)(fin:κ->Prop)(Q:AExit->St->Prop)(s:St):qk S Inv μ x m0 keep id keepX SX fin Q .ret s=Q .ret s:=_root_.id rfl
theorem EY {ι κ:Type}(S:ι->St)(Inv:ι->Prop)(μ:ι->Nat)(x0:ι)(keepX:List Nat)(SX:κ->St)(fin:κ->Prop){m0 id:Nat}{keep:List Nat}{b:ACode}{F:St->Prop}{Q:AExit->St->Prop}{s:St}
  (h1:Hd [] m0 keep s (S x0)) (h2:Inv x0) (h3:∀ x,Inv x->vc P G m0 b (qk S Inv μ x m0 keep id keepX SX fin Q) (S x)) (h4:∀ y,fin y->F (SX y)):vc P G m0 (.loop keep b) (fO id (JJ F Q)) s:=by
 refine⟨fun n s'=>∃ x,s'=S x/\Inv x/\μ x=n,⟨μ x0,_,h1,x0,rfl,h2,rfl⟩,?_⟩
 rintro n s' ⟨x,rfl,hx,rfl⟩
 refine cu b (fun e s' hs=>?_) _ (h3 x hx)
 cases e with
 | norm=>
   obtain⟨x',k1,k2,k3⟩:=hs
   exact⟨_,_,k3,k1,x',rfl,k2,rfl⟩
 | exit i=>
   simp only[qk] at hs
   split at hs
   ·rename_i hi
    obtain⟨y,k1,k2⟩:=hs
    refine⟨_,k1,?_⟩
    simp only[fO,if_pos hi,JJ]
    exact h4 y k2
   ·rename_i hi
    refine⟨s',Wk.of (Wx.refl s') m0,?_⟩
    simp only[fO,if_neg hi,JJ]
    exact hs
 | ret=>exact hs
end
attribute [push_cast] sH sI yq Ig C2 uP uM vE E6 E5 ER FZ nY oC wv FV yY vT vS Bm uN vH vG yX AW AU qu qr nZ n8 uQ n7 qt rU rQ pd o8 pf wB rS
def aY (P:Program)(t:TypeId):Bool:=
 match P.underlying t with
 | some (.struct _) | some (.array _ _)=>true
 | _=>false
def bT (g:Bool)(cs:List PV):PV:=
 match g with
 | true=>.agg cs
 | false=>cs.headD .undef
def kE (P:Program)(f:Field)(cs:List PV):PV:=bT (aY P f.type) ((cs.drop f.offset).take (P.cellsOf f.type))
inductive HasT (P:Program):TypeId->PV->Prop
 | bool (t:TypeId) (b:Bool):P.underlying t=some .bool->HasT P t (.bool b)
 | int (t:TypeId) (k:IntKind) (n:Int):P.underlying t=some (.int k)->(Lit.int k n).wf=true->HasT P t (.int k n)
 | str (t:TypeId) (s:List UInt8):P.underlying t=some .string->s.length<=140737488351232->HasT P t (.str s)
 | list (t e:TypeId) (l:List PV):P.underlying t=some (.slice e)->l.length<=maxLen->l.length*P.bytesOf e<=140737488351232->(∀ (i:Nat) (x:PV),l[i]? = some x->HasT P e x)->HasT P t (.list l)
 | arr (t e:TypeId) (n:Nat) (cs:List PV):P.underlying t=some (.array n e)->cs.length=P.cellsOf t->(∀ i,i<n->HasT P e (bT (aY P e) ((cs.drop (i*P.cellsOf e)).take (P.cellsOf e))))->HasT P t (.agg cs)
 | agg (t:TypeId) (fs:Array Field) (cs:List PV):P.underlying t=some (.struct fs)->cs.length=P.cellsOf t->(∀ (i:Nat) (f:Field),fs.toList[i]? = some f->HasT P f.type (kE P f cs))->HasT P t (.agg cs)
def yR (w:World)(imm:Nat->Nat->Prop)(p:PV)(cs:List Value):Prop:=
 p.cells.length=cs.length/\∀ (i:Nat) (x:PV),p.cells[i]? = some x->PRel w imm x (cs.getD i Go.undef)/\(cs.getD i Go.undef).oneCell'=true
def yH (P:Program):List Field->Nat->Option Nat
 | [],o=>some o
 | f::r,o=>if f.offset=o then yH P r (o+P.cellsOf f.type) else none
def I8 (P:Program)(ts:List TypeId)(t:TypeId):Bool:=
 match P.underlying t with
 | some .bool | some (.int _) | some .string=>true
 | some (.slice e)=>ts.contains e&&decide (0<P.cellsOf e)
 | some (.struct fs)=>(match yH P fs.toList 0 with
   | some n=>decide (n=P.cellsOf t)
   | none=>false)&&fs.toList.all fun f=>ts.contains f.type
 | some (.array n e)=>ts.contains e&&decide (n*P.cellsOf e=P.cellsOf t)
 | _=>false
def Q1 (P:Program)(ts:List TypeId):Bool:=ts.all fun t=>I8 P ts t
theorem HasT.cell {P:Program}{t:TypeId}{p:PV}(h:HasT P t p):bT (aY P t) p.cells=p:=by
 cases h with
 | bool _ h=>simp[aY,‹P.underlying t=_›,bT,PV.cells]
 | int _ _ h _=>simp[aY,‹P.underlying t=_›,bT,PV.cells]
 | str _ h _=>simp[aY,‹P.underlying t=_›,bT,PV.cells]
 | list _ _ h _ _ _=>simp[aY,‹P.underlying t=_›,bT,PV.cells]
 | arr _ _ _ h _ _=>simp[aY,‹P.underlying t=_›,bT,PV.cells]
 | agg _ _ h _ _=>simp[aY,‹P.underlying t=_›,bT,PV.cells]
theorem Cm {P:Program}:∀ (fs:List Field) (o n:Nat),yH P fs o=some n->o<=n/\∀ f∈fs,o<=f.offset
 | [],o,n,h=>by simp only[yH,Option.some.injEq] at h;subst h;simp
 | f::r,o,n,h=>by
   simp only[yH] at h
   split at h
   ·rename_i ho
    obtain⟨h1,h2⟩:=Cm r _ n h
    refine⟨by omega,fun g hg=>?_⟩
    rcases List.mem_cons.1 hg with rfl | hg
    ·omega
    ·have:=h2 g hg;omega
   ·cases h
section
variable {H:Type}{enc:TypeId×Value->H}{P:Program}{w:World}{spare:Nat->Bool}{held:Bool}{ts:List TypeId}{imm:Nat->Nat->Prop}
theorem gp {p:PV}{v:Value}(hc:p.cells=[p])(h:PRel w imm p v)(h1:v.oneCell'=true):yR w imm p [v]:=by
 refine⟨by rw[hc];rfl,fun i x hx=>?_⟩
 rw[hc] at hx
 cases i with
 | zero=>simp only[List.getElem?_cons_zero,Option.some.injEq] at hx;subst hx;exact⟨h,h1⟩
 | succ i=>simp at hx
theorem iC {F:Field->Option (DataW H×List MemPlace)}{cs:List Value}{n:Nat}(hcs:cs.length=n)
  (hF:∀ f x,F f=some x->(x.1.weights P f.type).all (·<=reachBytes)=true->f.type∈ts->∃ p,HasT P f.type p/\yR w imm p ((cs.drop f.offset).take (P.cellsOf f.type))):∀ (fs:List Field) (o:Nat) (xs:List (DataW H×List MemPlace)),yH P fs o=some n->(∀ f∈fs,f.type∈ts)->fs.mapM F=some xs->(DataW.weightsEach P (fs.map (·.type)) (xs.map (·.1))).all (·<=reachBytes)=true ->
  ∃ ps:List PV,ps.length=n - o/\(∀ (i:Nat) (x:PV),ps[i]? = some x->PRel w imm x (cs.getD (o+i) Go.undef)/\(cs.getD (o+i) Go.undef).oneCell'=true) /\
    ∀ f∈fs,HasT P f.type (bT (aY P f.type) ((ps.drop (f.offset - o)).take (P.cellsOf f.type)))
 | [],o,xs,hl,_,_,_=>by
   simp only[yH,Option.some.injEq] at hl
   subst hl
   exact⟨[],by simp,by simp,by simp⟩
 | f::r,o,xs,hl,ht,hm,hz=>by
   simp only[yH] at hl
   split at hl
   ·rename_i ho
    simp only[List.mapM_cons,Option.bind_eq_bind,Option.bind_eq_some_iff,Option.pure_def,Option.some.injEq] at hm
    obtain⟨x,hx,xs',hxs,rfl⟩:=hm
    simp only[List.map_cons,DataW.weightsEach,List.all_append,Bool.and_eq_true] at hz
    obtain⟨p,hp,hr1,hr2⟩:=hF f x hx hz.1 (ht f (by simp))
    obtain⟨q1,q2⟩:=Cm r _ n hl
    obtain⟨ps,h1,h2,h3⟩:=iC hcs hF r _ xs' hl (fun g hg=>ht g (by simp[hg])) hxs hz.2
    have hpl:p.cells.length=P.cellsOf f.type:=by rw[hr1];simp;omega
    refine⟨p.cells++ps,by simp only[List.length_append];omega,fun i x hx=>?_,fun g hg=>?_⟩
    ·by_cases hi:i<p.cells.length
     ·rw[List.getElem?_append_left hi] at hx
      have:=hr2 i x hx
      have e:((cs.drop f.offset).take (P.cellsOf f.type)).getD i Go.undef=cs.getD (o+i) Go.undef:=by
       simp only[List.getD_eq_getElem?_getD,List.getElem?_take,List.getElem?_drop]
       rw[if_pos (by omega),ho]
      rw[e] at this;exact this
     ·rw[List.getElem?_append_right (by omega)] at hx
      have:=h2 _ x hx
      have e:o+P.cellsOf f.type+(i - p.cells.length)=o+i:=by omega
      rw[e] at this;exact this
    ·rcases List.mem_cons.1 hg with rfl | hg'
     ·have e:((p.cells++ps).drop (g.offset - o)).take (P.cellsOf g.type)=p.cells:=by
       rw[ho,Nat.sub_self,List.drop_zero,<- hpl,List.take_left]
      rw[e,hp.cell];exact hp
     ·have:=q2 g hg'
      have e:(p.cells++ps).drop (g.offset - o)=ps.drop (g.offset - (o+P.cellsOf f.type)):=by
       rw[List.drop_append,List.drop_eq_nil_of_le (by omega),List.nil_append]
       congr 1;omega
      rw[e];exact h3 g hg'
   ·cases hl
theorem fq {t:TypeId}{p:PV}{v:Value}(hp:HasT P t p)(h:yR w imm p v.cells.toList)(ha:aY P t=true->∃ cs,v = .agg cs)(ha':aY P t=false->v.cells = #[v]):PRel w imm p v:=by
 have hc:=hp.cell
 cases hg:aY P t with
 | false=>
   rw[hg] at hc
   rw[ha' hg] at h
   obtain⟨h1,h2⟩:=h
   have:p.cells=[p]:=by
    have hl:p.cells.length=1:=by rw[h1];simp
    obtain⟨q,hq⟩:=List.length_eq_one_iff.1 hl
    rw[hq] at hc ⊢
    simp only[bT,List.headD_cons] at hc
    rw[hc]
   have:=(h2 0 p (by rw[this];rfl)).1
   simpa using this
 | true=>
   rw[hg] at hc
   obtain⟨cs,rfl⟩:=ha hg
   obtain⟨h1,h2⟩:=h
   simp only[bT] at hc
   rw[<- hc]
   refine .agg _ _ (by simpa[Value.cells] using h1.symm) fun i x hx=>?_
   rw[aE]
   exact (h2 i x hx).1
theorem jp {α β:Type}{f:α->Option β}:∀ {l:List α} {r:List β},l.mapM f=some r->r.length=l.length
 | [],r,h=>by simp at h;subst h;rfl
 | x::l,r,h=>by
   simp only[List.mapM_cons,Option.bind_eq_bind,Option.bind_eq_some_iff,Option.pure_def,Option.some.injEq] at h
   obtain⟨b,hb,r',hr',rfl⟩:=h
   simp[jp hr']
theorem H5 {w:World}{a:Addr}{n:Nat}{v:Value}(h:w.cell? (a.add n)=some v):w.cell? ⟨a.block,a.off+n,none⟩=some v:=by
 obtain⟨b,off,spot⟩:=a
 unfold Addr.add at h
 by_cases hn:n=0
 ·subst hn
  rw[if_pos rfl] at h
  have:=World.cell?_spot h
  simp only at this
  subst this
  exact h
 ·rw[if_neg hn] at h;exact h
theorem Eu (a:Addr)(n:Nat):(a.add n).block=a.block:=by unfold Addr.add;split<;>rfl
theorem MT (a:Addr)(n:Nat):(a.add n).off=a.off+n:=by unfold Addr.add;split<;>simp_all
theorem ut {w:World}{a:Addr}{n:Nat}{cs:List Value}(h:w.cells? 0 a n=some cs):cs.length=n/\∀ (j:Nat) (v:Value),cs[j]? = some v->w.cell? (a.add j)=some v:=by
 unfold World.cells? at h
 rw[if_pos (Nat.zero_le _)] at h
 have hl:=jp h
 simp only[List.length_range] at hl
 refine⟨hl,fun j v hv=>?_⟩
 have hj:j<n:=by rw[<- hl];exact (List.getElem?_eq_some_iff.1 hv).1
 obtain⟨b,hb,hf⟩:=Lib.mapM_at h j j (by simp[hj])
 rw[hv] at hb;cases hb
 exact hf
theorem jF {e:TypeId}:∀ {l:List (DataW H)},(DataW.weightsAll P e l).all (·<=reachBytes)=true->∀ d∈l,(d.weights P e).all (·<=reachBytes)=true
 | [],_,d,hd=>by cases hd
 | x::r,h,d,hd=>by
   simp only[DataW.weightsAll,List.all_append,Bool.and_eq_true] at h
   rcases List.mem_cons.1 hd with rfl | hd
   ·exact h.1
   ·exact jF h.2 d hd
theorem Ap {t e:TypeId}{a:Addr}{len cap:Nat}{R:List Value->Option (DataW H×List MemPlace)}{d:DataW H}{ps:List MemPlace}(hu:P.underlying t=some (.slice e))(hpos:0<P.cellsOf e)
  (hz:(d.weights P t).all (·<=reachBytes)=true) (ih:∀ cs d ps,R cs=some (d,ps)->(d.weights P e).all (·<=reachBytes)=true->∃ p,HasT P e p/\yR w imm p cs) (himm:∀ b o,b<w.heap.size->imm b o)
  (h:(if 0<=a.block/\len<=cap/\cap<=maxLen then
   (List.mapM (fun i=>(w.cells? 0 (a.add (i*P.cellsOf e)) (P.cellsOf e)).bind R) (List.range len)).bind fun elems=>
    Option.map (fun rest=>(DataW.slice (List.map (fun x=>x.fst) elems) (List.map (fun x=>x.fst) rest),MemPlace.row a ((elems.length+rest.length)*P.cellsOf e)++List.flatMap (fun x=>x.snd) (elems++rest)))
     (if spare a.block=true then List.mapM (fun j=>(w.cells? 0 (a.add ((len+j)*P.cellsOf e)) (P.cellsOf e)).bind R) (List.range (cap - len)) else some [])
   else none)=some (d,ps)):∃ p,HasT P t p/\yR w imm p [.slice (some a) len cap]:=by
 split at h
 ·rename_i hh
  obtain⟨_,hlc,hcm⟩:=hh
  simp only[Option.bind_eq_some_iff] at h
  obtain⟨elems,he,hrest⟩:=h
  simp only[Option.map_eq_some_iff,Prod.mk.injEq] at hrest
  obtain⟨rest,_,rfl,_⟩:=hrest
  simp only[DataW.weights,hu,List.all_cons,List.all_append,Bool.and_eq_true,decide_eq_true_eq,List.length_map] at hz
  obtain⟨hz1,hz2,_⟩:=hz
  have hel:elems.length=len:=by rw[jp he];simp
  have hzl:len*P.bytesOf e<=140737488351232:=by
   have h1:elems.length*P.bytesOf e<=(elems.length+rest.length)*P.bytesOf e:=Nat.mul_le_mul_right _ (by omega)
   have h2:(elems.length+rest.length)*P.bytesOf e<=140737488351232:=hz1
   exact Nat.le_trans (by rw[<- hel];exact h1) h2
  have hat:∀ i,i<len->∃ cs,w.cells? 0 (a.add (i*P.cellsOf e)) (P.cellsOf e)=some cs/\∃ p,HasT P e p/\yR w imm p cs:=by
   intro i hi
   obtain⟨b,hb,hf⟩:=Lib.mapM_at he i i (by simp[hi])
   simp only[Option.bind_eq_some_iff] at hf
   obtain⟨cs,h1,h2⟩:=hf
   obtain⟨p,h3,h4⟩:=ih cs b.1 b.2 h2 (jF hz2 b.1 (List.mem_map.2 ⟨b,List.mem_of_getElem? hb,rfl⟩))
   exact⟨cs,h1,p,h3,h4⟩
  have hex:∃ l:List PV,l.length=len/\∀ (i:Nat) (x:PV),l[i]? = some x->HasT P e x/\∃ cs,w.cells? 0 (a.add (i*P.cellsOf e)) (P.cellsOf e)=some cs/\yR w imm x cs:=by
   refine⟨(List.range len).map fun i=>if h:i<len then (hat i h).choose_spec.2.choose else .undef,by simp,fun i x hx=>?_⟩
   simp only[List.getElem?_map,Option.map_eq_some_iff] at hx
   obtain⟨j,hj,rfl⟩:=hx
   obtain⟨hlt,hji⟩:=List.getElem?_eq_some_iff.1 hj
   simp at hlt hji
   subst hji
   rw[dif_pos hlt]
   exact⟨(hat i hlt).choose_spec.2.choose_spec.1,_,(hat i hlt).choose_spec.1,(hat i hlt).choose_spec.2.choose_spec.2⟩
  obtain⟨l,hl,hle⟩:=hex
  refine⟨.list l,.list _ _ _ hu (by omega) (by rw[hl];exact hzl) (fun i x hx=>(hle i x hx).1),gp rfl ?_ rfl⟩
  by_cases h0:len=0
  ·have:l=[]:=List.eq_nil_of_length_eq_zero (by omega)
   subst this
   rw[h0]
   exact .lnil _ _ hcm
  ·have hcell:∀ (i:Nat) (x:PV) (j:Nat) (y:PV),l[i]? = some x->x.cells[j]? = some y->∃ v,w.cell? ((a.add (i*P.cellsOf e)).add j)=some v/\w.cell? ⟨a.block,a.off+i*P.cellsOf e+j,none⟩=some v/\PRel w imm y v/\v.oneCell'=true:=by
    intro i x j y hx hy
    obtain⟨_,cs,h1,h2,h3⟩:=hle i x hx
    obtain⟨k1,k2⟩:=ut h1
    have hj:j<cs.length:=by rw[<- h2];exact (List.getElem?_eq_some_iff.1 hy).1
    have h4:=h3 j y hy
    have h5:=k2 j _ (List.getElem?_eq_getElem hj)
    refine⟨cs[j],h5,?_,?_⟩
    ·have:=H5 h5
     rw[Eu,MT] at this;exact this
    ·simpa[List.getD_eq_getElem?_getD,hj] using h4
   have hlen:∀ (i:Nat) (x:PV),l[i]? = some x->x.cells.length=P.cellsOf e:=by
    intro i x hx
    obtain⟨_,cs,h1,h2,_⟩:=hle i x hx
    rw[h2,(ut h1).1]
   obtain⟨b,off,spot⟩:=a
   have hspot:spot=none:=by
    have hx:=List.getElem?_eq_getElem (show 0<l.length by omega)
    have hy:=List.getElem?_eq_getElem (show 0<(l[0]'(by omega)).cells.length by rw[hlen 0 _ hx];exact hpos)
    obtain⟨v,hv,_⟩:=hcell 0 _ 0 _ hx hy
    have:=World.cell?_spot hv
    simpa[Addr.add] using this
   subst hspot
   have:=PRel.list (w:=w) (imm:=imm) l b off cap (P.cellsOf e) (fun i j=>(w.cell? ⟨b,off+i*P.cellsOf e+j,none⟩).getD Go.undef) (by omega) hcm hlen (fun i x j y hx hy=>by
     obtain⟨v,_,hv,_,h1⟩:=hcell i x j y hx hy
     have hv':w.cell? ⟨b,off+i*P.cellsOf e+j,none⟩=some v:=hv
     have hb:=World.block_lt_of_cell? w _ hv'
     exact⟨himm _ _ hb,by rw[hv'];rfl,by rw[hv'];exact h1⟩) (fun i x j y hx hy=>by
     obtain⟨v,_,hv,h1,_⟩:=hcell i x j y hx hy
     have hv':w.cell? ⟨b,off+i*P.cellsOf e+j,none⟩=some v:=hv
     rw[hv'];exact h1)
   rw[hl] at this
   exact this
 ·cases h
theorem vp {t:TypeId}{fs:Array Field}{cs:List Value}{R:TypeId->List Value->Option (DataW H×List MemPlace)}{d:DataW H}{ps:List MemPlace}(hu:P.underlying t=some (.struct fs))
  (hstep:((match yH P fs.toList 0 with
   | some n=>decide (n=P.cellsOf t)
   | none=>false)&&fs.toList.all fun f=>ts.contains f.type)=true)
  (hz:(d.weights P t).all (·<=reachBytes)=true) (ih:∀ t cs d ps,t∈ts->R t cs=some (d,ps)->(d.weights P t).all (·<=reachBytes)=true->∃ p,HasT P t p/\yR w imm p cs)
  (h:(if cs.length=P.cellsOf t then Option.map (fun xs=>(DataW.agg (List.map (fun x=>x.fst) xs),List.flatMap (fun x=>x.snd) xs)) (List.mapM (fun f=>R f.type (List.take (P.cellsOf f.type) (List.drop f.offset cs))) fs.toList) else none)=some (d,ps)) :
  ∃ p,HasT P t p/\yR w imm p cs:=by
 split at h
 ·rename_i hcs
  simp only[Option.map_eq_some_iff,Prod.mk.injEq] at h
  obtain⟨xs,hxs,rfl,_⟩:=h
  simp only[DataW.weights,hu] at hz
  simp only[Bool.and_eq_true] at hstep
  obtain⟨h1,h2⟩:=hstep
  split at h1
  ·rename_i n hn
   simp only[decide_eq_true_eq] at h1
   subst h1
   obtain⟨qs,k1,k2,k3⟩:=iC (w:=w) (imm:=imm) (P:=P) (ts:=ts) (H:=H) hcs (F:=fun f=>R f.type (List.take (P.cellsOf f.type) (List.drop f.offset cs))) (fun f x hx hz hf=>ih f.type _ x.1 x.2 hf hx hz) fs.toList 0 xs hn (fun f hf=>by simpa using (List.all_eq_true.1 h2) f hf) hxs hz
   refine⟨.agg qs,.agg _ fs _ hu (by omega) (fun i f hf=>?_),by simp only[PV.cells];omega,fun i x hx=>?_⟩
   ·have:=k3 f (List.mem_of_getElem? hf)
    rwa [Nat.sub_zero] at this
   ·have:=k2 i x hx
    rwa [Nat.zero_add] at this
  ·cases h1
 ·cases h
def ye (P:Program)(e:TypeId):Nat->Nat->List Field
 | 0,_=>[]
 | n+1,k=>{ (default:Field) with type:=e,offset:=k*P.cellsOf e }::ye P e n (k+1)
theorem uG (P:Program)(e:TypeId):∀ n k,yH P (ye P e n k) (k*P.cellsOf e)=some ((k+n)*P.cellsOf e)
 | 0,k=>by simp[ye,yH]
 | n+1,k=>by
   rw[ye,yH,if_pos rfl]
   have:=uG P e n (k+1)
   simp only
   rw[show k*P.cellsOf e+P.cellsOf e=(k+1)*P.cellsOf e by rw[Nat.succ_mul],this]
   congr 2;omega
theorem uF {P:Program}{e:TypeId}:∀ {n k:Nat} {f:Field},f∈ye P e n k->f.type=e
 | 0,_,_,h=>by cases h
 | n+1,k,f,h=>by
   rcases List.mem_cons.1 h with rfl | h
   ·rfl
   ·exact uF h
theorem Eo {P:Program}{e:TypeId}:∀ {n k i:Nat},i<n->∃ f,f∈ye P e n k/\f.type=e/\f.offset=(k+i)*P.cellsOf e
 | 0,_,_,h=>by omega
 | n+1,k,0,_=>⟨_,List.mem_cons_self,rfl,by simp⟩
 | n+1,k,i+1,h=>by
   obtain⟨f,h1,h2,h3⟩:=Eo (P:=P) (e:=e) (n:=n) (k:=k+1) (i:=i) (by omega)
   exact⟨f,List.mem_cons_of_mem _ h1,h2,by rw[h3];congr 1;omega⟩
theorem pY {α:Type}{P:Program}{e:TypeId}{R:TypeId->List Value->Option α}{cs:List Value}:∀ (n k:Nat),(List.range' k n).mapM (fun i=>R e ((cs.drop (i*P.cellsOf e)).take (P.cellsOf e)))=(ye P e n k).mapM (fun f=>R f.type ((cs.drop f.offset).take (P.cellsOf f.type)))
 | 0,k=>by simp[ye]
 | n+1,k=>by
   rw[List.range'_succ,ye,List.mapM_cons,List.mapM_cons,pY n (k+1)]
theorem i7 {P:Program}{e:TypeId}:∀ (n k:Nat) (l:List (DataW H)),l.length=n->DataW.weightsEach P ((ye P e n k).map (·.type)) l=DataW.weightsAll P e l
 | 0,k,l,h=>by
   obtain rfl:=List.eq_nil_of_length_eq_zero h
   simp[ye,DataW.weightsEach,DataW.weightsAll]
 | n+1,k,l,h=>by
   cases l with
   | nil=>simp at h
   | cons d r=>
     simp only[ye,List.map_cons,DataW.weightsEach,DataW.weightsAll]
     rw[i7 n (k+1) r (by simpa using h)]
theorem MN {t e:TypeId}{n:Nat}{cs:List Value}{R:TypeId->List Value->Option (DataW H×List MemPlace)}{d:DataW H}{ps:List MemPlace}(hu:P.underlying t=some (.array n e))
  (hstep:ts.contains e=true/\n*P.cellsOf e=P.cellsOf t)
  (hz:(d.weights P t).all (·<=reachBytes)=true) (ih:∀ t cs d ps,t∈ts->R t cs=some (d,ps)->(d.weights P t).all (·<=reachBytes)=true->∃ p,HasT P t p/\yR w imm p cs)
  (h:(if cs.length=P.cellsOf t then Option.map (fun xs=>(DataW.agg (List.map (fun x=>x.fst) xs),List.flatMap (fun x=>x.snd) xs)) (List.mapM (fun i=>R e (List.take (P.cellsOf e) (List.drop (i*P.cellsOf e) cs))) (List.range n)) else none)=some (d,ps)) :
  ∃ p,HasT P t p/\yR w imm p cs:=by
 split at h
 ·rename_i hcs
  simp only[Option.map_eq_some_iff,Prod.mk.injEq] at h
  obtain⟨xs,hxs,rfl,_⟩:=h
  have hxl:xs.length=n:=by rw[jp hxs];simp
  rw[List.range_eq_range',pY n 0] at hxs
  simp only[DataW.weights,hu] at hz
  rw[<- i7 (P:=P) n 0 _ (by simpa using hxl)] at hz
  have hlay:=uG P e n 0
  rw[Nat.zero_mul,Nat.zero_add,hstep.2] at hlay
  obtain⟨qs,k1,k2,k3⟩:=iC (w:=w) (imm:=imm) (P:=P) (ts:=ts) (H:=H) hcs (F:=fun f=>R f.type (List.take (P.cellsOf f.type) (List.drop f.offset cs))) (fun f x hx hz hf=>ih f.type _ x.1 x.2 hf hx hz) (ye P e n 0) 0 xs hlay
   (fun f hf=>by rw[uF hf];simpa using hstep.1) hxs hz
  refine⟨.agg qs,.arr _ e n _ hu (by omega) (fun i hi=>?_),by simp only[PV.cells];omega,fun i x hx=>?_⟩
  ·obtain⟨f,hf,h1,h2⟩:=Eo (P:=P) (e:=e) (k:=0) hi
   have:=k3 f hf
   rwa [h1,h2,Nat.sub_zero,Nat.zero_add] at this
  ·have:=k2 i x hx
   rwa [Nat.zero_add] at this
 ·cases h
theorem jl (hts:Q1 P ts=true)(himm:∀ b o,b<w.heap.size->imm b o):∀ (fuel:Nat) (t:TypeId) (cs:List Value) (d:DataW H) (ps:List MemPlace),t∈ts->DataW.trod enc P w 0 spare held fuel t cs=some (d,ps)->(d.weights P t).all (·<=reachBytes)=true->∃ p,HasT P t p/\yR w imm p cs
 | 0,t,cs,d,ps,_,h,_=>by simp[DataW.trod] at h
 | fuel+1,t,cs,d,ps,ht,h,hz=>by
   have hstep:=(List.all_eq_true.1 hts) t ht
   unfold I8 at hstep
   rw[DataW.trod.eq_def] at h
   simp only at h
   cases hu:P.underlying t with
   | none=>rw[hu] at hstep;simp at hstep
   | some u=>
     rw[hu] at hstep h
     cases u with
     | bool=>
       split at h
       all_goals first
        | (rename_i b h1;exact⟨.bool b,.bool _ _ hu,gp rfl (.bool _) rfl⟩)
        | (exfalso;simp_all;done)
        | skip
     | int k=>
       split at h
       all_goals first
        | (rename_i k' k2 n heq
           simp only[Option.some.injEq,TypeDesc.int.injEq] at heq
           subst heq
           split at h
           ·rename_i hh
            obtain⟨rfl,hw⟩:=hh
            exact⟨.int _ n,.int _ _ _ hu hw,gp rfl (.int _ _) rfl⟩
           ·cases h)
        | (exfalso;simp_all;done)
        | skip
     | string=>
       split at h
       all_goals first
        | (rename_i s _
           split at h
           ·rename_i hh
            cases h
            simp only[DataW.weights,List.all_cons,List.all_nil,Bool.and_true,decide_eq_true_eq] at hz
            exact⟨.str s.data.toList,.str _ _ hu hz,gp rfl (.str _ hh) rfl⟩
           ·cases h)
        | (exfalso;simp_all;done)
        | skip
     | slice e=>
       split at h
       all_goals first
        | (exact⟨.list [],.list _ _ _ hu (by simp) (by simp) (by simp),gp rfl (.lnil none 0 (by simp)) rfl⟩)
        | (rename_i e' a len cap heq
           simp only[Option.some.injEq,TypeDesc.slice.injEq] at heq
           subst heq
           simp only[Bool.and_eq_true,decide_eq_true_eq] at hstep
           exact Ap hu hstep.2 hz (fun cs d ps h hz=>jl hts himm fuel _ cs d ps (by simpa using hstep.1) h hz) himm h)
        | (exfalso;simp_all;done)
        | skip
     | struct fs=>
       split at h
       all_goals first
        | (rename_i fs' heq
           simp only[Option.some.injEq,TypeDesc.struct.injEq] at heq
           subst heq
           exact vp hu hstep hz (fun t cs d ps ht h hz=>jl hts himm fuel t cs d ps ht h hz) h)
        | (exfalso;simp_all;done)
        | skip
     | array n e=>
       simp only[Bool.and_eq_true,decide_eq_true_eq] at hstep
       split at h
       all_goals first
        | (rename_i n' e' heq
           simp only[Option.some.injEq,TypeDesc.array.injEq] at heq
           obtain⟨rfl,rfl⟩:=heq
           exact MN hu hstep hz (fun t cs d ps ht h hz=>jl hts himm fuel t cs d ps ht h hz) h)
        | (exfalso;simp_all;done)
        | skip
     | _=>simp at hstep
end
open Go.ChangeShapes Go.WideShapes
section
variable {H:Type}{enc:TypeId×Value->H}{P:Program}{W:World}{ts:List TypeId}{base:Nat}
def nj (W:World):Nat->Nat->Prop:=fun b _=>b<W.heap.size
theorem MO (hts:Q1 P ts=true){t:TypeId}(ht:t∈ts){v:Value}{d:DataW H}{p:List MemPlace}(hok:Value.okWide P W .any base t v)(h:DataW.Trod enc P W 0 (fun _=>true) true t v d p)(hz:(d.weights P t).all (·<=reachBytes)=true) :
  ∃ x,HasT P t x/\PRel W (nj W) x v:=by
 obtain⟨fuel,hf⟩:=h
 obtain⟨x,h1,h2⟩:=jl (w:=W) (imm:=nj W) hts (fun b o h=>h) fuel t _ d p ht hf hz
 refine⟨x,h1,?_⟩
 cases h1 with
 | bool _ b hu=>obtain⟨b',rfl⟩:=okWide_bool hu hok;exact fq (.bool _ _ hu) h2 (by simp[aY,hu]) (fun _=>rfl)
 | int _ k n hu hw=>obtain⟨b',rfl⟩:=okWide_int hu hok;exact fq (.int _ _ _ hu hw) h2 (by simp[aY,hu]) (fun _=>rfl)
 | str _ s hu hs=>obtain⟨b',rfl⟩:=okWide_string hu hok;exact fq (.str _ _ hu hs) h2 (by simp[aY,hu]) (fun _=>rfl)
 | list _ e l hu hl hl2 hle=>obtain⟨a,len,cap,rfl⟩:=okWide_slice hu hok;exact fq (.list _ _ _ hu hl hl2 hle) h2 (by simp[aY,hu]) (fun _=>rfl)
 | arr _ e n cs hu hl hle=>
   have hok':=hok
   simp only[Value.okWide,hu] at hok'
   obtain⟨cs',rfl,_⟩:=hok'
   exact fq (.arr _ _ _ _ hu hl hle) h2 (fun _=>⟨_,rfl⟩) (by simp[aY,hu])
 | agg _ fs cs hu hl hle=>obtain⟨cs',rfl,_⟩:=okWide_struct hu hok;exact fq (.agg _ _ _ hu hl hle) h2 (fun _=>⟨_,rfl⟩) (by simp[aY,hu])
theorem uH (hts:Q1 P ts=true):∀ (tys:List TypeId) (vs:List Value) (ds:List (DataW H)) (p:List MemPlace),(∀ t∈tys,t∈ts)->(∀ (j:Nat) (t:TypeId) (v:Value),tys[j]? = some t->vs[j]? = some v->Value.okWide P W .any base t v) ->
  DataW.TrodAll enc P W 0 (fun _=>true) true tys vs ds p->(DataW.weightsEach P tys ds).all (·<=reachBytes)=true->vs.length=tys.length/\ds.length=tys.length/\∃ xs:List PV,xs.length=tys.length/\(∀ (i:Nat) (x:PV),xs[i]? = some x->PRel W (nj W) x (vs.getD i Go.undef))/\(∀ (i:Nat) (t:TypeId) (x:PV),tys[i]? = some t->xs[i]? = some x->HasT P t x)
 | [],vs,ds,p,_,_,h,_=>by
   cases vs<;>cases ds<;>simp[DataW.TrodAll] at h
   exact⟨rfl,rfl,[],rfl,by simp,by simp⟩
 | t::tys,vs,ds,p,ht,hok,h,hz=>by
   obtain⟨v,vs',d,ds',p',q',rfl,rfl,rfl,h1,h2⟩:=trodAll_cons h
   simp only[DataW.weightsEach,List.all_append,Bool.and_eq_true] at hz
   obtain⟨x,k1,k2⟩:=MO (base:=base) hts (ht t (by simp)) (hok 0 t v rfl rfl) h1 hz.1
   obtain⟨l1,l2,xs,l3,l4,l5⟩:=uH hts tys vs' ds' q' (fun t h=>ht t (by simp[h])) (fun j t v h1 h2=>hok (j+1) t v (by simpa using h1) (by simpa using h2)) h2 hz.2
   refine⟨by simp[l1],by simp[l2],x::xs,by simp[l3],fun i y hy=>?_,fun i t' y ht' hy=>?_⟩
   ·cases i with
    | zero=>simp only[List.getElem?_cons_zero,Option.some.injEq] at hy;subst hy;simpa using k2
    | succ i=>simpa using l4 i y (by simpa using hy)
   ·cases i with
    | zero=>
      simp only[List.getElem?_cons_zero,Option.some.injEq] at hy ht'
      subst hy;subst ht';exact k1
    | succ i=>exact l5 i t' y (by simpa using ht') (by simpa using hy)
theorem lH:∀ (tys:List TypeId) (vs:List Value) (ds:List (DataW H)) (p:List MemPlace),DataW.TrodAll enc P W 0 (fun _=>true) true tys vs ds p->∀ x∈p,x.block<W.heap.size
 | [],vs,ds,p,h=>by
   cases vs<;>cases ds<;>simp[DataW.TrodAll] at h
   subst h;simp
 | t::tys,vs,ds,p,h=>by
   obtain⟨v,vs',d,ds',p',q',rfl,rfl,rfl,⟨m,hm⟩,h2⟩:=trodAll_cons h
   intro x hx
   rcases List.mem_append.1 hx with hx | hx
   ·exact DataW.trod_lt m _ _ _ hm x hx
   ·exact lH tys vs' ds' q' h2 x hx
theorem pZ (hlaid:laidOutB P=true){W':World}(hb:Below W.heap.size W W'):∀ (tys:List TypeId) (vs:List Value) (ds:List (DataW H)) (p:List MemPlace),(∀ t∈tys,P.readableRec t=true/\t<P.types.size) ->
  DataW.TrodAll enc P W 0 (fun _=>true) true tys vs ds p->DataW.TrodAll enc P W' 0 (fun b=>decide (b<W.heap.size)) true tys vs ds p
 | [],vs,ds,p,_,h=>by
   cases vs<;>cases ds<;>simp[DataW.TrodAll] at h
   subst h
   exact trodAll_mk0
 | t::tys,vs,ds,p,ht,h=>by
   have hlt:=lH _ _ _ _ h
   obtain⟨v,vs',d,ds',p',q',rfl,rfl,rfl,h1,h2⟩:=trodAll_cons h
   exact trodAll_cons_mk (Below.trod hlaid (ht t (by simp)).1 (ht t (by simp)).2 h1 hb (fun x hx=>hlt x (List.mem_append.2 (.inl hx)))) (pZ hlaid hb tys vs' ds' q' (fun t h=>ht t (by simp[h])) h2)
theorem eC:∀ (ts us:List TypeId) (ds gs:List (DataW H)),(DataW.weightsEach P (ts++us) (ds++gs)).all (·<=reachBytes)=true->(DataW.weightsEach P ts ds).all (·<=reachBytes)=true
 | [],_,_,_,_=>by simp[DataW.weightsEach]
 | _::_,_,[],_,_=>by simp[DataW.weightsEach]
 | t::ts,us,d::ds,gs,h=>by
   simp only[List.cons_append,DataW.weightsEach,List.all_append,Bool.and_eq_true] at h ⊢
   exact⟨h.1,eC ts us ds gs h.2⟩
theorem Hg {f:FuncId}{fn:Func}{s:ChangeSpec}{args:Array Value}{ds gs:List (DataW H)}{before:List MemPlace}{G:Nat->List PV}{tb:TypeId}
  (hs:s.vars=[]) (hlaid:laidOutB P=true) (hread:∀ t∈fn.params.toList,P.readableRec t=true/\t<P.types.size) (hts:Q1 P ts=true) (htys:∀ t∈fn.params.toList,t∈ts)
  (hres:fn.resultTypes = #[tb]) (htb:P.underlying tb=some .bool)
  (hfn:∀ ds:List (DataW H),ds.length=fn.params.toList.length->s.fn H ds = { results:=[.lit (.bool true)],args:=ds })
  (hval:∀ (j:Nat) (t:TypeId) (v:Value),fn.params[j]? = some t->args[j]? = some v->Value.okWide P W .any base t v) (hW:DataW.Whole enc P fn.params.toList s.vars false W args.toList ds gs before)
  (hsz:(DataW.weightsEach P (fn.params.toList++s.plain.varTypes P) (ds++gs)).all (·<=reachBytes)=true)
  (hG:bV G W (nj W))
  (hlaw:∀ ps:List PV,ps.length=fn.params.toList.length->(∀ (i:Nat) (t:TypeId) (x:PV),fn.params.toList[i]? = some t->ps[i]? = some x->HasT P t x)->ag P G f ps (.bool true)) :
  Calls P f args W fun e W'=>∃ v,e = .returned v/\s.post enc P fn false true false false W args v W':=by
 have hW':=hW
 obtain⟨p,q,hA,hV,rfl,hfz,hnd⟩:=hW
 rw[hs] at hV
 obtain⟨rfl,rfl⟩:=trodVars_none hV
 obtain⟨l1,l2,xs,l3,l4,l5⟩:=uH (base:=base) hts fn.params.toList args.toList ds p htys (fun j t v h1 h2=>hval j t v (by simpa using h1) (by simpa using h2)) hA (eC _ _ _ _ hsz)
 obtain⟨_,hP⟩:=hlaw xs l3 l5
 refine (hP W (nj W) args hG (fun b o h=>h) (by rw[l3,<- l1];simp) (fun i x hx=>by rw[aE];exact l4 i x hx)).mono ?_
 rintro e W' ⟨u,imm',rfl,hb,_,_,_,hu⟩
 cases hu
 refine⟨_,rfl,ds,[],_,[],p,[],hW',?_,?_,?_,hb.frame _,fun h=>by cases h⟩
 ·rw[hres,List.append_nil,hfn ds l2]
  exact trodAll_mk1 (shut_bool htb _)
 ·rw[List.append_nil,hfn ds l2]
  exact pZ hlaid hb _ _ _ _ hread hA
 ·rw[hs,List.append_nil,hfn ds l2]
  rfl
end
open Go.Proofs Go.Lib
section
variable {P:Program}{W:World}
theorem E8 {H:Type}{enc:TypeId×Value->H}{w:World}{base:Nat}{sp:Nat->Bool}{held:Bool}{fuel n:Nat}{t e:TypeId}{cs:List Value}{x:DataW H×List MemPlace}(ht:P.underlying t=some (.array n e))
  (h:DataW.trod enc P w base sp held fuel t cs=some x):cs.length=P.cellsOf t:=by
 cases fuel with
 | zero=>simp[DataW.trod] at h
 | succ fuel=>
   simp only[DataW.trod,ht] at h
   split at h
   ·assumption
   ·cases h
structure TabAt (w:World)(g:Nat)(ps:List PV):Prop where
 obj:∃ cs T fz,w.heap[g]? = some (.cells cs T fz)/\cs.size=ps.length
 cell:∀ (o:Nat) (p:PV),ps[o]? = some p->∃ k z,p = .int k z/\w.cell? ⟨g,o,none⟩=some (.int k z)
theorem CP {G:Nat->List PV}(h:∀ g,G g≠[]->TabAt W g (G g)):bV G W (nj W):=by
 refine⟨fun g o p hp=>?_,fun g hg=>(h g hg).obj⟩
 have hne:G g≠[]:=by intro e;rw[e] at hp;simp at hp
 obtain⟨k,z,rfl,hc⟩:=(h g hne).cell o p hp
 exact⟨World.block_lt_of_cell? W _ hc,_,hc,rfl,.int _ _⟩
theorem mK {n:String}{g:Nat}{t e:TypeId}{m:Nat}{d:DataW Unit}{ps:List PV}(hv:VarReads P W n d)(hg:P.globalNamed n=some g)(hty:(P.globals[g]?).map (·.type)=some t)(ht:P.underlying t=some (.array m e))(hl:P.cellsOf t=ps.length)
  (h:∀ (o:Nat) (p:PV),ps[o]? = some p->∃ k z,p = .int k z/\W.cell? ⟨g,o,none⟩=some (.int k z)):TabAt W g ps:=by
 refine⟨?_,h⟩
 obtain⟨g',t',cs,fuel,p,hg',hty',hvar,hd⟩:=hv
 obtain rfl:=Option.some.inj (hg.symm.trans hg')
 obtain rfl:=Option.some.inj (hty.symm.trans hty')
 have hlen:=E8 ht hd
 unfold World.var? at hvar
 rw[hg] at hvar
 simp only[Option.bind_some] at hvar
 split at hvar
 ·rename_i cs' T fz hh
  cases hvar
  exact⟨cs,T,fz,hh,by rw[<- hl,<- hlen];simp⟩
 ·cases hvar
theorem vd {n:String}{g:Nat}{t e:TypeId}{m:Nat}{k:IntKind}{zs:List Int}(hv:VarReads P W n (Lib.tabData k zs))(hg:P.globalNamed n=some g)(hty:(P.globals[g]?).map (·.type)=some t)(ht:P.underlying t=some (.array m e))
  (he:P.underlying e=some (.int k)) (hce:P.cellsOf e=1) (hct:P.cellsOf t=m) (hm:m=zs.length):TabAt W g (zs.map (PV.int k)):=by
 have hv':=hv
 refine mK hv hg hty ht (by rw[hct,hm];simp) fun o p hp=>?_
 simp only[List.getElem?_map,Option.map_eq_some_iff] at hp
 obtain⟨z,hz,rfl⟩:=hp
 refine⟨k,z,rfl,?_⟩
 obtain⟨g',t',cs,fuel,q,hg',hty',hvar,hd⟩:=hv'
 obtain rfl:=Option.some.inj (hg.symm.trans hg')
 obtain rfl:=Option.some.inj (hty.symm.trans hty')
 have hcs:=Lib.cells_of_tab ht he hce hct hd
 rw[World.var?_cell hg hvar o,<- Array.getElem?_toList,hcs]
 simp[hz]
end
end Go.Ab

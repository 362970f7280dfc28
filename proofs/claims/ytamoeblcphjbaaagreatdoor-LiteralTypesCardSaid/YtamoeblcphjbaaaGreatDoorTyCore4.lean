/- A program logic over the model: part 4 (a proof is built on it; nothing of the statement is said here). -/
import Derived.Test.YtamoeblcphjbaaaGreatDoorTyCore3
set_option linter.unusedVariables false
set_option linter.unusedSimpArgs false
open List renaming map_cons->WP,mem_cons->W9,getElem?_cons_zero->Xb,mem_of_getElem?->WK,getElem?_eq_some_iff->WH,mem_map->Xo,getElem?_eq_getElem->WE,eq_nil_of_length_eq_zero->WY
open Nat renaming le_refl->WX,lt_or_ge->XU,zero_le->Xr,le_trans->Xv,lt_of_lt_of_le->W0
open Array renaming getD_eq_getD_getElem?->WM,getElem?_eq_some_iff->WU,replicate->XF
open Option.some renaming injEq->WJ
open Bool renaming and_eq_true->WT
open Prod.mk renaming injEq->WR
namespace Go.Ab
open Go Go.RowKit
theorem pE (keep:List Nat)(g:Nat->AV)(i:Nat):look i (keep.map fun k=>(k,g k))=if i∈keep then g i else .any:=by
 induction keep with
 | nil=>rfl
 | cons k r ih=>
   simp only[WP,look,ih,W9]
   by_cases h:k=i
   ·simp[h]
   ·simp only[if_neg h,show (i=k)=False from eq_false (fun e=>h e.symm),false_or]
theorem eH:∀ (l acc:List Nat),acc.Nodup->(cg acc l).Nodup
 | [],acc,h=>h
 | n::r,acc,h=>by
   rw[cg]
   refine eH r _ ?_
   split
   ·exact h
   ·rename_i hn
    have hn':n∉acc:=by simpa using hn
    refine List.nodup_append.2 ⟨h,by simp,?_⟩
    intro a ha b hb
    simp at hb;subst hb
    rintro rfl
    exact hn' ha
theorem gL:∀ (l acc:List Nat) (x:Nat),x∈cg acc l->x∈acc\/x∈l
 | [],acc,x,h=>.inl h
 | n::r,acc,x,h=>by
   rw[cg] at h
   rcases gL r _ x h with h | h
   ·split at h
    ·exact .inl h
    ·rcases List.mem_append.1 h with h | h
     ·exact .inl h
     ·simp at h;subst h;exact .inr (by simp)
   ·exact .inr (by simp[h])
theorem qZ (m0:Nat)(sto:List (Nat×Blk)):∀ (k:Nat) (acc:List Nat),acc.Nodup->(∀ x∈acc,m0<=x)->(ig m0 sto k acc).Nodup/\∀ x∈ig m0 sto k acc,m0<=x
 | 0,acc,h,g=>⟨h,g⟩
 | k+1,acc,h,g=>by
   rw[ig]
   refine qZ m0 sto k _ (eH _ _ h) fun x hx=>?_
   rcases gL _ _ _ hx with h | h
   ·exact g x h
   ·simpa using (List.mem_filter.1 h).2
theorem ND (m0:Nat)(keep:List Nat)(s:St):(Q9 m0 keep s).Nodup/\∀ x∈Q9 m0 keep s,m0<=x:=by
 refine qZ m0 s.sto _ _ (eH _ _ (by simp)) fun x hx=>?_
 rcases gL _ _ _ hx with h | h
 ·simp at h
 ·simpa using (List.mem_filter.1 h).2
theorem xj {x i:Nat}:∀ (l:List Nat) (k:Nat),Lt x l k=some i->k<=i/\l[i - k]? = some x
 | [],k,h=>by simp[Lt] at h
 | y::r,k,h=>by
   rw[Lt] at h
   split at h
   ·rename_i hy
    cases h
    exact⟨WX _,by simp[hy]⟩
   ·obtain⟨h1,h2⟩:=xj r (k+1) h
    refine⟨by omega,?_⟩
    rw[show i - k=(i - (k+1))+1 by omega]
    simpa using h2
mutual
theorem tB {κ κ':Kap}(hw:κ'.w=κ.w)(hi:κ'.imm=κ.imm){f:Nat->Option Nat}(hf:∀ r r',f r=some r'->κ'.nm r'=κ.nm r):∀ (x:AV) (v:Value),ARel κ x v->ARel κ' (x.ren f) v
 | .pv p,v,h=>by
   cases h with
   | pv _ _ hp=>exact .pv _ _ (by rw[hw,hi];exact hp)
 | .any,v,h=>.any v
 | .ptr r o,v,h=>by
   cases h with
   | ptr _ _ b n hn=>
     simp only[AV.ren]
     split
     ·rename_i r' hr;exact .ptr _ _ b n (by rw[hf r r' hr];exact hn)
     ·exact .any _
 | .row r a b c,v,h=>by
   cases h with
   | row _ _ _ _ bb n cap hn h1 h2 h3 h4=>
     simp only[AV.ren]
     split
     ·rename_i r' hr;exact .row _ _ _ _ bb n cap (by rw[hf r r' hr];exact hn) h1 h2 h3 h4
     ·exact .any _
   | row0 _ _ hn=>
     simp only[AV.ren]
     split
     ·rename_i r' hr;exact .row0 _ _ (by rw[hf r r' hr];exact hn)
     ·exact .any _
 | .olist r a l,v,h=>by
   cases h with
   | olist _ _ _ _ hn hp hs=>
     simp only[AV.ren]
     split
     ·rename_i r' hr;exact .olist _ _ _ _ (by rw[hf r r' hr];exact hn) (by rw[hw,hi];exact hp) hs
     ·exact .pv _ _ (by rw[hw,hi];exact hp)
 | .mp r,v,h=>by
   cases h with
   | mp _ b hn=>
     simp only[AV.ren]
     split
     ·rename_i r' hr;exact .mp _ _ (by rw[hf r r' hr];exact hn)
     ·exact .any _
 | .agg cs,v,h=>by
   cases h with
   | agg _ vs hl hr=>
     simp only[AV.ren]
     obtain⟨h1,h2⟩:=fq hw hi hf cs vs hr
     exact .agg _ _ (by rw[h1];exact hl) h2
 | .tup cs,v,h=>by
   cases h with
   | tup _ vs hl hr=>
     simp only[AV.ren]
     obtain⟨h1,h2⟩:=fq hw hi hf cs vs hr
     exact .tup _ _ (by rw[h1];exact hl) h2
 | .clo g fs cs,v,h=>by
   cases h with
   | clo _ _ _ vs us hl hr hl' hr'=>
     simp only[AV.ren]
     obtain⟨h1,h2⟩:=fq hw hi hf fs vs hr
     obtain⟨h3,h4⟩:=fq hw hi hf cs us hr'
     exact .clo _ _ _ _ _ (by rw[h1];exact hl) h2 (by rw[h3];exact hl') h4
theorem fq {κ κ':Kap}(hw:κ'.w=κ.w)(hi:κ'.imm=κ.imm){f:Nat->Option Nat}(hf:∀ r r',f r=some r'->κ'.nm r'=κ.nm r):∀ (xs:List AV) (vs:Array Value),
  (∀ (i:Nat) (x:AV),xs[i]? = some x->ARel κ x (vs.getD i Go.undef))->(AV.renL f xs).length=xs.length/\∀ (i:Nat) (x:AV),(AV.renL f xs)[i]? = some x->ARel κ' x (vs.getD i Go.undef)
 | [],vs,h=>by simp[AV.renL]
 | x::r,vs,h=>by
   obtain⟨h1,h2⟩:=fq hw hi hf r (vs.extract 1 vs.size) (fun i y hy=>by
    have:=h (i+1) y (by simpa using hy)
    have e:(vs.extract 1 vs.size).getD i Go.undef=vs.getD (i+1) Go.undef:=by
     simp only[WM,Array.getElem?_extract]
     by_cases hh:i<min vs.size vs.size - 1
     ·rw[if_pos hh];congr 2;omega
     ·rw[if_neg hh,Array.getElem?_eq_none (by omega)]
    rw[e];exact this)
   refine⟨by simp[AV.renL,h1],fun i y hy=>?_⟩
   cases i with
   | zero=>
     simp only[AV.renL,Xb,WJ] at hy
     subst hy
     exact tB hw hi hf x _ (h 0 x (by simp))
   | succ i=>
     simp only[AV.renL,List.getElem?_cons_succ] at hy
     have:=h2 i y hy
     have e:(vs.extract 1 vs.size).getD i Go.undef=vs.getD (i+1) Go.undef:=by
      simp only[WM,Array.getElem?_extract]
      by_cases hh:i<min vs.size vs.size - 1
      ·rw[if_pos hh];congr 2;omega
      ·rw[if_neg hh,Array.getElem?_eq_none (by omega)]
     rw[e] at this;exact this
end
theorem l9 {m0:Nat}{f:Nat->Option Nat}{sto:List (Nat×Blk)}{x:Nat}:∀ (l:List Nat) (k:Nat),lookB x (fR m0 f sto l k)=if k<=x then (match l[x - k]? with | some r=>(lookB r sto).ren f | none=>.none) else .none
 | [],k=>by simp[fR,lookB]
 | r::q,k=>by
   rw[fR,lookB]
   simp only
   by_cases h:k=x
   ·subst h;simp
   ·rw[if_neg h,l9 q (k+1)]
    by_cases hk:k<=x
    ·rw[if_pos (by omega),if_pos hk,show x - k=(x - (k+1))+1 by omega]
     simp
    ·rw[if_neg (by omega),if_neg hk]
section
variable {P:Program}{c:Ctx}{κ0 κ:Kap}{N:Nat}{s:St}{a:Act}{w:World}
theorem Rel.clip (h:Rel c κ0 N s a w κ)(keep:List Nat):Rel c κ0 N (clip keep s) a w κ:=by
 have e:(Go.Ab.clip keep s).σ=s.σ:=by funext r;exact mG s.sto [] r rfl
 refine⟨h.w_eq,h.ext0,by rw[e];exact h.rel,h.left,fun i=>?_,h.size,h.defers,h.fresh⟩
 simp only[Go.Ab.clip,St.E]
 rw[pE keep (fun i=>look i s.env) i]
 split
 ·exact h.env i
 ·exact .any _
theorem Rel.clip0 (h:Rel c κ0 N s a w κ)(keep:List Nat):Rel c κ0 N (clip0 keep s) a w κ:=by
 refine⟨h.w_eq,h.ext0,h.rel,h.left,fun i=>?_,h.size,h.defers,h.fresh⟩
 simp only[Go.Ab.clip0,St.E]
 rw[pE keep (fun i=>look i s.env) i]
 split
 ·exact h.env i
 ·exact .any _
theorem Rel.norm (h:Rel c κ0 N s a w κ){m0:Nat}(h0:∀ r,m0<=r->κ0.nm r=none)(keep:List Nat):∃ κ',Rel c κ0 N (norm m0 keep s) a w κ':=by
 obtain⟨hnd,hge⟩:=ND m0 keep s
 let os:=Q9 m0 keep s
 let f:=eD m0 os
 let nm':Nat->Option Den:=fun n=>if n<m0 then κ.nm n else match os[n - m0]? with | some r=>κ.nm r | none=>none
 let κ':Kap:=⟨κ.w,nm',κ.imm⟩
 have hf:∀ r r',f r=some r'->κ'.nm r'=κ.nm r:=by
  intro r r' hr
  simp only[f,eD] at hr
  split at hr
  ·cases hr;rename_i hlt;simp[κ',nm',hlt]
  ·obtain⟨h1,h2⟩:=xj os m0 hr
   simp only[κ',nm']
   rw[if_neg (by omega),h2]
 have he0:Ext κ0 κ':=by
  refine⟨h.ext0.imm,h.ext0.cell,fun r d hr=>?_,h.ext0.obj⟩
  have hlt:r<m0:=by
   rcases XU r m0 with h1 | h1
   ·exact h1
   ·rw[h0 r h1] at hr;cases hr
  simp only[κ',nm',if_pos hlt]
  exact h.ext0.nm r d hr
 have hS:=h.rel
 have hlook:∀ n,(Go.Ab.norm m0 keep s).σ n=if n<m0 then (lookB n s.sto).ren f else match os[n - m0]? with | some r=>(lookB r s.sto).ren f | none=>.none:=by
  intro n
  show lookB n (fR m0 f s.sto (List.range m0++os) 0)=_
  rw[l9,if_pos (Xr _),Nat.sub_zero]
  by_cases hn:n<m0
  ·rw[if_pos hn,List.getElem?_append_left (by simpa using hn),List.getElem?_range hn]
  ·rw[if_neg hn,List.getElem?_append_right (by simp;omega)]
   simp only[List.length_range]
 have hold:∀ n,(Go.Ab.norm m0 keep s).σ n≠.none->∃ r,(Go.Ab.norm m0 keep s).σ n=(lookB r s.sto).ren f/\κ'.nm n=κ.nm r/\(lookB r s.sto)≠.none/\((n<m0/\r=n)\/(m0<=n/\os[n - m0]? = some r)):=by
  intro n hn
  rw[hlook] at hn ⊢
  by_cases hlt:n<m0
  ·rw[if_pos hlt] at hn ⊢
   refine⟨n,rfl,by simp[κ',nm',hlt],fun e=>hn (by rw[e];rfl),.inl ⟨hlt,rfl⟩⟩
  ·rw[if_neg hlt] at hn ⊢
   cases hr:os[n - m0]? with
   | none=>rw[hr] at hn;exact absurd rfl hn
   | some r=>
     rw[hr] at hn
     simp only at hn ⊢
     refine⟨r,rfl,?_,fun e=>hn (by rw[e];rfl),.inr ⟨by omega,rfl⟩⟩
     simp only[κ',nm']
     rw[if_neg hlt,hr]
 have hinj:∀ n n' r,((n<m0/\r=n)\/(m0<=n/\os[n - m0]? = some r))->((n'<m0/\r=n')\/(m0<=n'/\os[n' - m0]? = some r))->n=n':=by
  intro n n' r h1 h2
  rcases h1 with ⟨a1,a2⟩ | ⟨a1,a2⟩<;>rcases h2 with ⟨b1,b2⟩ | ⟨b1,b2⟩
  ·omega
  ·have:=hge r (WK b2);omega
  ·have:=hge r (WK a2);omega
  ·have hlt:n - m0<os.length:=(WH.1 a2).1
   have:=(List.getElem?_inj hlt hnd).1 (a2.trans b2.symm)
   omega
 refine⟨κ',h.w_eq,he0,⟨fun n=>?_,fun n n' d d' b h1 h2 hne hd hd' hb=>?_,fun n d b h1 hd hb=>?_,hS.immLt,hS.glob⟩,⟨h.left.os,h.left.tape,h.left.output,h.left.size,h.left.block,h.left.imm⟩,fun i=>?_,h.size,h.defers,fun r hr=>?_⟩
 ·by_cases hn:(Go.Ab.norm m0 keep s).σ n = .none
  ·rw[hn];trivial
  ·obtain⟨r,e1,e2,e3,_⟩:=hold n hn
   rw[e1]
   have hB:=hS.blk r
   have hB:fM κ r (lookB r s.sto):=hB
   cases hl:lookB r s.sto with
   | none=>exact absurd hl e3
   | cells T b l=>
     rw[hl] at hB
     rcases hB with ⟨k1,k2,k3⟩ | ⟨bb,n',cs,k1,k2,k3,k4,k5,k6,k7⟩
     ·exact .inl ⟨k1,by rw[k2];simp only[AV.renL],by rw[e2];exact k3⟩
     obtain⟨q1,q2⟩:=fq (κ:=κ) (κ':=κ') rfl rfl hf l cs k6
     exact .inr ⟨bb,n',cs,by rw[e2];exact k1,k2,k3,by rw[q1];exact k4,fun hb=>by rw[q1];exact k5 hb,q2,k7⟩
   | tok e sz=>
     rw[hl] at hB
     rcases hB with k1 | ⟨g,n',cap,cur,k1,k2⟩
     ·exact .inl (by rw[e2];exact k1)
     exact .inr ⟨g,n',cap,cur,by rw[e2];exact k1,k2⟩
   | mp l=>
     rw[hl] at hB
     obtain⟨b,es,ck,k1,k2⟩:=hB
     exact⟨b,es,ck,by rw[e2];exact k1,k2⟩
   | bts e l=>
     rw[hl] at hB
     obtain⟨b,n',cs,fz,k1,k2⟩:=hB
     exact⟨b,n',cs,fz,by rw[e2];exact k1,k2⟩
 ·obtain⟨r,e1,e2,e3,e4⟩:=hold n h1
  obtain⟨r',f1,f2,f3,f4⟩:=hold n' h2
  rw[e2] at hd;rw[f2] at hd'
  refine hS.apart r r' d d' b e3 f3 ?_ hd hd' hb
  rintro rfl
  exact hne (hinj n n' r e4 f4)
 ·obtain⟨r,e1,e2,e3,e4⟩:=hold n h1
  rw[e2] at hd
  exact hS.mine r d b e3 hd hb
 ·show ARel κ' (look i (keep.map fun i=>(i,(s.E i).ren f))) _
  rw[pE keep (fun i=>(s.E i).ren f) i]
  split
  ·exact tB (κ:=κ) (κ':=κ') rfl rfl hf _ _ (h.env i)
  ·exact .any _
 ·have hr':m0+os.length<=r:=hr
  simp only[κ',nm']
  rw[if_neg (by omega),List.getElem?_eq_none (by omega)]
end
theorem Wk.norm (m0:Nat)(keep:List Nat)(s:St):Wk m0 s (norm m0 keep s):=fun c κ0 κ N a w h0 hr=>hr.norm h0 keep
section
variable {P:Program}{c:Ctx}{κ0 κ:Kap}{N:Nat}{s:St}{a:Act}{w:World}
def ib (κ:Kap)(σ:aE)(b:Nat):Prop:=∃ r d,σ r≠.none/\κ.nm r=some d/\d.block=some b
theorem ib.lt {σ:aE}{b:Nat}(hS:SRel c κ σ)(h:ib κ σ b):b<κ.w.heap.size:=by
 obtain⟨r,d,h1,h2,h3⟩:=h
 exact (hS.blk r).lt h1 h2 h3
def LO (κ:Kap)(σ:aE)(G:Nat->List PV):Ctx:=⟨κ.w,ib κ σ,G,true⟩
def Ctx.round (c:Ctx):Ctx:=⟨c.w0,c.lent,c.G,true⟩
theorem Rel.rebase (h:Rel c κ0 N s a w κ)(nmb:Nat->Option Den)(hn:∀ r d,nmb r=some d->κ.nm r=some d):Rel (LO κ s.σ c.G) ⟨κ.w,nmb,κ.imm⟩ N s a w κ:=by
 have hS:=h.rel
 refine⟨h.w_eq,⟨fun _ _ h=>h,fun _ _ _ _ h=>h,hn,fun _ _ h _=>h⟩,⟨hS.blk,hS.apart,fun r d b h1 h2 h3=>.inr ⟨r,d,h1,h2,h3⟩,hS.immLt,hS.glob.1,fun g hg=>?_⟩,
  ⟨rfl,rfl,rfl,WX _,fun _ _ _=>rfl,fun _ _ h=>.inl h⟩,h.env,h.size,.inl rfl,h.fresh⟩
 obtain⟨h1,h2,cs,T,fz,h3,h4⟩:=hS.glob.2 g hg
 refine⟨(WU.1 h3).1,?_,cs,T,fz,h3,h4⟩
 rintro⟨r,d,k1,k2,k3⟩
 exact fy h1 h2 (hS.mine r d g k1 k2 k3)
theorem Rel.upward (h:Rel c κ0 N s a w κ){nmb:Nat->Option Den}{s1:St}{a1:Act}{w1:World}{κ1:Kap}(h1:Rel (LO κ s.σ c.G) ⟨κ.w,nmb,κ.imm⟩ N s1 a1 w1 κ1)(he:Ext κ0 ⟨κ.w,nmb,κ.imm⟩) :
  Ext κ0 κ1/\SRel c κ1 s1.σ/\Left c κ0.imm κ1:=by
 have hl0:=h.left
 have hL:=h1.left
 have hS:=h1.rel
 have hlm:∀ b,ib κ s.σ b->c.mine b:=fun b ⟨r,d,h1,h2,h3⟩=>h.rel.mine r d b h1 h2 h3
 have hmine:∀ b,(LO κ s.σ c.G).mine b->c.mine b:=by
  intro b hb
  rcases hb with hb | hb
  ·exact .inl (Xv hl0.size hb)
  ·exact hlm b hb
 refine⟨he.trans h1.ext0,⟨hS.blk,hS.apart,fun r d b h1 h2 h3=>hmine b (hS.mine r d b h1 h2 h3),hS.immLt,hS.glob.1,fun g hg=>?_⟩,
  ⟨hL.os.trans hl0.os,hL.tape.trans hl0.tape,hL.output.trans hl0.output,Xv hl0.size hL.size,fun b hlt hl=>?_,fun b o hi=>?_⟩⟩
 ·obtain⟨g1,g2,cs,T,fz,g3,g4⟩:=h.rel.glob.2 g hg
  exact⟨g1,g2,cs,T,fz,(hL.block g (WU.1 g3).1 fun hl=>fy g1 g2 (hlm g hl)).trans g3,g4⟩
 ·refine (hL.block b (W0 hlt hl0.size) fun hn=>?_).trans (hl0.block b hlt hl)
  rcases hlm b hn with h4 | h4
  ·omega
  ·exact hl h4
 ·rcases hL.imm b o hi with h1 | h1
  ·exact hl0.imm b o h1
  ·exact .inr (hmine b h1)
theorem Rel.lift (h:Rel c κ0 N s a w κ){s1:St}{a1:Act}{w1:World}{κ1:Kap}(h1:Rel (LO κ s.σ c.G) κ N s1 a1 w1 κ1):Rel c κ0 N ⟨s.env,s1.sto,s1.next⟩ a w1 κ1:=by
 obtain⟨k1,k2,k3⟩:=h.upward (nmb:=κ.nm) h1 h.ext0
 exact⟨h1.w_eq,k1,k2,k3,fun i=>(h.env i).ext h1.ext0,h.size,h.defers.ext h1.ext0,h1.fresh⟩
theorem Rel.lift2 (h:Rel c κ0 N s a w κ){s1:St}{a1:Act}{w1:World}{κ1:Kap}(h1:Rel (LO κ s.σ c.G) κ N s1 a1 w1 κ1):Rel c.round κ0 N s1 a1 w1 κ1:=by
 obtain⟨k1,k2,k3⟩:=h.upward (nmb:=κ.nm) h1 h.ext0
 exact⟨h1.w_eq,k1,⟨k2.blk,k2.apart,k2.mine,k2.immLt,k2.glob⟩,⟨k3.os,k3.tape,k3.output,k3.size,k3.block,k3.imm⟩,h1.env,h1.size,.inl rfl,h1.fresh⟩
theorem Wk.sub {m0:Nat}{s':St}(hW:Wk m0 s s')(h0:∀ r,m0<=r->κ0.nm r=none)(h:Rel c κ0 N s a w κ) :
  ∃ κ',Rel c κ0 N s' a w κ'/\(∀ b o,κ.imm b o->κ'.imm b o)/\∀ b,ib κ' s'.σ b->ib κ s.σ b:=by
 let nmb:Nat->Option Den:=fun r=>if r<m0 then κ.nm r else none
 have hr:=h.rebase nmb (fun r d hd=>by
  simp only[nmb] at hd
  split at hd
  ·exact hd
  ·cases hd)
 obtain⟨κ',h'⟩:=hW _ ⟨κ.w,nmb,κ.imm⟩ κ N a w (fun r hr=>by simp only[nmb];rw[if_neg (by omega)]) hr
 have he0:Ext κ0 ⟨κ.w,nmb,κ.imm⟩:=by
  refine⟨h.ext0.imm,h.ext0.cell,fun r d hd=>?_,h.ext0.obj⟩
  have hlt:r<m0:=by
   rcases XU r m0 with h1 | h1
   ·exact h1
   ·rw[h0 r h1] at hd;cases hd
  simp only[nmb]
  rw[if_pos hlt];exact h.ext0.nm r d hd
 obtain⟨k1,k2,k3⟩:=h.upward h' he0
 have hw:κ'.w=κ.w:=h'.w_eq.trans h.w_eq.symm
 have hm:ee c κ' a.defers:=by
  rcases h.defers with hm | ⟨Ds,m1,m2,m3⟩
  ·exact .inl hm
  ·exact .inr ⟨Ds,m1,m2,fun D hD=>⟨(m3 D hD).1,by rw[hw];exact (m3 D hD).2⟩⟩
 refine⟨κ',⟨h'.w_eq,k1,k2,k3,h'.env,h'.size,hm,h'.fresh⟩,fun b o hi=>h'.ext0.imm b o hi,fun b hn=>?_⟩
 have hlt:=hn.lt h'.rel
 obtain⟨r,d,q1,q2,q3⟩:=hn
 rcases h'.rel.mine r d b q1 q2 q3 with h4 | h4
 ·rw[hw] at hlt;exact absurd hlt (Nat.not_lt.2 h4)
 ·exact h4
theorem Rel.turn (h:Rel c κ0 N s a w κ)(hk:κ0.w.heap.size<=c.w0.heap.size){w':World}(h1:w'.os=w.os)(h2:w'.tape=w.tape)(h3:w'.output=w.output)(h4:w.heap.size<=w'.heap.size)
  (h5:∀ (b:Nat) (o:Obj),w.heap[b]? = some o->Iw o=true->w'.heap[b]? = some o) (h6:∀ b,b<c.w0.heap.size->w'.heap[b]? = w.heap[b]?) {ds:List Deferred} (hm:ee c ⟨w',κ.nm,κ.imm⟩ ds) :
  Rel c κ0 N s ⟨a.tmps,ds⟩ w' ⟨w',κ.nm,κ.imm⟩:=by
 have hw:=h.w_eq
 subst hw
 have hc:∀ b o v,κ.w.cell? ⟨b,o,none⟩=some v->w'.cell? ⟨b,o,none⟩=some v:=fun b o v hv=>by
  obtain⟨q,hq,hqc⟩:=cells_of_cell hv
  exact (World.cell?_of_block (a:=⟨b,o,none⟩) ((h5 b q hq (by cases q<;>first | rfl | cases hqc)).trans hq.symm)).trans hv
 have hx:∀ x v,ARel κ x v->ARel ⟨w',κ.nm,κ.imm⟩ x v:=fun x v hx=>ARel.extC (κ:=κ) (κ':=⟨w',κ.nm,κ.imm⟩) (fun _ _ h=>h) (fun b o v _ hv=>hc b o v hv) (fun _ _ h=>h) hx
 have hS:=h.rel
 refine⟨rfl,⟨h.ext0.imm,fun b o v hi hv=>hc _ _ _ (h.ext0.cell b o v hi hv),h.ext0.nm,fun b o ho hb=>?_⟩,⟨fun r=>?_,hS.apart,hS.mine,fun b o hi=>W0 (hS.immLt b o hi) h4,fun g o p hp=>?_,fun g hg=>?_⟩,
  ⟨h1.trans h.left.os,h2.trans h.left.tape,h3.trans h.left.output,Xv h.left.size h4,fun b hb hl=>(h6 b hb).trans (h.left.block b hb hl),h.left.imm⟩,fun i=>hx _ _ (h.env i),h.size,hm,h.fresh⟩
 ·exact (h6 b (W0 (WU.1 ho).1 hk)).trans (h.ext0.obj b o ho hb)
 ·refine (hS.blk r).keepC hx (fun _ _ hp=>PRel.mono (w:=κ.w) (w':=w') (imm:=κ.imm) (imm':=κ.imm) (fun _ _ h=>h) (fun b o v _ hv=>hc b o v hv) hp) (fun _ _ h=>h) fun hB d b hd hb=>⟨?_,fun o ho=>ho⟩
  have hlt:=(hS.blk r).lt hB hd hb
  obtain⟨o,ho⟩:∃ o,κ.w.heap[b]? = some o:=⟨_,Array.getElem?_eq_getElem hlt⟩
  exact (h5 b o ho ((hS.blk r).isCells hB hd hb ho)).trans ho.symm
 ·obtain⟨q1,v,q2,q3,q4⟩:=hS.glob.1 g o p hp
  exact⟨q1,v,hc _ _ _ q2,q3,PRel.mono (w:=κ.w) (w':=w') (imm:=κ.imm) (imm':=κ.imm) (fun _ _ h=>h) (fun b o v _ hv=>hc b o v hv) q4⟩
 ·obtain⟨q1,q2,cs,T,fz,q3,q4⟩:=hS.glob.2 g hg
  exact⟨q1,q2,cs,T,fz,h5 g _ q3 rfl,q4⟩
theorem ee.keep {ds:List Deferred}(h:ee c κ ds){w':World}(hk:∀ (D:Nat),κ.w.heap[D]? = some (.deferred (some []))->w'.heap[D]? = some (.deferred (some []))):ee c ⟨w',κ.nm,κ.imm⟩ ds:=by
 rcases h with h | ⟨Ds,m1,m2,m3⟩
 ·exact .inl h
 ·exact .inr ⟨Ds,m1,m2,fun D hD=>⟨(m3 D hD).1,hk D (m3 D hD).2⟩⟩
theorem Rel.below (h:Rel c κ0 N s a w κ)(hk:κ0.w.heap.size<=c.w0.heap.size){w':World}(hb:Below w.heap.size w w'):Rel c κ0 N s a w' ⟨w',κ.nm,κ.imm⟩:=by
 have hw:=h.w_eq
 have hsz:=h.left.size
 rw[hw] at hsz
 exact h.turn hk (ds:=a.defers) hb.os hb.tape hb.output hb.size (fun b o ho _=>(hb.block b (WU.1 ho).1).trans ho) (fun b hlt=>hb.block b (by omega))
  (h.defers.keep fun D hD=>by rw[hw] at hD;exact (hb.block D (WU.1 hD).1).trans hD)
theorem Rel.putObj (h:Rel c κ0 N s a w κ)(hk:κ0.w.heap.size<=c.w0.heap.size){l:Nat}{o:Obj}(o':Obj)(hl:w.heap[l]? = some o)(ho:Iw o=false)(hc:c.w0.heap.size<=l){ds:List Deferred}
  (hm:ee c ⟨w.putObj l o',κ.nm,κ.imm⟩ ds):Rel c κ0 N s ⟨a.tmps,ds⟩ (w.putObj l o') ⟨w.putObj l o',κ.nm,κ.imm⟩:=
 h.turn (w':=w.putObj l o') hk rfl rfl rfl (by simp) (fun b q hq hqc=>by
  have:b≠l:=by rintro rfl;rw[hl] at hq;cases hq;rw[ho] at hqc;cases hqc
  exact (World.putObj_heap_other this).trans hq) (fun b hb=>World.putObj_heap_other (by omega)) hm
theorem Rel.more (h:Rel c κ0 N s a w κ){im:Nat->Nat->Prop}(h1:∀ b o,im b o->b<w.heap.size)(h2:∀ b o,im b o->ib κ s.σ b->κ.imm b o)(h3:∀ b o,im b o->κ0.imm b o\/c.mine b) :
  Rel c κ0 N s a w ⟨κ.w,κ.nm,fun b o=>κ.imm b o\/im b o⟩:=by
 have hw:=h.w_eq
 subst hw
 have hS:=h.rel
 have he:Ext κ ⟨κ.w,κ.nm,fun b o=>κ.imm b o\/im b o⟩:=⟨fun _ _ h=>.inl h,fun _ _ _ _ h=>h,fun _ _ h=>h,fun _ _ h _=>h⟩
 refine⟨rfl,h.ext0.trans he,⟨fun r=>?_,hS.apart,hS.mine,fun b o ho=>ho.elim (hS.immLt b o) (h1 b o),Wr he hS.glob fun _ _ _=>rfl⟩,⟨h.left.os,h.left.tape,h.left.output,h.left.size,h.left.block,fun b o ho=>ho.elim (h.left.imm b o) (h3 b o)⟩,
  fun i=>(h.env i).ext he,h.size,h.defers.ext he,h.fresh⟩
 by_cases hB:s.σ r = .none
 ·rw[hB];trivial
 ·exact (hS.blk r).keep he fun _ d b hd hb=>⟨rfl,fun o ho=>ho.elim _root_.id fun hi=>h2 b o hi ⟨r,d,hB,hd,hb⟩⟩
theorem oc:∀ (ps:List Nat) (vs:List Value) (x:List PV) (e:List (Nat×AV)) (t:Array Value),(∀ i,ARel κ (look i e) (t.getD i Go.undef))->t.size=N->Q2 N ps=true->vs.length=ps.length->x.length=ps.length ->
  (∀ (j:Nat) (y:PV),x[j]? = some y->PRel κ.w κ.imm y (vs.getD j Go.undef)) ->
  (∀ i,ARel κ (look i (Im ps x e)) (((ps.zip vs).foldl (fun t (p,v)=>t.setIfInBounds p v) t).getD i Go.undef))/\((ps.zip vs).foldl (fun (t:Array Value) (p,v)=>t.setIfInBounds p v) t).size=N
 | [],vs,x,e,t,h1,h2,_,_,h5,_=>by
   have:x=[]:=by simpa using h5
   subst this
   exact⟨h1,h2⟩
 | p::ps,[],x,e,t,h1,h2,_,h4,_,_=>by simp at h4
 | p::ps,v::vs,[],e,t,h1,h2,_,_,h5,_=>by simp at h5
 | p::ps,v::vs,x::xs,e,t,h1,h2,h3,h4,h5,h6=>by
   simp only[Q2,WT,decide_eq_true_eq] at h3
   simp only[Im,List.zip_cons_cons,List.foldl_cons]
   refine oc ps vs xs ((p,.pv x)::e) (t.setIfInBounds p v) (fun i=>?_) (by simpa using h2) h3.2 (by simpa using h4) (by simpa using h5) (fun j y hy=>by simpa using h6 (j+1) y (by simpa using hy))
   simp only[look]
   by_cases hi:p=i
   ·subst hi
    rw[if_pos rfl]
    have:(t.setIfInBounds p v).getD p Go.undef=v:=by simp[WM,h2,h3.1.1]
    rw[this];exact .pv _ _ (by simpa using h6 0 x rfl)
   ·rw[if_neg hi]
    have:(t.setIfInBounds p v).getD i Go.undef=t.getD i Go.undef:=by
     simp only[WM,Array.getElem?_setIfInBounds]
     rw[if_neg hi]
    rw[this];exact h1 i
end
def lift (c:Ctx)(κ0:Kap)(N:Nat)(Q:AExit->St->Prop):Exit->Act->World->Prop
 | .normal,a,w=>∃ s κ,Rel c κ0 N s a w κ/\Q .norm s
 | .exit id,a,w=>∃ s κ,Rel c κ0 N s a w κ/\Q (.exit id) s
 | .ret,a,w=>∃ s κ,Rel c κ0 N s a w κ/\Q .ret s
 | _,_,_=>False
theorem lG {F:Fence}{nf:Nat}{P:Program}{co:Code}{Q:Exit->Act->World->Prop}{a:Act}{w:World}(J:Nat->Act->World->Prop)(h:∃ n,J n a w)
  (round:∀ n a w,J n a w->co.wpIn F nf P (Exit.then (fun a' w'=>∃ n',n'<n/\J n' a' w') Q) a w):(Code.loop co).wpIn F nf P Q a w:=by
 classical
 have least:∀ a w,(∃ n,J n a w)->∃ n,J n a w/\∀ k,J k a w->n<=k:=by
  rintro a w ⟨n,hn⟩
  induction n using Nat.strongRecOn with
  | _ n ih=>
    by_cases h:∃ k,k<n/\J k a w
    ·obtain⟨k,h1,h2⟩:=h
     exact ih k h1 h2
    ·exact⟨n,hn,fun k hk=>Nat.le_of_not_lt fun hlt=>h ⟨k,hlt,hk⟩⟩
 let μ:Act->World->Nat:=fun a w=>if h:∃ n,J n a w then Classical.choose (least a w h) else 0
 have hμ:∀ a w n,J n a w->μ a w<=n/\J (μ a w) a w:=by
  intro a w n hn
  have hx:∃ n,J n a w:=⟨n,hn⟩
  simp only[μ,dif_pos hx]
  have:=Classical.choose_spec (least a w hx)
  exact⟨this.2 n hn,this.1⟩
 refine wpIn_loop (fun a w=>∃ n,J n a w) μ h fun a w ⟨n,hn⟩=>?_
 refine wpIn_mono (round _ a w (hμ a w n hn).2) ?_
 intro e a' w' hq
 cases e with
 | normal=>
   obtain⟨n',h1,h2⟩:=hq
   exact⟨⟨n',h2⟩,Nat.lt_of_le_of_lt (hμ a' w' n' h2).1 h1⟩
 | _=>exact hq
section
variable {P:Program}{c:Ctx}{κ0:Kap}{N:Nat}
theorem sH {G:Nat->List PV}{m0:Nat}{Q:AExit->St->Prop}{s:St}(h:vc P G m0 (.ops [⟨none,kV,none⟩] []) Q s):False:=by
 simp[vc,ef,cH,OW,nA,kV,AX.ev,ed,aV] at h
theorem tF {muts:List Nat}{assign body:Code}{g:Operand}{ps:Array Tmp}{f:AX}{Q:AExit->St->Prop}{m0 nf:Nat}{va vb:Nat->(AExit->St->Prop)->St->Prop}{s:St}{a:Act}{w:World}{κ:Kap}
  (hA:∀ (c1:Ctx) (κ1:Kap) (m1 l n:Nat) (Q:AExit->St->Prop) (s:St) (a:Act) (w:World) (κ:Kap),c1.G=c.G->(∀ r,m1<=r->κ1.nm r=none)->κ1.w.heap.size<=c1.w0.heap.size->Rel c1 κ1 N s a w κ->va m1 Q s->assign.wpIn (FR (some l)) n P (lift c1 κ1 N Q) a w)
  (hB:∀ (c1:Ctx) (κ1:Kap) (m1 l n:Nat) (Q:AExit->St->Prop) (s:St) (a:Act) (w:World) (κ:Kap),c1.G=c.G->(∀ r,m1<=r->κ1.nm r=none)->κ1.w.heap.size<=c1.w0.heap.size->Rel c1 κ1 N s a w κ->vb m1 Q s->body.wpIn (FR (some l)) n P (lift c1 κ1 N Q) a w)
  (hg:cX g=some f) (hps:Q2 N ps.toList=true) (h0:∀ r,m0<=r->κ0.nm r=none) (hk:κ0.w.heap.size<=c.w0.heap.size) (hR:Rel c κ0 N s a w κ) (hv:K9 P c.G va vb m0 f ps.toList Q s) :
  (Code.rangeFunc g ps assign body).wpIn (FR none) nf P (lift c κ0 N Q) a w:=by
 obtain⟨I,s0,hW,hI0,hv⟩:=hv
 obtain⟨κ,hR⟩:=hW c κ0 κ N a w h0 hR
 have hw:=hR.w_eq
 subst hw
 simp only[aV] at hv
 split at hv
 rotate_left
 ·exact hv.elim
 rename_i p hp
 obtain⟨hfs,lb,xs,hlb,⟨hcal,hseq⟩,hrnd,hdone⟩:=hv
 obtain⟨vs,us,hfun,hvs,hus,_,hu1⟩:=FA (aH (κ:=κ) (E:=s0.E) (a:=a) hg (fun i _=>hR.env i)) hp
 have hvs0:vs = #[]:=by rw[hfs] at hvs;exact Array.eq_empty_of_size_eq_zero hvs
 subst hvs0
 have hc0:c.w0.heap.size<=κ.w.heap.size:=hR.left.size
 refine wpIn_rangeFunc fun fn _=>?_
 let D:=κ.w.heap.size
 let L:LoopState->Option Code->Obj:=fun st pe=>.loop { state:=st,pending:=pe,fn:=fn,tmps:=a.tmps,params:=ps,assign:=assign,body:=body,defers:=D }
 let W1:=(κ.w.alloc (.deferred (some []))).alloc (L .ready none)
 have g1:W1.heap[D+1]? = some (L .ready none):=by
  have:=World.alloc_heap_new (κ.w.alloc (.deferred (some []))) (L .ready none)
  rwa [World.size_alloc] at this
 have g2:W1.heap[D]? = some (.deferred (some [])):=(Below.heap_alloc _ _ _ (by simp[D])).trans (World.alloc_heap_new κ.w _)
 have gb:Below κ.w.heap.size κ.w W1:=((Below.refl _ κ.w).alloc (WX _) _).alloc (by simp) _
 have hR1:=hR.below hk gb
 have he1:Ext κ ⟨W1,κ.nm,κ.imm⟩:=⟨fun _ _ h=>h,fun b o v hi hc=>(World.cell?_of_block (a:=⟨b,o,none⟩) (gb.block b (World.block_lt_of_cell? κ.w _ hc))).trans hc,fun _ _ h=>h,fun b o ho _=>(gb.block b (WU.1 ho).1).trans ho⟩
 have hlt:∀ {W:World} {o:Obj} {k:Nat},W.heap[k]? = some o->k<W.heap.size:=fun h=>(WU.1 h).1
 have hDs:∀ {Ds:List Nat},a.defers=Ds.map Ll->(c.rnd=true\/D∉Ds):=by
  intro Ds hd
  rcases hR.defers with h | ⟨Es,m1,m2,m3⟩
  ·exact .inl h
  ·refine .inr fun hm=>?_
   have:Ll D∈Es.map Ll:=by rw[<- m1,hd];exact Xo.2 ⟨D,hm,rfl⟩
   obtain⟨E,hE,hEe⟩:=Xo.1 this
   have hED:E=D:=by simpa[Ll] using hEe
   have:=hlt (m3 E hE).2
   omega
 have markD:∀ {W:World} {κ':Kap} {o':Obj},ee c κ' a.defers->κ'.w=W->W.heap[D]? = some (.deferred (some []))->W.heap[D+1]?≠none->(∀ k:Nat,k≠D+1->(W.putObj (D+1) o').heap[k]? = W.heap[k]?)->(∀ q,W.heap[D+1]?≠some (.deferred q))->ee c ⟨W.putObj (D+1) o',κ'.nm,κ'.imm⟩ (Ll D::a.defers):=by
  intro W κ' o' hm hw hD _ hput hnd
  have hkeep:∀ (E:Nat),W.heap[E]? = some (.deferred (some []))->(W.putObj (D+1) o').heap[E]? = some (.deferred (some [])):=fun E hE=>by
   rw[hput E (by rintro rfl;exact hnd _ hE)];exact hE
  rcases hm with h | ⟨Es,m1,m2,m3⟩
  ·exact .inl h
  ·rcases hDs m1 with h | h
   ·exact .inl h
   ·refine .inr ⟨D::Es,by rw[m1];rfl,List.nodup_cons.2 ⟨h,m2⟩,fun E hE=>?_⟩
    rcases W9.1 hE with rfl | hE
    ·exact⟨hc0,hkeep _ hD⟩
    ·exact⟨(m3 E hE).1,hkeep _ (by rw[<- hw];exact (m3 E hE).2)⟩
 let J:Nat->(Nat->Nat->Prop)->World->Prop:=fun i O W=>∃ s' κ',I i s'/\Rel c κ0 N s' a W κ'/\(∀ b o,O b o↔((ib κ' s'.σ b/\¬ κ'.imm b o)\/b=D\/b=D+1))/\W.heap[D+1]? = some (L .ready none)/\W.heap[D]? = some (.deferred (some []))
 let Jx:World->Prop:=fun W=>∃ cd s' κ',((cd = .ret/\Q .ret s')\/∃ id,cd = .exit id/\Q (.exit id) s')/\Rel c κ0 N s' a W κ'/\W.heap[D+1]? = some (L .done (some cd))/\W.heap[D]? = some (.deferred (some []))
 refine⟨D+1,[Ll D],W1,{ target:=.fn (.func p.1) us,args:=#[.func (.yield (D+1)) #[] #[]] },W1,p.1,#[.func (.yield (D+1)) #[] #[]]++us,W1,run_enterLoop_outer _ _ _ _ _,?_,fun _ _=>trivial,?_,fun h=>absurd h (yj none),?_⟩
 ·simp only[resolve,hfun];simp[go_sem]
 ·simp[invoke,go_sem,gJ hcal]
 have hmain:=hseq W1 κ.imm us (D+1) J Jx (fun b o=>(ib κ s0.σ b/\¬ κ.imm b o)\/b=D\/b=D+1) hR1.rel.glob.ok (fun b o hi=>?_) (hus.trans (by simpa using (cz hlb).symm)) (fun i x hx=>?_) ?_ ?_ ?_ ⟨s0,_,hI0,hR1,fun _ _=>Iff.rfl,g1,g2⟩
 ·refine CallsIn.mono (show CallsIn (FR none) (nf - 1) P p.1 _ W1 _ from (callsIn_wide (n:=nf - 1)).2 ((callsIn_wide (n:=0)).1 hmain)) ?_
  rintro e W2 ⟨⟨v,rfl⟩,⟨O',s',κ',hI,hR',hO,hL,hD⟩ | ⟨cd,s',κ',hQ,hR',hL,hD⟩⟩
  ·have hRe:=hR'.putObj hk (L .exhausted none) hL rfl (by omega) (markD hR'.defers hR'.w_eq hD (by rw[hL];simp) (fun k hk=>World.putObj_heap_other hk) (fun q hq=>by rw[hL] at hq;cases hq))
   exact⟨none,_,run_endLoop hL (by simp),s',_,hRe,hdone s' hI⟩
  ·have hRe:=hR'.putObj hk (L .exhausted (some cd)) hL rfl (by omega) (markD hR'.defers hR'.w_eq hD (by rw[hL];simp) (fun k hk=>World.putObj_heap_other hk) (fun q hq=>by rw[hL] at hq;cases hq))
   refine⟨some cd,_,run_endLoop hL (by simp),?_⟩
   rcases hQ with ⟨rfl,hQ⟩ | ⟨id,rfl,hQ⟩
   ·exact wpIn_ret ⟨s',_,hRe,hQ⟩
   ·exact wpIn_exit ⟨s',_,hRe,hQ⟩
 ·have h1:=hR.rel.immLt b o hi
  refine⟨W0 h1 gb.size,?_⟩
  rintro (⟨_,h⟩ | h | h)
  ·exact h hi
  ·omega
  ·omega
 ·obtain⟨y,hy,hq⟩:=dj hlb i x hx
  exact cr hq ((hu1 i y hy).ext he1)
 ·rintro i O W W' ⟨s',κ',q1,q2,q3,q4,q5⟩ hb
  exact⟨s',_,q1,q2.below hk hb,q3,(hb.block _ (hlt q4)).trans q4,(hb.block _ (hlt q5)).trans q5⟩
 ·rintro i O W b o ⟨s',κ',q1,q2,q3,q4,q5⟩ ho
  rcases (q3 b o).1 ho with ⟨h,_⟩ | rfl | rfl
  ·have:=h.lt q2.rel
   rwa [q2.w_eq] at this
  ·exact hlt q5
  ·exact hlt q4
 ·rintro m i x O W vals imm' kp ⟨s',κ',hI,hR',hO,hL,hD⟩ hx hsz hpx him hkp hkO
  have hw':=hR'.w_eq
  subst hw'
  obtain⟨hlen,hva⟩:=hrnd i x s' hx hI
  have hnot:∀ b o,kp b o->ib κ' s'.σ b->κ'.imm b o:=fun b o h hn=>Classical.byContradiction fun hc=>(hkO b o h).2 ((hO b o).2 (.inl ⟨hn,hc⟩))
  have hneD:∀ b o,kp b o->b≠D/\b≠D+1:=fun b o h=>⟨fun e=>(hkO b o h).2 ((hO b o).2 (.inr (.inl e))),fun e=>(hkO b o h).2 ((hO b o).2 (.inr (.inr e)))⟩
  have hM:=hR'.more (im:=imm') (fun b o h=>(hkO b o (hkp b o h)).1) (fun b o h hn=>hnot b o (hkp b o h) hn) (fun b o h=>by
   rcases him b o h with h | h
   ·exact hR.left.imm b o h
   ·exact .inr (.inl (by have:=gb.size;omega)))
  obtain⟨e1,e2⟩:=oc (κ:=⟨κ'.w,κ'.nm,fun b o=>κ'.imm b o\/imm' b o⟩) (N:=N) ps.toList vals.toList x s'.env a.tmps hM.env hM.size hps (by simp[hsz,hlen]) hlen (fun j y hy=>by
   rw[<- aL]
   exact (hpx j y hy).mono (fun _ _ h=>.inr h) (fun _ _ _ _ h=>h))
  have hfold:(ps.zip vals).foldl (fun (t:Array Value) (p,v)=>t.setIfInBounds p v) a.tmps=(ps.toList.zip vals.toList).foldl (fun (t:Array Value) (p,v)=>t.setIfInBounds p v) a.tmps:=by
   rw[<- Array.foldl_toList,Array.toList_zip]
  rw[<- hfold] at e1 e2
  have hP:Rel c κ0 N ⟨Im ps.toList x s'.env,s'.sto,s'.next⟩ ⟨(ps.zip vals).foldl (fun (t:Array Value) (p,v)=>t.setIfInBounds p v) a.tmps,[]⟩ κ'.w ⟨κ'.w,κ'.nm,fun b o=>κ'.imm b o\/imm' b o⟩:=
   ⟨rfl,hM.ext0,hM.rel,hM.left,e1,e2,ee.nil _ _,hM.fresh⟩
  have hb1:=hP.rebase κ'.nm (fun _ _ h=>h)
  refine⟨fn,_,assign,body,run_yield hL (by simp[hsz,hlen]),roundIn_of_wpIn trivial (Go.wpIn_mono (hA (LO ⟨κ'.w,κ'.nm,fun b o=>κ'.imm b o\/imm' b o⟩ s'.σ c.G) ⟨κ'.w,κ'.nm,fun b o=>κ'.imm b o\/imm' b o⟩ s'.next (D+1) m _ _ _ _ _ rfl (fun r hr=>hR'.fresh r hr) (WX _) hb1 hva) ?_)⟩
  intro e a2 w2 hq
  cases e with
  | exit id=>obtain⟨_,_,_,hf⟩:=hq;exact hf.elim
  | ret=>obtain⟨_,_,_,hf⟩:=hq;exact hf.elim
  | goto t=>exact hq.elim
  | panic ch=>exact hq.elim
  | outgrown=>exact hq.elim
  | normal=>
    obtain⟨s2,κ2,hR2,hv2⟩:=hq
    have hw2:=hR2.w_eq
    subst hw2
    have hL2:κ2.w.heap[D+1]? = some (L .ready none):=hR2.ext0.obj _ _ hL rfl
    have hD2:κ2.w.heap[D]? = some (.deferred (some [])):=hR2.ext0.obj _ _ hD rfl
    refine⟨_,run_beginRound hL2 rfl,?_⟩
    let W3:=κ2.w.putObj (D+1) (L .busy none)
    have hmk:∀ {K:Kap} {o o':Obj} {ds:List Deferred},ee c K ds->K.w.heap[D+1]? = some o->(∀ q,o≠.deferred q)->ee c ⟨K.w.putObj (D+1) o',K.nm,K.imm⟩ ds:=by
     intro K o o' ds hm hl ho
     exact hm.keep fun E hE=>by
      have:E≠D+1:=by rintro rfl;rw[hl] at hE;cases hE;exact ho _ rfl
      exact (World.putObj_heap_other this).trans hE
    have o2:=hM.lift (s1:=s2) hR2
    have o3:=o2.putObj hk (L .busy none) hL2 rfl (by omega) (hmk o2.defers hL2 (fun q h=>by cases h))
    have i2:=hP.lift2 hR2
    have i3:=i2.putObj (c:=c.round) hk (L .busy none) hL2 rfl (show c.w0.heap.size<=D+1 by omega) (ds:=a2.defers) (.inl rfl)
    have hb3:=i3.rebase κ2.nm (fun _ _ h=>h)
    have hL3:W3.heap[D+1]? = some (L .busy none):=World.putObj_heap_same (hlt hL2)
    have hD3:W3.heap[D]? = some (.deferred (some [])):=(World.putObj_heap_other (by omega)).trans hD2
    refine Go.wpIn_mono (hB (LO ⟨W3,κ2.nm,κ2.imm⟩ s2.σ c.G) ⟨W3,κ2.nm,κ2.imm⟩ s2.next (D+1) m _ s2 _ W3 _ rfl (fun r hr=>hR2.fresh r hr) (WX _) hb3 hv2) ?_
    intro e a4 w4 hq
    have fin:∀ (s4:St) (κ4:Kap) (jump:Option Code),Rel (LO ⟨W3,κ2.nm,κ2.imm⟩ s2.σ c.G) ⟨W3,κ2.nm,κ2.imm⟩ N s4 a4 w4 κ4 ->
      let W5:=w4.putObj (D+1) (L (if jump.isNone then .ready else .done) jump)
      (Instr.endRound (D+1) jump).run P w4 = .ok (.bool jump.isNone) W5/\W5.heap[D+1]? = some (L (if jump.isNone then .ready else .done) jump)/\W5.heap[D]? = some (.deferred (some [])) /\
      Rel c κ0 N ⟨s'.env,s4.sto,s4.next⟩ a W5 ⟨W5,κ4.nm,κ4.imm⟩:=by
     intro s4 κ4 jump hR4
     have hw4:=hR4.w_eq
     subst hw4
     have hL4:κ4.w.heap[D+1]? = some (L .busy none):=hR4.ext0.obj _ _ hL3 rfl
     have hD4:κ4.w.heap[D]? = some (.deferred (some [])):=hR4.ext0.obj _ _ hD3 rfl
     have o4:=o3.lift (s1:=s4) hR4
     exact⟨run_endRound jump hL4,World.putObj_heap_same (hlt hL4),(World.putObj_heap_other (by omega)).trans hD4,o4.putObj hk _ hL4 rfl (by omega) (hmk o4.defers hL4 (fun q h=>by cases h))⟩
    cases e with
    | goto t=>exact hq.elim
    | panic ch=>exact hq.elim
    | outgrown=>exact hq.elim
    | ret=>
      obtain⟨s4,κ4,hR4,hq⟩:=hq
      obtain⟨f1,f2,f3,f4⟩:=fin s4 κ4 (some .ret) hR4
      exact⟨_,_,f1,.inr ⟨rfl,.ret,_,_,.inl ⟨rfl,hq⟩,f4,f2,f3⟩⟩
    | exit id=>
      obtain⟨s4,κ4,hR4,hq⟩:=hq
      obtain⟨f1,f2,f3,f4⟩:=fin s4 κ4 (some (.exit id)) hR4
      exact⟨_,_,f1,.inr ⟨rfl,.exit id,_,_,.inr ⟨id,rfl,hq⟩,f4,f2,f3⟩⟩
    | normal=>
      obtain⟨s4,κ4,hR4,s6,hW6,hI6⟩:=hq
      obtain⟨f1,f2,f3,f4⟩:=fin s4 κ4 none hR4
      obtain⟨κ6,hR6,him6,hnm6⟩:=hW6.sub h0 f4
      have hw4:=hR4.w_eq
      subst hw4
      have hlt':∀ b o,kp b o->b<κ'.w.heap.size:=fun b o h=>(hkO b o h).1
      have s12:κ'.w.heap.size<=κ2.w.heap.size:=hR2.left.size
      have s23:κ2.w.heap.size=W3.heap.size:=by simp[W3]
      have s34:W3.heap.size<=κ4.w.heap.size:=hR4.left.size
      have n2:∀ b,b<κ'.w.heap.size->ib κ2 s2.σ b->ib κ' s'.σ b:=by
       rintro b hb ⟨r,d,q1,q2,q3⟩
       rcases hR2.rel.mine r d b q1 q2 q3 with h | h
       ·exact absurd hb (Nat.not_lt.2 h)
       ·exact h
      have n4:∀ b,b<κ'.w.heap.size->ib κ4 s4.σ b->ib κ' s'.σ b:=by
       rintro b hb ⟨r,d,q1,q2,q3⟩
       rcases hR4.rel.mine r d b q1 q2 q3 with h | h
       ·exact absurd (W0 hb (Xv s12 (Nat.le_of_eq s23))) (Nat.not_lt.2 h)
       ·exact n2 b hb h
      have i12:∀ b o,κ'.imm b o->κ4.imm b o:=fun b o h=>hR4.ext0.imm b o (hR2.ext0.imm b o (.inl h))
      refine⟨_,_,f1,.inl ⟨rfl,⟨fun b o=>(ib κ6 s6.σ b/\¬ κ6.imm b o)\/b=D\/b=D+1,⟨s6,κ6,hI6,hR6,fun _ _=>Iff.rfl,f2,f3⟩,fun b o hkb=>?_⟩,?_,fun b o v hkb hv=>?_,fun g hg=>?_⟩⟩
      ·rintro (⟨h1,h2⟩ | h | h)
       ·exact h2 (him6 b o (i12 b o (hnot b o hkb (n4 b (hlt' b o hkb) (hnm6 b h1)))))
       ·exact (hneD b o hkb).1 h
       ·exact (hneD b o hkb).2 h
      ·simp;omega
      ·have turn:∀ {X:World} {o':Obj},X.cell? ⟨b,o,none⟩=some v->(X.putObj (D+1) o').cell? ⟨b,o,none⟩=some v:=fun {X o'} h=>
        (World.cell?_of_block (a:=⟨b,o,none⟩) (World.putObj_heap_other (hneD b o hkb).2)).trans h
       by_cases hi:κ'.imm b o
       ·exact turn (hR4.ext0.cell b o v (hR2.ext0.imm b o (.inl hi)) (turn (hR2.ext0.cell b o v (.inl hi) hv)))
       ·have hn:¬ ib κ' s'.σ b:=fun h=>hi (hnot b o hkb h)
        have hb:=hlt' b o hkb
        have k2:κ2.w.cell? ⟨b,o,none⟩=some v:=(World.cell?_of_block (a:=⟨b,o,none⟩) (hR2.left.block b hb hn)).trans hv
        have hb3:b<W3.heap.size:=W0 hb (by omega)
        exact turn ((World.cell?_of_block (a:=⟨b,o,none⟩) (hR4.left.block b hb3 fun h=>hn (n2 b hb h))).trans (turn k2))
      ·have hw6:=hR6.w_eq
       rw[<- hw6]
       exact (hR6.rel.glob.2 g hg).2.2
theorem vB {muts rl:List Nat}:∀ (co:Code) (c:Ctx) (κ0:Kap) (m0:Nat) (ro:Option Nat) (nf:Nat) (ac:ACode) (ex:List (Nat×List Nat)) (out li:List Nat) (Q:AExit->St->Prop) (s:St) (a:Act) (w:World) (κ:Kap),
  (ro=none\/bP co=false)->(∀ r,m0<=r->κ0.nm r=none)->κ0.w.heap.size<=c.w0.heap.size ->
  bW P muts N rl co ex out=some (ac,li)->Rel c κ0 N s a w κ->vc P c.G m0 ac Q s->co.wpIn (FR ro) nf P (lift c κ0 N Q) a w:=by
 intro co
 induction co with
 | skip=>
   intro c κ0 m0 ro nf ac ex out li Q s a w κ hro h0 hk hc hR hv
   simp only[bW,WJ,WR] at hc
   obtain⟨rfl,_⟩:=hc
   exact wpIn_skip ⟨s,κ,hR,hv⟩
 | exit id=>
   intro c κ0 m0 ro nf ac ex out li Q s a w κ hro h0 hk hc hR hv
   simp only[bW,WJ,WR] at hc
   obtain⟨rfl,_⟩:=hc
   exact wpIn_exit ⟨s,κ,hR,hv⟩
 | ret=>
   intro c κ0 m0 ro nf ac ex out li Q s a w κ hro h0 hk hc hR hv
   simp only[bW,WJ,WR] at hc
   obtain⟨rfl,_⟩:=hc
   exact wpIn_ret ⟨s,κ,hR,hv⟩
 | region id ops d=>
   intro c κ0 m0 ro nf ac ex out li Q s a w κ hro h0 hk hc hR hv
   simp only[bW] at hc
   split at hc
   ·rename_i l hl
    cases d with
    | false=>
      simp only[WJ,WR] at hc
      obtain⟨rfl,_⟩:=hc
      exact wpIn_region_list (fh (F:=uc Q (qM out)) (fun s a w κ hR hF=>⟨_,κ,hR.clip _,hF⟩) ops.toList l s a w κ hl hR hv)
    | true=>
      simp only at hc
      split at hc
      ·rename_i hok
       simp only[WJ,WR] at hc
       obtain⟨rfl,_⟩:=hc
       exact oK (F:=uc Q (qM out)) hl hok.1 hok.2.1 hok.2.2 hR hv (fun s a w κ hR hF=>⟨_,κ,hR.clip _,hF⟩)
      ·cases hc
   ·cases hc
 | seq x y ihx ihy=>
   intro c κ0 m0 ro nf ac ex out li Q s a w κ hro h0 hk hc hR hv
   simp only[bW] at hc
   split at hc
   ·rename_i b' lb hb
    split at hc
    ·rename_i a' la ha
     simp only[WJ,WR] at hc
     obtain⟨rfl,_⟩:=hc
     refine wpIn_seq (Go.wpIn_mono (ihx c κ0 m0 ro nf _ _ _ _ _ s a w κ (hro.imp _root_.id fun h=>by simp only[bP,Bool.or_eq_false_iff] at h;exact h.1) h0 hk ha hR hv) ?_)
     intro e a w hq
     cases e with
     | normal=>
       obtain⟨s,κ,hR,hF⟩:=hq
       exact ihy c κ0 m0 ro nf _ _ _ _ _ s a w κ (hro.imp _root_.id fun h=>by simp only[bP,Bool.or_eq_false_iff] at h;exact h.2) h0 hk hb hR hF
     | exit id=>exact hq
     | ret=>exact hq
     | goto l=>exact hq.elim
     | panic ch=>exact hq.elim
     | outgrown=>exact hq.elim
    ·cases hc
   ·cases hc
 | cond x y z ihy ihz=>
   intro c κ0 m0 ro nf ac ex out li Q s a w κ hro h0 hk hc hR hv
   simp only[bW] at hc
   split at hc
   ·rename_i ax a' la b' lb hx hy hz
    simp only[WJ,WR] at hc
    obtain⟨rfl,_⟩:=hc
    have hw:=hR.w_eq
    have hrel:=aH (κ:=κ) (E:=s.E) (a:=a) hx (fun i _=>hR.env i)
    simp only[vc,rr] at hv
    split at hv
    ·rename_i he
     rw[he] at hrel
     exact wpIn_cond_true (dP hrel) (ihy c κ0 m0 ro nf _ _ _ _ _ s a w κ (hro.imp _root_.id fun h=>by simp only[bP,Bool.or_eq_false_iff] at h;exact h.1) h0 hk hy hR hv)
    ·rename_i he
     rw[he] at hrel
     exact wpIn_cond_false (dP hrel) (ihz c κ0 m0 ro nf _ _ _ _ _ s a w κ (hro.imp _root_.id fun h=>by simp only[bP,Bool.or_eq_false_iff] at h;exact h.2) h0 hk hz hR hv)
    ·exact hv.elim
   ·cases hc
 | block id b ih=>
   intro c κ0 m0 ro nf ac ex out li Q s a w κ hro h0 hk hc hR hv
   simp only[bW] at hc
   split at hc
   ·rename_i b' lb hb
    simp only[WJ,WR] at hc
    obtain⟨rfl,_⟩:=hc
    refine wpIn_block (Go.wpIn_mono (ih c κ0 m0 ro nf _ _ _ _ _ s a w κ (hro.imp _root_.id fun h=>by simpa only[bP] using h) h0 hk hb hR hv) ?_)
    intro e a w hq
    cases e with
    | normal=>exact hq
    | ret=>exact hq
    | goto l=>exact hq.elim
    | panic ch=>exact hq.elim
    | outgrown=>exact hq.elim
    | exit id'=>
      obtain⟨s,κ,hR,hF⟩:=hq
      simp only[ir] at hF
      simp only[Exit.inBlock]
      split
      ·rename_i hid
       rw[if_pos hid] at hF
       exact⟨s,κ,hR,hF⟩
      ·rename_i hid
       rw[if_neg hid] at hF
       exact⟨s,κ,hR,hF⟩
   ·cases hc
 | loop b ih=>
   intro c κ0 m0 ro nf ac ex out li Q s a w κ hro h0 hk hc hR hv
   simp only[bW] at hc
   split at hc
   ·rename_i x1 l1 hb1
    split at hc
    ·rename_i x2 l2 hb2
     split at hc
     ·rename_i b' l3 hb
      simp only[WJ,WR] at hc
      obtain⟨rfl,_⟩:=hc
      obtain⟨I,⟨n0,s0,hs0,hI0⟩,hround⟩:=hv
      let J:Nat->Act->World->Prop:=fun n a w=>∃ s κ,Rel c κ0 N s a w κ/\I n s
      have hJ0:∃ n,J n a w:=by
       obtain⟨κ',hR'⟩:=hs0 c κ0 κ N a w h0 hR
       exact⟨n0,_,κ',hR',hI0⟩
      refine lG J hJ0 fun n a w hJn=>?_
      obtain⟨s,κ,hR,hIs⟩:=hJn
      refine Go.wpIn_mono (ih c κ0 m0 ro nf _ _ _ _ _ s a w κ (hro.imp _root_.id fun h=>by simpa only[bP] using h) h0 hk hb hR (hround _ s hIs)) ?_
      intro e a' w' hq
      cases e with
      | normal=>
        obtain⟨s',κ',hR',n',s'',hn',hs',hI'⟩:=hq
        obtain⟨κ'',hR''⟩:=hs' c κ0 κ' N a' w' h0 hR'
        exact⟨n',hn',_,κ'',hR'',hI'⟩
      | exit id=>
        obtain⟨s',κ',hR',s'',hs',hq'⟩:=hq
        obtain⟨κ'',hR''⟩:=hs' c κ0 κ' N a' w' h0 hR'
        exact⟨s'',κ'',hR'',hq'⟩
      | ret=>exact hq
      | goto l=>exact hq.elim
      | panic ch=>exact hq.elim
      | outgrown=>exact hq.elim
     ·cases hc
    ·cases hc
   ·cases hc
 | rangeFunc g ps x y ihx ihy=>
   intro c κ0 m0 ro nf ac ex out li Q s a w κ hro h0 hk hc hR hv
   rcases hro with rfl | h
   rotate_left
   ·simp[bP] at h
   simp only[bW] at hc
   split at hc
   ·rename_i ax b' lb hxy hx hb hps
    simp only[Bool.or_eq_false_iff] at hxy
    split at hc
    ·rename_i a' la ha
     simp only[WJ,WR] at hc
     obtain⟨rfl,_⟩:=hc
     simp only[vc] at hv
     exact tF (muts:=muts) (fun c1 κ1 m1 l n Q s a w κ hG g0 gk hR hv=>ihx c1 κ1 m1 (some l) n _ _ _ _ Q s a w κ (.inr hxy.1) g0 gk ha hR (by rw[hG];exact hv))
      (fun c1 κ1 m1 l n Q s a w κ hG g0 gk hR hv=>ihy c1 κ1 m1 (some l) n _ _ _ _ Q s a w κ (.inr hxy.2) g0 gk hb hR (by rw[hG];exact hv)) hx hps h0 hk hR hv
    ·cases hc
   ·simp only[WJ,WR] at hc;obtain⟨rfl,rfl⟩:=hc;exact (sH hv).elim
 | scope b ih=>intro c κ0 m0 ro nf ac ex out li Q s a w κ hro h0 hk hc hR hv;simp only[bW,WJ,WR] at hc;obtain⟨rfl,rfl⟩:=hc;exact (sH hv).elim
 | label l=>intro c κ0 m0 ro nf ac ex out li Q s a w κ hro h0 hk hc hR hv;simp only[bW,WJ,WR] at hc;obtain⟨rfl,rfl⟩:=hc;exact (sH hv).elim
 | goto l=>intro c κ0 m0 ro nf ac ex out li Q s a w κ hro h0 hk hc hR hv;simp only[bW,WJ,WR] at hc;obtain⟨rfl,rfl⟩:=hc;exact (sH hv).elim
 | refuse y=>intro c κ0 m0 ro nf ac ex out li Q s a w κ hro h0 hk hc hR hv;simp only[bW,WJ,WR] at hc;obtain⟨rfl,rfl⟩:=hc;exact (sH hv).elim
end
mutual
inductive Nz:PV->PV->Prop
 | refl (p:PV):Nz p p
 | nils:Nz .nils (.list [])
 | agg (cs ds:List PV):NzL cs ds->Nz (.agg cs) (.agg ds)
 | tup (cs ds:List PV):NzL cs ds->Nz (.tup cs) (.tup ds)
 | list (cs ds:List PV):NzL cs ds->Nz (.list cs) (.list ds)
inductive NzL:List PV->List PV->Prop
 | nil:NzL [] []
 | cons (x y:PV) (r q:List PV):Nz x y->NzL r q->NzL (x::r) (y::q)
end
theorem NzL.refl:∀ l:List PV,NzL l l
 | []=>.nil
 | x::r=>.cons x x r r (.refl x) (NzL.refl r)
theorem NzL.length:∀ {l k:List PV},NzL l k->l.length=k.length
 | [],_,h=>by cases h;rfl
 | x::r,_,h=>by cases h with | cons _ y _ q _ h2=>simp[NzL.length h2]
theorem NzL.get:∀ {l k:List PV},NzL l k->∀ (i:Nat) (y:PV),k[i]? = some y->∃ x,l[i]? = some x/\Nz x y
 | [],_,h,i,y,hy=>by cases h;simp at hy
 | x::r,_,h,i,y,hy=>by
   cases h with
   | cons _ y' _ q h1 h2=>
     cases i with
     | zero=>simp at hy;subst hy;exact⟨x,rfl,h1⟩
     | succ i=>exact NzL.get h2 i y (by simpa using hy)
theorem Nz.cells {p q:PV}(h:Nz p q):NzL p.cells q.cells:=by
 cases h with
 | refl=>exact NzL.refl _
 | nils=>exact .cons _ _ _ _ .nils .nil
 | agg cs ds h=>exact h
 | tup cs ds h=>exact .cons _ _ _ _ (.tup _ _ h) .nil
 | list cs ds h=>exact .cons _ _ _ _ (.list _ _ h) .nil
theorem PRel.nz {w:World}{imm:Nat->Nat->Prop}{p:PV}{v:Value}(h:PRel w imm p v):∀ {q:PV},Nz p q->PRel w imm q v:=by
 induction h with
 | undef=>intro q hq;cases hq;exact .undef
 | bool b=>intro q hq;cases hq;exact .bool b
 | int k n=>intro q hq;cases hq;exact .int k n
 | str s hs=>intro q hq;cases hq;exact .str s hs
 | agg cs vs hl hc ih=>
   intro q hq
   cases hq with
   | refl=>exact .agg cs vs hl hc
   | agg _ ds hd=>
     refine .agg ds vs (by rw[hl,hd.length]) fun i y hy=>?_
     obtain⟨x,hx,hxy⟩:=hd.get i y hy
     exact ih i x hx hxy
 | tup cs vs hl hc ih=>
   intro q hq
   cases hq with
   | refl=>exact .tup cs vs hl hc
   | tup _ ds hd=>
     refine .tup ds vs (by rw[hl,hd.length]) fun i y hy=>?_
     obtain⟨x,hx,hxy⟩:=hd.get i y hy
     exact ih i x hx hxy
 | nils=>
   intro q hq
   cases hq with
   | refl=>exact .nils
   | nils=>exact .lnil none 0 (by simp)
 | lnil A c h=>
   intro q hq
   cases hq with
   | refl=>exact .lnil A c h
   | list _ ds hd=>cases hd;exact .lnil A c h
 | list l b off c sz g h1 h2 h3 h4 h5 ih=>
   intro q hq
   cases hq with
   | refl=>exact .list l b off c sz g h1 h2 h3 h4 h5
   | list _ ds hd=>
     have hlen:=hd.length
     have key:=PRel.list (w:=w) (imm:=imm) ds b off c sz g (by omega) h2 (fun i y hy=>by
       obtain⟨x,hx,hxy⟩:=hd.get i y hy
       rw[<- h3 i x hx,hxy.cells.length]) (fun i y j z hy hz=>by
       obtain⟨x,hx,hxy⟩:=hd.get i y hy
       obtain⟨u,hu,huz⟩:=hxy.cells.get j z hz
       exact h4 i x j u hx hu) (fun i y j z hy hz=>by
       obtain⟨x,hx,hxy⟩:=hd.get i y hy
       obtain⟨u,hu,huz⟩:=hxy.cells.get j z hz
       exact ih i x j u hx hu huz)
     rw[<- hlen] at key
     exact key
 | nilp=>intro q hq;cases hq;exact .nilp
 | nilf=>intro q hq;cases hq;exact .nilf
 | clo f fs cs vs us h1 h2 h3 h4 _ _=>intro q hq;cases hq;exact .clo f fs cs vs us h1 h2 h3 h4
 | eptr l b off c sz g i o h1 h2 h3 h4 h5 h6 _=>intro q hq;cases hq;exact .eptr l b off c sz g i o h1 h2 h3 h4 h5 h6
 | gptr g o=>intro q hq;cases hq;exact .gptr g o
 | nili=>intro q hq;cases hq;exact .nili
 | iface T p u h _=>intro q hq;cases hq;exact .iface T p u h
theorem t8 (p:PV):Nz p p=True:=eq_true (.refl p)
theorem NG:Nz .nils (.list [])=True:=eq_true .nils
theorem Re (cs ds:List PV):Nz (.agg cs) (.agg ds)=NzL cs ds:=propext ⟨fun h=>by cases h with | refl=>exact NzL.refl _ | agg _ _ h=>exact h,.agg _ _⟩
theorem Ra (cs ds:List PV):Nz (.tup cs) (.tup ds)=NzL cs ds:=propext ⟨fun h=>by cases h with | refl=>exact NzL.refl _ | tup _ _ h=>exact h,.tup _ _⟩
theorem NH (a b:Bool):Nz (.bool a) (.bool b)=(a=b):=propext ⟨fun h=>by cases h;rfl,fun h=>h▸.refl _⟩
theorem Rc (k k':IntKind)(a b:Int):Nz (.int k a) (.int k' b)=(k=k'/\a=b):=propext ⟨fun h=>by cases h;exact⟨rfl,rfl⟩,fun ⟨h,g⟩=>h▸g▸.refl _⟩
theorem Rb (a b:List UInt8):Nz (.str a) (.str b)=(a=b):=propext ⟨fun h=>by cases h;rfl,fun h=>h▸.refl _⟩
theorem NI:NzL [] []=True:=eq_true .nil
theorem IC (x y:PV)(r q:List PV):NzL (x::r) (y::q)=(Nz x y/\NzL r q):=propext ⟨fun h=>by cases h with | cons _ _ _ _ h1 h2=>exact⟨h1,h2⟩,fun ⟨h1,h2⟩=>.cons _ _ _ _ h1 h2⟩
def j0 (n e sz:Nat):AV:=if e<1000000 then .olist n sz [] else .row n sz 0 0
def dD (e sz:Nat):Blk:=if e<1000000 then .tok e sz else .cells (e - 1000000) false []
def PW (k:Nat)(e sz:Nat)(s:St):AV->St
 | .pv .nils=>⟨(k,j0 s.next e sz)::s.env,(s.next,dD e sz)::s.sto,s.next+1⟩
 | _=>s
def PU (r T:Nat)(f:Bool)(l:List AV)(o e sz:Nat)(s:St):Option AV->St
 | some (.pv .nils)=>⟨s.env,(r,.cells T f (l.set o (j0 s.next e sz)))::(s.next,dD e sz)::s.sto,s.next+1⟩
 | _=>s
def accB (r o e sz:Nat)(s:St):Blk->St
 | .cells T f l=>PU r T f l o e sz s l[o]?
 | _=>s
def SU (o e sz:Nat)(s:St):AV->St
 | .ptr r b=>accB r (b+o) e sz s (lookB r s.sto)
 | _=>s
def U1 (p:Nat×Nat×Nat×Nat)(s:St):St:=
 match p.2.1 with
 | 0=>PW p.1 p.2.2.1 p.2.2.2 s (look p.1 s.env)
 | j+1=>SU j p.2.2.1 p.2.2.2 s (look p.1 s.env)
def Kp:List (Nat×Nat×Nat×Nat)->St->St
 | [],s=>s
 | p::r,s=>Kp r (U1 p s)
section
variable {P:Program}{c:Ctx}{κ0 κ:Kap}{N:Nat}{s:St}{a:Act}{w:World}
theorem Kq {σ0:aE}(hS:SRel c κ σ0){new:Nat}(hn:κ.nm new=none)(e sz:Nat) :
  Done c κ ⟨κ.w,fun r=>if r=new then some (.own (.slice none 0 0)) else κ.nm r,κ.imm⟩ new /\
  SRel c ⟨κ.w,fun r=>if r=new then some (.own (.slice none 0 0)) else κ.nm r,κ.imm⟩ (aE.set σ0 new (dD e sz)) /\
  ARel ⟨κ.w,fun r=>if r=new then some (.own (.slice none 0 0)) else κ.nm r,κ.imm⟩ (j0 new e sz) (.slice none 0 0):=by
 unfold j0 dD
 split
 ·exact Gl hS hn e sz
 ·exact qq hS hn (e - 1000000) sz
theorem KH (e sz:Nat)(env:List (Nat×AV))(sto:List (Nat×Blk))
  (henv:∀ (κ κ':Kap),Ext κ κ'->ARel κ' (j0 s.next e sz) (.slice none 0 0)->∀ (a:Act),(∀ i,ARel κ (s.E i) (a.tmps.getD i Go.undef))->∀ i,ARel κ' (look i env) (a.tmps.getD i Go.undef))
  (hsto:∀ (c:Ctx) (κ':Kap),(∀ r T f l,s.σ r = .cells T f l->r≠s.next)->ARel κ' (j0 s.next e sz) (.slice none 0 0)->SRel c κ' (aE.set s.σ s.next (dD e sz))->(∀ r,s.next<r->κ'.nm r=none)->SRel c κ' (fun r=>lookB r sto)):Wx s ⟨env,sto,s.next+1⟩:=by
 intro c κ0 κ N a w h
 obtain⟨h1,h2,h3⟩:=Kq h.rel (h.fresh s.next (WX _)) e sz
 have hfr:∀ r,s.next<r->(if r=s.next then some (Den.own (Value.slice none 0 0)) else κ.nm r)=none:=by
  intro r hr
  rw[if_neg (by omega)]
  exact h.fresh r (by omega)
 exact⟨_,h1.ext,h.w_eq,h.ext0.trans h1.ext,hsto c _ (fun r T f l hr hn=>by
  have hB:=h.rel.blk r
  rw[hr] at hB
  rcases hB with ⟨_,_,h1⟩ | ⟨b,n,cs,h1,_⟩<;>(rw[hn,h.fresh s.next (WX _)] at h1;cases h1)) h3 h2 hfr,h1.left _ h.left,henv κ _ h1.ext h3 a h.env,h.size,h.defers.ext h1.ext,fun r hr=>hfr r hr⟩
theorem wH {v:Value}(h:ARel κ (.pv .nils) v):v = .slice none 0 0:=by cases aT h;rfl
theorem Mk (k e sz:Nat)(s:St):Wx s (PW k e sz s (look k s.env)):=by
 unfold PW
 split
 ·rename_i hk
  refine KH e sz _ _ (fun κ κ' he ho a henv i=>?_) (fun c κ' _ ho hS _=>?_)
  ·simp only[look]
   split
   ·rename_i hi
    subst hi
    have:=henv k
    rw[show s.E k=look k s.env from rfl,hk] at this
    rw[wH this]
    exact ho
   ·exact (henv i).ext he
  ·have:(fun r=>lookB r ((s.next,dD e sz)::s.sto))=aE.set s.σ s.next (dD e sz):=by
    funext r
    simp only[lookB,aE.set,St.σ]
    by_cases h:s.next=r
    ·simp[h]
    ·rw[if_neg h,if_neg (fun e=>h e.symm)]
   rw[this];exact hS
 ·exact Wx.refl s
theorem FM {κ:Kap}{r T:Nat}{f:Bool}{l:List AV}{o:Nat}{y:AV}(h:fM κ r (.cells T f l))(hy:∀ v x,l[o]? = some x->ARel κ x v->ARel κ y v):fM κ r (.cells T f (l.set o y)):=by
 rcases h with ⟨h1,h2,h3⟩ | ⟨b,n,cs,h1,h2,h3,h4,h7,h5,h6⟩
 ·exact .inl ⟨h1,by rw[h2];rfl,h3⟩
 refine .inr ⟨b,n,cs,h1,h2,h3,by simpa using h4,by simpa using h7,fun j x hx=>?_,h6⟩
 rw[List.getElem?_set] at hx
 split at hx
 ·rename_i hj
  subst hj
  split at hx
  ·rename_i hlt
   cases hx
   exact hy _ _ (WE hlt) (h5 o _ (WE hlt))
  ·cases hx
 ·exact h5 j x hx
theorem Ml (r o e sz:Nat)(s:St):Wx s (accB r o e sz s (lookB r s.sto)):=by
 unfold accB
 split
 ·rename_i T f l hl
  unfold PU
  split
  ·rename_i ho
   refine KH e sz _ _ (fun κ κ' he ho a henv i=>(henv i).ext he) (fun c κ' hcl hol hS hfr=>?_)
   have hr:=hcl r T f l hl
   have hB:=hS.blk r
   have hσr:aE.set s.σ s.next (dD e sz) r = .cells T f l:=by simp only[aE.set,hr,if_false];exact hl
   rw[hσr] at hB
   have hnew:(fun q=>lookB q ((r,Blk.cells T f (l.set o (j0 s.next e sz)))::(s.next,dD e sz)::s.sto))=aE.set (aE.set s.σ s.next (dD e sz)) r (.cells T f (l.set o (j0 s.next e sz))):=by
    funext q
    simp only[lookB,aE.set,St.σ]
    by_cases h:r=q
    ·rw[if_pos h,if_pos h.symm]
    ·have h1:¬ q=r:=fun e=>h e.symm
     rw[if_neg h,if_neg h1]
     by_cases h':s.next=q
     ·have h2:q=s.next:=h'.symm
      rw[if_pos h',if_pos h2]
     ·have h2:¬ q=s.next:=fun e=>h' e.symm
      rw[if_neg h',if_neg h2]
   rw[hnew]
   have hz:∀ q,(aE.set (aE.set s.σ s.next (dD e sz)) r (.cells T f (l.set o (j0 s.next e sz)))) q≠.none->(aE.set s.σ s.next (dD e sz)) q≠.none:=by
    intro q hq
    by_cases h:q=r
    ·subst h;rw[hσr];simp
    ·simpa[aE.set,h] using hq
   refine⟨fun q=>?_,fun q q' d d' b' h1 h2=>hS.apart q q' d d' b' (hz q h1) (hz q' h2),fun q d b' h1=>hS.mine q d b' (hz q h1),hS.immLt,hS.glob⟩
   by_cases h:q=r
   ·subst h
    simp only[aE.set,if_true]
    refine FM hB fun v x hx hv=>?_
    rw[ho] at hx;cases hx
    rw[wH hv];exact hol
   ·have:=hS.blk q
    simp only[aE.set,h,if_false] at this ⊢
    exact this
  ·exact Wx.refl s
 ·exact Wx.refl s
theorem Mj (k o e sz:Nat)(s:St):Wx s (SU o e sz s (look k s.env)):=by
 unfold SU
 split
 ·exact Ml _ _ _ _ s
 ·exact Wx.refl s
theorem Mm (p:Nat×Nat×Nat×Nat)(s:St):Wx s (U1 p s):=by
 unfold U1
 split
 ·exact Mk _ _ _ s
 ·exact Mj _ _ _ _ s
theorem Bv:∀ (l:List (Nat×Nat×Nat×Nat)) (s:St),Wx s (Kp l s)
 | [],s=>Wx.refl s
 | p::r,s=>(Mm p s).trans (Bv r _)
inductive AVz:AV->AV->Prop
 | refl (x:AV):AVz x x
 | any (x:AV):AVz x .any
 | pv (p q:PV):Nz p q->AVz (.pv p) (.pv q)
 | olist (r sz:Nat) (l k:List PV):NzL l k->AVz (.olist r sz l) (.olist r sz k)
 | list (r sz:Nat) (l k:List PV):NzL l k->AVz (.olist r sz l) (.pv (.list k))
inductive AVzL:List AV->List AV->Prop
 | nil:AVzL [] []
 | cons (x y:AV) (r q:List AV):AVz x y->AVzL r q->AVzL (x::r) (y::q)
theorem AVz.rel {κ:Kap}{x y:AV}{v:Value}(h:AVz x y)(hr:ARel κ x v):ARel κ y v:=by
 cases h with
 | refl=>exact hr
 | any=>exact .any v
 | pv p q hq=>exact .pv _ _ ((aT hr).nz hq)
 | olist r sz l k hq=>
   cases hr with
   | olist _ _ _ _ hn hp hs=>
     refine .olist _ _ _ _ hn (hp.nz (.list _ _ hq)) fun y hy=>?_
     obtain⟨i,hi⟩:=List.getElem?_of_mem hy
     obtain⟨x,hx,hxy⟩:=hq.get i y hi
     rw[<- hs x (WK hx),hxy.cells.length]
 | list r sz l k hq=>
   cases hr with
   | olist _ _ _ _ hn hp hs=>exact .pv _ _ (hp.nz (.list _ _ hq))
theorem AVzL.length:∀ {l k:List AV},AVzL l k->l.length=k.length
 | [],_,h=>by cases h;rfl
 | x::r,_,h=>by cases h with | cons _ y _ q _ h2=>simp[AVzL.length h2]
theorem AVzL.get:∀ {l k:List AV},AVzL l k->∀ (i:Nat) (y:AV),k[i]? = some y->∃ x,l[i]? = some x/\AVz x y
 | [],_,h,i,y,hy=>by cases h;simp at hy
 | x::r,_,h,i,y,hy=>by
   cases h with
   | cons _ y' _ q h1 h2=>
     cases i with
     | zero=>simp at hy;subst hy;exact⟨x,rfl,h1⟩
     | succ i=>exact AVzL.get h2 i y (by simpa using hy)
inductive AVzP:List AV->List AV->Prop
 | nil (l:List AV):AVzP l []
 | cons (x y:AV) (r q:List AV):AVz x y->AVzP r q->AVzP (x::r) (y::q)
theorem AVzP.length:∀ {l k:List AV},AVzP l k->k.length<=l.length
 | _,[],_=>Xr _
 | _,y::q,h=>by cases h with | cons x _ r _ _ h2=>simp;exact AVzP.length h2
theorem AVzP.get:∀ {l k:List AV},AVzP l k->∀ (i:Nat) (y:AV),k[i]? = some y->∃ x,l[i]? = some x/\AVz x y
 | _,[],h,i,y,hy=>by simp at hy
 | _,y'::q,h,i,y,hy=>by
   cases h with
   | cons x _ r _ h1 h2=>
     cases i with
     | zero=>simp at hy;subst hy;exact⟨x,rfl,h1⟩
     | succ i=>exact AVzP.get h2 i y (by simpa using hy)
inductive EnvZ:List (Nat×AV)->List (Nat×AV)->Prop
 | nil:EnvZ [] []
 | cons (k:Nat) (x y:AV) (r q:List (Nat×AV)):AVz x y->EnvZ r q->EnvZ ((k,x)::r) ((k,y)::q)
inductive BlkZ:Blk->Blk->Prop
 | refl (b:Blk):BlkZ b b
 | none (b:Blk):BlkZ b .none
 | cells (T:Nat) (f:Bool) (l k:List AV):AVzL l k->BlkZ (.cells T f l) (.cells T f k)
 | pre (T:Nat) (f:Bool) (l k:List AV):AVzP l k->BlkZ (.cells T f l) (.cells T false k)
inductive StoZ:List (Nat×Blk)->List (Nat×Blk)->Prop
 | nil:StoZ [] []
 | cons (k:Nat) (x y:Blk) (r q:List (Nat×Blk)):BlkZ x y->StoZ r q->StoZ ((k,x)::r) ((k,y)::q)
theorem EnvZ.look:∀ {e e':List (Nat×AV)},EnvZ e e'->∀ i,AVz (look i e) (look i e')
 | [],_,h,i=>by cases h;exact .refl _
 | (k,x)::r,_,h,i=>by
   cases h with
   | cons _ _ y _ q h1 h2=>
     simp only[Go.Ab.look]
     split
     ·exact h1
     ·exact EnvZ.look h2 i
theorem StoZ.look:∀ {e e':List (Nat×Blk)},StoZ e e'->∀ i,BlkZ (lookB i e) (lookB i e')
 | [],_,h,i=>by cases h;exact .refl _
 | (k,x)::r,_,h,i=>by
   cases h with
   | cons _ _ y _ q h1 h2=>
     simp only[Go.Ab.lookB]
     split
     ·exact h1
     ·exact StoZ.look h2 i
theorem BlkZ.rel {κ:Kap}{r:Nat}{b b':Blk}(h:BlkZ b b')(hb:fM κ r b):fM κ r b'/\(b'≠.none->b≠.none):=by
 cases h with
 | refl=>exact⟨hb,id⟩
 | none=>exact⟨trivial,fun h=>absurd rfl h⟩
 | cells T f l k hk=>
   have hlen:=hk.length
   rcases hb with ⟨h1,h2,h3⟩ | ⟨b,n,cs,h1,h2,h3,h4,h7,h5,h6⟩
   ·exact⟨.inl ⟨h1,WY (by rw[<- hlen,h2];rfl),h3⟩,fun _=>by simp⟩
   refine⟨.inr ⟨b,n,cs,h1,h2,h3,by omega,fun h=>by rw[<- hlen];exact h7 h,fun o y hy=>?_,h6⟩,fun _=>by simp⟩
   obtain⟨x,hx,hxy⟩:=hk.get o y hy
   exact hxy.rel (h5 o x hx)
 | pre T f l k hk=>
   have hlen:=hk.length
   rcases hb with ⟨h1,h2,h3⟩ | ⟨b,n,cs,h1,h2,h3,h4,h7,h5,h6⟩
   ·exact⟨.inl ⟨rfl,WY (by rw[h2] at hlen;simpa using hlen),h3⟩,fun _=>by simp⟩
   refine⟨.inr ⟨b,n,cs,h1,h2,h3,by omega,fun h=>(by cases h),fun o y hy=>?_,h6⟩,fun _=>by simp⟩
   obtain⟨x,hx,hxy⟩:=hk.get o y hy
   exact hxy.rel (h5 o x hx)
def StZ (s s':St):Prop:=EnvZ s.env s'.env/\StoZ s.sto s'.sto/\s.next=s'.next
theorem AVzL.refl:∀ e:List AV,AVzL e e
 | []=>.nil
 | x::r=>.cons x x r r (.refl x) (AVzL.refl r)
theorem StZ.wx {s t:St}(h:StZ s t):Wx s t:=by
 intro c κ0 κ N a w hR
 obtain⟨h1,h2,h3⟩:=h
 have hz:∀ r,t.σ r≠.none->s.σ r≠.none:=fun r hr=>((h2.look r).rel (hR.rel.blk r)).2 hr
 refine⟨κ,Ext.refl κ,hR.w_eq,hR.ext0,⟨fun r=>((h2.look r).rel (hR.rel.blk r)).1,fun r r' d d' b k1 k2=>hR.rel.apart r r' d d' b (hz r k1) (hz r' k2),fun r d b k1=>hR.rel.mine r d b (hz r k1),hR.rel.immLt,hR.rel.glob⟩,
  hR.left,fun i=>(h1.look i).rel (hR.env i),hR.size,hR.defers,fun r hr=>hR.fresh r (by omega)⟩
def fA (A:List (Nat×Nat×Nat×Nat))(m0:Nat)(keep:List Nat)(s:St):St:=norm m0 keep (Kp A s)
theorem GF (A:List (Nat×Nat×Nat×Nat))(m0:Nat)(keep:List Nat)(s:St):Wk m0 s (fA A m0 keep s):=
 (Wk.of (Bv A s) m0).trans (Wk.norm m0 keep _)
theorem Wk.head {A:List (Nat×Nat×Nat×Nat)}{m0:Nat}{keep:List Nat}{s t:St}(h:StZ (fA A m0 keep s) t):Wk m0 s t:=
 (GF A m0 keep s).trans (Wk.of h.wx m0)
theorem Kd (x:AV):AVz x x=True:=eq_true (.refl x)
theorem SJ (p q:PV):AVz (.pv p) (.pv q)=Nz p q:=propext ⟨fun h=>by cases h with | refl=>exact .refl _ | pv _ _ h=>exact h,.pv _ _⟩
theorem F7 (x y:AV)(r q:List AV):AVzL (x::r) (y::q)=(AVz x y/\AVzL r q):=propext ⟨fun h=>by cases h with | cons _ _ _ _ h1 h2=>exact⟨h1,h2⟩,fun ⟨h1,h2⟩=>.cons _ _ _ _ h1 h2⟩
theorem JV:EnvZ [] []=True:=eq_true .nil
theorem Fd (k:Nat)(x y:AV)(r q:List (Nat×AV)):EnvZ ((k,x)::r) ((k,y)::q)=(AVz x y/\EnvZ r q):=propext ⟨fun h=>by cases h with | cons _ _ _ _ _ h1 h2=>exact⟨h1,h2⟩,fun ⟨h1,h2⟩=>.cons _ _ _ _ _ h1 h2⟩
theorem F3 (b:Blk):BlkZ b b=True:=eq_true (.refl b)
theorem SE (T:Nat)(l k:List AV):BlkZ (.cells T true l) (.cells T true k)=AVzL l k:=propext ⟨fun h=>by cases h with | refl=>exact AVzL.refl _ | cells _ _ _ _ h=>exact h,.cells _ _ _ _⟩
theorem SF (b:Blk):BlkZ b .none=True:=eq_true (.none b)
theorem F6 (l:List AV):AVzL l l=True:=eq_true (AVzL.refl l)
theorem Hu:StoZ [] []=True:=eq_true .nil
theorem B2 (k:Nat)(x y:Blk)(r q:List (Nat×Blk)):StoZ ((k,x)::r) ((k,y)::q)=(BlkZ x y/\StoZ r q):=propext ⟨fun h=>by cases h with | cons _ _ _ _ _ h1 h2=>exact⟨h1,h2⟩,fun ⟨h1,h2⟩=>.cons _ _ _ _ _ h1 h2⟩
theorem Qm (e e':List (Nat×AV))(σ σ':List (Nat×Blk))(n n':Nat):StZ ⟨e,σ,n⟩ ⟨e',σ',n'⟩=(EnvZ e e'/\StoZ σ σ'/\n=n'):=_root_.id rfl
end
inductive ARes where
 | tmp (t:Nat)
 | cell (t:Nat) (g:Bool) (sz:Nat)
structure AFn where
 N:Nat
 res:List ARes
 body:ACode
def QT (G:Nat->List PV)(s:St):ARes->Option AV
 | .tmp t=>some (s.E t)
 | .cell t g sz=>fV G g sz s.σ (s.E t)
def gl (G:Nat->List PV)(s:St):List ARes->Option (List AV)
 | []=>some []
 | r::q=>match QT G s r,gl G s q with
   | some a,some b=>some (a::b)
   | _,_=>none
def Bc (l:List AV):AV:=
 match l with
 | [v]=>v
 | l=>rK l
def K7 (R:AV->List (Nat×Blk)->Nat->Prop)(s:St)(l:List AV):Prop:=R (Bc l) s.sto s.next
def FnK (G:Nat->List PV)(res:List ARes)(R:AV->List (Nat×Blk)->Nat->Prop):AExit->St->Prop
 | .norm,s=>aV (gl G s res) (K7 R s)
 | .ret,s=>aV (gl G s res) (K7 R s)
 | .exit _,_=>False
def UO (P:Program):ResultVar->Option ARes
 | .tmp t=>some (.tmp t)
 | .cell a t=>match nt P t,iW P t with
   | some g,some n=>some (.cell a g n)
   | _,_=>none
def FT (P:Program):List ResultVar->Option (List ARes)
 | []=>some []
 | r::q=>match UO P r,FT P q with
   | some a,some b=>some (a::b)
   | _,_=>none
def jQ:List ARes->List Nat
 | []=>[]
 | .tmp t::r=>iv (jQ r) [t]
 | .cell t _ _::r=>iv (jQ r) [t]
def cFn (P:Program)(muts:List Nat)(f:Nat):Option AFn:=
 match P.funcs[f]? with
 | some fn=>match fn.body with
   | some c=>match FT P fn.results.toList with
     | some rs=>if cx P f=true then match bW P muts fn.ntmps (jQ rs) c [] (jQ rs) with
       | some (b,_)=>some ⟨fn.ntmps,rs,b⟩
       | none=>none
       else none
     | none=>none
   | none=>none
 | none=>none
def d8 (args:List AV):List (Nat×AV):=args.zipIdx.map fun p=>(p.2,p.1)
section
variable {P:Program}{G:Nat->List PV}
theorem mF:∀ (args:List AV) (k i:Nat),look i ((args.zipIdx k).map fun p=>(p.2,p.1))=if k<=i then (args[i - k]?).getD .any else .any
 | [],k,i=>by simp[look]
 | x::r,k,i=>by
   rw[List.zipIdx_cons,WP,look]
   simp only
   by_cases h:k=i
   ·subst h;simp
   ·rw[if_neg h,mF r (k+1) i]
    by_cases hk:k<=i
    ·rw[if_pos (by omega),if_pos hk,show i - k=(i - (k+1))+1 by omega];simp
    ·rw[if_neg (by omega),if_neg hk]
def we (tmps:Array Value):ResultVar->Sem Value
 | .tmp t=>pure (tmps.getD t Go.undef)
 | .cell x t=>do loadVar t (<- asAddr (tmps.getD x Go.undef))
theorem nX (fn:Func)(tmps:Array Value):results fn tmps=(do let vs <- fn.results.mapM (we tmps);pure (if h:vs.size=1 then vs[0] else .tuple vs)):=by
 unfold results
 congr 1
theorem l8 {c:Ctx}{κ0 κ:Kap}{N:Nat}{s:St}{a:Act}{w:World}(hR:Rel c κ0 N s a w κ):∀ (rv:List ResultVar) (rs:List ARes) (vs:List AV),FT P rv=some rs->gl c.G s rs=some vs ->
  ∃ us:List Value,(rv.mapM (we a.tmps)).run P w = .ok us w/\us.length=vs.length/\∀ (i:Nat) (x:AV),vs[i]? = some x->ARel κ x (us.getD i Go.undef)
 | [],rs,vs,h1,h2=>by
   simp[FT] at h1;subst h1
   simp[gl] at h2;subst h2
   exact⟨[],by simp,rfl,by simp⟩
 | r::q,rs,vs,h1,h2=>by
   simp only[FT] at h1
   split at h1
   ·rename_i ra rb hra hrb
    cases h1
    simp only[gl] at h2
    split at h2
    ·rename_i va vb hva hvb
     cases h2
     obtain⟨us,k1,k2,k3⟩:=l8 hR q rb vb hrb hvb
     have hw:=hR.w_eq
     subst hw
     have hone:∃ u,(we a.tmps r).run P κ.w = .ok u κ.w/\ARel κ va u:=by
      cases r with
      | tmp t=>
        simp only[UO,WJ] at hra
        subst hra
        simp only[QT,WJ] at hva
        subst hva
        exact⟨_,rfl,hR.env t⟩
      | cell x t=>
        simp only[UO] at hra
        split at hra
        ·rename_i g n hg hn
         cases hra
         simp only[QT] at hva
         have hx:=hR.env x
         obtain⟨z,h3,h4⟩:=Ci (P:=P) hR.rel hg hn hx hva
         refine⟨z,?_,h4⟩
         obtain⟨y,hy⟩:∃ y,a.tmps.getD x Go.undef=y:=⟨_,rfl⟩
         rw[hy] at hx h3
         simp only[Instr.loadAt,Sem.run_bind] at h3
         have hp:∃ ad,y = .pointer (some ad):=by
          unfold fV at hva
          split at hva
          ·rename_i he
           rw[he] at hx;cases hx;exact⟨_,rfl⟩
          ·rename_i he
           rw[he] at hx;cases aT hx;exact⟨_,rfl⟩
          ·rename_i he
           rw[he] at hx;cases aT hx;exact⟨_,rfl⟩
          ·cases hva
         obtain⟨ad,rfl⟩:=hp
         simp only[we]
         rw[hy]
         simpa[asAddr,Instr.sureAddr] using h3
        ·cases hra
     obtain⟨u,h5,h6⟩:=hone
     refine⟨u::us,?_,by simp[k2],fun i x hx=>?_⟩
     ·rw[List.mapM_cons,Sem.run_bind,h5]
      simp only[Result.andThen_ok,Sem.run_bind,k1,Sem.run_pure]
     ·cases i with
      | zero=>simp only[Xb,WJ] at hx;subst hx;simpa using h6
      | succ i=>simpa using k3 i x (by simpa using hx)
    ·cases h2
   ·cases h1
theorem jk {P:Program}{c:Ctx}{κ0 κ:Kap}{N:Nat}{s:St}{a:Act}{w:World}{fn:Func}{R:Ending->World->Prop}(hk:κ0.w.heap.size<=c.w0.heap.size)(hc:c.rnd=false)(hR:Rel c κ0 N s a w κ)
  (h:∀ w' κ',Rel c κ0 N s ⟨a.tmps,[]⟩ w' κ'->∃ v,(results fn a.tmps).run P w' = .ok v w'/\R (.returned v) w'):LeavesInM Fence.wide 0 P fn a.tmps R a.defers .returning w:=by
 have key:∀ (Ds:List Nat) (w:World) (κ:Kap),Ds.Nodup->(∀ D∈Ds,c.w0.heap.size<=D/\w.heap[D]? = some (.deferred (some [])))->Rel c κ0 N s ⟨a.tmps,[]⟩ w κ->LeavesInM Fence.wide 0 P fn a.tmps R (Ds.map Ll) .returning w:=by
  intro Ds
  induction Ds with
  | nil=>intro w κ _ _ hR;exact h w κ hR
  | cons D Ds ih=>
    intro w κ hn hD hR
    obtain⟨h1,h2⟩:=hD D (by simp)
    obtain⟨n1,n2⟩:=List.nodup_cons.1 hn
    refine⟨by simp,.inl ⟨D,_,rfl,run_takeDeferred h2,ih _ _ n2 (fun E hE=>?_) (hR.putObj hk (.deferred none) h2 rfl h1 (ee.nil _ _))⟩⟩
    obtain⟨q1,q2⟩:=hD E (by simp[hE])
    exact⟨q1,(World.putObj_heap_other (by rintro rfl;exact n1 hE)).trans q2⟩
 rcases hR.defers with hm | ⟨Ds,m1,m2,m3⟩
 ·rw[hc] at hm;cases hm
 ·have hw:=hR.w_eq
  rw[m1]
  exact key Ds w κ m2 (fun D hD=>by rw[<- hw];exact m3 D hD) ⟨hR.w_eq,hR.ext0,hR.rel,hR.left,hR.env,hR.size,ee.nil _ _,hR.fresh⟩
theorem da.of_code {muts:List Nat}{f:Nat}{fn:AFn}{args:List AV}{sto:List (Nat×Blk)}{next:Nat}{R:AV->List (Nat×Blk)->Nat->Prop}(hc:cFn P muts f=some fn)(hn:args.length<=fn.N)
  (hv:∀ (c:Ctx) (κ:Kap) (N:Nat) (a:Act) (w:World) (co:Code) (rl li:List Nat),c.G=G->κ.w.heap.size<=c.w0.heap.size->(∀ r,next<=r->κ.nm r=none)->bW P muts N rl co [] rl=some (fn.body,li)->Rel c κ N ⟨d8 args,sto,next⟩ a w κ ->
   co.wpIn (FR none) 0 P (lift c κ N (FnK G fn.res R)) a w):da P G f args sto next R:=by
 unfold cFn at hc
 split at hc
 ·rename_i fnc hfn
  split at hc
  ·rename_i co hco
   split at hc
   ·rename_i rs hrs
    split at hc
    ·rename_i hok
     split at hc
     ·rename_i b li hb
      cases hc
      refine⟨hok,fun κ vals hS hf hsz hargs=>?_⟩
      refine callsIn_wide.1 (callsIn_of_wp_marks (n:=0) hfn hco trivial ?_ rfl)
      let c:=cQ κ (fun r=>lookB r sto) G
      have hsize:(vals++XF (fnc.ntmps - vals.size) Go.undef).size=fnc.ntmps:=by
       simp only at hn
       simp only[Array.size_append,Array.size_replicate];omega
      have hR:Rel c κ fnc.ntmps ⟨d8 args,sto,next⟩ ⟨vals++XF (fnc.ntmps - vals.size) Go.undef,[]⟩ κ.w κ:=by
       refine⟨rfl,Ext.refl κ,hS,⟨rfl,rfl,rfl,WX _,fun _ _ _=>rfl,fun _ _ h=>.inl h⟩,fun i=>?_,hsize,ee.nil _ _,hf⟩
       show ARel κ (look i ((args.zipIdx 0).map fun p=>(p.2,p.1))) _
       rw[mF,if_pos (Xr _),Nat.sub_zero]
       cases hx:args[i]? with
       | none=>exact .any _
       | some x=>
         have hi:i<vals.size:=by rw[hsz];exact (WH.1 hx).1
         have:=hargs i x hx
         have e:(vals++XF (fnc.ntmps - vals.size) Go.undef).getD i Go.undef=vals.getD i Go.undef:=by
          simp only[WM]
          rw[Array.getElem?_append_left hi]
         rw[e];exact this
      refine Go.wpIn_mono (hv c κ fnc.ntmps _ κ.w co (jQ rs) li rfl (WX _) hf hb hR) ?_
      have fin:∀ (s:St) (κ':Kap) (a:Act) (w:World),Rel c κ fnc.ntmps s a w κ'->aV (gl G s rs) (K7 R s)->∃ v,(results fnc a.tmps).run P w = .ok v w /\
        ∃ u v' κ'' sto' next',Ending.returned v = .returned u/\κ''.w=w/\Ext κ κ''/\Left c κ.imm κ''/\ARel κ'' v' u/\SRel c κ'' (fun r=>lookB r sto')/\(∀ r,next'<=r->κ''.nm r=none)/\R v' sto' next':=by
       intro s κ' a w hR hF
       simp only[aV] at hF
       split at hF
       ·rename_i vs hvs
        obtain⟨us,h1,h2,h3⟩:=l8 (P:=P) hR fnc.results.toList rs vs hrs hvs
        have hrun:(results fnc a.tmps).run P w = .ok (if h:us.toArray.size=1 then us.toArray[0] else .tuple us.toArray) w:=by
         rw[nX,Sem.run_bind,Array.mapM_eq_mapM_toList]
         simp only[Sem.run_bind,Sem.run_map]
         rw[h1]
         simp
        refine⟨_,hrun,_,Bc vs,κ',s.sto,s.next,rfl,hR.w_eq,hR.ext0,hR.left,?_,hR.rel,hR.fresh,hF⟩
        by_cases hl:vs.length=1
        ·obtain⟨v,rfl⟩:=List.length_eq_one_iff.1 hl
         obtain⟨u,rfl⟩:=List.length_eq_one_iff.1 (h2.trans hl)
         have:=h3 0 v rfl
         exact this
        ·have hul:¬ us.toArray.size=1:=by simpa[h2] using hl
         rw[dif_neg hul]
         have hrv:Bc vs=rK vs:=by
          unfold Bc
          split
          ·simp at hl
          ·rfl
         rw[hrv]
         exact rJ (.tup _ _ (by simpa using h2) (fun i x hx=>by rw[aL];simpa using h3 i x hx))
       ·exact hF.elim
      intro e a w hq
      cases e with
      | normal=>
        obtain⟨s,κ',hR,hF⟩:=hq
        exact jk (WX _) rfl hR fun w' κ'' hR'=>fin s κ'' ⟨a.tmps,[]⟩ w' hR' hF
      | ret=>
        obtain⟨s,κ',hR,hF⟩:=hq
        exact jk (WX _) rfl hR fun w' κ'' hR'=>fin s κ'' ⟨a.tmps,[]⟩ w' hR' hF
      | exit id=>
        obtain⟨s,κ',hR,hF⟩:=hq
        exact hF.elim
      | goto l=>exact hq.elim
      | panic ch=>exact hq.elim
      | outgrown=>exact hq.elim
     ·cases hc
    ·cases hc
   ·cases hc
  ·cases hc
 ·cases hc
theorem da.intro {muts:List Nat}{f:Nat}{fn:AFn}{args:List AV}{sto:List (Nat×Blk)}{next:Nat}{R:AV->List (Nat×Blk)->Nat->Prop}(hc:cFn P muts f=some fn)(hn:args.length<=fn.N)
  (hv:vc P G next fn.body (FnK G fn.res R) ⟨d8 args,sto,next⟩):da P G f args sto next R:=
 da.of_code hc hn fun c κ N a w co rl li hG hk hf hb hR=>vB (P:=P) (N:=N) co c κ next none 0 fn.body [] rl li (FnK G fn.res R) _ a w κ (.inl rfl) hf hk hb hR (by rw[hG];exact hv)
def isR (r:PV)(σ:List (Nat×Blk))(v:AV):Prop:=∃ q,Jy (fun r=>lookB r σ) v=some q/\Nz q.1 r
theorem am.of_tcalls {f:Nat}{args:List PV}{r:PV}(h:da P G f (args.map .pv) [] 0 fun v σ _=>isR r σ v):am P G f args r:=by
 obtain⟨hcal,h⟩:=h
 refine⟨hcal,fun w imm vals hG hlt hsz hargs=>?_⟩
 have hl:(fun r=>lookB r ([]:List (Nat×Blk)))=fun _=>Blk.none:=by funext r;rfl
 refine (h ⟨w,fun _=>none,imm⟩ vals ?_ (fun _ _=>rfl) (by simpa using hsz) (fun i x hx=>?_)).mono ?_
 ·refine⟨fun r=>trivial,fun r r' d d' b h1=>absurd rfl h1,fun r d b h1=>absurd rfl h1,hlt,hG.1,fun g hg=>?_⟩
  obtain⟨cs,T,fz,h1,h2⟩:=hG.2 g hg
  refine⟨(WU.1 h1).1,?_,cs,T,fz,h1,h2⟩
  rintro⟨r,d,h1,_⟩
  exact h1 rfl
 ·simp only[List.getElem?_map,Option.map_eq_some_iff] at hx
  obtain⟨q,hq,rfl⟩:=hx
  exact .pv _ _ (hargs i q hq)
 ·rintro e w' ⟨u,v,κ',sto',next',rfl,rfl,he,hL,hv,hS,hf,q,hq,hqr⟩
  have hlent:∀ b,¬ (cQ ⟨w,fun _=>none,imm⟩ (fun r=>lookB r ([]:List (Nat×Blk))) G).lent b:=by
   rintro b ⟨r,d,h1,_⟩
   exact h1 rfl
  obtain⟨h1,h2⟩:=xw hS hv hq
  obtain⟨h3,h4⟩:=xu hS q.2 h1 next'
  have hL':=h3.left _ hL
  refine⟨u,(JB κ' (fun r=>lookB r sto') q.2).imm,rfl,⟨hL.os,hL.tape,hL.output,hL.size,fun k hk=>hL.block k hk (hlent k)⟩,fun b o hi=>h3.ext.imm _ _ (he.imm _ _ hi),fun b o hi=>?_,h4.immLt,h2.nz hqr⟩
  rcases hL'.imm b o hi with h1 | h1 | h1
  ·exact .inl h1
  ·exact .inr h1
  ·exact absurd h1 (hlent b)
def Q0 (r:PV)(v:AV)(σ:List (Nat×Blk))(_:Nat):Prop:=isR r σ v
theorem RF {r:PV}{σ:List (Nat×Blk)}{v:AV}(h:v.toPV=some r):isR r σ v:=by
 cases v with
 | pv p=>simp only[AV.toPV,WJ] at h;subst h;exact⟨(p,[]),rfl,.refl p⟩
 | olist a b l=>simp only[AV.toPV,WJ] at h;subst h;exact⟨(.list l,[]),rfl,.refl _⟩
 | _=>simp[AV.toPV] at h
theorem am.intro {muts:List Nat}{f:Nat}{fn:AFn}{args:List PV}{r:PV}(hc:cFn P muts f=some fn)(hn:args.length<=fn.N)
  (hv:vc P G 0 fn.body (FnK G fn.res (Q0 r)) ⟨d8 (args.map .pv),[],0⟩):am P G f args r:=
 am.of_tcalls (da.intro hc (by simpa using hn) hv)
theorem am.nz {f:Nat}{qs ps:List PV}{r:PV}(h:am P G f ps r)(hz:NzL qs ps):am P G f qs r:=by
 obtain⟨h1,h2⟩:=h
 refine⟨h1,fun w imm vals hG hlt hsz hargs=>h2 w imm vals hG hlt (by rw[hsz,hz.length]) fun i x hx=>?_⟩
 obtain⟨y,hy,hyx⟩:=hz.get i x hx
 exact (hargs i y hy).nz hyx
theorem ae.pure {f:Nat}{args:List AV}{ps:List PV}{r:PV}{s:St}{K:AV->St->Prop}(h:am P G f ps r)(he:pvs args=some ps)(hk:K (.pv r) s):ae P G f args s K:=
 ⟨s,args,WkC.refl s args,.inl ⟨ps,r,he,h,hk⟩⟩
theorem ae.pureN {f:Nat}{args:List AV}{qs ps:List PV}{r:PV}{s:St}{K:AV->St->Prop}(h:am P G f ps r)(he:pvs args=some qs)(hz:NzL qs ps)(hk:K (.pv r) s):ae P G f args s K:=
 ae.pure (h.nz hz) he hk
theorem ae.lent {f:Nat}{args:List AV}{s:St}{K:AV->St->Prop}{Q:AV->List (Nat×Blk)->Nat->Prop}(h:da P G f args s.sto s.next Q)(hk:∀ v sto' next',Q v sto' next'->K v ⟨s.env,sto',next'⟩):ae P G f args s K:=
 ⟨s,args,WkC.refl s args,.inr ⟨Q,h,hk⟩⟩
end
section
variable {P:Program}{G:Nat->List PV}
theorem bZ {α:Type}{x:Option α}{k k':α->Prop}(h:∀ a,k a->k' a)(hx:aV x k):aV x k':=by
 cases x with
 | none=>exact hx
 | some a=>exact h a hx
theorem ae.mono {f:Nat}{args:List AV}{s:St}{K K':AV->St->Prop}(h:∀ v s,K v s->K' v s)(hA:ae P G f args s K):ae P G f args s K':=by
 obtain⟨s',args',hw,⟨ps,r,h1,h2,h3⟩ | ⟨Q,h1,h2⟩⟩:=hA
 ·exact⟨s',args',hw,.inl ⟨ps,r,h1,h2,h _ _ h3⟩⟩
 ·exact⟨s',args',hw,.inr ⟨Q,h1,fun v sto n hq=>h _ _ (h2 v sto n hq)⟩⟩
theorem Fj {F F':St->Prop}(h:∀ s,F s->F' s){s:St}{d:Option Nat}{o:AOp}(hx:nA P G F s d o):nA P G F' s d o:=by
 cases o with
 | t o=>
   simp only[nA,jY] at hx ⊢
   split
   ·rename_i v hv
    rw[hv] at hx;exact h _ hx
   ·rename_i hv
    rw[hv] at hx
    exact⟨hx.1,fun b=>h _ (hx.2 b)⟩
 | m o=>exact bZ (fun v hv=>h _ hv) hx
 | fz g x=>exact bZ (fun v hv=>h _ hv) hx
 | call f xs=>exact bZ (fun p hp=>ae.mono (fun v s hv=>h _ hv) hp) hx
theorem Fn {F F':St->Prop}(h:∀ s,F s->F' s){s:St}{d:Option Nat}{o:AOp}{b:Bool}(hx:OW P G F s d o b):OW P G F' s d o b:=by
 cases b with
 | true=>exact Fj h hx
 | false=>exact h _ hx
theorem jH {F F':St->Prop}(h:∀ s,F s->F' s):∀ (l:List AOper) (s:St),ef P G l F s->ef P G l F' s
 | [],s,hx=>h s hx
 | o::r,s,hx=>bZ (fun b hb=>Fn (fun s hs=>jH h r s hs) hb) hx
theorem u9 {F F':List (List Nat×List Nat)->St->Prop}(h:∀ T s,F T s->F' T s){T:List (List Nat×List Nat)}{s:St}{d:Option Nat}{args:List AV}{p:Nat×List AV×List AV}(hx:kF P G F T s d args p):kF P G F' T s d args p:=by
 unfold kF Sp at hx ⊢
 rcases hx with ⟨ps,r,h1,h2,h3⟩ | ⟨v,δ,top,h1,h2,h3⟩
 ·exact .inl ⟨ps,r,h1,h2,h _ _ h3⟩
 ·exact .inr ⟨v,δ,top,h1,h2,h _ _ h3⟩
theorem AE {F F':List (List Nat×List Nat)->St->Prop}(h:∀ T s,F T s->F' T s){T:List (List Nat×List Nat)}{s:St}{d:Option Nat}{o:AOp}(hx:jz P G F T s d o):jz P G F' T s d o:=by
 cases o with
 | t o=>exact bZ (fun v hv=>h _ _ hv) hx
 | m o=>exact bZ (fun v hv=>h _ _ hv) hx
 | fz g x=>exact hx
 | call f xs=>exact bZ (fun p hp=>u9 h hp) hx
theorem oW {A:List (List Nat)}{F F':St->Prop}(h:∀ s,F s->F' s):∀ (l:List AOper) (T:List (List Nat×List Nat)) (s:St),vcD P G A F l T s->vcD P G A F' l T s
 | [],T,s,hx=>⟨hx.1,h s hx.2⟩
 | o::r,T,s,hx=>by
   refine bZ (fun b hb=>?_) hx
   cases b with
   | true=>exact AE (fun T s hs=>oW h r T s hs) hb
   | false=>exact oW h r _ _ hb
theorem dA:∀ {m0:Nat} (c:ACode) {Q Q':AExit->St->Prop} (h:∀ e s,Q e s->Q' e s) (s:St),vc P G m0 c Q s->vc P G m0 c Q' s
 | m0,.skip,Q,Q',h,s,hx=>h _ _ hx
 | m0,.ops l keep,Q,Q',h,s,hx=>jH (fun s hs=>h _ _ hs) l s hx
 | m0,.draw A l l2 keep,Q,Q',h,s,hx=>oW (fun s hs=>jH (fun s hs=>h _ _ hs) l2 s hs) l [] s hx
 | m0,.seq a b,Q,Q',h,s,hx=>dA a (fun e s hs=>by
   cases e with
   | norm=>exact dA b h s hs
   | exit i=>exact h _ _ hs
   | ret=>exact h _ _ hs) s hx
 | m0,.cond x a b,Q,Q',h,s,hx=>by
   simp only[vc] at hx ⊢
   unfold rr at hx ⊢
   split at hx
   ·exact dA a h s hx
   ·exact dA b h s hx
   ·exact hx
 | m0,.block id b,Q,Q',h,s,hx=>dA b (fun e s hs=>by
   cases e with
   | norm=>exact h _ _ hs
   | exit i=>
     simp only[ir] at hs ⊢
     split at hs
     ·rename_i hi;rw[if_pos hi];exact h _ _ hs
     ·rename_i hi;rw[if_neg hi];exact h _ _ hs
   | ret=>exact h _ _ hs) s hx
 | m0,.loop keep b,Q,Q',h,s,hx=>by
   obtain⟨I,h0,h1⟩:=hx
   refine⟨I,h0,fun n s hs=>dA b (fun e s hs=>?_) s (h1 n s hs)⟩
   cases e with
   | norm=>exact hs
   | exit i=>
     obtain⟨s',hw,hq⟩:=hs
     exact⟨s',hw,h _ _ hq⟩
   | ret=>exact h _ _ hs
 | m0,.range f ps keep a b,Q,Q',h,s,hx=>by
   obtain⟨I,s0,h1,h2,h3⟩:=hx
   refine⟨I,s0,h1,h2,bZ (fun p hp=>?_) h3⟩
   obtain⟨q1,lb,xs,q2,q3,q4,q5⟩:=hp
   refine⟨q1,lb,xs,q2,q3,fun i x s' hx hI=>?_,fun s' hI=>h _ _ (q5 s' hI)⟩
   obtain⟨r1,r2⟩:=q4 i x s' hx hI
   refine⟨r1,dA a (fun e s hs=>?_) _ r2⟩
   cases e with
   | norm=>
     refine dA b (fun e s hs=>?_) s hs
     cases e with
     | norm=>exact hs
     | exit i=>exact h _ _ hs
     | ret=>exact h _ _ hs
   | exit i=>exact hs.elim
   | ret=>exact hs.elim
 | m0,.exit id,Q,Q',h,s,hx=>h _ _ hx
 | m0,.ret,Q,Q',h,s,hx=>h _ _ hx
end
theorem iP {n:Int}(h1:-9223372036854775808<=n)(h2:n<=9223372036854775807):IntKind.i64.wrap n=n:=by
 show (if (true&&decide (n % 18446744073709551616>=9223372036854775808))=true then n % 18446744073709551616 - 18446744073709551616 else n % 18446744073709551616)=n
 simp only[Bool.true_and,decide_eq_true_eq]
 split<;>omega
theorem oU {n:Int}(h1:0<=n)(h2:n<=255):IntKind.u8.wrap n=n:=by
 show (if (false&&decide (n % 256>=128))=true then n % 256 - 256 else n % 256)=n
 simp only[Bool.false_and]
 simp;omega
theorem UD {a b:Int}(h:a<b):decide (a<b)=true:=decide_eq_true h
theorem UE {a b:Int}(h:¬ a<b):decide (a<b)=false:=decide_eq_false h
theorem UF {a b:Int}(h:a<=b):decide (a<=b)=true:=decide_eq_true h
theorem UG {a b:Int}(h:¬ a<=b):decide (a<=b)=false:=decide_eq_false h
theorem UH {a b:Int}(h:a=b):decide (a=b)=true:=decide_eq_true h
theorem UI {a b:Int}(h:¬ a=b):decide (a=b)=false:=decide_eq_false h
def Chk (b:Bool):Prop:=b=true
theorem O5:Chk true:=_root_.id rfl
theorem DR (i k:Nat)(x:AV)(r:List (Nat×AV)):look i ((k,x)::r)=if k=i then x else look i r:=_root_.id rfl
theorem I3 (i:Nat):look i [] = .any:=_root_.id rfl
theorem Aa (i k:Nat)(x:Blk)(r:List (Nat×Blk)):lookB i ((k,x)::r)=if k=i then x else lookB i r:=_root_.id rfl
theorem DT (i:Nat):lookB i [] = .none:=_root_.id rfl
def evE (e:List (Nat×AV)):AX->AV
 | .t i=>look i e
 | .c p=>.pv p
 | .m i tb=>Th tb (look i e)
theorem Uw (e:List (Nat×AV))(i:Nat):evE e (.t i)=look i e:=_root_.id rfl
theorem Ux (e:List (Nat×AV))(p:PV):evE e (.c p) = .pv p:=_root_.id rfl
def evO (e:List (Nat×AV)):Option AX->Option AV
 | some x=>some (evE e x)
 | none=>none
theorem JM (e:List (Nat×AV))(x:AX):evO e (some x)=some (evE e x):=_root_.id rfl
theorem JN (e:List (Nat×AV)):evO e none=none:=_root_.id rfl
def evL (e:List (Nat×AV)):List AX->List AV
 | []=>[]
 | x::r=>evE e x::evL e r
theorem OI (e:List (Nat×AV)):evL e []=[]:=_root_.id rfl
theorem JP (e:List (Nat×AV))(x:AX)(r:List AX):evL e (x::r)=evE e x::evL e r:=_root_.id rfl
theorem kT (e:List (Nat×AV))(σ:List (Nat×Blk))(n:Nat)(x:AX):x.ev (St.E ⟨e,σ,n⟩)=evE e x:=by cases x<;>rfl
theorem E4 (e:List (Nat×AV))(σ:List (Nat×Blk))(n:Nat):∀ (l:List AX),l.map (·.ev (St.E ⟨e,σ,n⟩))=evL e l
 | []=>rfl
 | x::r=>by rw[WP,E4 e σ n r,kT];rfl
def evP (e:List (Nat×AV)):List (Nat×Nat×AX)->List (Nat×Nat×AV)
 | []=>[]
 | (a,b,x)::r=>(a,b,evE e x)::evP e r
theorem OH (e:List (Nat×AV)):evP e []=[]:=_root_.id rfl
theorem JL (e:List (Nat×AV))(a b:Nat)(x:AX)(r:List (Nat×Nat×AX)):evP e ((a,b,x)::r)=(a,b,evE e x)::evP e r:=_root_.id rfl
def jG (e:List (Nat×AV)):TOp->Option AV
 | .mv x=>some (evE e x)
 | .pick c a b=>tH (evE e c) (evE e a) (evE e b)
 | .build zs ps=>(iF (zs.map .pv) (evP e ps)).map kO
 | .faddr off x=>mh off (evE e x)
 | .field g sz off x=>nZ g sz off (evE e x)
 | .iaddr sz x i=>kw sz (evE e x) (evE e i)
 | .iaddrA n sz x i=>jT n sz (evE e x) (evE e i)
 | .index x i=>jc (evE e x) (evE e i)
 | .indexA g n sz x i=>ft g n sz (evE e x) (evE e i)
 | .len st x=>H5 st (evE e x)
 | .imin x y=>No (evE e x) (evE e y)
 | .imax x y=>Np (evE e x) (evE e y)
 | .sliceL sz x lo hi=>gq sz (evE e x) (evO e lo) (evO e hi)
 | .sliceS x lo hi=>iy (evE e x) (evO e lo) (evO e hi)
 | .bin op x y=>gP op (evE e x) (evE e y)
 | .beq kd ng x y=>(Gx kd (evE e x) (evE e y)).map fun b=>.pv (.bool (if ng then !b else b))
 | .neg x=>PN (evE e x)
 | .not x=>PL (evE e x)
 | .conv k x=>ze k (evE e x)
 | .convIS x=>jU (evE e x)
 | .clo f fs cs=>some (uq f (evL e fs) (evL e cs))
 | .ext x i=>PO i (evE e x)
 | .nilck x=>PM (evE e x)
theorem JO (e:List (Nat×AV)):∀ (l:List AX),l.map (fun x=>evE e x)=evL e l
 | []=>rfl
 | x::r=>by rw[WP,JO e r];rfl
theorem RQ (e:List (Nat×AV))(l:Option AX):l.map (fun x=>evE e x)=evO e l:=by cases l<;>rfl
theorem RP (e:List (Nat×AV)):∀ (l:List (Nat×Nat×AX)),(l.map fun p=>(p.1,p.2.1,evE e p.2.2))=evP e l
 | []=>rfl
 | (a,b,x)::r=>by rw[WP,RP e r];rfl
theorem BY (e:List (Nat×AV))(σ:List (Nat×Blk))(n:Nat)(o:TOp):o.run (St.E ⟨e,σ,n⟩)=jG e o:=by
 cases o<;>simp only[TOp.run,jG,kT,JO,RQ,RP]
theorem MF (e:List (Nat×AV))(x:AX):jG e (.mv x)=some (evE e x):=_root_.id rfl
theorem BV (e:List (Nat×AV))(c a b:AX):jG e (.pick c a b)=tH (evE e c) (evE e a) (evE e b):=_root_.id rfl
theorem yM (e:List (Nat×AV))(zs:List PV)(ps:List (Nat×Nat×AX)):jG e (.build zs ps)=(iF (zs.map .pv) (evP e ps)).map kO:=_root_.id rfl
theorem yL (e:List (Nat×AV))(off:Nat)(x:AX):jG e (.faddr off x)=mh off (evE e x):=_root_.id rfl
theorem yK (e:List (Nat×AV))(g:Bool)(sz off:Nat)(x:AX):jG e (.field g sz off x)=nZ g sz off (evE e x):=_root_.id rfl
theorem yJ (e:List (Nat×AV))(sz:Nat)(x i:AX):jG e (.iaddr sz x i)=kw sz (evE e x) (evE e i):=_root_.id rfl
theorem tp (e:List (Nat×AV))(n sz:Nat)(x i:AX):jG e (.iaddrA n sz x i)=jT n sz (evE e x) (evE e i):=_root_.id rfl
theorem yI (e:List (Nat×AV))(x i:AX):jG e (.index x i)=jc (evE e x) (evE e i):=_root_.id rfl
theorem tn (e:List (Nat×AV))(g:Bool)(n sz:Nat)(x i:AX):jG e (.indexA g n sz x i)=ft g n sz (evE e x) (evE e i):=_root_.id rfl
theorem Hn (e:List (Nat×AV))(st:Bool)(x:AX):jG e (.len st x)=H5 st (evE e x):=_root_.id rfl
theorem BW (e:List (Nat×AV))(x y:AX):jG e (.imin x y)=No (evE e x) (evE e y):=_root_.id rfl
theorem BX (e:List (Nat×AV))(x y:AX):jG e (.imax x y)=Np (evE e x) (evE e y):=_root_.id rfl
theorem tm (e:List (Nat×AV))(sz:Nat)(x:AX)(lo hi:Option AX):jG e (.sliceL sz x lo hi)=gq sz (evE e x) (evO e lo) (evO e hi):=_root_.id rfl
theorem tl (e:List (Nat×AV))(x:AX)(lo hi:Option AX):jG e (.sliceS x lo hi)=iy (evE e x) (evO e lo) (evO e hi):=_root_.id rfl
theorem Hq (e:List (Nat×AV))(op:BinOp)(x y:AX):jG e (.bin op x y)=gP op (evE e x) (evE e y):=_root_.id rfl
def Ns (ng:Bool):Option Bool->Option AV
 | some b=>some (.pv (.bool (if ng then !b else b)))
 | none=>none
theorem Hr (e:List (Nat×AV))(kd:Nat)(ng:Bool)(x y:AX):jG e (.beq kd ng x y)=Ns ng (Gx kd (evE e x) (evE e y)):=by
 simp only[jG];cases Gx kd (evE e x) (evE e y)<;>rfl
theorem Nr (b:Bool):Ns false (some b)=some (.pv (.bool b)):=_root_.id rfl
theorem Hm (e:List (Nat×AV))(x:AX):jG e (.neg x)=PN (evE e x):=_root_.id rfl
theorem Hl (e:List (Nat×AV))(x:AX):jG e (.not x)=PL (evE e x):=_root_.id rfl
theorem BZ (e:List (Nat×AV))(k:IntKind)(x:AX):jG e (.conv k x)=ze k (evE e x):=_root_.id rfl
theorem tq (e:List (Nat×AV))(x:AX):jG e (.convIS x)=jU (evE e x):=_root_.id rfl
theorem tO (k:IntKind)(n:Int):jU (.pv (.int k n))=some (.pv (.str (Utf8.encode n).data.toList)):=_root_.id rfl
theorem Hp (e:List (Nat×AV))(f:Nat)(fs cs:List AX):jG e (.clo f fs cs)=some (uq f (evL e fs) (evL e cs)):=_root_.id rfl
theorem Ho (e:List (Nat×AV))(x:AX)(i:Nat):jG e (.ext x i)=PO i (evE e x):=_root_.id rfl
theorem yH (e:List (Nat×AV))(x:AX):jG e (.nilck x)=PM (evE e x):=_root_.id rfl
theorem Nk (x y:AV):tH (.pv (.bool true)) x y=some x:=_root_.id rfl
theorem Nl (x y:AV):tH (.pv (.bool false)) x y=some y:=_root_.id rfl
theorem zc (off r o:Nat):mh off (.ptr r o)=some (.ptr r (o+off)):=_root_.id rfl
theorem tN (off:Nat)(l:List PV)(i o:Nat):mh off (.pv (.eptr l i o))=some (.pv (.eptr l i (o+off))):=_root_.id rfl
theorem CR (g:Bool)(sz off:Nat)(ps:List PV):nZ g sz off (.pv (.agg ps))=eC g sz off (ps.map .pv):=_root_.id rfl
def Q5 (sz off:Nat)(cs:List AV):Option AV:=if off+sz<=cs.length then some (kO ((cs.drop off).take sz)) else none
theorem Nv (sz off:Nat)(cs:List AV):eC true sz off cs=Q5 sz off cs:=_root_.id rfl
theorem Nw (sz off:Nat)(cs:List AV):eC false sz off cs=cs[off]?:=_root_.id rfl
def ij (sz:Nat)(l:List PV)(i:Nat):Option PV->Option AV
 | some y=>if y.cells.length=sz then some (.pv (.eptr l i 0)) else none
 | none=>none
theorem rg (sz:Nat)(l:List PV)(i:Nat):g8 sz l (i:Int)=ij sz l i l[i]?:=by
 unfold g8 ij
 rw[if_pos (by omega)]
 simp only[Int.toNat_natCast]
 cases l[i]? <;> rfl
theorem aJ (sz:Nat)(l:List PV):g8 sz l 0=ij sz l 0 l[0]?:=_root_.id rfl
theorem zd (sz:Nat)(l:List PV)(i:Nat):g8 sz l ((i:Int)+1)=ij sz l (i+1) l[i+1]?:=rg sz l (i+1)
theorem tM (sz:Nat)(l:List PV)(k:IntKind)(n:Int):kw sz (.pv (.list l)) (.pv (.int k n))=g8 sz l n:=_root_.id rfl
theorem zb (sz r off len:Nat)(k:IntKind){n:Int}(h:0<=n)(h':n.toNat<len):kw sz (.row r sz off len) (.pv (.int k n))=some (.ptr r (off+n.toNat*sz)):=by
 simp[kw,h,h']
theorem H3 (l:List UInt8):H5 true (.pv (.str l))=some (.pv (.int .i64 l.length)):=_root_.id rfl
theorem CQ (l:List PV):H5 false (.pv (.list l))=some (.pv (.int .i64 l.length)):=_root_.id rfl
theorem CP:H5 false (.pv .nils)=some (.pv (.int .i64 0)):=_root_.id rfl
theorem H4 (r s o n:Nat):H5 false (.row r s o n)=some (.pv (.int .i64 n)):=_root_.id rfl
theorem tP {d top:Nat}{k:IntKind}{n:Int}(h0:0<=n)(h1:n<=top):bS d top (some (.pv (.int k n)))=some n.toNat:=by
 simp[bS,h0,h1]
theorem tQ {d top:Nat}:bS d top none=some d:=_root_.id rfl
def UL {α:Type}(l:List α)(f:List α->AV):Option Nat->Option Nat->Option AV
 | some h,some a=>some (f ((l.take h).drop a))
 | _,_=>none
theorem Fx {α:Type}(l:List α)(f:List α->AV)(h a:Nat):UL l f (some h) (some a)=some (f ((l.take h).drop a)):=_root_.id rfl
def UW (l:Nat)(lo:Option AV):Option Nat->Option Nat
 | some h=>bS 0 h lo
 | none=>none
theorem F2 (l:Nat)(lo:Option AV)(h:Nat):UW l lo (some h)=bS 0 h lo:=_root_.id rfl
theorem tG (l:List UInt8)(lo hi:Option AV):iy (.pv (.str l)) lo hi=UL l (fun x=>.pv (.str x)) (bS l.length l.length hi) (UW l.length lo (bS l.length l.length hi)):=by
 unfold iy UL UW
 simp only
 split<;>rename_i h
 ·rw[h];simp only;cases bS 0 _ lo<;>rfl
 ·rw[h]
theorem Ih (k:IntKind)(a b:Int):gP .add (.pv (.int k a)) (.pv (.int k b))=some (.pv (.int k (k.wrap (a+b)))):=by simp[gP,wm]
theorem H6 (k:IntKind)(a b:Int):gP .sub (.pv (.int k a)) (.pv (.int k b))=some (.pv (.int k (k.wrap (a - b)))):=by simp[gP,wm]
theorem Ia (k:IntKind)(a b:Int):gP .mul (.pv (.int k a)) (.pv (.int k b))=some (.pv (.int k (k.wrap (a*b)))):=by simp[gP,wm]
theorem H8 {k:IntKind}{a b:Int}(h:¬ b=0):gP .quo (.pv (.int k a)) (.pv (.int k b))=some (.pv (.int k (k.wrap (a.tdiv b)))):=by simp[gP,wm,h]
theorem H7 {k:IntKind}{a b:Int}(h:¬ b=0):gP .rem (.pv (.int k a)) (.pv (.int k b))=some (.pv (.int k (a.tmod b))):=by simp[gP,wm,h]
theorem Ig (k:IntKind)(a b:Int):gP .eql (.pv (.int k a)) (.pv (.int k b))=some (.pv (.bool (decide (a=b)))):=by simp[gP,wm];rfl
theorem H9 (k:IntKind)(a b:Int):gP .neq (.pv (.int k a)) (.pv (.int k b))=some (.pv (.bool (!decide (a=b)))):=by simp[gP,wm];rfl
theorem Ib (k:IntKind)(a b:Int):gP .lss (.pv (.int k a)) (.pv (.int k b))=some (.pv (.bool (decide (a<b)))):=by simp[gP,wm]
theorem Ic (k:IntKind)(a b:Int):gP .leq (.pv (.int k a)) (.pv (.int k b))=some (.pv (.bool (decide (a<=b)))):=by simp[gP,wm]
theorem Ie (k:IntKind)(a b:Int):gP .gtr (.pv (.int k a)) (.pv (.int k b))=some (.pv (.bool (decide (b<a)))):=by simp[gP,wm]
theorem If (k:IntKind)(a b:Int):gP .geq (.pv (.int k a)) (.pv (.int k b))=some (.pv (.bool (decide (b<=a)))):=by simp[gP,wm]
theorem CW {a b:List UInt8}(h:a.length+b.length<=9223372036854775807):gP .add (.pv (.str a)) (.pv (.str b))=some (.pv (.str (a++b))):=by
 have:a.length+b.length<=maxLen:=by unfold maxLen;omega
 simp[gP,PK,this]
theorem CV (a b:List UInt8):gP .eql (.pv (.str a)) (.pv (.str b))=some (.pv (.bool (decide (a=b)))):=by
 simp[gP,PK];rw[Bool.eq_iff_iff];simp
theorem CT (a b:List UInt8):gP .neq (.pv (.str a)) (.pv (.str b))=some (.pv (.bool (!decide (a=b)))):=by
 simp[gP,PK];rw[Bool.eq_iff_iff];simp
theorem CU (a b:List UInt8):gP .lss (.pv (.str a)) (.pv (.str b))=some (.pv (.bool (cK a b))):=_root_.id rfl
theorem Ii (r o:Nat):Gx 1 (.ptr r o) (.pv .nilp)=some false:=_root_.id rfl
theorem CX:Gx 1 (.pv .nilp) (.pv .nilp)=some true:=_root_.id rfl
theorem CY (x:PV)(l:List PV):Gx 2 (.pv (.list (x::l))) (.pv .nils)=some false:=_root_.id rfl
theorem HY (k:IntKind)(n:Int):PN (.pv (.int k n))=some (.pv (.int k (k.wrap (0 - n)))):=_root_.id rfl
theorem CN (b:Bool):PL (.pv (.bool b))=some (.pv (.bool (!b))):=_root_.id rfl
theorem CS (k k':IntKind)(n:Int):ze k (.pv (.int k' n))=some (.pv (.int k (k.wrap n))):=_root_.id rfl
theorem HX (r o:Nat):PM (.ptr r o)=some (.ptr r o):=_root_.id rfl
theorem Nq (i:Nat)(ps:List PV):PO i (.pv (.tup ps))=(ps[i]?).map .pv:=_root_.id rfl
theorem Dp {α β:Type}(f:α->β)(a:α):(some a).map f=some (f a):=_root_.id rfl
theorem Wh {α:Type}(x:α)(r:List α):(x::r)[0]? = some x:=_root_.id rfl
theorem Wg {α:Type}(x:α)(r:List α)(n:Nat):(x::r)[n+1]? = r[n]?:=_root_.id rfl
theorem Nt:pvs []=some []:=_root_.id rfl
def Td:Option PV->Option (List PV)->Option (List PV)
 | some p,some ps=>some (p::ps)
 | _,_=>none
theorem C0 (p:PV)(ps:List PV):Td (some p) (some ps)=some (p::ps):=_root_.id rfl
theorem C1 (x:Option (List PV)):Td none x=none:=_root_.id rfl
theorem zj (x:Option PV):Td x none=none:=by cases x<;>rfl
theorem wo (x:AV)(r:List AV):pvs (x::r)=Td x.toPV (pvs r):=by
 show (match x.toPV,pvs r with | some p,some ps=>some (p::ps) | _,_=>none)=_
 cases x.toPV<;>cases pvs r<;>rfl
theorem tR:∀ (ps:List PV),pvs (ps.map .pv)=some ps
 | []=>rfl
 | x::r=>by rw[WP,wo,tR r];rfl
theorem MA (p:PV):(AV.pv p).toPV=some p:=_root_.id rfl
theorem yC (r s:Nat)(l:List PV):(AV.olist r s l).toPV=some (.list l):=_root_.id rfl
theorem GY (r o:Nat):(AV.ptr r o).toPV=none:=_root_.id rfl
theorem GX (r s o n:Nat):(AV.row r s o n).toPV=none:=_root_.id rfl
def DL (cs:List AV):Option (List PV)->AV
 | some ps=>.pv (.agg ps)
 | none=>.agg cs
theorem NY (cs:List AV):kO cs=DL cs (pvs cs):=by unfold kO;cases pvs cs<;>rfl
theorem ur (cs:List AV)(ps:List PV):DL cs (some ps) = .pv (.agg ps):=_root_.id rfl
theorem uu (cs:List AV):DL cs none = .agg cs:=_root_.id rfl
def Lj (cs:List AV):Option (List PV)->AV
 | some ps=>.pv (.tup ps)
 | none=>.tup cs
theorem NW (cs:List AV):rK cs=Lj cs (pvs cs):=by unfold rK;cases pvs cs<;>rfl
theorem un (cs:List AV)(ps:List PV):Lj cs (some ps) = .pv (.tup ps):=_root_.id rfl
def rM (f:Nat)(fs cs:List AV):Option (List PV)->Option (List PV)->AV
 | some a,some b=>.pv (.clo f a b)
 | _,_=>.clo f fs cs
theorem NX (f:Nat)(fs cs:List AV):uq f fs cs=rM f fs cs (pvs fs) (pvs cs):=by unfold uq rM;cases pvs fs<;>cases pvs cs<;>rfl
theorem uo (f:Nat)(fs cs:List AV)(a b:List PV):rM f fs cs (some a) (some b) = .pv (.clo f a b):=_root_.id rfl
theorem up (f:Nat)(fs cs:List AV)(a:Option (List PV)):rM f fs cs a none = .clo f fs cs:=by cases a<;>rfl
theorem rL (f:Nat)(fs cs:List AV)(a:Option (List PV)):rM f fs cs none a = .clo f fs cs:=by cases a<;>rfl
theorem FP (p:PV):(AV.pv p).cells=p.cells.map .pv:=_root_.id rfl
theorem A0 (r o:Nat):(AV.ptr r o).cells=[.ptr r o]:=_root_.id rfl
theorem AZ (r s o n:Nat):(AV.row r s o n).cells=[.row r s o n]:=_root_.id rfl
theorem sD (r s:Nat)(l:List PV):(AV.olist r s l).cells=[.olist r s l]:=_root_.id rfl
theorem ap (cs:List PV):(PV.agg cs).cells=cs:=_root_.id rfl
theorem AY (b:Bool):(PV.bool b).cells=[.bool b]:=_root_.id rfl
theorem FN (k:IntKind)(n:Int):(PV.int k n).cells=[.int k n]:=_root_.id rfl
theorem FL (s:List UInt8):(PV.str s).cells=[.str s]:=_root_.id rfl
theorem AU:PV.nils.cells=[.nils]:=_root_.id rfl
theorem AW (l:List PV):(PV.list l).cells=[.list l]:=_root_.id rfl
theorem FO (f:Nat)(a b:List PV):(PV.clo f a b).cells=[.clo f a b]:=_root_.id rfl
def N8 (g:Bool)(sz o:Nat):Blk->Option AV
 | .cells _ _ l=>eC g sz o l
 | _=>none
theorem uD (g:Bool)(sz o T:Nat)(f:Bool)(l:List AV):N8 g sz o (.cells T f l)=eC g sz o l:=_root_.id rfl
def N4 (g:Bool)(sz o:Nat):Option PV->Option AV
 | some e=>nG g sz o e
 | none=>none
theorem Ac (g:Bool)(sz o:Nat)(e:PV):N4 g sz o (some e)=nG g sz o e:=_root_.id rfl
theorem CO (G:Nat->List PV)(g:Bool)(sz:Nat)(σ:aE)(r o:Nat):fV G g sz σ (.ptr r o)=N8 g sz o (σ r):=by
 simp only[fV,N8];cases σ r<;>rfl
theorem za (G:Nat->List PV)(g:Bool)(sz:Nat)(σ:aE)(l:List PV)(i o:Nat):fV G g sz σ (.pv (.eptr l i o))=N4 g sz o l[i]?:=by
 simp only[fV,N4];cases l[i]? <;> rfl
theorem N7 (sz o:Nat)(e:PV):nG false sz o e=eC false sz o (e.cells.map .pv):=by simp[nG]
theorem N6 {sz o:Nat}{cs:List PV}(h:0<o):nG true sz o (.agg cs)=eC true sz o (cs.map .pv):=by
 simp[nG,PV.cells];omega
def kX (e:List (Nat×AV))(σ:List (Nat×Blk))(new:Nat):XOp->Option (AV×List (Nat×Blk))
 | .noesc x=>some (evE e x,[])
 | .ucast u n b x=>(gm u n b (fun r=>lookB r σ) (evE e x)).map fun v=>(v,[])
 | .peq ng x y=>(Nm ng (evE e x) (evE e y)).map fun v=>(v,[])
 | .apps t by_ x y=>nD t by_ new (fun r=>lookB r σ) (evE e x) (evE e y)
 | .sdata x=>(jb (evE e x)).map fun v=>(v,[])
 | .ustr t x k=>q8 t (fun r=>lookB r σ) (evE e x) (evE e k)
 | .ofStr x=>mf new (evE e x)
 | .inil ng x y=>(rc ng (evE e x) (evE e y)).map fun v=>(v,[])
 | .idxb x y=>(tL (evE e x) (evE e y)).map fun v=>(v,[])
 | .mkmap=>some (.mp new,[(new,.mp [])])
 | .mlook kd co z x k=>(pp kd co z (fun r=>lookB r σ) (evE e x) (evE e k)).map fun v=>(v,[])
 | .mset kd x k v=>(po kd (fun r=>lookB r σ) (evE e x) (evE e k) (evE e v)).map fun d=>(.pv .undef,d)
 | .bslf sz len xs=>kM sz len (evL e xs)
 | .same x=>CL (fun r=>lookB r σ) (evE e x)
theorem Mi (e:List (Nat×AV))(σ:List (Nat×Blk))(n new:Nat)(o:XOp):o.run new (St.E ⟨e,σ,n⟩) (St.σ ⟨e,σ,n⟩)=kX e σ new o:=by
 cases o<;>simp only[XOp.run,kX,kT,JO]<;>rfl
def pB (G:Nat->List PV)(e:List (Nat×AV))(σ:List (Nat×Blk))(new:Nat):MOp->Option (AV×List (Nat×Blk))
 | .alloc T zs=>some (.ptr new 0,[(new,.cells T true (zs.map .pv))])
 | .box T x=>if (evE e x).known=true then some (.ptr new 0,[(new,.cells T true (evE e x).cells)]) else none
 | .cbox T x=>match (evE e x).toPV with
   | some p=>if p.cells.all PV.one=true then some (.pv (.eptr [p] 0 0),[(new,.none)]) else none
   | none=>none
 | .load g sz x=>(fV G g sz (fun r=>lookB r σ) (evE e x)).map fun v=>(v,[])
 | .store sz x v=>(ja sz (fun r=>lookB r σ) (evE e x) (evE e v)).map fun d=>(.pv .undef,d)
 | .toStr x=>(i8 (fun r=>lookB r σ) (evE e x)).map fun v=>(v,[])
 | .xop o=>kX e σ new o
 | .bslice mu t sz len xs=>iz mu t sz len new (evL e xs)
 | .append mu t sz by_ x y=>eB mu t sz by_ new (fun r=>lookB r σ) (evE e x) (evE e y)
 | .mk mu t sz by_ zs x y=>rMk mu t sz by_ zs new (evE e x) (evE e y)
 | .sliceA n sz x lo hi=>match evE e x with
   | .ptr r o=>match lookB r σ with
     | .cells _ f l=>if f=true/\o+n*sz<=l.length/\(o=0->n*sz=l.length)/\n<=9223372036854775807 then (gq sz (.row r sz o n) (evO e lo) (evO e hi)).map fun v=>(v,[]) else none
     | _=>none
   | _=>none
theorem DN (G:Nat->List PV)(e:List (Nat×AV))(σ:List (Nat×Blk))(n new:Nat)(o:MOp):o.run G new (St.E ⟨e,σ,n⟩) (St.σ ⟨e,σ,n⟩)=pB G e σ new o:=by
 cases o<;>first | (simp only[MOp.run,pB,kT,JO,RQ]<;>rfl) | exact Mi e σ n new _
def iu (δ:List (Nat×Blk)):Option AV->Option (AV×List (Nat×Blk))
 | some v=>some (v,δ)
 | none=>none
theorem yw (δ:List (Nat×Blk))(v:AV):iu δ (some v)=some (v,δ):=_root_.id rfl
def GG (v:AV):Option (List (Nat×Blk))->Option (AV×List (Nat×Blk))
 | some δ=>some (v,δ)
 | none=>none
theorem yv (δ:List (Nat×Blk))(v:AV):GG v (some δ)=some (v,δ):=_root_.id rfl
theorem z6 (G:Nat->List PV)(e:List (Nat×AV))(σ:List (Nat×Blk))(new T:Nat)(zs:List PV):pB G e σ new (.alloc T zs)=some (.ptr new 0,[(new,.cells T true (zs.map .pv))]):=_root_.id rfl
def V6 (new T:Nat)(v:AV):Bool->Option (AV×List (Nat×Blk))
 | true=>some (.ptr new 0,[(new,.cells T true v.cells)])
 | false=>none
theorem SC (new T:Nat)(v:AV):V6 new T v true=some (.ptr new 0,[(new,.cells T true v.cells)]):=_root_.id rfl
theorem I0 (G:Nat->List PV)(e:List (Nat×AV))(σ:List (Nat×Blk))(new T:Nat)(x:AX):pB G e σ new (.box T x)=V6 new T (evE e x) (evE e x).known:=by
 simp only[pB];cases (evE e x).known<;>rfl
def Pb (new:Nat):Option PV->Option (AV×List (Nat×Blk))
 | some p=>if p.cells.all PV.one=true then some (.pv (.eptr [p] 0 0),[(new,.none)]) else none
 | none=>none
theorem A1 (new:Nat)(p:PV):Pb new (some p)=if p.cells.all PV.one=true then some (.pv (.eptr [p] 0 0),[(new,.none)]) else none:=_root_.id rfl
theorem DO (G:Nat->List PV)(e:List (Nat×AV))(σ:List (Nat×Blk))(new T:Nat)(x:AX):pB G e σ new (.cbox T x)=Pb new (evE e x).toPV:=by
 simp only[pB,Pb]
theorem Ja (p:PV):(AV.pv p).known=true:=_root_.id rfl
theorem D2 (r o:Nat):(AV.ptr r o).known=true:=_root_.id rfl
theorem D1 (r s o n:Nat):(AV.row r s o n).known=true:=_root_.id rfl
theorem uF (r s:Nat)(l:List PV):(AV.olist r s l).known=true:=_root_.id rfl
theorem DM (G:Nat->List PV)(e:List (Nat×AV))(σ:List (Nat×Blk))(new:Nat)(g:Bool)(sz:Nat)(x:AX):pB G e σ new (.load g sz x)=iu [] (fV G g sz (fun r=>lookB r σ) (evE e x)):=by
 simp only[pB];cases fV G g sz (fun r=>lookB r σ) (evE e x)<;>rfl
theorem zZ (G:Nat->List PV)(e:List (Nat×AV))(σ:List (Nat×Blk))(new sz:Nat)(x v:AX):pB G e σ new (.store sz x v)=GG (.pv .undef) (ja sz (fun r=>lookB r σ) (evE e x) (evE e v)):=by
 simp only[pB];cases ja sz (fun r=>lookB r σ) (evE e x) (evE e v)<;>rfl
theorem uA (G:Nat->List PV)(e:List (Nat×AV))(σ:List (Nat×Blk))(new:Nat)(mu:Bool)(t sz len:Nat)(xs:List AX):pB G e σ new (.bslice mu t sz len xs)=iz mu t sz len new (evL e xs):=_root_.id rfl
theorem uB (G:Nat->List PV)(e:List (Nat×AV))(σ:List (Nat×Blk))(new:Nat)(mu:Bool)(t sz by_:Nat)(x y:AX):pB G e σ new (.append mu t sz by_ x y)=eB mu t sz by_ new (fun r=>lookB r σ) (evE e x) (evE e y):=_root_.id rfl
theorem N0 (G:Nat->List PV)(e:List (Nat×AV))(σ:List (Nat×Blk))(new:Nat)(mu:Bool)(t sz by_:Nat)(zs:List PV)(x y:AX):pB G e σ new (.mk mu t sz by_ zs x y)=rMk mu t sz by_ zs new (evE e x) (evE e y):=_root_.id rfl
theorem Nn {e sz by_:Nat}{zs:List PV}{new:Nat}{k k':IntKind}{c:Int}(h:0<=c)(h1:(by_:Int)*c<=281474976710656)(h2:c<=9223372036854775807):rMk false e sz by_ zs new (.pv (.int k 0)) (.pv (.int k' c))=some (.olist new sz [],[(new,.tok e sz)]):=by
 simp[rMk,h,h1,h2]
def vV (sz r o:Nat)(v:AV):Blk->Option (List (Nat×Blk))
 | .cells T f l=>if v.known=true/\v.cells.length=sz/\v.cells.all AV.one=true/\o+sz<=l.length then some [(r,.cells T f (l.take o++v.cells++l.drop (o+sz)))] else none
 | _=>none
theorem yZ (sz:Nat)(σ:aE)(r o:Nat)(v:AV):ja sz σ (.ptr r o) v=vV sz r o v (σ r):=by
 simp only[ja,vV];cases σ r<;>rfl
def B4 (r T:Nat)(f:Bool)(l:List AV)(sz o:Nat)(cs:List AV):Bool->Option (List (Nat×Blk))
 | true=>some [(r,.cells T f (l.take o++cs++l.drop (o+sz)))]
 | false=>none
theorem qJ (sz r o:Nat)(v:AV)(T:Nat)(f:Bool)(l:List AV):vV sz r o v (.cells T f l)=B4 r T f l sz o v.cells (v.known&&decide (v.cells.length=sz)&&v.cells.all AV.one&&decide (o+sz<=l.length)):=by
 simp only[vV]
 by_cases h:v.known=true/\v.cells.length=sz/\v.cells.all AV.one=true/\o+sz<=l.length
 ·rw[if_pos h]
  have:(v.known&&decide (v.cells.length=sz)&&v.cells.all AV.one&&decide (o+sz<=l.length))=true:=by simp only[WT,decide_eq_true_eq];exact⟨⟨⟨h.1,h.2.1⟩,h.2.2.1⟩,h.2.2.2⟩
  rw[this];rfl
 ·rw[if_neg h]
  have:(v.known&&decide (v.cells.length=sz)&&v.cells.all AV.one&&decide (o+sz<=l.length))=false:=by
   rw[Bool.eq_false_iff]
   intro hh
   simp only[WT,decide_eq_true_eq] at hh
   exact h ⟨hh.1.1.1,hh.1.1.2,hh.1.2,hh.2⟩
  rw[this];rfl
theorem vU (r T:Nat)(f:Bool)(l:List AV)(sz o:Nat)(cs:List AV):B4 r T f l sz o cs true=some [(r,.cells T f (l.take o++cs++l.drop (o+sz)))]:=_root_.id rfl
theorem jO {n m by_:Nat}(h1:n+m<=9223372036854775807)(h2:(n+m)*by_<=140737488355328):qv n m by_=true:=by
 simp[qv,h1,h2]
theorem GM (l:List (Nat×Blk)):nw l []=l:=_root_.id rfl
theorem BM (l:List (Nat×Blk))(p:Nat×Blk)(r:List (Nat×Blk)):nw l (p::r)=nw (p::l) r:=_root_.id rfl
theorem J2 (f:Nat)(a b:List PV):ed (.pv (.clo f a b))=some (f,a.map .pv,b.map .pv):=_root_.id rfl
theorem J3 (f:Nat)(a b:List AV):ed (.clo f a b)=some (f,a,b):=_root_.id rfl
theorem NC {α:Type}(a:α)(k:α->Prop):aV (some a) k=k a:=_root_.id rfl
section
variable {P:Program}{G:Nat->List PV}
theorem IL (F:St->Prop)(e:List (Nat×AV))(σ:List (Nat×Blk))(n d:Nat)(v:AV):NR F ⟨e,σ,n⟩ (some d) v=F ⟨(d,v)::e,σ,n⟩:=_root_.id rfl
theorem IP (F:St->Prop)(e:List (Nat×AV))(σ:List (Nat×Blk))(n d:Nat)(v:AV)(δ:List (Nat×Blk)):nextM F ⟨e,σ,n⟩ (some d) (v,δ)=F ⟨(d,v)::e,nw σ δ,n+1⟩:=_root_.id rfl
theorem IM (F:St->Prop)(e:List (Nat×AV))(σ:List (Nat×Blk))(n:Nat)(v:AV)(δ:List (Nat×Blk)):nextM F ⟨e,σ,n⟩ none (v,δ)=F ⟨e,nw σ δ,n+1⟩:=_root_.id rfl
theorem IQ (F:St->Prop)(e:List (Nat×AV))(σ:List (Nat×Blk))(n d:Nat)(v:AV):NS F (some d) v ⟨e,σ,n⟩=F ⟨(d,v)::e,σ,n⟩:=_root_.id rfl
theorem J8 (args:List AV)(s:St)(K:AV->St->Prop)(f:Nat)(a b:List AV):FQ P G args s K (f,a,b)=ae P G f (a++args++b) s K:=_root_.id rfl
theorem BD (F:St->Prop)(s:St):ef P G [] F s=F s:=_root_.id rfl
theorem yy (d:Option Nat)(o:AOp)(r:List AOper)(F:St->Prop)(s:St):ef P G (⟨d,o,none⟩::r) F s=nA P G (ef P G r F) s d o:=_root_.id rfl
def lJ (b:Bool):AV->Option Bool
 | .pv (.bool x)=>some (x == b)
 | .pv .undef=>some false
 | _=>none
theorem BB (x:Bool):lJ true (.pv (.bool x))=some x:=by cases x<;>rfl
theorem BC (x:Bool):lJ false (.pv (.bool x))=some (!x):=by cases x<;>rfl
theorem BA (b:Bool):lJ b (.pv .undef)=some false:=_root_.id rfl
theorem s9 (d:Option Nat)(o:AOp)(i:Nat)(b:Bool)(r:List AOper)(F:St->Prop)(e:List (Nat×AV))(σ:List (Nat×Blk))(n:Nat) :
  ef P G (⟨d,o,some (i,b)⟩::r) F ⟨e,σ,n⟩=aV (lJ b (look i e)) (OW P G (ef P G r F) ⟨e,σ,n⟩ d o):=_root_.id rfl
theorem Fm (F:St->Prop)(s:St)(d:Option Nat)(o:AOp):OW P G F s d o true=nA P G F s d o:=_root_.id rfl
theorem AG (F:St->Prop)(e:List (Nat×AV))(σ:List (Nat×Blk))(n:Nat)(d:Nat)(o:AOp):OW P G F ⟨e,σ,n⟩ (some d) o false=F ⟨(d,.pv .undef)::e,σ,n⟩:=_root_.id rfl
def Rj (k:AV->Prop):AV->Prop
 | .pv (.list [])=>∀ b:Bool,k (.pv (.bool b))
 | _=>False
def px (x:Option AV)(k:AV->Prop)(e:List (Nat×AV))(o:TOp):Prop:=
 match x with
 | some v=>k v
 | none=>match o with
   | .beq 2 _ y (.c .nils)=>Rj k (evE e y)
   | _=>False
theorem rp (v:AV)(k:AV->Prop)(e:List (Nat×AV))(o:TOp):px (some v) k e o=k v:=_root_.id rfl
theorem rq (k:AV->Prop)(e:List (Nat×AV))(ng:Bool)(y:AX):px none k e (.beq 2 ng y (.c .nils))=Rj k (evE e y):=_root_.id rfl
theorem IH (k:AV->Prop):Rj k (.pv (.list [])) = ∀ b:Bool,k (.pv (.bool b)):=_root_.id rfl
theorem Ij (ng:Bool):Ns ng (Gx 2 (.pv (.list [])) (.pv .nils))=none:=_root_.id rfl
theorem RV (F:St->Prop)(e:List (Nat×AV))(σ:List (Nat×Blk))(n:Nat)(d:Option Nat)(o:TOp):nA P G F ⟨e,σ,n⟩ d (.t o)=px (jG e o) (NR F ⟨e,σ,n⟩ d) e o:=by
 rw[<- BY e σ n]
 show jY (o.run (St.E ⟨e,σ,n⟩)) _ _=_
 cases hr:o.run (St.E ⟨e,σ,n⟩) with
 | some v=>rfl
 | none=>
   simp only[jY,px]
   refine propext ⟨fun h=>?_,fun h=>?_⟩
   ·obtain⟨h1,h2⟩:=h
    unfold Rk at h1
    split at h1
    ·split at h1
     ·rename_i hev
      rw[kT] at hev
      show Rj _ _
      rw[hev];exact h2
     ·cases h1
    ·cases h1
   ·split at h
    ·rename_i y
     unfold Rj at h
     split at h
     ·rename_i hev
      refine⟨?_,h⟩
      simp only[Rk]
      rw[kT,hev]
     ·exact h.elim
    ·exact h.elim
theorem RW (F:St->Prop)(e:List (Nat×AV))(σ:List (Nat×Blk))(n:Nat)(d:Option Nat)(o:MOp):nA P G F ⟨e,σ,n⟩ d (.m o)=aV (pB G e σ n o) (nextM F ⟨e,σ,n⟩ d):=by
 rw[<- DN G e σ n];rfl
theorem Fk (F:St->Prop)(e:List (Nat×AV))(σ:List (Nat×Blk))(n:Nat)(d:Option Nat)(f:AX)(xs:List AX):nA P G F ⟨e,σ,n⟩ d (.call f xs)=aV (ed (evE e f)) (FQ P G (evL e xs) ⟨e,σ,n⟩ (NS F d)):=by
 rw[<- kT e σ n,<- E4 e σ n];rfl
theorem Hx (F:List (List Nat×List Nat)->St->Prop)(T:List (List Nat×List Nat))(e:List (Nat×AV))(σ:List (Nat×Blk))(n d:Nat)(v:AV):Hy F T ⟨e,σ,n⟩ (some d) v=F (T++[([],[])]) ⟨(d,v)::e,σ,n⟩:=_root_.id rfl
theorem HA (F:List (List Nat×List Nat)->St->Prop)(T:List (List Nat×List Nat))(e:List (Nat×AV))(σ:List (Nat×Blk))(n d k:Nat)(rd:List Nat)(v:AV)(δ:List (Nat×Blk)):B9 F T ⟨e,σ,n⟩ (some d) k rd (v,δ)=F (T++[gj k (bm δ) rd]) ⟨(d,v)::e,nw σ δ,n+1⟩:=_root_.id rfl
theorem Hz (F:List (List Nat×List Nat)->St->Prop)(T:List (List Nat×List Nat))(e:List (Nat×AV))(σ:List (Nat×Blk))(n k:Nat)(rd:List Nat)(v:AV)(δ:List (Nat×Blk)):B9 F T ⟨e,σ,n⟩ none k rd (v,δ)=F (T++[gj k (bm δ) rd]) ⟨e,nw σ δ,n+1⟩:=_root_.id rfl
theorem ag {F:List (List Nat×List Nat)->St->Prop}{T:List (List Nat×List Nat)}{e:List (Nat×AV)}{σ:List (Nat×Blk)}{n d:Nat}{f:Nat}{a b args:List AV}{ps:List PV}{r:PV}(h:am P G f ps r)(he:pvs (a++args++b)=some ps)
  (hk:F (T++[([],[])]) ⟨(d,.pv r)::e,σ,n⟩):kF P G F T ⟨e,σ,n⟩ (some d) args (f,a,b):=.inl ⟨ps,r,he,h,hk⟩
theorem vd {F:List (List Nat×List Nat)->St->Prop}{T:List (List Nat×List Nat)}{e:List (Nat×AV)}{σ:List (Nat×Blk)}{n d:Nat}{f:Nat}{a b args:List AV}{v:AV}{δ:List (Nat×Blk)}{top:Nat}(h:da P G f (a++args++b) σ n (fun v' sto' n'=>v'=v/\sto'=nw σ δ/\n'=top))(ht:n<=top)
  (hk:F (T++[gj 2 (bm δ) (σ.map (·.1))]) ⟨(d,v)::e,nw σ δ,top⟩):kF P G F T ⟨e,σ,n⟩ (some d) args (f,a,b):=.inr ⟨v,δ,top,h,ht,hk⟩
theorem QN (ks rs:List Nat):gj 0 ks rs=(ks.map (· + 1),rs.map (· + 1)):=_root_.id rfl
theorem QM (ks rs:List Nat):gj 1 ks rs=(ks.map (· + 1),0::rs.map (· + 1)):=_root_.id rfl
theorem QL (ks rs:List Nat):gj 2 ks rs=(0::ks.map (· + 1),rs.map (· + 1)):=_root_.id rfl
theorem uw (g:Bool)(sz:Nat)(x:AX):dE (.load g sz x)=0:=_root_.id rfl
theorem rP (sz:Nat)(x v:AX):dE (.store sz x v)=0:=_root_.id rfl
theorem rO (x:AX):dE (.toStr x)=0:=_root_.id rfl
theorem rR (T:Nat)(z:List PV):dE (.alloc T z)=1:=_root_.id rfl
theorem py (m:Bool)(e s l:Nat)(x:List AX):dE (.bslice m e s l x)=1:=_root_.id rfl
theorem pA (m:Bool)(e s l:Nat)(x y:AX):dE (.append m e s l x y)=1:=_root_.id rfl
theorem Mt {A:List (List Nat)}{F:St->Prop}{T:List (List Nat×List Nat)}{s:St}(h:Chk (okB A T)):vcD P G A F [] T s=F s:=by
 show (okB A T=true/\F s)=F s
 rw[eq_iff_iff]
 exact⟨fun x=>x.2,fun x=>⟨h,x⟩⟩
theorem GJ (A:List (List Nat))(F:St->Prop)(d:Option Nat)(o:AOp)(r:List AOper)(T:List (List Nat×List Nat))(s:St):vcD P G A F (⟨d,o,none⟩::r) T s=jz P G (vcD P G A F r) T s d o:=_root_.id rfl
theorem BE (A:List (List Nat))(F:St->Prop)(d:Option Nat)(o:AOp)(i:Nat)(b:Bool)(r:List AOper)(T:List (List Nat×List Nat))(e:List (Nat×AV))(σ:List (Nat×Blk))(n:Nat) :
  vcD P G A F (⟨d,o,some (i,b)⟩::r) T ⟨e,σ,n⟩=aV (lJ b (look i e)) (uU P G (vcD P G A F r) T ⟨e,σ,n⟩ d o):=_root_.id rfl
theorem AH (F:List (List Nat×List Nat)->St->Prop)(T:List (List Nat×List Nat))(s:St)(d:Option Nat)(o:AOp):uU P G F T s d o true=jz P G F T s d o:=_root_.id rfl
theorem uT (F:List (List Nat×List Nat)->St->Prop)(T:List (List Nat×List Nat))(e:List (Nat×AV))(σ:List (Nat×Blk))(n:Nat)(d:Nat)(o:AOp):uU P G F T ⟨e,σ,n⟩ (some d) o false=F (T++[([],[])]) ⟨(d,.pv .undef)::e,σ,n⟩:=_root_.id rfl
theorem OU (F:List (List Nat×List Nat)->St->Prop)(T:List (List Nat×List Nat))(e:List (Nat×AV))(σ:List (Nat×Blk))(n:Nat)(d:Option Nat)(o:TOp):jz P G F T ⟨e,σ,n⟩ d (.t o)=aV (jG e o) (Hy F T ⟨e,σ,n⟩ d):=by
 rw[<- BY e σ n];rfl
def qB (e:List (Nat×AV)):XOp->List Nat
 | .ucast _ _ _ x | .apps _ _ x _ | .ustr _ x _ | .same x=>(evE e x).name
 | .noesc _ | .peq _ _ _ | .sdata _ | .ofStr _ | .inil _ _ _ | .idxb _ _ | .mkmap | .bslf _ _ _=>[]
 | .mlook _ _ _ x _ | .mset _ x _ _=>(evE e x).name
def il (e:List (Nat×AV)):MOp->List Nat
 | .xop o=>qB e o
 | .load _ _ x | .sliceA _ _ x _ _ | .toStr x=>(evE e x).name
 | .append _ _ _ _ x y=>(evE e x).name++(evE e y).name
 | .store _ x _=>(evE e x).name
 | .alloc _ _ | .box _ _ | .cbox _ _ | .bslice _ _ _ _ _ | .mk _ _ _ _ _ _ _=>[]
theorem rS (e:List (Nat×AV))(x:AX):il e (.toStr x)=(evE e x).name:=_root_.id rfl
theorem uC (e:List (Nat×AV))(g:Bool)(sz:Nat)(x:AX):il e (.load g sz x)=(evE e x).name:=_root_.id rfl
theorem rU (e:List (Nat×AV))(T:Nat)(x:List PV):il e (.alloc T x)=[]:=_root_.id rfl
theorem rT (e:List (Nat×AV))(sz:Nat)(x v:AX):il e (.store sz x v)=(evE e x).name:=_root_.id rfl
theorem pD (e:List (Nat×AV))(mu:Bool)(t sz b:Nat)(x y:AX):il e (.append mu t sz b x y)=(evE e x).name++(evE e y).name:=_root_.id rfl
theorem pC (e:List (Nat×AV))(mu:Bool)(t sz b:Nat)(x:List AX):il e (.bslice mu t sz b x)=[]:=_root_.id rfl
theorem NV (p:PV):(AV.pv p).name=[]:=_root_.id rfl
theorem IW (r o:Nat):(AV.ptr r o).name=[r]:=_root_.id rfl
theorem IV (r s o n:Nat):(AV.row r s o n).name=[r]:=_root_.id rfl
theorem zU (r s:Nat)(l:List PV):(AV.olist r s l).name=[r]:=_root_.id rfl
theorem Ed:bm ([]:List (Nat×Blk))=[]:=_root_.id rfl
theorem Aj (r:Nat)(B:Blk)(q:List (Nat×Blk)):bm ((r,B)::q)=r::bm q:=_root_.id rfl
theorem OV (F:List (List Nat×List Nat)->St->Prop)(T:List (List Nat×List Nat))(e:List (Nat×AV))(σ:List (Nat×Blk))(n:Nat)(d:Option Nat)(o:MOp):jz P G F T ⟨e,σ,n⟩ d (.m o)=aV (pB G e σ n o) (B9 F T ⟨e,σ,n⟩ d (dE o) (il e o)):=by
 have:il e o=o.reads (St.E ⟨e,σ,n⟩):=by
  cases o<;>simp only[il,MOp.reads,kT]
  rename_i o
  cases o<;>simp only[qB,XOp.reads,kT]
 rw[<- DN G e σ n,this];rfl
theorem AF (F:List (List Nat×List Nat)->St->Prop)(T:List (List Nat×List Nat))(e:List (Nat×AV))(σ:List (Nat×Blk))(n:Nat)(d:Option Nat)(f:AX)(xs:List AX):jz P G F T ⟨e,σ,n⟩ d (.call f xs)=aV (ed (evE e f)) (kF P G F T ⟨e,σ,n⟩ d (evL e xs)):=by
 rw[<- kT e σ n,<- E4 e σ n];rfl
def AR (e:List (Nat×AV)):List Nat->List (Nat×AV)
 | []=>[]
 | k::r=>(k,look k e)::AR e r
theorem FB (e:List (Nat×AV)):AR e []=[]:=_root_.id rfl
theorem AQ (e:List (Nat×AV))(k:Nat)(r:List Nat):AR e (k::r)=(k,look k e)::AR e r:=_root_.id rfl
theorem xR (e:List (Nat×AV))(σ:List (Nat×Blk))(n:Nat):∀ (l:List Nat),l.map (fun i=>(i,St.E ⟨e,σ,n⟩ i))=AR e l
 | []=>rfl
 | k::r=>by rw[WP,xR e σ n r];rfl
theorem FC (seen:List Nat):kE seen []=[]:=_root_.id rfl
theorem AS (seen:List Nat)(k:Nat)(b:Blk)(r:List (Nat×Blk)):kE seen ((k,b)::r)=AL k b (kE (k::seen) r) (wL k seen):=_root_.id rfl
theorem O0 (k:Nat)(b:Blk)(r:List (Nat×Blk)):AL k b r true=r:=_root_.id rfl
theorem O3 (k:Nat)(b:Blk)(r:List (Nat×Blk)):AL k b r false=(k,b)::r:=_root_.id rfl
theorem IZ (k:Nat):wL k []=false:=_root_.id rfl
theorem Rn (k j:Nat)(r:List Nat):wL k (j::r)=if j=k then true else wL k r:=_root_.id rfl
theorem IF (Q:AExit->St->Prop)(keep:List Nat)(e:List (Nat×AV))(σ:List (Nat×Blk))(n:Nat):uc Q keep ⟨e,σ,n⟩=Q .norm ⟨AR e keep,kE [] σ,n⟩:=by
 rw[<- xR e σ n];rfl
theorem Gp (F:St->Prop)(Q:AExit->St->Prop)(s:St):Mc F Q .norm s=F s:=_root_.id rfl
theorem Gq (F:St->Prop)(Q:AExit->St->Prop)(i:Nat)(s:St):Mc F Q (.exit i) s=Q (.exit i) s:=_root_.id rfl
theorem Ku (F:St->Prop)(Q:AExit->St->Prop)(s:St):Mc F Q .ret s=Q .ret s:=_root_.id rfl
theorem vw (id:Nat)(Q:AExit->St->Prop)(s:St):ir id Q .norm s=Q .norm s:=_root_.id rfl
theorem vz (id:Nat)(Q:AExit->St->Prop)(i:Nat)(s:St):ir id Q (.exit i) s=if i=id then Q .norm s else Q (.exit i) s:=_root_.id rfl
theorem Bb (id:Nat)(Q:AExit->St->Prop)(s:St):ir id Q .ret s=Q .ret s:=_root_.id rfl
theorem Mp (m0:Nat)(Q:AExit->St->Prop)(s:St):vc P G m0 .skip Q s=Q .norm s:=_root_.id rfl
theorem Qe (m0:Nat)(l:List AOper)(keep:List Nat)(Q:AExit->St->Prop)(s:St):vc P G m0 (.ops l keep) Q s=ef P G l (uc Q keep) s:=_root_.id rfl
theorem Mr (m0:Nat)(A:List (List Nat))(l l2:List AOper)(keep:List Nat)(Q:AExit->St->Prop)(s:St):vc P G m0 (.draw A l l2 keep) Q s=vcD P G A (ef P G l2 (uc Q keep)) l [] s:=_root_.id rfl
theorem OT (F:St->Prop)(e:List (Nat×AV))(σ:List (Nat×Blk))(n:Nat)(d:Option Nat)(g:Option (Bool×Nat))(x:AX):nA P G F ⟨e,σ,n⟩ d (.fz g x)=aV (OF G (fun r=>lookB r σ) g (evE e x)) (nextM F ⟨e,σ,n⟩ d):=by
 rw[<- kT e σ n];rfl
theorem Qc (m0:Nat)(a b:ACode)(Q:AExit->St->Prop)(s:St):vc P G m0 (.seq a b) Q s=vc P G m0 a (Mc (vc P G m0 b Q) Q) s:=_root_.id rfl
theorem Ms (m0:Nat)(x:AX)(a b:ACode)(Q:AExit->St->Prop)(e:List (Nat×AV))(σ:List (Nat×Blk))(n:Nat):vc P G m0 (.cond x a b) Q ⟨e,σ,n⟩=rr (evE e x) (vc P G m0 a Q) (vc P G m0 b Q) ⟨e,σ,n⟩:=by
 rw[<- kT e σ n];rfl
theorem GI (m0 id:Nat)(b:ACode)(Q:AExit->St->Prop)(s:St):vc P G m0 (.block id b) Q s=vc P G m0 b (ir id Q) s:=_root_.id rfl
theorem Mq (m0 id:Nat)(Q:AExit->St->Prop)(s:St):vc P G m0 (.exit id) Q s=Q (.exit id) s:=_root_.id rfl
theorem Qd (m0:Nat)(Q:AExit->St->Prop)(s:St):vc P G m0 .ret Q s=Q .ret s:=_root_.id rfl
theorem IB (b:Bool)(F H:St->Prop)(s:St):rr (.pv (.bool b)) F H s=ifB b F H s:=by cases b<;>rfl
theorem Uk (F H:St->Prop)(s:St):ifB true F H s=F s:=_root_.id rfl
theorem Ul (F H:St->Prop)(s:St):ifB false F H s=H s:=_root_.id rfl
def QU (G:Nat->List PV)(e:List (Nat×AV))(σ:List (Nat×Blk)):ARes->Option AV
 | .tmp t=>some (look t e)
 | .cell t g sz=>fV G g sz (fun r=>lookB r σ) (look t e)
theorem HM (e:List (Nat×AV))(σ:List (Nat×Blk))(t:Nat):QU G e σ (.tmp t)=some (look t e):=_root_.id rfl
theorem Cx (e:List (Nat×AV))(σ:List (Nat×Blk))(t:Nat)(g:Bool)(sz:Nat):QU G e σ (.cell t g sz)=fV G g sz (fun r=>lookB r σ) (look t e):=_root_.id rfl
theorem KG (res:List ARes)(R:AV->List (Nat×Blk)->Nat->Prop)(s:St):FnK G res R .norm s=aV (gl G s res) (K7 R s):=_root_.id rfl
theorem PC (res:List ARes)(R:AV->List (Nat×Blk)->Nat->Prop)(s:St):FnK G res R .ret s=aV (gl G s res) (K7 R s):=_root_.id rfl
theorem Nb (R:AV->List (Nat×Blk)->Nat->Prop)(e:List (Nat×AV))(σ:List (Nat×Blk))(n:Nat)(l:List AV):K7 R ⟨e,σ,n⟩ l=R (Bc l) σ n:=_root_.id rfl
theorem QR (x:AV):Bc [x]=x:=_root_.id rfl
theorem QS:Bc [] = .pv (.tup []):=_root_.id rfl
theorem QQ (x y:AV)(r:List AV):Bc (x::y::r)=rK (x::y::r):=_root_.id rfl
def R7:Option AV->Option (List AV)->Option (List AV)
 | some a,some b=>some (a::b)
 | _,_=>none
theorem AM (a:AV)(b:List AV):R7 (some a) (some b)=some (a::b):=_root_.id rfl
theorem Cw (s:St):gl G s []=some []:=_root_.id rfl
theorem yU (e:List (Nat×AV))(σ:List (Nat×Blk))(n:Nat)(r:ARes)(q:List ARes):gl G ⟨e,σ,n⟩ (r::q)=R7 (QU G e σ r) (gl G ⟨e,σ,n⟩ q):=by
 have:QT G ⟨e,σ,n⟩ r=QU G e σ r:=by cases r<;>rfl
 show (match QT G ⟨e,σ,n⟩ r,gl G ⟨e,σ,n⟩ q with | some a,some b=>some (a::b) | _,_=>none)=_
 rw[this]
 cases QU G e σ r<;>cases gl G ⟨e,σ,n⟩ q<;>rfl
theorem In (r:PV)(v:AV)(σ:List (Nat×Blk))(n:Nat):Q0 r v σ n=isR r σ v:=_root_.id rfl
theorem RE (r p:PV)(σ:List (Nat×Blk)):isR r σ (.pv p)=Nz p r:=propext ⟨fun ⟨q,h,g⟩=>by cases h;exact g,fun h=>⟨(p,[]),rfl,h⟩⟩
theorem Eh (r:PV)(k sz:Nat)(l:List PV)(σ:List (Nat×Blk)):isR r σ (.olist k sz l)=Nz (.list l) r:=propext ⟨fun ⟨q,h,g⟩=>by cases h;exact g,fun h=>⟨(.list l,[]),rfl,h⟩⟩
def Ap:List AV->Nat->List (Nat×AV)
 | [],_=>[]
 | x::r,k=>(k,x)::Ap r (k+1)
theorem El (k:Nat):Ap [] k=[]:=_root_.id rfl
theorem Ao (x:AV)(r:List AV)(k:Nat):Ap (x::r) k=(k,x)::Ap r (k+1):=_root_.id rfl
theorem Ek:∀ (args:List AV) (k:Nat),((args.zipIdx k).map fun p=>(p.2,p.1))=Ap args k
 | [],k=>rfl
 | x::r,k=>by rw[List.zipIdx_cons,WP,Ek r (k+1)];rfl
theorem An (args:List AV):d8 args=Ap args 0:=Ek args 0
theorem TF {ι:Type}(S:ι->St)(Inv:ι->Prop)(μ:ι->Nat)(x0:ι){m0:Nat}{keep:List Nat}{b:ACode}{Q:AExit->St->Prop}{s:St}(h0:Wk m0 s (S x0))(hi:Inv x0)
  (h:∀ x,Inv x->vc P G m0 b (fun e s'=>match e with
   | .norm=>∃ x',Wk m0 s' (S x')/\Inv x'/\μ x'<μ x
   | .exit i=>Q (.exit i) s'
   | .ret=>Q .ret s') (S x)):vc P G m0 (.loop keep b) Q s:=by
 refine⟨fun n s=>∃ x,s=S x/\Inv x/\μ x=n,⟨μ x0,S x0,h0,x0,rfl,hi,rfl⟩,?_⟩
 rintro n s ⟨x,rfl,hx,rfl⟩
 refine dA b (fun e s' hs=>?_) _ (h x hx)
 cases e with
 | norm=>
   obtain⟨x',h1,h2,h3⟩:=hs
   exact⟨_,_,h3,h1,x',rfl,h2,rfl⟩
 | exit i=>exact⟨s',Wk.of (Wx.refl s') m0,hs⟩
 | ret=>exact hs
def Hd (A:List (Nat×Nat×Nat×Nat))(m0:Nat)(keep:List Nat)(s t:St):Prop:=Wk m0 s t
theorem bl {A:List (Nat×Nat×Nat×Nat)}{m0:Nat}{keep:List Nat}{s t:St}(h:StZ (fA A m0 keep s) t):Hd A m0 keep s t:=Wk.head h
def oT {ι:Type}(A:List (Nat×Nat×Nat×Nat))(S:ι->St)(Inv:ι->Prop)(μ:ι->Nat)(x:ι)(m0:Nat)(keep:List Nat)(Q:AExit->St->Prop):AExit->St->Prop
 | .norm,s'=>∃ x',Hd A m0 keep s' (S x')/\Inv x'/\μ x'<μ x
 | .exit i,s'=>Q (.exit i) s'
 | .ret,s'=>Q .ret s'
theorem vu {ι:Type}(A:List (Nat×Nat×Nat×Nat))(S:ι->St)(Inv:ι->Prop)(μ:ι->Nat)(x:ι)(m0:Nat)(keep:List Nat)(Q:AExit->St->Prop)(s:St):oT A S Inv μ x m0 keep Q .norm s = ∃ x',Hd A m0 keep s (S x')/\Inv x'/\μ x'<μ x:=_root_.id rfl
theorem vv {ι:Type}(A:List (Nat×Nat×Nat×Nat))(S:ι->St)(Inv:ι->Prop)(μ:ι->Nat)(x:ι)(m0:Nat)(keep:List Nat)(Q:AExit->St->Prop)(i:Nat)(s:St):oT A S Inv μ x m0 keep Q (.exit i) s=Q (.exit i) s:=_root_.id rfl
theorem Ba {ι:Type}(A:List (Nat×Nat×Nat×Nat))(S:ι->St)(Inv:ι->Prop)(μ:ι->Nat)(x:ι)(m0:Nat)(keep:List Nat)(Q:AExit->St->Prop)(s:St):oT A S Inv μ x m0 keep Q .ret s=Q .ret s:=_root_.id rfl
theorem lK {ι:Type}(A:List (Nat×Nat×Nat×Nat))(S:ι->St)(Inv:ι->Prop)(μ:ι->Nat)(x0:ι){m0:Nat}{keep:List Nat}{b:ACode}{Q:AExit->St->Prop}{s:St}(h0:Hd A m0 keep s (S x0))(hi:Inv x0)
  (h:∀ x,Inv x->vc P G m0 b (oT A S Inv μ x m0 keep Q) (S x)):vc P G m0 (.loop keep b) Q s:=by
 refine TF S Inv μ x0 h0 hi fun x hx=>?_
 have e:(fun (e:AExit) (s':St)=>match e with
   | .norm=>∃ x',Wk m0 s' (S x')/\Inv x'/\μ x'<μ x
   | .exit i=>Q (.exit i) s'
   | .ret=>Q .ret s')=oT A S Inv μ x m0 keep Q:=by
  funext e s'
  cases e<;>rfl
 rw[e];exact h x hx
def zu (k:Nat)(x:AV):List (Nat×AV)->AV
 | []=>x
 | p::r=>if p.1=k then p.2 else zu k x r
def iA:List (Nat×AV)->List (Nat×AV)->List (Nat×AV)
 | [],_=>[]
 | p::r,ch=>(p.1,zu p.1 p.2 ch)::iA r ch
def zx (k:Nat)(x:Blk):List (Nat×Blk)->Blk
 | []=>x
 | p::r=>if p.1=k then p.2 else zx k x r
def jX:List (Nat×Blk)->List (Nat×Blk)->List (Nat×Blk)
 | [],_=>[]
 | p::r,ch=>(p.1,zx p.1 p.2 ch)::jX r ch
theorem C8 (k:Nat)(x:AV):zu k x []=x:=_root_.id rfl
theorem zr (k j:Nat)(x y:AV)(r:List (Nat×AV)):zu k x ((j,y)::r)=if j=k then y else zu k x r:=_root_.id rfl
theorem Dd (ch:List (Nat×AV)):iA [] ch=[]:=_root_.id rfl
theorem zB (k:Nat)(x:AV)(r ch:List (Nat×AV)):iA ((k,x)::r) ch=(k,zu k x ch)::iA r ch:=_root_.id rfl
theorem C9 (k:Nat)(x:Blk):zx k x []=x:=_root_.id rfl
theorem zw (k j:Nat)(x y:Blk)(r:List (Nat×Blk)):zx k x ((j,y)::r)=if j=k then y else zx k x r:=_root_.id rfl
theorem De (ch:List (Nat×Blk)):jX [] ch=[]:=_root_.id rfl
theorem zC (k:Nat)(x:Blk)(r ch:List (Nat×Blk)):jX ((k,x)::r) ch=(k,zx k x ch)::jX r ch:=_root_.id rfl
theorem aG {ι:Type}(A:List (Nat×Nat×Nat×Nat))(ch:ι->List (Nat×AV))(chB:ι->List (Nat×Blk))(Inv:ι->Prop)(μ:ι->Nat)(x0:ι){m0:Nat}{keep:List Nat}{b:ACode}{Q:AExit->St->Prop}{s:St}
  (h:∀ e0 σ0 n0,fA A m0 keep s=⟨e0,σ0,n0⟩->StZ ⟨e0,σ0,n0⟩ ⟨iA e0 (ch x0),jX σ0 (chB x0),n0⟩/\Inv x0 /\
   ∀ x,Inv x->vc P G m0 b (oT A (fun x=>⟨iA e0 (ch x),jX σ0 (chB x),n0⟩) Inv μ x m0 keep Q) ⟨iA e0 (ch x),jX σ0 (chB x),n0⟩):vc P G m0 (.loop keep b) Q s:=by
 obtain⟨h1,h2,h3⟩:=h (fA A m0 keep s).env (fA A m0 keep s).sto (fA A m0 keep s).next rfl
 exact lK A (fun x=>⟨iA (fA A m0 keep s).env (ch x),jX (fA A m0 keep s).sto (chB x),(fA A m0 keep s).next⟩) Inv μ x0 (bl h1) h2 h3
end

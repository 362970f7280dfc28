/- A program logic over the model: part 4 (a proof is built on it; nothing of the statement is said here). -/
import Derived.Test.YtedanlflegfomaaGreatDoorCore3
import Derived.Test.YtedanlflegfomaaGreatDoorCore1
set_option linter.unusedVariables false
set_option linter.unusedSimpArgs false
namespace Go.Ab
open Go Go.RowKit
theorem ji (keep:List Nat)(g:Nat→AV)(i:Nat):look i (keep.map fun k=>(k,g k))=if i∈keep then g i else .any:=by
 induction keep with
 | nil=>rfl
 | cons k r ih=>
   simp only[List.map_cons,look,ih,List.mem_cons]
   by_cases h:k=i
   ·simp[h]
   ·simp only[if_neg h,show (i=k)=False from eq_false (fun e=>h e.symm),false_or]
theorem cy:∀ (l acc:List Nat),acc.Nodup→(bd acc l).Nodup
 | [],acc,h=>h
 | n::r,acc,h=>by
   rw[bd]
   refine cy r _ ?_
   split
   ·exact h
   ·rename_i hn
    have hn':n∉acc:=by simpa using hn
    refine List.nodup_append.2 ⟨h,by simp,?_⟩
    intro a ha b hb
    simp at hb;subst hb
    rintro rfl
    exact hn' ha
theorem dx:∀ (l acc:List Nat) (x:Nat),x∈bd acc l→x∈acc∨x∈l
 | [],acc,x,h=>.inl h
 | n::r,acc,x,h=>by
   rw[bd] at h
   rcases dx r _ x h with h | h
   ·split at h
    ·exact .inl h
    ·rcases List.mem_append.1 h with h | h
     ·exact .inl h
     ·simp at h;subst h;exact .inr (by simp)
   ·exact .inr (by simp[h])
theorem jZ (m0:Nat)(sto:List (Nat×Blk)):∀ (k:Nat) (acc:List Nat),acc.Nodup→(∀ x∈acc,m0≤x)→(dW m0 sto k acc).Nodup∧∀ x∈dW m0 sto k acc,m0≤x
 | 0,acc,h,g=>⟨h,g⟩
 | k+1,acc,h,g=>by
   rw[dW]
   refine jZ m0 sto k _ (cy _ _ h) fun x hx=>?_
   rcases dx _ _ _ hx with h | h
   ·exact g x h
   ·simpa using (List.mem_filter.1 h).2
theorem CO (m0:Nat)(keep:List Nat)(s:St):(FG m0 keep s).Nodup∧∀ x∈FG m0 keep s,m0≤x:=by
 refine jZ m0 s.sto _ _ (cy _ _ (by simp)) fun x hx=>?_
 rcases dx _ _ _ hx with h | h
 ·simp at h
 ·simpa using (List.mem_filter.1 h).2
theorem nU {x i:Nat}:∀ (l:List Nat) (k:Nat),zJ x l k=some i→k≤i∧l[i - k]? = some x
 | [],k,h=>by simp[zJ] at h
 | y::r,k,h=>by
   rw[zJ] at h
   split at h
   ·rename_i hy
    cases h
    exact⟨Nat.le_refl _,by simp[hy]⟩
   ·obtain⟨h1,h2⟩:=nU r (k+1) h
    refine⟨by omega,?_⟩
    rw[show i - k=(i - (k+1))+1 by omega]
    simpa using h2
mutual
theorem lT {κ κ':Kap}(hw:κ'.w=κ.w)(hi:κ'.imm=κ.imm){f:Nat→Option Nat}(hf:∀ r r',f r=some r'→κ'.nm r'=κ.nm r):∀ (x:AV) (v:Value),ARel κ x v→ARel κ' (x.ren f) v
 | .pv p,v,h=>by
   cases h with
   | pv _ _ hp=>exact .pv _ _ (by rw[hw,hi];exact hp)
 | .any,v,h=>.any v
 | .ptr r o,v,h=>by
   cases h with
   | ptr _ _ b n hn=>
     simp only[AV.ren]
     split
     ·rename_i r' hr;exact .ptr _ _ b n (by rw[hf r r' hr];exact hn)
     ·exact .any _
 | .row r a b c,v,h=>by
   cases h with
   | row _ _ _ _ bb n cap hn h1 h2 h3 h4=>
     simp only[AV.ren]
     split
     ·rename_i r' hr;exact .row _ _ _ _ bb n cap (by rw[hf r r' hr];exact hn) h1 h2 h3 h4
     ·exact .any _
   | row0 _ _ hn=>
     simp only[AV.ren]
     split
     ·rename_i r' hr;exact .row0 _ _ (by rw[hf r r' hr];exact hn)
     ·exact .any _
 | .olist r a l,v,h=>by
   cases h with
   | olist _ _ _ _ hn hp hs=>
     simp only[AV.ren]
     split
     ·rename_i r' hr;exact .olist _ _ _ _ (by rw[hf r r' hr];exact hn) (by rw[hw,hi];exact hp) hs
     ·exact .pv _ _ (by rw[hw,hi];exact hp)
 | .agg cs,v,h=>by
   cases h with
   | agg _ vs hl hr=>
     simp only[AV.ren]
     obtain⟨h1,h2⟩:=cP hw hi hf cs vs hr
     exact .agg _ _ (by rw[h1];exact hl) h2
 | .tup cs,v,h=>by
   cases h with
   | tup _ vs hl hr=>
     simp only[AV.ren]
     obtain⟨h1,h2⟩:=cP hw hi hf cs vs hr
     exact .tup _ _ (by rw[h1];exact hl) h2
 | .clo g fs cs,v,h=>by
   cases h with
   | clo _ _ _ vs us hl hr hl' hr'=>
     simp only[AV.ren]
     obtain⟨h1,h2⟩:=cP hw hi hf fs vs hr
     obtain⟨h3,h4⟩:=cP hw hi hf cs us hr'
     exact .clo _ _ _ _ _ (by rw[h1];exact hl) h2 (by rw[h3];exact hl') h4
theorem cP {κ κ':Kap}(hw:κ'.w=κ.w)(hi:κ'.imm=κ.imm){f:Nat→Option Nat}(hf:∀ r r',f r=some r'→κ'.nm r'=κ.nm r):∀ (xs:List AV) (vs:Array Value),
  (∀ (i:Nat) (x:AV),xs[i]? = some x→ARel κ x (vs.getD i Go.undef))→(AV.renL f xs).length=xs.length∧∀ (i:Nat) (x:AV),(AV.renL f xs)[i]? = some x→ARel κ' x (vs.getD i Go.undef)
 | [],vs,h=>by simp[AV.renL]
 | x::r,vs,h=>by
   obtain⟨h1,h2⟩:=cP hw hi hf r (vs.extract 1 vs.size) (fun i y hy=>by
    have:=h (i+1) y (by simpa using hy)
    have e:(vs.extract 1 vs.size).getD i Go.undef=vs.getD (i+1) Go.undef:=by
     simp only[Array.getD_eq_getD_getElem?,Array.getElem?_extract]
     by_cases hh:i<min vs.size vs.size - 1
     ·rw[if_pos hh];congr 2;omega
     ·rw[if_neg hh,Array.getElem?_eq_none (by omega)]
    rw[e];exact this)
   refine⟨by simp[AV.renL,h1],fun i y hy=>?_⟩
   cases i with
   | zero=>
     simp only[AV.renL,List.getElem?_cons_zero,Option.some.injEq] at hy
     subst hy
     exact lT hw hi hf x _ (h 0 x (by simp))
   | succ i=>
     simp only[AV.renL,List.getElem?_cons_succ] at hy
     have:=h2 i y hy
     have e:(vs.extract 1 vs.size).getD i Go.undef=vs.getD (i+1) Go.undef:=by
      simp only[Array.getD_eq_getD_getElem?,Array.getElem?_extract]
      by_cases hh:i<min vs.size vs.size - 1
      ·rw[if_pos hh];congr 2;omega
      ·rw[if_neg hh,Array.getElem?_eq_none (by omega)]
     rw[e] at this;exact this
end
theorem gi {m0:Nat}{f:Nat→Option Nat}{sto:List (Nat×Blk)}{x:Nat}:∀ (l:List Nat) (k:Nat),lookB x (da m0 f sto l k)=if k≤x then (match l[x - k]? with | some r=>(lookB r sto).ren f | none=>.none) else .none
 | [],k=>by simp[da,lookB]
 | r::q,k=>by
   rw[da,lookB]
   simp only
   by_cases h:k=x
   ·subst h;simp
   ·rw[if_neg h,gi q (k+1)]
    by_cases hk:k≤x
    ·rw[if_pos (by omega),if_pos hk,show x - k=(x - (k+1))+1 by omega]
     simp
    ·rw[if_neg (by omega),if_neg hk]
section
variable {P:Program}{c:Ctx}{κ0 κ:Kap}{N:Nat}{s:St}{a:Act}{w:World}
theorem Rel.clip (h:Rel c κ0 N s a w κ)(keep:List Nat):Rel c κ0 N (clip keep s) a w κ:=by
 have e:(Go.Ab.clip keep s).σ=s.σ:=by funext r;exact gE s.sto [] r rfl
 refine⟨h.w_eq,h.ext0,by rw[e];exact h.rel,h.left,fun i=>?_,h.size,h.defers,h.fresh⟩
 simp only[Go.Ab.clip,St.E]
 rw[ji keep (fun i=>look i s.env) i]
 split
 ·exact h.env i
 ·exact .any _
theorem Rel.clip0 (h:Rel c κ0 N s a w κ)(keep:List Nat):Rel c κ0 N (clip0 keep s) a w κ:=by
 refine⟨h.w_eq,h.ext0,h.rel,h.left,fun i=>?_,h.size,h.defers,h.fresh⟩
 simp only[Go.Ab.clip0,St.E]
 rw[ji keep (fun i=>look i s.env) i]
 split
 ·exact h.env i
 ·exact .any _
theorem Rel.norm (h:Rel c κ0 N s a w κ){m0:Nat}(h0:∀ r,m0≤r→κ0.nm r=none)(keep:List Nat):∃ κ',Rel c κ0 N (norm m0 keep s) a w κ':=by
 obtain⟨hnd,hge⟩:=CO m0 keep s
 let os:=FG m0 keep s
 let f:=cu m0 os
 let nm':Nat→Option Den:=fun n=>if n<m0 then κ.nm n else match os[n - m0]? with | some r=>κ.nm r | none=>none
 let κ':Kap:=⟨κ.w,nm',κ.imm⟩
 have hf:∀ r r',f r=some r'→κ'.nm r'=κ.nm r:=by
  intro r r' hr
  simp only[f,cu] at hr
  split at hr
  ·cases hr;rename_i hlt;simp[κ',nm',hlt]
  ·obtain⟨h1,h2⟩:=nU os m0 hr
   simp only[κ',nm']
   rw[if_neg (by omega),h2]
 have he0:Ext κ0 κ':=by
  refine⟨h.ext0.imm,h.ext0.cell,fun r d hr=>?_,h.ext0.obj⟩
  have hlt:r<m0:=by
   rcases Nat.lt_or_ge r m0 with h1 | h1
   ·exact h1
   ·rw[h0 r h1] at hr;cases hr
  simp only[κ',nm',if_pos hlt]
  exact h.ext0.nm r d hr
 have hS:=h.rel
 have hlook:∀ n,(Go.Ab.norm m0 keep s).σ n=if n<m0 then (lookB n s.sto).ren f else match os[n - m0]? with | some r=>(lookB r s.sto).ren f | none=>.none:=by
  intro n
  show lookB n (da m0 f s.sto (List.range m0++os) 0)=_
  rw[gi,if_pos (Nat.zero_le _),Nat.sub_zero]
  by_cases hn:n<m0
  ·rw[if_pos hn,List.getElem?_append_left (by simpa using hn),List.getElem?_range hn]
  ·rw[if_neg hn,List.getElem?_append_right (by simp;omega)]
   simp only[List.length_range]
 have hold:∀ n,(Go.Ab.norm m0 keep s).σ n≠.none→∃ r,(Go.Ab.norm m0 keep s).σ n=(lookB r s.sto).ren f∧κ'.nm n=κ.nm r∧(lookB r s.sto)≠.none∧((n<m0∧r=n)∨(m0≤n∧os[n - m0]? = some r)):=by
  intro n hn
  rw[hlook] at hn ⊢
  by_cases hlt:n<m0
  ·rw[if_pos hlt] at hn ⊢
   refine⟨n,rfl,by simp[κ',nm',hlt],fun e=>hn (by rw[e];rfl),.inl ⟨hlt,rfl⟩⟩
  ·rw[if_neg hlt] at hn ⊢
   cases hr:os[n - m0]? with
   | none=>rw[hr] at hn;exact absurd rfl hn
   | some r=>
     rw[hr] at hn
     simp only at hn ⊢
     refine⟨r,rfl,?_,fun e=>hn (by rw[e];rfl),.inr ⟨by omega,rfl⟩⟩
     simp only[κ',nm']
     rw[if_neg hlt,hr]
 have hinj:∀ n n' r,((n<m0∧r=n)∨(m0≤n∧os[n - m0]? = some r))→((n'<m0∧r=n')∨(m0≤n'∧os[n' - m0]? = some r))→n=n':=by
  intro n n' r h1 h2
  rcases h1 with ⟨a1,a2⟩ | ⟨a1,a2⟩<;>rcases h2 with ⟨b1,b2⟩ | ⟨b1,b2⟩
  ·omega
  ·have:=hge r (List.mem_of_getElem? b2);omega
  ·have:=hge r (List.mem_of_getElem? a2);omega
  ·have hlt:n - m0<os.length:=(List.getElem?_eq_some_iff.1 a2).1
   have:=(List.getElem?_inj hlt hnd).1 (a2.trans b2.symm)
   omega
 refine⟨κ',h.w_eq,he0,⟨fun n=>?_,fun n n' d d' b h1 h2 hne hd hd' hb=>?_,fun n d b h1 hd hb=>?_,hS.immLt,hS.glob⟩,⟨h.left.os,h.left.tape,h.left.output,h.left.size,h.left.block,h.left.imm⟩,fun i=>?_,h.size,h.defers,fun r hr=>?_⟩
 ·by_cases hn:(Go.Ab.norm m0 keep s).σ n = .none
  ·rw[hn];trivial
  ·obtain⟨r,e1,e2,e3,_⟩:=hold n hn
   rw[e1]
   have hB:=hS.blk r
   have hB:df κ r (lookB r s.sto):=hB
   cases hl:lookB r s.sto with
   | none=>exact absurd hl e3
   | cells T b l=>
     rw[hl] at hB
     rcases hB with ⟨k1,k2,k3⟩ | ⟨bb,n',cs,k1,k2,k3,k4,k5,k6,k7⟩
     ·exact .inl ⟨k1,by rw[k2];simp only[AV.renL],by rw[e2];exact k3⟩
     obtain⟨q1,q2⟩:=cP (κ:=κ) (κ':=κ') rfl rfl hf l cs k6
     exact .inr ⟨bb,n',cs,by rw[e2];exact k1,k2,k3,by rw[q1];exact k4,fun hb=>by rw[q1];exact k5 hb,q2,k7⟩
   | tok e sz=>
     rw[hl] at hB
     rcases hB with k1 | ⟨g,n',cap,cur,k1,k2⟩
     ·exact .inl (by rw[e2];exact k1)
     exact .inr ⟨g,n',cap,cur,by rw[e2];exact k1,k2⟩
 ·obtain⟨r,e1,e2,e3,e4⟩:=hold n h1
  obtain⟨r',f1,f2,f3,f4⟩:=hold n' h2
  rw[e2] at hd;rw[f2] at hd'
  refine hS.apart r r' d d' b e3 f3 ?_ hd hd' hb
  rintro rfl
  exact hne (hinj n n' r e4 f4)
 ·obtain⟨r,e1,e2,e3,e4⟩:=hold n h1
  rw[e2] at hd
  exact hS.mine r d b e3 hd hb
 ·show ARel κ' (look i (keep.map fun i=>(i,(s.E i).ren f))) _
  rw[ji keep (fun i=>(s.E i).ren f) i]
  split
  ·exact lT (κ:=κ) (κ':=κ') rfl rfl hf _ _ (h.env i)
  ·exact .any _
 ·have hr':m0+os.length≤r:=hr
  simp only[κ',nm']
  rw[if_neg (by omega),List.getElem?_eq_none (by omega)]
end
theorem Wk.norm (m0:Nat)(keep:List Nat)(s:St):Wk m0 s (norm m0 keep s):=fun c κ0 κ N a w h0 hr=>hr.norm h0 keep
section
variable {P:Program}{c:Ctx}{κ0 κ:Kap}{N:Nat}{s:St}{a:Act}{w:World}
def dS (κ:Kap)(σ:ak)(b:Nat):Prop:=∃ r d,σ r≠.none∧κ.nm r=some d∧d.block=some b
theorem dS.lt {σ:ak}{b:Nat}(hS:SRel c κ σ)(h:dS κ σ b):b<κ.w.heap.size:=by
 obtain⟨r,d,h1,h2,h3⟩:=h
 exact (hS.blk r).lt h1 h2 h3
def BA (κ:Kap)(σ:ak)(G:Nat→List PV):Ctx:=⟨κ.w,dS κ σ,G,true⟩
def Ctx.round (c:Ctx):Ctx:=⟨c.w0,c.lent,c.G,true⟩
theorem Rel.rebase (h:Rel c κ0 N s a w κ)(nmb:Nat→Option Den)(hn:∀ r d,nmb r=some d→κ.nm r=some d):Rel (BA κ s.σ c.G) ⟨κ.w,nmb,κ.imm⟩ N s a w κ:=by
 have hS:=h.rel
 refine⟨h.w_eq,⟨fun _ _ h=>h,fun _ _ _ _ h=>h,hn,fun _ _ h _=>h⟩,⟨hS.blk,hS.apart,fun r d b h1 h2 h3=>.inr ⟨r,d,h1,h2,h3⟩,hS.immLt,hS.glob.1,fun g hg=>?_⟩,
  ⟨rfl,rfl,rfl,Nat.le_refl _,fun _ _ _=>rfl,fun _ _ h=>.inl h⟩,h.env,h.size,.inl rfl,h.fresh⟩
 obtain⟨h1,h2,cs,T,fz,h3,h4⟩:=hS.glob.2 g hg
 refine⟨(Array.getElem?_eq_some_iff.1 h3).1,?_,cs,T,fz,h3,h4⟩
 rintro⟨r,d,k1,k2,k3⟩
 exact dF h1 h2 (hS.mine r d g k1 k2 k3)
theorem Rel.upward (h:Rel c κ0 N s a w κ){nmb:Nat→Option Den}{s1:St}{a1:Act}{w1:World}{κ1:Kap}(h1:Rel (BA κ s.σ c.G) ⟨κ.w,nmb,κ.imm⟩ N s1 a1 w1 κ1)(he:Ext κ0 ⟨κ.w,nmb,κ.imm⟩) :
  Ext κ0 κ1∧SRel c κ1 s1.σ∧Left c κ0.imm κ1:=by
 have hl0:=h.left
 have hL:=h1.left
 have hS:=h1.rel
 have hlm:∀ b,dS κ s.σ b→c.mine b:=fun b ⟨r,d,h1,h2,h3⟩=>h.rel.mine r d b h1 h2 h3
 have hmine:∀ b,(BA κ s.σ c.G).mine b→c.mine b:=by
  intro b hb
  rcases hb with hb | hb
  ·exact .inl (Nat.le_trans hl0.size hb)
  ·exact hlm b hb
 refine⟨he.trans h1.ext0,⟨hS.blk,hS.apart,fun r d b h1 h2 h3=>hmine b (hS.mine r d b h1 h2 h3),hS.immLt,hS.glob.1,fun g hg=>?_⟩,
  ⟨hL.os.trans hl0.os,hL.tape.trans hl0.tape,hL.output.trans hl0.output,Nat.le_trans hl0.size hL.size,fun b hlt hl=>?_,fun b o hi=>?_⟩⟩
 ·obtain⟨g1,g2,cs,T,fz,g3,g4⟩:=h.rel.glob.2 g hg
  exact⟨g1,g2,cs,T,fz,(hL.block g (Array.getElem?_eq_some_iff.1 g3).1 fun hl=>dF g1 g2 (hlm g hl)).trans g3,g4⟩
 ·refine (hL.block b (Nat.lt_of_lt_of_le hlt hl0.size) fun hn=>?_).trans (hl0.block b hlt hl)
  rcases hlm b hn with h4 | h4
  ·omega
  ·exact hl h4
 ·rcases hL.imm b o hi with h1 | h1
  ·exact hl0.imm b o h1
  ·exact .inr (hmine b h1)
theorem Rel.lift (h:Rel c κ0 N s a w κ){s1:St}{a1:Act}{w1:World}{κ1:Kap}(h1:Rel (BA κ s.σ c.G) κ N s1 a1 w1 κ1):Rel c κ0 N ⟨s.env,s1.sto,s1.next⟩ a w1 κ1:=by
 obtain⟨k1,k2,k3⟩:=h.upward (nmb:=κ.nm) h1 h.ext0
 exact⟨h1.w_eq,k1,k2,k3,fun i=>(h.env i).ext h1.ext0,h.size,h.defers.ext h1.ext0,h1.fresh⟩
theorem Rel.lift2 (h:Rel c κ0 N s a w κ){s1:St}{a1:Act}{w1:World}{κ1:Kap}(h1:Rel (BA κ s.σ c.G) κ N s1 a1 w1 κ1):Rel c.round κ0 N s1 a1 w1 κ1:=by
 obtain⟨k1,k2,k3⟩:=h.upward (nmb:=κ.nm) h1 h.ext0
 exact⟨h1.w_eq,k1,⟨k2.blk,k2.apart,k2.mine,k2.immLt,k2.glob⟩,⟨k3.os,k3.tape,k3.output,k3.size,k3.block,k3.imm⟩,h1.env,h1.size,.inl rfl,h1.fresh⟩
theorem Wk.sub {m0:Nat}{s':St}(hW:Wk m0 s s')(h0:∀ r,m0≤r→κ0.nm r=none)(h:Rel c κ0 N s a w κ) :
  ∃ κ',Rel c κ0 N s' a w κ'∧(∀ b o,κ.imm b o→κ'.imm b o)∧∀ b,dS κ' s'.σ b→dS κ s.σ b:=by
 let nmb:Nat→Option Den:=fun r=>if r<m0 then κ.nm r else none
 have hr:=h.rebase nmb (fun r d hd=>by
  simp only[nmb] at hd
  split at hd
  ·exact hd
  ·cases hd)
 obtain⟨κ',h'⟩:=hW _ ⟨κ.w,nmb,κ.imm⟩ κ N a w (fun r hr=>by simp only[nmb];rw[if_neg (by omega)]) hr
 have he0:Ext κ0 ⟨κ.w,nmb,κ.imm⟩:=by
  refine⟨h.ext0.imm,h.ext0.cell,fun r d hd=>?_,h.ext0.obj⟩
  have hlt:r<m0:=by
   rcases Nat.lt_or_ge r m0 with h1 | h1
   ·exact h1
   ·rw[h0 r h1] at hd;cases hd
  simp only[nmb]
  rw[if_pos hlt];exact h.ext0.nm r d hd
 obtain⟨k1,k2,k3⟩:=h.upward h' he0
 have hw:κ'.w=κ.w:=h'.w_eq.trans h.w_eq.symm
 have hm:ci c κ' a.defers:=by
  rcases h.defers with hm | ⟨Ds,m1,m2,m3⟩
  ·exact .inl hm
  ·exact .inr ⟨Ds,m1,m2,fun D hD=>⟨(m3 D hD).1,by rw[hw];exact (m3 D hD).2⟩⟩
 refine⟨κ',⟨h'.w_eq,k1,k2,k3,h'.env,h'.size,hm,h'.fresh⟩,fun b o hi=>h'.ext0.imm b o hi,fun b hn=>?_⟩
 have hlt:=hn.lt h'.rel
 obtain⟨r,d,q1,q2,q3⟩:=hn
 rcases h'.rel.mine r d b q1 q2 q3 with h4 | h4
 ·rw[hw] at hlt;exact absurd hlt (Nat.not_lt.2 h4)
 ·exact h4
theorem Rel.turn (h:Rel c κ0 N s a w κ)(hk:κ0.w.heap.size≤c.w0.heap.size){w':World}(h1:w'.os=w.os)(h2:w'.tape=w.tape)(h3:w'.output=w.output)(h4:w.heap.size≤w'.heap.size)
  (h5:∀ (b:Nat) (o:Obj),w.heap[b]? = some o→o.isCells=true→w'.heap[b]? = some o) (h6:∀ b,b<c.w0.heap.size→w'.heap[b]? = w.heap[b]?) {ds:List Deferred} (hm:ci c ⟨w',κ.nm,κ.imm⟩ ds) :
  Rel c κ0 N s ⟨a.tmps,ds⟩ w' ⟨w',κ.nm,κ.imm⟩:=by
 have hw:=h.w_eq
 subst hw
 have hc:∀ b o v,κ.w.cell? ⟨b,o,none⟩=some v→w'.cell? ⟨b,o,none⟩=some v:=fun b o v hv=>by
  obtain⟨q,hq,hqc⟩:=cells_of_cell hv
  exact (World.cell?_of_block (a:=⟨b,o,none⟩) ((h5 b q hq hqc).trans hq.symm)).trans hv
 have hx:∀ x v,ARel κ x v→ARel ⟨w',κ.nm,κ.imm⟩ x v:=fun x v hx=>ARel.extC (κ:=κ) (κ':=⟨w',κ.nm,κ.imm⟩) (fun _ _ h=>h) (fun b o v _ hv=>hc b o v hv) (fun _ _ h=>h) hx
 have hS:=h.rel
 refine⟨rfl,⟨h.ext0.imm,fun b o v hi hv=>hc _ _ _ (h.ext0.cell b o v hi hv),h.ext0.nm,fun b o ho hb=>?_⟩,⟨fun r=>?_,hS.apart,hS.mine,fun b o hi=>Nat.lt_of_lt_of_le (hS.immLt b o hi) h4,fun g o p hp=>?_,fun g hg=>?_⟩,
  ⟨h1.trans h.left.os,h2.trans h.left.tape,h3.trans h.left.output,Nat.le_trans h.left.size h4,fun b hb hl=>(h6 b hb).trans (h.left.block b hb hl),h.left.imm⟩,fun i=>hx _ _ (h.env i),h.size,hm,h.fresh⟩
 ·exact (h6 b (Nat.lt_of_lt_of_le (Array.getElem?_eq_some_iff.1 ho).1 hk)).trans (h.ext0.obj b o ho hb)
 ·refine (hS.blk r).keepC hx (fun _ _ h=>h) fun hB d b hd hb=>⟨?_,fun o ho=>ho⟩
  have hlt:=(hS.blk r).lt hB hd hb
  obtain⟨o,ho⟩:∃ o,κ.w.heap[b]? = some o:=⟨_,Array.getElem?_eq_getElem hlt⟩
  exact (h5 b o ho ((hS.blk r).isCells hB hd hb ho)).trans ho.symm
 ·obtain⟨q1,v,q2,q3,q4⟩:=hS.glob.1 g o p hp
  exact⟨q1,v,hc _ _ _ q2,q3,PRel.mono (w:=κ.w) (w':=w') (imm:=κ.imm) (imm':=κ.imm) (fun _ _ h=>h) (fun b o v _ hv=>hc b o v hv) q4⟩
 ·obtain⟨q1,q2,cs,T,fz,q3,q4⟩:=hS.glob.2 g hg
  exact⟨q1,q2,cs,T,fz,h5 g _ q3 rfl,q4⟩
theorem ci.keep {ds:List Deferred}(h:ci c κ ds){w':World}(hk:∀ (D:Nat),κ.w.heap[D]? = some (.deferred (some []))→w'.heap[D]? = some (.deferred (some []))):ci c ⟨w',κ.nm,κ.imm⟩ ds:=by
 rcases h with h | ⟨Ds,m1,m2,m3⟩
 ·exact .inl h
 ·exact .inr ⟨Ds,m1,m2,fun D hD=>⟨(m3 D hD).1,hk D (m3 D hD).2⟩⟩
theorem Rel.below (h:Rel c κ0 N s a w κ)(hk:κ0.w.heap.size≤c.w0.heap.size){w':World}(hb:Below w.heap.size w w'):Rel c κ0 N s a w' ⟨w',κ.nm,κ.imm⟩:=by
 have hw:=h.w_eq
 have hsz:=h.left.size
 rw[hw] at hsz
 exact h.turn hk (ds:=a.defers) hb.os hb.tape hb.output hb.size (fun b o ho _=>(hb.block b (Array.getElem?_eq_some_iff.1 ho).1).trans ho) (fun b hlt=>hb.block b (by omega))
  (h.defers.keep fun D hD=>by rw[hw] at hD;exact (hb.block D (Array.getElem?_eq_some_iff.1 hD).1).trans hD)
theorem Rel.putObj (h:Rel c κ0 N s a w κ)(hk:κ0.w.heap.size≤c.w0.heap.size){l:Nat}{o:Obj}(o':Obj)(hl:w.heap[l]? = some o)(ho:o.isCells=false)(hc:c.w0.heap.size≤l){ds:List Deferred}
  (hm:ci c ⟨w.putObj l o',κ.nm,κ.imm⟩ ds):Rel c κ0 N s ⟨a.tmps,ds⟩ (w.putObj l o') ⟨w.putObj l o',κ.nm,κ.imm⟩:=
 h.turn (w':=w.putObj l o') hk rfl rfl rfl (by simp) (fun b q hq hqc=>by
  have:b≠l:=by rintro rfl;rw[hl] at hq;cases hq;rw[ho] at hqc;cases hqc
  exact (World.putObj_heap_other this).trans hq) (fun b hb=>World.putObj_heap_other (by omega)) hm
theorem Rel.more (h:Rel c κ0 N s a w κ){im:Nat→Nat→Prop}(h1:∀ b o,im b o→b<w.heap.size)(h2:∀ b o,im b o→dS κ s.σ b→κ.imm b o)(h3:∀ b o,im b o→κ0.imm b o∨c.mine b) :
  Rel c κ0 N s a w ⟨κ.w,κ.nm,fun b o=>κ.imm b o∨im b o⟩:=by
 have hw:=h.w_eq
 subst hw
 have hS:=h.rel
 have he:Ext κ ⟨κ.w,κ.nm,fun b o=>κ.imm b o∨im b o⟩:=⟨fun _ _ h=>.inl h,fun _ _ _ _ h=>h,fun _ _ h=>h,fun _ _ h _=>h⟩
 refine⟨rfl,h.ext0.trans he,⟨fun r=>?_,hS.apart,hS.mine,fun b o ho=>ho.elim (hS.immLt b o) (h1 b o),SRel.glob_ext he hS.glob fun _ _ _=>rfl⟩,⟨h.left.os,h.left.tape,h.left.output,h.left.size,h.left.block,fun b o ho=>ho.elim (h.left.imm b o) (h3 b o)⟩,
  fun i=>(h.env i).ext he,h.size,h.defers.ext he,h.fresh⟩
 by_cases hB:s.σ r = .none
 ·rw[hB];trivial
 ·exact (hS.blk r).keep he fun _ d b hd hb=>⟨rfl,fun o ho=>ho.elim _root_.id fun hi=>h2 b o hi ⟨r,d,hB,hd,hb⟩⟩
theorem ix:∀ (ps:List Nat) (vs:List Value) (x:List PV) (e:List (Nat×AV)) (t:Array Value),(∀ i,ARel κ (look i e) (t.getD i Go.undef))→t.size=N→FD N ps=true→vs.length=ps.length→x.length=ps.length →
  (∀ (j:Nat) (y:PV),x[j]? = some y→PRel κ.w κ.imm y (vs.getD j Go.undef)) →
  (∀ i,ARel κ (look i (yD ps x e)) (((ps.zip vs).foldl (fun t (p,v)=>t.setIfInBounds p v) t).getD i Go.undef))∧((ps.zip vs).foldl (fun (t:Array Value) (p,v)=>t.setIfInBounds p v) t).size=N
 | [],vs,x,e,t,h1,h2,_,_,h5,_=>by
   have:x=[]:=by simpa using h5
   subst this
   exact⟨h1,h2⟩
 | p::ps,[],x,e,t,h1,h2,_,h4,_,_=>by simp at h4
 | p::ps,v::vs,[],e,t,h1,h2,_,_,h5,_=>by simp at h5
 | p::ps,v::vs,x::xs,e,t,h1,h2,h3,h4,h5,h6=>by
   simp only[FD,Bool.and_eq_true,decide_eq_true_eq] at h3
   simp only[yD,List.zip_cons_cons,List.foldl_cons]
   refine ix ps vs xs ((p,.pv x)::e) (t.setIfInBounds p v) (fun i=>?_) (by simpa using h2) h3.2 (by simpa using h4) (by simpa using h5) (fun j y hy=>by simpa using h6 (j+1) y (by simpa using hy))
   simp only[look]
   by_cases hi:p=i
   ·subst hi
    rw[if_pos rfl]
    have:(t.setIfInBounds p v).getD p Go.undef=v:=by simp[Array.getD_eq_getD_getElem?,h2,h3.1.1]
    rw[this];exact .pv _ _ (by simpa using h6 0 x rfl)
   ·rw[if_neg hi]
    have:(t.setIfInBounds p v).getD i Go.undef=t.getD i Go.undef:=by
     simp only[Array.getD_eq_getD_getElem?,Array.getElem?_setIfInBounds]
     rw[if_neg hi]
    rw[this];exact h1 i
end
def lift (c:Ctx)(κ0:Kap)(N:Nat)(Q:AExit→St→Prop):Exit→Act→World→Prop
 | .normal,a,w=>∃ s κ,Rel c κ0 N s a w κ∧Q .norm s
 | .exit id,a,w=>∃ s κ,Rel c κ0 N s a w κ∧Q (.exit id) s
 | .ret,a,w=>∃ s κ,Rel c κ0 N s a w κ∧Q .ret s
 | _,_,_=>False
theorem fY {F:Fence}{nf:Nat}{P:Program}{co:Code}{Q:Exit→Act→World→Prop}{a:Act}{w:World}(J:Nat→Act→World→Prop)(h:∃ n,J n a w)
  (round:∀ n a w,J n a w→co.wpIn F nf P (Exit.then (fun a' w'=>∃ n',n'<n∧J n' a' w') Q) a w):(Code.loop co).wpIn F nf P Q a w:=by
 classical
 have least:∀ a w,(∃ n,J n a w)→∃ n,J n a w∧∀ k,J k a w→n≤k:=by
  rintro a w ⟨n,hn⟩
  induction n using Nat.strongRecOn with
  | _ n ih=>
    by_cases h:∃ k,k<n∧J k a w
    ·obtain⟨k,h1,h2⟩:=h
     exact ih k h1 h2
    ·exact⟨n,hn,fun k hk=>Nat.le_of_not_lt fun hlt=>h ⟨k,hlt,hk⟩⟩
 let μ:Act→World→Nat:=fun a w=>if h:∃ n,J n a w then Classical.choose (least a w h) else 0
 have hμ:∀ a w n,J n a w→μ a w≤n∧J (μ a w) a w:=by
  intro a w n hn
  have hx:∃ n,J n a w:=⟨n,hn⟩
  simp only[μ,dif_pos hx]
  have:=Classical.choose_spec (least a w hx)
  exact⟨this.2 n hn,this.1⟩
 refine wpIn_loop (fun a w=>∃ n,J n a w) μ h fun a w ⟨n,hn⟩=>?_
 refine wpIn_mono (round _ a w (hμ a w n hn).2) ?_
 intro e a' w' hq
 cases e with
 | normal=>
   obtain⟨n',h1,h2⟩:=hq
   exact⟨⟨n',h2⟩,Nat.lt_of_le_of_lt (hμ a' w' n' h2).1 h1⟩
 | _=>exact hq
section
variable {P:Program}{c:Ctx}{κ0:Kap}{N:Nat}
theorem lk {G:Nat→List PV}{m0:Nat}{Q:AExit→St→Prop}{s:St}(h:vc P G m0 (.ops [⟨none,fK,none⟩] []) Q s):False:=by
 simp[vc,cj,bq,By,g9,fK,AX.ev,ce,aE] at h
theorem lX {muts:List Nat}{assign body:Code}{g:Operand}{ps:Array Tmp}{f:AX}{Q:AExit→St→Prop}{m0 nf:Nat}{va vb:Nat→(AExit→St→Prop)→St→Prop}{s:St}{a:Act}{w:World}{κ:Kap}
  (hA:∀ (c1:Ctx) (κ1:Kap) (m1 l n:Nat) (Q:AExit→St→Prop) (s:St) (a:Act) (w:World) (κ:Kap),c1.G=c.G→(∀ r,m1≤r→κ1.nm r=none)→κ1.w.heap.size≤c1.w0.heap.size→Rel c1 κ1 N s a w κ→va m1 Q s→assign.wpIn (FR (some l)) n P (lift c1 κ1 N Q) a w)
  (hB:∀ (c1:Ctx) (κ1:Kap) (m1 l n:Nat) (Q:AExit→St→Prop) (s:St) (a:Act) (w:World) (κ:Kap),c1.G=c.G→(∀ r,m1≤r→κ1.nm r=none)→κ1.w.heap.size≤c1.w0.heap.size→Rel c1 κ1 N s a w κ→vb m1 Q s→body.wpIn (FR (some l)) n P (lift c1 κ1 N Q) a w)
  (hg:cX g=some f) (hps:FD N ps.toList=true) (h0:∀ r,m0≤r→κ0.nm r=none) (hk:κ0.w.heap.size≤c.w0.heap.size) (hR:Rel c κ0 N s a w κ) (hv:Bl P c.G va vb m0 f ps.toList Q s) :
  (Code.rangeFunc g ps assign body).wpIn (FR none) nf P (lift c κ0 N Q) a w:=by
 obtain⟨I,s0,hW,hI0,hv⟩:=hv
 obtain⟨κ,hR⟩:=hW c κ0 κ N a w h0 hR
 have hw:=hR.w_eq
 subst hw
 simp only[aE] at hv
 split at hv
 rotate_left
 ·exact hv.elim
 rename_i p hp
 obtain⟨hfs,lb,xs,hlb,⟨hcal,hseq⟩,hrnd,hdone⟩:=hv
 obtain⟨vs,us,hfun,hvs,hus,_,hu1⟩:=vI (am (κ:=κ) (E:=s0.E) (a:=a) hg (fun i _=>hR.env i)) hp
 have hvs0:vs = #[]:=by rw[hfs] at hvs;exact Array.eq_empty_of_size_eq_zero hvs
 subst hvs0
 have hc0:c.w0.heap.size≤κ.w.heap.size:=hR.left.size
 refine wpIn_rangeFunc fun fn _=>?_
 let D:=κ.w.heap.size
 let L:LoopState→Option Code→Obj:=fun st pe=>.loop { state:=st,pending:=pe,fn:=fn,tmps:=a.tmps,params:=ps,assign:=assign,body:=body,defers:=D }
 let W1:=(κ.w.alloc (.deferred (some []))).alloc (L .ready none)
 have g1:W1.heap[D+1]? = some (L .ready none):=by
  have:=World.alloc_heap_new (κ.w.alloc (.deferred (some []))) (L .ready none)
  rwa [World.size_alloc] at this
 have g2:W1.heap[D]? = some (.deferred (some [])):=(Below.heap_alloc _ _ _ (by simp[D])).trans (World.alloc_heap_new κ.w _)
 have gb:Below κ.w.heap.size κ.w W1:=((Below.refl _ κ.w).alloc (Nat.le_refl _) _).alloc (by simp) _
 have hR1:=hR.below hk gb
 have he1:Ext κ ⟨W1,κ.nm,κ.imm⟩:=⟨fun _ _ h=>h,fun b o v hi hc=>(World.cell?_of_block (a:=⟨b,o,none⟩) (gb.block b (World.block_lt_of_cell? κ.w _ hc))).trans hc,fun _ _ h=>h,fun b o ho _=>(gb.block b (Array.getElem?_eq_some_iff.1 ho).1).trans ho⟩
 have hlt:∀ {W:World} {o:Obj} {k:Nat},W.heap[k]? = some o→k<W.heap.size:=fun h=>(Array.getElem?_eq_some_iff.1 h).1
 have hDs:∀ {Ds:List Nat},a.defers=Ds.map Bq→(c.rnd=true∨D∉Ds):=by
  intro Ds hd
  rcases hR.defers with h | ⟨Es,m1,m2,m3⟩
  ·exact .inl h
  ·refine .inr fun hm=>?_
   have:Bq D∈Es.map Bq:=by rw[← m1,hd];exact List.mem_map.2 ⟨D,hm,rfl⟩
   obtain⟨E,hE,hEe⟩:=List.mem_map.1 this
   have hED:E=D:=by simpa[Bq] using hEe
   have:=hlt (m3 E hE).2
   omega
 have markD:∀ {W:World} {κ':Kap} {o':Obj},ci c κ' a.defers→κ'.w=W→W.heap[D]? = some (.deferred (some []))→W.heap[D+1]?≠none→(∀ k:Nat,k≠D+1→(W.putObj (D+1) o').heap[k]? = W.heap[k]?)→(∀ q,W.heap[D+1]?≠some (.deferred q))→ci c ⟨W.putObj (D+1) o',κ'.nm,κ'.imm⟩ (Bq D::a.defers):=by
  intro W κ' o' hm hw hD _ hput hnd
  have hkeep:∀ (E:Nat),W.heap[E]? = some (.deferred (some []))→(W.putObj (D+1) o').heap[E]? = some (.deferred (some [])):=fun E hE=>by
   rw[hput E (by rintro rfl;exact hnd _ hE)];exact hE
  rcases hm with h | ⟨Es,m1,m2,m3⟩
  ·exact .inl h
  ·rcases hDs m1 with h | h
   ·exact .inl h
   ·refine .inr ⟨D::Es,by rw[m1];rfl,List.nodup_cons.2 ⟨h,m2⟩,fun E hE=>?_⟩
    rcases List.mem_cons.1 hE with rfl | hE
    ·exact⟨hc0,hkeep _ hD⟩
    ·exact⟨(m3 E hE).1,hkeep _ (by rw[← hw];exact (m3 E hE).2)⟩
 let J:Nat→(Nat→Nat→Prop)→World→Prop:=fun i O W=>∃ s' κ',I i s'∧Rel c κ0 N s' a W κ'∧(∀ b o,O b o↔((dS κ' s'.σ b∧¬ κ'.imm b o)∨b=D∨b=D+1))∧W.heap[D+1]? = some (L .ready none)∧W.heap[D]? = some (.deferred (some []))
 let Jx:World→Prop:=fun W=>∃ cd s' κ',((cd = .ret∧Q .ret s')∨∃ id,cd = .exit id∧Q (.exit id) s')∧Rel c κ0 N s' a W κ'∧W.heap[D+1]? = some (L .done (some cd))∧W.heap[D]? = some (.deferred (some []))
 refine⟨D+1,[Bq D],W1,{ target:=.fn (.func p.1) us,args:=#[.func (.yield (D+1)) #[] #[]] },W1,p.1,#[.func (.yield (D+1)) #[] #[]]++us,W1,run_enterLoop_outer _ _ _ _ _,?_,fun _ _=>trivial,?_,fun h=>absurd h (ow none),?_⟩
 ·simp only[resolve,hfun];simp[go_sem]
 ·simp[invoke,go_sem,dv hcal]
 have hmain:=hseq W1 κ.imm us (D+1) J Jx (fun b o=>(dS κ s0.σ b∧¬ κ.imm b o)∨b=D∨b=D+1) hR1.rel.glob.ok (fun b o hi=>?_) (hus.trans (by simpa using (br hlb).symm)) (fun i x hx=>?_) ?_ ?_ ?_ ⟨s0,_,hI0,hR1,fun _ _=>Iff.rfl,g1,g2⟩
 ·refine CallsIn.mono (show CallsIn (FR none) (nf - 1) P p.1 _ W1 _ from (callsIn_wide (n:=nf - 1)).2 ((callsIn_wide (n:=0)).1 hmain)) ?_
  rintro e W2 ⟨⟨v,rfl⟩,⟨O',s',κ',hI,hR',hO,hL,hD⟩ | ⟨cd,s',κ',hQ,hR',hL,hD⟩⟩
  ·have hRe:=hR'.putObj hk (L .exhausted none) hL rfl (by omega) (markD hR'.defers hR'.w_eq hD (by rw[hL];simp) (fun k hk=>World.putObj_heap_other hk) (fun q hq=>by rw[hL] at hq;cases hq))
   exact⟨none,_,run_endLoop hL (by simp),s',_,hRe,hdone s' hI⟩
  ·have hRe:=hR'.putObj hk (L .exhausted (some cd)) hL rfl (by omega) (markD hR'.defers hR'.w_eq hD (by rw[hL];simp) (fun k hk=>World.putObj_heap_other hk) (fun q hq=>by rw[hL] at hq;cases hq))
   refine⟨some cd,_,run_endLoop hL (by simp),?_⟩
   rcases hQ with ⟨rfl,hQ⟩ | ⟨id,rfl,hQ⟩
   ·exact wpIn_ret ⟨s',_,hRe,hQ⟩
   ·exact wpIn_exit ⟨s',_,hRe,hQ⟩
 ·have h1:=hR.rel.immLt b o hi
  refine⟨Nat.lt_of_lt_of_le h1 gb.size,?_⟩
  rintro (⟨_,h⟩ | h | h)
  ·exact h hi
  ·omega
  ·omega
 ·obtain⟨y,hy,hq⟩:=bD hlb i x hx
  exact bh hq ((hu1 i y hy).ext he1)
 ·rintro i O W W' ⟨s',κ',q1,q2,q3,q4,q5⟩ hb
  exact⟨s',_,q1,q2.below hk hb,q3,(hb.block _ (hlt q4)).trans q4,(hb.block _ (hlt q5)).trans q5⟩
 ·rintro i O W b o ⟨s',κ',q1,q2,q3,q4,q5⟩ ho
  rcases (q3 b o).1 ho with ⟨h,_⟩ | rfl | rfl
  ·have:=h.lt q2.rel
   rwa [q2.w_eq] at this
  ·exact hlt q5
  ·exact hlt q4
 ·rintro m i x O W vals imm' kp ⟨s',κ',hI,hR',hO,hL,hD⟩ hx hsz hpx him hkp hkO
  have hw':=hR'.w_eq
  subst hw'
  obtain⟨hlen,hva⟩:=hrnd i x s' hx hI
  have hnot:∀ b o,kp b o→dS κ' s'.σ b→κ'.imm b o:=fun b o h hn=>Classical.byContradiction fun hc=>(hkO b o h).2 ((hO b o).2 (.inl ⟨hn,hc⟩))
  have hneD:∀ b o,kp b o→b≠D∧b≠D+1:=fun b o h=>⟨fun e=>(hkO b o h).2 ((hO b o).2 (.inr (.inl e))),fun e=>(hkO b o h).2 ((hO b o).2 (.inr (.inr e)))⟩
  have hM:=hR'.more (im:=imm') (fun b o h=>(hkO b o (hkp b o h)).1) (fun b o h hn=>hnot b o (hkp b o h) hn) (fun b o h=>by
   rcases him b o h with h | h
   ·exact hR.left.imm b o h
   ·exact .inr (.inl (by have:=gb.size;omega)))
  obtain⟨e1,e2⟩:=ix (κ:=⟨κ'.w,κ'.nm,fun b o=>κ'.imm b o∨imm' b o⟩) (N:=N) ps.toList vals.toList x s'.env a.tmps hM.env hM.size hps (by simp[hsz,hlen]) hlen (fun j y hy=>by
   rw[← ap]
   exact (hpx j y hy).mono (fun _ _ h=>.inr h) (fun _ _ _ _ h=>h))
  have hfold:(ps.zip vals).foldl (fun (t:Array Value) (p,v)=>t.setIfInBounds p v) a.tmps=(ps.toList.zip vals.toList).foldl (fun (t:Array Value) (p,v)=>t.setIfInBounds p v) a.tmps:=by
   rw[← Array.foldl_toList,Array.toList_zip]
  rw[← hfold] at e1 e2
  have hP:Rel c κ0 N ⟨yD ps.toList x s'.env,s'.sto,s'.next⟩ ⟨(ps.zip vals).foldl (fun (t:Array Value) (p,v)=>t.setIfInBounds p v) a.tmps,[]⟩ κ'.w ⟨κ'.w,κ'.nm,fun b o=>κ'.imm b o∨imm' b o⟩:=
   ⟨rfl,hM.ext0,hM.rel,hM.left,e1,e2,ci.nil _ _,hM.fresh⟩
  have hb1:=hP.rebase κ'.nm (fun _ _ h=>h)
  refine⟨fn,_,assign,body,run_yield hL (by simp[hsz,hlen]),roundIn_of_wpIn trivial (Go.wpIn_mono (hA (BA ⟨κ'.w,κ'.nm,fun b o=>κ'.imm b o∨imm' b o⟩ s'.σ c.G) ⟨κ'.w,κ'.nm,fun b o=>κ'.imm b o∨imm' b o⟩ s'.next (D+1) m _ _ _ _ _ rfl (fun r hr=>hR'.fresh r hr) (Nat.le_refl _) hb1 hva) ?_)⟩
  intro e a2 w2 hq
  cases e with
  | exit id=>obtain⟨_,_,_,hf⟩:=hq;exact hf.elim
  | ret=>obtain⟨_,_,_,hf⟩:=hq;exact hf.elim
  | goto t=>exact hq.elim
  | panic ch=>exact hq.elim
  | outgrown=>exact hq.elim
  | normal=>
    obtain⟨s2,κ2,hR2,hv2⟩:=hq
    have hw2:=hR2.w_eq
    subst hw2
    have hL2:κ2.w.heap[D+1]? = some (L .ready none):=hR2.ext0.obj _ _ hL rfl
    have hD2:κ2.w.heap[D]? = some (.deferred (some [])):=hR2.ext0.obj _ _ hD rfl
    refine⟨_,run_beginRound hL2 rfl,?_⟩
    let W3:=κ2.w.putObj (D+1) (L .busy none)
    have hmk:∀ {K:Kap} {o o':Obj} {ds:List Deferred},ci c K ds→K.w.heap[D+1]? = some o→(∀ q,o≠.deferred q)→ci c ⟨K.w.putObj (D+1) o',K.nm,K.imm⟩ ds:=by
     intro K o o' ds hm hl ho
     exact hm.keep fun E hE=>by
      have:E≠D+1:=by rintro rfl;rw[hl] at hE;cases hE;exact ho _ rfl
      exact (World.putObj_heap_other this).trans hE
    have o2:=hM.lift (s1:=s2) hR2
    have o3:=o2.putObj hk (L .busy none) hL2 rfl (by omega) (hmk o2.defers hL2 (fun q h=>by cases h))
    have i2:=hP.lift2 hR2
    have i3:=i2.putObj (c:=c.round) hk (L .busy none) hL2 rfl (show c.w0.heap.size≤D+1 by omega) (ds:=a2.defers) (.inl rfl)
    have hb3:=i3.rebase κ2.nm (fun _ _ h=>h)
    have hL3:W3.heap[D+1]? = some (L .busy none):=World.putObj_heap_same (hlt hL2)
    have hD3:W3.heap[D]? = some (.deferred (some [])):=(World.putObj_heap_other (by omega)).trans hD2
    refine Go.wpIn_mono (hB (BA ⟨W3,κ2.nm,κ2.imm⟩ s2.σ c.G) ⟨W3,κ2.nm,κ2.imm⟩ s2.next (D+1) m _ s2 _ W3 _ rfl (fun r hr=>hR2.fresh r hr) (Nat.le_refl _) hb3 hv2) ?_
    intro e a4 w4 hq
    have fin:∀ (s4:St) (κ4:Kap) (jump:Option Code),Rel (BA ⟨W3,κ2.nm,κ2.imm⟩ s2.σ c.G) ⟨W3,κ2.nm,κ2.imm⟩ N s4 a4 w4 κ4 →
      let W5:=w4.putObj (D+1) (L (if jump.isNone then .ready else .done) jump)
      (Instr.endRound (D+1) jump).run P w4 = .ok (.bool jump.isNone) W5∧W5.heap[D+1]? = some (L (if jump.isNone then .ready else .done) jump)∧W5.heap[D]? = some (.deferred (some [])) ∧
      Rel c κ0 N ⟨s'.env,s4.sto,s4.next⟩ a W5 ⟨W5,κ4.nm,κ4.imm⟩:=by
     intro s4 κ4 jump hR4
     have hw4:=hR4.w_eq
     subst hw4
     have hL4:κ4.w.heap[D+1]? = some (L .busy none):=hR4.ext0.obj _ _ hL3 rfl
     have hD4:κ4.w.heap[D]? = some (.deferred (some [])):=hR4.ext0.obj _ _ hD3 rfl
     have o4:=o3.lift (s1:=s4) hR4
     exact⟨run_endRound jump hL4,World.putObj_heap_same (hlt hL4),(World.putObj_heap_other (by omega)).trans hD4,o4.putObj hk _ hL4 rfl (by omega) (hmk o4.defers hL4 (fun q h=>by cases h))⟩
    cases e with
    | goto t=>exact hq.elim
    | panic ch=>exact hq.elim
    | outgrown=>exact hq.elim
    | ret=>
      obtain⟨s4,κ4,hR4,hq⟩:=hq
      obtain⟨f1,f2,f3,f4⟩:=fin s4 κ4 (some .ret) hR4
      exact⟨_,_,f1,.inr ⟨rfl,.ret,_,_,.inl ⟨rfl,hq⟩,f4,f2,f3⟩⟩
    | exit id=>
      obtain⟨s4,κ4,hR4,hq⟩:=hq
      obtain⟨f1,f2,f3,f4⟩:=fin s4 κ4 (some (.exit id)) hR4
      exact⟨_,_,f1,.inr ⟨rfl,.exit id,_,_,.inr ⟨id,rfl,hq⟩,f4,f2,f3⟩⟩
    | normal=>
      obtain⟨s4,κ4,hR4,s6,hW6,hI6⟩:=hq
      obtain⟨f1,f2,f3,f4⟩:=fin s4 κ4 none hR4
      obtain⟨κ6,hR6,him6,hnm6⟩:=hW6.sub h0 f4
      have hw4:=hR4.w_eq
      subst hw4
      have hlt':∀ b o,kp b o→b<κ'.w.heap.size:=fun b o h=>(hkO b o h).1
      have s12:κ'.w.heap.size≤κ2.w.heap.size:=hR2.left.size
      have s23:κ2.w.heap.size=W3.heap.size:=by simp[W3]
      have s34:W3.heap.size≤κ4.w.heap.size:=hR4.left.size
      have n2:∀ b,b<κ'.w.heap.size→dS κ2 s2.σ b→dS κ' s'.σ b:=by
       rintro b hb ⟨r,d,q1,q2,q3⟩
       rcases hR2.rel.mine r d b q1 q2 q3 with h | h
       ·exact absurd hb (Nat.not_lt.2 h)
       ·exact h
      have n4:∀ b,b<κ'.w.heap.size→dS κ4 s4.σ b→dS κ' s'.σ b:=by
       rintro b hb ⟨r,d,q1,q2,q3⟩
       rcases hR4.rel.mine r d b q1 q2 q3 with h | h
       ·exact absurd (Nat.lt_of_lt_of_le hb (Nat.le_trans s12 (Nat.le_of_eq s23))) (Nat.not_lt.2 h)
       ·exact n2 b hb h
      have i12:∀ b o,κ'.imm b o→κ4.imm b o:=fun b o h=>hR4.ext0.imm b o (hR2.ext0.imm b o (.inl h))
      refine⟨_,_,f1,.inl ⟨rfl,⟨fun b o=>(dS κ6 s6.σ b∧¬ κ6.imm b o)∨b=D∨b=D+1,⟨s6,κ6,hI6,hR6,fun _ _=>Iff.rfl,f2,f3⟩,fun b o hkb=>?_⟩,?_,fun b o v hkb hv=>?_,fun g hg=>?_⟩⟩
      ·rintro (⟨h1,h2⟩ | h | h)
       ·exact h2 (him6 b o (i12 b o (hnot b o hkb (n4 b (hlt' b o hkb) (hnm6 b h1)))))
       ·exact (hneD b o hkb).1 h
       ·exact (hneD b o hkb).2 h
      ·simp;omega
      ·have turn:∀ {X:World} {o':Obj},X.cell? ⟨b,o,none⟩=some v→(X.putObj (D+1) o').cell? ⟨b,o,none⟩=some v:=fun {X o'} h=>
        (World.cell?_of_block (a:=⟨b,o,none⟩) (World.putObj_heap_other (hneD b o hkb).2)).trans h
       by_cases hi:κ'.imm b o
       ·exact turn (hR4.ext0.cell b o v (hR2.ext0.imm b o (.inl hi)) (turn (hR2.ext0.cell b o v (.inl hi) hv)))
       ·have hn:¬ dS κ' s'.σ b:=fun h=>hi (hnot b o hkb h)
        have hb:=hlt' b o hkb
        have k2:κ2.w.cell? ⟨b,o,none⟩=some v:=(World.cell?_of_block (a:=⟨b,o,none⟩) (hR2.left.block b hb hn)).trans hv
        have hb3:b<W3.heap.size:=Nat.lt_of_lt_of_le hb (by omega)
        exact turn ((World.cell?_of_block (a:=⟨b,o,none⟩) (hR4.left.block b hb3 fun h=>hn (n2 b hb h))).trans (turn k2))
      ·have hw6:=hR6.w_eq
       rw[← hw6]
       exact (hR6.rel.glob.2 g hg).2.2
theorem nr {muts rl:List Nat}:∀ (co:Code) (c:Ctx) (κ0:Kap) (m0:Nat) (ro:Option Nat) (nf:Nat) (ac:ACode) (ex:List (Nat×List Nat)) (out li:List Nat) (Q:AExit→St→Prop) (s:St) (a:Act) (w:World) (κ:Kap),
  (ro=none∨aX co=false)→(∀ r,m0≤r→κ0.nm r=none)→κ0.w.heap.size≤c.w0.heap.size →
  aY P muts N rl co ex out=some (ac,li)→Rel c κ0 N s a w κ→vc P c.G m0 ac Q s→co.wpIn (FR ro) nf P (lift c κ0 N Q) a w:=by
 intro co
 induction co with
 | skip=>
   intro c κ0 m0 ro nf ac ex out li Q s a w κ hro h0 hk hc hR hv
   simp only[aY,Option.some.injEq,Prod.mk.injEq] at hc
   obtain⟨rfl,_⟩:=hc
   exact wpIn_skip ⟨s,κ,hR,hv⟩
 | exit id=>
   intro c κ0 m0 ro nf ac ex out li Q s a w κ hro h0 hk hc hR hv
   simp only[aY,Option.some.injEq,Prod.mk.injEq] at hc
   obtain⟨rfl,_⟩:=hc
   exact wpIn_exit ⟨s,κ,hR,hv⟩
 | ret=>
   intro c κ0 m0 ro nf ac ex out li Q s a w κ hro h0 hk hc hR hv
   simp only[aY,Option.some.injEq,Prod.mk.injEq] at hc
   obtain⟨rfl,_⟩:=hc
   exact wpIn_ret ⟨s,κ,hR,hv⟩
 | region id ops d=>
   intro c κ0 m0 ro nf ac ex out li Q s a w κ hro h0 hk hc hR hv
   simp only[aY] at hc
   split at hc
   ·rename_i l hl
    cases d with
    | false=>
      simp only[Option.some.injEq,Prod.mk.injEq] at hc
      obtain⟨rfl,_⟩:=hc
      exact wpIn_region_list (cJ (F:=ml Q (jR out)) (fun s a w κ hR hF=>⟨_,κ,hR.clip _,hF⟩) ops.toList l s a w κ hl hR hv)
    | true=>
      simp only at hc
      split at hc
      ·rename_i hok
       simp only[Option.some.injEq,Prod.mk.injEq] at hc
       obtain⟨rfl,_⟩:=hc
       exact iK (F:=ml Q (jR out)) hl hok.1 hok.2.1 hok.2.2 hR hv (fun s a w κ hR hF=>⟨_,κ,hR.clip _,hF⟩)
      ·cases hc
   ·cases hc
 | seq x y ihx ihy=>
   intro c κ0 m0 ro nf ac ex out li Q s a w κ hro h0 hk hc hR hv
   simp only[aY] at hc
   split at hc
   ·rename_i b' lb hb
    split at hc
    ·rename_i a' la ha
     simp only[Option.some.injEq,Prod.mk.injEq] at hc
     obtain⟨rfl,_⟩:=hc
     refine wpIn_seq (Go.wpIn_mono (ihx c κ0 m0 ro nf _ _ _ _ _ s a w κ (hro.imp _root_.id fun h=>by simp only[aX,Bool.or_eq_false_iff] at h;exact h.1) h0 hk ha hR hv) ?_)
     intro e a w hq
     cases e with
     | normal=>
       obtain⟨s,κ,hR,hF⟩:=hq
       exact ihy c κ0 m0 ro nf _ _ _ _ _ s a w κ (hro.imp _root_.id fun h=>by simp only[aX,Bool.or_eq_false_iff] at h;exact h.2) h0 hk hb hR hF
     | exit id=>exact hq
     | ret=>exact hq
     | goto l=>exact hq.elim
     | panic ch=>exact hq.elim
     | outgrown=>exact hq.elim
    ·cases hc
   ·cases hc
 | cond x y z ihy ihz=>
   intro c κ0 m0 ro nf ac ex out li Q s a w κ hro h0 hk hc hR hv
   simp only[aY] at hc
   split at hc
   ·rename_i ax a' la b' lb hx hy hz
    simp only[Option.some.injEq,Prod.mk.injEq] at hc
    obtain⟨rfl,_⟩:=hc
    have hw:=hR.w_eq
    have hrel:=am (κ:=κ) (E:=s.E) (a:=a) hx (fun i _=>hR.env i)
    simp only[vc,kg] at hv
    split at hv
    ·rename_i he
     rw[he] at hrel
     exact wpIn_cond_true (bR hrel) (ihy c κ0 m0 ro nf _ _ _ _ _ s a w κ (hro.imp _root_.id fun h=>by simp only[aX,Bool.or_eq_false_iff] at h;exact h.1) h0 hk hy hR hv)
    ·rename_i he
     rw[he] at hrel
     exact wpIn_cond_false (bR hrel) (ihz c κ0 m0 ro nf _ _ _ _ _ s a w κ (hro.imp _root_.id fun h=>by simp only[aX,Bool.or_eq_false_iff] at h;exact h.2) h0 hk hz hR hv)
    ·exact hv.elim
   ·cases hc
 | block id b ih=>
   intro c κ0 m0 ro nf ac ex out li Q s a w κ hro h0 hk hc hR hv
   simp only[aY] at hc
   split at hc
   ·rename_i b' lb hb
    simp only[Option.some.injEq,Prod.mk.injEq] at hc
    obtain⟨rfl,_⟩:=hc
    refine wpIn_block (Go.wpIn_mono (ih c κ0 m0 ro nf _ _ _ _ _ s a w κ (hro.imp _root_.id fun h=>by simpa only[aX] using h) h0 hk hb hR hv) ?_)
    intro e a w hq
    cases e with
    | normal=>exact hq
    | ret=>exact hq
    | goto l=>exact hq.elim
    | panic ch=>exact hq.elim
    | outgrown=>exact hq.elim
    | exit id'=>
      obtain⟨s,κ,hR,hF⟩:=hq
      simp only[dZ] at hF
      simp only[Exit.inBlock]
      split
      ·rename_i hid
       rw[if_pos hid] at hF
       exact⟨s,κ,hR,hF⟩
      ·rename_i hid
       rw[if_neg hid] at hF
       exact⟨s,κ,hR,hF⟩
   ·cases hc
 | loop b ih=>
   intro c κ0 m0 ro nf ac ex out li Q s a w κ hro h0 hk hc hR hv
   simp only[aY] at hc
   split at hc
   ·rename_i x1 l1 hb1
    split at hc
    ·rename_i x2 l2 hb2
     split at hc
     ·rename_i b' l3 hb
      simp only[Option.some.injEq,Prod.mk.injEq] at hc
      obtain⟨rfl,_⟩:=hc
      obtain⟨I,⟨n0,s0,hs0,hI0⟩,hround⟩:=hv
      let J:Nat→Act→World→Prop:=fun n a w=>∃ s κ,Rel c κ0 N s a w κ∧I n s
      have hJ0:∃ n,J n a w:=by
       obtain⟨κ',hR'⟩:=hs0 c κ0 κ N a w h0 hR
       exact⟨n0,_,κ',hR',hI0⟩
      refine fY J hJ0 fun n a w hJn=>?_
      obtain⟨s,κ,hR,hIs⟩:=hJn
      refine Go.wpIn_mono (ih c κ0 m0 ro nf _ _ _ _ _ s a w κ (hro.imp _root_.id fun h=>by simpa only[aX] using h) h0 hk hb hR (hround _ s hIs)) ?_
      intro e a' w' hq
      cases e with
      | normal=>
        obtain⟨s',κ',hR',n',s'',hn',hs',hI'⟩:=hq
        obtain⟨κ'',hR''⟩:=hs' c κ0 κ' N a' w' h0 hR'
        exact⟨n',hn',_,κ'',hR'',hI'⟩
      | exit id=>
        obtain⟨s',κ',hR',s'',hs',hq'⟩:=hq
        obtain⟨κ'',hR''⟩:=hs' c κ0 κ' N a' w' h0 hR'
        exact⟨s'',κ'',hR'',hq'⟩
      | ret=>exact hq
      | goto l=>exact hq.elim
      | panic ch=>exact hq.elim
      | outgrown=>exact hq.elim
     ·cases hc
    ·cases hc
   ·cases hc
 | rangeFunc g ps x y ihx ihy=>
   intro c κ0 m0 ro nf ac ex out li Q s a w κ hro h0 hk hc hR hv
   rcases hro with rfl | h
   rotate_left
   ·simp[aX] at h
   simp only[aY] at hc
   split at hc
   ·rename_i ax b' lb hxy hx hb hps
    simp only[Bool.or_eq_false_iff] at hxy
    split at hc
    ·rename_i a' la ha
     simp only[Option.some.injEq,Prod.mk.injEq] at hc
     obtain⟨rfl,_⟩:=hc
     simp only[vc] at hv
     exact lX (muts:=muts) (fun c1 κ1 m1 l n Q s a w κ hG g0 gk hR hv=>ihx c1 κ1 m1 (some l) n _ _ _ _ Q s a w κ (.inr hxy.1) g0 gk ha hR (by rw[hG];exact hv))
      (fun c1 κ1 m1 l n Q s a w κ hG g0 gk hR hv=>ihy c1 κ1 m1 (some l) n _ _ _ _ Q s a w κ (.inr hxy.2) g0 gk hb hR (by rw[hG];exact hv)) hx hps h0 hk hR hv
    ·cases hc
   ·simp only[Option.some.injEq,Prod.mk.injEq] at hc;obtain⟨rfl,rfl⟩:=hc;exact (lk hv).elim
 | scope b ih=>intro c κ0 m0 ro nf ac ex out li Q s a w κ hro h0 hk hc hR hv;simp only[aY,Option.some.injEq,Prod.mk.injEq] at hc;obtain⟨rfl,rfl⟩:=hc;exact (lk hv).elim
 | label l=>intro c κ0 m0 ro nf ac ex out li Q s a w κ hro h0 hk hc hR hv;simp only[aY,Option.some.injEq,Prod.mk.injEq] at hc;obtain⟨rfl,rfl⟩:=hc;exact (lk hv).elim
 | goto l=>intro c κ0 m0 ro nf ac ex out li Q s a w κ hro h0 hk hc hR hv;simp only[aY,Option.some.injEq,Prod.mk.injEq] at hc;obtain⟨rfl,rfl⟩:=hc;exact (lk hv).elim
 | refuse y=>intro c κ0 m0 ro nf ac ex out li Q s a w κ hro h0 hk hc hR hv;simp only[aY,Option.some.injEq,Prod.mk.injEq] at hc;obtain⟨rfl,rfl⟩:=hc;exact (lk hv).elim
end
end Go.Ab
set_option linter.unusedVariables false
set_option linter.unusedSimpArgs false
namespace Go.Ab
open Go Go.RowKit
mutual
inductive Nz:PV→PV→Prop
 | refl (p:PV):Nz p p
 | nils:Nz .nils (.list [])
 | agg (cs ds:List PV):NzL cs ds→Nz (.agg cs) (.agg ds)
 | tup (cs ds:List PV):NzL cs ds→Nz (.tup cs) (.tup ds)
 | list (cs ds:List PV):NzL cs ds→Nz (.list cs) (.list ds)
inductive NzL:List PV→List PV→Prop
 | nil:NzL [] []
 | cons (x y:PV) (r q:List PV):Nz x y→NzL r q→NzL (x::r) (y::q)
end
theorem NzL.refl:∀ l:List PV,NzL l l
 | []=>.nil
 | x::r=>.cons x x r r (.refl x) (NzL.refl r)
theorem NzL.length:∀ {l k:List PV},NzL l k→l.length=k.length
 | [],_,h=>by cases h;rfl
 | x::r,_,h=>by cases h with | cons _ y _ q _ h2=>simp[NzL.length h2]
theorem NzL.get:∀ {l k:List PV},NzL l k→∀ (i:Nat) (y:PV),k[i]? = some y→∃ x,l[i]? = some x∧Nz x y
 | [],_,h,i,y,hy=>by cases h;simp at hy
 | x::r,_,h,i,y,hy=>by
   cases h with
   | cons _ y' _ q h1 h2=>
     cases i with
     | zero=>simp at hy;subst hy;exact⟨x,rfl,h1⟩
     | succ i=>exact NzL.get h2 i y (by simpa using hy)
theorem Nz.cells {p q:PV}(h:Nz p q):NzL p.cells q.cells:=by
 cases h with
 | refl=>exact NzL.refl _
 | nils=>exact .cons _ _ _ _ .nils .nil
 | agg cs ds h=>exact h
 | tup cs ds h=>exact .cons _ _ _ _ (.tup _ _ h) .nil
 | list cs ds h=>exact .cons _ _ _ _ (.list _ _ h) .nil
theorem PRel.nz {w:World}{imm:Nat→Nat→Prop}{p:PV}{v:Value}(h:PRel w imm p v):∀ {q:PV},Nz p q→PRel w imm q v:=by
 induction h with
 | undef=>intro q hq;cases hq;exact .undef
 | bool b=>intro q hq;cases hq;exact .bool b
 | int k n=>intro q hq;cases hq;exact .int k n
 | str s hs=>intro q hq;cases hq;exact .str s hs
 | agg cs vs hl hc ih=>
   intro q hq
   cases hq with
   | refl=>exact .agg cs vs hl hc
   | agg _ ds hd=>
     refine .agg ds vs (by rw[hl,hd.length]) fun i y hy=>?_
     obtain⟨x,hx,hxy⟩:=hd.get i y hy
     exact ih i x hx hxy
 | tup cs vs hl hc ih=>
   intro q hq
   cases hq with
   | refl=>exact .tup cs vs hl hc
   | tup _ ds hd=>
     refine .tup ds vs (by rw[hl,hd.length]) fun i y hy=>?_
     obtain⟨x,hx,hxy⟩:=hd.get i y hy
     exact ih i x hx hxy
 | nils=>
   intro q hq
   cases hq with
   | refl=>exact .nils
   | nils=>exact .lnil none 0 (by simp)
 | lnil A c h=>
   intro q hq
   cases hq with
   | refl=>exact .lnil A c h
   | list _ ds hd=>cases hd;exact .lnil A c h
 | list l b off c sz g h1 h2 h3 h4 h5 ih=>
   intro q hq
   cases hq with
   | refl=>exact .list l b off c sz g h1 h2 h3 h4 h5
   | list _ ds hd=>
     have hlen:=hd.length
     have key:=PRel.list (w:=w) (imm:=imm) ds b off c sz g (by omega) h2 (fun i y hy=>by
       obtain⟨x,hx,hxy⟩:=hd.get i y hy
       rw[← h3 i x hx,hxy.cells.length]) (fun i y j z hy hz=>by
       obtain⟨x,hx,hxy⟩:=hd.get i y hy
       obtain⟨u,hu,huz⟩:=hxy.cells.get j z hz
       exact h4 i x j u hx hu) (fun i y j z hy hz=>by
       obtain⟨x,hx,hxy⟩:=hd.get i y hy
       obtain⟨u,hu,huz⟩:=hxy.cells.get j z hz
       exact ih i x j u hx hu huz)
     rw[← hlen] at key
     exact key
 | nilp=>intro q hq;cases hq;exact .nilp
 | nilf=>intro q hq;cases hq;exact .nilf
 | clo f fs cs vs us h1 h2 h3 h4 _ _=>intro q hq;cases hq;exact .clo f fs cs vs us h1 h2 h3 h4
 | eptr l b off c sz g i o h1 h2 h3 h4 h5 h6 _=>intro q hq;cases hq;exact .eptr l b off c sz g i o h1 h2 h3 h4 h5 h6
 | gptr g o=>intro q hq;cases hq;exact .gptr g o
 | nili=>intro q hq;cases hq;exact .nili
 | iface T p u h _=>intro q hq;cases hq;exact .iface T p u h
theorem CQ (p:PV):Nz p p=True:=eq_true (.refl p)
theorem CR:Nz .nils (.list [])=True:=eq_true .nils
theorem FK (cs ds:List PV):Nz (.agg cs) (.agg ds)=NzL cs ds:=propext ⟨fun h=>by cases h with | refl=>exact NzL.refl _ | agg _ _ h=>exact h,.agg _ _⟩
theorem FH (cs ds:List PV):Nz (.tup cs) (.tup ds)=NzL cs ds:=propext ⟨fun h=>by cases h with | refl=>exact NzL.refl _ | tup _ _ h=>exact h,.tup _ _⟩
theorem CS (a b:Bool):Nz (.bool a) (.bool b)=(a=b):=propext ⟨fun h=>by cases h;rfl,fun h=>h▸.refl _⟩
theorem FJ (k k':IntKind)(a b:Int):Nz (.int k a) (.int k' b)=(k=k'∧a=b):=propext ⟨fun h=>by cases h;exact⟨rfl,rfl⟩,fun ⟨h,g⟩=>h▸g▸.refl _⟩
theorem FI (a b:List UInt8):Nz (.str a) (.str b)=(a=b):=propext ⟨fun h=>by cases h;rfl,fun h=>h▸.refl _⟩
theorem CT:NzL [] []=True:=eq_true .nil
theorem yS (x y:PV)(r q:List PV):NzL (x::r) (y::q)=(Nz x y∧NzL r q):=propext ⟨fun h=>by cases h with | cons _ _ _ _ h1 h2=>exact⟨h1,h2⟩,fun ⟨h1,h2⟩=>.cons _ _ _ _ h1 h2⟩
theorem NzL.map {α:Type}{f g:α→PV}(h:∀ x,Nz (f x) (g x)):∀ l:List α,NzL (l.map f) (l.map g)
 | []=>.nil
 | x::r=>.cons _ _ _ _ (h x) (NzL.map h r)
theorem NzL.append:∀ {a b c d:List PV},NzL a b→NzL c d→NzL (a++c) (b++d)
 | [],_,_,_,h,k=>by cases h;exact k
 | x::r,_,_,_,h,k=>by cases h with | cons _ _ _ _ h1 h2=>exact .cons _ _ _ _ h1 (NzL.append h2 k)
end Go.Ab
set_option linter.unusedVariables false
set_option linter.unusedSimpArgs false
namespace Go.Ab
open Go Go.RowKit
def e9 (n e sz:Nat):AV:=if e<1000000 then .olist n sz [] else .row n sz 0 0
def bM (e sz:Nat):Blk:=if e<1000000 then .tok e sz else .cells (e - 1000000) false []
def Ef (k:Nat)(e sz:Nat)(s:St):AV→St
 | .pv .nils=>⟨(k,e9 s.next e sz)::s.env,(s.next,bM e sz)::s.sto,s.next+1⟩
 | _=>s
def EP (r T:Nat)(f:Bool)(l:List AV)(o e sz:Nat)(s:St):Option AV→St
 | some (.pv .nils)=>⟨s.env,(r,.cells T f (l.set o (e9 s.next e sz)))::(s.next,bM e sz)::s.sto,s.next+1⟩
 | _=>s
def Eg (r o e sz:Nat)(s:St):Blk→St
 | .cells T f l=>EP r T f l o e sz s l[o]?
 | _=>s
def accP (o e sz:Nat)(s:St):AV→St
 | .ptr r b=>Eg r (b+o) e sz s (lookB r s.sto)
 | _=>s
def I5 (p:Nat×Nat×Nat×Nat)(s:St):St:=
 match p.2.1 with
 | 0=>Ef p.1 p.2.2.1 p.2.2.2 s (look p.1 s.env)
 | j+1=>accP j p.2.2.1 p.2.2.2 s (look p.1 s.env)
def AR:List (Nat×Nat×Nat×Nat)→St→St
 | [],s=>s
 | p::r,s=>AR r (I5 p s)
section
variable {P:Program}{c:Ctx}{κ0 κ:Kap}{N:Nat}{s:St}{a:Act}{w:World}
theorem AS {σ0:ak}(hS:SRel c κ σ0){new:Nat}(hn:κ.nm new=none)(e sz:Nat) :
  Done c κ ⟨κ.w,fun r=>if r=new then some (.own (.slice none 0 0)) else κ.nm r,κ.imm⟩ new ∧
  SRel c ⟨κ.w,fun r=>if r=new then some (.own (.slice none 0 0)) else κ.nm r,κ.imm⟩ (ak.set σ0 new (bM e sz)) ∧
  ARel ⟨κ.w,fun r=>if r=new then some (.own (.slice none 0 0)) else κ.nm r,κ.imm⟩ (e9 new e sz) (.slice none 0 0):=by
 unfold e9 bM
 split
 ·exact ws hS hn e sz
 ·exact jB hS hn (e - 1000000) sz
theorem A2 (e sz:Nat)(env:List (Nat×AV))(sto:List (Nat×Blk))
  (henv:∀ (κ κ':Kap),Ext κ κ'→ARel κ' (e9 s.next e sz) (.slice none 0 0)→∀ (a:Act),(∀ i,ARel κ (s.E i) (a.tmps.getD i Go.undef))→∀ i,ARel κ' (look i env) (a.tmps.getD i Go.undef))
  (hsto:∀ (c:Ctx) (κ':Kap),(∀ r T f l,s.σ r = .cells T f l→r≠s.next)→ARel κ' (e9 s.next e sz) (.slice none 0 0)→SRel c κ' (ak.set s.σ s.next (bM e sz))→(∀ r,s.next<r→κ'.nm r=none)→SRel c κ' (fun r=>lookB r sto)):Wx s ⟨env,sto,s.next+1⟩:=by
 intro c κ0 κ N a w h
 obtain⟨h1,h2,h3⟩:=AS h.rel (h.fresh s.next (Nat.le_refl _)) e sz
 have hfr:∀ r,s.next<r→(if r=s.next then some (Den.own (Value.slice none 0 0)) else κ.nm r)=none:=by
  intro r hr
  rw[if_neg (by omega)]
  exact h.fresh r (by omega)
 exact⟨_,h1.ext,h.w_eq,h.ext0.trans h1.ext,hsto c _ (fun r T f l hr hn=>by
  have hB:=h.rel.blk r
  rw[hr] at hB
  rcases hB with ⟨_,_,h1⟩ | ⟨b,n,cs,h1,_⟩<;>(rw[hn,h.fresh s.next (Nat.le_refl _)] at h1;cases h1)) h3 h2 hfr,h1.left _ h.left,henv κ _ h1.ext h3 a h.env,h.size,h.defers.ext h1.ext,fun r hr=>hfr r hr⟩
theorem nL {v:Value}(h:ARel κ (.pv .nils) v):v = .slice none 0 0:=by cases aC h;rfl
theorem BO (k e sz:Nat)(s:St):Wx s (Ef k e sz s (look k s.env)):=by
 unfold Ef
 split
 ·rename_i hk
  refine A2 e sz _ _ (fun κ κ' he ho a henv i=>?_) (fun c κ' _ ho hS _=>?_)
  ·simp only[look]
   split
   ·rename_i hi
    subst hi
    have:=henv k
    rw[show s.E k=look k s.env from rfl,hk] at this
    rw[nL this]
    exact ho
   ·exact (henv i).ext he
  ·have:(fun r=>lookB r ((s.next,bM e sz)::s.sto))=ak.set s.σ s.next (bM e sz):=by
    funext r
    simp only[lookB,ak.set,St.σ]
    by_cases h:s.next=r
    ·simp[h]
    ·rw[if_neg h,if_neg (fun e=>h e.symm)]
   rw[this];exact hS
 ·exact Wx.refl s
theorem vM {κ:Kap}{r T:Nat}{f:Bool}{l:List AV}{o:Nat}{y:AV}(h:df κ r (.cells T f l))(hy:∀ v x,l[o]? = some x→ARel κ x v→ARel κ y v):df κ r (.cells T f (l.set o y)):=by
 rcases h with ⟨h1,h2,h3⟩ | ⟨b,n,cs,h1,h2,h3,h4,h7,h5,h6⟩
 ·exact .inl ⟨h1,by rw[h2];rfl,h3⟩
 refine .inr ⟨b,n,cs,h1,h2,h3,by simpa using h4,by simpa using h7,fun j x hx=>?_,h6⟩
 rw[List.getElem?_set] at hx
 split at hx
 ·rename_i hj
  subst hj
  split at hx
  ·rename_i hlt
   cases hx
   exact hy _ _ (List.getElem?_eq_getElem hlt) (h5 o _ (List.getElem?_eq_getElem hlt))
  ·cases hx
 ·exact h5 j x hx
theorem rI (r o e sz:Nat)(s:St):Wx s (Eg r o e sz s (lookB r s.sto)):=by
 unfold Eg
 split
 ·rename_i T f l hl
  unfold EP
  split
  ·rename_i ho
   refine A2 e sz _ _ (fun κ κ' he ho a henv i=>(henv i).ext he) (fun c κ' hcl hol hS hfr=>?_)
   have hr:=hcl r T f l hl
   have hB:=hS.blk r
   have hσr:ak.set s.σ s.next (bM e sz) r = .cells T f l:=by simp only[ak.set,hr,if_false];exact hl
   rw[hσr] at hB
   have hnew:(fun q=>lookB q ((r,Blk.cells T f (l.set o (e9 s.next e sz)))::(s.next,bM e sz)::s.sto))=ak.set (ak.set s.σ s.next (bM e sz)) r (.cells T f (l.set o (e9 s.next e sz))):=by
    funext q
    simp only[lookB,ak.set,St.σ]
    by_cases h:r=q
    ·rw[if_pos h,if_pos h.symm]
    ·have h1:¬ q=r:=fun e=>h e.symm
     rw[if_neg h,if_neg h1]
     by_cases h':s.next=q
     ·have h2:q=s.next:=h'.symm
      rw[if_pos h',if_pos h2]
     ·have h2:¬ q=s.next:=fun e=>h' e.symm
      rw[if_neg h',if_neg h2]
   rw[hnew]
   have hz:∀ q,(ak.set (ak.set s.σ s.next (bM e sz)) r (.cells T f (l.set o (e9 s.next e sz)))) q≠.none→(ak.set s.σ s.next (bM e sz)) q≠.none:=by
    intro q hq
    by_cases h:q=r
    ·subst h;rw[hσr];simp
    ·simpa[ak.set,h] using hq
   refine⟨fun q=>?_,fun q q' d d' b' h1 h2=>hS.apart q q' d d' b' (hz q h1) (hz q' h2),fun q d b' h1=>hS.mine q d b' (hz q h1),hS.immLt,hS.glob⟩
   by_cases h:q=r
   ·subst h
    simp only[ak.set,if_true]
    refine vM hB fun v x hx hv=>?_
    rw[ho] at hx;cases hx
    rw[nL hv];exact hol
   ·have:=hS.blk q
    simp only[ak.set,h,if_false] at this ⊢
    exact this
  ·exact Wx.refl s
 ·exact Wx.refl s
theorem BN (k o e sz:Nat)(s:St):Wx s (accP o e sz s (look k s.env)):=by
 unfold accP
 split
 ·exact rI _ _ _ _ s
 ·exact Wx.refl s
theorem BP (p:Nat×Nat×Nat×Nat)(s:St):Wx s (I5 p s):=by
 unfold I5
 split
 ·exact BO _ _ _ s
 ·exact BN _ _ _ _ s
theorem rH:∀ (l:List (Nat×Nat×Nat×Nat)) (s:St),Wx s (AR l s)
 | [],s=>Wx.refl s
 | p::r,s=>(BP p s).trans (rH r _)
inductive AVz:AV→AV→Prop
 | refl (x:AV):AVz x x
 | any (x:AV):AVz x .any
 | pv (p q:PV):Nz p q→AVz (.pv p) (.pv q)
 | olist (r sz:Nat) (l k:List PV):NzL l k→AVz (.olist r sz l) (.olist r sz k)
 | list (r sz:Nat) (l k:List PV):NzL l k→AVz (.olist r sz l) (.pv (.list k))
inductive AVzL:List AV→List AV→Prop
 | nil:AVzL [] []
 | cons (x y:AV) (r q:List AV):AVz x y→AVzL r q→AVzL (x::r) (y::q)
theorem AVz.rel {κ:Kap}{x y:AV}{v:Value}(h:AVz x y)(hr:ARel κ x v):ARel κ y v:=by
 cases h with
 | refl=>exact hr
 | any=>exact .any v
 | pv p q hq=>exact .pv _ _ ((aC hr).nz hq)
 | olist r sz l k hq=>
   cases hr with
   | olist _ _ _ _ hn hp hs=>
     refine .olist _ _ _ _ hn (hp.nz (.list _ _ hq)) fun y hy=>?_
     obtain⟨i,hi⟩:=List.getElem?_of_mem hy
     obtain⟨x,hx,hxy⟩:=hq.get i y hi
     rw[← hs x (List.mem_of_getElem? hx),hxy.cells.length]
 | list r sz l k hq=>
   cases hr with
   | olist _ _ _ _ hn hp hs=>exact .pv _ _ (hp.nz (.list _ _ hq))
theorem AVzL.length:∀ {l k:List AV},AVzL l k→l.length=k.length
 | [],_,h=>by cases h;rfl
 | x::r,_,h=>by cases h with | cons _ y _ q _ h2=>simp[AVzL.length h2]
theorem AVzL.get:∀ {l k:List AV},AVzL l k→∀ (i:Nat) (y:AV),k[i]? = some y→∃ x,l[i]? = some x∧AVz x y
 | [],_,h,i,y,hy=>by cases h;simp at hy
 | x::r,_,h,i,y,hy=>by
   cases h with
   | cons _ y' _ q h1 h2=>
     cases i with
     | zero=>simp at hy;subst hy;exact⟨x,rfl,h1⟩
     | succ i=>exact AVzL.get h2 i y (by simpa using hy)
inductive AVzP:List AV→List AV→Prop
 | nil (l:List AV):AVzP l []
 | cons (x y:AV) (r q:List AV):AVz x y→AVzP r q→AVzP (x::r) (y::q)
theorem AVzP.length:∀ {l k:List AV},AVzP l k→k.length≤l.length
 | _,[],_=>Nat.zero_le _
 | _,y::q,h=>by cases h with | cons x _ r _ _ h2=>simp;exact AVzP.length h2
theorem AVzP.get:∀ {l k:List AV},AVzP l k→∀ (i:Nat) (y:AV),k[i]? = some y→∃ x,l[i]? = some x∧AVz x y
 | _,[],h,i,y,hy=>by simp at hy
 | _,y'::q,h,i,y,hy=>by
   cases h with
   | cons x _ r _ h1 h2=>
     cases i with
     | zero=>simp at hy;subst hy;exact⟨x,rfl,h1⟩
     | succ i=>exact AVzP.get h2 i y (by simpa using hy)
theorem AVzP.of_l:∀ {l k:List AV},AVzL l k→AVzP l k
 | [],_,h=>by cases h;exact .nil _
 | x::r,_,h=>by cases h with | cons _ y _ q h1 h2=>exact .cons _ _ _ _ h1 (AVzP.of_l h2)
theorem AVzP.app:∀ (a b:List AV),AVzP (a++b) a
 | [],b=>.nil _
 | x::r,b=>.cons _ _ _ _ (.refl x) (AVzP.app r b)
inductive EnvZ:List (Nat×AV)→List (Nat×AV)→Prop
 | nil:EnvZ [] []
 | cons (k:Nat) (x y:AV) (r q:List (Nat×AV)):AVz x y→EnvZ r q→EnvZ ((k,x)::r) ((k,y)::q)
inductive BlkZ:Blk→Blk→Prop
 | refl (b:Blk):BlkZ b b
 | none (b:Blk):BlkZ b .none
 | cells (T:Nat) (f:Bool) (l k:List AV):AVzL l k→BlkZ (.cells T f l) (.cells T f k)
 | pre (T:Nat) (f:Bool) (l k:List AV):AVzP l k→BlkZ (.cells T f l) (.cells T false k)
inductive StoZ:List (Nat×Blk)→List (Nat×Blk)→Prop
 | nil:StoZ [] []
 | cons (k:Nat) (x y:Blk) (r q:List (Nat×Blk)):BlkZ x y→StoZ r q→StoZ ((k,x)::r) ((k,y)::q)
theorem EnvZ.look:∀ {e e':List (Nat×AV)},EnvZ e e'→∀ i,AVz (look i e) (look i e')
 | [],_,h,i=>by cases h;exact .refl _
 | (k,x)::r,_,h,i=>by
   cases h with
   | cons _ _ y _ q h1 h2=>
     simp only[Go.Ab.look]
     split
     ·exact h1
     ·exact EnvZ.look h2 i
theorem StoZ.look:∀ {e e':List (Nat×Blk)},StoZ e e'→∀ i,BlkZ (lookB i e) (lookB i e')
 | [],_,h,i=>by cases h;exact .refl _
 | (k,x)::r,_,h,i=>by
   cases h with
   | cons _ _ y _ q h1 h2=>
     simp only[Go.Ab.lookB]
     split
     ·exact h1
     ·exact StoZ.look h2 i
theorem BlkZ.rel {κ:Kap}{r:Nat}{b b':Blk}(h:BlkZ b b')(hb:df κ r b):df κ r b'∧(b'≠.none→b≠.none):=by
 cases h with
 | refl=>exact⟨hb,id⟩
 | none=>exact⟨trivial,fun h=>absurd rfl h⟩
 | cells T f l k hk=>
   have hlen:=hk.length
   rcases hb with ⟨h1,h2,h3⟩ | ⟨b,n,cs,h1,h2,h3,h4,h7,h5,h6⟩
   ·exact⟨.inl ⟨h1,List.eq_nil_of_length_eq_zero (by rw[← hlen,h2];rfl),h3⟩,fun _=>by simp⟩
   refine⟨.inr ⟨b,n,cs,h1,h2,h3,by omega,fun h=>by rw[← hlen];exact h7 h,fun o y hy=>?_,h6⟩,fun _=>by simp⟩
   obtain⟨x,hx,hxy⟩:=hk.get o y hy
   exact hxy.rel (h5 o x hx)
 | pre T f l k hk=>
   have hlen:=hk.length
   rcases hb with ⟨h1,h2,h3⟩ | ⟨b,n,cs,h1,h2,h3,h4,h7,h5,h6⟩
   ·exact⟨.inl ⟨rfl,List.eq_nil_of_length_eq_zero (by rw[h2] at hlen;simpa using hlen),h3⟩,fun _=>by simp⟩
   refine⟨.inr ⟨b,n,cs,h1,h2,h3,by omega,fun h=>(by cases h),fun o y hy=>?_,h6⟩,fun _=>by simp⟩
   obtain⟨x,hx,hxy⟩:=hk.get o y hy
   exact hxy.rel (h5 o x hx)
def StZ (s s':St):Prop:=EnvZ s.env s'.env∧StoZ s.sto s'.sto∧s.next=s'.next
theorem EnvZ.refl:∀ e:List (Nat×AV),EnvZ e e
 | []=>.nil
 | (k,x)::r=>.cons k x x r r (.refl x) (EnvZ.refl r)
theorem StoZ.refl:∀ e:List (Nat×Blk),StoZ e e
 | []=>.nil
 | (k,x)::r=>.cons k x x r r (.refl x) (StoZ.refl r)
theorem AVzL.refl:∀ e:List AV,AVzL e e
 | []=>.nil
 | x::r=>.cons x x r r (.refl x) (AVzL.refl r)
theorem StZ.wx {s t:St}(h:StZ s t):Wx s t:=by
 intro c κ0 κ N a w hR
 obtain⟨h1,h2,h3⟩:=h
 have hz:∀ r,t.σ r≠.none→s.σ r≠.none:=fun r hr=>((h2.look r).rel (hR.rel.blk r)).2 hr
 refine⟨κ,Ext.refl κ,hR.w_eq,hR.ext0,⟨fun r=>((h2.look r).rel (hR.rel.blk r)).1,fun r r' d d' b k1 k2=>hR.rel.apart r r' d d' b (hz r k1) (hz r' k2),fun r d b k1=>hR.rel.mine r d b (hz r k1),hR.rel.immLt,hR.rel.glob⟩,
  hR.left,fun i=>(h1.look i).rel (hR.env i),hR.size,hR.defers,fun r hr=>hR.fresh r (by omega)⟩
def cW (A:List (Nat×Nat×Nat×Nat))(m0:Nat)(keep:List Nat)(s:St):St:=norm m0 keep (AR A s)
theorem wY (A:List (Nat×Nat×Nat×Nat))(m0:Nat)(keep:List Nat)(s:St):Wk m0 s (cW A m0 keep s):=
 (Wk.of (rH A s) m0).trans (Wk.norm m0 keep _)
theorem Wk.head {A:List (Nat×Nat×Nat×Nat)}{m0:Nat}{keep:List Nat}{s t:St}(h:StZ (cW A m0 keep s) t):Wk m0 s t:=
 (wY A m0 keep s).trans (Wk.of h.wx m0)
theorem Au (x:AV):AVz x x=True:=eq_true (.refl x)
theorem GP (p q:PV):AVz (.pv p) (.pv q)=Nz p q:=propext ⟨fun h=>by cases h with | refl=>exact .refl _ | pv _ _ h=>exact h,.pv _ _⟩
theorem Av (r sz:Nat)(l k:List PV):AVz (.olist r sz l) (.pv (.list k))=NzL l k:=propext ⟨fun h=>by cases h with | list _ _ _ _ h=>exact h,.list _ _ _ _⟩
theorem Az:AVzL [] []=True:=eq_true .nil
theorem wh (x y:AV)(r q:List AV):AVzL (x::r) (y::q)=(AVz x y∧AVzL r q):=propext ⟨fun h=>by cases h with | cons _ _ _ _ h1 h2=>exact⟨h1,h2⟩,fun ⟨h1,h2⟩=>.cons _ _ _ _ h1 h2⟩
theorem Aj:EnvZ [] []=True:=eq_true .nil
theorem vo (k:Nat)(x y:AV)(r q:List (Nat×AV)):EnvZ ((k,x)::r) ((k,y)::q)=(AVz x y∧EnvZ r q):=propext ⟨fun h=>by cases h with | cons _ _ _ _ _ h1 h2=>exact⟨h1,h2⟩,fun ⟨h1,h2⟩=>.cons _ _ _ _ _ h1 h2⟩
theorem v8 (b:Blk):BlkZ b b=True:=eq_true (.refl b)
theorem GL (T:Nat)(l k:List AV):BlkZ (.cells T true l) (.cells T true k)=AVzL l k:=propext ⟨fun h=>by cases h with | refl=>exact AVzL.refl _ | cells _ _ _ _ h=>exact h,.cells _ _ _ _⟩
theorem GN (T:Nat)(f:Bool)(l k:List AV):BlkZ (.cells T f l) (.cells T false k)=AVzP l k:=propext ⟨fun h=>by
 cases h with
 | refl=>exact AVzP.of_l (AVzL.refl _)
 | cells _ _ _ _ h=>exact AVzP.of_l h
 | pre _ _ _ _ h=>exact h,.pre _ _ _ _⟩
theorem GM (b:Blk):BlkZ b .none=True:=eq_true (.none b)
theorem Ax (l:List AV):AVzP l []=True:=eq_true (.nil l)
theorem we (x y:AV)(r q:List AV):AVzP (x::r) (y::q)=(AVz x y∧AVzP r q):=propext ⟨fun h=>by cases h with | cons _ _ _ _ h1 h2=>exact⟨h1,h2⟩,fun ⟨h1,h2⟩=>.cons _ _ _ _ h1 h2⟩
theorem wd (l:List AV):AVzP l l=True:=eq_true (AVzP.of_l (AVzL.refl l))
theorem Ay (a b:List AV):AVzP (a++b) a=True:=eq_true (AVzP.app a b)
theorem wg (l:List AV):AVzL l l=True:=eq_true (AVzL.refl l)
theorem xB:StoZ [] []=True:=eq_true .nil
theorem sf (k:Nat)(x y:Blk)(r q:List (Nat×Blk)):StoZ ((k,x)::r) ((k,y)::q)=(BlkZ x y∧StoZ r q):=propext ⟨fun h=>by cases h with | cons _ _ _ _ _ h1 h2=>exact⟨h1,h2⟩,fun ⟨h1,h2⟩=>.cons _ _ _ _ _ h1 h2⟩
theorem E3 (e e':List (Nat×AV))(σ σ':List (Nat×Blk))(n n':Nat):StZ ⟨e,σ,n⟩ ⟨e',σ',n'⟩=(EnvZ e e'∧StoZ σ σ'∧n=n'):=_root_.id rfl
end
end Go.Ab
set_option linter.unusedVariables false
set_option linter.unusedSimpArgs false
namespace Go.Ab
open Go Go.RowKit
inductive ARes where
 | tmp (t:Nat)
 | cell (t:Nat) (g:Bool) (sz:Nat)
structure AFn where
 N:Nat
 res:List ARes
 body:ACode
def Fu (G:Nat→List PV)(s:St):ARes→Option AV
 | .tmp t=>some (s.E t)
 | .cell t g sz=>cQ G g sz s.σ (s.E t)
def dj (G:Nat→List PV)(s:St):List ARes→Option (List AV)
 | []=>some []
 | r::q=>match Fu G s r,dj G s q with
   | some a,some b=>some (a::b)
   | _,_=>none
def rr (l:List AV):AV:=
 match l with
 | [v]=>v
 | l=>km l
def Bj (R:AV→List (Nat×Blk)→Nat→Prop)(s:St)(l:List AV):Prop:=R (rr l) s.sto s.next
def FnK (G:Nat→List PV)(res:List ARes)(R:AV→List (Nat×Blk)→Nat→Prop):AExit→St→Prop
 | .norm,s=>aE (dj G s res) (Bj R s)
 | .ret,s=>aE (dj G s res) (Bj R s)
 | .exit _,_=>False
def IX (P:Program):ResultVar→Option ARes
 | .tmp t=>some (.tmp t)
 | .cell a t=>match fL P t,dC P t with
   | some g,some n=>some (.cell a g n)
   | _,_=>none
def vU (P:Program):List ResultVar→Option (List ARes)
 | []=>some []
 | r::q=>match IX P r,vU P q with
   | some a,some b=>some (a::b)
   | _,_=>none
def eU:List ARes→List Nat
 | []=>[]
 | .tmp t::r=>d6 (eU r) [t]
 | .cell t _ _::r=>d6 (eU r) [t]
def cFn (P:Program)(muts:List Nat)(f:Nat):Option AFn:=
 match P.funcs[f]? with
 | some fn=>match fn.body with
   | some c=>match vU P fn.results.toList with
     | some rs=>if bp P f=true then match aY P muts fn.ntmps (eU rs) c [] (eU rs) with
       | some (b,_)=>some ⟨fn.ntmps,rs,b⟩
       | none=>none
       else none
     | none=>none
   | none=>none
 | none=>none
def bZ (args:List AV):List (Nat×AV):=args.zipIdx.map fun p=>(p.2,p.1)
section
variable {P:Program}{G:Nat→List PV}
theorem gC:∀ (args:List AV) (k i:Nat),look i ((args.zipIdx k).map fun p=>(p.2,p.1))=if k≤i then (args[i - k]?).getD .any else .any
 | [],k,i=>by simp[look]
 | x::r,k,i=>by
   rw[List.zipIdx_cons,List.map_cons,look]
   simp only
   by_cases h:k=i
   ·subst h;simp
   ·rw[if_neg h,gC r (k+1) i]
    by_cases hk:k≤i
    ·rw[if_pos (by omega),if_pos hk,show i - k=(i - (k+1))+1 by omega];simp
    ·rw[if_neg (by omega),if_neg hk]
def nA (tmps:Array Value):ResultVar→Sem Value
 | .tmp t=>pure (tmps.getD t Go.undef)
 | .cell x t=>do loadVar t (← asAddr (tmps.getD x Go.undef))
theorem iv (fn:Func)(tmps:Array Value):results fn tmps=(do let vs ← fn.results.mapM (nA tmps);pure (if h:vs.size=1 then vs[0] else .tuple vs)):=by
 unfold results
 congr 1
theorem gh {c:Ctx}{κ0 κ:Kap}{N:Nat}{s:St}{a:Act}{w:World}(hR:Rel c κ0 N s a w κ):∀ (rv:List ResultVar) (rs:List ARes) (vs:List AV),vU P rv=some rs→dj c.G s rs=some vs →
  ∃ us:List Value,(rv.mapM (nA a.tmps)).run P w = .ok us w∧us.length=vs.length∧∀ (i:Nat) (x:AV),vs[i]? = some x→ARel κ x (us.getD i Go.undef)
 | [],rs,vs,h1,h2=>by
   simp[vU] at h1;subst h1
   simp[dj] at h2;subst h2
   exact⟨[],by simp,rfl,by simp⟩
 | r::q,rs,vs,h1,h2=>by
   simp only[vU] at h1
   split at h1
   ·rename_i ra rb hra hrb
    cases h1
    simp only[dj] at h2
    split at h2
    ·rename_i va vb hva hvb
     cases h2
     obtain⟨us,k1,k2,k3⟩:=gh hR q rb vb hrb hvb
     have hw:=hR.w_eq
     subst hw
     have hone:∃ u,(nA a.tmps r).run P κ.w = .ok u κ.w∧ARel κ va u:=by
      cases r with
      | tmp t=>
        simp only[IX,Option.some.injEq] at hra
        subst hra
        simp only[Fu,Option.some.injEq] at hva
        subst hva
        exact⟨_,rfl,hR.env t⟩
      | cell x t=>
        simp only[IX] at hra
        split at hra
        ·rename_i g n hg hn
         cases hra
         simp only[Fu] at hva
         have hx:=hR.env x
         obtain⟨z,h3,h4⟩:=sn (P:=P) hR.rel hg hn hx hva
         refine⟨z,?_,h4⟩
         obtain⟨y,hy⟩:∃ y,a.tmps.getD x Go.undef=y:=⟨_,rfl⟩
         rw[hy] at hx h3
         simp only[Instr.loadAt,Sem.run_bind] at h3
         have hp:∃ ad,y = .pointer (some ad):=by
          unfold cQ at hva
          split at hva
          ·rename_i he
           rw[he] at hx;cases hx;exact⟨_,rfl⟩
          ·rename_i he
           rw[he] at hx;cases aC hx;exact⟨_,rfl⟩
          ·rename_i he
           rw[he] at hx;cases aC hx;exact⟨_,rfl⟩
          ·cases hva
         obtain⟨ad,rfl⟩:=hp
         simp only[nA]
         rw[hy]
         simpa[asAddr,Instr.sureAddr] using h3
        ·cases hra
     obtain⟨u,h5,h6⟩:=hone
     refine⟨u::us,?_,by simp[k2],fun i x hx=>?_⟩
     ·rw[List.mapM_cons,Sem.run_bind,h5]
      simp only[Result.andThen_ok,Sem.run_bind,k1,Sem.run_pure]
     ·cases i with
      | zero=>simp only[List.getElem?_cons_zero,Option.some.injEq] at hx;subst hx;simpa using h6
      | succ i=>simpa using k3 i x (by simpa using hx)
    ·cases h2
   ·cases h1
theorem eE {P:Program}{c:Ctx}{κ0 κ:Kap}{N:Nat}{s:St}{a:Act}{w:World}{fn:Func}{R:Ending→World→Prop}(hk:κ0.w.heap.size≤c.w0.heap.size)(hc:c.rnd=false)(hR:Rel c κ0 N s a w κ)
  (h:∀ w' κ',Rel c κ0 N s ⟨a.tmps,[]⟩ w' κ'→∃ v,(results fn a.tmps).run P w' = .ok v w'∧R (.returned v) w'):LeavesInM Fence.wide 0 P fn a.tmps R a.defers .returning w:=by
 have key:∀ (Ds:List Nat) (w:World) (κ:Kap),Ds.Nodup→(∀ D∈Ds,c.w0.heap.size≤D∧w.heap[D]? = some (.deferred (some [])))→Rel c κ0 N s ⟨a.tmps,[]⟩ w κ→LeavesInM Fence.wide 0 P fn a.tmps R (Ds.map Bq) .returning w:=by
  intro Ds
  induction Ds with
  | nil=>intro w κ _ _ hR;exact h w κ hR
  | cons D Ds ih=>
    intro w κ hn hD hR
    obtain⟨h1,h2⟩:=hD D (by simp)
    obtain⟨n1,n2⟩:=List.nodup_cons.1 hn
    refine⟨by simp,.inl ⟨D,_,rfl,run_takeDeferred h2,ih _ _ n2 (fun E hE=>?_) (hR.putObj hk (.deferred none) h2 rfl h1 (ci.nil _ _))⟩⟩
    obtain⟨q1,q2⟩:=hD E (by simp[hE])
    exact⟨q1,(World.putObj_heap_other (by rintro rfl;exact n1 hE)).trans q2⟩
 rcases hR.defers with hm | ⟨Ds,m1,m2,m3⟩
 ·rw[hc] at hm;cases hm
 ·have hw:=hR.w_eq
  rw[m1]
  exact key Ds w κ m2 (fun D hD=>by rw[← hw];exact m3 D hD) ⟨hR.w_eq,hR.ext0,hR.rel,hR.left,hR.env,hR.size,ci.nil _ _,hR.fresh⟩
theorem bz.of_code {muts:List Nat}{f:Nat}{fn:AFn}{args:List AV}{sto:List (Nat×Blk)}{next:Nat}{R:AV→List (Nat×Blk)→Nat→Prop}(hc:cFn P muts f=some fn)(hn:args.length≤fn.N)
  (hv:∀ (c:Ctx) (κ:Kap) (N:Nat) (a:Act) (w:World) (co:Code) (rl li:List Nat),c.G=G→κ.w.heap.size≤c.w0.heap.size→(∀ r,next≤r→κ.nm r=none)→aY P muts N rl co [] rl=some (fn.body,li)→Rel c κ N ⟨bZ args,sto,next⟩ a w κ →
   co.wpIn (FR none) 0 P (lift c κ N (FnK G fn.res R)) a w):bz P G f args sto next R:=by
 unfold cFn at hc
 split at hc
 ·rename_i fnc hfn
  split at hc
  ·rename_i co hco
   split at hc
   ·rename_i rs hrs
    split at hc
    ·rename_i hok
     split at hc
     ·rename_i b li hb
      cases hc
      refine⟨hok,fun κ vals hS hf hsz hargs=>?_⟩
      refine callsIn_wide.1 (callsIn_of_wp_marks (n:=0) hfn hco trivial ?_ rfl)
      let c:=bx κ (fun r=>lookB r sto) G
      have hsize:(vals++Array.replicate (fnc.ntmps - vals.size) Go.undef).size=fnc.ntmps:=by
       simp only at hn
       simp only[Array.size_append,Array.size_replicate];omega
      have hR:Rel c κ fnc.ntmps ⟨bZ args,sto,next⟩ ⟨vals++Array.replicate (fnc.ntmps - vals.size) Go.undef,[]⟩ κ.w κ:=by
       refine⟨rfl,Ext.refl κ,hS,⟨rfl,rfl,rfl,Nat.le_refl _,fun _ _ _=>rfl,fun _ _ h=>.inl h⟩,fun i=>?_,hsize,ci.nil _ _,hf⟩
       show ARel κ (look i ((args.zipIdx 0).map fun p=>(p.2,p.1))) _
       rw[gC,if_pos (Nat.zero_le _),Nat.sub_zero]
       cases hx:args[i]? with
       | none=>exact .any _
       | some x=>
         have hi:i<vals.size:=by rw[hsz];exact (List.getElem?_eq_some_iff.1 hx).1
         have:=hargs i x hx
         have e:(vals++Array.replicate (fnc.ntmps - vals.size) Go.undef).getD i Go.undef=vals.getD i Go.undef:=by
          simp only[Array.getD_eq_getD_getElem?]
          rw[Array.getElem?_append_left hi]
         rw[e];exact this
      refine Go.wpIn_mono (hv c κ fnc.ntmps _ κ.w co (eU rs) li rfl (Nat.le_refl _) hf hb hR) ?_
      have fin:∀ (s:St) (κ':Kap) (a:Act) (w:World),Rel c κ fnc.ntmps s a w κ'→aE (dj G s rs) (Bj R s)→∃ v,(results fnc a.tmps).run P w = .ok v w ∧
        ∃ u v' κ'' sto' next',Ending.returned v = .returned u∧κ''.w=w∧Ext κ κ''∧Left c κ.imm κ''∧ARel κ'' v' u∧SRel c κ'' (fun r=>lookB r sto')∧(∀ r,next'≤r→κ''.nm r=none)∧R v' sto' next':=by
       intro s κ' a w hR hF
       simp only[aE] at hF
       split at hF
       ·rename_i vs hvs
        obtain⟨us,h1,h2,h3⟩:=gh (P:=P) hR fnc.results.toList rs vs hrs hvs
        have hrun:(results fnc a.tmps).run P w = .ok (if h:us.toArray.size=1 then us.toArray[0] else .tuple us.toArray) w:=by
         rw[iv,Sem.run_bind,Array.mapM_eq_mapM_toList]
         simp only[Sem.run_bind,Sem.run_map]
         rw[h1]
         simp
        refine⟨_,hrun,_,rr vs,κ',s.sto,s.next,rfl,hR.w_eq,hR.ext0,hR.left,?_,hR.rel,hR.fresh,hF⟩
        by_cases hl:vs.length=1
        ·obtain⟨v,rfl⟩:=List.length_eq_one_iff.1 hl
         obtain⟨u,rfl⟩:=List.length_eq_one_iff.1 (h2.trans hl)
         have:=h3 0 v rfl
         exact this
        ·have hul:¬ us.toArray.size=1:=by simpa[h2] using hl
         rw[dif_neg hul]
         have hrv:rr vs=km vs:=by
          unfold rr
          split
          ·simp at hl
          ·rfl
         rw[hrv]
         exact kj (.tup _ _ (by simpa using h2) (fun i x hx=>by rw[ap];simpa using h3 i x hx))
       ·exact hF.elim
      intro e a w hq
      cases e with
      | normal=>
        obtain⟨s,κ',hR,hF⟩:=hq
        exact eE (Nat.le_refl _) rfl hR fun w' κ'' hR'=>fin s κ'' ⟨a.tmps,[]⟩ w' hR' hF
      | ret=>
        obtain⟨s,κ',hR,hF⟩:=hq
        exact eE (Nat.le_refl _) rfl hR fun w' κ'' hR'=>fin s κ'' ⟨a.tmps,[]⟩ w' hR' hF
      | exit id=>
        obtain⟨s,κ',hR,hF⟩:=hq
        exact hF.elim
      | goto l=>exact hq.elim
      | panic ch=>exact hq.elim
      | outgrown=>exact hq.elim
     ·cases hc
    ·cases hc
   ·cases hc
  ·cases hc
 ·cases hc
theorem bz.intro {muts:List Nat}{f:Nat}{fn:AFn}{args:List AV}{sto:List (Nat×Blk)}{next:Nat}{R:AV→List (Nat×Blk)→Nat→Prop}(hc:cFn P muts f=some fn)(hn:args.length≤fn.N)
  (hv:vc P G next fn.body (FnK G fn.res R) ⟨bZ args,sto,next⟩):bz P G f args sto next R:=
 bz.of_code hc hn fun c κ N a w co rl li hG hk hf hb hR=>nr (P:=P) (N:=N) co c κ next none 0 fn.body [] rl li (FnK G fn.res R) _ a w κ (.inl rfl) hf hk hb hR (by rw[hG];exact hv)
def isR (r:PV)(σ:List (Nat×Blk))(v:AV):Prop:=∃ q,mR (fun r=>lookB r σ) v=some q∧Nz q.1 r
theorem aq.of_tcalls {f:Nat}{args:List PV}{r:PV}(h:bz P G f (args.map .pv) [] 0 fun v σ _=>isR r σ v):aq P G f args r:=by
 obtain⟨hcal,h⟩:=h
 refine⟨hcal,fun w imm vals hG hlt hsz hargs=>?_⟩
 have hl:(fun r=>lookB r ([]:List (Nat×Blk)))=fun _=>Blk.none:=by funext r;rfl
 refine (h ⟨w,fun _=>none,imm⟩ vals ?_ (fun _ _=>rfl) (by simpa using hsz) (fun i x hx=>?_)).mono ?_
 ·refine⟨fun r=>trivial,fun r r' d d' b h1=>absurd rfl h1,fun r d b h1=>absurd rfl h1,hlt,hG.1,fun g hg=>?_⟩
  obtain⟨cs,T,fz,h1,h2⟩:=hG.2 g hg
  refine⟨(Array.getElem?_eq_some_iff.1 h1).1,?_,cs,T,fz,h1,h2⟩
  rintro⟨r,d,h1,_⟩
  exact h1 rfl
 ·simp only[List.getElem?_map,Option.map_eq_some_iff] at hx
  obtain⟨q,hq,rfl⟩:=hx
  exact .pv _ _ (hargs i q hq)
 ·rintro e w' ⟨u,v,κ',sto',next',rfl,rfl,he,hL,hv,hS,hf,q,hq,hqr⟩
  have hlent:∀ b,¬ (bx ⟨w,fun _=>none,imm⟩ (fun r=>lookB r ([]:List (Nat×Blk))) G).lent b:=by
   rintro b ⟨r,d,h1,_⟩
   exact h1 rfl
  obtain⟨h1,h2⟩:=nY hS hv hq
  obtain⟨h3,h4⟩:=nX hS q.2 h1 next'
  have hL':=h3.left _ hL
  refine⟨u,(zZ κ' (fun r=>lookB r sto') q.2).imm,rfl,⟨hL.os,hL.tape,hL.output,hL.size,fun k hk=>hL.block k hk (hlent k)⟩,fun b o hi=>h3.ext.imm _ _ (he.imm _ _ hi),fun b o hi=>?_,h4.immLt,h2.nz hqr⟩
  rcases hL'.imm b o hi with h1 | h1 | h1
  ·exact .inl h1
  ·exact .inr h1
  ·exact absurd h1 (hlent b)
def FC (r:PV)(v:AV)(σ:List (Nat×Blk))(_:Nat):Prop:=isR r σ v
theorem FV {r:PV}{σ:List (Nat×Blk)}{v:AV}(h:v.toPV=some r):isR r σ v:=by
 cases v with
 | pv p=>simp only[AV.toPV,Option.some.injEq] at h;subst h;exact⟨(p,[]),rfl,.refl p⟩
 | olist a b l=>simp only[AV.toPV,Option.some.injEq] at h;subst h;exact⟨(.list l,[]),rfl,.refl _⟩
 | _=>simp[AV.toPV] at h
theorem aq.intro {muts:List Nat}{f:Nat}{fn:AFn}{args:List PV}{r:PV}(hc:cFn P muts f=some fn)(hn:args.length≤fn.N)
  (hv:vc P G 0 fn.body (FnK G fn.res (FC r)) ⟨bZ (args.map .pv),[],0⟩):aq P G f args r:=
 aq.of_tcalls (bz.intro hc (by simpa using hn) hv)
theorem aq.nz {f:Nat}{qs ps:List PV}{r:PV}(h:aq P G f ps r)(hz:NzL qs ps):aq P G f qs r:=by
 obtain⟨h1,h2⟩:=h
 refine⟨h1,fun w imm vals hG hlt hsz hargs=>h2 w imm vals hG hlt (by rw[hsz,hz.length]) fun i x hx=>?_⟩
 obtain⟨y,hy,hyx⟩:=hz.get i x hx
 exact (hargs i y hy).nz hyx
theorem ae.pure {f:Nat}{args:List AV}{ps:List PV}{r:PV}{s:St}{K:AV→St→Prop}(h:aq P G f ps r)(he:pvs args=some ps)(hk:K (.pv r) s):ae P G f args s K:=
 ⟨s,args,WkC.refl s args,.inl ⟨ps,r,he,h,hk⟩⟩
theorem ae.lent {f:Nat}{args:List AV}{s:St}{K:AV→St→Prop}{Q:AV→List (Nat×Blk)→Nat→Prop}(h:bz P G f args s.sto s.next Q)(hk:∀ v sto' next',Q v sto' next'→K v ⟨s.env,sto',next'⟩):ae P G f args s K:=
 ⟨s,args,WkC.refl s args,.inr ⟨Q,h,hk⟩⟩
theorem C4.intro {body:(AExit→St→Prop)→St→Prop}{m0:Nat}{keep:List Nat}{Q:AExit→St→Prop}{s:St}(I:Nat→St→Prop)(n:Nat)(h0:I n (norm m0 keep s))(h:∀ n s,I n s→body (GV m0 I n Q) s):C4 body m0 keep Q s:=
 ⟨I,⟨n,_,Wk.norm m0 keep s,h0⟩,h⟩
end
end Go.Ab
set_option linter.unusedVariables false
set_option linter.unusedSimpArgs false
namespace Go.Ab
open Go Go.RowKit
section
variable {P:Program}{G:Nat→List PV}
theorem aZ {α:Type}{x:Option α}{k k':α→Prop}(h:∀ a,k a→k' a)(hx:aE x k):aE x k':=by
 cases x with
 | none=>exact hx
 | some a=>exact h a hx
theorem ae.mono {f:Nat}{args:List AV}{s:St}{K K':AV→St→Prop}(h:∀ v s,K v s→K' v s)(hA:ae P G f args s K):ae P G f args s K':=by
 obtain⟨s',args',hw,⟨ps,r,h1,h2,h3⟩ | ⟨Q,h1,h2⟩⟩:=hA
 ·exact⟨s',args',hw,.inl ⟨ps,r,h1,h2,h _ _ h3⟩⟩
 ·exact⟨s',args',hw,.inr ⟨Q,h1,fun v sto n hq=>h _ _ (h2 v sto n hq)⟩⟩
theorem vz {F F':St→Prop}(h:∀ s,F s→F' s){s:St}{d:Option Nat}{o:AOp}(hx:g9 P G F s d o):g9 P G F' s d o:=by
 cases o with
 | t o=>
   simp only[g9,e7] at hx ⊢
   split
   ·rename_i v hv
    rw[hv] at hx;exact h _ hx
   ·rename_i hv
    rw[hv] at hx
    exact⟨hx.1,fun b=>h _ (hx.2 b)⟩
 | m o=>exact aZ (fun v hv=>h _ hv) hx
 | fz g x=>exact aZ (fun v hv=>h _ hv) hx
 | call f xs=>exact aZ (fun p hp=>ae.mono (fun v s hv=>h _ hv) hp) hx
theorem vC {F F':St→Prop}(h:∀ s,F s→F' s){s:St}{d:Option Nat}{o:AOp}{b:Bool}(hx:By P G F s d o b):By P G F' s d o b:=by
 cases b with
 | true=>exact vz h hx
 | false=>exact h _ hx
theorem eR {F F':St→Prop}(h:∀ s,F s→F' s):∀ (l:List AOper) (s:St),cj P G l F s→cj P G l F' s
 | [],s,hx=>h s hx
 | o::r,s,hx=>aZ (fun b hb=>vC (fun s hs=>eR h r s hs) hb) hx
theorem m9 {F F':List (List Nat×List Nat)→St→Prop}(h:∀ T s,F T s→F' T s){T:List (List Nat×List Nat)}{s:St}{d:Option Nat}{args:List AV}{p:Nat×List AV×List AV}(hx:iM P G F T s d args p):iM P G F' T s d args p:=by
 unfold iM GC at hx ⊢
 rcases hx with ⟨ps,r,h1,h2,h3⟩ | ⟨v,δ,top,h1,h2,h3⟩
 ·exact .inl ⟨ps,r,h1,h2,h _ _ h3⟩
 ·exact .inr ⟨v,δ,top,h1,h2,h _ _ h3⟩
theorem qE {F F':List (List Nat×List Nat)→St→Prop}(h:∀ T s,F T s→F' T s){T:List (List Nat×List Nat)}{s:St}{d:Option Nat}{o:AOp}(hx:eK P G F T s d o):eK P G F' T s d o:=by
 cases o with
 | t o=>exact aZ (fun v hv=>h _ _ hv) hx
 | m o=>exact aZ (fun v hv=>h _ _ hv) hx
 | fz g x=>exact hx
 | call f xs=>exact aZ (fun p hp=>m9 h hp) hx
theorem iQ {A:List (List Nat)}{F F':St→Prop}(h:∀ s,F s→F' s):∀ (l:List AOper) (T:List (List Nat×List Nat)) (s:St),vcD P G A F l T s→vcD P G A F' l T s
 | [],T,s,hx=>⟨hx.1,h s hx.2⟩
 | o::r,T,s,hx=>by
   refine aZ (fun b hb=>?_) hx
   cases b with
   | true=>exact qE (fun T s hs=>iQ h r T s hs) hb
   | false=>exact iQ h r _ _ hb
theorem bI:∀ {m0:Nat} (c:ACode) {Q Q':AExit→St→Prop} (h:∀ e s,Q e s→Q' e s) (s:St),vc P G m0 c Q s→vc P G m0 c Q' s
 | m0,.skip,Q,Q',h,s,hx=>h _ _ hx
 | m0,.ops l keep,Q,Q',h,s,hx=>eR (fun s hs=>h _ _ hs) l s hx
 | m0,.draw A l l2 keep,Q,Q',h,s,hx=>iQ (fun s hs=>eR (fun s hs=>h _ _ hs) l2 s hs) l [] s hx
 | m0,.seq a b,Q,Q',h,s,hx=>bI a (fun e s hs=>by
   cases e with
   | norm=>exact bI b h s hs
   | exit i=>exact h _ _ hs
   | ret=>exact h _ _ hs) s hx
 | m0,.cond x a b,Q,Q',h,s,hx=>by
   simp only[vc] at hx ⊢
   unfold kg at hx ⊢
   split at hx
   ·exact bI a h s hx
   ·exact bI b h s hx
   ·exact hx
 | m0,.block id b,Q,Q',h,s,hx=>bI b (fun e s hs=>by
   cases e with
   | norm=>exact h _ _ hs
   | exit i=>
     simp only[dZ] at hs ⊢
     split at hs
     ·rename_i hi;rw[if_pos hi];exact h _ _ hs
     ·rename_i hi;rw[if_neg hi];exact h _ _ hs
   | ret=>exact h _ _ hs) s hx
 | m0,.loop keep b,Q,Q',h,s,hx=>by
   obtain⟨I,h0,h1⟩:=hx
   refine⟨I,h0,fun n s hs=>bI b (fun e s hs=>?_) s (h1 n s hs)⟩
   cases e with
   | norm=>exact hs
   | exit i=>
     obtain⟨s',hw,hq⟩:=hs
     exact⟨s',hw,h _ _ hq⟩
   | ret=>exact h _ _ hs
 | m0,.range f ps keep a b,Q,Q',h,s,hx=>by
   obtain⟨I,s0,h1,h2,h3⟩:=hx
   refine⟨I,s0,h1,h2,aZ (fun p hp=>?_) h3⟩
   obtain⟨q1,lb,xs,q2,q3,q4,q5⟩:=hp
   refine⟨q1,lb,xs,q2,q3,fun i x s' hx hI=>?_,fun s' hI=>h _ _ (q5 s' hI)⟩
   obtain⟨r1,r2⟩:=q4 i x s' hx hI
   refine⟨r1,bI a (fun e s hs=>?_) _ r2⟩
   cases e with
   | norm=>
     refine bI b (fun e s hs=>?_) s hs
     cases e with
     | norm=>exact hs
     | exit i=>exact h _ _ hs
     | ret=>exact h _ _ hs
   | exit i=>exact hs.elim
   | ret=>exact hs.elim
 | m0,.exit id,Q,Q',h,s,hx=>h _ _ hx
 | m0,.ret,Q,Q',h,s,hx=>h _ _ hx
end
end Go.Ab
set_option linter.unusedVariables false
set_option linter.unusedSimpArgs false
namespace Go.Ab
open Go Go.RowKit
theorem wW {n:Int}(h1:-9223372036854775808≤n)(h2:n≤9223372036854775807):IntKind.i64.wrap n=n:=by
 show (if (true&&decide (n % 18446744073709551616≥9223372036854775808))=true then n % 18446744073709551616 - 18446744073709551616 else n % 18446744073709551616)=n
 simp only[Bool.true_and,decide_eq_true_eq]
 split<;>omega
theorem wX {n:Int}(h1:-2147483648≤n)(h2:n≤2147483647):IntKind.i32.wrap n=n:=by
 show (if (true&&decide (n % 4294967296≥2147483648))=true then n % 4294967296 - 4294967296 else n % 4294967296)=n
 simp only[Bool.true_and,decide_eq_true_eq]
 split<;>omega
theorem BQ {n:Int}(h1:0≤n)(h2:n≤255):IntKind.u8.wrap n=n:=by
 show (if (false&&decide (n % 256≥128))=true then n % 256 - 256 else n % 256)=n
 simp only[Bool.false_and]
 simp;omega
theorem wU {n:Int}(h1:0≤n)(h2:n≤18446744073709551615):IntKind.u64.wrap n=n:=by
 show (if (false&&decide (n % 18446744073709551616≥9223372036854775808))=true then n % 18446744073709551616 - 18446744073709551616 else n % 18446744073709551616)=n
 simp only[Bool.false_and]
 simp;omega
theorem wV {n:Int}(h1:0≤n)(h2:n≤4294967295):IntKind.u32.wrap n=n:=by
 show (if (false&&decide (n % 4294967296≥2147483648))=true then n % 4294967296 - 4294967296 else n % 4294967296)=n
 simp only[Bool.false_and]
 simp;omega
theorem IJ {a b:Int}(h:a<b):decide (a<b)=true:=decide_eq_true h
theorem IK {a b:Int}(h:¬ a<b):decide (a<b)=false:=decide_eq_false h
theorem IL {a b:Int}(h:a≤b):decide (a≤b)=true:=decide_eq_true h
theorem IM {a b:Int}(h:¬ a≤b):decide (a≤b)=false:=decide_eq_false h
theorem IO {a b:Int}(h:a=b):decide (a=b)=true:=decide_eq_true h
theorem IP {a b:Int}(h:¬ a=b):decide (a=b)=false:=decide_eq_false h
def Chk (b:Bool):Prop:=b=true
theorem DO:Chk true:=_root_.id rfl
theorem uk (i k:Nat)(x:AV)(r:List (Nat×AV)):look i ((k,x)::r)=if k=i then x else look i r:=_root_.id rfl
theorem zq (i:Nat):look i [] = .any:=_root_.id rfl
theorem qa (i k:Nat)(x:Blk)(r:List (Nat×Blk)):lookB i ((k,x)::r)=if k=i then x else lookB i r:=_root_.id rfl
theorem ul (i:Nat):lookB i [] = .none:=_root_.id rfl
def evE (e:List (Nat×AV)):AX→AV
 | .t i=>look i e
 | .c p=>.pv p
 | .m i tb=>EL tb (look i e)
theorem IE (e:List (Nat×AV))(i:Nat)(tb:List (Nat×Nat)):evE e (.m i tb)=EL tb (look i e):=_root_.id rfl
theorem p6 (tb:List (Nat×Nat))(T:Nat)(p:PV):EL tb (.pv (.iface T p))=uj p (gD T tb):=_root_.id rfl
theorem p8 (t a b:Nat)(r:List (Nat×Nat)):gD t ((a,b)::r)=if a=t then some b else gD t r:=_root_.id rfl
theorem p7 (p:PV)(f:Nat):uj p (some f) = .clo f [.pv p] []:=_root_.id rfl
theorem ID (e:List (Nat×AV))(i:Nat):evE e (.t i)=look i e:=_root_.id rfl
theorem IF (e:List (Nat×AV))(p:PV):evE e (.c p) = .pv p:=_root_.id rfl
def evO (e:List (Nat×AV)):Option AX→Option AV
 | some x=>some (evE e x)
 | none=>none
theorem Ac (e:List (Nat×AV))(x:AX):evO e (some x)=some (evE e x):=_root_.id rfl
theorem Ad (e:List (Nat×AV)):evO e none=none:=_root_.id rfl
def evL (e:List (Nat×AV)):List AX→List AV
 | []=>[]
 | x::r=>evE e x::evL e r
theorem DC (e:List (Nat×AV)):evL e []=[]:=_root_.id rfl
theorem Ae (e:List (Nat×AV))(x:AX)(r:List AX):evL e (x::r)=evE e x::evL e r:=_root_.id rfl
theorem fJ (e:List (Nat×AV))(σ:List (Nat×Blk))(n:Nat)(x:AX):x.ev (St.E ⟨e,σ,n⟩)=evE e x:=by cases x<;>rfl
theorem vh (e:List (Nat×AV))(σ:List (Nat×Blk))(n:Nat):∀ (l:List AX),l.map (·.ev (St.E ⟨e,σ,n⟩))=evL e l
 | []=>rfl
 | x::r=>by rw[List.map_cons,vh e σ n r,fJ];rfl
def evP (e:List (Nat×AV)):List (Nat×Nat×AX)→List (Nat×Nat×AV)
 | []=>[]
 | (a,b,x)::r=>(a,b,evE e x)::evP e r
theorem DB (e:List (Nat×AV)):evP e []=[]:=_root_.id rfl
theorem Aa (e:List (Nat×AV))(a b:Nat)(x:AX)(r:List (Nat×Nat×AX)):evP e ((a,b,x)::r)=(a,b,evE e x)::evP e r:=_root_.id rfl
def dP (e:List (Nat×AV)):TOp→Option AV
 | .mv x=>some (evE e x)
 | .pick c a b=>lZ (evE e c) (evE e a) (evE e b)
 | .build zs ps=>(el (zs.map .pv) (evP e ps)).map fH
 | .faddr off x=>fu off (evE e x)
 | .field g sz off x=>go g sz off (evE e x)
 | .iaddr sz x i=>ez sz (evE e x) (evE e i)
 | .iaddrA n sz x i=>eW n sz (evE e x) (evE e i)
 | .index x i=>ey (evE e x) (evE e i)
 | .indexA g n sz x i=>gn g n sz (evE e x) (evE e i)
 | .len st x=>wK st (evE e x)
 | .lenC n=>some (.pv (.int .i64 n))
 | .imin x y=>Cz (evE e x) (evE e y)
 | .imax x y=>CA (evE e x) (evE e y)
 | .sliceL sz x lo hi=>bU sz (evE e x) (evO e lo) (evO e hi)
 | .sliceS x lo hi=>ea (evE e x) (evO e lo) (evO e hi)
 | .bin op x y=>ck op (evE e x) (evE e y)
 | .beq kd ng x y=>(mh kd (evE e x) (evE e y)).map fun b=>.pv (.bool (if ng then !b else b))
 | .neg x=>EK (evE e x)
 | .not x=>EJ (evE e x)
 | .compl x=>j6 (evE e x)
 | .conv k x=>pi k (evE e x)
 | .convS x=>iw (evE e x)
 | .convIS x=>eX (evE e x)
 | .beqS ng ks x y=>(mg ks (evE e x) (evE e y)).map fun b=>.pv (.bool (if ng then !b else b))
 | .clo f fs cs=>some (my f (evL e fs) (evL e cs))
 | .ext x i=>CD i (evE e x)
 | .nilck x=>wJ (evE e x)
theorem DD (e:List (Nat×AV)):∀ (l:List AX),l.map (fun x=>evE e x)=evL e l
 | []=>rfl
 | x::r=>by rw[List.map_cons,DD e r];rfl
theorem Ge (e:List (Nat×AV))(l:Option AX):l.map (fun x=>evE e x)=evO e l:=by cases l<;>rfl
theorem Gd (e:List (Nat×AV)):∀ (l:List (Nat×Nat×AX)),(l.map fun p=>(p.1,p.2.1,evE e p.2.2))=evP e l
 | []=>rfl
 | (a,b,x)::r=>by rw[List.map_cons,Gd e r];rfl
theorem r6 (e:List (Nat×AV))(σ:List (Nat×Blk))(n:Nat)(o:TOp):o.run (St.E ⟨e,σ,n⟩)=dP e o:=by
 cases o<;>simp only[TOp.run,dP,fJ,DD,Ge,Gd]
theorem B2 (e:List (Nat×AV))(x:AX):dP e (.mv x)=some (evE e x):=_root_.id rfl
theorem rZ (e:List (Nat×AV))(c a b:AX):dP e (.pick c a b)=lZ (evE e c) (evE e a) (evE e b):=_root_.id rfl
theorem oS (e:List (Nat×AV))(zs:List PV)(ps:List (Nat×Nat×AX)):dP e (.build zs ps)=(el (zs.map .pv) (evP e ps)).map fH:=_root_.id rfl
theorem oP (e:List (Nat×AV))(off:Nat)(x:AX):dP e (.faddr off x)=fu off (evE e x):=_root_.id rfl
theorem oO (e:List (Nat×AV))(g:Bool)(sz off:Nat)(x:AX):dP e (.field g sz off x)=go g sz off (evE e x):=_root_.id rfl
theorem oN (e:List (Nat×AV))(sz:Nat)(x i:AX):dP e (.iaddr sz x i)=ez sz (evE e x) (evE e i):=_root_.id rfl
theorem lQ (e:List (Nat×AV))(n sz:Nat)(x i:AX):dP e (.iaddrA n sz x i)=eW n sz (evE e x) (evE e i):=_root_.id rfl
theorem oM (e:List (Nat×AV))(x i:AX):dP e (.index x i)=ey (evE e x) (evE e i):=_root_.id rfl
theorem lP (e:List (Nat×AV))(g:Bool)(n sz:Nat)(x i:AX):dP e (.indexA g n sz x i)=gn g n sz (evE e x) (evE e i):=_root_.id rfl
theorem xu (e:List (Nat×AV))(st:Bool)(x:AX):dP e (.len st x)=wK st (evE e x):=_root_.id rfl
theorem r3 (e:List (Nat×AV))(n:Nat):dP e (.lenC n)=some (.pv (.int .i64 n)):=_root_.id rfl
theorem r4 (e:List (Nat×AV))(x y:AX):dP e (.imin x y)=Cz (evE e x) (evE e y):=_root_.id rfl
theorem r5 (e:List (Nat×AV))(x y:AX):dP e (.imax x y)=CA (evE e x) (evE e y):=_root_.id rfl
theorem lO (e:List (Nat×AV))(sz:Nat)(x:AX)(lo hi:Option AX):dP e (.sliceL sz x lo hi)=bU sz (evE e x) (evO e lo) (evO e hi):=_root_.id rfl
theorem lN (e:List (Nat×AV))(x:AX)(lo hi:Option AX):dP e (.sliceS x lo hi)=ea (evE e x) (evO e lo) (evO e hi):=_root_.id rfl
theorem xx (e:List (Nat×AV))(op:BinOp)(x y:AX):dP e (.bin op x y)=ck op (evE e x) (evE e y):=_root_.id rfl
def tq (ng:Bool):Option Bool→Option AV
 | some b=>some (.pv (.bool (if ng then !b else b)))
 | none=>none
theorem xy (e:List (Nat×AV))(kd:Nat)(ng:Bool)(x y:AX):dP e (.beq kd ng x y)=tq ng (mh kd (evE e x) (evE e y)):=by
 simp only[dP];cases mh kd (evE e x) (evE e y)<;>rfl
theorem CF (b:Bool):tq true (some b)=some (.pv (.bool (!b))):=_root_.id rfl
theorem CG (b:Bool):tq false (some b)=some (.pv (.bool b)):=_root_.id rfl
theorem xt (e:List (Nat×AV))(x:AX):dP e (.neg x)=EK (evE e x):=_root_.id rfl
theorem xr (e:List (Nat×AV))(x:AX):dP e (.not x)=EJ (evE e x):=_root_.id rfl
theorem oR (e:List (Nat×AV))(x:AX):dP e (.compl x)=j6 (evE e x):=_root_.id rfl
theorem r7 (e:List (Nat×AV))(k:IntKind)(x:AX):dP e (.conv k x)=pi k (evE e x):=_root_.id rfl
theorem r8 (e:List (Nat×AV))(ng:Bool)(ks:List Nat)(x y:AX):dP e (.beqS ng ks x y)=tq ng (mg ks (evE e x) (evE e y)):=by
 simp only[dP];cases mg ks (evE e x) (evE e y)<;>rfl
theorem tp (ks:List Nat)(ps qs:List PV):mg ks (.pv (.agg ps)) (.pv (.agg qs))=kU ks ps qs:=_root_.id rfl
theorem Ah:kU [] [] []=some true:=_root_.id rfl
theorem vj (l:List Nat)(a b:Bool)(r s:List PV):kU (0::l) (.bool a::r) (.bool b::s)=BF (some (a == b)) (kU l r s):=_root_.id rfl
theorem Ai (l:List Nat)(k:IntKind)(a b:Int)(r s:List PV):kU (1::l) (.int k a::r) (.int k b::s)=BF (some (decide (a=b))) (kU l r s):=by
 simp only[kU,EN,if_true];congr 2
theorem Ag (l:List Nat)(a b:List UInt8)(r s:List PV):kU (2::l) (.str a::r) (.str b::s)=BF (some (a == b)) (kU l r s):=_root_.id rfl
theorem wk (a b:Bool):BF (some a) (some b)=some (a&&b):=_root_.id rfl
theorem lR (e:List (Nat×AV))(x:AX):dP e (.convIS x)=eX (evE e x):=_root_.id rfl
theorem mb (k:IntKind)(n:Int):eX (.pv (.int k n))=some (.pv (.str (Utf8.encode n).data.toList)):=_root_.id rfl
theorem oQ (e:List (Nat×AV))(x:AX):dP e (.convS x)=iw (evE e x):=_root_.id rfl
theorem xw (e:List (Nat×AV))(f:Nat)(fs cs:List AX):dP e (.clo f fs cs)=some (my f (evL e fs) (evL e cs)):=_root_.id rfl
theorem xv (e:List (Nat×AV))(x:AX)(i:Nat):dP e (.ext x i)=CD i (evE e x):=_root_.id rfl
theorem oL (e:List (Nat×AV))(x:AX):dP e (.nilck x)=wJ (evE e x):=_root_.id rfl
theorem Cv (x y:AV):lZ (.pv (.bool true)) x y=some x:=_root_.id rfl
theorem Cw (x y:AV):lZ (.pv (.bool false)) x y=some y:=_root_.id rfl
theorem pf (off r o:Nat):fu off (.ptr r o)=some (.ptr r (o+off)):=_root_.id rfl
theorem ma (off:Nat)(l:List PV)(i o:Nat):fu off (.pv (.eptr l i o))=some (.pv (.eptr l i (o+off))):=_root_.id rfl
theorem l9 (off g o:Nat):fu off (.pv (.gptr g o))=some (.pv (.gptr g (o+off))):=_root_.id rfl
theorem sZ (g:Bool)(sz off:Nat)(ps:List PV):go g sz off (.pv (.agg ps))=bW g sz off (ps.map .pv):=_root_.id rfl
theorem s3 (g:Bool)(sz off:Nat)(ps:List AV):go g sz off (.agg ps)=bW g sz off ps:=_root_.id rfl
def FE (sz off:Nat)(cs:List AV):Option AV:=if off+sz≤cs.length then some (fH ((cs.drop off).take sz)) else none
theorem CJ (sz off:Nat)(cs:List AV):bW true sz off cs=FE sz off cs:=_root_.id rfl
theorem CK (sz off:Nat)(cs:List AV):bW false sz off cs=cs[off]?:=_root_.id rfl
def gu (sz:Nat)(l:List PV)(i:Nat):Option PV→Option AV
 | some y=>if y.cells.length=sz then some (.pv (.eptr l i 0)) else none
 | none=>none
theorem j4 (sz:Nat)(l:List PV)(i:Nat):fF sz l (i:Int)=gu sz l i l[i]?:=by
 unfold fF gu
 rw[if_pos (by omega)]
 simp only[Int.toNat_natCast]
 cases l[i]? <;> rfl
theorem aK (sz:Nat)(l:List PV):fF sz l 0=gu sz l 0 l[0]?:=_root_.id rfl
theorem pg (sz:Nat)(l:List PV)(i:Nat):fF sz l ((i:Int)+1)=gu sz l (i+1) l[i+1]?:=j4 sz l (i+1)
theorem l8 (sz:Nat)(l:List PV)(k:IntKind)(n:Int):ez sz (.pv (.list l)) (.pv (.int k n))=fF sz l n:=_root_.id rfl
theorem j2 (sz r s:Nat)(l:List PV)(k:IntKind)(n:Int):ez sz (.olist r s l) (.pv (.int k n))=fF sz l n:=_root_.id rfl
theorem pd (sz r off len:Nat)(k:IntKind){n:Int}(h:0≤n)(h':n.toNat<len):ez sz (.row r sz off len) (.pv (.int k n))=some (.ptr r (off+n.toNat*sz)):=by
 simp[ez,h,h']
theorem ya (l:List UInt8):wK true (.pv (.str l))=some (.pv (.int .i64 l.length)):=_root_.id rfl
theorem sV (l:List PV):wK false (.pv (.list l))=some (.pv (.int .i64 l.length)):=_root_.id rfl
theorem sU:wK false (.pv .nils)=some (.pv (.int .i64 0)):=_root_.id rfl
theorem pc (r s:Nat)(l:List PV):wK false (.olist r s l)=some (.pv (.int .i64 l.length)):=_root_.id rfl
theorem yb (r s o n:Nat):wK false (.row r s o n)=some (.pv (.int .i64 n)):=_root_.id rfl
theorem mc {d top:Nat}{k:IntKind}{n:Int}(h0:0≤n)(h1:n≤top):aR d top (some (.pv (.int k n)))=some n.toNat:=by
 simp[aR,h0,h1]
theorem me {d top:Nat}:aR d top none=some d:=_root_.id rfl
def IU {α:Type}(l:List α)(f:List α→AV):Option Nat→Option Nat→Option AV
 | some h,some a=>some (f ((l.take h).drop a))
 | _,_=>none
theorem vG {α:Type}(l:List α)(f:List α→AV)(h a:Nat):IU l f (some h) (some a)=some (f ((l.take h).drop a)):=_root_.id rfl
def I3 (l:Nat)(lo:Option AV):Option Nat→Option Nat
 | some h=>aR 0 h lo
 | none=>none
theorem v7 (l:Nat)(lo:Option AV)(h:Nat):I3 l lo (some h)=aR 0 h lo:=_root_.id rfl
theorem lY (l:List UInt8)(lo hi:Option AV):ea (.pv (.str l)) lo hi=IU l (fun x=>.pv (.str x)) (aR l.length l.length hi) (I3 l.length lo (aR l.length l.length hi)):=by
 unfold ea IU I3
 simp only
 split<;>rename_i h
 ·rw[h];simp only;cases aR 0 _ lo<;>rfl
 ·rw[h]
theorem yu (k:IntKind)(a b:Int):ck .add (.pv (.int k a)) (.pv (.int k b))=some (.pv (.int k (k.wrap (a+b)))):=by simp[ck,jE]
theorem yg (k:IntKind)(a b:Int):ck .sub (.pv (.int k a)) (.pv (.int k b))=some (.pv (.int k (k.wrap (a - b)))):=by simp[ck,jE]
theorem yk (k:IntKind)(a b:Int):ck .mul (.pv (.int k a)) (.pv (.int k b))=some (.pv (.int k (k.wrap (a*b)))):=by simp[ck,jE]
theorem yi {k:IntKind}{a b:Int}(h:¬ b=0):ck .quo (.pv (.int k a)) (.pv (.int k b))=some (.pv (.int k (k.wrap (a.tdiv b)))):=by simp[ck,jE,h]
theorem yh {k:IntKind}{a b:Int}(h:¬ b=0):ck .rem (.pv (.int k a)) (.pv (.int k b))=some (.pv (.int k (a.tmod b))):=by simp[ck,jE,h]
theorem yr (k:IntKind)(a b:Int):ck .and (.pv (.int k a)) (.pv (.int k b))=some (.pv (.int k (bits .and k a b))):=by simp[ck,jE]
theorem CE (k:IntKind)(a b:Int):ck .or (.pv (.int k a)) (.pv (.int k b))=some (.pv (.int k (bits .or k a b))):=by simp[ck,jE]
theorem yf (k:IntKind)(a b:Int):ck .xor (.pv (.int k a)) (.pv (.int k b))=some (.pv (.int k (bits .xor k a b))):=by simp[ck,jE]
theorem mf (k:IntKind)(a b:Int):ck .andNot (.pv (.int k a)) (.pv (.int k b))=some (.pv (.int k (bits .andNot k a b))):=by simp[ck,jE]
theorem yq (k:IntKind)(a b:Int):ck .eql (.pv (.int k a)) (.pv (.int k b))=some (.pv (.bool (decide (a=b)))):=by simp[ck,jE];rfl
theorem yj (k:IntKind)(a b:Int):ck .neq (.pv (.int k a)) (.pv (.int k b))=some (.pv (.bool (!decide (a=b)))):=by simp[ck,jE];rfl
theorem yl (k:IntKind)(a b:Int):ck .lss (.pv (.int k a)) (.pv (.int k b))=some (.pv (.bool (decide (a<b)))):=by simp[ck,jE]
theorem ym (k:IntKind)(a b:Int):ck .leq (.pv (.int k a)) (.pv (.int k b))=some (.pv (.bool (decide (a≤b)))):=by simp[ck,jE]
theorem yo (k:IntKind)(a b:Int):ck .gtr (.pv (.int k a)) (.pv (.int k b))=some (.pv (.bool (decide (b<a)))):=by simp[ck,jE]
theorem yp (k:IntKind)(a b:Int):ck .geq (.pv (.int k a)) (.pv (.int k b))=some (.pv (.bool (decide (b≤a)))):=by simp[ck,jE]
theorem th {a b:List UInt8}(h:a.length+b.length≤9223372036854775807):ck .add (.pv (.str a)) (.pv (.str b))=some (.pv (.str (a++b))):=by
 have:a.length+b.length≤maxLen:=by unfold maxLen;omega
 simp[ck,EI,this]
theorem tg (a b:List UInt8):ck .eql (.pv (.str a)) (.pv (.str b))=some (.pv (.bool (decide (a=b)))):=by
 simp[ck,EI];rw[Bool.eq_iff_iff];simp
theorem s8 (a b:List UInt8):ck .neq (.pv (.str a)) (.pv (.str b))=some (.pv (.bool (!decide (a=b)))):=by
 simp[ck,EI];rw[Bool.eq_iff_iff];simp
theorem s9 (a b:List UInt8):ck .lss (.pv (.str a)) (.pv (.str b))=some (.pv (.bool (aO a b))):=_root_.id rfl
theorem ta (a b:List UInt8):ck .leq (.pv (.str a)) (.pv (.str b))=some (.pv (.bool (aO a b||a == b))):=_root_.id rfl
theorem tc (a b:List UInt8):ck .gtr (.pv (.str a)) (.pv (.str b))=some (.pv (.bool (!(aO a b||a == b)))):=_root_.id rfl
theorem tf (a b:List UInt8):ck .geq (.pv (.str a)) (.pv (.str b))=some (.pv (.bool (!(aO a b)))):=_root_.id rfl
theorem tm (a b:Bool):mh 0 (.pv (.bool a)) (.pv (.bool b))=some (a == b):=_root_.id rfl
theorem yx (r o:Nat):mh 1 (.ptr r o) (.pv .nilp)=some false:=_root_.id rfl
theorem tk (l:List PV)(i o:Nat):mh 1 (.pv (.eptr l i o)) (.pv .nilp)=some false:=_root_.id rfl
theorem tj:mh 1 (.pv .nilp) (.pv .nilp)=some true:=_root_.id rfl
theorem tl (x:PV)(l:List PV):mh 2 (.pv (.list (x::l))) (.pv .nils)=some false:=_root_.id rfl
theorem pk (r s:Nat)(x:PV)(l:List PV):mh 2 (.olist r s (x::l)) (.pv .nils)=some false:=_root_.id rfl
theorem yw {r s o n:Nat}(h:0<n):mh 2 (.row r s o n) (.pv .nils)=some false:=by
 cases n with
 | zero=>exact absurd h (Nat.lt_irrefl _)
 | succ n=>rfl
theorem ti:mh 2 (.pv .nils) (.pv .nils)=some true:=_root_.id rfl
theorem x7 (k:IntKind)(n:Int):EK (.pv (.int k n))=some (.pv (.int k (k.wrap (0 - n)))):=_root_.id rfl
theorem sN (b:Bool):EJ (.pv (.bool b))=some (.pv (.bool (!b))):=_root_.id rfl
theorem s7 (k k':IntKind)(n:Int):pi k (.pv (.int k' n))=some (.pv (.int k (k.wrap n))):=_root_.id rfl
theorem ph (s:List UInt8):iw (.pv (.str s))=some (.pv (.str s)):=_root_.id rfl
theorem xY (r o:Nat):wJ (.ptr r o)=some (.ptr r o):=_root_.id rfl
theorem sQ (l:List PV)(i o:Nat):wJ (.pv (.eptr l i o))=some (.pv (.eptr l i o)):=_root_.id rfl
theorem sP (g o:Nat):wJ (.pv (.gptr g o))=some (.pv (.gptr g o)):=_root_.id rfl
theorem sO (f:Nat)(a b:List PV):wJ (.pv (.clo f a b))=some (.pv (.clo f a b)):=_root_.id rfl
theorem xZ (f:Nat)(a b:List AV):wJ (.clo f a b)=some (.clo f a b):=_root_.id rfl
theorem CB (i:Nat)(ps:List PV):CD i (.pv (.tup ps))=(ps[i]?).map .pv:=_root_.id rfl
theorem CC (i:Nat)(ps:List AV):CD i (.tup ps)=ps[i]?:=_root_.id rfl
theorem tK {α β:Type}(f:α→β)(a:α):(some a).map f=some (f a):=_root_.id rfl
theorem pS:[].map AV.pv=[]:=_root_.id rfl
theorem mB (x:PV)(r:List PV):(x::r).map AV.pv = .pv x::r.map AV.pv:=_root_.id rfl
theorem JI {α:Type}(x:α)(r:List α):(x::r)[0]? = some x:=_root_.id rfl
theorem JH {α:Type}(x:α)(r:List α)(n:Nat):(x::r)[n+1]? = r[n]?:=_root_.id rfl
theorem CH:pvs []=some []:=_root_.id rfl
def HQ:Option PV→Option (List PV)→Option (List PV)
 | some p,some ps=>some (p::ps)
 | _,_=>none
theorem tw (p:PV)(ps:List PV):HQ (some p) (some ps)=some (p::ps):=_root_.id rfl
theorem tx (x:Option (List PV)):HQ none x=none:=_root_.id rfl
theorem pp (x:Option PV):HQ x none=none:=by cases x<;>rfl
theorem nF (x:AV)(r:List AV):pvs (x::r)=HQ x.toPV (pvs r):=by
 show (match x.toPV,pvs r with | some p,some ps=>some (p::ps) | _,_=>none)=_
 cases x.toPV<;>cases pvs r<;>rfl
theorem tv:∀ (ps:List PV),pvs (ps.map .pv)=some ps
 | []=>rfl
 | x::r=>by rw[List.map_cons,nF,tv r];rfl
theorem B0 (p:PV):(AV.pv p).toPV=some p:=_root_.id rfl
theorem oH (r s:Nat)(l:List PV):(AV.olist r s l).toPV=some (.list l):=_root_.id rfl
theorem xl (r o:Nat):(AV.ptr r o).toPV=none:=_root_.id rfl
theorem xk (r s o n:Nat):(AV.row r s o n).toPV=none:=_root_.id rfl
theorem xo (cs:List AV):(AV.agg cs).toPV=none:=_root_.id rfl
theorem xj (cs:List AV):(AV.tup cs).toPV=none:=_root_.id rfl
theorem xm (f:Nat)(a b:List AV):(AV.clo f a b).toPV=none:=_root_.id rfl
def uc (cs:List AV):Option (List PV)→AV
 | some ps=>.pv (.agg ps)
 | none=>.agg cs
theorem C2 (cs:List AV):fH cs=uc cs (pvs cs):=by unfold fH;cases pvs cs<;>rfl
theorem mz (cs:List AV)(ps:List PV):uc cs (some ps) = .pv (.agg ps):=_root_.id rfl
theorem mA (cs:List AV):uc cs none = .agg cs:=_root_.id rfl
def ua (cs:List AV):Option (List PV)→AV
 | some ps=>.pv (.tup ps)
 | none=>.tup cs
theorem C0 (cs:List AV):km cs=ua cs (pvs cs):=by unfold km;cases pvs cs<;>rfl
theorem mq (cs:List AV)(ps:List PV):ua cs (some ps) = .pv (.tup ps):=_root_.id rfl
theorem mr (cs:List AV):ua cs none = .tup cs:=_root_.id rfl
def kq (f:Nat)(fs cs:List AV):Option (List PV)→Option (List PV)→AV
 | some a,some b=>.pv (.clo f a b)
 | _,_=>.clo f fs cs
theorem C1 (f:Nat)(fs cs:List AV):my f fs cs=kq f fs cs (pvs fs) (pvs cs):=by unfold my kq;cases pvs fs<;>cases pvs cs<;>rfl
theorem mt (f:Nat)(fs cs:List AV)(a b:List PV):kq f fs cs (some a) (some b) = .pv (.clo f a b):=_root_.id rfl
theorem mw (f:Nat)(fs cs:List AV)(a:Option (List PV)):kq f fs cs a none = .clo f fs cs:=by cases a<;>rfl
theorem ko (f:Nat)(fs cs:List AV)(a:Option (List PV)):kq f fs cs none a = .clo f fs cs:=by cases a<;>rfl
theorem vR (p:PV):(AV.pv p).cells=p.cells.map .pv:=_root_.id rfl
theorem q6 (cs:List AV):(AV.agg cs).cells=cs:=_root_.id rfl
theorem qX (cs:List AV):(AV.tup cs).cells=[.tup cs]:=_root_.id rfl
theorem qZ (r o:Nat):(AV.ptr r o).cells=[.ptr r o]:=_root_.id rfl
theorem qY (r s o n:Nat):(AV.row r s o n).cells=[.row r s o n]:=_root_.id rfl
theorem lf (r s:Nat)(l:List PV):(AV.olist r s l).cells=[.olist r s l]:=_root_.id rfl
theorem q0 (f:Nat)(a b:List AV):(AV.clo f a b).cells=[.clo f a b]:=_root_.id rfl
theorem aV (cs:List PV):(PV.agg cs).cells=cs:=_root_.id rfl
theorem qW (b:Bool):(PV.bool b).cells=[.bool b]:=_root_.id rfl
theorem vO (k:IntKind)(n:Int):(PV.int k n).cells=[.int k n]:=_root_.id rfl
theorem vL (s:List UInt8):(PV.str s).cells=[.str s]:=_root_.id rfl
theorem qQ:PV.nils.cells=[.nils]:=_root_.id rfl
theorem qT (l:List PV):(PV.list l).cells=[.list l]:=_root_.id rfl
theorem qR:PV.nilp.cells=[.nilp]:=_root_.id rfl
theorem qS:PV.nilf.cells=[.nilf]:=_root_.id rfl
theorem vQ (f:Nat)(a b:List PV):(PV.clo f a b).cells=[.clo f a b]:=_root_.id rfl
theorem qV (l:List PV)(i o:Nat):(PV.eptr l i o).cells=[.eptr l i o]:=_root_.id rfl
theorem qU (g o:Nat):(PV.gptr g o).cells=[.gptr g o]:=_root_.id rfl
def C9 (g:Bool)(sz o:Nat):Blk→Option AV
 | .cells _ _ l=>bW g sz o l
 | _=>none
theorem mN (g:Bool)(sz o T:Nat)(f:Bool)(l:List AV):C9 g sz o (.cells T f l)=bW g sz o l:=_root_.id rfl
def C5 (g:Bool)(sz o:Nat):Option PV→Option AV
 | some e=>ib g sz o e
 | none=>none
theorem qb (g:Bool)(sz o:Nat)(e:PV):C5 g sz o (some e)=ib g sz o e:=_root_.id rfl
theorem sR (G:Nat→List PV)(g:Bool)(sz:Nat)(σ:ak)(r o:Nat):cQ G g sz σ (.ptr r o)=C9 g sz o (σ r):=by
 simp only[cQ,C9];cases σ r<;>rfl
theorem pb (G:Nat→List PV)(g:Bool)(sz:Nat)(σ:ak)(l:List PV)(i o:Nat):cQ G g sz σ (.pv (.eptr l i o))=C5 g sz o l[i]?:=by
 simp only[cQ,C5];cases l[i]? <;> rfl
theorem pa (G:Nat→List PV)(g:Bool)(sz:Nat)(σ:ak)(b o:Nat):cQ G g sz σ (.pv (.gptr b o))=bW g sz o ((G b).map .pv):=_root_.id rfl
theorem C8 (sz o:Nat)(e:PV):ib false sz o e=bW false sz o (e.cells.map .pv):=by simp[ib]
theorem C7 {sz o:Nat}{cs:List PV}(h:0<o):ib true sz o (.agg cs)=bW true sz o (cs.map .pv):=by
 simp[ib,PV.cells];omega
def ft (e:List (Nat×AV))(σ:List (Nat×Blk))(new:Nat):XOp→Option (AV×List (Nat×Blk))
 | .cap sz x=>(ye sz (fun r=>lookB r σ) (evE e x)).map fun v=>(v,[])
 | .resl sz x h=>(ja sz (fun r=>lookB r σ) (evE e x) (evE e h)).map fun v=>(v,[])
 | .copy sz x y=>j5 sz (fun r=>lookB r σ) (evE e x) (evE e y)
 | .apart x y=>(eB (fun r=>lookB r σ) (evE e x) (evE e y)).map fun v=>(v,[])
 | .appz t sz by_ zs x k=>j7 t sz by_ zs new (fun r=>lookB r σ) (evE e x) (evE e k)
 | .noesc x=>some (evE e x,[])
 | .ucast u n b x=>(dk u n b (fun r=>lookB r σ) (evE e x)).map fun v=>(v,[])
 | .peq ng x y=>(Cx ng (evE e x) (evE e y)).map fun v=>(v,[])
 | .anyc=>some (.any,[])
 | .apps t by_ x y=>hH t by_ new (fun r=>lookB r σ) (evE e x) (evE e y)
 | .sdata x=>(ew (evE e x)).map fun v=>(v,[])
 | .ustr t x k=>j0 t (fun r=>lookB r σ) (evE e x) (evE e k)
 | .ofStr x=>gm new (evE e x)
 | .fnil ng x y=>(j3 ng (evE e x) (evE e y)).map fun v=>(v,[])
 | .inil ng x y=>(yc ng (evE e x) (evE e y)).map fun v=>(v,[])
 | .idxb x y=>(l7 (evE e x) (evE e y)).map fun v=>(v,[])
 | .mki T x=>(HP T (evE e x)).map fun v=>(v,[])
theorem BM (e:List (Nat×AV))(σ:List (Nat×Blk))(n new:Nat)(o:XOp):o.run new (St.E ⟨e,σ,n⟩) (St.σ ⟨e,σ,n⟩)=ft e σ new o:=by
 cases o<;>simp only[XOp.run,ft,fJ]<;>rfl
def ia (G:Nat→List PV)(e:List (Nat×AV))(σ:List (Nat×Blk))(new:Nat):MOp→Option (AV×List (Nat×Blk))
 | .alloc T zs=>some (.ptr new 0,[(new,.cells T true (zs.map .pv))])
 | .box T x=>if (evE e x).known=true then some (.ptr new 0,[(new,.cells T true (evE e x).cells)]) else none
 | .cbox T x=>match (evE e x).toPV with
   | some p=>if p.cells.all PV.one=true then some (.pv (.eptr [p] 0 0),[(new,.none)]) else none
   | none=>none
 | .load g sz x=>(cQ G g sz (fun r=>lookB r σ) (evE e x)).map fun v=>(v,[])
 | .store sz x v=>(eu sz (fun r=>lookB r σ) (evE e x) (evE e v)).map fun d=>(.pv .undef,d)
 | .clear sz zs x=>(eA sz zs (fun r=>lookB r σ) (evE e x)).map fun d=>(.pv (.tup []),d)
 | .toStr x=>(db (fun r=>lookB r σ) (evE e x)).map fun v=>(v,[])
 | .xop o=>ft e σ new o
 | .bslice mu t sz len xs=>bV mu t sz len new (evL e xs)
 | .append mu t sz by_ x y=>ct mu t sz by_ new (fun r=>lookB r σ) (evE e x) (evE e y)
 | .mk mu t sz by_ zs x y=>rMk mu t sz by_ zs new (evE e x) (evE e y)
 | .sliceA n sz x lo hi=>match evE e x with
   | .ptr r o=>match lookB r σ with
     | .cells _ f l=>if f=true∧o+n*sz≤l.length∧(o=0→n*sz=l.length)∧n≤9223372036854775807 then (bU sz (.row r sz o n) (evO e lo) (evO e hi)).map fun v=>(v,[]) else none
     | _=>none
   | _=>none
theorem uf (G:Nat→List PV)(e:List (Nat×AV))(σ:List (Nat×Blk))(n new:Nat)(o:MOp):o.run G new (St.E ⟨e,σ,n⟩) (St.σ ⟨e,σ,n⟩)=ia G e σ new o:=by
 cases o<;>first | (simp only[MOp.run,ia,fJ,DD,Ge]<;>rfl) | exact BM e σ n new _
def cI (δ:List (Nat×Blk)):Option AV→Option (AV×List (Nat×Blk))
 | some v=>some (v,δ)
 | none=>none
theorem oD (δ:List (Nat×Blk))(v:AV):cI δ (some v)=some (v,δ):=_root_.id rfl
def wZ (v:AV):Option (List (Nat×Blk))→Option (AV×List (Nat×Blk))
 | some δ=>some (v,δ)
 | none=>none
theorem oC (δ:List (Nat×Blk))(v:AV):wZ v (some δ)=some (v,δ):=_root_.id rfl
theorem pY (G:Nat→List PV)(e:List (Nat×AV))(σ:List (Nat×Blk))(new T:Nat)(zs:List PV):ia G e σ new (.alloc T zs)=some (.ptr new 0,[(new,.cells T true (zs.map .pv))]):=_root_.id rfl
def JA (new T:Nat)(v:AV):Bool→Option (AV×List (Nat×Blk))
 | true=>some (.ptr new 0,[(new,.cells T true v.cells)])
 | false=>none
theorem GK (new T:Nat)(v:AV):JA new T v true=some (.ptr new 0,[(new,.cells T true v.cells)]):=_root_.id rfl
theorem zn (G:Nat→List PV)(e:List (Nat×AV))(σ:List (Nat×Blk))(new T:Nat)(x:AX):ia G e σ new (.box T x)=JA new T (evE e x) (evE e x).known:=by
 simp only[ia];cases (evE e x).known<;>rfl
def DQ (new:Nat):Option PV→Option (AV×List (Nat×Blk))
 | some p=>if p.cells.all PV.one=true then some (.pv (.eptr [p] 0 0),[(new,.none)]) else none
 | none=>none
theorem q7 (new:Nat)(p:PV):DQ new (some p)=if p.cells.all PV.one=true then some (.pv (.eptr [p] 0 0),[(new,.none)]) else none:=_root_.id rfl
theorem ug (G:Nat→List PV)(e:List (Nat×AV))(σ:List (Nat×Blk))(new T:Nat)(x:AX):ia G e σ new (.cbox T x)=DQ new (evE e x).toPV:=by
 simp only[ia,DQ]
theorem zy (p:PV):(AV.pv p).known=true:=_root_.id rfl
theorem uz (cs:List AV):(AV.agg cs).known=true:=_root_.id rfl
theorem ur (cs:List AV):(AV.tup cs).known=true:=_root_.id rfl
theorem uu (r o:Nat):(AV.ptr r o).known=true:=_root_.id rfl
theorem ut (r s o n:Nat):(AV.row r s o n).known=true:=_root_.id rfl
theorem mP (r s:Nat)(l:List PV):(AV.olist r s l).known=true:=_root_.id rfl
theorem uw (f:Nat)(a b:List AV):(AV.clo f a b).known=true:=_root_.id rfl
theorem ue (G:Nat→List PV)(e:List (Nat×AV))(σ:List (Nat×Blk))(new:Nat)(g:Bool)(sz:Nat)(x:AX):ia G e σ new (.load g sz x)=cI [] (cQ G g sz (fun r=>lookB r σ) (evE e x)):=by
 simp only[ia];cases cQ G g sz (fun r=>lookB r σ) (evE e x)<;>rfl
theorem pW (G:Nat→List PV)(e:List (Nat×AV))(σ:List (Nat×Blk))(new sz:Nat)(x v:AX):ia G e σ new (.store sz x v)=wZ (.pv .undef) (eu sz (fun r=>lookB r σ) (evE e x) (evE e v)):=by
 simp only[ia];cases eu sz (fun r=>lookB r σ) (evE e x) (evE e v)<;>rfl
def BC (sz:Nat)(zs:List PV)(r s off len:Nat):Blk→Option (List (Nat×Blk))
 | .cells T f l=>if s=sz∧0<len∧zs.length=sz∧off+len*sz≤l.length∧zs.all PV.one=true then some [(r,.cells T f (l.take off++(List.replicate len zs).flatten.map .pv++l.drop (off+len*sz)))] else none
 | _=>none
theorem pj (sz:Nat)(zs:List PV)(σ:ak)(r s off len:Nat):eA sz zs σ (.row r s off len)=BC sz zs r s off len (σ r):=by
 simp only[eA,BC];cases σ r<;>rfl
theorem pX (G:Nat→List PV)(e:List (Nat×AV))(σ:List (Nat×Blk))(new sz:Nat)(zs:List PV)(x:AX):ia G e σ new (.clear sz zs x)=wZ (.pv (.tup [])) (eA sz zs (fun r=>lookB r σ) (evE e x)):=by
 simp only[ia,wZ];cases eA sz zs (fun r=>lookB r σ) (evE e x)<;>rfl
theorem mJ (G:Nat→List PV)(e:List (Nat×AV))(σ:List (Nat×Blk))(new:Nat)(mu:Bool)(t sz len:Nat)(xs:List AX):ia G e σ new (.bslice mu t sz len xs)=bV mu t sz len new (evL e xs):=_root_.id rfl
theorem mK (G:Nat→List PV)(e:List (Nat×AV))(σ:List (Nat×Blk))(new:Nat)(mu:Bool)(t sz by_:Nat)(x y:AX):ia G e σ new (.append mu t sz by_ x y)=ct mu t sz by_ new (fun r=>lookB r σ) (evE e x) (evE e y):=_root_.id rfl
theorem C3 (G:Nat→List PV)(e:List (Nat×AV))(σ:List (Nat×Blk))(new:Nat)(mu:Bool)(t sz by_:Nat)(zs:List PV)(x y:AX):ia G e σ new (.mk mu t sz by_ zs x y)=rMk mu t sz by_ zs new (evE e x) (evE e y):=_root_.id rfl
theorem Cy {e sz by_:Nat}{zs:List PV}{new:Nat}{k k':IntKind}{c:Int}(h:0≤c)(h1:(by_:Int)*c≤281474976710656)(h2:c≤9223372036854775807):rMk false e sz by_ zs new (.pv (.int k 0)) (.pv (.int k' c))=some (.olist new sz [],[(new,.tok e sz)]):=by
 simp[rMk,h,h1,h2]
def nw (sz r o:Nat)(v:AV):Blk→Option (List (Nat×Blk))
 | .cells T f l=>if v.known=true∧v.cells.length=sz∧v.cells.all AV.one=true∧o+sz≤l.length then some [(r,.cells T f (l.take o++v.cells++l.drop (o+sz)))] else none
 | _=>none
theorem o6 (sz:Nat)(σ:ak)(r o:Nat)(v:AV):eu sz σ (.ptr r o) v=nw sz r o v (σ r):=by
 simp only[eu,nw];cases σ r<;>rfl
def A8 (r T:Nat)(f:Bool)(l:List AV)(sz o:Nat)(cs:List AV):Bool→Option (List (Nat×Blk))
 | true=>some [(r,.cells T f (l.take o++cs++l.drop (o+sz)))]
 | false=>none
theorem jQ (sz r o:Nat)(v:AV)(T:Nat)(f:Bool)(l:List AV):nw sz r o v (.cells T f l)=A8 r T f l sz o v.cells (v.known&&decide (v.cells.length=sz)&&v.cells.all AV.one&&decide (o+sz≤l.length)):=by
 simp only[nw]
 by_cases h:v.known=true∧v.cells.length=sz∧v.cells.all AV.one=true∧o+sz≤l.length
 ·rw[if_pos h]
  have:(v.known&&decide (v.cells.length=sz)&&v.cells.all AV.one&&decide (o+sz≤l.length))=true:=by simp only[Bool.and_eq_true,decide_eq_true_eq];exact⟨⟨⟨h.1,h.2.1⟩,h.2.2.1⟩,h.2.2.2⟩
  rw[this];rfl
 ·rw[if_neg h]
  have:(v.known&&decide (v.cells.length=sz)&&v.cells.all AV.one&&decide (o+sz≤l.length))=false:=by
   rw[Bool.eq_false_iff]
   intro hh
   simp only[Bool.and_eq_true,decide_eq_true_eq] at hh
   exact h ⟨hh.1.1.1,hh.1.1.2,hh.1.2,hh.2⟩
  rw[this];rfl
theorem xC (r T:Nat)(f:Bool)(l:List AV)(sz o:Nat)(cs:List AV):A8 r T f l sz o cs true=some [(r,.cells T f (l.take o++cs++l.drop (o+sz)))]:=_root_.id rfl
theorem di {n m by_:Nat}(h1:n+m≤9223372036854775807)(h2:(n+m)*by_≤140737488355328):iu n m by_=true:=by
 simp[iu,h1,h2]
theorem xd (l:List (Nat×Blk)):iS l []=l:=_root_.id rfl
theorem rU (l:List (Nat×Blk))(p:Nat×Blk)(r:List (Nat×Blk)):iS l (p::r)=iS (p::l) r:=_root_.id rfl
theorem Al (f:Nat)(a b:List PV):ce (.pv (.clo f a b))=some (f,a.map .pv,b.map .pv):=_root_.id rfl
theorem Am (f:Nat)(a b:List AV):ce (.clo f a b)=some (f,a,b):=_root_.id rfl
theorem CN {α:Type}(a:α)(k:α→Prop):aE (some a) k=k a:=_root_.id rfl
section
variable {P:Program}{G:Nat→List PV}
theorem za (F:St→Prop)(e:List (Nat×AV))(σ:List (Nat×Blk))(n d:Nat)(v:AV):zb F ⟨e,σ,n⟩ (some d) v=F ⟨(d,v)::e,σ,n⟩:=_root_.id rfl
theorem y9 (F:St→Prop)(e:List (Nat×AV))(σ:List (Nat×Blk))(n:Nat)(v:AV):zb F ⟨e,σ,n⟩ none v=F ⟨e,σ,n⟩:=_root_.id rfl
theorem zd (F:St→Prop)(e:List (Nat×AV))(σ:List (Nat×Blk))(n d:Nat)(v:AV)(δ:List (Nat×Blk)):pL F ⟨e,σ,n⟩ (some d) (v,δ)=F ⟨(d,v)::e,iS σ δ,n+1⟩:=_root_.id rfl
theorem zc (F:St→Prop)(e:List (Nat×AV))(σ:List (Nat×Blk))(n:Nat)(v:AV)(δ:List (Nat×Blk)):pL F ⟨e,σ,n⟩ none (v,δ)=F ⟨e,iS σ δ,n+1⟩:=_root_.id rfl
theorem zf (F:St→Prop)(e:List (Nat×AV))(σ:List (Nat×Blk))(n d:Nat)(v:AV):zg F (some d) v ⟨e,σ,n⟩=F ⟨(d,v)::e,σ,n⟩:=_root_.id rfl
theorem ze (F:St→Prop)(e:List (Nat×AV))(σ:List (Nat×Blk))(n:Nat)(v:AV):zg F none v ⟨e,σ,n⟩=F ⟨e,σ,n⟩:=_root_.id rfl
theorem Ao (args:List AV)(s:St)(K:AV→St→Prop)(f:Nat)(a b:List AV):vS P G args s K (f,a,b)=ae P G f (a++args++b) s K:=_root_.id rfl
theorem rQ (F:St→Prop)(s:St):cj P G [] F s=F s:=_root_.id rfl
theorem oE (d:Option Nat)(o:AOp)(r:List AOper)(F:St→Prop)(s:St):cj P G (⟨d,o,none⟩::r) F s=g9 P G (cj P G r F) s d o:=_root_.id rfl
def f0 (b:Bool):AV→Option Bool
 | .pv (.bool x)=>some (x == b)
 | .pv .undef=>some false
 | _=>none
theorem rM (x:Bool):f0 true (.pv (.bool x))=some x:=by cases x<;>rfl
theorem rN (x:Bool):f0 false (.pv (.bool x))=some (!x):=by cases x<;>rfl
theorem rL (b:Bool):f0 b (.pv .undef)=some false:=_root_.id rfl
theorem lJ (d:Option Nat)(o:AOp)(i:Nat)(b:Bool)(r:List AOper)(F:St→Prop)(e:List (Nat×AV))(σ:List (Nat×Blk))(n:Nat) :
  cj P G (⟨d,o,some (i,b)⟩::r) F ⟨e,σ,n⟩=aE (f0 b (look i e)) (By P G (cj P G r F) ⟨e,σ,n⟩ d o):=_root_.id rfl
theorem vB (F:St→Prop)(s:St)(d:Option Nat)(o:AOp):By P G F s d o true=g9 P G F s d o:=_root_.id rfl
theorem qG (F:St→Prop)(e:List (Nat×AV))(σ:List (Nat×Blk))(n:Nat)(d:Nat)(o:AOp):By P G F ⟨e,σ,n⟩ (some d) o false=F ⟨(d,.pv .undef)::e,σ,n⟩:=_root_.id rfl
theorem m4 (F:St→Prop)(s:St)(o:AOp):By P G F s none o false=F s:=_root_.id rfl
def FL (k:AV→Prop):AV→Prop
 | .pv (.list [])=>∀ b:Bool,k (.pv (.bool b))
 | _=>False
def jc (x:Option AV)(k:AV→Prop)(e:List (Nat×AV))(o:TOp):Prop:=
 match x with
 | some v=>k v
 | none=>match o with
   | .beq 2 _ y (.c .nils)=>FL k (evE e y)
   | _=>False
theorem kb (v:AV)(k:AV→Prop)(e:List (Nat×AV))(o:TOp):jc (some v) k e o=k v:=_root_.id rfl
theorem ke (k:AV→Prop)(e:List (Nat×AV))(ng:Bool)(y:AX):jc none k e (.beq 2 ng y (.c .nils))=FL k (evE e y):=_root_.id rfl
theorem yX (k:AV→Prop):FL k (.pv (.list [])) = ∀ b:Bool,k (.pv (.bool b)):=_root_.id rfl
theorem yy (ng:Bool):tq ng (mh 2 (.pv (.list [])) (.pv .nils))=none:=_root_.id rfl
theorem Gi (F:St→Prop)(e:List (Nat×AV))(σ:List (Nat×Blk))(n:Nat)(d:Option Nat)(o:TOp):g9 P G F ⟨e,σ,n⟩ d (.t o)=jc (dP e o) (zb F ⟨e,σ,n⟩ d) e o:=by
 rw[← r6 e σ n]
 show e7 (o.run (St.E ⟨e,σ,n⟩)) _ _=_
 cases hr:o.run (St.E ⟨e,σ,n⟩) with
 | some v=>rfl
 | none=>
   simp only[e7,jc]
   refine propext ⟨fun h=>?_,fun h=>?_⟩
   ·obtain⟨h1,h2⟩:=h
    unfold nilB at h1
    split at h1
    ·split at h1
     ·rename_i hev
      rw[fJ] at hev
      show FL _ _
      rw[hev];exact h2
     ·cases h1
    ·cases h1
   ·split at h
    ·rename_i y
     unfold FL at h
     split at h
     ·rename_i hev
      refine⟨?_,h⟩
      simp only[nilB]
      rw[fJ,hev]
     ·exact h.elim
    ·exact h.elim
theorem Gj (F:St→Prop)(e:List (Nat×AV))(σ:List (Nat×Blk))(n:Nat)(d:Option Nat)(o:MOp):g9 P G F ⟨e,σ,n⟩ d (.m o)=aE (ia G e σ n o) (pL F ⟨e,σ,n⟩ d):=by
 rw[← uf G e σ n];rfl
theorem vA (F:St→Prop)(e:List (Nat×AV))(σ:List (Nat×Blk))(n:Nat)(d:Option Nat)(f:AX)(xs:List AX):g9 P G F ⟨e,σ,n⟩ d (.call f xs)=aE (ce (evE e f)) (vS P G (evL e xs) ⟨e,σ,n⟩ (zg F d)):=by
 rw[← fJ e σ n,← vh e σ n];rfl
theorem xF (F:List (List Nat×List Nat)→St→Prop)(T:List (List Nat×List Nat))(e:List (Nat×AV))(σ:List (Nat×Blk))(n d:Nat)(v:AV):sg F T ⟨e,σ,n⟩ (some d) v=F (T++[([],[])]) ⟨(d,v)::e,σ,n⟩:=_root_.id rfl
theorem xE (F:List (List Nat×List Nat)→St→Prop)(T:List (List Nat×List Nat))(e:List (Nat×AV))(σ:List (Nat×Blk))(n:Nat)(v:AV):sg F T ⟨e,σ,n⟩ none v=F (T++[([],[])]) ⟨e,σ,n⟩:=_root_.id rfl
theorem xH (F:List (List Nat×List Nat)→St→Prop)(T:List (List Nat×List Nat))(e:List (Nat×AV))(σ:List (Nat×Blk))(n d k:Nat)(rd:List Nat)(v:AV)(δ:List (Nat×Blk)):stepM F T ⟨e,σ,n⟩ (some d) k rd (v,δ)=F (T++[dh k (aM δ) rd]) ⟨(d,v)::e,iS σ δ,n+1⟩:=_root_.id rfl
theorem xG (F:List (List Nat×List Nat)→St→Prop)(T:List (List Nat×List Nat))(e:List (Nat×AV))(σ:List (Nat×Blk))(n k:Nat)(rd:List Nat)(v:AV)(δ:List (Nat×Blk)):stepM F T ⟨e,σ,n⟩ none k rd (v,δ)=F (T++[dh k (aM δ) rd]) ⟨e,iS σ δ,n+1⟩:=_root_.id rfl
theorem au {F:List (List Nat×List Nat)→St→Prop}{T:List (List Nat×List Nat)}{e:List (Nat×AV)}{σ:List (Nat×Blk)}{n d:Nat}{f:Nat}{a b args:List AV}{ps:List PV}{r:PV}(h:aq P G f ps r)(he:pvs (a++args++b)=some ps)
  (hk:F (T++[([],[])]) ⟨(d,.pv r)::e,σ,n⟩):iM P G F T ⟨e,σ,n⟩ (some d) args (f,a,b):=.inl ⟨ps,r,he,h,hk⟩
theorem Fl (ks rs:List Nat):dh 0 ks rs=(ks.map (· + 1),rs.map (· + 1)):=_root_.id rfl
theorem Fk (ks rs:List Nat):dh 1 ks rs=(ks.map (· + 1),0::rs.map (· + 1)):=_root_.id rfl
theorem Fj (ks rs:List Nat):dh 2 ks rs=(0::ks.map (· + 1),rs.map (· + 1)):=_root_.id rfl
theorem mD (g:Bool)(sz:Nat)(x:AX):aW (.load g sz x)=0:=_root_.id rfl
theorem kx (sz:Nat)(x v:AX):aW (.store sz x v)=0:=_root_.id rfl
theorem kw (x:AX):aW (.toStr x)=0:=_root_.id rfl
theorem kA (sz:Nat)(zs:List PV)(x:AX):aW (.clear sz zs x)=0:=_root_.id rfl
theorem jd (n sz:Nat)(x:AX)(l h:Option AX):aW (.sliceA n sz x l h)=0:=_root_.id rfl
theorem kB (T:Nat)(z:List PV):aW (.alloc T z)=1:=_root_.id rfl
theorem pU (T:Nat)(x:AX):aW (.box T x)=1:=_root_.id rfl
theorem mH (T:Nat)(x:AX):aW (.cbox T x)=1:=_root_.id rfl
theorem je (m:Bool)(e s l:Nat)(x:List AX):aW (.bslice m e s l x)=1:=_root_.id rfl
theorem jf (m:Bool)(e s l:Nat)(x y:AX):aW (.append m e s l x y)=1:=_root_.id rfl
theorem ud (m:Bool)(e s l:Nat)(z:List PV)(x y:AX):aW (.mk m e s l z x y)=1:=_root_.id rfl
theorem BV {A:List (List Nat)}{F:St→Prop}{T:List (List Nat×List Nat)}{s:St}(h:Chk (okB A T)):vcD P G A F [] T s=F s:=by
 show (okB A T=true∧F s)=F s
 rw[eq_iff_iff]
 exact⟨fun x=>x.2,fun x=>⟨h,x⟩⟩
theorem xa (A:List (List Nat))(F:St→Prop)(d:Option Nat)(o:AOp)(r:List AOper)(T:List (List Nat×List Nat))(s:St):vcD P G A F (⟨d,o,none⟩::r) T s=eK P G (vcD P G A F r) T s d o:=_root_.id rfl
theorem rR (A:List (List Nat))(F:St→Prop)(d:Option Nat)(o:AOp)(i:Nat)(b:Bool)(r:List AOper)(T:List (List Nat×List Nat))(e:List (Nat×AV))(σ:List (Nat×Blk))(n:Nat) :
  vcD P G A F (⟨d,o,some (i,b)⟩::r) T ⟨e,σ,n⟩=aE (f0 b (look i e)) (k9 P G (vcD P G A F r) T ⟨e,σ,n⟩ d o):=_root_.id rfl
theorem qH (F:List (List Nat×List Nat)→St→Prop)(T:List (List Nat×List Nat))(s:St)(d:Option Nat)(o:AOp):k9 P G F T s d o true=eK P G F T s d o:=_root_.id rfl
theorem m5 (F:List (List Nat×List Nat)→St→Prop)(T:List (List Nat×List Nat))(e:List (Nat×AV))(σ:List (Nat×Blk))(n:Nat)(d:Nat)(o:AOp):k9 P G F T ⟨e,σ,n⟩ (some d) o false=F (T++[([],[])]) ⟨(d,.pv .undef)::e,σ,n⟩:=_root_.id rfl
theorem k8 (F:List (List Nat×List Nat)→St→Prop)(T:List (List Nat×List Nat))(s:St)(o:AOp):k9 P G F T s none o false=F (T++[([],[])]) s:=_root_.id rfl
theorem DJ (F:List (List Nat×List Nat)→St→Prop)(T:List (List Nat×List Nat))(e:List (Nat×AV))(σ:List (Nat×Blk))(n:Nat)(d:Option Nat)(o:TOp):eK P G F T ⟨e,σ,n⟩ d (.t o)=aE (dP e o) (sg F T ⟨e,σ,n⟩ d):=by
 rw[← r6 e σ n];rfl
def c8 (e:List (Nat×AV)):XOp→List Nat
 | .cap _ x=>(evE e x).name
 | .resl _ x _=>(evE e x).name
 | .copy _ x y | .apart x y=>(evE e x).name++(evE e y).name
 | .appz _ _ _ _ x _=>(evE e x).name
 | .ucast _ _ _ x | .apps _ _ x _ | .ustr _ x _=>(evE e x).name
 | .noesc _ | .peq _ _ _ | .anyc | .sdata _ | .ofStr _ | .fnil _ _ _ | .inil _ _ _ | .idxb _ _ | .mki _ _=>[]
def cn (e:List (Nat×AV)):MOp→List Nat
 | .xop o=>c8 e o
 | .load _ _ x | .sliceA _ _ x _ _ | .clear _ _ x | .toStr x=>(evE e x).name
 | .append _ _ _ _ x y=>(evE e x).name++(evE e y).name
 | .store _ x _=>(evE e x).name
 | .alloc _ _ | .box _ _ | .cbox _ _ | .bslice _ _ _ _ _ | .mk _ _ _ _ _ _ _=>[]
theorem uh (e:List (Nat×AV))(mu:Bool)(t sz b:Nat)(zs:List PV)(x y:AX):cn e (.mk mu t sz b zs x y)=[]:=_root_.id rfl
theorem kC (e:List (Nat×AV))(x:AX):cn e (.toStr x)=(evE e x).name:=_root_.id rfl
theorem kE (e:List (Nat×AV))(sz:Nat)(zs:List PV)(x:AX):cn e (.clear sz zs x)=(evE e x).name:=_root_.id rfl
theorem mL (e:List (Nat×AV))(g:Bool)(sz:Nat)(x:AX):cn e (.load g sz x)=(evE e x).name:=_root_.id rfl
theorem pZ (e:List (Nat×AV))(T:Nat)(x:AX):cn e (.box T x)=[]:=_root_.id rfl
theorem mM (e:List (Nat×AV))(T:Nat)(x:AX):cn e (.cbox T x)=[]:=_root_.id rfl
theorem kG (e:List (Nat×AV))(T:Nat)(x:List PV):cn e (.alloc T x)=[]:=_root_.id rfl
theorem kD (e:List (Nat×AV))(sz:Nat)(x v:AX):cn e (.store sz x v)=(evE e x).name:=_root_.id rfl
theorem jh (e:List (Nat×AV))(mu:Bool)(t sz b:Nat)(x y:AX):cn e (.append mu t sz b x y)=(evE e x).name++(evE e y).name:=_root_.id rfl
theorem jg (e:List (Nat×AV))(mu:Bool)(t sz b:Nat)(x:List AX):cn e (.bslice mu t sz b x)=[]:=_root_.id rfl
theorem CZ (p:PV):(AV.pv p).name=[]:=_root_.id rfl
theorem zk (r o:Nat):(AV.ptr r o).name=[r]:=_root_.id rfl
theorem zj (r s o n:Nat):(AV.row r s o n).name=[r]:=_root_.id rfl
theorem pP (r s:Nat)(l:List PV):(AV.olist r s l).name=[r]:=_root_.id rfl
theorem uC:aM ([]:List (Nat×Blk))=[]:=_root_.id rfl
theorem qf (r:Nat)(B:Blk)(q:List (Nat×Blk)):aM ((r,B)::q)=r::aM q:=_root_.id rfl
theorem DK (F:List (List Nat×List Nat)→St→Prop)(T:List (List Nat×List Nat))(e:List (Nat×AV))(σ:List (Nat×Blk))(n:Nat)(d:Option Nat)(o:MOp):eK P G F T ⟨e,σ,n⟩ d (.m o)=aE (ia G e σ n o) (stepM F T ⟨e,σ,n⟩ d (aW o) (cn e o)):=by
 have:cn e o=o.reads (St.E ⟨e,σ,n⟩):=by
  cases o<;>simp only[cn,MOp.reads,fJ]
  rename_i o
  cases o<;>simp only[c8,XOp.reads,fJ]
 rw[← uf G e σ n,this];rfl
theorem qF (F:List (List Nat×List Nat)→St→Prop)(T:List (List Nat×List Nat))(e:List (Nat×AV))(σ:List (Nat×Blk))(n:Nat)(d:Option Nat)(f:AX)(xs:List AX):eK P G F T ⟨e,σ,n⟩ d (.call f xs)=aE (ce (evE e f)) (iM P G F T ⟨e,σ,n⟩ d (evL e xs)):=by
 rw[← fJ e σ n,← vh e σ n];rfl
def qO (e:List (Nat×AV)):List Nat→List (Nat×AV)
 | []=>[]
 | k::r=>(k,look k e)::qO e r
theorem vJ (e:List (Nat×AV)):qO e []=[]:=_root_.id rfl
theorem qN (e:List (Nat×AV))(k:Nat)(r:List Nat):qO e (k::r)=(k,look k e)::qO e r:=_root_.id rfl
theorem oi (e:List (Nat×AV))(σ:List (Nat×Blk))(n:Nat):∀ (l:List Nat),l.map (fun i=>(i,St.E ⟨e,σ,n⟩ i))=qO e l
 | []=>rfl
 | k::r=>by rw[List.map_cons,oi e σ n r];rfl
theorem vK (seen:List Nat):fB seen []=[]:=_root_.id rfl
theorem qP (seen:List Nat)(k:Nat)(b:Blk)(r:List (Nat×Blk)):fB seen ((k,b)::r)=qK k b (fB (k::seen) r) (nQ k seen):=_root_.id rfl
theorem DM (k:Nat)(b:Blk)(r:List (Nat×Blk)):qK k b r true=r:=_root_.id rfl
theorem DN (k:Nat)(b:Blk)(r:List (Nat×Blk)):qK k b r false=(k,b)::r:=_root_.id rfl
theorem zm (k:Nat):nQ k []=false:=_root_.id rfl
theorem FN (k j:Nat)(r:List Nat):nQ k (j::r)=if j=k then true else nQ k r:=_root_.id rfl
theorem yU (Q:AExit→St→Prop)(keep:List Nat)(e:List (Nat×AV))(σ:List (Nat×Blk))(n:Nat):ml Q keep ⟨e,σ,n⟩=Q .norm ⟨qO e keep,fB [] σ,n⟩:=by
 rw[← oi e σ n];rfl
theorem ww (F:St→Prop)(Q:AExit→St→Prop)(s:St):BG F Q .norm s=F s:=_root_.id rfl
theorem wy (F:St→Prop)(Q:AExit→St→Prop)(i:Nat)(s:St):BG F Q (.exit i) s=Q (.exit i) s:=_root_.id rfl
theorem AZ (F:St→Prop)(Q:AExit→St→Prop)(s:St):BG F Q .ret s=Q .ret s:=_root_.id rfl
theorem np (id:Nat)(Q:AExit→St→Prop)(s:St):dZ id Q .norm s=Q .norm s:=_root_.id rfl
theorem nq (id:Nat)(Q:AExit→St→Prop)(i:Nat)(s:St):dZ id Q (.exit i) s=if i=id then Q .norm s else Q (.exit i) s:=_root_.id rfl
theorem rp (id:Nat)(Q:AExit→St→Prop)(s:St):dZ id Q .ret s=Q .ret s:=_root_.id rfl
theorem BR (m0:Nat)(Q:AExit→St→Prop)(s:St):vc P G m0 .skip Q s=Q .norm s:=_root_.id rfl
theorem EX (m0:Nat)(l:List AOper)(keep:List Nat)(Q:AExit→St→Prop)(s:St):vc P G m0 (.ops l keep) Q s=cj P G l (ml Q keep) s:=_root_.id rfl
theorem BT (m0:Nat)(A:List (List Nat))(l l2:List AOper)(keep:List Nat)(Q:AExit→St→Prop)(s:St):vc P G m0 (.draw A l l2 keep) Q s=vcD P G A (cj P G l2 (ml Q keep)) l [] s:=_root_.id rfl
theorem DI (F:St→Prop)(e:List (Nat×AV))(σ:List (Nat×Blk))(n:Nat)(d:Option Nat)(g:Option (Bool×Nat))(x:AX):g9 P G F ⟨e,σ,n⟩ d (.fz g x)=aE (Bw G (fun r=>lookB r σ) g (evE e x)) (pL F ⟨e,σ,n⟩ d):=by
 rw[← fJ e σ n];rfl
theorem EV (m0:Nat)(a b:ACode)(Q:AExit→St→Prop)(s:St):vc P G m0 (.seq a b) Q s=vc P G m0 a (BG (vc P G m0 b Q) Q) s:=_root_.id rfl
theorem BU (m0:Nat)(x:AX)(a b:ACode)(Q:AExit→St→Prop)(e:List (Nat×AV))(σ:List (Nat×Blk))(n:Nat):vc P G m0 (.cond x a b) Q ⟨e,σ,n⟩=kg (evE e x) (vc P G m0 a Q) (vc P G m0 b Q) ⟨e,σ,n⟩:=by
 rw[← fJ e σ n];rfl
theorem w9 (m0 id:Nat)(b:ACode)(Q:AExit→St→Prop)(s:St):vc P G m0 (.block id b) Q s=vc P G m0 b (dZ id Q) s:=_root_.id rfl
theorem BS (m0 id:Nat)(Q:AExit→St→Prop)(s:St):vc P G m0 (.exit id) Q s=Q (.exit id) s:=_root_.id rfl
theorem EW (m0:Nat)(Q:AExit→St→Prop)(s:St):vc P G m0 .ret Q s=Q .ret s:=_root_.id rfl
theorem yR (b:Bool)(F H:St→Prop)(s:St):kg (.pv (.bool b)) F H s=ifB b F H s:=by cases b<;>rfl
theorem Iu (F H:St→Prop)(s:St):ifB true F H s=F s:=_root_.id rfl
theorem Iv (F H:St→Prop)(s:St):ifB false F H s=H s:=_root_.id rfl
def Fv (G:Nat→List PV)(e:List (Nat×AV))(σ:List (Nat×Blk)):ARes→Option AV
 | .tmp t=>some (look t e)
 | .cell t g sz=>cQ G g sz (fun r=>lookB r σ) (look t e)
theorem xS (e:List (Nat×AV))(σ:List (Nat×Blk))(t:Nat):Fv G e σ (.tmp t)=some (look t e):=_root_.id rfl
theorem sB (e:List (Nat×AV))(σ:List (Nat×Blk))(t:Nat)(g:Bool)(sz:Nat):Fv G e σ (.cell t g sz)=cQ G g sz (fun r=>lookB r σ) (look t e):=_root_.id rfl
theorem A1 (res:List ARes)(R:AV→List (Nat×Blk)→Nat→Prop)(s:St):FnK G res R .norm s=aE (dj G s res) (Bj R s):=_root_.id rfl
theorem Eh (res:List ARes)(R:AV→List (Nat×Blk)→Nat→Prop)(s:St):FnK G res R .ret s=aE (dj G s res) (Bj R s):=_root_.id rfl
theorem Cl (R:AV→List (Nat×Blk)→Nat→Prop)(e:List (Nat×AV))(σ:List (Nat×Blk))(n:Nat)(l:List AV):Bj R ⟨e,σ,n⟩ l=R (rr l) σ n:=_root_.id rfl
theorem Fr (x:AV):rr [x]=x:=_root_.id rfl
theorem Fs:rr [] = .pv (.tup []):=_root_.id rfl
theorem Fq (x y:AV)(r:List AV):rr (x::y::r)=km (x::y::r):=_root_.id rfl
def Gu:Option AV→Option (List AV)→Option (List AV)
 | some a,some b=>some (a::b)
 | _,_=>none
theorem qL (a:AV)(b:List AV):Gu (some a) (some b)=some (a::b):=_root_.id rfl
theorem sA (s:St):dj G s []=some []:=_root_.id rfl
theorem oX (e:List (Nat×AV))(σ:List (Nat×Blk))(n:Nat)(r:ARes)(q:List ARes):dj G ⟨e,σ,n⟩ (r::q)=Gu (Fv G e σ r) (dj G ⟨e,σ,n⟩ q):=by
 have:Fu G ⟨e,σ,n⟩ r=Fv G e σ r:=by cases r<;>rfl
 show (match Fu G ⟨e,σ,n⟩ r,dj G ⟨e,σ,n⟩ q with | some a,some b=>some (a::b) | _,_=>none)=_
 rw[this]
 cases Fv G e σ r<;>cases dj G ⟨e,σ,n⟩ q<;>rfl
theorem yE (r:PV)(v:AV)(σ:List (Nat×Blk))(n:Nat):FC r v σ n=isR r σ v:=_root_.id rfl
theorem FU (r p:PV)(σ:List (Nat×Blk)):isR r σ (.pv p)=Nz p r:=propext ⟨fun ⟨q,h,g⟩=>by cases h;exact g,fun h=>⟨(p,[]),rfl,h⟩⟩
theorem uG (r:PV)(k sz:Nat)(l:List PV)(σ:List (Nat×Blk)):isR r σ (.olist k sz l)=Nz (.list l) r:=propext ⟨fun ⟨q,h,g⟩=>by cases h;exact g,fun h=>⟨(.list l,[]),rfl,h⟩⟩
def FW (r:PV):Option (PV×List Nat)→Prop
 | some q=>Nz q.1 r
 | none=>False
theorem uI (r p:PV)(l:List Nat):FW r (some (p,l))=Nz p r:=_root_.id rfl
theorem uH (r:PV)(σ:List (Nat×Blk))(v:AV):isR r σ v=FW r (mR (fun r=>lookB r σ) v):=by
 unfold isR FW
 cases mR (fun r=>lookB r σ) v with
 | none=>simp
 | some q=>simp
theorem De (r:PV)(cs:List AV)(σ:List (Nat×Blk)):isR r σ (.agg cs)=FW r ((wM (fun r=>lookB r σ) cs).map fun p=>(.agg p.1,p.2)):=uH _ _ _
theorem Dd (r:PV)(k sz len:Nat)(σ:List (Nat×Blk)):isR r σ (.row k sz 0 len)=FW r (Dp sz len k (lookB k σ)):=uH _ _ _
def qk:List AV→Nat→List (Nat×AV)
 | [],_=>[]
 | x::r,k=>(k,x)::qk r (k+1)
theorem uL (k:Nat):qk [] k=[]:=_root_.id rfl
theorem qj (x:AV)(r:List AV)(k:Nat):qk (x::r) k=(k,x)::qk r (k+1):=_root_.id rfl
theorem uK:∀ (args:List AV) (k:Nat),((args.zipIdx k).map fun p=>(p.2,p.1))=qk args k
 | [],k=>rfl
 | x::r,k=>by rw[List.zipIdx_cons,List.map_cons,uK r (k+1)];rfl
theorem qi (args:List AV):bZ args=qk args 0:=uK args 0
theorem H6 {ι:Type}(S:ι→St)(Inv:ι→Prop)(μ:ι→Nat)(x0:ι){m0:Nat}{keep:List Nat}{b:ACode}{Q:AExit→St→Prop}{s:St}(h0:Wk m0 s (S x0))(hi:Inv x0)
  (h:∀ x,Inv x→vc P G m0 b (fun e s'=>match e with
   | .norm=>∃ x',Wk m0 s' (S x')∧Inv x'∧μ x'<μ x
   | .exit i=>Q (.exit i) s'
   | .ret=>Q .ret s') (S x)):vc P G m0 (.loop keep b) Q s:=by
 refine⟨fun n s=>∃ x,s=S x∧Inv x∧μ x=n,⟨μ x0,S x0,h0,x0,rfl,hi,rfl⟩,?_⟩
 rintro n s ⟨x,rfl,hx,rfl⟩
 refine bI b (fun e s' hs=>?_) _ (h x hx)
 cases e with
 | norm=>
   obtain⟨x',h1,h2,h3⟩:=hs
   exact⟨_,_,h3,h1,x',rfl,h2,rfl⟩
 | exit i=>exact⟨s',Wk.of (Wx.refl s') m0,hs⟩
 | ret=>exact hs
def Hd (A:List (Nat×Nat×Nat×Nat))(m0:Nat)(keep:List Nat)(s t:St):Prop:=Wk m0 s t
theorem bl {A:List (Nat×Nat×Nat×Nat)}{m0:Nat}{keep:List Nat}{s t:St}(h:StZ (cW A m0 keep s) t):Hd A m0 keep s t:=Wk.head h
def iP {ι:Type}(A:List (Nat×Nat×Nat×Nat))(S:ι→St)(Inv:ι→Prop)(μ:ι→Nat)(x:ι)(m0:Nat)(keep:List Nat)(Q:AExit→St→Prop):AExit→St→Prop
 | .norm,s'=>∃ x',Hd A m0 keep s' (S x')∧Inv x'∧μ x'<μ x
 | .exit i,s'=>Q (.exit i) s'
 | .ret,s'=>Q .ret s'
theorem nk {ι:Type}(A:List (Nat×Nat×Nat×Nat))(S:ι→St)(Inv:ι→Prop)(μ:ι→Nat)(x:ι)(m0:Nat)(keep:List Nat)(Q:AExit→St→Prop)(s:St):iP A S Inv μ x m0 keep Q .norm s = ∃ x',Hd A m0 keep s (S x')∧Inv x'∧μ x'<μ x:=_root_.id rfl
theorem nl {ι:Type}(A:List (Nat×Nat×Nat×Nat))(S:ι→St)(Inv:ι→Prop)(μ:ι→Nat)(x:ι)(m0:Nat)(keep:List Nat)(Q:AExit→St→Prop)(i:Nat)(s:St):iP A S Inv μ x m0 keep Q (.exit i) s=Q (.exit i) s:=_root_.id rfl
theorem rm {ι:Type}(A:List (Nat×Nat×Nat×Nat))(S:ι→St)(Inv:ι→Prop)(μ:ι→Nat)(x:ι)(m0:Nat)(keep:List Nat)(Q:AExit→St→Prop)(s:St):iP A S Inv μ x m0 keep Q .ret s=Q .ret s:=_root_.id rfl
theorem rO {ι:Type}(A:List (Nat×Nat×Nat×Nat))(S:ι→St)(Inv:ι→Prop)(μ:ι→Nat)(x0:ι){m0:Nat}{keep:List Nat}{b:ACode}{Q:AExit→St→Prop}{s:St}(h0:Hd A m0 keep s (S x0))(hi:Inv x0)
  (h:∀ x,Inv x→vc P G m0 b (iP A S Inv μ x m0 keep Q) (S x)):vc P G m0 (.loop keep b) Q s:=by
 refine H6 S Inv μ x0 h0 hi fun x hx=>?_
 have e:(fun (e:AExit) (s':St)=>match e with
   | .norm=>∃ x',Wk m0 s' (S x')∧Inv x'∧μ x'<μ x
   | .exit i=>Q (.exit i) s'
   | .ret=>Q .ret s')=iP A S Inv μ x m0 keep Q:=by
  funext e s'
  cases e<;>rfl
 rw[e];exact h x hx
def pr (k:Nat)(x:AV):List (Nat×AV)→AV
 | []=>x
 | p::r=>if p.1=k then p.2 else pr k x r
def eb:List (Nat×AV)→List (Nat×AV)→List (Nat×AV)
 | [],_=>[]
 | p::r,ch=>(p.1,pr p.1 p.2 ch)::eb r ch
def pw (k:Nat)(x:Blk):List (Nat×Blk)→Blk
 | []=>x
 | p::r=>if p.1=k then p.2 else pw k x r
def eZ:List (Nat×Blk)→List (Nat×Blk)→List (Nat×Blk)
 | [],_=>[]
 | p::r,ch=>(p.1,pw p.1 p.2 ch)::eZ r ch
theorem tB (k:Nat)(x:AV):pr k x []=x:=_root_.id rfl
theorem pq (k j:Nat)(x y:AV)(r:List (Nat×AV)):pr k x ((j,y)::r)=if j=k then y else pr k x r:=_root_.id rfl
theorem tD (ch:List (Nat×AV)):eb [] ch=[]:=_root_.id rfl
theorem pA (k:Nat)(x:AV)(r ch:List (Nat×AV)):eb ((k,x)::r) ch=(k,pr k x ch)::eb r ch:=_root_.id rfl
theorem tC (k:Nat)(x:Blk):pw k x []=x:=_root_.id rfl
theorem pu (k j:Nat)(x y:Blk)(r:List (Nat×Blk)):pw k x ((j,y)::r)=if j=k then y else pw k x r:=_root_.id rfl
theorem tE (ch:List (Nat×Blk)):eZ [] ch=[]:=_root_.id rfl
theorem pB (k:Nat)(x:Blk)(r ch:List (Nat×Blk)):eZ ((k,x)::r) ch=(k,pw k x ch)::eZ r ch:=_root_.id rfl
theorem az {ι:Type}(A:List (Nat×Nat×Nat×Nat))(ch:ι→List (Nat×AV))(chB:ι→List (Nat×Blk))(Inv:ι→Prop)(μ:ι→Nat)(x0:ι){m0:Nat}{keep:List Nat}{b:ACode}{Q:AExit→St→Prop}{s:St}
  (h:∀ e0 σ0 n0,cW A m0 keep s=⟨e0,σ0,n0⟩→StZ ⟨e0,σ0,n0⟩ ⟨eb e0 (ch x0),eZ σ0 (chB x0),n0⟩∧Inv x0 ∧
   ∀ x,Inv x→vc P G m0 b (iP A (fun x=>⟨eb e0 (ch x),eZ σ0 (chB x),n0⟩) Inv μ x m0 keep Q) ⟨eb e0 (ch x),eZ σ0 (chB x),n0⟩):vc P G m0 (.loop keep b) Q s:=by
 obtain⟨h1,h2,h3⟩:=h (cW A m0 keep s).env (cW A m0 keep s).sto (cW A m0 keep s).next rfl
 exact rO A (fun x=>⟨eb (cW A m0 keep s).env (ch x),eZ (cW A m0 keep s).sto (chB x),(cW A m0 keep s).next⟩) Inv μ x0 (bl h1) h2 h3
end
end Go.Ab

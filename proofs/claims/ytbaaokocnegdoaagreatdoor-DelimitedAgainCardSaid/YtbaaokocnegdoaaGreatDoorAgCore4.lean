/- A program logic over the model: part 4 (a proof is built on it; nothing of the statement is said here). -/
import Derived.Test.YtbaaokocnegdoaaGreatDoorAgCore3
set_option linter.unusedVariables false
set_option linter.unusedSimpArgs false
namespace Go.Ab
open Go Go.RowKit
theorem nY (keep:List Nat)(g:Nat->AV)(i:Nat):look i (keep.map fun k=>(k,g k))=if i∈keep then g i else .any:=by
 induction keep with
 | nil=>rfl
 | cons k r ih=>
   simp only[List.map_cons,look,ih,List.mem_cons]
   by_cases h:k=i
   ·simp[h]
   ·simp only[if_neg h,show (i=k)=False from eq_false (fun e=>h e.symm),false_or]
theorem dF:∀ (l acc:List Nat),acc.Nodup->(br acc l).Nodup
 | [],acc,h=>h
 | n::r,acc,h=>by
   rw[br]
   refine dF r _ ?_
   split
   ·exact h
   ·rename_i hn
    have hn':n∉acc:=by simpa using hn
    refine List.nodup_append.2 ⟨h,by simp,?_⟩
    intro a ha b hb
    simp at hb;subst hb
    rintro rfl
    exact hn' ha
theorem fj:∀ (l acc:List Nat) (x:Nat),x∈br acc l->x∈acc\/x∈l
 | [],acc,x,h=>.inl h
 | n::r,acc,x,h=>by
   rw[br] at h
   rcases fj r _ x h with h | h
   ·split at h
    ·exact .inl h
    ·rcases List.mem_append.1 h with h | h
     ·exact .inl h
     ·simp at h;subst h;exact .inr (by simp)
   ·exact .inr (by simp[h])
theorem po (m0:Nat)(sto:List (Nat×Blk)):∀ (k:Nat) (acc:List Nat),acc.Nodup->(∀ x∈acc,m0<=x)->(fQ m0 sto k acc).Nodup/\∀ x∈fQ m0 sto k acc,m0<=x
 | 0,acc,h,g=>⟨h,g⟩
 | k+1,acc,h,g=>by
   rw[fQ]
   refine po m0 sto k _ (dF _ _ h) fun x hx=>?_
   rcases fj _ _ _ hx with h | h
   ·exact g x h
   ·simpa using (List.mem_filter.1 h).2
theorem Mk (m0:Nat)(keep:List Nat)(s:St):(Pt m0 keep s).Nodup/\∀ x∈Pt m0 keep s,m0<=x:=by
 refine po m0 s.sto _ _ (dF _ _ (by simp)) fun x hx=>?_
 rcases fj _ _ _ hx with h | h
 ·simp at h
 ·simpa using (List.mem_filter.1 h).2
theorem vq {x i:Nat}:∀ (l:List Nat) (k:Nat),Io x l k=some i->k<=i/\l[i - k]? = some x
 | [],k,h=>by simp[Io] at h
 | y::r,k,h=>by
   rw[Io] at h
   split at h
   ·rename_i hy
    cases h
    exact⟨Nat.le_refl _,by simp[hy]⟩
   ·obtain⟨h1,h2⟩:=vq r (k+1) h
    refine⟨by omega,?_⟩
    rw[show i - k=(i - (k+1))+1 by omega]
    simpa using h2
mutual
theorem rY {κ κ':Kap}(hw:κ'.w=κ.w)(hi:κ'.imm=κ.imm){f:Nat->Option Nat}(hf:∀ r r',f r=some r'->κ'.nm r'=κ.nm r):∀ (x:AV) (v:Value),ARel κ x v->ARel κ' (x.ren f) v
 | .pv p,v,h=>by
   cases h with
   | pv _ _ hp=>exact .pv _ _ (by rw[hw,hi];exact hp)
 | .any,v,h=>.any v
 | .ptr r o,v,h=>by
   cases h with
   | ptr _ _ b n hn=>
     simp only[AV.ren]
     split
     ·rename_i r' hr;exact .ptr _ _ b n (by rw[hf r r' hr];exact hn)
     ·exact .any _
 | .row r a b c,v,h=>by
   cases h with
   | row _ _ _ _ bb n cap hn h1 h2 h3 h4=>
     simp only[AV.ren]
     split
     ·rename_i r' hr;exact .row _ _ _ _ bb n cap (by rw[hf r r' hr];exact hn) h1 h2 h3 h4
     ·exact .any _
   | row0 _ _ hn=>
     simp only[AV.ren]
     split
     ·rename_i r' hr;exact .row0 _ _ (by rw[hf r r' hr];exact hn)
     ·exact .any _
 | .olist r a l,v,h=>by
   cases h with
   | olist _ _ _ _ hn hp hs=>
     simp only[AV.ren]
     split
     ·rename_i r' hr;exact .olist _ _ _ _ (by rw[hf r r' hr];exact hn) (by rw[hw,hi];exact hp) hs
     ·exact .pv _ _ (by rw[hw,hi];exact hp)
 | .agg cs,v,h=>by
   cases h with
   | agg _ vs hl hr=>
     simp only[AV.ren]
     obtain⟨h1,h2⟩:=en hw hi hf cs vs hr
     exact .agg _ _ (by rw[h1];exact hl) h2
 | .tup cs,v,h=>by
   cases h with
   | tup _ vs hl hr=>
     simp only[AV.ren]
     obtain⟨h1,h2⟩:=en hw hi hf cs vs hr
     exact .tup _ _ (by rw[h1];exact hl) h2
 | .clo g fs cs,v,h=>by
   cases h with
   | clo _ _ _ vs us hl hr hl' hr'=>
     simp only[AV.ren]
     obtain⟨h1,h2⟩:=en hw hi hf fs vs hr
     obtain⟨h3,h4⟩:=en hw hi hf cs us hr'
     exact .clo _ _ _ _ _ (by rw[h1];exact hl) h2 (by rw[h3];exact hl') h4
theorem en {κ κ':Kap}(hw:κ'.w=κ.w)(hi:κ'.imm=κ.imm){f:Nat->Option Nat}(hf:∀ r r',f r=some r'->κ'.nm r'=κ.nm r):∀ (xs:List AV) (vs:Array Value),
  (∀ (i:Nat) (x:AV),xs[i]? = some x->ARel κ x (vs.getD i Go.undef))->(AV.renL f xs).length=xs.length/\∀ (i:Nat) (x:AV),(AV.renL f xs)[i]? = some x->ARel κ' x (vs.getD i Go.undef)
 | [],vs,h=>by simp[AV.renL]
 | x::r,vs,h=>by
   obtain⟨h1,h2⟩:=en hw hi hf r (vs.extract 1 vs.size) (fun i y hy=>by
    have:=h (i+1) y (by simpa using hy)
    have e:(vs.extract 1 vs.size).getD i Go.undef=vs.getD (i+1) Go.undef:=by
     simp only[Array.getD_eq_getD_getElem?,Array.getElem?_extract]
     by_cases hh:i<min vs.size vs.size - 1
     ·rw[if_pos hh];congr 2;omega
     ·rw[if_neg hh,Array.getElem?_eq_none (by omega)]
    rw[e];exact this)
   refine⟨by simp[AV.renL,h1],fun i y hy=>?_⟩
   cases i with
   | zero=>
     simp only[AV.renL,List.getElem?_cons_zero,Option.some.injEq] at hy
     subst hy
     exact rY hw hi hf x _ (h 0 x (by simp))
   | succ i=>
     simp only[AV.renL,List.getElem?_cons_succ] at hy
     have:=h2 i y hy
     have e:(vs.extract 1 vs.size).getD i Go.undef=vs.getD (i+1) Go.undef:=by
      simp only[Array.getD_eq_getD_getElem?,Array.getElem?_extract]
      by_cases hh:i<min vs.size vs.size - 1
      ·rw[if_pos hh];congr 2;omega
      ·rw[if_neg hh,Array.getElem?_eq_none (by omega)]
     rw[e] at this;exact this
end
theorem kx {m0:Nat}{f:Nat->Option Nat}{sto:List (Nat×Blk)}{x:Nat}:∀ (l:List Nat) (k:Nat),lookB x (eK m0 f sto l k)=if k<=x then (match l[x - k]? with | some r=>(lookB r sto).ren f | none=>.none) else .none
 | [],k=>by simp[eK,lookB]
 | r::q,k=>by
   rw[eK,lookB]
   simp only
   by_cases h:k=x
   ·subst h;simp
   ·rw[if_neg h,kx q (k+1)]
    by_cases hk:k<=x
    ·rw[if_pos (by omega),if_pos hk,show x - k=(x - (k+1))+1 by omega]
     simp
    ·rw[if_neg (by omega),if_neg hk]
section
variable {P:Program}{c:Ctx}{κ0 κ:Kap}{N:Nat}{s:St}{a:Act}{w:World}
theorem Rel.clip (h:Rel c κ0 N s a w κ)(keep:List Nat):Rel c κ0 N (clip keep s) a w κ:=by
 have e:(Go.Ab.clip keep s).σ=s.σ:=by funext r;exact ld s.sto [] r rfl
 refine⟨h.w_eq,h.ext0,by rw[e];exact h.rel,h.left,fun i=>?_,h.size,h.defers,h.fresh⟩
 simp only[Go.Ab.clip,St.E]
 rw[nY keep (fun i=>look i s.env) i]
 split
 ·exact h.env i
 ·exact .any _
theorem Rel.clip0 (h:Rel c κ0 N s a w κ)(keep:List Nat):Rel c κ0 N (clip0 keep s) a w κ:=by
 refine⟨h.w_eq,h.ext0,h.rel,h.left,fun i=>?_,h.size,h.defers,h.fresh⟩
 simp only[Go.Ab.clip0,St.E]
 rw[nY keep (fun i=>look i s.env) i]
 split
 ·exact h.env i
 ·exact .any _
theorem Rel.norm (h:Rel c κ0 N s a w κ){m0:Nat}(h0:∀ r,m0<=r->κ0.nm r=none)(keep:List Nat):∃ κ',Rel c κ0 N (norm m0 keep s) a w κ':=by
 obtain⟨hnd,hge⟩:=Mk m0 keep s
 let os:=Pt m0 keep s
 let f:=dA m0 os
 let nm':Nat->Option Den:=fun n=>if n<m0 then κ.nm n else match os[n - m0]? with | some r=>κ.nm r | none=>none
 let κ':Kap:=⟨κ.w,nm',κ.imm⟩
 have hf:∀ r r',f r=some r'->κ'.nm r'=κ.nm r:=by
  intro r r' hr
  simp only[f,dA] at hr
  split at hr
  ·cases hr;rename_i hlt;simp[κ',nm',hlt]
  ·obtain⟨h1,h2⟩:=vq os m0 hr
   simp only[κ',nm']
   rw[if_neg (by omega),h2]
 have he0:Ext κ0 κ':=by
  refine⟨h.ext0.imm,h.ext0.cell,fun r d hr=>?_,h.ext0.obj⟩
  have hlt:r<m0:=by
   rcases Nat.lt_or_ge r m0 with h1 | h1
   ·exact h1
   ·rw[h0 r h1] at hr;cases hr
  simp only[κ',nm',if_pos hlt]
  exact h.ext0.nm r d hr
 have hS:=h.rel
 have hlook:∀ n,(Go.Ab.norm m0 keep s).σ n=if n<m0 then (lookB n s.sto).ren f else match os[n - m0]? with | some r=>(lookB r s.sto).ren f | none=>.none:=by
  intro n
  show lookB n (eK m0 f s.sto (List.range m0++os) 0)=_
  rw[kx,if_pos (Nat.zero_le _),Nat.sub_zero]
  by_cases hn:n<m0
  ·rw[if_pos hn,List.getElem?_append_left (by simpa using hn),List.getElem?_range hn]
  ·rw[if_neg hn,List.getElem?_append_right (by simp;omega)]
   simp only[List.length_range]
 have hold:∀ n,(Go.Ab.norm m0 keep s).σ n≠.none->∃ r,(Go.Ab.norm m0 keep s).σ n=(lookB r s.sto).ren f/\κ'.nm n=κ.nm r/\(lookB r s.sto)≠.none/\((n<m0/\r=n)\/(m0<=n/\os[n - m0]? = some r)):=by
  intro n hn
  rw[hlook] at hn ⊢
  by_cases hlt:n<m0
  ·rw[if_pos hlt] at hn ⊢
   refine⟨n,rfl,by simp[κ',nm',hlt],fun e=>hn (by rw[e];rfl),.inl ⟨hlt,rfl⟩⟩
  ·rw[if_neg hlt] at hn ⊢
   cases hr:os[n - m0]? with
   | none=>rw[hr] at hn;exact absurd rfl hn
   | some r=>
     rw[hr] at hn
     simp only at hn ⊢
     refine⟨r,rfl,?_,fun e=>hn (by rw[e];rfl),.inr ⟨by omega,rfl⟩⟩
     simp only[κ',nm']
     rw[if_neg hlt,hr]
 have hinj:∀ n n' r,((n<m0/\r=n)\/(m0<=n/\os[n - m0]? = some r))->((n'<m0/\r=n')\/(m0<=n'/\os[n' - m0]? = some r))->n=n':=by
  intro n n' r h1 h2
  rcases h1 with ⟨a1,a2⟩ | ⟨a1,a2⟩<;>rcases h2 with ⟨b1,b2⟩ | ⟨b1,b2⟩
  ·omega
  ·have:=hge r (List.mem_of_getElem? b2);omega
  ·have:=hge r (List.mem_of_getElem? a2);omega
  ·have hlt:n - m0<os.length:=(List.getElem?_eq_some_iff.1 a2).1
   have:=(List.getElem?_inj hlt hnd).1 (a2.trans b2.symm)
   omega
 refine⟨κ',h.w_eq,he0,⟨fun n=>?_,fun n n' d d' b h1 h2 hne hd hd' hb=>?_,fun n d b h1 hd hb=>?_,hS.immLt,hS.glob⟩,⟨h.left.os,h.left.tape,h.left.output,h.left.size,h.left.block,h.left.imm⟩,fun i=>?_,h.size,h.defers,fun r hr=>?_⟩
 ·by_cases hn:(Go.Ab.norm m0 keep s).σ n = .none
  ·rw[hn];trivial
  ·obtain⟨r,e1,e2,e3,_⟩:=hold n hn
   rw[e1]
   have hB:=hS.blk r
   have hB:eF κ r (lookB r s.sto):=hB
   cases hl:lookB r s.sto with
   | none=>exact absurd hl e3
   | cells T b l=>
     rw[hl] at hB
     rcases hB with ⟨k1,k2,k3⟩ | ⟨bb,n',cs,k1,k2,k3,k4,k5,k6,k7⟩
     ·exact .inl ⟨k1,by rw[k2];simp only[AV.renL],by rw[e2];exact k3⟩
     obtain⟨q1,q2⟩:=en (κ:=κ) (κ':=κ') rfl rfl hf l cs k6
     exact .inr ⟨bb,n',cs,by rw[e2];exact k1,k2,k3,by rw[q1];exact k4,fun hb=>by rw[q1];exact k5 hb,q2,k7⟩
   | tok e sz=>
     rw[hl] at hB
     rcases hB with k1 | ⟨g,n',cap,cur,k1,k2⟩
     ·exact .inl (by rw[e2];exact k1)
     exact .inr ⟨g,n',cap,cur,by rw[e2];exact k1,k2⟩
   | bts e l=>
     rw[hl] at hB
     obtain⟨b,n',cs,fz,k1,k2⟩:=hB
     exact⟨b,n',cs,fz,by rw[e2];exact k1,k2⟩
 ·obtain⟨r,e1,e2,e3,e4⟩:=hold n h1
  obtain⟨r',f1,f2,f3,f4⟩:=hold n' h2
  rw[e2] at hd;rw[f2] at hd'
  refine hS.apart r r' d d' b e3 f3 ?_ hd hd' hb
  rintro rfl
  exact hne (hinj n n' r e4 f4)
 ·obtain⟨r,e1,e2,e3,e4⟩:=hold n h1
  rw[e2] at hd
  exact hS.mine r d b e3 hd hb
 ·show ARel κ' (look i (keep.map fun i=>(i,(s.E i).ren f))) _
  rw[nY keep (fun i=>(s.E i).ren f) i]
  split
  ·exact rY (κ:=κ) (κ':=κ') rfl rfl hf _ _ (h.env i)
  ·exact .any _
 ·have hr':m0+os.length<=r:=hr
  simp only[κ',nm']
  rw[if_neg (by omega),List.getElem?_eq_none (by omega)]
end
theorem Wk.norm (m0:Nat)(keep:List Nat)(s:St):Wk m0 s (norm m0 keep s):=fun c κ0 κ N a w h0 hr=>hr.norm h0 keep
section
variable {P:Program}{c:Ctx}{κ0 κ:Kap}{N:Nat}{s:St}{a:Act}{w:World}
def fN (κ:Kap)(σ:am)(b:Nat):Prop:=∃ r d,σ r≠.none/\κ.nm r=some d/\d.block=some b
theorem fN.lt {σ:am}{b:Nat}(hS:SRel c κ σ)(h:fN κ σ b):b<κ.w.heap.size:=by
 obtain⟨r,d,h1,h2,h3⟩:=h
 exact (hS.blk r).lt h1 h2 h3
def Ku (κ:Kap)(σ:am)(G:Nat->List PV):Ctx:=⟨κ.w,fN κ σ,G,true⟩
def Ctx.round (c:Ctx):Ctx:=⟨c.w0,c.lent,c.G,true⟩
theorem Rel.rebase (h:Rel c κ0 N s a w κ)(nmb:Nat->Option Den)(hn:∀ r d,nmb r=some d->κ.nm r=some d):Rel (Ku κ s.σ c.G) ⟨κ.w,nmb,κ.imm⟩ N s a w κ:=by
 have hS:=h.rel
 refine⟨h.w_eq,⟨fun _ _ h=>h,fun _ _ _ _ h=>h,hn,fun _ _ h _=>h⟩,⟨hS.blk,hS.apart,fun r d b h1 h2 h3=>.inr ⟨r,d,h1,h2,h3⟩,hS.immLt,hS.glob.1,fun g hg=>?_⟩,
  ⟨rfl,rfl,rfl,Nat.le_refl _,fun _ _ _=>rfl,fun _ _ h=>.inl h⟩,h.env,h.size,.inl rfl,h.fresh⟩
 obtain⟨h1,h2,cs,T,fz,h3,h4⟩:=hS.glob.2 g hg
 refine⟨(Array.getElem?_eq_some_iff.1 h3).1,?_,cs,T,fz,h3,h4⟩
 rintro⟨r,d,k1,k2,k3⟩
 exact ew h1 h2 (hS.mine r d g k1 k2 k3)
theorem Rel.upward (h:Rel c κ0 N s a w κ){nmb:Nat->Option Den}{s1:St}{a1:Act}{w1:World}{κ1:Kap}(h1:Rel (Ku κ s.σ c.G) ⟨κ.w,nmb,κ.imm⟩ N s1 a1 w1 κ1)(he:Ext κ0 ⟨κ.w,nmb,κ.imm⟩) :
  Ext κ0 κ1/\SRel c κ1 s1.σ/\Left c κ0.imm κ1:=by
 have hl0:=h.left
 have hL:=h1.left
 have hS:=h1.rel
 have hlm:∀ b,fN κ s.σ b->c.mine b:=fun b ⟨r,d,h1,h2,h3⟩=>h.rel.mine r d b h1 h2 h3
 have hmine:∀ b,(Ku κ s.σ c.G).mine b->c.mine b:=by
  intro b hb
  rcases hb with hb | hb
  ·exact .inl (Nat.le_trans hl0.size hb)
  ·exact hlm b hb
 refine⟨he.trans h1.ext0,⟨hS.blk,hS.apart,fun r d b h1 h2 h3=>hmine b (hS.mine r d b h1 h2 h3),hS.immLt,hS.glob.1,fun g hg=>?_⟩,
  ⟨hL.os.trans hl0.os,hL.tape.trans hl0.tape,hL.output.trans hl0.output,Nat.le_trans hl0.size hL.size,fun b hlt hl=>?_,fun b o hi=>?_⟩⟩
 ·obtain⟨g1,g2,cs,T,fz,g3,g4⟩:=h.rel.glob.2 g hg
  exact⟨g1,g2,cs,T,fz,(hL.block g (Array.getElem?_eq_some_iff.1 g3).1 fun hl=>ew g1 g2 (hlm g hl)).trans g3,g4⟩
 ·refine (hL.block b (Nat.lt_of_lt_of_le hlt hl0.size) fun hn=>?_).trans (hl0.block b hlt hl)
  rcases hlm b hn with h4 | h4
  ·omega
  ·exact hl h4
 ·rcases hL.imm b o hi with h1 | h1
  ·exact hl0.imm b o h1
  ·exact .inr (hmine b h1)
theorem Rel.lift (h:Rel c κ0 N s a w κ){s1:St}{a1:Act}{w1:World}{κ1:Kap}(h1:Rel (Ku κ s.σ c.G) κ N s1 a1 w1 κ1):Rel c κ0 N ⟨s.env,s1.sto,s1.next⟩ a w1 κ1:=by
 obtain⟨k1,k2,k3⟩:=h.upward (nmb:=κ.nm) h1 h.ext0
 exact⟨h1.w_eq,k1,k2,k3,fun i=>(h.env i).ext h1.ext0,h.size,h.defers.ext h1.ext0,h1.fresh⟩
theorem Rel.lift2 (h:Rel c κ0 N s a w κ){s1:St}{a1:Act}{w1:World}{κ1:Kap}(h1:Rel (Ku κ s.σ c.G) κ N s1 a1 w1 κ1):Rel c.round κ0 N s1 a1 w1 κ1:=by
 obtain⟨k1,k2,k3⟩:=h.upward (nmb:=κ.nm) h1 h.ext0
 exact⟨h1.w_eq,k1,⟨k2.blk,k2.apart,k2.mine,k2.immLt,k2.glob⟩,⟨k3.os,k3.tape,k3.output,k3.size,k3.block,k3.imm⟩,h1.env,h1.size,.inl rfl,h1.fresh⟩
theorem Wk.sub {m0:Nat}{s':St}(hW:Wk m0 s s')(h0:∀ r,m0<=r->κ0.nm r=none)(h:Rel c κ0 N s a w κ) :
  ∃ κ',Rel c κ0 N s' a w κ'/\(∀ b o,κ.imm b o->κ'.imm b o)/\∀ b,fN κ' s'.σ b->fN κ s.σ b:=by
 let nmb:Nat->Option Den:=fun r=>if r<m0 then κ.nm r else none
 have hr:=h.rebase nmb (fun r d hd=>by
  simp only[nmb] at hd
  split at hd
  ·exact hd
  ·cases hd)
 obtain⟨κ',h'⟩:=hW _ ⟨κ.w,nmb,κ.imm⟩ κ N a w (fun r hr=>by simp only[nmb];rw[if_neg (by omega)]) hr
 have he0:Ext κ0 ⟨κ.w,nmb,κ.imm⟩:=by
  refine⟨h.ext0.imm,h.ext0.cell,fun r d hd=>?_,h.ext0.obj⟩
  have hlt:r<m0:=by
   rcases Nat.lt_or_ge r m0 with h1 | h1
   ·exact h1
   ·rw[h0 r h1] at hd;cases hd
  simp only[nmb]
  rw[if_pos hlt];exact h.ext0.nm r d hd
 obtain⟨k1,k2,k3⟩:=h.upward h' he0
 have hw:κ'.w=κ.w:=h'.w_eq.trans h.w_eq.symm
 have hm:dh c κ' a.defers:=by
  rcases h.defers with hm | ⟨Ds,m1,m2,m3⟩
  ·exact .inl hm
  ·exact .inr ⟨Ds,m1,m2,fun D hD=>⟨(m3 D hD).1,by rw[hw];exact (m3 D hD).2⟩⟩
 refine⟨κ',⟨h'.w_eq,k1,k2,k3,h'.env,h'.size,hm,h'.fresh⟩,fun b o hi=>h'.ext0.imm b o hi,fun b hn=>?_⟩
 have hlt:=hn.lt h'.rel
 obtain⟨r,d,q1,q2,q3⟩:=hn
 rcases h'.rel.mine r d b q1 q2 q3 with h4 | h4
 ·rw[hw] at hlt;exact absurd hlt (Nat.not_lt.2 h4)
 ·exact h4
theorem Rel.turn (h:Rel c κ0 N s a w κ)(hk:κ0.w.heap.size<=c.w0.heap.size){w':World}(h1:w'.os=w.os)(h2:w'.tape=w.tape)(h3:w'.output=w.output)(h4:w.heap.size<=w'.heap.size)
  (h5:∀ (b:Nat) (o:Obj),w.heap[b]? = some o->Hr o=true->w'.heap[b]? = some o) (h6:∀ b,b<c.w0.heap.size->w'.heap[b]? = w.heap[b]?) {ds:List Deferred} (hm:dh c ⟨w',κ.nm,κ.imm⟩ ds) :
  Rel c κ0 N s ⟨a.tmps,ds⟩ w' ⟨w',κ.nm,κ.imm⟩:=by
 have hw:=h.w_eq
 subst hw
 have hc:∀ b o v,κ.w.cell? ⟨b,o,none⟩=some v->w'.cell? ⟨b,o,none⟩=some v:=fun b o v hv=>by
  obtain⟨q,hq,hqc⟩:=cells_of_cell hv
  exact (World.cell?_of_block (a:=⟨b,o,none⟩) ((h5 b q hq (by cases q<;>first | rfl | cases hqc)).trans hq.symm)).trans hv
 have hx:∀ x v,ARel κ x v->ARel ⟨w',κ.nm,κ.imm⟩ x v:=fun x v hx=>ARel.extC (κ:=κ) (κ':=⟨w',κ.nm,κ.imm⟩) (fun _ _ h=>h) (fun b o v _ hv=>hc b o v hv) (fun _ _ h=>h) hx
 have hS:=h.rel
 refine⟨rfl,⟨h.ext0.imm,fun b o v hi hv=>hc _ _ _ (h.ext0.cell b o v hi hv),h.ext0.nm,fun b o ho hb=>?_⟩,⟨fun r=>?_,hS.apart,hS.mine,fun b o hi=>Nat.lt_of_lt_of_le (hS.immLt b o hi) h4,fun g o p hp=>?_,fun g hg=>?_⟩,
  ⟨h1.trans h.left.os,h2.trans h.left.tape,h3.trans h.left.output,Nat.le_trans h.left.size h4,fun b hb hl=>(h6 b hb).trans (h.left.block b hb hl),h.left.imm⟩,fun i=>hx _ _ (h.env i),h.size,hm,h.fresh⟩
 ·exact (h6 b (Nat.lt_of_lt_of_le (Array.getElem?_eq_some_iff.1 ho).1 hk)).trans (h.ext0.obj b o ho hb)
 ·refine (hS.blk r).keepC hx (fun _ _ hp=>PRel.mono (w:=κ.w) (w':=w') (imm:=κ.imm) (imm':=κ.imm) (fun _ _ h=>h) (fun b o v _ hv=>hc b o v hv) hp) (fun _ _ h=>h) fun hB d b hd hb=>⟨?_,fun o ho=>ho⟩
  have hlt:=(hS.blk r).lt hB hd hb
  obtain⟨o,ho⟩:∃ o,κ.w.heap[b]? = some o:=⟨_,Array.getElem?_eq_getElem hlt⟩
  exact (h5 b o ho ((hS.blk r).isCells hB hd hb ho)).trans ho.symm
 ·obtain⟨q1,v,q2,q3,q4⟩:=hS.glob.1 g o p hp
  exact⟨q1,v,hc _ _ _ q2,q3,PRel.mono (w:=κ.w) (w':=w') (imm:=κ.imm) (imm':=κ.imm) (fun _ _ h=>h) (fun b o v _ hv=>hc b o v hv) q4⟩
 ·obtain⟨q1,q2,cs,T,fz,q3,q4⟩:=hS.glob.2 g hg
  exact⟨q1,q2,cs,T,fz,h5 g _ q3 rfl,q4⟩
theorem dh.keep {ds:List Deferred}(h:dh c κ ds){w':World}(hk:∀ (D:Nat),κ.w.heap[D]? = some (.deferred (some []))->w'.heap[D]? = some (.deferred (some []))):dh c ⟨w',κ.nm,κ.imm⟩ ds:=by
 rcases h with h | ⟨Ds,m1,m2,m3⟩
 ·exact .inl h
 ·exact .inr ⟨Ds,m1,m2,fun D hD=>⟨(m3 D hD).1,hk D (m3 D hD).2⟩⟩
theorem Rel.below (h:Rel c κ0 N s a w κ)(hk:κ0.w.heap.size<=c.w0.heap.size){w':World}(hb:Below w.heap.size w w'):Rel c κ0 N s a w' ⟨w',κ.nm,κ.imm⟩:=by
 have hw:=h.w_eq
 have hsz:=h.left.size
 rw[hw] at hsz
 exact h.turn hk (ds:=a.defers) hb.os hb.tape hb.output hb.size (fun b o ho _=>(hb.block b (Array.getElem?_eq_some_iff.1 ho).1).trans ho) (fun b hlt=>hb.block b (by omega))
  (h.defers.keep fun D hD=>by rw[hw] at hD;exact (hb.block D (Array.getElem?_eq_some_iff.1 hD).1).trans hD)
theorem Rel.putObj (h:Rel c κ0 N s a w κ)(hk:κ0.w.heap.size<=c.w0.heap.size){l:Nat}{o:Obj}(o':Obj)(hl:w.heap[l]? = some o)(ho:Hr o=false)(hc:c.w0.heap.size<=l){ds:List Deferred}
  (hm:dh c ⟨w.putObj l o',κ.nm,κ.imm⟩ ds):Rel c κ0 N s ⟨a.tmps,ds⟩ (w.putObj l o') ⟨w.putObj l o',κ.nm,κ.imm⟩:=
 h.turn (w':=w.putObj l o') hk rfl rfl rfl (by simp) (fun b q hq hqc=>by
  have:b≠l:=by rintro rfl;rw[hl] at hq;cases hq;rw[ho] at hqc;cases hqc
  exact (World.putObj_heap_other this).trans hq) (fun b hb=>World.putObj_heap_other (by omega)) hm
theorem Rel.more (h:Rel c κ0 N s a w κ){im:Nat->Nat->Prop}(h1:∀ b o,im b o->b<w.heap.size)(h2:∀ b o,im b o->fN κ s.σ b->κ.imm b o)(h3:∀ b o,im b o->κ0.imm b o\/c.mine b) :
  Rel c κ0 N s a w ⟨κ.w,κ.nm,fun b o=>κ.imm b o\/im b o⟩:=by
 have hw:=h.w_eq
 subst hw
 have hS:=h.rel
 have he:Ext κ ⟨κ.w,κ.nm,fun b o=>κ.imm b o\/im b o⟩:=⟨fun _ _ h=>.inl h,fun _ _ _ _ h=>h,fun _ _ h=>h,fun _ _ h _=>h⟩
 refine⟨rfl,h.ext0.trans he,⟨fun r=>?_,hS.apart,hS.mine,fun b o ho=>ho.elim (hS.immLt b o) (h1 b o),SRel.glob_ext he hS.glob fun _ _ _=>rfl⟩,⟨h.left.os,h.left.tape,h.left.output,h.left.size,h.left.block,fun b o ho=>ho.elim (h.left.imm b o) (h3 b o)⟩,
  fun i=>(h.env i).ext he,h.size,h.defers.ext he,h.fresh⟩
 by_cases hB:s.σ r = .none
 ·rw[hB];trivial
 ·exact (hS.blk r).keep he fun _ d b hd hb=>⟨rfl,fun o ho=>ho.elim _root_.id fun hi=>h2 b o hi ⟨r,d,hB,hd,hb⟩⟩
theorem mN:∀ (ps:List Nat) (vs:List Value) (x:List PV) (e:List (Nat×AV)) (t:Array Value),(∀ i,ARel κ (look i e) (t.getD i Go.undef))->t.size=N->Pk N ps=true->vs.length=ps.length->x.length=ps.length ->
  (∀ (j:Nat) (y:PV),x[j]? = some y->PRel κ.w κ.imm y (vs.getD j Go.undef)) ->
  (∀ i,ARel κ (look i (Hi ps x e)) (((ps.zip vs).foldl (fun t (p,v)=>t.setIfInBounds p v) t).getD i Go.undef))/\((ps.zip vs).foldl (fun (t:Array Value) (p,v)=>t.setIfInBounds p v) t).size=N
 | [],vs,x,e,t,h1,h2,_,_,h5,_=>by
   have:x=[]:=by simpa using h5
   subst this
   exact⟨h1,h2⟩
 | p::ps,[],x,e,t,h1,h2,_,h4,_,_=>by simp at h4
 | p::ps,v::vs,[],e,t,h1,h2,_,_,h5,_=>by simp at h5
 | p::ps,v::vs,x::xs,e,t,h1,h2,h3,h4,h5,h6=>by
   simp only[Pk,Bool.and_eq_true,decide_eq_true_eq] at h3
   simp only[Hi,List.zip_cons_cons,List.foldl_cons]
   refine mN ps vs xs ((p,.pv x)::e) (t.setIfInBounds p v) (fun i=>?_) (by simpa using h2) h3.2 (by simpa using h4) (by simpa using h5) (fun j y hy=>by simpa using h6 (j+1) y (by simpa using hy))
   simp only[look]
   by_cases hi:p=i
   ·subst hi
    rw[if_pos rfl]
    have:(t.setIfInBounds p v).getD p Go.undef=v:=by simp[Array.getD_eq_getD_getElem?,h2,h3.1.1]
    rw[this];exact .pv _ _ (by simpa using h6 0 x rfl)
   ·rw[if_neg hi]
    have:(t.setIfInBounds p v).getD i Go.undef=t.getD i Go.undef:=by
     simp only[Array.getD_eq_getD_getElem?,Array.getElem?_setIfInBounds]
     rw[if_neg hi]
    rw[this];exact h1 i
end
def lift (c:Ctx)(κ0:Kap)(N:Nat)(Q:AExit->St->Prop):Exit->Act->World->Prop
 | .normal,a,w=>∃ s κ,Rel c κ0 N s a w κ/\Q .norm s
 | .exit id,a,w=>∃ s κ,Rel c κ0 N s a w κ/\Q (.exit id) s
 | .ret,a,w=>∃ s κ,Rel c κ0 N s a w κ/\Q .ret s
 | _,_,_=>False
theorem j6 {F:Fence}{nf:Nat}{P:Program}{co:Code}{Q:Exit->Act->World->Prop}{a:Act}{w:World}(J:Nat->Act->World->Prop)(h:∃ n,J n a w)
  (round:∀ n a w,J n a w->co.wpIn F nf P (Exit.then (fun a' w'=>∃ n',n'<n/\J n' a' w') Q) a w):(Code.loop co).wpIn F nf P Q a w:=by
 classical
 have least:∀ a w,(∃ n,J n a w)->∃ n,J n a w/\∀ k,J k a w->n<=k:=by
  rintro a w ⟨n,hn⟩
  induction n using Nat.strongRecOn with
  | _ n ih=>
    by_cases h:∃ k,k<n/\J k a w
    ·obtain⟨k,h1,h2⟩:=h
     exact ih k h1 h2
    ·exact⟨n,hn,fun k hk=>Nat.le_of_not_lt fun hlt=>h ⟨k,hlt,hk⟩⟩
 let μ:Act->World->Nat:=fun a w=>if h:∃ n,J n a w then Classical.choose (least a w h) else 0
 have hμ:∀ a w n,J n a w->μ a w<=n/\J (μ a w) a w:=by
  intro a w n hn
  have hx:∃ n,J n a w:=⟨n,hn⟩
  simp only[μ,dif_pos hx]
  have:=Classical.choose_spec (least a w hx)
  exact⟨this.2 n hn,this.1⟩
 refine wpIn_loop (fun a w=>∃ n,J n a w) μ h fun a w ⟨n,hn⟩=>?_
 refine wpIn_mono (round _ a w (hμ a w n hn).2) ?_
 intro e a' w' hq
 cases e with
 | normal=>
   obtain⟨n',h1,h2⟩:=hq
   exact⟨⟨n',h2⟩,Nat.lt_of_le_of_lt (hμ a' w' n' h2).1 h1⟩
 | _=>exact hq
section
variable {P:Program}{c:Ctx}{κ0:Kap}{N:Nat}
theorem q0 {G:Nat->List PV}{m0:Nat}{Q:AExit->St->Prop}{s:St}(h:vc P G m0 (.ops [⟨none,jG,none⟩] []) Q s):False:=by
 simp[vc,di,bK,Kn,mb,jG,AX.ev,dg,aI] at h
theorem r6 {muts:List Nat}{assign body:Code}{g:Operand}{ps:Array Tmp}{f:AX}{Q:AExit->St->Prop}{m0 nf:Nat}{va vb:Nat->(AExit->St->Prop)->St->Prop}{s:St}{a:Act}{w:World}{κ:Kap}
  (hA:∀ (c1:Ctx) (κ1:Kap) (m1 l n:Nat) (Q:AExit->St->Prop) (s:St) (a:Act) (w:World) (κ:Kap),c1.G=c.G->(∀ r,m1<=r->κ1.nm r=none)->κ1.w.heap.size<=c1.w0.heap.size->Rel c1 κ1 N s a w κ->va m1 Q s->assign.wpIn (FR (some l)) n P (lift c1 κ1 N Q) a w)
  (hB:∀ (c1:Ctx) (κ1:Kap) (m1 l n:Nat) (Q:AExit->St->Prop) (s:St) (a:Act) (w:World) (κ:Kap),c1.G=c.G->(∀ r,m1<=r->κ1.nm r=none)->κ1.w.heap.size<=c1.w0.heap.size->Rel c1 κ1 N s a w κ->vb m1 Q s->body.wpIn (FR (some l)) n P (lift c1 κ1 N Q) a w)
  (hg:cX g=some f) (hps:Pk N ps.toList=true) (h0:∀ r,m0<=r->κ0.nm r=none) (hk:κ0.w.heap.size<=c.w0.heap.size) (hR:Rel c κ0 N s a w κ) (hv:J3 P c.G va vb m0 f ps.toList Q s) :
  (Code.rangeFunc g ps assign body).wpIn (FR none) nf P (lift c κ0 N Q) a w:=by
 obtain⟨I,s0,hW,hI0,hv⟩:=hv
 obtain⟨κ,hR⟩:=hW c κ0 κ N a w h0 hR
 have hw:=hR.w_eq
 subst hw
 simp only[aI] at hv
 split at hv
 rotate_left
 ·exact hv.elim
 rename_i p hp
 obtain⟨hfs,lb,xs,hlb,⟨hcal,hseq⟩,hrnd,hdone⟩:=hv
 obtain⟨vs,us,hfun,hvs,hus,_,hu1⟩:=EF (aw (κ:=κ) (E:=s0.E) (a:=a) hg (fun i _=>hR.env i)) hp
 have hvs0:vs = #[]:=by rw[hfs] at hvs;exact Array.eq_empty_of_size_eq_zero hvs
 subst hvs0
 have hc0:c.w0.heap.size<=κ.w.heap.size:=hR.left.size
 refine wpIn_rangeFunc fun fn _=>?_
 let D:=κ.w.heap.size
 let L:LoopState->Option Code->Obj:=fun st pe=>.loop { state:=st,pending:=pe,fn:=fn,tmps:=a.tmps,params:=ps,assign:=assign,body:=body,defers:=D }
 let W1:=(κ.w.alloc (.deferred (some []))).alloc (L .ready none)
 have g1:W1.heap[D+1]? = some (L .ready none):=by
  have:=World.alloc_heap_new (κ.w.alloc (.deferred (some []))) (L .ready none)
  rwa [World.size_alloc] at this
 have g2:W1.heap[D]? = some (.deferred (some [])):=(Below.heap_alloc _ _ _ (by simp[D])).trans (World.alloc_heap_new κ.w _)
 have gb:Below κ.w.heap.size κ.w W1:=((Below.refl _ κ.w).alloc (Nat.le_refl _) _).alloc (by simp) _
 have hR1:=hR.below hk gb
 have he1:Ext κ ⟨W1,κ.nm,κ.imm⟩:=⟨fun _ _ h=>h,fun b o v hi hc=>(World.cell?_of_block (a:=⟨b,o,none⟩) (gb.block b (World.block_lt_of_cell? κ.w _ hc))).trans hc,fun _ _ h=>h,fun b o ho _=>(gb.block b (Array.getElem?_eq_some_iff.1 ho).1).trans ho⟩
 have hlt:∀ {W:World} {o:Obj} {k:Nat},W.heap[k]? = some o->k<W.heap.size:=fun h=>(Array.getElem?_eq_some_iff.1 h).1
 have hDs:∀ {Ds:List Nat},a.defers=Ds.map Kd->(c.rnd=true\/D∉Ds):=by
  intro Ds hd
  rcases hR.defers with h | ⟨Es,m1,m2,m3⟩
  ·exact .inl h
  ·refine .inr fun hm=>?_
   have:Kd D∈Es.map Kd:=by rw[<- m1,hd];exact List.mem_map.2 ⟨D,hm,rfl⟩
   obtain⟨E,hE,hEe⟩:=List.mem_map.1 this
   have hED:E=D:=by simpa[Kd] using hEe
   have:=hlt (m3 E hE).2
   omega
 have markD:∀ {W:World} {κ':Kap} {o':Obj},dh c κ' a.defers->κ'.w=W->W.heap[D]? = some (.deferred (some []))->W.heap[D+1]?≠none->(∀ k:Nat,k≠D+1->(W.putObj (D+1) o').heap[k]? = W.heap[k]?)->(∀ q,W.heap[D+1]?≠some (.deferred q))->dh c ⟨W.putObj (D+1) o',κ'.nm,κ'.imm⟩ (Kd D::a.defers):=by
  intro W κ' o' hm hw hD _ hput hnd
  have hkeep:∀ (E:Nat),W.heap[E]? = some (.deferred (some []))->(W.putObj (D+1) o').heap[E]? = some (.deferred (some [])):=fun E hE=>by
   rw[hput E (by rintro rfl;exact hnd _ hE)];exact hE
  rcases hm with h | ⟨Es,m1,m2,m3⟩
  ·exact .inl h
  ·rcases hDs m1 with h | h
   ·exact .inl h
   ·refine .inr ⟨D::Es,by rw[m1];rfl,List.nodup_cons.2 ⟨h,m2⟩,fun E hE=>?_⟩
    rcases List.mem_cons.1 hE with rfl | hE
    ·exact⟨hc0,hkeep _ hD⟩
    ·exact⟨(m3 E hE).1,hkeep _ (by rw[<- hw];exact (m3 E hE).2)⟩
 let J:Nat->(Nat->Nat->Prop)->World->Prop:=fun i O W=>∃ s' κ',I i s'/\Rel c κ0 N s' a W κ'/\(∀ b o,O b o↔((fN κ' s'.σ b/\¬ κ'.imm b o)\/b=D\/b=D+1))/\W.heap[D+1]? = some (L .ready none)/\W.heap[D]? = some (.deferred (some []))
 let Jx:World->Prop:=fun W=>∃ cd s' κ',((cd = .ret/\Q .ret s')\/∃ id,cd = .exit id/\Q (.exit id) s')/\Rel c κ0 N s' a W κ'/\W.heap[D+1]? = some (L .done (some cd))/\W.heap[D]? = some (.deferred (some []))
 refine⟨D+1,[Kd D],W1,{ target:=.fn (.func p.1) us,args:=#[.func (.yield (D+1)) #[] #[]] },W1,p.1,#[.func (.yield (D+1)) #[] #[]]++us,W1,run_enterLoop_outer _ _ _ _ _,?_,fun _ _=>trivial,?_,fun h=>absurd h (wn none),?_⟩
 ·simp only[resolve,hfun];simp[go_sem]
 ·simp[invoke,go_sem,fh hcal]
 have hmain:=hseq W1 κ.imm us (D+1) J Jx (fun b o=>(fN κ s0.σ b/\¬ κ.imm b o)\/b=D\/b=D+1) hR1.rel.glob.ok (fun b o hi=>?_) (hus.trans (by simpa using (bL hlb).symm)) (fun i x hx=>?_) ?_ ?_ ?_ ⟨s0,_,hI0,hR1,fun _ _=>Iff.rfl,g1,g2⟩
 ·refine CallsIn.mono (show CallsIn (FR none) (nf - 1) P p.1 _ W1 _ from (callsIn_wide (n:=nf - 1)).2 ((callsIn_wide (n:=0)).1 hmain)) ?_
  rintro e W2 ⟨⟨v,rfl⟩,⟨O',s',κ',hI,hR',hO,hL,hD⟩ | ⟨cd,s',κ',hQ,hR',hL,hD⟩⟩
  ·have hRe:=hR'.putObj hk (L .exhausted none) hL rfl (by omega) (markD hR'.defers hR'.w_eq hD (by rw[hL];simp) (fun k hk=>World.putObj_heap_other hk) (fun q hq=>by rw[hL] at hq;cases hq))
   exact⟨none,_,run_endLoop hL (by simp),s',_,hRe,hdone s' hI⟩
  ·have hRe:=hR'.putObj hk (L .exhausted (some cd)) hL rfl (by omega) (markD hR'.defers hR'.w_eq hD (by rw[hL];simp) (fun k hk=>World.putObj_heap_other hk) (fun q hq=>by rw[hL] at hq;cases hq))
   refine⟨some cd,_,run_endLoop hL (by simp),?_⟩
   rcases hQ with ⟨rfl,hQ⟩ | ⟨id,rfl,hQ⟩
   ·exact wpIn_ret ⟨s',_,hRe,hQ⟩
   ·exact wpIn_exit ⟨s',_,hRe,hQ⟩
 ·have h1:=hR.rel.immLt b o hi
  refine⟨Nat.lt_of_lt_of_le h1 gb.size,?_⟩
  rintro (⟨_,h⟩ | h | h)
  ·exact h hi
  ·omega
  ·omega
 ·obtain⟨y,hy,hq⟩:=cj hlb i x hx
  exact bH hq ((hu1 i y hy).ext he1)
 ·rintro i O W W' ⟨s',κ',q1,q2,q3,q4,q5⟩ hb
  exact⟨s',_,q1,q2.below hk hb,q3,(hb.block _ (hlt q4)).trans q4,(hb.block _ (hlt q5)).trans q5⟩
 ·rintro i O W b o ⟨s',κ',q1,q2,q3,q4,q5⟩ ho
  rcases (q3 b o).1 ho with ⟨h,_⟩ | rfl | rfl
  ·have:=h.lt q2.rel
   rwa [q2.w_eq] at this
  ·exact hlt q5
  ·exact hlt q4
 ·rintro m i x O W vals imm' kp ⟨s',κ',hI,hR',hO,hL,hD⟩ hx hsz hpx him hkp hkO
  have hw':=hR'.w_eq
  subst hw'
  obtain⟨hlen,hva⟩:=hrnd i x s' hx hI
  have hnot:∀ b o,kp b o->fN κ' s'.σ b->κ'.imm b o:=fun b o h hn=>Classical.byContradiction fun hc=>(hkO b o h).2 ((hO b o).2 (.inl ⟨hn,hc⟩))
  have hneD:∀ b o,kp b o->b≠D/\b≠D+1:=fun b o h=>⟨fun e=>(hkO b o h).2 ((hO b o).2 (.inr (.inl e))),fun e=>(hkO b o h).2 ((hO b o).2 (.inr (.inr e)))⟩
  have hM:=hR'.more (im:=imm') (fun b o h=>(hkO b o (hkp b o h)).1) (fun b o h hn=>hnot b o (hkp b o h) hn) (fun b o h=>by
   rcases him b o h with h | h
   ·exact hR.left.imm b o h
   ·exact .inr (.inl (by have:=gb.size;omega)))
  obtain⟨e1,e2⟩:=mN (κ:=⟨κ'.w,κ'.nm,fun b o=>κ'.imm b o\/imm' b o⟩) (N:=N) ps.toList vals.toList x s'.env a.tmps hM.env hM.size hps (by simp[hsz,hlen]) hlen (fun j y hy=>by
   rw[<- aD]
   exact (hpx j y hy).mono (fun _ _ h=>.inr h) (fun _ _ _ _ h=>h))
  have hfold:(ps.zip vals).foldl (fun (t:Array Value) (p,v)=>t.setIfInBounds p v) a.tmps=(ps.toList.zip vals.toList).foldl (fun (t:Array Value) (p,v)=>t.setIfInBounds p v) a.tmps:=by
   rw[<- Array.foldl_toList,Array.toList_zip]
  rw[<- hfold] at e1 e2
  have hP:Rel c κ0 N ⟨Hi ps.toList x s'.env,s'.sto,s'.next⟩ ⟨(ps.zip vals).foldl (fun (t:Array Value) (p,v)=>t.setIfInBounds p v) a.tmps,[]⟩ κ'.w ⟨κ'.w,κ'.nm,fun b o=>κ'.imm b o\/imm' b o⟩:=
   ⟨rfl,hM.ext0,hM.rel,hM.left,e1,e2,dh.nil _ _,hM.fresh⟩
  have hb1:=hP.rebase κ'.nm (fun _ _ h=>h)
  refine⟨fn,_,assign,body,run_yield hL (by simp[hsz,hlen]),roundIn_of_wpIn trivial (Go.wpIn_mono (hA (Ku ⟨κ'.w,κ'.nm,fun b o=>κ'.imm b o\/imm' b o⟩ s'.σ c.G) ⟨κ'.w,κ'.nm,fun b o=>κ'.imm b o\/imm' b o⟩ s'.next (D+1) m _ _ _ _ _ rfl (fun r hr=>hR'.fresh r hr) (Nat.le_refl _) hb1 hva) ?_)⟩
  intro e a2 w2 hq
  cases e with
  | exit id=>obtain⟨_,_,_,hf⟩:=hq;exact hf.elim
  | ret=>obtain⟨_,_,_,hf⟩:=hq;exact hf.elim
  | goto t=>exact hq.elim
  | panic ch=>exact hq.elim
  | outgrown=>exact hq.elim
  | normal=>
    obtain⟨s2,κ2,hR2,hv2⟩:=hq
    have hw2:=hR2.w_eq
    subst hw2
    have hL2:κ2.w.heap[D+1]? = some (L .ready none):=hR2.ext0.obj _ _ hL rfl
    have hD2:κ2.w.heap[D]? = some (.deferred (some [])):=hR2.ext0.obj _ _ hD rfl
    refine⟨_,run_beginRound hL2 rfl,?_⟩
    let W3:=κ2.w.putObj (D+1) (L .busy none)
    have hmk:∀ {K:Kap} {o o':Obj} {ds:List Deferred},dh c K ds->K.w.heap[D+1]? = some o->(∀ q,o≠.deferred q)->dh c ⟨K.w.putObj (D+1) o',K.nm,K.imm⟩ ds:=by
     intro K o o' ds hm hl ho
     exact hm.keep fun E hE=>by
      have:E≠D+1:=by rintro rfl;rw[hl] at hE;cases hE;exact ho _ rfl
      exact (World.putObj_heap_other this).trans hE
    have o2:=hM.lift (s1:=s2) hR2
    have o3:=o2.putObj hk (L .busy none) hL2 rfl (by omega) (hmk o2.defers hL2 (fun q h=>by cases h))
    have i2:=hP.lift2 hR2
    have i3:=i2.putObj (c:=c.round) hk (L .busy none) hL2 rfl (show c.w0.heap.size<=D+1 by omega) (ds:=a2.defers) (.inl rfl)
    have hb3:=i3.rebase κ2.nm (fun _ _ h=>h)
    have hL3:W3.heap[D+1]? = some (L .busy none):=World.putObj_heap_same (hlt hL2)
    have hD3:W3.heap[D]? = some (.deferred (some [])):=(World.putObj_heap_other (by omega)).trans hD2
    refine Go.wpIn_mono (hB (Ku ⟨W3,κ2.nm,κ2.imm⟩ s2.σ c.G) ⟨W3,κ2.nm,κ2.imm⟩ s2.next (D+1) m _ s2 _ W3 _ rfl (fun r hr=>hR2.fresh r hr) (Nat.le_refl _) hb3 hv2) ?_
    intro e a4 w4 hq
    have fin:∀ (s4:St) (κ4:Kap) (jump:Option Code),Rel (Ku ⟨W3,κ2.nm,κ2.imm⟩ s2.σ c.G) ⟨W3,κ2.nm,κ2.imm⟩ N s4 a4 w4 κ4 ->
      let W5:=w4.putObj (D+1) (L (if jump.isNone then .ready else .done) jump)
      (Instr.endRound (D+1) jump).run P w4 = .ok (.bool jump.isNone) W5/\W5.heap[D+1]? = some (L (if jump.isNone then .ready else .done) jump)/\W5.heap[D]? = some (.deferred (some [])) /\
      Rel c κ0 N ⟨s'.env,s4.sto,s4.next⟩ a W5 ⟨W5,κ4.nm,κ4.imm⟩:=by
     intro s4 κ4 jump hR4
     have hw4:=hR4.w_eq
     subst hw4
     have hL4:κ4.w.heap[D+1]? = some (L .busy none):=hR4.ext0.obj _ _ hL3 rfl
     have hD4:κ4.w.heap[D]? = some (.deferred (some [])):=hR4.ext0.obj _ _ hD3 rfl
     have o4:=o3.lift (s1:=s4) hR4
     exact⟨run_endRound jump hL4,World.putObj_heap_same (hlt hL4),(World.putObj_heap_other (by omega)).trans hD4,o4.putObj hk _ hL4 rfl (by omega) (hmk o4.defers hL4 (fun q h=>by cases h))⟩
    cases e with
    | goto t=>exact hq.elim
    | panic ch=>exact hq.elim
    | outgrown=>exact hq.elim
    | ret=>
      obtain⟨s4,κ4,hR4,hq⟩:=hq
      obtain⟨f1,f2,f3,f4⟩:=fin s4 κ4 (some .ret) hR4
      exact⟨_,_,f1,.inr ⟨rfl,.ret,_,_,.inl ⟨rfl,hq⟩,f4,f2,f3⟩⟩
    | exit id=>
      obtain⟨s4,κ4,hR4,hq⟩:=hq
      obtain⟨f1,f2,f3,f4⟩:=fin s4 κ4 (some (.exit id)) hR4
      exact⟨_,_,f1,.inr ⟨rfl,.exit id,_,_,.inr ⟨id,rfl,hq⟩,f4,f2,f3⟩⟩
    | normal=>
      obtain⟨s4,κ4,hR4,s6,hW6,hI6⟩:=hq
      obtain⟨f1,f2,f3,f4⟩:=fin s4 κ4 none hR4
      obtain⟨κ6,hR6,him6,hnm6⟩:=hW6.sub h0 f4
      have hw4:=hR4.w_eq
      subst hw4
      have hlt':∀ b o,kp b o->b<κ'.w.heap.size:=fun b o h=>(hkO b o h).1
      have s12:κ'.w.heap.size<=κ2.w.heap.size:=hR2.left.size
      have s23:κ2.w.heap.size=W3.heap.size:=by simp[W3]
      have s34:W3.heap.size<=κ4.w.heap.size:=hR4.left.size
      have n2:∀ b,b<κ'.w.heap.size->fN κ2 s2.σ b->fN κ' s'.σ b:=by
       rintro b hb ⟨r,d,q1,q2,q3⟩
       rcases hR2.rel.mine r d b q1 q2 q3 with h | h
       ·exact absurd hb (Nat.not_lt.2 h)
       ·exact h
      have n4:∀ b,b<κ'.w.heap.size->fN κ4 s4.σ b->fN κ' s'.σ b:=by
       rintro b hb ⟨r,d,q1,q2,q3⟩
       rcases hR4.rel.mine r d b q1 q2 q3 with h | h
       ·exact absurd (Nat.lt_of_lt_of_le hb (Nat.le_trans s12 (Nat.le_of_eq s23))) (Nat.not_lt.2 h)
       ·exact n2 b hb h
      have i12:∀ b o,κ'.imm b o->κ4.imm b o:=fun b o h=>hR4.ext0.imm b o (hR2.ext0.imm b o (.inl h))
      refine⟨_,_,f1,.inl ⟨rfl,⟨fun b o=>(fN κ6 s6.σ b/\¬ κ6.imm b o)\/b=D\/b=D+1,⟨s6,κ6,hI6,hR6,fun _ _=>Iff.rfl,f2,f3⟩,fun b o hkb=>?_⟩,?_,fun b o v hkb hv=>?_,fun g hg=>?_⟩⟩
      ·rintro (⟨h1,h2⟩ | h | h)
       ·exact h2 (him6 b o (i12 b o (hnot b o hkb (n4 b (hlt' b o hkb) (hnm6 b h1)))))
       ·exact (hneD b o hkb).1 h
       ·exact (hneD b o hkb).2 h
      ·simp;omega
      ·have turn:∀ {X:World} {o':Obj},X.cell? ⟨b,o,none⟩=some v->(X.putObj (D+1) o').cell? ⟨b,o,none⟩=some v:=fun {X o'} h=>
        (World.cell?_of_block (a:=⟨b,o,none⟩) (World.putObj_heap_other (hneD b o hkb).2)).trans h
       by_cases hi:κ'.imm b o
       ·exact turn (hR4.ext0.cell b o v (hR2.ext0.imm b o (.inl hi)) (turn (hR2.ext0.cell b o v (.inl hi) hv)))
       ·have hn:¬ fN κ' s'.σ b:=fun h=>hi (hnot b o hkb h)
        have hb:=hlt' b o hkb
        have k2:κ2.w.cell? ⟨b,o,none⟩=some v:=(World.cell?_of_block (a:=⟨b,o,none⟩) (hR2.left.block b hb hn)).trans hv
        have hb3:b<W3.heap.size:=Nat.lt_of_lt_of_le hb (by omega)
        exact turn ((World.cell?_of_block (a:=⟨b,o,none⟩) (hR4.left.block b hb3 fun h=>hn (n2 b hb h))).trans (turn k2))
      ·have hw6:=hR6.w_eq
       rw[<- hw6]
       exact (hR6.rel.glob.2 g hg).2.2
theorem uh {muts rl:List Nat}:∀ (co:Code) (c:Ctx) (κ0:Kap) (m0:Nat) (ro:Option Nat) (nf:Nat) (ac:ACode) (ex:List (Nat×List Nat)) (out li:List Nat) (Q:AExit->St->Prop) (s:St) (a:Act) (w:World) (κ:Kap),
  (ro=none\/bf co=false)->(∀ r,m0<=r->κ0.nm r=none)->κ0.w.heap.size<=c.w0.heap.size ->
  bi P muts N rl co ex out=some (ac,li)->Rel c κ0 N s a w κ->vc P c.G m0 ac Q s->co.wpIn (FR ro) nf P (lift c κ0 N Q) a w:=by
 intro co
 induction co with
 | skip=>
   intro c κ0 m0 ro nf ac ex out li Q s a w κ hro h0 hk hc hR hv
   simp only[bi,Option.some.injEq,Prod.mk.injEq] at hc
   obtain⟨rfl,_⟩:=hc
   exact wpIn_skip ⟨s,κ,hR,hv⟩
 | exit id=>
   intro c κ0 m0 ro nf ac ex out li Q s a w κ hro h0 hk hc hR hv
   simp only[bi,Option.some.injEq,Prod.mk.injEq] at hc
   obtain⟨rfl,_⟩:=hc
   exact wpIn_exit ⟨s,κ,hR,hv⟩
 | ret=>
   intro c κ0 m0 ro nf ac ex out li Q s a w κ hro h0 hk hc hR hv
   simp only[bi,Option.some.injEq,Prod.mk.injEq] at hc
   obtain⟨rfl,_⟩:=hc
   exact wpIn_ret ⟨s,κ,hR,hv⟩
 | region id ops d=>
   intro c κ0 m0 ro nf ac ex out li Q s a w κ hro h0 hk hc hR hv
   simp only[bi] at hc
   split at hc
   ·rename_i l hl
    cases d with
    | false=>
      simp only[Option.some.injEq,Prod.mk.injEq] at hc
      obtain⟨rfl,_⟩:=hc
      exact wpIn_region_list (d8 (F:=sL Q (oY out)) (fun s a w κ hR hF=>⟨_,κ,hR.clip _,hF⟩) ops.toList l s a w κ hl hR hv)
    | true=>
      simp only at hc
      split at hc
      ·rename_i hok
       simp only[Option.some.injEq,Prod.mk.injEq] at hc
       obtain⟨rfl,_⟩:=hc
       exact nh (F:=sL Q (oY out)) hl hok.1 hok.2.1 hok.2.2 hR hv (fun s a w κ hR hF=>⟨_,κ,hR.clip _,hF⟩)
      ·cases hc
   ·cases hc
 | seq x y ihx ihy=>
   intro c κ0 m0 ro nf ac ex out li Q s a w κ hro h0 hk hc hR hv
   simp only[bi] at hc
   split at hc
   ·rename_i b' lb hb
    split at hc
    ·rename_i a' la ha
     simp only[Option.some.injEq,Prod.mk.injEq] at hc
     obtain⟨rfl,_⟩:=hc
     refine wpIn_seq (Go.wpIn_mono (ihx c κ0 m0 ro nf _ _ _ _ _ s a w κ (hro.imp _root_.id fun h=>by simp only[bf,Bool.or_eq_false_iff] at h;exact h.1) h0 hk ha hR hv) ?_)
     intro e a w hq
     cases e with
     | normal=>
       obtain⟨s,κ,hR,hF⟩:=hq
       exact ihy c κ0 m0 ro nf _ _ _ _ _ s a w κ (hro.imp _root_.id fun h=>by simp only[bf,Bool.or_eq_false_iff] at h;exact h.2) h0 hk hb hR hF
     | exit id=>exact hq
     | ret=>exact hq
     | goto l=>exact hq.elim
     | panic ch=>exact hq.elim
     | outgrown=>exact hq.elim
    ·cases hc
   ·cases hc
 | cond x y z ihy ihz=>
   intro c κ0 m0 ro nf ac ex out li Q s a w κ hro h0 hk hc hR hv
   simp only[bi] at hc
   split at hc
   ·rename_i ax a' la b' lb hx hy hz
    simp only[Option.some.injEq,Prod.mk.injEq] at hc
    obtain⟨rfl,_⟩:=hc
    have hw:=hR.w_eq
    have hrel:=aw (κ:=κ) (E:=s.E) (a:=a) hx (fun i _=>hR.env i)
    simp only[vc,pJ] at hv
    split at hv
    ·rename_i he
     rw[he] at hrel
     exact wpIn_cond_true (cJ hrel) (ihy c κ0 m0 ro nf _ _ _ _ _ s a w κ (hro.imp _root_.id fun h=>by simp only[bf,Bool.or_eq_false_iff] at h;exact h.1) h0 hk hy hR hv)
    ·rename_i he
     rw[he] at hrel
     exact wpIn_cond_false (cJ hrel) (ihz c κ0 m0 ro nf _ _ _ _ _ s a w κ (hro.imp _root_.id fun h=>by simp only[bf,Bool.or_eq_false_iff] at h;exact h.2) h0 hk hz hR hv)
    ·exact hv.elim
   ·cases hc
 | block id b ih=>
   intro c κ0 m0 ro nf ac ex out li Q s a w κ hro h0 hk hc hR hv
   simp only[bi] at hc
   split at hc
   ·rename_i b' lb hb
    simp only[Option.some.injEq,Prod.mk.injEq] at hc
    obtain⟨rfl,_⟩:=hc
    refine wpIn_block (Go.wpIn_mono (ih c κ0 m0 ro nf _ _ _ _ _ s a w κ (hro.imp _root_.id fun h=>by simpa only[bf] using h) h0 hk hb hR hv) ?_)
    intro e a w hq
    cases e with
    | normal=>exact hq
    | ret=>exact hq
    | goto l=>exact hq.elim
    | panic ch=>exact hq.elim
    | outgrown=>exact hq.elim
    | exit id'=>
      obtain⟨s,κ,hR,hF⟩:=hq
      simp only[d6] at hF
      simp only[Exit.inBlock]
      split
      ·rename_i hid
       rw[if_pos hid] at hF
       exact⟨s,κ,hR,hF⟩
      ·rename_i hid
       rw[if_neg hid] at hF
       exact⟨s,κ,hR,hF⟩
   ·cases hc
 | loop b ih=>
   intro c κ0 m0 ro nf ac ex out li Q s a w κ hro h0 hk hc hR hv
   simp only[bi] at hc
   split at hc
   ·rename_i x1 l1 hb1
    split at hc
    ·rename_i x2 l2 hb2
     split at hc
     ·rename_i b' l3 hb
      simp only[Option.some.injEq,Prod.mk.injEq] at hc
      obtain⟨rfl,_⟩:=hc
      obtain⟨I,⟨n0,s0,hs0,hI0⟩,hround⟩:=hv
      let J:Nat->Act->World->Prop:=fun n a w=>∃ s κ,Rel c κ0 N s a w κ/\I n s
      have hJ0:∃ n,J n a w:=by
       obtain⟨κ',hR'⟩:=hs0 c κ0 κ N a w h0 hR
       exact⟨n0,_,κ',hR',hI0⟩
      refine j6 J hJ0 fun n a w hJn=>?_
      obtain⟨s,κ,hR,hIs⟩:=hJn
      refine Go.wpIn_mono (ih c κ0 m0 ro nf _ _ _ _ _ s a w κ (hro.imp _root_.id fun h=>by simpa only[bf] using h) h0 hk hb hR (hround _ s hIs)) ?_
      intro e a' w' hq
      cases e with
      | normal=>
        obtain⟨s',κ',hR',n',s'',hn',hs',hI'⟩:=hq
        obtain⟨κ'',hR''⟩:=hs' c κ0 κ' N a' w' h0 hR'
        exact⟨n',hn',_,κ'',hR'',hI'⟩
      | exit id=>
        obtain⟨s',κ',hR',s'',hs',hq'⟩:=hq
        obtain⟨κ'',hR''⟩:=hs' c κ0 κ' N a' w' h0 hR'
        exact⟨s'',κ'',hR'',hq'⟩
      | ret=>exact hq
      | goto l=>exact hq.elim
      | panic ch=>exact hq.elim
      | outgrown=>exact hq.elim
     ·cases hc
    ·cases hc
   ·cases hc
 | rangeFunc g ps x y ihx ihy=>
   intro c κ0 m0 ro nf ac ex out li Q s a w κ hro h0 hk hc hR hv
   rcases hro with rfl | h
   rotate_left
   ·simp[bf] at h
   simp only[bi] at hc
   split at hc
   ·rename_i ax b' lb hxy hx hb hps
    simp only[Bool.or_eq_false_iff] at hxy
    split at hc
    ·rename_i a' la ha
     simp only[Option.some.injEq,Prod.mk.injEq] at hc
     obtain⟨rfl,_⟩:=hc
     simp only[vc] at hv
     exact r6 (muts:=muts) (fun c1 κ1 m1 l n Q s a w κ hG g0 gk hR hv=>ihx c1 κ1 m1 (some l) n _ _ _ _ Q s a w κ (.inr hxy.1) g0 gk ha hR (by rw[hG];exact hv))
      (fun c1 κ1 m1 l n Q s a w κ hG g0 gk hR hv=>ihy c1 κ1 m1 (some l) n _ _ _ _ Q s a w κ (.inr hxy.2) g0 gk hb hR (by rw[hG];exact hv)) hx hps h0 hk hR hv
    ·cases hc
   ·simp only[Option.some.injEq,Prod.mk.injEq] at hc;obtain⟨rfl,rfl⟩:=hc;exact (q0 hv).elim
 | scope b ih=>intro c κ0 m0 ro nf ac ex out li Q s a w κ hro h0 hk hc hR hv;simp only[bi,Option.some.injEq,Prod.mk.injEq] at hc;obtain⟨rfl,rfl⟩:=hc;exact (q0 hv).elim
 | label l=>intro c κ0 m0 ro nf ac ex out li Q s a w κ hro h0 hk hc hR hv;simp only[bi,Option.some.injEq,Prod.mk.injEq] at hc;obtain⟨rfl,rfl⟩:=hc;exact (q0 hv).elim
 | goto l=>intro c κ0 m0 ro nf ac ex out li Q s a w κ hro h0 hk hc hR hv;simp only[bi,Option.some.injEq,Prod.mk.injEq] at hc;obtain⟨rfl,rfl⟩:=hc;exact (q0 hv).elim
 | refuse y=>intro c κ0 m0 ro nf ac ex out li Q s a w κ hro h0 hk hc hR hv;simp only[bi,Option.some.injEq,Prod.mk.injEq] at hc;obtain⟨rfl,rfl⟩:=hc;exact (q0 hv).elim
end
mutual
inductive Nz:PV->PV->Prop
 | refl (p:PV):Nz p p
 | nils:Nz .nils (.list [])
 | agg (cs ds:List PV):NzL cs ds->Nz (.agg cs) (.agg ds)
 | tup (cs ds:List PV):NzL cs ds->Nz (.tup cs) (.tup ds)
 | list (cs ds:List PV):NzL cs ds->Nz (.list cs) (.list ds)
inductive NzL:List PV->List PV->Prop
 | nil:NzL [] []
 | cons (x y:PV) (r q:List PV):Nz x y->NzL r q->NzL (x::r) (y::q)
end
theorem NzL.refl:∀ l:List PV,NzL l l
 | []=>.nil
 | x::r=>.cons x x r r (.refl x) (NzL.refl r)
theorem NzL.length:∀ {l k:List PV},NzL l k->l.length=k.length
 | [],_,h=>by cases h;rfl
 | x::r,_,h=>by cases h with | cons _ y _ q _ h2=>simp[NzL.length h2]
theorem NzL.get:∀ {l k:List PV},NzL l k->∀ (i:Nat) (y:PV),k[i]? = some y->∃ x,l[i]? = some x/\Nz x y
 | [],_,h,i,y,hy=>by cases h;simp at hy
 | x::r,_,h,i,y,hy=>by
   cases h with
   | cons _ y' _ q h1 h2=>
     cases i with
     | zero=>simp at hy;subst hy;exact⟨x,rfl,h1⟩
     | succ i=>exact NzL.get h2 i y (by simpa using hy)
theorem Nz.cells {p q:PV}(h:Nz p q):NzL p.cells q.cells:=by
 cases h with
 | refl=>exact NzL.refl _
 | nils=>exact .cons _ _ _ _ .nils .nil
 | agg cs ds h=>exact h
 | tup cs ds h=>exact .cons _ _ _ _ (.tup _ _ h) .nil
 | list cs ds h=>exact .cons _ _ _ _ (.list _ _ h) .nil
theorem PRel.nz {w:World}{imm:Nat->Nat->Prop}{p:PV}{v:Value}(h:PRel w imm p v):∀ {q:PV},Nz p q->PRel w imm q v:=by
 induction h with
 | undef=>intro q hq;cases hq;exact .undef
 | bool b=>intro q hq;cases hq;exact .bool b
 | int k n=>intro q hq;cases hq;exact .int k n
 | str s hs=>intro q hq;cases hq;exact .str s hs
 | agg cs vs hl hc ih=>
   intro q hq
   cases hq with
   | refl=>exact .agg cs vs hl hc
   | agg _ ds hd=>
     refine .agg ds vs (by rw[hl,hd.length]) fun i y hy=>?_
     obtain⟨x,hx,hxy⟩:=hd.get i y hy
     exact ih i x hx hxy
 | tup cs vs hl hc ih=>
   intro q hq
   cases hq with
   | refl=>exact .tup cs vs hl hc
   | tup _ ds hd=>
     refine .tup ds vs (by rw[hl,hd.length]) fun i y hy=>?_
     obtain⟨x,hx,hxy⟩:=hd.get i y hy
     exact ih i x hx hxy
 | nils=>
   intro q hq
   cases hq with
   | refl=>exact .nils
   | nils=>exact .lnil none 0 (by simp)
 | lnil A c h=>
   intro q hq
   cases hq with
   | refl=>exact .lnil A c h
   | list _ ds hd=>cases hd;exact .lnil A c h
 | list l b off c sz g h1 h2 h3 h4 h5 ih=>
   intro q hq
   cases hq with
   | refl=>exact .list l b off c sz g h1 h2 h3 h4 h5
   | list _ ds hd=>
     have hlen:=hd.length
     have key:=PRel.list (w:=w) (imm:=imm) ds b off c sz g (by omega) h2 (fun i y hy=>by
       obtain⟨x,hx,hxy⟩:=hd.get i y hy
       rw[<- h3 i x hx,hxy.cells.length]) (fun i y j z hy hz=>by
       obtain⟨x,hx,hxy⟩:=hd.get i y hy
       obtain⟨u,hu,huz⟩:=hxy.cells.get j z hz
       exact h4 i x j u hx hu) (fun i y j z hy hz=>by
       obtain⟨x,hx,hxy⟩:=hd.get i y hy
       obtain⟨u,hu,huz⟩:=hxy.cells.get j z hz
       exact ih i x j u hx hu huz)
     rw[<- hlen] at key
     exact key
 | nilp=>intro q hq;cases hq;exact .nilp
 | nilf=>intro q hq;cases hq;exact .nilf
 | clo f fs cs vs us h1 h2 h3 h4 _ _=>intro q hq;cases hq;exact .clo f fs cs vs us h1 h2 h3 h4
 | eptr l b off c sz g i o h1 h2 h3 h4 h5 h6 _=>intro q hq;cases hq;exact .eptr l b off c sz g i o h1 h2 h3 h4 h5 h6
 | gptr g o=>intro q hq;cases hq;exact .gptr g o
 | nili=>intro q hq;cases hq;exact .nili
 | iface T p u h _=>intro q hq;cases hq;exact .iface T p u h
theorem sI (p:PV):Nz p p=True:=eq_true (.refl p)
theorem Mm:Nz .nils (.list [])=True:=eq_true .nils
theorem Px (cs ds:List PV):Nz (.agg cs) (.agg ds)=NzL cs ds:=propext ⟨fun h=>by cases h with | refl=>exact NzL.refl _ | agg _ _ h=>exact h,.agg _ _⟩
theorem Pu (cs ds:List PV):Nz (.tup cs) (.tup ds)=NzL cs ds:=propext ⟨fun h=>by cases h with | refl=>exact NzL.refl _ | tup _ _ h=>exact h,.tup _ _⟩
theorem Mn (a b:Bool):Nz (.bool a) (.bool b)=(a=b):=propext ⟨fun h=>by cases h;rfl,fun h=>h▸.refl _⟩
theorem Pw (k k':IntKind)(a b:Int):Nz (.int k a) (.int k' b)=(k=k'/\a=b):=propext ⟨fun h=>by cases h;exact⟨rfl,rfl⟩,fun ⟨h,g⟩=>h▸g▸.refl _⟩
theorem Pv (a b:List UInt8):Nz (.str a) (.str b)=(a=b):=propext ⟨fun h=>by cases h;rfl,fun h=>h▸.refl _⟩
theorem Mo:NzL [] []=True:=eq_true .nil
theorem HD (x y:PV)(r q:List PV):NzL (x::r) (y::q)=(Nz x y/\NzL r q):=propext ⟨fun h=>by cases h with | cons _ _ _ _ h1 h2=>exact⟨h1,h2⟩,fun ⟨h1,h2⟩=>.cons _ _ _ _ h1 h2⟩
theorem NzL.map {α:Type}{f g:α->PV}(h:∀ x,Nz (f x) (g x)):∀ l:List α,NzL (l.map f) (l.map g)
 | []=>.nil
 | x::r=>.cons _ _ _ _ (h x) (NzL.map h r)
theorem NzL.append:∀ {a b c d:List PV},NzL a b->NzL c d->NzL (a++c) (b++d)
 | [],_,_,_,h,k=>by cases h;exact k
 | x::r,_,_,_,h,k=>by cases h with | cons _ _ _ _ h1 h2=>exact .cons _ _ _ _ h1 (NzL.append h2 k)
def iL (n e sz:Nat):AV:=if e<1000000 then .olist n sz [] else .row n sz 0 0
def cx (e sz:Nat):Blk:=if e<1000000 then .tok e sz else .cells (e - 1000000) false []
def NU (k:Nat)(e sz:Nat)(s:St):AV->St
 | .pv .nils=>⟨(k,iL s.next e sz)::s.env,(s.next,cx e sz)::s.sto,s.next+1⟩
 | _=>s
def Ok (r T:Nat)(f:Bool)(l:List AV)(o e sz:Nat)(s:St):Option AV->St
 | some (.pv .nils)=>⟨s.env,(r,.cells T f (l.set o (iL s.next e sz)))::(s.next,cx e sz)::s.sto,s.next+1⟩
 | _=>s
def accB (r o e sz:Nat)(s:St):Blk->St
 | .cells T f l=>Ok r T f l o e sz s l[o]?
 | _=>s
def accP (o e sz:Nat)(s:St):AV->St
 | .ptr r b=>accB r (b+o) e sz s (lookB r s.sto)
 | _=>s
def S7 (p:Nat×Nat×Nat×Nat)(s:St):St:=
 match p.2.1 with
 | 0=>NU p.1 p.2.2.1 p.2.2.2 s (look p.1 s.env)
 | j+1=>accP j p.2.2.1 p.2.2.2 s (look p.1 s.env)
def Jt:List (Nat×Nat×Nat×Nat)->St->St
 | [],s=>s
 | p::r,s=>Jt r (S7 p s)
section
variable {P:Program}{c:Ctx}{κ0 κ:Kap}{N:Nat}{s:St}{a:Act}{w:World}
theorem Ju {σ0:am}(hS:SRel c κ σ0){new:Nat}(hn:κ.nm new=none)(e sz:Nat) :
  Done c κ ⟨κ.w,fun r=>if r=new then some (.own (.slice none 0 0)) else κ.nm r,κ.imm⟩ new /\
  SRel c ⟨κ.w,fun r=>if r=new then some (.own (.slice none 0 0)) else κ.nm r,κ.imm⟩ (am.set σ0 new (cx e sz)) /\
  ARel ⟨κ.w,fun r=>if r=new then some (.own (.slice none 0 0)) else κ.nm r,κ.imm⟩ (iL new e sz) (.slice none 0 0):=by
 unfold iL cx
 split
 ·exact Fl hS hn e sz
 ·exact oC hS hn (e - 1000000) sz
theorem JE (e sz:Nat)(env:List (Nat×AV))(sto:List (Nat×Blk))
  (henv:∀ (κ κ':Kap),Ext κ κ'->ARel κ' (iL s.next e sz) (.slice none 0 0)->∀ (a:Act),(∀ i,ARel κ (s.E i) (a.tmps.getD i Go.undef))->∀ i,ARel κ' (look i env) (a.tmps.getD i Go.undef))
  (hsto:∀ (c:Ctx) (κ':Kap),(∀ r T f l,s.σ r = .cells T f l->r≠s.next)->ARel κ' (iL s.next e sz) (.slice none 0 0)->SRel c κ' (am.set s.σ s.next (cx e sz))->(∀ r,s.next<r->κ'.nm r=none)->SRel c κ' (fun r=>lookB r sto)):Wx s ⟨env,sto,s.next+1⟩:=by
 intro c κ0 κ N a w h
 obtain⟨h1,h2,h3⟩:=Ju h.rel (h.fresh s.next (Nat.le_refl _)) e sz
 have hfr:∀ r,s.next<r->(if r=s.next then some (Den.own (Value.slice none 0 0)) else κ.nm r)=none:=by
  intro r hr
  rw[if_neg (by omega)]
  exact h.fresh r (by omega)
 exact⟨_,h1.ext,h.w_eq,h.ext0.trans h1.ext,hsto c _ (fun r T f l hr hn=>by
  have hB:=h.rel.blk r
  rw[hr] at hB
  rcases hB with ⟨_,_,h1⟩ | ⟨b,n,cs,h1,_⟩<;>(rw[hn,h.fresh s.next (Nat.le_refl _)] at h1;cases h1)) h3 h2 hfr,h1.left _ h.left,henv κ _ h1.ext h3 a h.env,h.size,h.defers.ext h1.ext,fun r hr=>hfr r hr⟩
theorem uU {v:Value}(h:ARel κ (.pv .nils) v):v = .slice none 0 0:=by cases aH h;rfl
theorem KR (k e sz:Nat)(s:St):Wx s (NU k e sz s (look k s.env)):=by
 unfold NU
 split
 ·rename_i hk
  refine JE e sz _ _ (fun κ κ' he ho a henv i=>?_) (fun c κ' _ ho hS _=>?_)
  ·simp only[look]
   split
   ·rename_i hi
    subst hi
    have:=henv k
    rw[show s.E k=look k s.env from rfl,hk] at this
    rw[uU this]
    exact ho
   ·exact (henv i).ext he
  ·have:(fun r=>lookB r ((s.next,cx e sz)::s.sto))=am.set s.σ s.next (cx e sz):=by
    funext r
    simp only[lookB,am.set,St.σ]
    by_cases h:s.next=r
    ·simp[h]
    ·rw[if_neg h,if_neg (fun e=>h e.symm)]
   rw[this];exact hS
 ·exact Wx.refl s
theorem EP {κ:Kap}{r T:Nat}{f:Bool}{l:List AV}{o:Nat}{y:AV}(h:eF κ r (.cells T f l))(hy:∀ v x,l[o]? = some x->ARel κ x v->ARel κ y v):eF κ r (.cells T f (l.set o y)):=by
 rcases h with ⟨h1,h2,h3⟩ | ⟨b,n,cs,h1,h2,h3,h4,h7,h5,h6⟩
 ·exact .inl ⟨h1,by rw[h2];rfl,h3⟩
 refine .inr ⟨b,n,cs,h1,h2,h3,by simpa using h4,by simpa using h7,fun j x hx=>?_,h6⟩
 rw[List.getElem?_set] at hx
 split at hx
 ·rename_i hj
  subst hj
  split at hx
  ·rename_i hlt
   cases hx
   exact hy _ _ (List.getElem?_eq_getElem hlt) (h5 o _ (List.getElem?_eq_getElem hlt))
  ·cases hx
 ·exact h5 j x hx
theorem AQ (r o e sz:Nat)(s:St):Wx s (accB r o e sz s (lookB r s.sto)):=by
 unfold accB
 split
 ·rename_i T f l hl
  unfold Ok
  split
  ·rename_i ho
   refine JE e sz _ _ (fun κ κ' he ho a henv i=>(henv i).ext he) (fun c κ' hcl hol hS hfr=>?_)
   have hr:=hcl r T f l hl
   have hB:=hS.blk r
   have hσr:am.set s.σ s.next (cx e sz) r = .cells T f l:=by simp only[am.set,hr,if_false];exact hl
   rw[hσr] at hB
   have hnew:(fun q=>lookB q ((r,Blk.cells T f (l.set o (iL s.next e sz)))::(s.next,cx e sz)::s.sto))=am.set (am.set s.σ s.next (cx e sz)) r (.cells T f (l.set o (iL s.next e sz))):=by
    funext q
    simp only[lookB,am.set,St.σ]
    by_cases h:r=q
    ·rw[if_pos h,if_pos h.symm]
    ·have h1:¬ q=r:=fun e=>h e.symm
     rw[if_neg h,if_neg h1]
     by_cases h':s.next=q
     ·have h2:q=s.next:=h'.symm
      rw[if_pos h',if_pos h2]
     ·have h2:¬ q=s.next:=fun e=>h' e.symm
      rw[if_neg h',if_neg h2]
   rw[hnew]
   have hz:∀ q,(am.set (am.set s.σ s.next (cx e sz)) r (.cells T f (l.set o (iL s.next e sz)))) q≠.none->(am.set s.σ s.next (cx e sz)) q≠.none:=by
    intro q hq
    by_cases h:q=r
    ·subst h;rw[hσr];simp
    ·simpa[am.set,h] using hq
   refine⟨fun q=>?_,fun q q' d d' b' h1 h2=>hS.apart q q' d d' b' (hz q h1) (hz q' h2),fun q d b' h1=>hS.mine q d b' (hz q h1),hS.immLt,hS.glob⟩
   by_cases h:q=r
   ·subst h
    simp only[am.set,if_true]
    refine EP hB fun v x hx hv=>?_
    rw[ho] at hx;cases hx
    rw[uU hv];exact hol
   ·have:=hS.blk q
    simp only[am.set,h,if_false] at this ⊢
    exact this
  ·exact Wx.refl s
 ·exact Wx.refl s
theorem KQ (k o e sz:Nat)(s:St):Wx s (accP o e sz s (look k s.env)):=by
 unfold accP
 split
 ·exact AQ _ _ _ _ s
 ·exact Wx.refl s
theorem KS (p:Nat×Nat×Nat×Nat)(s:St):Wx s (S7 p s):=by
 unfold S7
 split
 ·exact KR _ _ _ s
 ·exact KQ _ _ _ _ s
theorem AP:∀ (l:List (Nat×Nat×Nat×Nat)) (s:St),Wx s (Jt l s)
 | [],s=>Wx.refl s
 | p::r,s=>(KS p s).trans (AP r _)
inductive AVz:AV->AV->Prop
 | refl (x:AV):AVz x x
 | any (x:AV):AVz x .any
 | pv (p q:PV):Nz p q->AVz (.pv p) (.pv q)
 | olist (r sz:Nat) (l k:List PV):NzL l k->AVz (.olist r sz l) (.olist r sz k)
 | list (r sz:Nat) (l k:List PV):NzL l k->AVz (.olist r sz l) (.pv (.list k))
inductive AVzL:List AV->List AV->Prop
 | nil:AVzL [] []
 | cons (x y:AV) (r q:List AV):AVz x y->AVzL r q->AVzL (x::r) (y::q)
theorem AVz.rel {κ:Kap}{x y:AV}{v:Value}(h:AVz x y)(hr:ARel κ x v):ARel κ y v:=by
 cases h with
 | refl=>exact hr
 | any=>exact .any v
 | pv p q hq=>exact .pv _ _ ((aH hr).nz hq)
 | olist r sz l k hq=>
   cases hr with
   | olist _ _ _ _ hn hp hs=>
     refine .olist _ _ _ _ hn (hp.nz (.list _ _ hq)) fun y hy=>?_
     obtain⟨i,hi⟩:=List.getElem?_of_mem hy
     obtain⟨x,hx,hxy⟩:=hq.get i y hi
     rw[<- hs x (List.mem_of_getElem? hx),hxy.cells.length]
 | list r sz l k hq=>
   cases hr with
   | olist _ _ _ _ hn hp hs=>exact .pv _ _ (hp.nz (.list _ _ hq))
theorem AVzL.length:∀ {l k:List AV},AVzL l k->l.length=k.length
 | [],_,h=>by cases h;rfl
 | x::r,_,h=>by cases h with | cons _ y _ q _ h2=>simp[AVzL.length h2]
theorem AVzL.get:∀ {l k:List AV},AVzL l k->∀ (i:Nat) (y:AV),k[i]? = some y->∃ x,l[i]? = some x/\AVz x y
 | [],_,h,i,y,hy=>by cases h;simp at hy
 | x::r,_,h,i,y,hy=>by
   cases h with
   | cons _ y' _ q h1 h2=>
     cases i with
     | zero=>simp at hy;subst hy;exact⟨x,rfl,h1⟩
     | succ i=>exact AVzL.get h2 i y (by simpa using hy)
inductive AVzP:List AV->List AV->Prop
 | nil (l:List AV):AVzP l []
 | cons (x y:AV) (r q:List AV):AVz x y->AVzP r q->AVzP (x::r) (y::q)
theorem AVzP.length:∀ {l k:List AV},AVzP l k->k.length<=l.length
 | _,[],_=>Nat.zero_le _
 | _,y::q,h=>by cases h with | cons x _ r _ _ h2=>simp;exact AVzP.length h2
theorem AVzP.get:∀ {l k:List AV},AVzP l k->∀ (i:Nat) (y:AV),k[i]? = some y->∃ x,l[i]? = some x/\AVz x y
 | _,[],h,i,y,hy=>by simp at hy
 | _,y'::q,h,i,y,hy=>by
   cases h with
   | cons x _ r _ h1 h2=>
     cases i with
     | zero=>simp at hy;subst hy;exact⟨x,rfl,h1⟩
     | succ i=>exact AVzP.get h2 i y (by simpa using hy)
theorem AVzP.of_l:∀ {l k:List AV},AVzL l k->AVzP l k
 | [],_,h=>by cases h;exact .nil _
 | x::r,_,h=>by cases h with | cons _ y _ q h1 h2=>exact .cons _ _ _ _ h1 (AVzP.of_l h2)
theorem AVzP.app:∀ (a b:List AV),AVzP (a++b) a
 | [],b=>.nil _
 | x::r,b=>.cons _ _ _ _ (.refl x) (AVzP.app r b)
inductive EnvZ:List (Nat×AV)->List (Nat×AV)->Prop
 | nil:EnvZ [] []
 | cons (k:Nat) (x y:AV) (r q:List (Nat×AV)):AVz x y->EnvZ r q->EnvZ ((k,x)::r) ((k,y)::q)
inductive BlkZ:Blk->Blk->Prop
 | refl (b:Blk):BlkZ b b
 | none (b:Blk):BlkZ b .none
 | cells (T:Nat) (f:Bool) (l k:List AV):AVzL l k->BlkZ (.cells T f l) (.cells T f k)
 | pre (T:Nat) (f:Bool) (l k:List AV):AVzP l k->BlkZ (.cells T f l) (.cells T false k)
inductive StoZ:List (Nat×Blk)->List (Nat×Blk)->Prop
 | nil:StoZ [] []
 | cons (k:Nat) (x y:Blk) (r q:List (Nat×Blk)):BlkZ x y->StoZ r q->StoZ ((k,x)::r) ((k,y)::q)
theorem EnvZ.look:∀ {e e':List (Nat×AV)},EnvZ e e'->∀ i,AVz (look i e) (look i e')
 | [],_,h,i=>by cases h;exact .refl _
 | (k,x)::r,_,h,i=>by
   cases h with
   | cons _ _ y _ q h1 h2=>
     simp only[Go.Ab.look]
     split
     ·exact h1
     ·exact EnvZ.look h2 i
theorem StoZ.look:∀ {e e':List (Nat×Blk)},StoZ e e'->∀ i,BlkZ (lookB i e) (lookB i e')
 | [],_,h,i=>by cases h;exact .refl _
 | (k,x)::r,_,h,i=>by
   cases h with
   | cons _ _ y _ q h1 h2=>
     simp only[Go.Ab.lookB]
     split
     ·exact h1
     ·exact StoZ.look h2 i
theorem BlkZ.rel {κ:Kap}{r:Nat}{b b':Blk}(h:BlkZ b b')(hb:eF κ r b):eF κ r b'/\(b'≠.none->b≠.none):=by
 cases h with
 | refl=>exact⟨hb,id⟩
 | none=>exact⟨trivial,fun h=>absurd rfl h⟩
 | cells T f l k hk=>
   have hlen:=hk.length
   rcases hb with ⟨h1,h2,h3⟩ | ⟨b,n,cs,h1,h2,h3,h4,h7,h5,h6⟩
   ·exact⟨.inl ⟨h1,List.eq_nil_of_length_eq_zero (by rw[<- hlen,h2];rfl),h3⟩,fun _=>by simp⟩
   refine⟨.inr ⟨b,n,cs,h1,h2,h3,by omega,fun h=>by rw[<- hlen];exact h7 h,fun o y hy=>?_,h6⟩,fun _=>by simp⟩
   obtain⟨x,hx,hxy⟩:=hk.get o y hy
   exact hxy.rel (h5 o x hx)
 | pre T f l k hk=>
   have hlen:=hk.length
   rcases hb with ⟨h1,h2,h3⟩ | ⟨b,n,cs,h1,h2,h3,h4,h7,h5,h6⟩
   ·exact⟨.inl ⟨rfl,List.eq_nil_of_length_eq_zero (by rw[h2] at hlen;simpa using hlen),h3⟩,fun _=>by simp⟩
   refine⟨.inr ⟨b,n,cs,h1,h2,h3,by omega,fun h=>(by cases h),fun o y hy=>?_,h6⟩,fun _=>by simp⟩
   obtain⟨x,hx,hxy⟩:=hk.get o y hy
   exact hxy.rel (h5 o x hx)
def StZ (s s':St):Prop:=EnvZ s.env s'.env/\StoZ s.sto s'.sto/\s.next=s'.next
theorem EnvZ.refl:∀ e:List (Nat×AV),EnvZ e e
 | []=>.nil
 | (k,x)::r=>.cons k x x r r (.refl x) (EnvZ.refl r)
theorem StoZ.refl:∀ e:List (Nat×Blk),StoZ e e
 | []=>.nil
 | (k,x)::r=>.cons k x x r r (.refl x) (StoZ.refl r)
theorem AVzL.refl:∀ e:List AV,AVzL e e
 | []=>.nil
 | x::r=>.cons x x r r (.refl x) (AVzL.refl r)
theorem StZ.wx {s t:St}(h:StZ s t):Wx s t:=by
 intro c κ0 κ N a w hR
 obtain⟨h1,h2,h3⟩:=h
 have hz:∀ r,t.σ r≠.none->s.σ r≠.none:=fun r hr=>((h2.look r).rel (hR.rel.blk r)).2 hr
 refine⟨κ,Ext.refl κ,hR.w_eq,hR.ext0,⟨fun r=>((h2.look r).rel (hR.rel.blk r)).1,fun r r' d d' b k1 k2=>hR.rel.apart r r' d d' b (hz r k1) (hz r' k2),fun r d b k1=>hR.rel.mine r d b (hz r k1),hR.rel.immLt,hR.rel.glob⟩,
  hR.left,fun i=>(h1.look i).rel (hR.env i),hR.size,hR.defers,fun r hr=>hR.fresh r (by omega)⟩
def ct (A:List (Nat×Nat×Nat×Nat))(m0:Nat)(keep:List Nat)(s:St):St:=norm m0 keep (Jt A s)
theorem FO (A:List (Nat×Nat×Nat×Nat))(m0:Nat)(keep:List Nat)(s:St):Wk m0 s (ct A m0 keep s):=
 (Wk.of (AP A s) m0).trans (Wk.norm m0 keep _)
theorem Wk.head {A:List (Nat×Nat×Nat×Nat)}{m0:Nat}{keep:List Nat}{s t:St}(h:StZ (ct A m0 keep s) t):Wk m0 s t:=
 (FO A m0 keep s).trans (Wk.of h.wx m0)
theorem Ja (x:AV):AVz x x=True:=eq_true (.refl x)
theorem QT (p q:PV):AVz (.pv p) (.pv q)=Nz p q:=propext ⟨fun h=>by cases h with | refl=>exact .refl _ | pv _ _ h=>exact h,.pv _ _⟩
theorem Jb (r sz:Nat)(l k:List PV):AVz (.olist r sz l) (.pv (.list k))=NzL l k:=propext ⟨fun h=>by cases h with | list _ _ _ _ h=>exact h,.list _ _ _ _⟩
theorem Jf:AVzL [] []=True:=eq_true .nil
theorem E9 (x y:AV)(r q:List AV):AVzL (x::r) (y::q)=(AVz x y/\AVzL r q):=propext ⟨fun h=>by cases h with | cons _ _ _ _ h1 h2=>exact⟨h1,h2⟩,fun ⟨h1,h2⟩=>.cons _ _ _ _ h1 h2⟩
theorem IW:EnvZ [] []=True:=eq_true .nil
theorem Ei (k:Nat)(x y:AV)(r q:List (Nat×AV)):EnvZ ((k,x)::r) ((k,y)::q)=(AVz x y/\EnvZ r q):=propext ⟨fun h=>by cases h with | cons _ _ _ _ _ h1 h2=>exact⟨h1,h2⟩,fun ⟨h1,h2⟩=>.cons _ _ _ _ _ h1 h2⟩
theorem E4 (b:Blk):BlkZ b b=True:=eq_true (.refl b)
theorem QN (T:Nat)(l k:List AV):BlkZ (.cells T true l) (.cells T true k)=AVzL l k:=propext ⟨fun h=>by cases h with | refl=>exact AVzL.refl _ | cells _ _ _ _ h=>exact h,.cells _ _ _ _⟩
theorem QP (T:Nat)(f:Bool)(l k:List AV):BlkZ (.cells T f l) (.cells T false k)=AVzP l k:=propext ⟨fun h=>by
 cases h with
 | refl=>exact AVzP.of_l (AVzL.refl _)
 | cells _ _ _ _ h=>exact AVzP.of_l h
 | pre _ _ _ _ h=>exact h,.pre _ _ _ _⟩
theorem QO (b:Blk):BlkZ b .none=True:=eq_true (.none b)
theorem Jd (l:List AV):AVzP l []=True:=eq_true (.nil l)
theorem E7 (x y:AV)(r q:List AV):AVzP (x::r) (y::q)=(AVz x y/\AVzP r q):=propext ⟨fun h=>by cases h with | cons _ _ _ _ h1 h2=>exact⟨h1,h2⟩,fun ⟨h1,h2⟩=>.cons _ _ _ _ h1 h2⟩
theorem E6 (l:List AV):AVzP l l=True:=eq_true (AVzP.of_l (AVzL.refl l))
theorem Je (a b:List AV):AVzP (a++b) a=True:=eq_true (AVzP.app a b)
theorem E8 (l:List AV):AVzL l l=True:=eq_true (AVzL.refl l)
theorem Gk:StoZ [] []=True:=eq_true .nil
theorem Bq (k:Nat)(x y:Blk)(r q:List (Nat×Blk)):StoZ ((k,x)::r) ((k,y)::q)=(BlkZ x y/\StoZ r q):=propext ⟨fun h=>by cases h with | cons _ _ _ _ _ h1 h2=>exact⟨h1,h2⟩,fun ⟨h1,h2⟩=>.cons _ _ _ _ _ h1 h2⟩
theorem OJ (e e':List (Nat×AV))(σ σ':List (Nat×Blk))(n n':Nat):StZ ⟨e,σ,n⟩ ⟨e',σ',n'⟩=(EnvZ e e'/\StoZ σ σ'/\n=n'):=_root_.id rfl
end
inductive ARes where
 | tmp (t:Nat)
 | cell (t:Nat) (g:Bool) (sz:Nat)
structure AFn where
 N:Nat
 res:List ARes
 body:ACode
def resV (G:Nat->List PV)(s:St):ARes->Option AV
 | .tmp t=>some (s.E t)
 | .cell t g sz=>eq G g sz s.σ (s.E t)
def e9 (G:Nat->List PV)(s:St):List ARes->Option (List AV)
 | []=>some []
 | r::q=>match resV G s r,e9 G s q with
   | some a,some b=>some (a::b)
   | _,_=>none
def AA (l:List AV):AV:=
 match l with
 | [v]=>v
 | l=>pT l
def JX (R:AV->List (Nat×Blk)->Nat->Prop)(s:St)(l:List AV):Prop:=R (AA l) s.sto s.next
def FnK (G:Nat->List PV)(res:List ARes)(R:AV->List (Nat×Blk)->Nat->Prop):AExit->St->Prop
 | .norm,s=>aI (e9 G s res) (JX R s)
 | .ret,s=>aI (e9 G s res) (JX R s)
 | .exit _,_=>False
def SW (P:Program):ResultVar->Option ARes
 | .tmp t=>some (.tmp t)
 | .cell a t=>match lY P t,ix P t with
   | some g,some n=>some (.cell a g n)
   | _,_=>none
def EV (P:Program):List ResultVar->Option (List ARes)
 | []=>some []
 | r::q=>match SW P r,EV P q with
   | some a,some b=>some (a::b)
   | _,_=>none
def iB:List ARes->List Nat
 | []=>[]
 | .tmp t::r=>fY (iB r) [t]
 | .cell t _ _::r=>fY (iB r) [t]
def cFn (P:Program)(muts:List Nat)(f:Nat):Option AFn:=
 match P.funcs[f]? with
 | some fn=>match fn.body with
   | some c=>match EV P fn.results.toList with
     | some rs=>if bJ P f=true then match bi P muts fn.ntmps (iB rs) c [] (iB rs) with
       | some (b,_)=>some ⟨fn.ntmps,rs,b⟩
       | none=>none
       else none
     | none=>none
   | none=>none
 | none=>none
def cY (args:List AV):List (Nat×AV):=args.zipIdx.map fun p=>(p.2,p.1)
section
variable {P:Program}{G:Nat->List PV}
theorem k8:∀ (args:List AV) (k i:Nat),look i ((args.zipIdx k).map fun p=>(p.2,p.1))=if k<=i then (args[i - k]?).getD .any else .any
 | [],k,i=>by simp[look]
 | x::r,k,i=>by
   rw[List.zipIdx_cons,List.map_cons,look]
   simp only
   by_cases h:k=i
   ·subst h;simp
   ·rw[if_neg h,k8 r (k+1) i]
    by_cases hk:k<=i
    ·rw[if_pos (by omega),if_pos hk,show i - k=(i - (k+1))+1 by omega];simp
    ·rw[if_neg (by omega),if_neg hk]
def uF (tmps:Array Value):ResultVar->Sem Value
 | .tmp t=>pure (tmps.getD t Go.undef)
 | .cell x t=>do loadVar t (<- asAddr (tmps.getD x Go.undef))
theorem mK (fn:Func)(tmps:Array Value):results fn tmps=(do let vs <- fn.results.mapM (uF tmps);pure (if h:vs.size=1 then vs[0] else .tuple vs)):=by
 unfold results
 congr 1
theorem kw {c:Ctx}{κ0 κ:Kap}{N:Nat}{s:St}{a:Act}{w:World}(hR:Rel c κ0 N s a w κ):∀ (rv:List ResultVar) (rs:List ARes) (vs:List AV),EV P rv=some rs->e9 c.G s rs=some vs ->
  ∃ us:List Value,(rv.mapM (uF a.tmps)).run P w = .ok us w/\us.length=vs.length/\∀ (i:Nat) (x:AV),vs[i]? = some x->ARel κ x (us.getD i Go.undef)
 | [],rs,vs,h1,h2=>by
   simp[EV] at h1;subst h1
   simp[e9] at h2;subst h2
   exact⟨[],by simp,rfl,by simp⟩
 | r::q,rs,vs,h1,h2=>by
   simp only[EV] at h1
   split at h1
   ·rename_i ra rb hra hrb
    cases h1
    simp only[e9] at h2
    split at h2
    ·rename_i va vb hva hvb
     cases h2
     obtain⟨us,k1,k2,k3⟩:=kw hR q rb vb hrb hvb
     have hw:=hR.w_eq
     subst hw
     have hone:∃ u,(uF a.tmps r).run P κ.w = .ok u κ.w/\ARel κ va u:=by
      cases r with
      | tmp t=>
        simp only[SW,Option.some.injEq] at hra
        subst hra
        simp only[resV,Option.some.injEq] at hva
        subst hva
        exact⟨_,rfl,hR.env t⟩
      | cell x t=>
        simp only[SW] at hra
        split at hra
        ·rename_i g n hg hn
         cases hra
         simp only[resV] at hva
         have hx:=hR.env x
         obtain⟨z,h3,h4⟩:=BB (P:=P) hR.rel hg hn hx hva
         refine⟨z,?_,h4⟩
         obtain⟨y,hy⟩:∃ y,a.tmps.getD x Go.undef=y:=⟨_,rfl⟩
         rw[hy] at hx h3
         simp only[Instr.loadAt,Sem.run_bind] at h3
         have hp:∃ ad,y = .pointer (some ad):=by
          unfold eq at hva
          split at hva
          ·rename_i he
           rw[he] at hx;cases hx;exact⟨_,rfl⟩
          ·rename_i he
           rw[he] at hx;cases aH hx;exact⟨_,rfl⟩
          ·rename_i he
           rw[he] at hx;cases aH hx;exact⟨_,rfl⟩
          ·cases hva
         obtain⟨ad,rfl⟩:=hp
         simp only[uF]
         rw[hy]
         simpa[asAddr,Instr.sureAddr] using h3
        ·cases hra
     obtain⟨u,h5,h6⟩:=hone
     refine⟨u::us,?_,by simp[k2],fun i x hx=>?_⟩
     ·rw[List.mapM_cons,Sem.run_bind,h5]
      simp only[Result.andThen_ok,Sem.run_bind,k1,Sem.run_pure]
     ·cases i with
      | zero=>simp only[List.getElem?_cons_zero,Option.some.injEq] at hx;subst hx;simpa using h6
      | succ i=>simpa using k3 i x (by simpa using hx)
    ·cases h2
   ·cases h1
theorem gO {P:Program}{c:Ctx}{κ0 κ:Kap}{N:Nat}{s:St}{a:Act}{w:World}{fn:Func}{R:Ending->World->Prop}(hk:κ0.w.heap.size<=c.w0.heap.size)(hc:c.rnd=false)(hR:Rel c κ0 N s a w κ)
  (h:∀ w' κ',Rel c κ0 N s ⟨a.tmps,[]⟩ w' κ'->∃ v,(results fn a.tmps).run P w' = .ok v w'/\R (.returned v) w'):LeavesInM Fence.wide 0 P fn a.tmps R a.defers .returning w:=by
 have key:∀ (Ds:List Nat) (w:World) (κ:Kap),Ds.Nodup->(∀ D∈Ds,c.w0.heap.size<=D/\w.heap[D]? = some (.deferred (some [])))->Rel c κ0 N s ⟨a.tmps,[]⟩ w κ->LeavesInM Fence.wide 0 P fn a.tmps R (Ds.map Kd) .returning w:=by
  intro Ds
  induction Ds with
  | nil=>intro w κ _ _ hR;exact h w κ hR
  | cons D Ds ih=>
    intro w κ hn hD hR
    obtain⟨h1,h2⟩:=hD D (by simp)
    obtain⟨n1,n2⟩:=List.nodup_cons.1 hn
    refine⟨by simp,.inl ⟨D,_,rfl,run_takeDeferred h2,ih _ _ n2 (fun E hE=>?_) (hR.putObj hk (.deferred none) h2 rfl h1 (dh.nil _ _))⟩⟩
    obtain⟨q1,q2⟩:=hD E (by simp[hE])
    exact⟨q1,(World.putObj_heap_other (by rintro rfl;exact n1 hE)).trans q2⟩
 rcases hR.defers with hm | ⟨Ds,m1,m2,m3⟩
 ·rw[hc] at hm;cases hm
 ·have hw:=hR.w_eq
  rw[m1]
  exact key Ds w κ m2 (fun D hD=>by rw[<- hw];exact m3 D hD) ⟨hR.w_eq,hR.ext0,hR.rel,hR.left,hR.env,hR.size,dh.nil _ _,hR.fresh⟩
theorem bV.of_code {muts:List Nat}{f:Nat}{fn:AFn}{args:List AV}{sto:List (Nat×Blk)}{next:Nat}{R:AV->List (Nat×Blk)->Nat->Prop}(hc:cFn P muts f=some fn)(hn:args.length<=fn.N)
  (hv:∀ (c:Ctx) (κ:Kap) (N:Nat) (a:Act) (w:World) (co:Code) (rl li:List Nat),c.G=G->κ.w.heap.size<=c.w0.heap.size->(∀ r,next<=r->κ.nm r=none)->bi P muts N rl co [] rl=some (fn.body,li)->Rel c κ N ⟨cY args,sto,next⟩ a w κ ->
   co.wpIn (FR none) 0 P (lift c κ N (FnK G fn.res R)) a w):bV P G f args sto next R:=by
 unfold cFn at hc
 split at hc
 ·rename_i fnc hfn
  split at hc
  ·rename_i co hco
   split at hc
   ·rename_i rs hrs
    split at hc
    ·rename_i hok
     split at hc
     ·rename_i b li hb
      cases hc
      refine⟨hok,fun κ vals hS hf hsz hargs=>?_⟩
      refine callsIn_wide.1 (callsIn_of_wp_marks (n:=0) hfn hco trivial ?_ rfl)
      let c:=bU κ (fun r=>lookB r sto) G
      have hsize:(vals++Array.replicate (fnc.ntmps - vals.size) Go.undef).size=fnc.ntmps:=by
       simp only at hn
       simp only[Array.size_append,Array.size_replicate];omega
      have hR:Rel c κ fnc.ntmps ⟨cY args,sto,next⟩ ⟨vals++Array.replicate (fnc.ntmps - vals.size) Go.undef,[]⟩ κ.w κ:=by
       refine⟨rfl,Ext.refl κ,hS,⟨rfl,rfl,rfl,Nat.le_refl _,fun _ _ _=>rfl,fun _ _ h=>.inl h⟩,fun i=>?_,hsize,dh.nil _ _,hf⟩
       show ARel κ (look i ((args.zipIdx 0).map fun p=>(p.2,p.1))) _
       rw[k8,if_pos (Nat.zero_le _),Nat.sub_zero]
       cases hx:args[i]? with
       | none=>exact .any _
       | some x=>
         have hi:i<vals.size:=by rw[hsz];exact (List.getElem?_eq_some_iff.1 hx).1
         have:=hargs i x hx
         have e:(vals++Array.replicate (fnc.ntmps - vals.size) Go.undef).getD i Go.undef=vals.getD i Go.undef:=by
          simp only[Array.getD_eq_getD_getElem?]
          rw[Array.getElem?_append_left hi]
         rw[e];exact this
      refine Go.wpIn_mono (hv c κ fnc.ntmps _ κ.w co (iB rs) li rfl (Nat.le_refl _) hf hb hR) ?_
      have fin:∀ (s:St) (κ':Kap) (a:Act) (w:World),Rel c κ fnc.ntmps s a w κ'->aI (e9 G s rs) (JX R s)->∃ v,(results fnc a.tmps).run P w = .ok v w /\
        ∃ u v' κ'' sto' next',Ending.returned v = .returned u/\κ''.w=w/\Ext κ κ''/\Left c κ.imm κ''/\ARel κ'' v' u/\SRel c κ'' (fun r=>lookB r sto')/\(∀ r,next'<=r->κ''.nm r=none)/\R v' sto' next':=by
       intro s κ' a w hR hF
       simp only[aI] at hF
       split at hF
       ·rename_i vs hvs
        obtain⟨us,h1,h2,h3⟩:=kw (P:=P) hR fnc.results.toList rs vs hrs hvs
        have hrun:(results fnc a.tmps).run P w = .ok (if h:us.toArray.size=1 then us.toArray[0] else .tuple us.toArray) w:=by
         rw[mK,Sem.run_bind,Array.mapM_eq_mapM_toList]
         simp only[Sem.run_bind,Sem.run_map]
         rw[h1]
         simp
        refine⟨_,hrun,_,AA vs,κ',s.sto,s.next,rfl,hR.w_eq,hR.ext0,hR.left,?_,hR.rel,hR.fresh,hF⟩
        by_cases hl:vs.length=1
        ·obtain⟨v,rfl⟩:=List.length_eq_one_iff.1 hl
         obtain⟨u,rfl⟩:=List.length_eq_one_iff.1 (h2.trans hl)
         have:=h3 0 v rfl
         exact this
        ·have hul:¬ us.toArray.size=1:=by simpa[h2] using hl
         rw[dif_neg hul]
         have hrv:AA vs=pT vs:=by
          unfold AA
          split
          ·simp at hl
          ·rfl
         rw[hrv]
         exact pS (.tup _ _ (by simpa using h2) (fun i x hx=>by rw[aD];simpa using h3 i x hx))
       ·exact hF.elim
      intro e a w hq
      cases e with
      | normal=>
        obtain⟨s,κ',hR,hF⟩:=hq
        exact gO (Nat.le_refl _) rfl hR fun w' κ'' hR'=>fin s κ'' ⟨a.tmps,[]⟩ w' hR' hF
      | ret=>
        obtain⟨s,κ',hR,hF⟩:=hq
        exact gO (Nat.le_refl _) rfl hR fun w' κ'' hR'=>fin s κ'' ⟨a.tmps,[]⟩ w' hR' hF
      | exit id=>
        obtain⟨s,κ',hR,hF⟩:=hq
        exact hF.elim
      | goto l=>exact hq.elim
      | panic ch=>exact hq.elim
      | outgrown=>exact hq.elim
     ·cases hc
    ·cases hc
   ·cases hc
  ·cases hc
 ·cases hc
theorem bV.intro {muts:List Nat}{f:Nat}{fn:AFn}{args:List AV}{sto:List (Nat×Blk)}{next:Nat}{R:AV->List (Nat×Blk)->Nat->Prop}(hc:cFn P muts f=some fn)(hn:args.length<=fn.N)
  (hv:vc P G next fn.body (FnK G fn.res R) ⟨cY args,sto,next⟩):bV P G f args sto next R:=
 bV.of_code hc hn fun c κ N a w co rl li hG hk hf hb hR=>uh (P:=P) (N:=N) co c κ next none 0 fn.body [] rl li (FnK G fn.res R) _ a w κ (.inl rfl) hf hk hb hR (by rw[hG];exact hv)
def isR (r:PV)(σ:List (Nat×Blk))(v:AV):Prop:=∃ q,tB (fun r=>lookB r σ) v=some q/\Nz q.1 r
theorem ae.of_tcalls {f:Nat}{args:List PV}{r:PV}(h:bV P G f (args.map .pv) [] 0 fun v σ _=>isR r σ v):ae P G f args r:=by
 obtain⟨hcal,h⟩:=h
 refine⟨hcal,fun w imm vals hG hlt hsz hargs=>?_⟩
 have hl:(fun r=>lookB r ([]:List (Nat×Blk)))=fun _=>Blk.none:=by funext r;rfl
 refine (h ⟨w,fun _=>none,imm⟩ vals ?_ (fun _ _=>rfl) (by simpa using hsz) (fun i x hx=>?_)).mono ?_
 ·refine⟨fun r=>trivial,fun r r' d d' b h1=>absurd rfl h1,fun r d b h1=>absurd rfl h1,hlt,hG.1,fun g hg=>?_⟩
  obtain⟨cs,T,fz,h1,h2⟩:=hG.2 g hg
  refine⟨(Array.getElem?_eq_some_iff.1 h1).1,?_,cs,T,fz,h1,h2⟩
  rintro⟨r,d,h1,_⟩
  exact h1 rfl
 ·simp only[List.getElem?_map,Option.map_eq_some_iff] at hx
  obtain⟨q,hq,rfl⟩:=hx
  exact .pv _ _ (hargs i q hq)
 ·rintro e w' ⟨u,v,κ',sto',next',rfl,rfl,he,hL,hv,hS,hf,q,hq,hqr⟩
  have hlent:∀ b,¬ (bU ⟨w,fun _=>none,imm⟩ (fun r=>lookB r ([]:List (Nat×Blk))) G).lent b:=by
   rintro b ⟨r,d,h1,_⟩
   exact h1 rfl
  obtain⟨h1,h2⟩:=vB hS hv hq
  obtain⟨h3,h4⟩:=vA hS q.2 h1 next'
  have hL':=h3.left _ hL
  refine⟨u,(IE κ' (fun r=>lookB r sto') q.2).imm,rfl,⟨hL.os,hL.tape,hL.output,hL.size,fun k hk=>hL.block k hk (hlent k)⟩,fun b o hi=>h3.ext.imm _ _ (he.imm _ _ hi),fun b o hi=>?_,h4.immLt,h2.nz hqr⟩
  rcases hL'.imm b o hi with h1 | h1 | h1
  ·exact .inl h1
  ·exact .inr h1
  ·exact absurd h1 (hlent b)
def Pj (r:PV)(v:AV)(σ:List (Nat×Blk))(_:Nat):Prop:=isR r σ v
theorem PM {r:PV}{σ:List (Nat×Blk)}{v:AV}(h:v.toPV=some r):isR r σ v:=by
 cases v with
 | pv p=>simp only[AV.toPV,Option.some.injEq] at h;subst h;exact⟨(p,[]),rfl,.refl p⟩
 | olist a b l=>simp only[AV.toPV,Option.some.injEq] at h;subst h;exact⟨(.list l,[]),rfl,.refl _⟩
 | _=>simp[AV.toPV] at h
theorem ae.intro {muts:List Nat}{f:Nat}{fn:AFn}{args:List PV}{r:PV}(hc:cFn P muts f=some fn)(hn:args.length<=fn.N)
  (hv:vc P G 0 fn.body (FnK G fn.res (Pj r)) ⟨cY (args.map .pv),[],0⟩):ae P G f args r:=
 ae.of_tcalls (bV.intro hc (by simpa using hn) hv)
theorem ae.nz {f:Nat}{qs ps:List PV}{r:PV}(h:ae P G f ps r)(hz:NzL qs ps):ae P G f qs r:=by
 obtain⟨h1,h2⟩:=h
 refine⟨h1,fun w imm vals hG hlt hsz hargs=>h2 w imm vals hG hlt (by rw[hsz,hz.length]) fun i x hx=>?_⟩
 obtain⟨y,hy,hyx⟩:=hz.get i x hx
 exact (hargs i y hy).nz hyx
theorem ab.pure {f:Nat}{args:List AV}{ps:List PV}{r:PV}{s:St}{K:AV->St->Prop}(h:ae P G f ps r)(he:pvs args=some ps)(hk:K (.pv r) s):ab P G f args s K:=
 ⟨s,args,WkC.refl s args,.inl ⟨ps,r,he,h,hk⟩⟩
theorem ab.lent {f:Nat}{args:List AV}{s:St}{K:AV->St->Prop}{Q:AV->List (Nat×Blk)->Nat->Prop}(h:bV P G f args s.sto s.next Q)(hk:∀ v sto' next',Q v sto' next'->K v ⟨s.env,sto',next'⟩):ab P G f args s K:=
 ⟨s,args,WkC.refl s args,.inr ⟨Q,h,hk⟩⟩
theorem MB.intro {body:(AExit->St->Prop)->St->Prop}{m0:Nat}{keep:List Nat}{Q:AExit->St->Prop}{s:St}(I:Nat->St->Prop)(n:Nat)(h0:I n (norm m0 keep s))(h:∀ n s,I n s->body (Rp m0 I n Q) s):MB body m0 keep Q s:=
 ⟨I,⟨n,_,Wk.norm m0 keep s,h0⟩,h⟩
end
section
variable {P:Program}{G:Nat->List PV}
theorem bj {α:Type}{x:Option α}{k k':α->Prop}(h:∀ a,k a->k' a)(hx:aI x k):aI x k':=by
 cases x with
 | none=>exact hx
 | some a=>exact h a hx
theorem ab.mono {f:Nat}{args:List AV}{s:St}{K K':AV->St->Prop}(h:∀ v s,K v s->K' v s)(hA:ab P G f args s K):ab P G f args s K':=by
 obtain⟨s',args',hw,⟨ps,r,h1,h2,h3⟩ | ⟨Q,h1,h2⟩⟩:=hA
 ·exact⟨s',args',hw,.inl ⟨ps,r,h1,h2,h _ _ h3⟩⟩
 ·exact⟨s',args',hw,.inr ⟨Q,h1,fun v sto n hq=>h _ _ (h2 v sto n hq)⟩⟩
theorem En {F F':St->Prop}(h:∀ s,F s->F' s){s:St}{d:Option Nat}{o:AOp}(hx:mb P G F s d o):mb P G F' s d o:=by
 cases o with
 | t o=>
   simp only[mb,iK] at hx ⊢
   split
   ·rename_i v hv
    rw[hv] at hx;exact h _ hx
   ·rename_i hv
    rw[hv] at hx
    exact⟨hx.1,fun b=>h _ (hx.2 b)⟩
 | m o=>exact bj (fun v hv=>h _ hv) hx
 | fz g x=>exact bj (fun v hv=>h _ hv) hx
 | call f xs=>exact bj (fun p hp=>ab.mono (fun v s hv=>h _ hv) hp) hx
theorem Er {F F':St->Prop}(h:∀ s,F s->F' s){s:St}{d:Option Nat}{o:AOp}{b:Bool}(hx:Kn P G F s d o b):Kn P G F' s d o b:=by
 cases b with
 | true=>exact En h hx
 | false=>exact h _ hx
theorem iv {F F':St->Prop}(h:∀ s,F s->F' s):∀ (l:List AOper) (s:St),di P G l F s->di P G l F' s
 | [],s,hx=>h s hx
 | o::r,s,hx=>bj (fun b hb=>Er (fun s hs=>iv h r s hs) hb) hx
theorem tT {F F':List (List Nat×List Nat)->St->Prop}(h:∀ T s,F T s->F' T s){T:List (List Nat×List Nat)}{s:St}{d:Option Nat}{args:List AV}{p:Nat×List AV×List AV}(hx:jv P G F T s d args p):jv P G F' T s d args p:=by
 unfold jv QC at hx ⊢
 rcases hx with ⟨ps,r,h1,h2,h3⟩ | ⟨v,δ,top,h1,h2,h3⟩
 ·exact .inl ⟨ps,r,h1,h2,h _ _ h3⟩
 ·exact .inr ⟨v,δ,top,h1,h2,h _ _ h3⟩
theorem zg {F F':List (List Nat×List Nat)->St->Prop}(h:∀ T s,F T s->F' T s){T:List (List Nat×List Nat)}{s:St}{d:Option Nat}{o:AOp}(hx:gZ P G F T s d o):gZ P G F' T s d o:=by
 cases o with
 | t o=>exact bj (fun v hv=>h _ _ hv) hx
 | m o=>exact bj (fun v hv=>h _ _ hv) hx
 | fz g x=>exact hx
 | call f xs=>exact bj (fun p hp=>tT h hp) hx
theorem nw {A:List (List Nat)}{F F':St->Prop}(h:∀ s,F s->F' s):∀ (l:List AOper) (T:List (List Nat×List Nat)) (s:St),vcD P G A F l T s->vcD P G A F' l T s
 | [],T,s,hx=>⟨hx.1,h s hx.2⟩
 | o::r,T,s,hx=>by
   refine bj (fun b hb=>?_) hx
   cases b with
   | true=>exact zg (fun T s hs=>nw h r T s hs) hb
   | false=>exact nw h r _ _ hb
theorem cb:∀ {m0:Nat} (c:ACode) {Q Q':AExit->St->Prop} (h:∀ e s,Q e s->Q' e s) (s:St),vc P G m0 c Q s->vc P G m0 c Q' s
 | m0,.skip,Q,Q',h,s,hx=>h _ _ hx
 | m0,.ops l keep,Q,Q',h,s,hx=>iv (fun s hs=>h _ _ hs) l s hx
 | m0,.draw A l l2 keep,Q,Q',h,s,hx=>nw (fun s hs=>iv (fun s hs=>h _ _ hs) l2 s hs) l [] s hx
 | m0,.seq a b,Q,Q',h,s,hx=>cb a (fun e s hs=>by
   cases e with
   | norm=>exact cb b h s hs
   | exit i=>exact h _ _ hs
   | ret=>exact h _ _ hs) s hx
 | m0,.cond x a b,Q,Q',h,s,hx=>by
   simp only[vc] at hx ⊢
   unfold pJ at hx ⊢
   split at hx
   ·exact cb a h s hx
   ·exact cb b h s hx
   ·exact hx
 | m0,.block id b,Q,Q',h,s,hx=>cb b (fun e s hs=>by
   cases e with
   | norm=>exact h _ _ hs
   | exit i=>
     simp only[d6] at hs ⊢
     split at hs
     ·rename_i hi;rw[if_pos hi];exact h _ _ hs
     ·rename_i hi;rw[if_neg hi];exact h _ _ hs
   | ret=>exact h _ _ hs) s hx
 | m0,.loop keep b,Q,Q',h,s,hx=>by
   obtain⟨I,h0,h1⟩:=hx
   refine⟨I,h0,fun n s hs=>cb b (fun e s hs=>?_) s (h1 n s hs)⟩
   cases e with
   | norm=>exact hs
   | exit i=>
     obtain⟨s',hw,hq⟩:=hs
     exact⟨s',hw,h _ _ hq⟩
   | ret=>exact h _ _ hs
 | m0,.range f ps keep a b,Q,Q',h,s,hx=>by
   obtain⟨I,s0,h1,h2,h3⟩:=hx
   refine⟨I,s0,h1,h2,bj (fun p hp=>?_) h3⟩
   obtain⟨q1,lb,xs,q2,q3,q4,q5⟩:=hp
   refine⟨q1,lb,xs,q2,q3,fun i x s' hx hI=>?_,fun s' hI=>h _ _ (q5 s' hI)⟩
   obtain⟨r1,r2⟩:=q4 i x s' hx hI
   refine⟨r1,cb a (fun e s hs=>?_) _ r2⟩
   cases e with
   | norm=>
     refine cb b (fun e s hs=>?_) s hs
     cases e with
     | norm=>exact hs
     | exit i=>exact h _ _ hs
     | ret=>exact h _ _ hs
   | exit i=>exact hs.elim
   | ret=>exact hs.elim
 | m0,.exit id,Q,Q',h,s,hx=>h _ _ hx
 | m0,.ret,Q,Q',h,s,hx=>h _ _ hx
end
theorem jJ {n:Int}(h1:-9223372036854775808<=n)(h2:n<=9223372036854775807):IntKind.i64.wrap n=n:=by
 show (if (true&&decide (n % 18446744073709551616>=9223372036854775808))=true then n % 18446744073709551616 - 18446744073709551616 else n % 18446744073709551616)=n
 simp only[Bool.true_and,decide_eq_true_eq]
 split<;>omega
theorem ug {n:Int}(h1:-2147483648<=n)(h2:n<=2147483647):IntKind.i32.wrap n=n:=by
 show (if (true&&decide (n % 4294967296>=2147483648))=true then n % 4294967296 - 4294967296 else n % 4294967296)=n
 simp only[Bool.true_and,decide_eq_true_eq]
 split<;>omega
theorem j4 {n:Int}(h1:0<=n)(h2:n<=255):IntKind.u8.wrap n=n:=by
 show (if (false&&decide (n % 256>=128))=true then n % 256 - 256 else n % 256)=n
 simp only[Bool.false_and]
 simp;omega
theorem FL {n:Int}(h1:0<=n)(h2:n<=18446744073709551615):IntKind.u64.wrap n=n:=by
 show (if (false&&decide (n % 18446744073709551616>=9223372036854775808))=true then n % 18446744073709551616 - 18446744073709551616 else n % 18446744073709551616)=n
 simp only[Bool.false_and]
 simp;omega
theorem FM {n:Int}(h1:0<=n)(h2:n<=4294967295):IntKind.u32.wrap n=n:=by
 show (if (false&&decide (n % 4294967296>=2147483648))=true then n % 4294967296 - 4294967296 else n % 4294967296)=n
 simp only[Bool.false_and]
 simp;omega
theorem SG {a b:Int}(h:a<b):decide (a<b)=true:=decide_eq_true h
theorem SH {a b:Int}(h:¬ a<b):decide (a<b)=false:=decide_eq_false h
theorem SI {a b:Int}(h:a<=b):decide (a<=b)=true:=decide_eq_true h
theorem SJ {a b:Int}(h:¬ a<=b):decide (a<=b)=false:=decide_eq_false h
theorem SK {a b:Int}(h:a=b):decide (a=b)=true:=decide_eq_true h
theorem SL {a b:Int}(h:¬ a=b):decide (a=b)=false:=decide_eq_false h
def Chk (b:Bool):Prop:=b=true
theorem Nu:Chk true:=_root_.id rfl
theorem Dk (i k:Nat)(x:AV)(r:List (Nat×AV)):look i ((k,x)::r)=if k=i then x else look i r:=_root_.id rfl
theorem H5 (i:Nat):look i [] = .any:=_root_.id rfl
theorem yp (i k:Nat)(x:Blk)(r:List (Nat×Blk)):lookB i ((k,x)::r)=if k=i then x else lookB i r:=_root_.id rfl
theorem Dl (i:Nat):lookB i [] = .none:=_root_.id rfl
def evE (e:List (Nat×AV)):AX->AV
 | .t i=>look i e
 | .c p=>.pv p
 | .m i tb=>Od tb (look i e)
theorem Sz (e:List (Nat×AV))(i:Nat)(tb:List (Nat×Nat)):evE e (.m i tb)=Od tb (look i e):=_root_.id rfl
theorem yj (tb:List (Nat×Nat))(T:Nat)(p:PV):Od tb (.pv (.iface T p))=Dj p (lc T tb):=_root_.id rfl
theorem yo (t a b:Nat)(r:List (Nat×Nat)):lc t ((a,b)::r)=if a=t then some b else lc t r:=_root_.id rfl
theorem ym (p:PV)(f:Nat):Dj p (some f) = .clo f [.pv p] []:=_root_.id rfl
theorem Sy (e:List (Nat×AV))(i:Nat):evE e (.t i)=look i e:=_root_.id rfl
theorem SA (e:List (Nat×AV))(p:PV):evE e (.c p) = .pv p:=_root_.id rfl
def evO (e:List (Nat×AV)):Option AX->Option AV
 | some x=>some (evE e x)
 | none=>none
theorem IR (e:List (Nat×AV))(x:AX):evO e (some x)=some (evE e x):=_root_.id rfl
theorem IS (e:List (Nat×AV)):evO e none=none:=_root_.id rfl
def evL (e:List (Nat×AV)):List AX->List AV
 | []=>[]
 | x::r=>evE e x::evL e r
theorem Ng (e:List (Nat×AV)):evL e []=[]:=_root_.id rfl
theorem IU (e:List (Nat×AV))(x:AX)(r:List AX):evL e (x::r)=evE e x::evL e r:=_root_.id rfl
theorem jE (e:List (Nat×AV))(σ:List (Nat×Blk))(n:Nat)(x:AX):x.ev (St.E ⟨e,σ,n⟩)=evE e x:=by cases x<;>rfl
theorem Eg (e:List (Nat×AV))(σ:List (Nat×Blk))(n:Nat):∀ (l:List AX),l.map (·.ev (St.E ⟨e,σ,n⟩))=evL e l
 | []=>rfl
 | x::r=>by rw[List.map_cons,Eg e σ n r,jE];rfl
def evP (e:List (Nat×AV)):List (Nat×Nat×AX)->List (Nat×Nat×AV)
 | []=>[]
 | (a,b,x)::r=>(a,b,evE e x)::evP e r
theorem Nf (e:List (Nat×AV)):evP e []=[]:=_root_.id rfl
theorem IQ (e:List (Nat×AV))(a b:Nat)(x:AX)(r:List (Nat×Nat×AX)):evP e ((a,b,x)::r)=(a,b,evE e x)::evP e r:=_root_.id rfl
def ik (e:List (Nat×AV)):TOp->Option AV
 | .mv x=>some (evE e x)
 | .pick c a b=>r8 (evE e c) (evE e a) (evE e b)
 | .build zs ps=>(gm (zs.map .pv) (evP e ps)).map jA
 | .faddr off x=>jh off (evE e x)
 | .field g sz off x=>kD g sz off (evE e x)
 | .iaddr sz x i=>gI sz (evE e x) (evE e i)
 | .iaddrA n sz x i=>iE n sz (evE e x) (evE e i)
 | .index x i=>gH (evE e x) (evE e i)
 | .indexA g n sz x i=>fb g n sz (evE e x) (evE e i)
 | .len st x=>FD st (evE e x)
 | .imin x y=>L1 (evE e x) (evE e y)
 | .imax x y=>L2 (evE e x) (evE e y)
 | .sliceL sz x lo hi=>ep sz (evE e x) (evO e lo) (evO e hi)
 | .sliceS x lo hi=>f5 (evE e x) (evO e lo) (evO e hi)
 | .bin op x y=>cD op (evE e x) (evE e y)
 | .beq kd ng x y=>(sv kd (evE e x) (evE e y)).map fun b=>.pv (.bool (if ng then !b else b))
 | .neg x=>Oc (evE e x)
 | .not x=>Ob (evE e x)
 | .conv k x=>xo k (evE e x)
 | .convIS x=>iF (evE e x)
 | .clo f fs cs=>some (sX f (evL e fs) (evL e cs))
 | .ext x i=>L5 i (evE e x)
 | .nilck x=>FC (evE e x)
theorem IT (e:List (Nat×AV)):∀ (l:List AX),l.map (fun x=>evE e x)=evL e l
 | []=>rfl
 | x::r=>by rw[List.map_cons,IT e r];rfl
theorem P0 (e:List (Nat×AV))(l:Option AX):l.map (fun x=>evE e x)=evO e l:=by cases l<;>rfl
theorem PZ (e:List (Nat×AV)):∀ (l:List (Nat×Nat×AX)),(l.map fun p=>(p.1,p.2.1,evE e p.2.2))=evP e l
 | []=>rfl
 | (a,b,x)::r=>by rw[List.map_cons,PZ e r];rfl
theorem Bk (e:List (Nat×AV))(σ:List (Nat×Blk))(n:Nat)(o:TOp):o.run (St.E ⟨e,σ,n⟩)=ik e o:=by
 cases o<;>simp only[TOp.run,ik,jE,IT,P0,PZ]
theorem Lb (e:List (Nat×AV))(x:AX):ik e (.mv x)=some (evE e x):=_root_.id rfl
theorem Bh (e:List (Nat×AV))(c a b:AX):ik e (.pick c a b)=r8 (evE e c) (evE e a) (evE e b):=_root_.id rfl
theorem wO (e:List (Nat×AV))(zs:List PV)(ps:List (Nat×Nat×AX)):ik e (.build zs ps)=(gm (zs.map .pv) (evP e ps)).map jA:=_root_.id rfl
theorem wN (e:List (Nat×AV))(off:Nat)(x:AX):ik e (.faddr off x)=jh off (evE e x):=_root_.id rfl
theorem wM (e:List (Nat×AV))(g:Bool)(sz off:Nat)(x:AX):ik e (.field g sz off x)=kD g sz off (evE e x):=_root_.id rfl
theorem wL (e:List (Nat×AV))(sz:Nat)(x i:AX):ik e (.iaddr sz x i)=gI sz (evE e x) (evE e i):=_root_.id rfl
theorem rP (e:List (Nat×AV))(n sz:Nat)(x i:AX):ik e (.iaddrA n sz x i)=iE n sz (evE e x) (evE e i):=_root_.id rfl
theorem wK (e:List (Nat×AV))(x i:AX):ik e (.index x i)=gH (evE e x) (evE e i):=_root_.id rfl
theorem rO (e:List (Nat×AV))(g:Bool)(n sz:Nat)(x i:AX):ik e (.indexA g n sz x i)=fb g n sz (evE e x) (evE e i):=_root_.id rfl
theorem Ge (e:List (Nat×AV))(st:Bool)(x:AX):ik e (.len st x)=FD st (evE e x):=_root_.id rfl
theorem Bi (e:List (Nat×AV))(x y:AX):ik e (.imin x y)=L1 (evE e x) (evE e y):=_root_.id rfl
theorem Bj (e:List (Nat×AV))(x y:AX):ik e (.imax x y)=L2 (evE e x) (evE e y):=_root_.id rfl
theorem rN (e:List (Nat×AV))(sz:Nat)(x:AX)(lo hi:Option AX):ik e (.sliceL sz x lo hi)=ep sz (evE e x) (evO e lo) (evO e hi):=_root_.id rfl
theorem rM (e:List (Nat×AV))(x:AX)(lo hi:Option AX):ik e (.sliceS x lo hi)=f5 (evE e x) (evO e lo) (evO e hi):=_root_.id rfl
theorem Gh (e:List (Nat×AV))(op:BinOp)(x y:AX):ik e (.bin op x y)=cD op (evE e x) (evE e y):=_root_.id rfl
def Hg (ng:Bool):Option Bool->Option AV
 | some b=>some (.pv (.bool (if ng then !b else b)))
 | none=>none
theorem Gi (e:List (Nat×AV))(kd:Nat)(ng:Bool)(x y:AX):ik e (.beq kd ng x y)=Hg ng (sv kd (evE e x) (evE e y)):=by
 simp only[ik];cases sv kd (evE e x) (evE e y)<;>rfl
theorem L7 (b:Bool):Hg true (some b)=some (.pv (.bool (!b))):=_root_.id rfl
theorem L8 (b:Bool):Hg false (some b)=some (.pv (.bool b)):=_root_.id rfl
theorem Gd (e:List (Nat×AV))(x:AX):ik e (.neg x)=Oc (evE e x):=_root_.id rfl
theorem Gc (e:List (Nat×AV))(x:AX):ik e (.not x)=Ob (evE e x):=_root_.id rfl
theorem Bl (e:List (Nat×AV))(k:IntKind)(x:AX):ik e (.conv k x)=xo k (evE e x):=_root_.id rfl
theorem rQ (e:List (Nat×AV))(x:AX):ik e (.convIS x)=iF (evE e x):=_root_.id rfl
theorem sn (k:IntKind)(n:Int):iF (.pv (.int k n))=some (.pv (.str (Utf8.encode n).data.toList)):=_root_.id rfl
theorem Gg (e:List (Nat×AV))(f:Nat)(fs cs:List AX):ik e (.clo f fs cs)=some (sX f (evL e fs) (evL e cs)):=_root_.id rfl
theorem Gf (e:List (Nat×AV))(x:AX)(i:Nat):ik e (.ext x i)=L5 i (evE e x):=_root_.id rfl
theorem wJ (e:List (Nat×AV))(x:AX):ik e (.nilck x)=FC (evE e x):=_root_.id rfl
theorem LX (x y:AV):r8 (.pv (.bool true)) x y=some x:=_root_.id rfl
theorem LY (x y:AV):r8 (.pv (.bool false)) x y=some y:=_root_.id rfl
theorem xj (off r o:Nat):jh off (.ptr r o)=some (.ptr r (o+off)):=_root_.id rfl
theorem sm (off:Nat)(l:List PV)(i o:Nat):jh off (.pv (.eptr l i o))=some (.pv (.eptr l i (o+off))):=_root_.id rfl
theorem sl (off g o:Nat):jh off (.pv (.gptr g o))=some (.pv (.gptr g (o+off))):=_root_.id rfl
theorem Cc (g:Bool)(sz off:Nat)(ps:List PV):kD g sz off (.pv (.agg ps))=cW g sz off (ps.map .pv):=_root_.id rfl
theorem Cd (g:Bool)(sz off:Nat)(ps:List AV):kD g sz off (.agg ps)=cW g sz off ps:=_root_.id rfl
def Pm (sz off:Nat)(cs:List AV):Option AV:=if off+sz<=cs.length then some (jA ((cs.drop off).take sz)) else none
theorem Md (sz off:Nat)(cs:List AV):cW true sz off cs=Pm sz off cs:=_root_.id rfl
theorem Me (sz off:Nat)(cs:List AV):cW false sz off cs=cs[off]?:=_root_.id rfl
def fR (sz:Nat)(l:List PV)(i:Nat):Option PV->Option AV
 | some y=>if y.cells.length=sz then some (.pv (.eptr l i 0)) else none
 | none=>none
theorem py (sz:Nat)(l:List PV)(i:Nat):f8 sz l (i:Int)=fR sz l i l[i]?:=by
 unfold f8 fR
 rw[if_pos (by omega)]
 simp only[Int.toNat_natCast]
 cases l[i]? <;> rfl
theorem aE (sz:Nat)(l:List PV):f8 sz l 0=fR sz l 0 l[0]?:=_root_.id rfl
theorem xm (sz:Nat)(l:List PV)(i:Nat):f8 sz l ((i:Int)+1)=fR sz l (i+1) l[i+1]?:=py sz l (i+1)
theorem sk (sz:Nat)(l:List PV)(k:IntKind)(n:Int):gI sz (.pv (.list l)) (.pv (.int k n))=f8 sz l n:=_root_.id rfl
theorem pw (sz r s:Nat)(l:List PV)(k:IntKind)(n:Int):gI sz (.olist r s l) (.pv (.int k n))=f8 sz l n:=_root_.id rfl
theorem xh (sz r off len:Nat)(k:IntKind){n:Int}(h:0<=n)(h':n.toNat<len):gI sz (.row r sz off len) (.pv (.int k n))=some (.ptr r (off+n.toNat*sz)):=by
 simp[gI,h,h']
theorem GX (l:List UInt8):FD true (.pv (.str l))=some (.pv (.int .i64 l.length)):=_root_.id rfl
theorem B9 (l:List PV):FD false (.pv (.list l))=some (.pv (.int .i64 l.length)):=_root_.id rfl
theorem B8:FD false (.pv .nils)=some (.pv (.int .i64 0)):=_root_.id rfl
theorem xg (r s:Nat)(l:List PV):FD false (.olist r s l)=some (.pv (.int .i64 l.length)):=_root_.id rfl
theorem GY (r s o n:Nat):FD false (.row r s o n)=some (.pv (.int .i64 n)):=_root_.id rfl
theorem sq {d top:Nat}{k:IntKind}{n:Int}(h0:0<=n)(h1:n<=top):a8 d top (some (.pv (.int k n)))=some n.toNat:=by
 simp[a8,h0,h1]
theorem sr {d top:Nat}:a8 d top none=some d:=_root_.id rfl
def SS {α:Type}(l:List α)(f:List α->AV):Option Nat->Option Nat->Option AV
 | some h,some a=>some (f ((l.take h).drop a))
 | _,_=>none
theorem ED {α:Type}(l:List α)(f:List α->AV)(h a:Nat):SS l f (some h) (some a)=some (f ((l.take h).drop a)):=_root_.id rfl
def S4 (l:Nat)(lo:Option AV):Option Nat->Option Nat
 | some h=>a8 0 h lo
 | none=>none
theorem E3 (l:Nat)(lo:Option AV)(h:Nat):S4 l lo (some h)=a8 0 h lo:=_root_.id rfl
theorem r7 (l:List UInt8)(lo hi:Option AV):f5 (.pv (.str l)) lo hi=SS l (fun x=>.pv (.str x)) (a8 l.length l.length hi) (S4 l.length lo (a8 l.length l.length hi)):=by
 unfold f5 SS S4
 simp only
 split<;>rename_i h
 ·rw[h];simp only;cases a8 0 _ lo<;>rfl
 ·rw[h]
theorem Hb (k:IntKind)(a b:Int):cD .add (.pv (.int k a)) (.pv (.int k b))=some (.pv (.int k (k.wrap (a+b)))):=by simp[cD,oH]
theorem G0 (k:IntKind)(a b:Int):cD .sub (.pv (.int k a)) (.pv (.int k b))=some (.pv (.int k (k.wrap (a - b)))):=by simp[cD,oH]
theorem G4 (k:IntKind)(a b:Int):cD .mul (.pv (.int k a)) (.pv (.int k b))=some (.pv (.int k (k.wrap (a*b)))):=by simp[cD,oH]
theorem G2 {k:IntKind}{a b:Int}(h:¬ b=0):cD .quo (.pv (.int k a)) (.pv (.int k b))=some (.pv (.int k (k.wrap (a.tdiv b)))):=by simp[cD,oH,h]
theorem G1 {k:IntKind}{a b:Int}(h:¬ b=0):cD .rem (.pv (.int k a)) (.pv (.int k b))=some (.pv (.int k (a.tmod b))):=by simp[cD,oH,h]
theorem Ha (k:IntKind)(a b:Int):cD .and (.pv (.int k a)) (.pv (.int k b))=some (.pv (.int k (bits .and k a b))):=by simp[cD,oH]
theorem L6 (k:IntKind)(a b:Int):cD .or (.pv (.int k a)) (.pv (.int k b))=some (.pv (.int k (bits .or k a b))):=by simp[cD,oH]
theorem GZ (k:IntKind)(a b:Int):cD .xor (.pv (.int k a)) (.pv (.int k b))=some (.pv (.int k (bits .xor k a b))):=by simp[cD,oH]
theorem su (k:IntKind)(a b:Int):cD .andNot (.pv (.int k a)) (.pv (.int k b))=some (.pv (.int k (bits .andNot k a b))):=by simp[cD,oH]
theorem G9 (k:IntKind)(a b:Int):cD .eql (.pv (.int k a)) (.pv (.int k b))=some (.pv (.bool (decide (a=b)))):=by simp[cD,oH];rfl
theorem G3 (k:IntKind)(a b:Int):cD .neq (.pv (.int k a)) (.pv (.int k b))=some (.pv (.bool (!decide (a=b)))):=by simp[cD,oH];rfl
theorem G5 (k:IntKind)(a b:Int):cD .lss (.pv (.int k a)) (.pv (.int k b))=some (.pv (.bool (decide (a<b)))):=by simp[cD,oH]
theorem G6 (k:IntKind)(a b:Int):cD .leq (.pv (.int k a)) (.pv (.int k b))=some (.pv (.bool (decide (a<=b)))):=by simp[cD,oH]
theorem G7 (k:IntKind)(a b:Int):cD .gtr (.pv (.int k a)) (.pv (.int k b))=some (.pv (.bool (decide (b<a)))):=by simp[cD,oH]
theorem G8 (k:IntKind)(a b:Int):cD .geq (.pv (.int k a)) (.pv (.int k b))=some (.pv (.bool (decide (b<=a)))):=by simp[cD,oH]
theorem Cl {a b:List UInt8}(h:a.length+b.length<=9223372036854775807):cD .add (.pv (.str a)) (.pv (.str b))=some (.pv (.str (a++b))):=by
 have:a.length+b.length<=maxLen:=by unfold maxLen;omega
 simp[cD,Oa,this]
theorem Ck (a b:List UInt8):cD .eql (.pv (.str a)) (.pv (.str b))=some (.pv (.bool (decide (a=b)))):=by
 simp[cD,Oa];rw[Bool.eq_iff_iff];simp
theorem Cf (a b:List UInt8):cD .neq (.pv (.str a)) (.pv (.str b))=some (.pv (.bool (!decide (a=b)))):=by
 simp[cD,Oa];rw[Bool.eq_iff_iff];simp
theorem Cg (a b:List UInt8):cD .lss (.pv (.str a)) (.pv (.str b))=some (.pv (.bool (bd a b))):=_root_.id rfl
theorem Ch (a b:List UInt8):cD .leq (.pv (.str a)) (.pv (.str b))=some (.pv (.bool (bd a b||a == b))):=_root_.id rfl
theorem Ci (a b:List UInt8):cD .gtr (.pv (.str a)) (.pv (.str b))=some (.pv (.bool (!(bd a b||a == b)))):=_root_.id rfl
theorem Cj (a b:List UInt8):cD .geq (.pv (.str a)) (.pv (.str b))=some (.pv (.bool (!(bd a b)))):=_root_.id rfl
theorem Cq (a b:Bool):sv 0 (.pv (.bool a)) (.pv (.bool b))=some (a == b):=_root_.id rfl
theorem He (r o:Nat):sv 1 (.ptr r o) (.pv .nilp)=some false:=_root_.id rfl
theorem Co (l:List PV)(i o:Nat):sv 1 (.pv (.eptr l i o)) (.pv .nilp)=some false:=_root_.id rfl
theorem Cn:sv 1 (.pv .nilp) (.pv .nilp)=some true:=_root_.id rfl
theorem Cp (x:PV)(l:List PV):sv 2 (.pv (.list (x::l))) (.pv .nils)=some false:=_root_.id rfl
theorem xp (r s:Nat)(x:PV)(l:List PV):sv 2 (.olist r s (x::l)) (.pv .nils)=some false:=_root_.id rfl
theorem Hc {r s o n:Nat}(h:0<n):sv 2 (.row r s o n) (.pv .nils)=some false:=by
 cases n with
 | zero=>exact absurd h (Nat.lt_irrefl _)
 | succ n=>rfl
theorem Cm:sv 2 (.pv .nils) (.pv .nils)=some true:=_root_.id rfl
theorem GU (k:IntKind)(n:Int):Oc (.pv (.int k n))=some (.pv (.int k (k.wrap (0 - n)))):=_root_.id rfl
theorem B3 (b:Bool):Ob (.pv (.bool b))=some (.pv (.bool (!b))):=_root_.id rfl
theorem Ce (k k':IntKind)(n:Int):xo k (.pv (.int k' n))=some (.pv (.int k (k.wrap n))):=_root_.id rfl
theorem GR (r o:Nat):FC (.ptr r o)=some (.ptr r o):=_root_.id rfl
theorem B6 (l:List PV)(i o:Nat):FC (.pv (.eptr l i o))=some (.pv (.eptr l i o)):=_root_.id rfl
theorem B5 (g o:Nat):FC (.pv (.gptr g o))=some (.pv (.gptr g o)):=_root_.id rfl
theorem B4 (f:Nat)(a b:List PV):FC (.pv (.clo f a b))=some (.pv (.clo f a b)):=_root_.id rfl
theorem GS (f:Nat)(a b:List AV):FC (.clo f a b)=some (.clo f a b):=_root_.id rfl
theorem L3 (i:Nat)(ps:List PV):L5 i (.pv (.tup ps))=(ps[i]?).map .pv:=_root_.id rfl
theorem L4 (i:Nat)(ps:List AV):L5 i (.tup ps)=ps[i]?:=_root_.id rfl
theorem CR {α β:Type}(f:α->β)(a:α):(some a).map f=some (f a):=_root_.id rfl
theorem x9:[].map AV.pv=[]:=_root_.id rfl
theorem s7 (x:PV)(r:List PV):(x::r).map AV.pv = .pv x::r.map AV.pv:=_root_.id rfl
theorem TX {α:Type}(x:α)(r:List α):(x::r)[0]? = some x:=_root_.id rfl
theorem TW {α:Type}(x:α)(r:List α)(n:Nat):(x::r)[n+1]? = r[n]?:=_root_.id rfl
theorem L9:pvs []=some []:=_root_.id rfl
def Rv:Option PV->Option (List PV)->Option (List PV)
 | some p,some ps=>some (p::ps)
 | _,_=>none
theorem Cu (p:PV)(ps:List PV):Rv (some p) (some ps)=some (p::ps):=_root_.id rfl
theorem Cv (x:Option (List PV)):Rv none x=none:=_root_.id rfl
theorem xw (x:Option PV):Rv x none=none:=by cases x<;>rfl
theorem nR (x:AV)(r:List AV):pvs (x::r)=Rv x.toPV (pvs r):=by
 show (match x.toPV,pvs r with | some p,some ps=>some (p::ps) | _,_=>none)=_
 cases x.toPV<;>cases pvs r<;>rfl
theorem pvs_map:∀ (ps:List PV),pvs (ps.map .pv)=some ps
 | []=>rfl
 | x::r=>by rw[List.map_cons,nR,pvs_map r];rfl
theorem K9 (p:PV):(AV.pv p).toPV=some p:=_root_.id rfl
theorem wD (r s:Nat)(l:List PV):(AV.olist r s l).toPV=some (.list l):=_root_.id rfl
theorem F6 (r o:Nat):(AV.ptr r o).toPV=none:=_root_.id rfl
theorem F5 (r s o n:Nat):(AV.row r s o n).toPV=none:=_root_.id rfl
theorem F8 (cs:List AV):(AV.agg cs).toPV=none:=_root_.id rfl
theorem F4 (cs:List AV):(AV.tup cs).toPV=none:=_root_.id rfl
theorem F7 (f:Nat)(a b:List AV):(AV.clo f a b).toPV=none:=_root_.id rfl
def C9 (cs:List AV):Option (List PV)->AV
 | some ps=>.pv (.agg ps)
 | none=>.agg cs
theorem Mx (cs:List AV):jA cs=C9 cs (pvs cs):=by unfold jA;cases pvs cs<;>rfl
theorem sY (cs:List AV)(ps:List PV):C9 cs (some ps) = .pv (.agg ps):=_root_.id rfl
theorem sZ (cs:List AV):C9 cs none = .agg cs:=_root_.id rfl
def C7 (cs:List AV):Option (List PV)->AV
 | some ps=>.pv (.tup ps)
 | none=>.tup cs
theorem Mv (cs:List AV):pT cs=C7 cs (pvs cs):=by unfold pT;cases pvs cs<;>rfl
theorem sT (cs:List AV)(ps:List PV):C7 cs (some ps) = .pv (.tup ps):=_root_.id rfl
theorem sU (cs:List AV):C7 cs none = .tup cs:=_root_.id rfl
def pV (f:Nat)(fs cs:List AV):Option (List PV)->Option (List PV)->AV
 | some a,some b=>.pv (.clo f a b)
 | _,_=>.clo f fs cs
theorem Mw (f:Nat)(fs cs:List AV):sX f fs cs=pV f fs cs (pvs fs) (pvs cs):=by unfold sX pV;cases pvs fs<;>cases pvs cs<;>rfl
theorem sV (f:Nat)(fs cs:List AV)(a b:List PV):pV f fs cs (some a) (some b) = .pv (.clo f a b):=_root_.id rfl
theorem sW (f:Nat)(fs cs:List AV)(a:Option (List PV)):pV f fs cs a none = .clo f fs cs:=by cases a<;>rfl
theorem pU (f:Nat)(fs cs:List AV)(a:Option (List PV)):pV f fs cs none a = .clo f fs cs:=by cases a<;>rfl
theorem ES (p:PV):(AV.pv p).cells=p.cells.map .pv:=_root_.id rfl
theorem Ad (cs:List AV):(AV.agg cs).cells=cs:=_root_.id rfl
theorem z7 (cs:List AV):(AV.tup cs).cells=[.tup cs]:=_root_.id rfl
theorem Aa (r o:Nat):(AV.ptr r o).cells=[.ptr r o]:=_root_.id rfl
theorem z8 (r s o n:Nat):(AV.row r s o n).cells=[.row r s o n]:=_root_.id rfl
theorem qT (r s:Nat)(l:List PV):(AV.olist r s l).cells=[.olist r s l]:=_root_.id rfl
theorem Ac (f:Nat)(a b:List AV):(AV.clo f a b).cells=[.clo f a b]:=_root_.id rfl
theorem ak (cs:List PV):(PV.agg cs).cells=cs:=_root_.id rfl
theorem zZ (b:Bool):(PV.bool b).cells=[.bool b]:=_root_.id rfl
theorem EQ (k:IntKind)(n:Int):(PV.int k n).cells=[.int k n]:=_root_.id rfl
theorem EO (s:List UInt8):(PV.str s).cells=[.str s]:=_root_.id rfl
theorem zJ:PV.nils.cells=[.nils]:=_root_.id rfl
theorem zU (l:List PV):(PV.list l).cells=[.list l]:=_root_.id rfl
theorem zO:PV.nilp.cells=[.nilp]:=_root_.id rfl
theorem zP:PV.nilf.cells=[.nilf]:=_root_.id rfl
theorem ER (f:Nat)(a b:List PV):(PV.clo f a b).cells=[.clo f a b]:=_root_.id rfl
theorem zY (l:List PV)(i o:Nat):(PV.eptr l i o).cells=[.eptr l i o]:=_root_.id rfl
theorem zW (g o:Nat):(PV.gptr g o).cells=[.gptr g o]:=_root_.id rfl
def MG (g:Bool)(sz o:Nat):Blk->Option AV
 | .cells _ _ l=>cW g sz o l
 | _=>none
theorem tn (g:Bool)(sz o T:Nat)(f:Bool)(l:List AV):MG g sz o (.cells T f l)=cW g sz o l:=_root_.id rfl
def MC (g:Bool)(sz o:Nat):Option PV->Option AV
 | some e=>mh g sz o e
 | none=>none
theorem yq (g:Bool)(sz o:Nat)(e:PV):MC g sz o (some e)=mh g sz o e:=_root_.id rfl
theorem B7 (G:Nat->List PV)(g:Bool)(sz:Nat)(σ:am)(r o:Nat):eq G g sz σ (.ptr r o)=MG g sz o (σ r):=by
 simp only[eq,MG];cases σ r<;>rfl
theorem xe (G:Nat->List PV)(g:Bool)(sz:Nat)(σ:am)(l:List PV)(i o:Nat):eq G g sz σ (.pv (.eptr l i o))=MC g sz o l[i]?:=by
 simp only[eq,MC];cases l[i]? <;> rfl
theorem xd (G:Nat->List PV)(g:Bool)(sz:Nat)(σ:am)(b o:Nat):eq G g sz σ (.pv (.gptr b o))=cW g sz o ((G b).map .pv):=_root_.id rfl
theorem MF (sz o:Nat)(e:PV):mh false sz o e=cW false sz o (e.cells.map .pv):=by simp[mh]
theorem ME {sz o:Nat}{cs:List PV}(h:0<o):mh true sz o (.agg cs)=cW true sz o (cs.map .pv):=by
 simp[mh,PV.cells];omega
def mw (e:List (Nat×AV))(σ:List (Nat×Blk))(new:Nat):XOp->Option (AV×List (Nat×Blk))
 | .noesc x=>some (evE e x,[])
 | .ucast u n b x=>(fa u n b (fun r=>lookB r σ) (evE e x)).map fun v=>(v,[])
 | .peq ng x y=>(LZ ng (evE e x) (evE e y)).map fun v=>(v,[])
 | .apps t by_ x y=>mf t by_ new (fun r=>lookB r σ) (evE e x) (evE e y)
 | .sdata x=>(gG (evE e x)).map fun v=>(v,[])
 | .ustr t x k=>pp t (fun r=>lookB r σ) (evE e x) (evE e k)
 | .ofStr x=>kB new (evE e x)
 | .fnil ng x y=>(px ng (evE e x) (evE e y)).map fun v=>(v,[])
 | .inil ng x y=>(pr ng (evE e x) (evE e y)).map fun v=>(v,[])
 | .idxb x y=>(sh (evE e x) (evE e y)).map fun v=>(v,[])
 | .same x=>B1 (fun r=>lookB r σ) (evE e x)
theorem KP (e:List (Nat×AV))(σ:List (Nat×Blk))(n new:Nat)(o:XOp):o.run new (St.E ⟨e,σ,n⟩) (St.σ ⟨e,σ,n⟩)=mw e σ new o:=by
 cases o<;>simp only[XOp.run,mw,jE,IT]<;>rfl
def nV (G:Nat->List PV)(e:List (Nat×AV))(σ:List (Nat×Blk))(new:Nat):MOp->Option (AV×List (Nat×Blk))
 | .alloc T zs=>some (.ptr new 0,[(new,.cells T true (zs.map .pv))])
 | .box T x=>if (evE e x).known=true then some (.ptr new 0,[(new,.cells T true (evE e x).cells)]) else none
 | .cbox T x=>match (evE e x).toPV with
   | some p=>if p.cells.all PV.one=true then some (.pv (.eptr [p] 0 0),[(new,.none)]) else none
   | none=>none
 | .load g sz x=>(eq G g sz (fun r=>lookB r σ) (evE e x)).map fun v=>(v,[])
 | .store sz x v=>(gE sz (fun r=>lookB r σ) (evE e x) (evE e v)).map fun d=>(.pv .undef,d)
 | .toStr x=>(eL (fun r=>lookB r σ) (evE e x)).map fun v=>(v,[])
 | .xop o=>mw e σ new o
 | .bslice mu t sz len xs=>cS mu t sz len new (evL e xs)
 | .append mu t sz by_ x y=>dy mu t sz by_ new (fun r=>lookB r σ) (evE e x) (evE e y)
 | .mk mu t sz by_ zs x y=>rMk mu t sz by_ zs new (evE e x) (evE e y)
theorem Df (G:Nat->List PV)(e:List (Nat×AV))(σ:List (Nat×Blk))(n new:Nat)(o:MOp):o.run G new (St.E ⟨e,σ,n⟩) (St.σ ⟨e,σ,n⟩)=nV G e σ new o:=by
 cases o<;>first | (simp only[MOp.run,nV,jE,IT,P0]<;>rfl) | exact KP e σ n new _
def fX (δ:List (Nat×Blk)):Option AV->Option (AV×List (Nat×Blk))
 | some v=>some (v,δ)
 | none=>none
theorem wy (δ:List (Nat×Blk))(v:AV):fX δ (some v)=some (v,δ):=_root_.id rfl
def Ow (v:AV):Option (List (Nat×Blk))->Option (AV×List (Nat×Blk))
 | some δ=>some (v,δ)
 | none=>none
theorem ww (δ:List (Nat×Blk))(v:AV):Ow v (some δ)=some (v,δ):=_root_.id rfl
theorem ye (G:Nat->List PV)(e:List (Nat×AV))(σ:List (Nat×Blk))(new T:Nat)(zs:List PV):nV G e σ new (.alloc T zs)=some (.ptr new 0,[(new,.cells T true (zs.map .pv))]):=_root_.id rfl
def TL (new T:Nat)(v:AV):Bool->Option (AV×List (Nat×Blk))
 | true=>some (.ptr new 0,[(new,.cells T true v.cells)])
 | false=>none
theorem QM (new T:Nat)(v:AV):TL new T v true=some (.ptr new 0,[(new,.cells T true v.cells)]):=_root_.id rfl
theorem H2 (G:Nat->List PV)(e:List (Nat×AV))(σ:List (Nat×Blk))(new T:Nat)(x:AX):nV G e σ new (.box T x)=TL new T (evE e x) (evE e x).known:=by
 simp only[nV];cases (evE e x).known<;>rfl
def NB (new:Nat):Option PV->Option (AV×List (Nat×Blk))
 | some p=>if p.cells.all PV.one=true then some (.pv (.eptr [p] 0 0),[(new,.none)]) else none
 | none=>none
theorem Al (new:Nat)(p:PV):NB new (some p)=if p.cells.all PV.one=true then some (.pv (.eptr [p] 0 0),[(new,.none)]) else none:=_root_.id rfl
theorem Dg (G:Nat->List PV)(e:List (Nat×AV))(σ:List (Nat×Blk))(new T:Nat)(x:AX):nV G e σ new (.cbox T x)=NB new (evE e x).toPV:=by
 simp only[nV,NB]
theorem Ib (p:PV):(AV.pv p).known=true:=_root_.id rfl
theorem Dw (cs:List AV):(AV.agg cs).known=true:=_root_.id rfl
theorem Dr (cs:List AV):(AV.tup cs).known=true:=_root_.id rfl
theorem Du (r o:Nat):(AV.ptr r o).known=true:=_root_.id rfl
theorem Dt (r s o n:Nat):(AV.row r s o n).known=true:=_root_.id rfl
theorem tq (r s:Nat)(l:List PV):(AV.olist r s l).known=true:=_root_.id rfl
theorem Dv (f:Nat)(a b:List AV):(AV.clo f a b).known=true:=_root_.id rfl
theorem De (G:Nat->List PV)(e:List (Nat×AV))(σ:List (Nat×Blk))(new:Nat)(g:Bool)(sz:Nat)(x:AX):nV G e σ new (.load g sz x)=fX [] (eq G g sz (fun r=>lookB r σ) (evE e x)):=by
 simp only[nV];cases eq G g sz (fun r=>lookB r σ) (evE e x)<;>rfl
theorem yd (G:Nat->List PV)(e:List (Nat×AV))(σ:List (Nat×Blk))(new sz:Nat)(x v:AX):nV G e σ new (.store sz x v)=Ow (.pv .undef) (gE sz (fun r=>lookB r σ) (evE e x) (evE e v)):=by
 simp only[nV];cases gE sz (fun r=>lookB r σ) (evE e x) (evE e v)<;>rfl
theorem tj (G:Nat->List PV)(e:List (Nat×AV))(σ:List (Nat×Blk))(new:Nat)(mu:Bool)(t sz len:Nat)(xs:List AX):nV G e σ new (.bslice mu t sz len xs)=cS mu t sz len new (evL e xs):=_root_.id rfl
theorem tk (G:Nat->List PV)(e:List (Nat×AV))(σ:List (Nat×Blk))(new:Nat)(mu:Bool)(t sz by_:Nat)(x y:AX):nV G e σ new (.append mu t sz by_ x y)=dy mu t sz by_ new (fun r=>lookB r σ) (evE e x) (evE e y):=_root_.id rfl
theorem MA (G:Nat->List PV)(e:List (Nat×AV))(σ:List (Nat×Blk))(new:Nat)(mu:Bool)(t sz by_:Nat)(zs:List PV)(x y:AX):nV G e σ new (.mk mu t sz by_ zs x y)=rMk mu t sz by_ zs new (evE e x) (evE e y):=_root_.id rfl
theorem L0 {e sz by_:Nat}{zs:List PV}{new:Nat}{k k':IntKind}{c:Int}(h:0<=c)(h1:(by_:Int)*c<=281474976710656)(h2:c<=9223372036854775807):rMk false e sz by_ zs new (.pv (.int k 0)) (.pv (.int k' c))=some (.olist new sz [],[(new,.tok e sz)]):=by
 simp[rMk,h,h1,h2]
def ur (sz r o:Nat)(v:AV):Blk->Option (List (Nat×Blk))
 | .cells T f l=>if v.known=true/\v.cells.length=sz/\v.cells.all AV.one=true/\o+sz<=l.length then some [(r,.cells T f (l.take o++v.cells++l.drop (o+sz)))] else none
 | _=>none
theorem w9 (sz:Nat)(σ:am)(r o:Nat)(v:AV):gE sz σ (.ptr r o) v=ur sz r o v (σ r):=by
 simp only[gE,ur];cases σ r<;>rfl
def JP (r T:Nat)(f:Bool)(l:List AV)(sz o:Nat)(cs:List AV):Bool->Option (List (Nat×Blk))
 | true=>some [(r,.cells T f (l.take o++cs++l.drop (o+sz)))]
 | false=>none
theorem oW (sz r o:Nat)(v:AV)(T:Nat)(f:Bool)(l:List AV):ur sz r o v (.cells T f l)=JP r T f l sz o v.cells (v.known&&decide (v.cells.length=sz)&&v.cells.all AV.one&&decide (o+sz<=l.length)):=by
 simp only[ur]
 by_cases h:v.known=true/\v.cells.length=sz/\v.cells.all AV.one=true/\o+sz<=l.length
 ·rw[if_pos h]
  have:(v.known&&decide (v.cells.length=sz)&&v.cells.all AV.one&&decide (o+sz<=l.length))=true:=by simp only[Bool.and_eq_true,decide_eq_true_eq];exact⟨⟨⟨h.1,h.2.1⟩,h.2.2.1⟩,h.2.2.2⟩
  rw[this];rfl
 ·rw[if_neg h]
  have:(v.known&&decide (v.cells.length=sz)&&v.cells.all AV.one&&decide (o+sz<=l.length))=false:=by
   rw[Bool.eq_false_iff]
   intro hh
   simp only[Bool.and_eq_true,decide_eq_true_eq] at hh
   exact h ⟨hh.1.1.1,hh.1.1.2,hh.1.2,hh.2⟩
  rw[this];rfl
theorem Gl (r T:Nat)(f:Bool)(l:List AV)(sz o:Nat)(cs:List AV):JP r T f l sz o cs true=some [(r,.cells T f (l.take o++cs++l.drop (o+sz)))]:=_root_.id rfl
theorem e8 {n m by_:Nat}(h1:n+m<=9223372036854775807)(h2:(n+m)*by_<=140737488355328):oG n m by_=true:=by
 simp[oG,h1,h2]
theorem FV (l:List (Nat×Blk)):l9 l []=l:=_root_.id rfl
theorem A8 (l:List (Nat×Blk))(p:Nat×Blk)(r:List (Nat×Blk)):l9 l (p::r)=l9 (p::l) r:=_root_.id rfl
theorem I0 (f:Nat)(a b:List PV):dg (.pv (.clo f a b))=some (f,a.map .pv,b.map .pv):=_root_.id rfl
theorem I1 (f:Nat)(a b:List AV):dg (.clo f a b)=some (f,a,b):=_root_.id rfl
theorem Mj {α:Type}(a:α)(k:α->Prop):aI (some a) k=k a:=_root_.id rfl
section
variable {P:Program}{G:Nat->List PV}
theorem HO (F:St->Prop)(e:List (Nat×AV))(σ:List (Nat×Blk))(n d:Nat)(v:AV):HP F ⟨e,σ,n⟩ (some d) v=F ⟨(d,v)::e,σ,n⟩:=_root_.id rfl
theorem HM (F:St->Prop)(e:List (Nat×AV))(σ:List (Nat×Blk))(n:Nat)(v:AV):HP F ⟨e,σ,n⟩ none v=F ⟨e,σ,n⟩:=_root_.id rfl
theorem HR (F:St->Prop)(e:List (Nat×AV))(σ:List (Nat×Blk))(n d:Nat)(v:AV)(δ:List (Nat×Blk)):xU F ⟨e,σ,n⟩ (some d) (v,δ)=F ⟨(d,v)::e,l9 σ δ,n+1⟩:=_root_.id rfl
theorem HQ (F:St->Prop)(e:List (Nat×AV))(σ:List (Nat×Blk))(n:Nat)(v:AV)(δ:List (Nat×Blk)):xU F ⟨e,σ,n⟩ none (v,δ)=F ⟨e,l9 σ δ,n+1⟩:=_root_.id rfl
theorem HT (F:St->Prop)(e:List (Nat×AV))(σ:List (Nat×Blk))(n d:Nat)(v:AV):HU F (some d) v ⟨e,σ,n⟩=F ⟨(d,v)::e,σ,n⟩:=_root_.id rfl
theorem HS (F:St->Prop)(e:List (Nat×AV))(σ:List (Nat×Blk))(n:Nat)(v:AV):HU F none v ⟨e,σ,n⟩=F ⟨e,σ,n⟩:=_root_.id rfl
theorem I6 (args:List AV)(s:St)(K:AV->St->Prop)(f:Nat)(a b:List AV):ET P G args s K (f,a,b)=ab P G f (a++args++b) s K:=_root_.id rfl
theorem AZ (F:St->Prop)(s:St):di P G [] F s=F s:=_root_.id rfl
theorem wA (d:Option Nat)(o:AOp)(r:List AOper)(F:St->Prop)(s:St):di P G (⟨d,o,none⟩::r) F s=mb P G (di P G r F) s d o:=_root_.id rfl
def j8 (b:Bool):AV->Option Bool
 | .pv (.bool x)=>some (x == b)
 | .pv .undef=>some false
 | _=>none
theorem AU (x:Bool):j8 true (.pv (.bool x))=some x:=by cases x<;>rfl
theorem AW (x:Bool):j8 false (.pv (.bool x))=some (!x):=by cases x<;>rfl
theorem AS (b:Bool):j8 b (.pv .undef)=some false:=_root_.id rfl
theorem rF (d:Option Nat)(o:AOp)(i:Nat)(b:Bool)(r:List AOper)(F:St->Prop)(e:List (Nat×AV))(σ:List (Nat×Blk))(n:Nat) :
  di P G (⟨d,o,some (i,b)⟩::r) F ⟨e,σ,n⟩=aI (j8 b (look i e)) (Kn P G (di P G r F) ⟨e,σ,n⟩ d o):=_root_.id rfl
theorem Ep (F:St->Prop)(s:St)(d:Option Nat)(o:AOp):Kn P G F s d o true=mb P G F s d o:=_root_.id rfl
theorem zj (F:St->Prop)(e:List (Nat×AV))(σ:List (Nat×Blk))(n:Nat)(d:Nat)(o:AOp):Kn P G F ⟨e,σ,n⟩ (some d) o false=F ⟨(d,.pv .undef)::e,σ,n⟩:=_root_.id rfl
theorem tJ (F:St->Prop)(s:St)(o:AOp):Kn P G F s none o false=F s:=_root_.id rfl
def Py (k:AV->Prop):AV->Prop
 | .pv (.list [])=>∀ b:Bool,k (.pv (.bool b))
 | _=>False
def nS (x:Option AV)(k:AV->Prop)(e:List (Nat×AV))(o:TOp):Prop:=
 match x with
 | some v=>k v
 | none=>match o with
   | .beq 2 _ y (.c .nils)=>Py k (evE e y)
   | _=>False
theorem pF (v:AV)(k:AV->Prop)(e:List (Nat×AV))(o:TOp):nS (some v) k e o=k v:=_root_.id rfl
theorem pG (k:AV->Prop)(e:List (Nat×AV))(ng:Bool)(y:AX):nS none k e (.beq 2 ng y (.c .nils))=Py k (evE e y):=_root_.id rfl
theorem HH (k:AV->Prop):Py k (.pv (.list [])) = ∀ b:Bool,k (.pv (.bool b)):=_root_.id rfl
theorem Hf (ng:Bool):Hg ng (sv 2 (.pv (.list [])) (.pv .nils))=none:=_root_.id rfl
theorem P5 (F:St->Prop)(e:List (Nat×AV))(σ:List (Nat×Blk))(n:Nat)(d:Option Nat)(o:TOp):mb P G F ⟨e,σ,n⟩ d (.t o)=nS (ik e o) (HP F ⟨e,σ,n⟩ d) e o:=by
 rw[<- Bk e σ n]
 show iK (o.run (St.E ⟨e,σ,n⟩)) _ _=_
 cases hr:o.run (St.E ⟨e,σ,n⟩) with
 | some v=>rfl
 | none=>
   simp only[iK,nS]
   refine propext ⟨fun h=>?_,fun h=>?_⟩
   ·obtain⟨h1,h2⟩:=h
    unfold nilB at h1
    split at h1
    ·split at h1
     ·rename_i hev
      rw[jE] at hev
      show Py _ _
      rw[hev];exact h2
     ·cases h1
    ·cases h1
   ·split at h
    ·rename_i y
     unfold Py at h
     split at h
     ·rename_i hev
      refine⟨?_,h⟩
      simp only[nilB]
      rw[jE,hev]
     ·exact h.elim
    ·exact h.elim
theorem P6 (F:St->Prop)(e:List (Nat×AV))(σ:List (Nat×Blk))(n:Nat)(d:Option Nat)(o:MOp):mb P G F ⟨e,σ,n⟩ d (.m o)=aI (nV G e σ n o) (xU F ⟨e,σ,n⟩ d):=by
 rw[<- Df G e σ n];rfl
theorem Eo (F:St->Prop)(e:List (Nat×AV))(σ:List (Nat×Blk))(n:Nat)(d:Option Nat)(f:AX)(xs:List AX):mb P G F ⟨e,σ,n⟩ d (.call f xs)=aI (dg (evE e f)) (ET P G (evL e xs) ⟨e,σ,n⟩ (HU F d)):=by
 rw[<- jE e σ n,<- Eg e σ n];rfl
theorem Gq (F:List (List Nat×List Nat)->St->Prop)(T:List (List Nat×List Nat))(e:List (Nat×AV))(σ:List (Nat×Blk))(n d:Nat)(v:AV):Br F T ⟨e,σ,n⟩ (some d) v=F (T++[([],[])]) ⟨(d,v)::e,σ,n⟩:=_root_.id rfl
theorem Gp (F:List (List Nat×List Nat)->St->Prop)(T:List (List Nat×List Nat))(e:List (Nat×AV))(σ:List (Nat×Blk))(n:Nat)(v:AV):Br F T ⟨e,σ,n⟩ none v=F (T++[([],[])]) ⟨e,σ,n⟩:=_root_.id rfl
theorem Gs (F:List (List Nat×List Nat)->St->Prop)(T:List (List Nat×List Nat))(e:List (Nat×AV))(σ:List (Nat×Blk))(n d k:Nat)(rd:List Nat)(v:AV)(δ:List (Nat×Blk)):stepM F T ⟨e,σ,n⟩ (some d) k rd (v,δ)=F (T++[eS k (aQ δ) rd]) ⟨(d,v)::e,l9 σ δ,n+1⟩:=_root_.id rfl
theorem Gr (F:List (List Nat×List Nat)->St->Prop)(T:List (List Nat×List Nat))(e:List (Nat×AV))(σ:List (Nat×Blk))(n k:Nat)(rd:List Nat)(v:AV)(δ:List (Nat×Blk)):stepM F T ⟨e,σ,n⟩ none k rd (v,δ)=F (T++[eS k (aQ δ) rd]) ⟨e,l9 σ δ,n+1⟩:=_root_.id rfl
theorem ag {F:List (List Nat×List Nat)->St->Prop}{T:List (List Nat×List Nat)}{e:List (Nat×AV)}{σ:List (Nat×Blk)}{n d:Nat}{f:Nat}{a b args:List AV}{ps:List PV}{r:PV}(h:ae P G f ps r)(he:pvs (a++args++b)=some ps)
  (hk:F (T++[([],[])]) ⟨(d,.pv r)::e,σ,n⟩):jv P G F T ⟨e,σ,n⟩ (some d) args (f,a,b):=.inl ⟨ps,r,he,h,hk⟩
theorem tU {F:List (List Nat×List Nat)->St->Prop}{T:List (List Nat×List Nat)}{e:List (Nat×AV)}{σ:List (Nat×Blk)}{n d:Nat}{f:Nat}{a b args:List AV}{v:AV}{δ:List (Nat×Blk)}{top:Nat}(h:bV P G f (a++args++b) σ n (fun v' sto' n'=>v'=v/\sto'=l9 σ δ/\n'=top))(ht:n<=top)
  (hk:F (T++[eS 2 (aQ δ) (σ.map (·.1))]) ⟨(d,v)::e,l9 σ δ,top⟩):jv P G F T ⟨e,σ,n⟩ (some d) args (f,a,b):=.inr ⟨v,δ,top,h,ht,hk⟩
theorem O9 (ks rs:List Nat):eS 0 ks rs=(ks.map (· + 1),rs.map (· + 1)):=_root_.id rfl
theorem O8 (ks rs:List Nat):eS 1 ks rs=(ks.map (· + 1),0::rs.map (· + 1)):=_root_.id rfl
theorem O7 (ks rs:List Nat):eS 2 ks rs=(0::ks.map (· + 1),rs.map (· + 1)):=_root_.id rfl
theorem ta (g:Bool)(sz:Nat)(x:AX):bl (.load g sz x)=0:=_root_.id rfl
theorem pZ (sz:Nat)(x v:AX):bl (.store sz x v)=0:=_root_.id rfl
theorem pY (x:AX):bl (.toStr x)=0:=_root_.id rfl
theorem p7 (T:Nat)(z:List PV):bl (.alloc T z)=1:=_root_.id rfl
theorem yb (T:Nat)(x:AX):bl (.box T x)=1:=_root_.id rfl
theorem tg (T:Nat)(x:AX):bl (.cbox T x)=1:=_root_.id rfl
theorem nT (m:Bool)(e s l:Nat)(x:List AX):bl (.bslice m e s l x)=1:=_root_.id rfl
theorem nU (m:Bool)(e s l:Nat)(x y:AX):bl (.append m e s l x y)=1:=_root_.id rfl
theorem Dd (m:Bool)(e s l:Nat)(z:List PV)(x y:AX):bl (.mk m e s l z x y)=1:=_root_.id rfl
theorem KX {A:List (List Nat)}{F:St->Prop}{T:List (List Nat×List Nat)}{s:St}(h:Chk (okB A T)):vcD P G A F [] T s=F s:=by
 show (okB A T=true/\F s)=F s
 rw[eq_iff_iff]
 exact⟨fun x=>x.2,fun x=>⟨h,x⟩⟩
theorem FQ (A:List (List Nat))(F:St->Prop)(d:Option Nat)(o:AOp)(r:List AOper)(T:List (List Nat×List Nat))(s:St):vcD P G A F (⟨d,o,none⟩::r) T s=gZ P G (vcD P G A F r) T s d o:=_root_.id rfl
theorem A0 (A:List (List Nat))(F:St->Prop)(d:Option Nat)(o:AOp)(i:Nat)(b:Bool)(r:List AOper)(T:List (List Nat×List Nat))(e:List (Nat×AV))(σ:List (Nat×Blk))(n:Nat) :
  vcD P G A F (⟨d,o,some (i,b)⟩::r) T ⟨e,σ,n⟩=aI (j8 b (look i e)) (qJ P G (vcD P G A F r) T ⟨e,σ,n⟩ d o):=_root_.id rfl
theorem zm (F:List (List Nat×List Nat)->St->Prop)(T:List (List Nat×List Nat))(s:St)(d:Option Nat)(o:AOp):qJ P G F T s d o true=gZ P G F T s d o:=_root_.id rfl
theorem tK (F:List (List Nat×List Nat)->St->Prop)(T:List (List Nat×List Nat))(e:List (Nat×AV))(σ:List (Nat×Blk))(n:Nat)(d:Nat)(o:AOp):qJ P G F T ⟨e,σ,n⟩ (some d) o false=F (T++[([],[])]) ⟨(d,.pv .undef)::e,σ,n⟩:=_root_.id rfl
theorem qI (F:List (List Nat×List Nat)->St->Prop)(T:List (List Nat×List Nat))(s:St)(o:AOp):qJ P G F T s none o false=F (T++[([],[])]) s:=_root_.id rfl
theorem Nl (F:List (List Nat×List Nat)->St->Prop)(T:List (List Nat×List Nat))(e:List (Nat×AV))(σ:List (Nat×Blk))(n:Nat)(d:Option Nat)(o:TOp):gZ P G F T ⟨e,σ,n⟩ d (.t o)=aI (ik e o) (Br F T ⟨e,σ,n⟩ d):=by
 rw[<- Bk e σ n];rfl
def eY (e:List (Nat×AV)):XOp->List Nat
 | .ucast _ _ _ x | .apps _ _ x _ | .ustr _ x _ | .same x=>(evE e x).name
 | .noesc _ | .peq _ _ _ | .sdata _ | .ofStr _ | .fnil _ _ _ | .inil _ _ _ | .idxb _ _=>[]
def dT (e:List (Nat×AV)):MOp->List Nat
 | .xop o=>eY e o
 | .load _ _ x | .toStr x=>(evE e x).name
 | .append _ _ _ _ x y=>(evE e x).name++(evE e y).name
 | .store _ x _=>(evE e x).name
 | .alloc _ _ | .box _ _ | .cbox _ _ | .bslice _ _ _ _ _ | .mk _ _ _ _ _ _ _=>[]
theorem Dh (e:List (Nat×AV))(mu:Bool)(t sz b:Nat)(zs:List PV)(x y:AX):dT e (.mk mu t sz b zs x y)=[]:=_root_.id rfl
theorem p8 (e:List (Nat×AV))(x:AX):dT e (.toStr x)=(evE e x).name:=_root_.id rfl
theorem tl (e:List (Nat×AV))(g:Bool)(sz:Nat)(x:AX):dT e (.load g sz x)=(evE e x).name:=_root_.id rfl
theorem yg (e:List (Nat×AV))(T:Nat)(x:AX):dT e (.box T x)=[]:=_root_.id rfl
theorem tm (e:List (Nat×AV))(T:Nat)(x:AX):dT e (.cbox T x)=[]:=_root_.id rfl
theorem qj (e:List (Nat×AV))(T:Nat)(x:List PV):dT e (.alloc T x)=[]:=_root_.id rfl
theorem p9 (e:List (Nat×AV))(sz:Nat)(x v:AX):dT e (.store sz x v)=(evE e x).name:=_root_.id rfl
theorem nX (e:List (Nat×AV))(mu:Bool)(t sz b:Nat)(x y:AX):dT e (.append mu t sz b x y)=(evE e x).name++(evE e y).name:=_root_.id rfl
theorem nW (e:List (Nat×AV))(mu:Bool)(t sz b:Nat)(x:List AX):dT e (.bslice mu t sz b x)=[]:=_root_.id rfl
theorem Mu (p:PV):(AV.pv p).name=[]:=_root_.id rfl
theorem HY (r o:Nat):(AV.ptr r o).name=[r]:=_root_.id rfl
theorem HX (r s o n:Nat):(AV.row r s o n).name=[r]:=_root_.id rfl
theorem xZ (r s:Nat)(l:List PV):(AV.olist r s l).name=[r]:=_root_.id rfl
theorem Dz:aQ ([]:List (Nat×Blk))=[]:=_root_.id rfl
theorem yD (r:Nat)(B:Blk)(q:List (Nat×Blk)):aQ ((r,B)::q)=r::aQ q:=_root_.id rfl
theorem Nm (F:List (List Nat×List Nat)->St->Prop)(T:List (List Nat×List Nat))(e:List (Nat×AV))(σ:List (Nat×Blk))(n:Nat)(d:Option Nat)(o:MOp):gZ P G F T ⟨e,σ,n⟩ d (.m o)=aI (nV G e σ n o) (stepM F T ⟨e,σ,n⟩ d (bl o) (dT e o)):=by
 have:dT e o=o.reads (St.E ⟨e,σ,n⟩):=by
  cases o<;>simp only[dT,MOp.reads,jE]
  rename_i o
  cases o<;>simp only[eY,XOp.reads,jE]
 rw[<- Df G e σ n,this];rfl
theorem zh (F:List (List Nat×List Nat)->St->Prop)(T:List (List Nat×List Nat))(e:List (Nat×AV))(σ:List (Nat×Blk))(n:Nat)(d:Option Nat)(f:AX)(xs:List AX):gZ P G F T ⟨e,σ,n⟩ d (.call f xs)=aI (dg (evE e f)) (jv P G F T ⟨e,σ,n⟩ d (evL e xs)):=by
 rw[<- jE e σ n,<- Eg e σ n];rfl
def zG (e:List (Nat×AV)):List Nat->List (Nat×AV)
 | []=>[]
 | k::r=>(k,look k e)::zG e r
theorem EG (e:List (Nat×AV)):zG e []=[]:=_root_.id rfl
theorem zF (e:List (Nat×AV))(k:Nat)(r:List Nat):zG e (k::r)=(k,look k e)::zG e r:=_root_.id rfl
theorem vT (e:List (Nat×AV))(σ:List (Nat×Blk))(n:Nat):∀ (l:List Nat),l.map (fun i=>(i,St.E ⟨e,σ,n⟩ i))=zG e l
 | []=>rfl
 | k::r=>by rw[List.map_cons,vT e σ n r];rfl
theorem EH (seen:List Nat):ju seen []=[]:=_root_.id rfl
theorem zH (seen:List Nat)(k:Nat)(b:Blk)(r:List (Nat×Blk)):ju seen ((k,b)::r)=zy k b (ju (k::seen) r) (uZ k seen):=_root_.id rfl
theorem Nr (k:Nat)(b:Blk)(r:List (Nat×Blk)):zy k b r true=r:=_root_.id rfl
theorem Ns (k:Nat)(b:Blk)(r:List (Nat×Blk)):zy k b r false=(k,b)::r:=_root_.id rfl
theorem H1 (k:Nat):uZ k []=false:=_root_.id rfl
theorem PC (k j:Nat)(r:List Nat):uZ k (j::r)=if j=k then true else uZ k r:=_root_.id rfl
theorem HF (Q:AExit->St->Prop)(keep:List Nat)(e:List (Nat×AV))(σ:List (Nat×Blk))(n:Nat):sL Q keep ⟨e,σ,n⟩=Q .norm ⟨zG e keep,ju [] σ,n⟩:=by
 rw[<- vT e σ n];rfl
theorem Fp (F:St->Prop)(Q:AExit->St->Prop)(s:St):Fr F Q .norm s=F s:=_root_.id rfl
theorem Fq (F:St->Prop)(Q:AExit->St->Prop)(i:Nat)(s:St):Fr F Q (.exit i) s=Q (.exit i) s:=_root_.id rfl
theorem Jz (F:St->Prop)(Q:AExit->St->Prop)(s:St):Fr F Q .ret s=Q .ret s:=_root_.id rfl
theorem ue (id:Nat)(Q:AExit->St->Prop)(s:St):d6 id Q .norm s=Q .norm s:=_root_.id rfl
theorem uf (id:Nat)(Q:AExit->St->Prop)(i:Nat)(s:St):d6 id Q (.exit i) s=if i=id then Q .norm s else Q (.exit i) s:=_root_.id rfl
theorem Ay (id:Nat)(Q:AExit->St->Prop)(s:St):d6 id Q .ret s=Q .ret s:=_root_.id rfl
theorem KT (m0:Nat)(Q:AExit->St->Prop)(s:St):vc P G m0 .skip Q s=Q .norm s:=_root_.id rfl
theorem Oz (m0:Nat)(l:List AOper)(keep:List Nat)(Q:AExit->St->Prop)(s:St):vc P G m0 (.ops l keep) Q s=di P G l (sL Q keep) s:=_root_.id rfl
theorem KV (m0:Nat)(A:List (List Nat))(l l2:List AOper)(keep:List Nat)(Q:AExit->St->Prop)(s:St):vc P G m0 (.draw A l l2 keep) Q s=vcD P G A (di P G l2 (sL Q keep)) l [] s:=_root_.id rfl
theorem Nk (F:St->Prop)(e:List (Nat×AV))(σ:List (Nat×Blk))(n:Nat)(d:Option Nat)(g:Option (Bool×Nat))(x:AX):mb P G F ⟨e,σ,n⟩ d (.fz g x)=aI (Kl G (fun r=>lookB r σ) g (evE e x)) (xU F ⟨e,σ,n⟩ d):=by
 rw[<- jE e σ n];rfl
theorem Ox (m0:Nat)(a b:ACode)(Q:AExit->St->Prop)(s:St):vc P G m0 (.seq a b) Q s=vc P G m0 a (Fr (vc P G m0 b Q) Q) s:=_root_.id rfl
theorem KW (m0:Nat)(x:AX)(a b:ACode)(Q:AExit->St->Prop)(e:List (Nat×AV))(σ:List (Nat×Blk))(n:Nat):vc P G m0 (.cond x a b) Q ⟨e,σ,n⟩=pJ (evE e x) (vc P G m0 a Q) (vc P G m0 b Q) ⟨e,σ,n⟩:=by
 rw[<- jE e σ n];rfl
theorem FP (m0 id:Nat)(b:ACode)(Q:AExit->St->Prop)(s:St):vc P G m0 (.block id b) Q s=vc P G m0 b (d6 id Q) s:=_root_.id rfl
theorem KU (m0 id:Nat)(Q:AExit->St->Prop)(s:St):vc P G m0 (.exit id) Q s=Q (.exit id) s:=_root_.id rfl
theorem Oy (m0:Nat)(Q:AExit->St->Prop)(s:St):vc P G m0 .ret Q s=Q .ret s:=_root_.id rfl
theorem HC (b:Bool)(F H:St->Prop)(s:St):pJ (.pv (.bool b)) F H s=ifB b F H s:=by cases b<;>rfl
theorem Sh (F H:St->Prop)(s:St):ifB true F H s=F s:=_root_.id rfl
theorem Si (F H:St->Prop)(s:St):ifB false F H s=H s:=_root_.id rfl
def Pf (G:Nat->List PV)(e:List (Nat×AV))(σ:List (Nat×Blk)):ARes->Option AV
 | .tmp t=>some (look t e)
 | .cell t g sz=>eq G g sz (fun r=>lookB r σ) (look t e)
theorem GH (e:List (Nat×AV))(σ:List (Nat×Blk))(t:Nat):Pf G e σ (.tmp t)=some (look t e):=_root_.id rfl
theorem BK (e:List (Nat×AV))(σ:List (Nat×Blk))(t:Nat)(g:Bool)(sz:Nat):Pf G e σ (.cell t g sz)=eq G g sz (fun r=>lookB r σ) (look t e):=_root_.id rfl
theorem JD (res:List ARes)(R:AV->List (Nat×Blk)->Nat->Prop)(s:St):FnK G res R .norm s=aI (e9 G s res) (JX R s):=_root_.id rfl
theorem N5 (res:List ARes)(R:AV->List (Nat×Blk)->Nat->Prop)(s:St):FnK G res R .ret s=aI (e9 G s res) (JX R s):=_root_.id rfl
theorem LM (R:AV->List (Nat×Blk)->Nat->Prop)(e:List (Nat×AV))(σ:List (Nat×Blk))(n:Nat)(l:List AV):JX R ⟨e,σ,n⟩ l=R (AA l) σ n:=_root_.id rfl
theorem Pd (x:AV):AA [x]=x:=_root_.id rfl
theorem Pe:AA [] = .pv (.tup []):=_root_.id rfl
theorem Pc (x y:AV)(r:List AV):AA (x::y::r)=pT (x::y::r):=_root_.id rfl
def Qn:Option AV->Option (List AV)->Option (List AV)
 | some a,some b=>some (a::b)
 | _,_=>none
theorem zz (a:AV)(b:List AV):Qn (some a) (some b)=some (a::b):=_root_.id rfl
theorem BJ (s:St):e9 G s []=some []:=_root_.id rfl
theorem wU (e:List (Nat×AV))(σ:List (Nat×Blk))(n:Nat)(r:ARes)(q:List ARes):e9 G ⟨e,σ,n⟩ (r::q)=Qn (Pf G e σ r) (e9 G ⟨e,σ,n⟩ q):=by
 have:resV G ⟨e,σ,n⟩ r=Pf G e σ r:=by cases r<;>rfl
 show (match resV G ⟨e,σ,n⟩ r,e9 G ⟨e,σ,n⟩ q with | some a,some b=>some (a::b) | _,_=>none)=_
 rw[this]
 cases Pf G e σ r<;>cases e9 G ⟨e,σ,n⟩ q<;>rfl
theorem Hj (r:PV)(v:AV)(σ:List (Nat×Blk))(n:Nat):Pj r v σ n=isR r σ v:=_root_.id rfl
theorem PL (r p:PV)(σ:List (Nat×Blk)):isR r σ (.pv p)=Nz p r:=propext ⟨fun ⟨q,h,g⟩=>by cases h;exact g,fun h=>⟨(p,[]),rfl,h⟩⟩
theorem DD (r:PV)(k sz:Nat)(l:List PV)(σ:List (Nat×Blk)):isR r σ (.olist k sz l)=Nz (.list l) r:=propext ⟨fun ⟨q,h,g⟩=>by cases h;exact g,fun h=>⟨(.list l,[]),rfl,h⟩⟩
def PN (r:PV):Option (PV×List Nat)->Prop
 | some q=>Nz q.1 r
 | none=>False
theorem DF (r p:PV)(l:List Nat):PN r (some (p,l))=Nz p r:=_root_.id rfl
theorem DE (r:PV)(σ:List (Nat×Blk))(v:AV):isR r σ v=PN r (tB (fun r=>lookB r σ) v):=by
 unfold isR PN
 cases tB (fun r=>lookB r σ) v with
 | none=>simp
 | some q=>simp
theorem MP (r:PV)(cs:List AV)(σ:List (Nat×Blk)):isR r σ (.agg cs)=PN r ((FG (fun r=>lookB r σ) cs).map fun p=>(.agg p.1,p.2)):=DE _ _ _
theorem MO (r:PV)(k sz len:Nat)(σ:List (Nat×Blk)):isR r σ (.row k sz 0 len)=PN r (M2 sz len k (lookB k σ)):=DE _ _ _
def yH:List AV->Nat->List (Nat×AV)
 | [],_=>[]
 | x::r,k=>(k,x)::yH r (k+1)
theorem DJ (k:Nat):yH [] k=[]:=_root_.id rfl
theorem yG (x:AV)(r:List AV)(k:Nat):yH (x::r) k=(k,x)::yH r (k+1):=_root_.id rfl
theorem DI:∀ (args:List AV) (k:Nat),((args.zipIdx k).map fun p=>(p.2,p.1))=yH args k
 | [],k=>rfl
 | x::r,k=>by rw[List.zipIdx_cons,List.map_cons,DI r (k+1)];rfl
theorem yF (args:List AV):cY args=yH args 0:=DI args 0
theorem RP {ι:Type}(S:ι->St)(Inv:ι->Prop)(μ:ι->Nat)(x0:ι){m0:Nat}{keep:List Nat}{b:ACode}{Q:AExit->St->Prop}{s:St}(h0:Wk m0 s (S x0))(hi:Inv x0)
  (h:∀ x,Inv x->vc P G m0 b (fun e s'=>match e with
   | .norm=>∃ x',Wk m0 s' (S x')/\Inv x'/\μ x'<μ x
   | .exit i=>Q (.exit i) s'
   | .ret=>Q .ret s') (S x)):vc P G m0 (.loop keep b) Q s:=by
 refine⟨fun n s=>∃ x,s=S x/\Inv x/\μ x=n,⟨μ x0,S x0,h0,x0,rfl,hi,rfl⟩,?_⟩
 rintro n s ⟨x,rfl,hx,rfl⟩
 refine cb b (fun e s' hs=>?_) _ (h x hx)
 cases e with
 | norm=>
   obtain⟨x',h1,h2,h3⟩:=hs
   exact⟨_,_,h3,h1,x',rfl,h2,rfl⟩
 | exit i=>exact⟨s',Wk.of (Wx.refl s') m0,hs⟩
 | ret=>exact hs
def Hd (A:List (Nat×Nat×Nat×Nat))(m0:Nat)(keep:List Nat)(s t:St):Prop:=Wk m0 s t
theorem aR {A:List (Nat×Nat×Nat×Nat)}{m0:Nat}{keep:List Nat}{s t:St}(h:StZ (ct A m0 keep s) t):Hd A m0 keep s t:=Wk.head h
def nv {ι:Type}(A:List (Nat×Nat×Nat×Nat))(S:ι->St)(Inv:ι->Prop)(μ:ι->Nat)(x:ι)(m0:Nat)(keep:List Nat)(Q:AExit->St->Prop):AExit->St->Prop
 | .norm,s'=>∃ x',Hd A m0 keep s' (S x')/\Inv x'/\μ x'<μ x
 | .exit i,s'=>Q (.exit i) s'
 | .ret,s'=>Q .ret s'
theorem uc {ι:Type}(A:List (Nat×Nat×Nat×Nat))(S:ι->St)(Inv:ι->Prop)(μ:ι->Nat)(x:ι)(m0:Nat)(keep:List Nat)(Q:AExit->St->Prop)(s:St):nv A S Inv μ x m0 keep Q .norm s = ∃ x',Hd A m0 keep s (S x')/\Inv x'/\μ x'<μ x:=_root_.id rfl
theorem ud {ι:Type}(A:List (Nat×Nat×Nat×Nat))(S:ι->St)(Inv:ι->Prop)(μ:ι->Nat)(x:ι)(m0:Nat)(keep:List Nat)(Q:AExit->St->Prop)(i:Nat)(s:St):nv A S Inv μ x m0 keep Q (.exit i) s=Q (.exit i) s:=_root_.id rfl
theorem Ax {ι:Type}(A:List (Nat×Nat×Nat×Nat))(S:ι->St)(Inv:ι->Prop)(μ:ι->Nat)(x:ι)(m0:Nat)(keep:List Nat)(Q:AExit->St->Prop)(s:St):nv A S Inv μ x m0 keep Q .ret s=Q .ret s:=_root_.id rfl
theorem AY {ι:Type}(A:List (Nat×Nat×Nat×Nat))(S:ι->St)(Inv:ι->Prop)(μ:ι->Nat)(x0:ι){m0:Nat}{keep:List Nat}{b:ACode}{Q:AExit->St->Prop}{s:St}(h0:Hd A m0 keep s (S x0))(hi:Inv x0)
  (h:∀ x,Inv x->vc P G m0 b (nv A S Inv μ x m0 keep Q) (S x)):vc P G m0 (.loop keep b) Q s:=by
 refine RP S Inv μ x0 h0 hi fun x hx=>?_
 have e:(fun (e:AExit) (s':St)=>match e with
   | .norm=>∃ x',Wk m0 s' (S x')/\Inv x'/\μ x'<μ x
   | .exit i=>Q (.exit i) s'
   | .ret=>Q .ret s')=nv A S Inv μ x m0 keep Q:=by
  funext e s'
  cases e<;>rfl
 rw[e];exact h x hx
def xA (k:Nat)(x:AV):List (Nat×AV)->AV
 | []=>x
 | p::r=>if p.1=k then p.2 else xA k x r
def dM:List (Nat×AV)->List (Nat×AV)->List (Nat×AV)
 | [],_=>[]
 | p::r,ch=>(p.1,xA p.1 p.2 ch)::dM r ch
def xD (k:Nat)(x:Blk):List (Nat×Blk)->Blk
 | []=>x
 | p::r=>if p.1=k then p.2 else xD k x r
def eU:List (Nat×Blk)->List (Nat×Blk)->List (Nat×Blk)
 | [],_=>[]
 | p::r,ch=>(p.1,xD p.1 p.2 ch)::eU r ch
theorem CB (k:Nat)(x:AV):xA k x []=x:=_root_.id rfl
theorem xz (k j:Nat)(x y:AV)(r:List (Nat×AV)):xA k x ((j,y)::r)=if j=k then y else xA k x r:=_root_.id rfl
theorem CI (ch:List (Nat×AV)):dM [] ch=[]:=_root_.id rfl
theorem xI (k:Nat)(x:AV)(r ch:List (Nat×AV)):dM ((k,x)::r) ch=(k,xA k x ch)::dM r ch:=_root_.id rfl
theorem CC (k:Nat)(x:Blk):xD k x []=x:=_root_.id rfl
theorem xC (k j:Nat)(x y:Blk)(r:List (Nat×Blk)):xD k x ((j,y)::r)=if j=k then y else xD k x r:=_root_.id rfl
theorem CJ (ch:List (Nat×Blk)):eU [] ch=[]:=_root_.id rfl
theorem xJ (k:Nat)(x:Blk)(r ch:List (Nat×Blk)):eU ((k,x)::r) ch=(k,xD k x ch)::eU r ch:=_root_.id rfl
theorem aC {ι:Type}(A:List (Nat×Nat×Nat×Nat))(ch:ι->List (Nat×AV))(chB:ι->List (Nat×Blk))(Inv:ι->Prop)(μ:ι->Nat)(x0:ι){m0:Nat}{keep:List Nat}{b:ACode}{Q:AExit->St->Prop}{s:St}
  (h:∀ e0 σ0 n0,ct A m0 keep s=⟨e0,σ0,n0⟩->StZ ⟨e0,σ0,n0⟩ ⟨dM e0 (ch x0),eU σ0 (chB x0),n0⟩/\Inv x0 /\
   ∀ x,Inv x->vc P G m0 b (nv A (fun x=>⟨dM e0 (ch x),eU σ0 (chB x),n0⟩) Inv μ x m0 keep Q) ⟨dM e0 (ch x),eU σ0 (chB x),n0⟩):vc P G m0 (.loop keep b) Q s:=by
 obtain⟨h1,h2,h3⟩:=h (ct A m0 keep s).env (ct A m0 keep s).sto (ct A m0 keep s).next rfl
 exact AY A (fun x=>⟨dM (ct A m0 keep s).env (ch x),eU (ct A m0 keep s).sto (chB x),(ct A m0 keep s).next⟩) Inv μ x0 (aR h1) h2 h3
end
end Go.Ab

/- A program logic over the model: part 4 (a proof is built on it; nothing of the statement is said here). -/
import Derived.Test.YtbaaokocnegdoaaGreatDoorDeCore3
set_option linter.unusedVariables false
set_option linter.unusedSimpArgs false
namespace Go.Ab
open Go Go.RowKit
theorem oc (keep:List Nat)(g:Nat->AV)(i:Nat):look i (keep.map fun k=>(k,g k))=if i∈keep then g i else .any:=by
 induction keep with
 | nil=>rfl
 | cons k r ih=>
   simp only[List.map_cons,look,ih,List.mem_cons]
   by_cases h:k=i
   ·simp[h]
   ·simp only[if_neg h,show (i=k)=False from eq_false (fun e=>h e.symm),false_or]
theorem dR:∀ (l acc:List Nat),acc.Nodup->(bE acc l).Nodup
 | [],acc,h=>h
 | n::r,acc,h=>by
   rw[bE]
   refine dR r _ ?_
   split
   ·exact h
   ·rename_i hn
    have hn':n∉acc:=by simpa using hn
    refine List.nodup_append.2 ⟨h,by simp,?_⟩
    intro a ha b hb
    simp at hb;subst hb
    rintro rfl
    exact hn' ha
theorem fE:∀ (l acc:List Nat) (x:Nat),x∈bE acc l->x∈acc\/x∈l
 | [],acc,x,h=>.inl h
 | n::r,acc,x,h=>by
   rw[bE] at h
   rcases fE r _ x h with h | h
   ·split at h
    ·exact .inl h
    ·rcases List.mem_append.1 h with h | h
     ·exact .inl h
     ·simp at h;subst h;exact .inr (by simp)
   ·exact .inr (by simp[h])
theorem pq (m0:Nat)(sto:List (Nat×Blk)):∀ (k:Nat) (acc:List Nat),acc.Nodup->(∀ x∈acc,m0<=x)->(gi m0 sto k acc).Nodup/\∀ x∈gi m0 sto k acc,m0<=x
 | 0,acc,h,g=>⟨h,g⟩
 | k+1,acc,h,g=>by
   rw[gi]
   refine pq m0 sto k _ (dR _ _ h) fun x hx=>?_
   rcases fE _ _ _ hx with h | h
   ·exact g x h
   ·simpa using (List.mem_filter.1 h).2
theorem MR (m0:Nat)(keep:List Nat)(s:St):(Qa m0 keep s).Nodup/\∀ x∈Qa m0 keep s,m0<=x:=by
 refine pq m0 s.sto _ _ (dR _ _ (by simp)) fun x hx=>?_
 rcases fE _ _ _ hx with h | h
 ·simp at h
 ·simpa using (List.mem_filter.1 h).2
theorem uY {x i:Nat}:∀ (l:List Nat) (k:Nat),IL x l k=some i->k<=i/\l[i - k]? = some x
 | [],k,h=>by simp[IL] at h
 | y::r,k,h=>by
   rw[IL] at h
   split at h
   ·rename_i hy
    cases h
    exact⟨Nat.le_refl _,by simp[hy]⟩
   ·obtain⟨h1,h2⟩:=uY r (k+1) h
    refine⟨by omega,?_⟩
    rw[show i - k=(i - (k+1))+1 by omega]
    simpa using h2
mutual
theorem r3 {κ κ':Kap}(hw:κ'.w=κ.w)(hi:κ'.imm=κ.imm){f:Nat->Option Nat}(hf:∀ r r',f r=some r'->κ'.nm r'=κ.nm r):∀ (x:AV) (v:Value),ARel κ x v->ARel κ' (x.ren f) v
 | .pv p,v,h=>by
   cases h with
   | pv _ _ hp=>exact .pv _ _ (by rw[hw,hi];exact hp)
 | .any,v,h=>.any v
 | .ptr r o,v,h=>by
   cases h with
   | ptr _ _ b n hn=>
     simp only[AV.ren]
     split
     ·rename_i r' hr;exact .ptr _ _ b n (by rw[hf r r' hr];exact hn)
     ·exact .any _
 | .row r a b c,v,h=>by
   cases h with
   | row _ _ _ _ bb n cap hn h1 h2 h3 h4=>
     simp only[AV.ren]
     split
     ·rename_i r' hr;exact .row _ _ _ _ bb n cap (by rw[hf r r' hr];exact hn) h1 h2 h3 h4
     ·exact .any _
   | row0 _ _ hn=>
     simp only[AV.ren]
     split
     ·rename_i r' hr;exact .row0 _ _ (by rw[hf r r' hr];exact hn)
     ·exact .any _
 | .olist r a l,v,h=>by
   cases h with
   | olist _ _ _ _ hn hp hs=>
     simp only[AV.ren]
     split
     ·rename_i r' hr;exact .olist _ _ _ _ (by rw[hf r r' hr];exact hn) (by rw[hw,hi];exact hp) hs
     ·exact .pv _ _ (by rw[hw,hi];exact hp)
 | .agg cs,v,h=>by
   cases h with
   | agg _ vs hl hr=>
     simp only[AV.ren]
     obtain⟨h1,h2⟩:=eu hw hi hf cs vs hr
     exact .agg _ _ (by rw[h1];exact hl) h2
 | .tup cs,v,h=>by
   cases h with
   | tup _ vs hl hr=>
     simp only[AV.ren]
     obtain⟨h1,h2⟩:=eu hw hi hf cs vs hr
     exact .tup _ _ (by rw[h1];exact hl) h2
 | .clo g fs cs,v,h=>by
   cases h with
   | clo _ _ _ vs us hl hr hl' hr'=>
     simp only[AV.ren]
     obtain⟨h1,h2⟩:=eu hw hi hf fs vs hr
     obtain⟨h3,h4⟩:=eu hw hi hf cs us hr'
     exact .clo _ _ _ _ _ (by rw[h1];exact hl) h2 (by rw[h3];exact hl') h4
theorem eu {κ κ':Kap}(hw:κ'.w=κ.w)(hi:κ'.imm=κ.imm){f:Nat->Option Nat}(hf:∀ r r',f r=some r'->κ'.nm r'=κ.nm r):∀ (xs:List AV) (vs:Array Value),
  (∀ (i:Nat) (x:AV),xs[i]? = some x->ARel κ x (vs.getD i Go.undef))->(AV.renL f xs).length=xs.length/\∀ (i:Nat) (x:AV),(AV.renL f xs)[i]? = some x->ARel κ' x (vs.getD i Go.undef)
 | [],vs,h=>by simp[AV.renL]
 | x::r,vs,h=>by
   obtain⟨h1,h2⟩:=eu hw hi hf r (vs.extract 1 vs.size) (fun i y hy=>by
    have:=h (i+1) y (by simpa using hy)
    have e:(vs.extract 1 vs.size).getD i Go.undef=vs.getD (i+1) Go.undef:=by
     simp only[Array.getD_eq_getD_getElem?,Array.getElem?_extract]
     by_cases hh:i<min vs.size vs.size - 1
     ·rw[if_pos hh];congr 2;omega
     ·rw[if_neg hh,Array.getElem?_eq_none (by omega)]
    rw[e];exact this)
   refine⟨by simp[AV.renL,h1],fun i y hy=>?_⟩
   cases i with
   | zero=>
     simp only[AV.renL,List.getElem?_cons_zero,Option.some.injEq] at hy
     subst hy
     exact r3 hw hi hf x _ (h 0 x (by simp))
   | succ i=>
     simp only[AV.renL,List.getElem?_cons_succ] at hy
     have:=h2 i y hy
     have e:(vs.extract 1 vs.size).getD i Go.undef=vs.getD (i+1) Go.undef:=by
      simp only[Array.getD_eq_getD_getElem?,Array.getElem?_extract]
      by_cases hh:i<min vs.size vs.size - 1
      ·rw[if_pos hh];congr 2;omega
      ·rw[if_neg hh,Array.getElem?_eq_none (by omega)]
     rw[e] at this;exact this
end
theorem kB {m0:Nat}{f:Nat->Option Nat}{sto:List (Nat×Blk)}{x:Nat}:∀ (l:List Nat) (k:Nat),lookB x (eK m0 f sto l k)=if k<=x then (match l[x - k]? with | some r=>(lookB r sto).ren f | none=>.none) else .none
 | [],k=>by simp[eK,lookB]
 | r::q,k=>by
   rw[eK,lookB]
   simp only
   by_cases h:k=x
   ·subst h;simp
   ·rw[if_neg h,kB q (k+1)]
    by_cases hk:k<=x
    ·rw[if_pos (by omega),if_pos hk,show x - k=(x - (k+1))+1 by omega]
     simp
    ·rw[if_neg (by omega),if_neg hk]
section
variable {P:Program}{c:Ctx}{κ0 κ:Kap}{N:Nat}{s:St}{a:Act}{w:World}
theorem Rel.clip (h:Rel c κ0 N s a w κ)(keep:List Nat):Rel c κ0 N (clip keep s) a w κ:=by
 have e:(Go.Ab.clip keep s).σ=s.σ:=by funext r;exact lj s.sto [] r rfl
 refine⟨h.w_eq,h.ext0,by rw[e];exact h.rel,h.left,fun i=>?_,h.size,h.defers,h.fresh⟩
 simp only[Go.Ab.clip,St.E]
 rw[oc keep (fun i=>look i s.env) i]
 split
 ·exact h.env i
 ·exact .any _
theorem Rel.clip0 (h:Rel c κ0 N s a w κ)(keep:List Nat):Rel c κ0 N (clip0 keep s) a w κ:=by
 refine⟨h.w_eq,h.ext0,h.rel,h.left,fun i=>?_,h.size,h.defers,h.fresh⟩
 simp only[Go.Ab.clip0,St.E]
 rw[oc keep (fun i=>look i s.env) i]
 split
 ·exact h.env i
 ·exact .any _
theorem Rel.norm (h:Rel c κ0 N s a w κ){m0:Nat}(h0:∀ r,m0<=r->κ0.nm r=none)(keep:List Nat):∃ κ',Rel c κ0 N (norm m0 keep s) a w κ':=by
 obtain⟨hnd,hge⟩:=MR m0 keep s
 let os:=Qa m0 keep s
 let f:=dO m0 os
 let nm':Nat->Option Den:=fun n=>if n<m0 then κ.nm n else match os[n - m0]? with | some r=>κ.nm r | none=>none
 let κ':Kap:=⟨κ.w,nm',κ.imm⟩
 have hf:∀ r r',f r=some r'->κ'.nm r'=κ.nm r:=by
  intro r r' hr
  simp only[f,dO] at hr
  split at hr
  ·cases hr;rename_i hlt;simp[κ',nm',hlt]
  ·obtain⟨h1,h2⟩:=uY os m0 hr
   simp only[κ',nm']
   rw[if_neg (by omega),h2]
 have he0:Ext κ0 κ':=by
  refine⟨h.ext0.imm,h.ext0.cell,fun r d hr=>?_,h.ext0.obj⟩
  have hlt:r<m0:=by
   rcases Nat.lt_or_ge r m0 with h1 | h1
   ·exact h1
   ·rw[h0 r h1] at hr;cases hr
  simp only[κ',nm',if_pos hlt]
  exact h.ext0.nm r d hr
 have hS:=h.rel
 have hlook:∀ n,(Go.Ab.norm m0 keep s).σ n=if n<m0 then (lookB n s.sto).ren f else match os[n - m0]? with | some r=>(lookB r s.sto).ren f | none=>.none:=by
  intro n
  show lookB n (eK m0 f s.sto (List.range m0++os) 0)=_
  rw[kB,if_pos (Nat.zero_le _),Nat.sub_zero]
  by_cases hn:n<m0
  ·rw[if_pos hn,List.getElem?_append_left (by simpa using hn),List.getElem?_range hn]
  ·rw[if_neg hn,List.getElem?_append_right (by simp;omega)]
   simp only[List.length_range]
 have hold:∀ n,(Go.Ab.norm m0 keep s).σ n≠.none->∃ r,(Go.Ab.norm m0 keep s).σ n=(lookB r s.sto).ren f/\κ'.nm n=κ.nm r/\(lookB r s.sto)≠.none/\((n<m0/\r=n)\/(m0<=n/\os[n - m0]? = some r)):=by
  intro n hn
  rw[hlook] at hn ⊢
  by_cases hlt:n<m0
  ·rw[if_pos hlt] at hn ⊢
   refine⟨n,rfl,by simp[κ',nm',hlt],fun e=>hn (by rw[e];rfl),.inl ⟨hlt,rfl⟩⟩
  ·rw[if_neg hlt] at hn ⊢
   cases hr:os[n - m0]? with
   | none=>rw[hr] at hn;exact absurd rfl hn
   | some r=>
     rw[hr] at hn
     simp only at hn ⊢
     refine⟨r,rfl,?_,fun e=>hn (by rw[e];rfl),.inr ⟨by omega,rfl⟩⟩
     simp only[κ',nm']
     rw[if_neg hlt,hr]
 have hinj:∀ n n' r,((n<m0/\r=n)\/(m0<=n/\os[n - m0]? = some r))->((n'<m0/\r=n')\/(m0<=n'/\os[n' - m0]? = some r))->n=n':=by
  intro n n' r h1 h2
  rcases h1 with ⟨a1,a2⟩ | ⟨a1,a2⟩<;>rcases h2 with ⟨b1,b2⟩ | ⟨b1,b2⟩
  ·omega
  ·have:=hge r (List.mem_of_getElem? b2);omega
  ·have:=hge r (List.mem_of_getElem? a2);omega
  ·have hlt:n - m0<os.length:=(List.getElem?_eq_some_iff.1 a2).1
   have:=(List.getElem?_inj hlt hnd).1 (a2.trans b2.symm)
   omega
 refine⟨κ',h.w_eq,he0,⟨fun n=>?_,fun n n' d d' b h1 h2 hne hd hd' hb=>?_,fun n d b h1 hd hb=>?_,hS.immLt,hS.glob⟩,⟨h.left.os,h.left.tape,h.left.output,h.left.size,h.left.block,h.left.imm⟩,fun i=>?_,h.size,h.defers,fun r hr=>?_⟩
 ·by_cases hn:(Go.Ab.norm m0 keep s).σ n = .none
  ·rw[hn];trivial
  ·obtain⟨r,e1,e2,e3,_⟩:=hold n hn
   rw[e1]
   have hB:=hS.blk r
   have hB:eH κ r (lookB r s.sto):=hB
   cases hl:lookB r s.sto with
   | none=>exact absurd hl e3
   | cells T b l=>
     rw[hl] at hB
     rcases hB with ⟨k1,k2,k3⟩ | ⟨bb,n',cs,k1,k2,k3,k4,k5,k6,k7⟩
     ·exact .inl ⟨k1,by rw[k2];simp only[AV.renL],by rw[e2];exact k3⟩
     obtain⟨q1,q2⟩:=eu (κ:=κ) (κ':=κ') rfl rfl hf l cs k6
     exact .inr ⟨bb,n',cs,by rw[e2];exact k1,k2,k3,by rw[q1];exact k4,fun hb=>by rw[q1];exact k5 hb,q2,k7⟩
   | tok e sz=>
     rw[hl] at hB
     rcases hB with k1 | ⟨g,n',cap,cur,k1,k2⟩
     ·exact .inl (by rw[e2];exact k1)
     exact .inr ⟨g,n',cap,cur,by rw[e2];exact k1,k2⟩
   | bts e l=>
     rw[hl] at hB
     obtain⟨b,n',cs,fz,k1,k2⟩:=hB
     exact⟨b,n',cs,fz,by rw[e2];exact k1,k2⟩
 ·obtain⟨r,e1,e2,e3,e4⟩:=hold n h1
  obtain⟨r',f1,f2,f3,f4⟩:=hold n' h2
  rw[e2] at hd;rw[f2] at hd'
  refine hS.apart r r' d d' b e3 f3 ?_ hd hd' hb
  rintro rfl
  exact hne (hinj n n' r e4 f4)
 ·obtain⟨r,e1,e2,e3,e4⟩:=hold n h1
  rw[e2] at hd
  exact hS.mine r d b e3 hd hb
 ·show ARel κ' (look i (keep.map fun i=>(i,(s.E i).ren f))) _
  rw[oc keep (fun i=>(s.E i).ren f) i]
  split
  ·exact r3 (κ:=κ) (κ':=κ') rfl rfl hf _ _ (h.env i)
  ·exact .any _
 ·have hr':m0+os.length<=r:=hr
  simp only[κ',nm']
  rw[if_neg (by omega),List.getElem?_eq_none (by omega)]
end
theorem Wk.norm (m0:Nat)(keep:List Nat)(s:St):Wk m0 s (norm m0 keep s):=fun c κ0 κ N a w h0 hr=>hr.norm h0 keep
section
variable {P:Program}{c:Ctx}{κ0 κ:Kap}{N:Nat}{s:St}{a:Act}{w:World}
def gh (κ:Kap)(σ:au)(b:Nat):Prop:=∃ r d,σ r≠.none/\κ.nm r=some d/\d.block=some b
theorem gh.lt {σ:au}{b:Nat}(hS:SRel c κ σ)(h:gh κ σ b):b<κ.w.heap.size:=by
 obtain⟨r,d,h1,h2,h3⟩:=h
 exact (hS.blk r).lt h1 h2 h3
def KO (κ:Kap)(σ:au)(G:Nat->List PV):Ctx:=⟨κ.w,gh κ σ,G,true⟩
def Ctx.round (c:Ctx):Ctx:=⟨c.w0,c.lent,c.G,true⟩
theorem Rel.rebase (h:Rel c κ0 N s a w κ)(nmb:Nat->Option Den)(hn:∀ r d,nmb r=some d->κ.nm r=some d):Rel (KO κ s.σ c.G) ⟨κ.w,nmb,κ.imm⟩ N s a w κ:=by
 have hS:=h.rel
 refine⟨h.w_eq,⟨fun _ _ h=>h,fun _ _ _ _ h=>h,hn,fun _ _ h _=>h⟩,⟨hS.blk,hS.apart,fun r d b h1 h2 h3=>.inr ⟨r,d,h1,h2,h3⟩,hS.immLt,hS.glob.1,fun g hg=>?_⟩,
  ⟨rfl,rfl,rfl,Nat.le_refl _,fun _ _ _=>rfl,fun _ _ h=>.inl h⟩,h.env,h.size,.inl rfl,h.fresh⟩
 obtain⟨h1,h2,cs,T,fz,h3,h4⟩:=hS.glob.2 g hg
 refine⟨(Array.getElem?_eq_some_iff.1 h3).1,?_,cs,T,fz,h3,h4⟩
 rintro⟨r,d,k1,k2,k3⟩
 exact eC h1 h2 (hS.mine r d g k1 k2 k3)
theorem Rel.upward (h:Rel c κ0 N s a w κ){nmb:Nat->Option Den}{s1:St}{a1:Act}{w1:World}{κ1:Kap}(h1:Rel (KO κ s.σ c.G) ⟨κ.w,nmb,κ.imm⟩ N s1 a1 w1 κ1)(he:Ext κ0 ⟨κ.w,nmb,κ.imm⟩) :
  Ext κ0 κ1/\SRel c κ1 s1.σ/\Left c κ0.imm κ1:=by
 have hl0:=h.left
 have hL:=h1.left
 have hS:=h1.rel
 have hlm:∀ b,gh κ s.σ b->c.mine b:=fun b ⟨r,d,h1,h2,h3⟩=>h.rel.mine r d b h1 h2 h3
 have hmine:∀ b,(KO κ s.σ c.G).mine b->c.mine b:=by
  intro b hb
  rcases hb with hb | hb
  ·exact .inl (Nat.le_trans hl0.size hb)
  ·exact hlm b hb
 refine⟨he.trans h1.ext0,⟨hS.blk,hS.apart,fun r d b h1 h2 h3=>hmine b (hS.mine r d b h1 h2 h3),hS.immLt,hS.glob.1,fun g hg=>?_⟩,
  ⟨hL.os.trans hl0.os,hL.tape.trans hl0.tape,hL.output.trans hl0.output,Nat.le_trans hl0.size hL.size,fun b hlt hl=>?_,fun b o hi=>?_⟩⟩
 ·obtain⟨g1,g2,cs,T,fz,g3,g4⟩:=h.rel.glob.2 g hg
  exact⟨g1,g2,cs,T,fz,(hL.block g (Array.getElem?_eq_some_iff.1 g3).1 fun hl=>eC g1 g2 (hlm g hl)).trans g3,g4⟩
 ·refine (hL.block b (Nat.lt_of_lt_of_le hlt hl0.size) fun hn=>?_).trans (hl0.block b hlt hl)
  rcases hlm b hn with h4 | h4
  ·omega
  ·exact hl h4
 ·rcases hL.imm b o hi with h1 | h1
  ·exact hl0.imm b o h1
  ·exact .inr (hmine b h1)
theorem Rel.lift (h:Rel c κ0 N s a w κ){s1:St}{a1:Act}{w1:World}{κ1:Kap}(h1:Rel (KO κ s.σ c.G) κ N s1 a1 w1 κ1):Rel c κ0 N ⟨s.env,s1.sto,s1.next⟩ a w1 κ1:=by
 obtain⟨k1,k2,k3⟩:=h.upward (nmb:=κ.nm) h1 h.ext0
 exact⟨h1.w_eq,k1,k2,k3,fun i=>(h.env i).ext h1.ext0,h.size,h.defers.ext h1.ext0,h1.fresh⟩
theorem Rel.lift2 (h:Rel c κ0 N s a w κ){s1:St}{a1:Act}{w1:World}{κ1:Kap}(h1:Rel (KO κ s.σ c.G) κ N s1 a1 w1 κ1):Rel c.round κ0 N s1 a1 w1 κ1:=by
 obtain⟨k1,k2,k3⟩:=h.upward (nmb:=κ.nm) h1 h.ext0
 exact⟨h1.w_eq,k1,⟨k2.blk,k2.apart,k2.mine,k2.immLt,k2.glob⟩,⟨k3.os,k3.tape,k3.output,k3.size,k3.block,k3.imm⟩,h1.env,h1.size,.inl rfl,h1.fresh⟩
theorem Wk.sub {m0:Nat}{s':St}(hW:Wk m0 s s')(h0:∀ r,m0<=r->κ0.nm r=none)(h:Rel c κ0 N s a w κ) :
  ∃ κ',Rel c κ0 N s' a w κ'/\(∀ b o,κ.imm b o->κ'.imm b o)/\∀ b,gh κ' s'.σ b->gh κ s.σ b:=by
 let nmb:Nat->Option Den:=fun r=>if r<m0 then κ.nm r else none
 have hr:=h.rebase nmb (fun r d hd=>by
  simp only[nmb] at hd
  split at hd
  ·exact hd
  ·cases hd)
 obtain⟨κ',h'⟩:=hW _ ⟨κ.w,nmb,κ.imm⟩ κ N a w (fun r hr=>by simp only[nmb];rw[if_neg (by omega)]) hr
 have he0:Ext κ0 ⟨κ.w,nmb,κ.imm⟩:=by
  refine⟨h.ext0.imm,h.ext0.cell,fun r d hd=>?_,h.ext0.obj⟩
  have hlt:r<m0:=by
   rcases Nat.lt_or_ge r m0 with h1 | h1
   ·exact h1
   ·rw[h0 r h1] at hd;cases hd
  simp only[nmb]
  rw[if_pos hlt];exact h.ext0.nm r d hd
 obtain⟨k1,k2,k3⟩:=h.upward h' he0
 have hw:κ'.w=κ.w:=h'.w_eq.trans h.w_eq.symm
 have hm:dx c κ' a.defers:=by
  rcases h.defers with hm | ⟨Ds,m1,m2,m3⟩
  ·exact .inl hm
  ·exact .inr ⟨Ds,m1,m2,fun D hD=>⟨(m3 D hD).1,by rw[hw];exact (m3 D hD).2⟩⟩
 refine⟨κ',⟨h'.w_eq,k1,k2,k3,h'.env,h'.size,hm,h'.fresh⟩,fun b o hi=>h'.ext0.imm b o hi,fun b hn=>?_⟩
 have hlt:=hn.lt h'.rel
 obtain⟨r,d,q1,q2,q3⟩:=hn
 rcases h'.rel.mine r d b q1 q2 q3 with h4 | h4
 ·rw[hw] at hlt;exact absurd hlt (Nat.not_lt.2 h4)
 ·exact h4
theorem Rel.turn (h:Rel c κ0 N s a w κ)(hk:κ0.w.heap.size<=c.w0.heap.size){w':World}(h1:w'.os=w.os)(h2:w'.tape=w.tape)(h3:w'.output=w.output)(h4:w.heap.size<=w'.heap.size)
  (h5:∀ (b:Nat) (o:Obj),w.heap[b]? = some o->HQ o=true->w'.heap[b]? = some o) (h6:∀ b,b<c.w0.heap.size->w'.heap[b]? = w.heap[b]?) {ds:List Deferred} (hm:dx c ⟨w',κ.nm,κ.imm⟩ ds) :
  Rel c κ0 N s ⟨a.tmps,ds⟩ w' ⟨w',κ.nm,κ.imm⟩:=by
 have hw:=h.w_eq
 subst hw
 have hc:∀ b o v,κ.w.cell? ⟨b,o,none⟩=some v->w'.cell? ⟨b,o,none⟩=some v:=fun b o v hv=>by
  obtain⟨q,hq,hqc⟩:=cells_of_cell hv
  exact (World.cell?_of_block (a:=⟨b,o,none⟩) ((h5 b q hq (by cases q<;>first | rfl | cases hqc)).trans hq.symm)).trans hv
 have hx:∀ x v,ARel κ x v->ARel ⟨w',κ.nm,κ.imm⟩ x v:=fun x v hx=>ARel.extC (κ:=κ) (κ':=⟨w',κ.nm,κ.imm⟩) (fun _ _ h=>h) (fun b o v _ hv=>hc b o v hv) (fun _ _ h=>h) hx
 have hS:=h.rel
 refine⟨rfl,⟨h.ext0.imm,fun b o v hi hv=>hc _ _ _ (h.ext0.cell b o v hi hv),h.ext0.nm,fun b o ho hb=>?_⟩,⟨fun r=>?_,hS.apart,hS.mine,fun b o hi=>Nat.lt_of_lt_of_le (hS.immLt b o hi) h4,fun g o p hp=>?_,fun g hg=>?_⟩,
  ⟨h1.trans h.left.os,h2.trans h.left.tape,h3.trans h.left.output,Nat.le_trans h.left.size h4,fun b hb hl=>(h6 b hb).trans (h.left.block b hb hl),h.left.imm⟩,fun i=>hx _ _ (h.env i),h.size,hm,h.fresh⟩
 ·exact (h6 b (Nat.lt_of_lt_of_le (Array.getElem?_eq_some_iff.1 ho).1 hk)).trans (h.ext0.obj b o ho hb)
 ·refine (hS.blk r).keepC hx (fun _ _ hp=>PRel.mono (w:=κ.w) (w':=w') (imm:=κ.imm) (imm':=κ.imm) (fun _ _ h=>h) (fun b o v _ hv=>hc b o v hv) hp) (fun _ _ h=>h) fun hB d b hd hb=>⟨?_,fun o ho=>ho⟩
  have hlt:=(hS.blk r).lt hB hd hb
  obtain⟨o,ho⟩:∃ o,κ.w.heap[b]? = some o:=⟨_,Array.getElem?_eq_getElem hlt⟩
  exact (h5 b o ho ((hS.blk r).isCells hB hd hb ho)).trans ho.symm
 ·obtain⟨q1,v,q2,q3,q4⟩:=hS.glob.1 g o p hp
  exact⟨q1,v,hc _ _ _ q2,q3,PRel.mono (w:=κ.w) (w':=w') (imm:=κ.imm) (imm':=κ.imm) (fun _ _ h=>h) (fun b o v _ hv=>hc b o v hv) q4⟩
 ·obtain⟨q1,q2,cs,T,fz,q3,q4⟩:=hS.glob.2 g hg
  exact⟨q1,q2,cs,T,fz,h5 g _ q3 rfl,q4⟩
theorem dx.keep {ds:List Deferred}(h:dx c κ ds){w':World}(hk:∀ (D:Nat),κ.w.heap[D]? = some (.deferred (some []))->w'.heap[D]? = some (.deferred (some []))):dx c ⟨w',κ.nm,κ.imm⟩ ds:=by
 rcases h with h | ⟨Ds,m1,m2,m3⟩
 ·exact .inl h
 ·exact .inr ⟨Ds,m1,m2,fun D hD=>⟨(m3 D hD).1,hk D (m3 D hD).2⟩⟩
theorem Rel.below (h:Rel c κ0 N s a w κ)(hk:κ0.w.heap.size<=c.w0.heap.size){w':World}(hb:Below w.heap.size w w'):Rel c κ0 N s a w' ⟨w',κ.nm,κ.imm⟩:=by
 have hw:=h.w_eq
 have hsz:=h.left.size
 rw[hw] at hsz
 exact h.turn hk (ds:=a.defers) hb.os hb.tape hb.output hb.size (fun b o ho _=>(hb.block b (Array.getElem?_eq_some_iff.1 ho).1).trans ho) (fun b hlt=>hb.block b (by omega))
  (h.defers.keep fun D hD=>by rw[hw] at hD;exact (hb.block D (Array.getElem?_eq_some_iff.1 hD).1).trans hD)
theorem Rel.putObj (h:Rel c κ0 N s a w κ)(hk:κ0.w.heap.size<=c.w0.heap.size){l:Nat}{o:Obj}(o':Obj)(hl:w.heap[l]? = some o)(ho:HQ o=false)(hc:c.w0.heap.size<=l){ds:List Deferred}
  (hm:dx c ⟨w.putObj l o',κ.nm,κ.imm⟩ ds):Rel c κ0 N s ⟨a.tmps,ds⟩ (w.putObj l o') ⟨w.putObj l o',κ.nm,κ.imm⟩:=
 h.turn (w':=w.putObj l o') hk rfl rfl rfl (by simp) (fun b q hq hqc=>by
  have:b≠l:=by rintro rfl;rw[hl] at hq;cases hq;rw[ho] at hqc;cases hqc
  exact (World.putObj_heap_other this).trans hq) (fun b hb=>World.putObj_heap_other (by omega)) hm
theorem Rel.more (h:Rel c κ0 N s a w κ){im:Nat->Nat->Prop}(h1:∀ b o,im b o->b<w.heap.size)(h2:∀ b o,im b o->gh κ s.σ b->κ.imm b o)(h3:∀ b o,im b o->κ0.imm b o\/c.mine b) :
  Rel c κ0 N s a w ⟨κ.w,κ.nm,fun b o=>κ.imm b o\/im b o⟩:=by
 have hw:=h.w_eq
 subst hw
 have hS:=h.rel
 have he:Ext κ ⟨κ.w,κ.nm,fun b o=>κ.imm b o\/im b o⟩:=⟨fun _ _ h=>.inl h,fun _ _ _ _ h=>h,fun _ _ h=>h,fun _ _ h _=>h⟩
 refine⟨rfl,h.ext0.trans he,⟨fun r=>?_,hS.apart,hS.mine,fun b o ho=>ho.elim (hS.immLt b o) (h1 b o),SRel.glob_ext he hS.glob fun _ _ _=>rfl⟩,⟨h.left.os,h.left.tape,h.left.output,h.left.size,h.left.block,fun b o ho=>ho.elim (h.left.imm b o) (h3 b o)⟩,
  fun i=>(h.env i).ext he,h.size,h.defers.ext he,h.fresh⟩
 by_cases hB:s.σ r = .none
 ·rw[hB];trivial
 ·exact (hS.blk r).keep he fun _ d b hd hb=>⟨rfl,fun o ho=>ho.elim _root_.id fun hi=>h2 b o hi ⟨r,d,hB,hd,hb⟩⟩
theorem mS:∀ (ps:List Nat) (vs:List Value) (x:List PV) (e:List (Nat×AV)) (t:Array Value),(∀ i,ARel κ (look i e) (t.getD i Go.undef))->t.size=N->P0 N ps=true->vs.length=ps.length->x.length=ps.length ->
  (∀ (j:Nat) (y:PV),x[j]? = some y->PRel κ.w κ.imm y (vs.getD j Go.undef)) ->
  (∀ i,ARel κ (look i (HD ps x e)) (((ps.zip vs).foldl (fun t (p,v)=>t.setIfInBounds p v) t).getD i Go.undef))/\((ps.zip vs).foldl (fun (t:Array Value) (p,v)=>t.setIfInBounds p v) t).size=N
 | [],vs,x,e,t,h1,h2,_,_,h5,_=>by
   have:x=[]:=by simpa using h5
   subst this
   exact⟨h1,h2⟩
 | p::ps,[],x,e,t,h1,h2,_,h4,_,_=>by simp at h4
 | p::ps,v::vs,[],e,t,h1,h2,_,_,h5,_=>by simp at h5
 | p::ps,v::vs,x::xs,e,t,h1,h2,h3,h4,h5,h6=>by
   simp only[P0,Bool.and_eq_true,decide_eq_true_eq] at h3
   simp only[HD,List.zip_cons_cons,List.foldl_cons]
   refine mS ps vs xs ((p,.pv x)::e) (t.setIfInBounds p v) (fun i=>?_) (by simpa using h2) h3.2 (by simpa using h4) (by simpa using h5) (fun j y hy=>by simpa using h6 (j+1) y (by simpa using hy))
   simp only[look]
   by_cases hi:p=i
   ·subst hi
    rw[if_pos rfl]
    have:(t.setIfInBounds p v).getD p Go.undef=v:=by simp[Array.getD_eq_getD_getElem?,h2,h3.1.1]
    rw[this];exact .pv _ _ (by simpa using h6 0 x rfl)
   ·rw[if_neg hi]
    have:(t.setIfInBounds p v).getD i Go.undef=t.getD i Go.undef:=by
     simp only[Array.getD_eq_getD_getElem?,Array.getElem?_setIfInBounds]
     rw[if_neg hi]
    rw[this];exact h1 i
end
def lift (c:Ctx)(κ0:Kap)(N:Nat)(Q:AExit->St->Prop):Exit->Act->World->Prop
 | .normal,a,w=>∃ s κ,Rel c κ0 N s a w κ/\Q .norm s
 | .exit id,a,w=>∃ s κ,Rel c κ0 N s a w κ/\Q (.exit id) s
 | .ret,a,w=>∃ s κ,Rel c κ0 N s a w κ/\Q .ret s
 | _,_,_=>False
theorem j9 {F:Fence}{nf:Nat}{P:Program}{co:Code}{Q:Exit->Act->World->Prop}{a:Act}{w:World}(J:Nat->Act->World->Prop)(h:∃ n,J n a w)
  (round:∀ n a w,J n a w->co.wpIn F nf P (Exit.then (fun a' w'=>∃ n',n'<n/\J n' a' w') Q) a w):(Code.loop co).wpIn F nf P Q a w:=by
 classical
 have least:∀ a w,(∃ n,J n a w)->∃ n,J n a w/\∀ k,J k a w->n<=k:=by
  rintro a w ⟨n,hn⟩
  induction n using Nat.strongRecOn with
  | _ n ih=>
    by_cases h:∃ k,k<n/\J k a w
    ·obtain⟨k,h1,h2⟩:=h
     exact ih k h1 h2
    ·exact⟨n,hn,fun k hk=>Nat.le_of_not_lt fun hlt=>h ⟨k,hlt,hk⟩⟩
 let μ:Act->World->Nat:=fun a w=>if h:∃ n,J n a w then Classical.choose (least a w h) else 0
 have hμ:∀ a w n,J n a w->μ a w<=n/\J (μ a w) a w:=by
  intro a w n hn
  have hx:∃ n,J n a w:=⟨n,hn⟩
  simp only[μ,dif_pos hx]
  have:=Classical.choose_spec (least a w hx)
  exact⟨this.2 n hn,this.1⟩
 refine wpIn_loop (fun a w=>∃ n,J n a w) μ h fun a w ⟨n,hn⟩=>?_
 refine wpIn_mono (round _ a w (hμ a w n hn).2) ?_
 intro e a' w' hq
 cases e with
 | normal=>
   obtain⟨n',h1,h2⟩:=hq
   exact⟨⟨n',h2⟩,Nat.lt_of_le_of_lt (hμ a' w' n' h2).1 h1⟩
 | _=>exact hq
section
variable {P:Program}{c:Ctx}{κ0:Kap}{N:Nat}
theorem re {G:Nat->List PV}{m0:Nat}{Q:AExit->St->Prop}{s:St}(h:vc P G m0 (.ops [⟨none,jK,none⟩] []) Q s):False:=by
 simp[vc,dy,bT,KG,l9,jK,AX.ev,dw,aJ] at h
theorem r6 {muts:List Nat}{assign body:Code}{g:Operand}{ps:Array Tmp}{f:AX}{Q:AExit->St->Prop}{m0 nf:Nat}{va vb:Nat->(AExit->St->Prop)->St->Prop}{s:St}{a:Act}{w:World}{κ:Kap}
  (hA:∀ (c1:Ctx) (κ1:Kap) (m1 l n:Nat) (Q:AExit->St->Prop) (s:St) (a:Act) (w:World) (κ:Kap),c1.G=c.G->(∀ r,m1<=r->κ1.nm r=none)->κ1.w.heap.size<=c1.w0.heap.size->Rel c1 κ1 N s a w κ->va m1 Q s->assign.wpIn (FR (some l)) n P (lift c1 κ1 N Q) a w)
  (hB:∀ (c1:Ctx) (κ1:Kap) (m1 l n:Nat) (Q:AExit->St->Prop) (s:St) (a:Act) (w:World) (κ:Kap),c1.G=c.G->(∀ r,m1<=r->κ1.nm r=none)->κ1.w.heap.size<=c1.w0.heap.size->Rel c1 κ1 N s a w κ->vb m1 Q s->body.wpIn (FR (some l)) n P (lift c1 κ1 N Q) a w)
  (hg:cX g=some f) (hps:P0 N ps.toList=true) (h0:∀ r,m0<=r->κ0.nm r=none) (hk:κ0.w.heap.size<=c.w0.heap.size) (hR:Rel c κ0 N s a w κ) (hv:Kp P c.G va vb m0 f ps.toList Q s) :
  (Code.rangeFunc g ps assign body).wpIn (FR none) nf P (lift c κ0 N Q) a w:=by
 obtain⟨I,s0,hW,hI0,hv⟩:=hv
 obtain⟨κ,hR⟩:=hW c κ0 κ N a w h0 hR
 have hw:=hR.w_eq
 subst hw
 simp only[aJ] at hv
 split at hv
 rotate_left
 ·exact hv.elim
 rename_i p hp
 obtain⟨hfs,lb,xs,hlb,⟨hcal,hseq⟩,hrnd,hdone⟩:=hv
 obtain⟨vs,us,hfun,hvs,hus,_,hu1⟩:=EM (aA (κ:=κ) (E:=s0.E) (a:=a) hg (fun i _=>hR.env i)) hp
 have hvs0:vs = #[]:=by rw[hfs] at hvs;exact Array.eq_empty_of_size_eq_zero hvs
 subst hvs0
 have hc0:c.w0.heap.size<=κ.w.heap.size:=hR.left.size
 refine wpIn_rangeFunc fun fn _=>?_
 let D:=κ.w.heap.size
 let L:LoopState->Option Code->Obj:=fun st pe=>.loop { state:=st,pending:=pe,fn:=fn,tmps:=a.tmps,params:=ps,assign:=assign,body:=body,defers:=D }
 let W1:=(κ.w.alloc (.deferred (some []))).alloc (L .ready none)
 have g1:W1.heap[D+1]? = some (L .ready none):=by
  have:=World.alloc_heap_new (κ.w.alloc (.deferred (some []))) (L .ready none)
  rwa [World.size_alloc] at this
 have g2:W1.heap[D]? = some (.deferred (some [])):=(Below.heap_alloc _ _ _ (by simp[D])).trans (World.alloc_heap_new κ.w _)
 have gb:Below κ.w.heap.size κ.w W1:=((Below.refl _ κ.w).alloc (Nat.le_refl _) _).alloc (by simp) _
 have hR1:=hR.below hk gb
 have he1:Ext κ ⟨W1,κ.nm,κ.imm⟩:=⟨fun _ _ h=>h,fun b o v hi hc=>(World.cell?_of_block (a:=⟨b,o,none⟩) (gb.block b (World.block_lt_of_cell? κ.w _ hc))).trans hc,fun _ _ h=>h,fun b o ho _=>(gb.block b (Array.getElem?_eq_some_iff.1 ho).1).trans ho⟩
 have hlt:∀ {W:World} {o:Obj} {k:Nat},W.heap[k]? = some o->k<W.heap.size:=fun h=>(Array.getElem?_eq_some_iff.1 h).1
 have hDs:∀ {Ds:List Nat},a.defers=Ds.map Ky->(c.rnd=true\/D∉Ds):=by
  intro Ds hd
  rcases hR.defers with h | ⟨Es,m1,m2,m3⟩
  ·exact .inl h
  ·refine .inr fun hm=>?_
   have:Ky D∈Es.map Ky:=by rw[<- m1,hd];exact List.mem_map.2 ⟨D,hm,rfl⟩
   obtain⟨E,hE,hEe⟩:=List.mem_map.1 this
   have hED:E=D:=by simpa[Ky] using hEe
   have:=hlt (m3 E hE).2
   omega
 have markD:∀ {W:World} {κ':Kap} {o':Obj},dx c κ' a.defers->κ'.w=W->W.heap[D]? = some (.deferred (some []))->W.heap[D+1]?≠none->(∀ k:Nat,k≠D+1->(W.putObj (D+1) o').heap[k]? = W.heap[k]?)->(∀ q,W.heap[D+1]?≠some (.deferred q))->dx c ⟨W.putObj (D+1) o',κ'.nm,κ'.imm⟩ (Ky D::a.defers):=by
  intro W κ' o' hm hw hD _ hput hnd
  have hkeep:∀ (E:Nat),W.heap[E]? = some (.deferred (some []))->(W.putObj (D+1) o').heap[E]? = some (.deferred (some [])):=fun E hE=>by
   rw[hput E (by rintro rfl;exact hnd _ hE)];exact hE
  rcases hm with h | ⟨Es,m1,m2,m3⟩
  ·exact .inl h
  ·rcases hDs m1 with h | h
   ·exact .inl h
   ·refine .inr ⟨D::Es,by rw[m1];rfl,List.nodup_cons.2 ⟨h,m2⟩,fun E hE=>?_⟩
    rcases List.mem_cons.1 hE with rfl | hE
    ·exact⟨hc0,hkeep _ hD⟩
    ·exact⟨(m3 E hE).1,hkeep _ (by rw[<- hw];exact (m3 E hE).2)⟩
 let J:Nat->(Nat->Nat->Prop)->World->Prop:=fun i O W=>∃ s' κ',I i s'/\Rel c κ0 N s' a W κ'/\(∀ b o,O b o↔((gh κ' s'.σ b/\¬ κ'.imm b o)\/b=D\/b=D+1))/\W.heap[D+1]? = some (L .ready none)/\W.heap[D]? = some (.deferred (some []))
 let Jx:World->Prop:=fun W=>∃ cd s' κ',((cd = .ret/\Q .ret s')\/∃ id,cd = .exit id/\Q (.exit id) s')/\Rel c κ0 N s' a W κ'/\W.heap[D+1]? = some (L .done (some cd))/\W.heap[D]? = some (.deferred (some []))
 refine⟨D+1,[Ky D],W1,{ target:=.fn (.func p.1) us,args:=#[.func (.yield (D+1)) #[] #[]] },W1,p.1,#[.func (.yield (D+1)) #[] #[]]++us,W1,run_enterLoop_outer _ _ _ _ _,?_,fun _ _=>trivial,?_,fun h=>absurd h (wh none),?_⟩
 ·simp only[resolve,hfun];simp[go_sem]
 ·simp[invoke,go_sem,fC hcal]
 have hmain:=hseq W1 κ.imm us (D+1) J Jx (fun b o=>(gh κ s0.σ b/\¬ κ.imm b o)\/b=D\/b=D+1) hR1.rel.glob.ok (fun b o hi=>?_) (hus.trans (by simpa using (bU hlb).symm)) (fun i x hx=>?_) ?_ ?_ ?_ ⟨s0,_,hI0,hR1,fun _ _=>Iff.rfl,g1,g2⟩
 ·refine CallsIn.mono (show CallsIn (FR none) (nf - 1) P p.1 _ W1 _ from (callsIn_wide (n:=nf - 1)).2 ((callsIn_wide (n:=0)).1 hmain)) ?_
  rintro e W2 ⟨⟨v,rfl⟩,⟨O',s',κ',hI,hR',hO,hL,hD⟩ | ⟨cd,s',κ',hQ,hR',hL,hD⟩⟩
  ·have hRe:=hR'.putObj hk (L .exhausted none) hL rfl (by omega) (markD hR'.defers hR'.w_eq hD (by rw[hL];simp) (fun k hk=>World.putObj_heap_other hk) (fun q hq=>by rw[hL] at hq;cases hq))
   exact⟨none,_,run_endLoop hL (by simp),s',_,hRe,hdone s' hI⟩
  ·have hRe:=hR'.putObj hk (L .exhausted (some cd)) hL rfl (by omega) (markD hR'.defers hR'.w_eq hD (by rw[hL];simp) (fun k hk=>World.putObj_heap_other hk) (fun q hq=>by rw[hL] at hq;cases hq))
   refine⟨some cd,_,run_endLoop hL (by simp),?_⟩
   rcases hQ with ⟨rfl,hQ⟩ | ⟨id,rfl,hQ⟩
   ·exact wpIn_ret ⟨s',_,hRe,hQ⟩
   ·exact wpIn_exit ⟨s',_,hRe,hQ⟩
 ·have h1:=hR.rel.immLt b o hi
  refine⟨Nat.lt_of_lt_of_le h1 gb.size,?_⟩
  rintro (⟨_,h⟩ | h | h)
  ·exact h hi
  ·omega
  ·omega
 ·obtain⟨y,hy,hq⟩:=cw hlb i x hx
  exact bQ hq ((hu1 i y hy).ext he1)
 ·rintro i O W W' ⟨s',κ',q1,q2,q3,q4,q5⟩ hb
  exact⟨s',_,q1,q2.below hk hb,q3,(hb.block _ (hlt q4)).trans q4,(hb.block _ (hlt q5)).trans q5⟩
 ·rintro i O W b o ⟨s',κ',q1,q2,q3,q4,q5⟩ ho
  rcases (q3 b o).1 ho with ⟨h,_⟩ | rfl | rfl
  ·have:=h.lt q2.rel
   rwa [q2.w_eq] at this
  ·exact hlt q5
  ·exact hlt q4
 ·rintro m i x O W vals imm' kp ⟨s',κ',hI,hR',hO,hL,hD⟩ hx hsz hpx him hkp hkO
  have hw':=hR'.w_eq
  subst hw'
  obtain⟨hlen,hva⟩:=hrnd i x s' hx hI
  have hnot:∀ b o,kp b o->gh κ' s'.σ b->κ'.imm b o:=fun b o h hn=>Classical.byContradiction fun hc=>(hkO b o h).2 ((hO b o).2 (.inl ⟨hn,hc⟩))
  have hneD:∀ b o,kp b o->b≠D/\b≠D+1:=fun b o h=>⟨fun e=>(hkO b o h).2 ((hO b o).2 (.inr (.inl e))),fun e=>(hkO b o h).2 ((hO b o).2 (.inr (.inr e)))⟩
  have hM:=hR'.more (im:=imm') (fun b o h=>(hkO b o (hkp b o h)).1) (fun b o h hn=>hnot b o (hkp b o h) hn) (fun b o h=>by
   rcases him b o h with h | h
   ·exact hR.left.imm b o h
   ·exact .inr (.inl (by have:=gb.size;omega)))
  obtain⟨e1,e2⟩:=mS (κ:=⟨κ'.w,κ'.nm,fun b o=>κ'.imm b o\/imm' b o⟩) (N:=N) ps.toList vals.toList x s'.env a.tmps hM.env hM.size hps (by simp[hsz,hlen]) hlen (fun j y hy=>by
   rw[<- aC]
   exact (hpx j y hy).mono (fun _ _ h=>.inr h) (fun _ _ _ _ h=>h))
  have hfold:(ps.zip vals).foldl (fun (t:Array Value) (p,v)=>t.setIfInBounds p v) a.tmps=(ps.toList.zip vals.toList).foldl (fun (t:Array Value) (p,v)=>t.setIfInBounds p v) a.tmps:=by
   rw[<- Array.foldl_toList,Array.toList_zip]
  rw[<- hfold] at e1 e2
  have hP:Rel c κ0 N ⟨HD ps.toList x s'.env,s'.sto,s'.next⟩ ⟨(ps.zip vals).foldl (fun (t:Array Value) (p,v)=>t.setIfInBounds p v) a.tmps,[]⟩ κ'.w ⟨κ'.w,κ'.nm,fun b o=>κ'.imm b o\/imm' b o⟩:=
   ⟨rfl,hM.ext0,hM.rel,hM.left,e1,e2,dx.nil _ _,hM.fresh⟩
  have hb1:=hP.rebase κ'.nm (fun _ _ h=>h)
  refine⟨fn,_,assign,body,run_yield hL (by simp[hsz,hlen]),roundIn_of_wpIn trivial (Go.wpIn_mono (hA (KO ⟨κ'.w,κ'.nm,fun b o=>κ'.imm b o\/imm' b o⟩ s'.σ c.G) ⟨κ'.w,κ'.nm,fun b o=>κ'.imm b o\/imm' b o⟩ s'.next (D+1) m _ _ _ _ _ rfl (fun r hr=>hR'.fresh r hr) (Nat.le_refl _) hb1 hva) ?_)⟩
  intro e a2 w2 hq
  cases e with
  | exit id=>obtain⟨_,_,_,hf⟩:=hq;exact hf.elim
  | ret=>obtain⟨_,_,_,hf⟩:=hq;exact hf.elim
  | goto t=>exact hq.elim
  | panic ch=>exact hq.elim
  | outgrown=>exact hq.elim
  | normal=>
    obtain⟨s2,κ2,hR2,hv2⟩:=hq
    have hw2:=hR2.w_eq
    subst hw2
    have hL2:κ2.w.heap[D+1]? = some (L .ready none):=hR2.ext0.obj _ _ hL rfl
    have hD2:κ2.w.heap[D]? = some (.deferred (some [])):=hR2.ext0.obj _ _ hD rfl
    refine⟨_,run_beginRound hL2 rfl,?_⟩
    let W3:=κ2.w.putObj (D+1) (L .busy none)
    have hmk:∀ {K:Kap} {o o':Obj} {ds:List Deferred},dx c K ds->K.w.heap[D+1]? = some o->(∀ q,o≠.deferred q)->dx c ⟨K.w.putObj (D+1) o',K.nm,K.imm⟩ ds:=by
     intro K o o' ds hm hl ho
     exact hm.keep fun E hE=>by
      have:E≠D+1:=by rintro rfl;rw[hl] at hE;cases hE;exact ho _ rfl
      exact (World.putObj_heap_other this).trans hE
    have o2:=hM.lift (s1:=s2) hR2
    have o3:=o2.putObj hk (L .busy none) hL2 rfl (by omega) (hmk o2.defers hL2 (fun q h=>by cases h))
    have i2:=hP.lift2 hR2
    have i3:=i2.putObj (c:=c.round) hk (L .busy none) hL2 rfl (show c.w0.heap.size<=D+1 by omega) (ds:=a2.defers) (.inl rfl)
    have hb3:=i3.rebase κ2.nm (fun _ _ h=>h)
    have hL3:W3.heap[D+1]? = some (L .busy none):=World.putObj_heap_same (hlt hL2)
    have hD3:W3.heap[D]? = some (.deferred (some [])):=(World.putObj_heap_other (by omega)).trans hD2
    refine Go.wpIn_mono (hB (KO ⟨W3,κ2.nm,κ2.imm⟩ s2.σ c.G) ⟨W3,κ2.nm,κ2.imm⟩ s2.next (D+1) m _ s2 _ W3 _ rfl (fun r hr=>hR2.fresh r hr) (Nat.le_refl _) hb3 hv2) ?_
    intro e a4 w4 hq
    have fin:∀ (s4:St) (κ4:Kap) (jump:Option Code),Rel (KO ⟨W3,κ2.nm,κ2.imm⟩ s2.σ c.G) ⟨W3,κ2.nm,κ2.imm⟩ N s4 a4 w4 κ4 ->
      let W5:=w4.putObj (D+1) (L (if jump.isNone then .ready else .done) jump)
      (Instr.endRound (D+1) jump).run P w4 = .ok (.bool jump.isNone) W5/\W5.heap[D+1]? = some (L (if jump.isNone then .ready else .done) jump)/\W5.heap[D]? = some (.deferred (some [])) /\
      Rel c κ0 N ⟨s'.env,s4.sto,s4.next⟩ a W5 ⟨W5,κ4.nm,κ4.imm⟩:=by
     intro s4 κ4 jump hR4
     have hw4:=hR4.w_eq
     subst hw4
     have hL4:κ4.w.heap[D+1]? = some (L .busy none):=hR4.ext0.obj _ _ hL3 rfl
     have hD4:κ4.w.heap[D]? = some (.deferred (some [])):=hR4.ext0.obj _ _ hD3 rfl
     have o4:=o3.lift (s1:=s4) hR4
     exact⟨run_endRound jump hL4,World.putObj_heap_same (hlt hL4),(World.putObj_heap_other (by omega)).trans hD4,o4.putObj hk _ hL4 rfl (by omega) (hmk o4.defers hL4 (fun q h=>by cases h))⟩
    cases e with
    | goto t=>exact hq.elim
    | panic ch=>exact hq.elim
    | outgrown=>exact hq.elim
    | ret=>
      obtain⟨s4,κ4,hR4,hq⟩:=hq
      obtain⟨f1,f2,f3,f4⟩:=fin s4 κ4 (some .ret) hR4
      exact⟨_,_,f1,.inr ⟨rfl,.ret,_,_,.inl ⟨rfl,hq⟩,f4,f2,f3⟩⟩
    | exit id=>
      obtain⟨s4,κ4,hR4,hq⟩:=hq
      obtain⟨f1,f2,f3,f4⟩:=fin s4 κ4 (some (.exit id)) hR4
      exact⟨_,_,f1,.inr ⟨rfl,.exit id,_,_,.inr ⟨id,rfl,hq⟩,f4,f2,f3⟩⟩
    | normal=>
      obtain⟨s4,κ4,hR4,s6,hW6,hI6⟩:=hq
      obtain⟨f1,f2,f3,f4⟩:=fin s4 κ4 none hR4
      obtain⟨κ6,hR6,him6,hnm6⟩:=hW6.sub h0 f4
      have hw4:=hR4.w_eq
      subst hw4
      have hlt':∀ b o,kp b o->b<κ'.w.heap.size:=fun b o h=>(hkO b o h).1
      have s12:κ'.w.heap.size<=κ2.w.heap.size:=hR2.left.size
      have s23:κ2.w.heap.size=W3.heap.size:=by simp[W3]
      have s34:W3.heap.size<=κ4.w.heap.size:=hR4.left.size
      have n2:∀ b,b<κ'.w.heap.size->gh κ2 s2.σ b->gh κ' s'.σ b:=by
       rintro b hb ⟨r,d,q1,q2,q3⟩
       rcases hR2.rel.mine r d b q1 q2 q3 with h | h
       ·exact absurd hb (Nat.not_lt.2 h)
       ·exact h
      have n4:∀ b,b<κ'.w.heap.size->gh κ4 s4.σ b->gh κ' s'.σ b:=by
       rintro b hb ⟨r,d,q1,q2,q3⟩
       rcases hR4.rel.mine r d b q1 q2 q3 with h | h
       ·exact absurd (Nat.lt_of_lt_of_le hb (Nat.le_trans s12 (Nat.le_of_eq s23))) (Nat.not_lt.2 h)
       ·exact n2 b hb h
      have i12:∀ b o,κ'.imm b o->κ4.imm b o:=fun b o h=>hR4.ext0.imm b o (hR2.ext0.imm b o (.inl h))
      refine⟨_,_,f1,.inl ⟨rfl,⟨fun b o=>(gh κ6 s6.σ b/\¬ κ6.imm b o)\/b=D\/b=D+1,⟨s6,κ6,hI6,hR6,fun _ _=>Iff.rfl,f2,f3⟩,fun b o hkb=>?_⟩,?_,fun b o v hkb hv=>?_,fun g hg=>?_⟩⟩
      ·rintro (⟨h1,h2⟩ | h | h)
       ·exact h2 (him6 b o (i12 b o (hnot b o hkb (n4 b (hlt' b o hkb) (hnm6 b h1)))))
       ·exact (hneD b o hkb).1 h
       ·exact (hneD b o hkb).2 h
      ·simp;omega
      ·have turn:∀ {X:World} {o':Obj},X.cell? ⟨b,o,none⟩=some v->(X.putObj (D+1) o').cell? ⟨b,o,none⟩=some v:=fun {X o'} h=>
        (World.cell?_of_block (a:=⟨b,o,none⟩) (World.putObj_heap_other (hneD b o hkb).2)).trans h
       by_cases hi:κ'.imm b o
       ·exact turn (hR4.ext0.cell b o v (hR2.ext0.imm b o (.inl hi)) (turn (hR2.ext0.cell b o v (.inl hi) hv)))
       ·have hn:¬ gh κ' s'.σ b:=fun h=>hi (hnot b o hkb h)
        have hb:=hlt' b o hkb
        have k2:κ2.w.cell? ⟨b,o,none⟩=some v:=(World.cell?_of_block (a:=⟨b,o,none⟩) (hR2.left.block b hb hn)).trans hv
        have hb3:b<W3.heap.size:=Nat.lt_of_lt_of_le hb (by omega)
        exact turn ((World.cell?_of_block (a:=⟨b,o,none⟩) (hR4.left.block b hb3 fun h=>hn (n2 b hb h))).trans (turn k2))
      ·have hw6:=hR6.w_eq
       rw[<- hw6]
       exact (hR6.rel.glob.2 g hg).2.2
theorem tY {muts rl:List Nat}:∀ (co:Code) (c:Ctx) (κ0:Kap) (m0:Nat) (ro:Option Nat) (nf:Nat) (ac:ACode) (ex:List (Nat×List Nat)) (out li:List Nat) (Q:AExit->St->Prop) (s:St) (a:Act) (w:World) (κ:Kap),
  (ro=none\/bk co=false)->(∀ r,m0<=r->κ0.nm r=none)->κ0.w.heap.size<=c.w0.heap.size ->
  bn P muts N rl co ex out=some (ac,li)->Rel c κ0 N s a w κ->vc P c.G m0 ac Q s->co.wpIn (FR ro) nf P (lift c κ0 N Q) a w:=by
 intro co
 induction co with
 | skip=>
   intro c κ0 m0 ro nf ac ex out li Q s a w κ hro h0 hk hc hR hv
   simp only[bn,Option.some.injEq,Prod.mk.injEq] at hc
   obtain⟨rfl,_⟩:=hc
   exact wpIn_skip ⟨s,κ,hR,hv⟩
 | exit id=>
   intro c κ0 m0 ro nf ac ex out li Q s a w κ hro h0 hk hc hR hv
   simp only[bn,Option.some.injEq,Prod.mk.injEq] at hc
   obtain⟨rfl,_⟩:=hc
   exact wpIn_exit ⟨s,κ,hR,hv⟩
 | ret=>
   intro c κ0 m0 ro nf ac ex out li Q s a w κ hro h0 hk hc hR hv
   simp only[bn,Option.some.injEq,Prod.mk.injEq] at hc
   obtain⟨rfl,_⟩:=hc
   exact wpIn_ret ⟨s,κ,hR,hv⟩
 | region id ops d=>
   intro c κ0 m0 ro nf ac ex out li Q s a w κ hro h0 hk hc hR hv
   simp only[bn] at hc
   split at hc
   ·rename_i l hl
    cases d with
    | false=>
      simp only[Option.some.injEq,Prod.mk.injEq] at hc
      obtain⟨rfl,_⟩:=hc
      exact wpIn_region_list (ed (F:=sH Q (o9 out)) (fun s a w κ hR hF=>⟨_,κ,hR.clip _,hF⟩) ops.toList l s a w κ hl hR hv)
    | true=>
      simp only at hc
      split at hc
      ·rename_i hok
       simp only[Option.some.injEq,Prod.mk.injEq] at hc
       obtain⟨rfl,_⟩:=hc
       exact np (F:=sH Q (o9 out)) hl hok.1 hok.2.1 hok.2.2 hR hv (fun s a w κ hR hF=>⟨_,κ,hR.clip _,hF⟩)
      ·cases hc
   ·cases hc
 | seq x y ihx ihy=>
   intro c κ0 m0 ro nf ac ex out li Q s a w κ hro h0 hk hc hR hv
   simp only[bn] at hc
   split at hc
   ·rename_i b' lb hb
    split at hc
    ·rename_i a' la ha
     simp only[Option.some.injEq,Prod.mk.injEq] at hc
     obtain⟨rfl,_⟩:=hc
     refine wpIn_seq (Go.wpIn_mono (ihx c κ0 m0 ro nf _ _ _ _ _ s a w κ (hro.imp _root_.id fun h=>by simp only[bk,Bool.or_eq_false_iff] at h;exact h.1) h0 hk ha hR hv) ?_)
     intro e a w hq
     cases e with
     | normal=>
       obtain⟨s,κ,hR,hF⟩:=hq
       exact ihy c κ0 m0 ro nf _ _ _ _ _ s a w κ (hro.imp _root_.id fun h=>by simp only[bk,Bool.or_eq_false_iff] at h;exact h.2) h0 hk hb hR hF
     | exit id=>exact hq
     | ret=>exact hq
     | goto l=>exact hq.elim
     | panic ch=>exact hq.elim
     | outgrown=>exact hq.elim
    ·cases hc
   ·cases hc
 | cond x y z ihy ihz=>
   intro c κ0 m0 ro nf ac ex out li Q s a w κ hro h0 hk hc hR hv
   simp only[bn] at hc
   split at hc
   ·rename_i ax a' la b' lb hx hy hz
    simp only[Option.some.injEq,Prod.mk.injEq] at hc
    obtain⟨rfl,_⟩:=hc
    have hw:=hR.w_eq
    have hrel:=aA (κ:=κ) (E:=s.E) (a:=a) hx (fun i _=>hR.env i)
    simp only[vc,pP] at hv
    split at hv
    ·rename_i he
     rw[he] at hrel
     exact wpIn_cond_true (de hrel) (ihy c κ0 m0 ro nf _ _ _ _ _ s a w κ (hro.imp _root_.id fun h=>by simp only[bk,Bool.or_eq_false_iff] at h;exact h.1) h0 hk hy hR hv)
    ·rename_i he
     rw[he] at hrel
     exact wpIn_cond_false (de hrel) (ihz c κ0 m0 ro nf _ _ _ _ _ s a w κ (hro.imp _root_.id fun h=>by simp only[bk,Bool.or_eq_false_iff] at h;exact h.2) h0 hk hz hR hv)
    ·exact hv.elim
   ·cases hc
 | block id b ih=>
   intro c κ0 m0 ro nf ac ex out li Q s a w κ hro h0 hk hc hR hv
   simp only[bn] at hc
   split at hc
   ·rename_i b' lb hb
    simp only[Option.some.injEq,Prod.mk.injEq] at hc
    obtain⟨rfl,_⟩:=hc
    refine wpIn_block (Go.wpIn_mono (ih c κ0 m0 ro nf _ _ _ _ _ s a w κ (hro.imp _root_.id fun h=>by simpa only[bk] using h) h0 hk hb hR hv) ?_)
    intro e a w hq
    cases e with
    | normal=>exact hq
    | ret=>exact hq
    | goto l=>exact hq.elim
    | panic ch=>exact hq.elim
    | outgrown=>exact hq.elim
    | exit id'=>
      obtain⟨s,κ,hR,hF⟩:=hq
      simp only[d9] at hF
      simp only[Exit.inBlock]
      split
      ·rename_i hid
       rw[if_pos hid] at hF
       exact⟨s,κ,hR,hF⟩
      ·rename_i hid
       rw[if_neg hid] at hF
       exact⟨s,κ,hR,hF⟩
   ·cases hc
 | loop b ih=>
   intro c κ0 m0 ro nf ac ex out li Q s a w κ hro h0 hk hc hR hv
   simp only[bn] at hc
   split at hc
   ·rename_i x1 l1 hb1
    split at hc
    ·rename_i x2 l2 hb2
     split at hc
     ·rename_i b' l3 hb
      simp only[Option.some.injEq,Prod.mk.injEq] at hc
      obtain⟨rfl,_⟩:=hc
      obtain⟨I,⟨n0,s0,hs0,hI0⟩,hround⟩:=hv
      let J:Nat->Act->World->Prop:=fun n a w=>∃ s κ,Rel c κ0 N s a w κ/\I n s
      have hJ0:∃ n,J n a w:=by
       obtain⟨κ',hR'⟩:=hs0 c κ0 κ N a w h0 hR
       exact⟨n0,_,κ',hR',hI0⟩
      refine j9 J hJ0 fun n a w hJn=>?_
      obtain⟨s,κ,hR,hIs⟩:=hJn
      refine Go.wpIn_mono (ih c κ0 m0 ro nf _ _ _ _ _ s a w κ (hro.imp _root_.id fun h=>by simpa only[bk] using h) h0 hk hb hR (hround _ s hIs)) ?_
      intro e a' w' hq
      cases e with
      | normal=>
        obtain⟨s',κ',hR',n',s'',hn',hs',hI'⟩:=hq
        obtain⟨κ'',hR''⟩:=hs' c κ0 κ' N a' w' h0 hR'
        exact⟨n',hn',_,κ'',hR'',hI'⟩
      | exit id=>
        obtain⟨s',κ',hR',s'',hs',hq'⟩:=hq
        obtain⟨κ'',hR''⟩:=hs' c κ0 κ' N a' w' h0 hR'
        exact⟨s'',κ'',hR'',hq'⟩
      | ret=>exact hq
      | goto l=>exact hq.elim
      | panic ch=>exact hq.elim
      | outgrown=>exact hq.elim
     ·cases hc
    ·cases hc
   ·cases hc
 | rangeFunc g ps x y ihx ihy=>
   intro c κ0 m0 ro nf ac ex out li Q s a w κ hro h0 hk hc hR hv
   rcases hro with rfl | h
   rotate_left
   ·simp[bk] at h
   simp only[bn] at hc
   split at hc
   ·rename_i ax b' lb hxy hx hb hps
    simp only[Bool.or_eq_false_iff] at hxy
    split at hc
    ·rename_i a' la ha
     simp only[Option.some.injEq,Prod.mk.injEq] at hc
     obtain⟨rfl,_⟩:=hc
     simp only[vc] at hv
     exact r6 (muts:=muts) (fun c1 κ1 m1 l n Q s a w κ hG g0 gk hR hv=>ihx c1 κ1 m1 (some l) n _ _ _ _ Q s a w κ (.inr hxy.1) g0 gk ha hR (by rw[hG];exact hv))
      (fun c1 κ1 m1 l n Q s a w κ hG g0 gk hR hv=>ihy c1 κ1 m1 (some l) n _ _ _ _ Q s a w κ (.inr hxy.2) g0 gk hb hR (by rw[hG];exact hv)) hx hps h0 hk hR hv
    ·cases hc
   ·simp only[Option.some.injEq,Prod.mk.injEq] at hc;obtain⟨rfl,rfl⟩:=hc;exact (re hv).elim
 | scope b ih=>intro c κ0 m0 ro nf ac ex out li Q s a w κ hro h0 hk hc hR hv;simp only[bn,Option.some.injEq,Prod.mk.injEq] at hc;obtain⟨rfl,rfl⟩:=hc;exact (re hv).elim
 | label l=>intro c κ0 m0 ro nf ac ex out li Q s a w κ hro h0 hk hc hR hv;simp only[bn,Option.some.injEq,Prod.mk.injEq] at hc;obtain⟨rfl,rfl⟩:=hc;exact (re hv).elim
 | goto l=>intro c κ0 m0 ro nf ac ex out li Q s a w κ hro h0 hk hc hR hv;simp only[bn,Option.some.injEq,Prod.mk.injEq] at hc;obtain⟨rfl,rfl⟩:=hc;exact (re hv).elim
 | refuse y=>intro c κ0 m0 ro nf ac ex out li Q s a w κ hro h0 hk hc hR hv;simp only[bn,Option.some.injEq,Prod.mk.injEq] at hc;obtain⟨rfl,rfl⟩:=hc;exact (re hv).elim
end
mutual
inductive Nz:PV->PV->Prop
 | refl (p:PV):Nz p p
 | nils:Nz .nils (.list [])
 | agg (cs ds:List PV):NzL cs ds->Nz (.agg cs) (.agg ds)
 | tup (cs ds:List PV):NzL cs ds->Nz (.tup cs) (.tup ds)
 | list (cs ds:List PV):NzL cs ds->Nz (.list cs) (.list ds)
inductive NzL:List PV->List PV->Prop
 | nil:NzL [] []
 | cons (x y:PV) (r q:List PV):Nz x y->NzL r q->NzL (x::r) (y::q)
end
theorem NzL.refl:∀ l:List PV,NzL l l
 | []=>.nil
 | x::r=>.cons x x r r (.refl x) (NzL.refl r)
theorem NzL.length:∀ {l k:List PV},NzL l k->l.length=k.length
 | [],_,h=>by cases h;rfl
 | x::r,_,h=>by cases h with | cons _ y _ q _ h2=>simp[NzL.length h2]
theorem NzL.get:∀ {l k:List PV},NzL l k->∀ (i:Nat) (y:PV),k[i]? = some y->∃ x,l[i]? = some x/\Nz x y
 | [],_,h,i,y,hy=>by cases h;simp at hy
 | x::r,_,h,i,y,hy=>by
   cases h with
   | cons _ y' _ q h1 h2=>
     cases i with
     | zero=>simp at hy;subst hy;exact⟨x,rfl,h1⟩
     | succ i=>exact NzL.get h2 i y (by simpa using hy)
theorem Nz.cells {p q:PV}(h:Nz p q):NzL p.cells q.cells:=by
 cases h with
 | refl=>exact NzL.refl _
 | nils=>exact .cons _ _ _ _ .nils .nil
 | agg cs ds h=>exact h
 | tup cs ds h=>exact .cons _ _ _ _ (.tup _ _ h) .nil
 | list cs ds h=>exact .cons _ _ _ _ (.list _ _ h) .nil
theorem PRel.nz {w:World}{imm:Nat->Nat->Prop}{p:PV}{v:Value}(h:PRel w imm p v):∀ {q:PV},Nz p q->PRel w imm q v:=by
 induction h with
 | undef=>intro q hq;cases hq;exact .undef
 | bool b=>intro q hq;cases hq;exact .bool b
 | int k n=>intro q hq;cases hq;exact .int k n
 | str s hs=>intro q hq;cases hq;exact .str s hs
 | agg cs vs hl hc ih=>
   intro q hq
   cases hq with
   | refl=>exact .agg cs vs hl hc
   | agg _ ds hd=>
     refine .agg ds vs (by rw[hl,hd.length]) fun i y hy=>?_
     obtain⟨x,hx,hxy⟩:=hd.get i y hy
     exact ih i x hx hxy
 | tup cs vs hl hc ih=>
   intro q hq
   cases hq with
   | refl=>exact .tup cs vs hl hc
   | tup _ ds hd=>
     refine .tup ds vs (by rw[hl,hd.length]) fun i y hy=>?_
     obtain⟨x,hx,hxy⟩:=hd.get i y hy
     exact ih i x hx hxy
 | nils=>
   intro q hq
   cases hq with
   | refl=>exact .nils
   | nils=>exact .lnil none 0 (by simp)
 | lnil A c h=>
   intro q hq
   cases hq with
   | refl=>exact .lnil A c h
   | list _ ds hd=>cases hd;exact .lnil A c h
 | list l b off c sz g h1 h2 h3 h4 h5 ih=>
   intro q hq
   cases hq with
   | refl=>exact .list l b off c sz g h1 h2 h3 h4 h5
   | list _ ds hd=>
     have hlen:=hd.length
     have key:=PRel.list (w:=w) (imm:=imm) ds b off c sz g (by omega) h2 (fun i y hy=>by
       obtain⟨x,hx,hxy⟩:=hd.get i y hy
       rw[<- h3 i x hx,hxy.cells.length]) (fun i y j z hy hz=>by
       obtain⟨x,hx,hxy⟩:=hd.get i y hy
       obtain⟨u,hu,huz⟩:=hxy.cells.get j z hz
       exact h4 i x j u hx hu) (fun i y j z hy hz=>by
       obtain⟨x,hx,hxy⟩:=hd.get i y hy
       obtain⟨u,hu,huz⟩:=hxy.cells.get j z hz
       exact ih i x j u hx hu huz)
     rw[<- hlen] at key
     exact key
 | nilp=>intro q hq;cases hq;exact .nilp
 | nilf=>intro q hq;cases hq;exact .nilf
 | clo f fs cs vs us h1 h2 h3 h4 _ _=>intro q hq;cases hq;exact .clo f fs cs vs us h1 h2 h3 h4
 | eptr l b off c sz g i o h1 h2 h3 h4 h5 h6 _=>intro q hq;cases hq;exact .eptr l b off c sz g i o h1 h2 h3 h4 h5 h6
 | gptr g o=>intro q hq;cases hq;exact .gptr g o
 | nili=>intro q hq;cases hq;exact .nili
 | iface T p u h _=>intro q hq;cases hq;exact .iface T p u h
theorem nY (p:PV):Nz p p=True:=eq_true (.refl p)
theorem MT:Nz .nils (.list [])=True:=eq_true .nils
theorem Qe (cs ds:List PV):Nz (.agg cs) (.agg ds)=NzL cs ds:=propext ⟨fun h=>by cases h with | refl=>exact NzL.refl _ | agg _ _ h=>exact h,.agg _ _⟩
theorem Qb (cs ds:List PV):Nz (.tup cs) (.tup ds)=NzL cs ds:=propext ⟨fun h=>by cases h with | refl=>exact NzL.refl _ | tup _ _ h=>exact h,.tup _ _⟩
theorem MU (a b:Bool):Nz (.bool a) (.bool b)=(a=b):=propext ⟨fun h=>by cases h;rfl,fun h=>h▸.refl _⟩
theorem Qd (k k':IntKind)(a b:Int):Nz (.int k a) (.int k' b)=(k=k'/\a=b):=propext ⟨fun h=>by cases h;exact⟨rfl,rfl⟩,fun ⟨h,g⟩=>h▸g▸.refl _⟩
theorem Qc (a b:List UInt8):Nz (.str a) (.str b)=(a=b):=propext ⟨fun h=>by cases h;rfl,fun h=>h▸.refl _⟩
theorem MV:NzL [] []=True:=eq_true .nil
theorem HZ (x y:PV)(r q:List PV):NzL (x::r) (y::q)=(Nz x y/\NzL r q):=propext ⟨fun h=>by cases h with | cons _ _ _ _ h1 h2=>exact⟨h1,h2⟩,fun ⟨h1,h2⟩=>.cons _ _ _ _ h1 h2⟩
theorem NzL.map {α:Type}{f g:α->PV}(h:∀ x,Nz (f x) (g x)):∀ l:List α,NzL (l.map f) (l.map g)
 | []=>.nil
 | x::r=>.cons _ _ _ _ (h x) (NzL.map h r)
theorem NzL.append:∀ {a b c d:List PV},NzL a b->NzL c d->NzL (a++c) (b++d)
 | [],_,_,_,h,k=>by cases h;exact k
 | x::r,_,_,_,h,k=>by cases h with | cons _ _ _ _ h1 h2=>exact .cons _ _ _ _ h1 (NzL.append h2 k)
def iU (n e sz:Nat):AV:=if e<1000000 then .olist n sz [] else .row n sz 0 0
def cI (e sz:Nat):Blk:=if e<1000000 then .tok e sz else .cells (e - 1000000) false []
def Om (k:Nat)(e sz:Nat)(s:St):AV->St
 | .pv .nils=>⟨(k,iU s.next e sz)::s.env,(s.next,cI e sz)::s.sto,s.next+1⟩
 | _=>s
def OT (r T:Nat)(f:Bool)(l:List AV)(o e sz:Nat)(s:St):Option AV->St
 | some (.pv .nils)=>⟨s.env,(r,.cells T f (l.set o (iU s.next e sz)))::(s.next,cI e sz)::s.sto,s.next+1⟩
 | _=>s
def accB (r o e sz:Nat)(s:St):Blk->St
 | .cells T f l=>OT r T f l o e sz s l[o]?
 | _=>s
def accP (o e sz:Nat)(s:St):AV->St
 | .ptr r b=>accB r (b+o) e sz s (lookB r s.sto)
 | _=>s
def TI (p:Nat×Nat×Nat×Nat)(s:St):St:=
 match p.2.1 with
 | 0=>Om p.1 p.2.2.1 p.2.2.2 s (look p.1 s.env)
 | j+1=>accP j p.2.2.1 p.2.2.2 s (look p.1 s.env)
def JU:List (Nat×Nat×Nat×Nat)->St->St
 | [],s=>s
 | p::r,s=>JU r (TI p s)
section
variable {P:Program}{c:Ctx}{κ0 κ:Kap}{N:Nat}{s:St}{a:Act}{w:World}
theorem JV {σ0:au}(hS:SRel c κ σ0){new:Nat}(hn:κ.nm new=none)(e sz:Nat) :
  Done c κ ⟨κ.w,fun r=>if r=new then some (.own (.slice none 0 0)) else κ.nm r,κ.imm⟩ new /\
  SRel c ⟨κ.w,fun r=>if r=new then some (.own (.slice none 0 0)) else κ.nm r,κ.imm⟩ (au.set σ0 new (cI e sz)) /\
  ARel ⟨κ.w,fun r=>if r=new then some (.own (.slice none 0 0)) else κ.nm r,κ.imm⟩ (iU new e sz) (.slice none 0 0):=by
 unfold iU cI
 split
 ·exact Fv hS hn e sz
 ·exact oF hS hn (e - 1000000) sz
theorem J6 (e sz:Nat)(env:List (Nat×AV))(sto:List (Nat×Blk))
  (henv:∀ (κ κ':Kap),Ext κ κ'->ARel κ' (iU s.next e sz) (.slice none 0 0)->∀ (a:Act),(∀ i,ARel κ (s.E i) (a.tmps.getD i Go.undef))->∀ i,ARel κ' (look i env) (a.tmps.getD i Go.undef))
  (hsto:∀ (c:Ctx) (κ':Kap),(∀ r T f l,s.σ r = .cells T f l->r≠s.next)->ARel κ' (iU s.next e sz) (.slice none 0 0)->SRel c κ' (au.set s.σ s.next (cI e sz))->(∀ r,s.next<r->κ'.nm r=none)->SRel c κ' (fun r=>lookB r sto)):Wx s ⟨env,sto,s.next+1⟩:=by
 intro c κ0 κ N a w h
 obtain⟨h1,h2,h3⟩:=JV h.rel (h.fresh s.next (Nat.le_refl _)) e sz
 have hfr:∀ r,s.next<r->(if r=s.next then some (Den.own (Value.slice none 0 0)) else κ.nm r)=none:=by
  intro r hr
  rw[if_neg (by omega)]
  exact h.fresh r (by omega)
 exact⟨_,h1.ext,h.w_eq,h.ext0.trans h1.ext,hsto c _ (fun r T f l hr hn=>by
  have hB:=h.rel.blk r
  rw[hr] at hB
  rcases hB with ⟨_,_,h1⟩ | ⟨b,n,cs,h1,_⟩<;>(rw[hn,h.fresh s.next (Nat.le_refl _)] at h1;cases h1)) h3 h2 hfr,h1.left _ h.left,henv κ _ h1.ext h3 a h.env,h.size,h.defers.ext h1.ext,fun r hr=>hfr r hr⟩
theorem uI {v:Value}(h:ARel κ (.pv .nils) v):v = .slice none 0 0:=by cases aH h;rfl
theorem Lc (k e sz:Nat)(s:St):Wx s (Om k e sz s (look k s.env)):=by
 unfold Om
 split
 ·rename_i hk
  refine J6 e sz _ _ (fun κ κ' he ho a henv i=>?_) (fun c κ' _ ho hS _=>?_)
  ·simp only[look]
   split
   ·rename_i hi
    subst hi
    have:=henv k
    rw[show s.E k=look k s.env from rfl,hk] at this
    rw[uI this]
    exact ho
   ·exact (henv i).ext he
  ·have:(fun r=>lookB r ((s.next,cI e sz)::s.sto))=au.set s.σ s.next (cI e sz):=by
    funext r
    simp only[lookB,au.set,St.σ]
    by_cases h:s.next=r
    ·simp[h]
    ·rw[if_neg h,if_neg (fun e=>h e.symm)]
   rw[this];exact hS
 ·exact Wx.refl s
theorem EX {κ:Kap}{r T:Nat}{f:Bool}{l:List AV}{o:Nat}{y:AV}(h:eH κ r (.cells T f l))(hy:∀ v x,l[o]? = some x->ARel κ x v->ARel κ y v):eH κ r (.cells T f (l.set o y)):=by
 rcases h with ⟨h1,h2,h3⟩ | ⟨b,n,cs,h1,h2,h3,h4,h7,h5,h6⟩
 ·exact .inl ⟨h1,by rw[h2];rfl,h3⟩
 refine .inr ⟨b,n,cs,h1,h2,h3,by simpa using h4,by simpa using h7,fun j x hx=>?_,h6⟩
 rw[List.getElem?_set] at hx
 split at hx
 ·rename_i hj
  subst hj
  split at hx
  ·rename_i hlt
   cases hx
   exact hy _ _ (List.getElem?_eq_getElem hlt) (h5 o _ (List.getElem?_eq_getElem hlt))
  ·cases hx
 ·exact h5 j x hx
theorem AB (r o e sz:Nat)(s:St):Wx s (accB r o e sz s (lookB r s.sto)):=by
 unfold accB
 split
 ·rename_i T f l hl
  unfold OT
  split
  ·rename_i ho
   refine J6 e sz _ _ (fun κ κ' he ho a henv i=>(henv i).ext he) (fun c κ' hcl hol hS hfr=>?_)
   have hr:=hcl r T f l hl
   have hB:=hS.blk r
   have hσr:au.set s.σ s.next (cI e sz) r = .cells T f l:=by simp only[au.set,hr,if_false];exact hl
   rw[hσr] at hB
   have hnew:(fun q=>lookB q ((r,Blk.cells T f (l.set o (iU s.next e sz)))::(s.next,cI e sz)::s.sto))=au.set (au.set s.σ s.next (cI e sz)) r (.cells T f (l.set o (iU s.next e sz))):=by
    funext q
    simp only[lookB,au.set,St.σ]
    by_cases h:r=q
    ·rw[if_pos h,if_pos h.symm]
    ·have h1:¬ q=r:=fun e=>h e.symm
     rw[if_neg h,if_neg h1]
     by_cases h':s.next=q
     ·have h2:q=s.next:=h'.symm
      rw[if_pos h',if_pos h2]
     ·have h2:¬ q=s.next:=fun e=>h' e.symm
      rw[if_neg h',if_neg h2]
   rw[hnew]
   have hz:∀ q,(au.set (au.set s.σ s.next (cI e sz)) r (.cells T f (l.set o (iU s.next e sz)))) q≠.none->(au.set s.σ s.next (cI e sz)) q≠.none:=by
    intro q hq
    by_cases h:q=r
    ·subst h;rw[hσr];simp
    ·simpa[au.set,h] using hq
   refine⟨fun q=>?_,fun q q' d d' b' h1 h2=>hS.apart q q' d d' b' (hz q h1) (hz q' h2),fun q d b' h1=>hS.mine q d b' (hz q h1),hS.immLt,hS.glob⟩
   by_cases h:q=r
   ·subst h
    simp only[au.set,if_true]
    refine EX hB fun v x hx hv=>?_
    rw[ho] at hx;cases hx
    rw[uI hv];exact hol
   ·have:=hS.blk q
    simp only[au.set,h,if_false] at this ⊢
    exact this
  ·exact Wx.refl s
 ·exact Wx.refl s
theorem Lb (k o e sz:Nat)(s:St):Wx s (accP o e sz s (look k s.env)):=by
 unfold accP
 split
 ·exact AB _ _ _ _ s
 ·exact Wx.refl s
theorem Ld (p:Nat×Nat×Nat×Nat)(s:St):Wx s (TI p s):=by
 unfold TI
 split
 ·exact Lc _ _ _ s
 ·exact Lb _ _ _ _ s
theorem AA:∀ (l:List (Nat×Nat×Nat×Nat)) (s:St),Wx s (JU l s)
 | [],s=>Wx.refl s
 | p::r,s=>(Ld p s).trans (AA r _)
inductive AVz:AV->AV->Prop
 | refl (x:AV):AVz x x
 | any (x:AV):AVz x .any
 | pv (p q:PV):Nz p q->AVz (.pv p) (.pv q)
 | olist (r sz:Nat) (l k:List PV):NzL l k->AVz (.olist r sz l) (.olist r sz k)
 | list (r sz:Nat) (l k:List PV):NzL l k->AVz (.olist r sz l) (.pv (.list k))
inductive AVzL:List AV->List AV->Prop
 | nil:AVzL [] []
 | cons (x y:AV) (r q:List AV):AVz x y->AVzL r q->AVzL (x::r) (y::q)
theorem AVz.rel {κ:Kap}{x y:AV}{v:Value}(h:AVz x y)(hr:ARel κ x v):ARel κ y v:=by
 cases h with
 | refl=>exact hr
 | any=>exact .any v
 | pv p q hq=>exact .pv _ _ ((aH hr).nz hq)
 | olist r sz l k hq=>
   cases hr with
   | olist _ _ _ _ hn hp hs=>
     refine .olist _ _ _ _ hn (hp.nz (.list _ _ hq)) fun y hy=>?_
     obtain⟨i,hi⟩:=List.getElem?_of_mem hy
     obtain⟨x,hx,hxy⟩:=hq.get i y hi
     rw[<- hs x (List.mem_of_getElem? hx),hxy.cells.length]
 | list r sz l k hq=>
   cases hr with
   | olist _ _ _ _ hn hp hs=>exact .pv _ _ (hp.nz (.list _ _ hq))
theorem AVzL.length:∀ {l k:List AV},AVzL l k->l.length=k.length
 | [],_,h=>by cases h;rfl
 | x::r,_,h=>by cases h with | cons _ y _ q _ h2=>simp[AVzL.length h2]
theorem AVzL.get:∀ {l k:List AV},AVzL l k->∀ (i:Nat) (y:AV),k[i]? = some y->∃ x,l[i]? = some x/\AVz x y
 | [],_,h,i,y,hy=>by cases h;simp at hy
 | x::r,_,h,i,y,hy=>by
   cases h with
   | cons _ y' _ q h1 h2=>
     cases i with
     | zero=>simp at hy;subst hy;exact⟨x,rfl,h1⟩
     | succ i=>exact AVzL.get h2 i y (by simpa using hy)
inductive AVzP:List AV->List AV->Prop
 | nil (l:List AV):AVzP l []
 | cons (x y:AV) (r q:List AV):AVz x y->AVzP r q->AVzP (x::r) (y::q)
theorem AVzP.length:∀ {l k:List AV},AVzP l k->k.length<=l.length
 | _,[],_=>Nat.zero_le _
 | _,y::q,h=>by cases h with | cons x _ r _ _ h2=>simp;exact AVzP.length h2
theorem AVzP.get:∀ {l k:List AV},AVzP l k->∀ (i:Nat) (y:AV),k[i]? = some y->∃ x,l[i]? = some x/\AVz x y
 | _,[],h,i,y,hy=>by simp at hy
 | _,y'::q,h,i,y,hy=>by
   cases h with
   | cons x _ r _ h1 h2=>
     cases i with
     | zero=>simp at hy;subst hy;exact⟨x,rfl,h1⟩
     | succ i=>exact AVzP.get h2 i y (by simpa using hy)
theorem AVzP.of_l:∀ {l k:List AV},AVzL l k->AVzP l k
 | [],_,h=>by cases h;exact .nil _
 | x::r,_,h=>by cases h with | cons _ y _ q h1 h2=>exact .cons _ _ _ _ h1 (AVzP.of_l h2)
theorem AVzP.app:∀ (a b:List AV),AVzP (a++b) a
 | [],b=>.nil _
 | x::r,b=>.cons _ _ _ _ (.refl x) (AVzP.app r b)
inductive EnvZ:List (Nat×AV)->List (Nat×AV)->Prop
 | nil:EnvZ [] []
 | cons (k:Nat) (x y:AV) (r q:List (Nat×AV)):AVz x y->EnvZ r q->EnvZ ((k,x)::r) ((k,y)::q)
inductive BlkZ:Blk->Blk->Prop
 | refl (b:Blk):BlkZ b b
 | none (b:Blk):BlkZ b .none
 | cells (T:Nat) (f:Bool) (l k:List AV):AVzL l k->BlkZ (.cells T f l) (.cells T f k)
 | pre (T:Nat) (f:Bool) (l k:List AV):AVzP l k->BlkZ (.cells T f l) (.cells T false k)
inductive StoZ:List (Nat×Blk)->List (Nat×Blk)->Prop
 | nil:StoZ [] []
 | cons (k:Nat) (x y:Blk) (r q:List (Nat×Blk)):BlkZ x y->StoZ r q->StoZ ((k,x)::r) ((k,y)::q)
theorem EnvZ.look:∀ {e e':List (Nat×AV)},EnvZ e e'->∀ i,AVz (look i e) (look i e')
 | [],_,h,i=>by cases h;exact .refl _
 | (k,x)::r,_,h,i=>by
   cases h with
   | cons _ _ y _ q h1 h2=>
     simp only[Go.Ab.look]
     split
     ·exact h1
     ·exact EnvZ.look h2 i
theorem StoZ.look:∀ {e e':List (Nat×Blk)},StoZ e e'->∀ i,BlkZ (lookB i e) (lookB i e')
 | [],_,h,i=>by cases h;exact .refl _
 | (k,x)::r,_,h,i=>by
   cases h with
   | cons _ _ y _ q h1 h2=>
     simp only[Go.Ab.lookB]
     split
     ·exact h1
     ·exact StoZ.look h2 i
theorem BlkZ.rel {κ:Kap}{r:Nat}{b b':Blk}(h:BlkZ b b')(hb:eH κ r b):eH κ r b'/\(b'≠.none->b≠.none):=by
 cases h with
 | refl=>exact⟨hb,id⟩
 | none=>exact⟨trivial,fun h=>absurd rfl h⟩
 | cells T f l k hk=>
   have hlen:=hk.length
   rcases hb with ⟨h1,h2,h3⟩ | ⟨b,n,cs,h1,h2,h3,h4,h7,h5,h6⟩
   ·exact⟨.inl ⟨h1,List.eq_nil_of_length_eq_zero (by rw[<- hlen,h2];rfl),h3⟩,fun _=>by simp⟩
   refine⟨.inr ⟨b,n,cs,h1,h2,h3,by omega,fun h=>by rw[<- hlen];exact h7 h,fun o y hy=>?_,h6⟩,fun _=>by simp⟩
   obtain⟨x,hx,hxy⟩:=hk.get o y hy
   exact hxy.rel (h5 o x hx)
 | pre T f l k hk=>
   have hlen:=hk.length
   rcases hb with ⟨h1,h2,h3⟩ | ⟨b,n,cs,h1,h2,h3,h4,h7,h5,h6⟩
   ·exact⟨.inl ⟨rfl,List.eq_nil_of_length_eq_zero (by rw[h2] at hlen;simpa using hlen),h3⟩,fun _=>by simp⟩
   refine⟨.inr ⟨b,n,cs,h1,h2,h3,by omega,fun h=>(by cases h),fun o y hy=>?_,h6⟩,fun _=>by simp⟩
   obtain⟨x,hx,hxy⟩:=hk.get o y hy
   exact hxy.rel (h5 o x hx)
def StZ (s s':St):Prop:=EnvZ s.env s'.env/\StoZ s.sto s'.sto/\s.next=s'.next
theorem EnvZ.refl:∀ e:List (Nat×AV),EnvZ e e
 | []=>.nil
 | (k,x)::r=>.cons k x x r r (.refl x) (EnvZ.refl r)
theorem StoZ.refl:∀ e:List (Nat×Blk),StoZ e e
 | []=>.nil
 | (k,x)::r=>.cons k x x r r (.refl x) (StoZ.refl r)
theorem AVzL.refl:∀ e:List AV,AVzL e e
 | []=>.nil
 | x::r=>.cons x x r r (.refl x) (AVzL.refl r)
theorem StZ.wx {s t:St}(h:StZ s t):Wx s t:=by
 intro c κ0 κ N a w hR
 obtain⟨h1,h2,h3⟩:=h
 have hz:∀ r,t.σ r≠.none->s.σ r≠.none:=fun r hr=>((h2.look r).rel (hR.rel.blk r)).2 hr
 refine⟨κ,Ext.refl κ,hR.w_eq,hR.ext0,⟨fun r=>((h2.look r).rel (hR.rel.blk r)).1,fun r r' d d' b k1 k2=>hR.rel.apart r r' d d' b (hz r k1) (hz r' k2),fun r d b k1=>hR.rel.mine r d b (hz r k1),hR.rel.immLt,hR.rel.glob⟩,
  hR.left,fun i=>(h1.look i).rel (hR.env i),hR.size,hR.defers,fun r hr=>hR.fresh r (by omega)⟩
def cC (A:List (Nat×Nat×Nat×Nat))(m0:Nat)(keep:List Nat)(s:St):St:=norm m0 keep (JU A s)
theorem F4 (A:List (Nat×Nat×Nat×Nat))(m0:Nat)(keep:List Nat)(s:St):Wk m0 s (cC A m0 keep s):=
 (Wk.of (AA A s) m0).trans (Wk.norm m0 keep _)
theorem Wk.head {A:List (Nat×Nat×Nat×Nat)}{m0:Nat}{keep:List Nat}{s t:St}(h:StZ (cC A m0 keep s) t):Wk m0 s t:=
 (F4 A m0 keep s).trans (Wk.of h.wx m0)
theorem JB (x:AV):AVz x x=True:=eq_true (.refl x)
theorem Rw (p q:PV):AVz (.pv p) (.pv q)=Nz p q:=propext ⟨fun h=>by cases h with | refl=>exact .refl _ | pv _ _ h=>exact h,.pv _ _⟩
theorem JC (r sz:Nat)(l k:List PV):AVz (.olist r sz l) (.pv (.list k))=NzL l k:=propext ⟨fun h=>by cases h with | list _ _ _ _ h=>exact h,.list _ _ _ _⟩
theorem JG:AVzL [] []=True:=eq_true .nil
theorem Fk (x y:AV)(r q:List AV):AVzL (x::r) (y::q)=(AVz x y/\AVzL r q):=propext ⟨fun h=>by cases h with | cons _ _ _ _ h1 h2=>exact⟨h1,h2⟩,fun ⟨h1,h2⟩=>.cons _ _ _ _ h1 h2⟩
theorem Jl:EnvZ [] []=True:=eq_true .nil
theorem Em (k:Nat)(x y:AV)(r q:List (Nat×AV)):EnvZ ((k,x)::r) ((k,y)::q)=(AVz x y/\EnvZ r q):=propext ⟨fun h=>by cases h with | cons _ _ _ _ _ h1 h2=>exact⟨h1,h2⟩,fun ⟨h1,h2⟩=>.cons _ _ _ _ _ h1 h2⟩
theorem Fe (b:Blk):BlkZ b b=True:=eq_true (.refl b)
theorem Rr (T:Nat)(l k:List AV):BlkZ (.cells T true l) (.cells T true k)=AVzL l k:=propext ⟨fun h=>by cases h with | refl=>exact AVzL.refl _ | cells _ _ _ _ h=>exact h,.cells _ _ _ _⟩
theorem Rt (T:Nat)(f:Bool)(l k:List AV):BlkZ (.cells T f l) (.cells T false k)=AVzP l k:=propext ⟨fun h=>by
 cases h with
 | refl=>exact AVzP.of_l (AVzL.refl _)
 | cells _ _ _ _ h=>exact AVzP.of_l h
 | pre _ _ _ _ h=>exact h,.pre _ _ _ _⟩
theorem Rs (b:Blk):BlkZ b .none=True:=eq_true (.none b)
theorem JE (l:List AV):AVzP l []=True:=eq_true (.nil l)
theorem Fi (x y:AV)(r q:List AV):AVzP (x::r) (y::q)=(AVz x y/\AVzP r q):=propext ⟨fun h=>by cases h with | cons _ _ _ _ h1 h2=>exact⟨h1,h2⟩,fun ⟨h1,h2⟩=>.cons _ _ _ _ h1 h2⟩
theorem Fh (l:List AV):AVzP l l=True:=eq_true (AVzP.of_l (AVzL.refl l))
theorem JF (a b:List AV):AVzP (a++b) a=True:=eq_true (AVzP.app a b)
theorem Fj (l:List AV):AVzL l l=True:=eq_true (AVzL.refl l)
theorem Gy:StoZ [] []=True:=eq_true .nil
theorem Bg (k:Nat)(x y:Blk)(r q:List (Nat×Blk)):StoZ ((k,x)::r) ((k,y)::q)=(BlkZ x y/\StoZ r q):=propext ⟨fun h=>by cases h with | cons _ _ _ _ _ h1 h2=>exact⟨h1,h2⟩,fun ⟨h1,h2⟩=>.cons _ _ _ _ _ h1 h2⟩
theorem Pm (e e':List (Nat×AV))(σ σ':List (Nat×Blk))(n n':Nat):StZ ⟨e,σ,n⟩ ⟨e',σ',n'⟩=(EnvZ e e'/\StoZ σ σ'/\n=n'):=_root_.id rfl
end
inductive ARes where
 | tmp (t:Nat)
 | cell (t:Nat) (g:Bool) (sz:Nat)
structure AFn where
 N:Nat
 res:List ARes
 body:ACode
def resV (G:Nat->List PV)(s:St):ARes->Option AV
 | .tmp t=>some (s.E t)
 | .cell t g sz=>ey G g sz s.σ (s.E t)
def fg (G:Nat->List PV)(s:St):List ARes->Option (List AV)
 | []=>some []
 | r::q=>match resV G s r,fg G s q with
   | some a,some b=>some (a::b)
   | _,_=>none
def An (l:List AV):AV:=
 match l with
 | [v]=>v
 | l=>p5 l
def Kn (R:AV->List (Nat×Blk)->Nat->Prop)(s:St)(l:List AV):Prop:=R (An l) s.sto s.next
def FnK (G:Nat->List PV)(res:List ARes)(R:AV->List (Nat×Blk)->Nat->Prop):AExit->St->Prop
 | .norm,s=>aJ (fg G s res) (Kn R s)
 | .ret,s=>aJ (fg G s res) (Kn R s)
 | .exit _,_=>False
def Tx (P:Program):ResultVar->Option ARes
 | .tmp t=>some (.tmp t)
 | .cell a t=>match lW P t,iI P t with
   | some g,some n=>some (.cell a g n)
   | _,_=>none
def E4 (P:Program):List ResultVar->Option (List ARes)
 | []=>some []
 | r::q=>match Tx P r,E4 P q with
   | some a,some b=>some (a::b)
   | _,_=>none
def iL:List ARes->List Nat
 | []=>[]
 | .tmp t::r=>gr (iL r) [t]
 | .cell t _ _::r=>gr (iL r) [t]
def cFn (P:Program)(muts:List Nat)(f:Nat):Option AFn:=
 match P.funcs[f]? with
 | some fn=>match fn.body with
   | some c=>match E4 P fn.results.toList with
     | some rs=>if bS P f=true then match bn P muts fn.ntmps (iL rs) c [] (iL rs) with
       | some (b,_)=>some ⟨fn.ntmps,rs,b⟩
       | none=>none
       else none
     | none=>none
   | none=>none
 | none=>none
def du (args:List AV):List (Nat×AV):=args.zipIdx.map fun p=>(p.2,p.1)
section
variable {P:Program}{G:Nat->List PV}
theorem lg:∀ (args:List AV) (k i:Nat),look i ((args.zipIdx k).map fun p=>(p.2,p.1))=if k<=i then (args[i - k]?).getD .any else .any
 | [],k,i=>by simp[look]
 | x::r,k,i=>by
   rw[List.zipIdx_cons,List.map_cons,look]
   simp only
   by_cases h:k=i
   ·subst h;simp
   ·rw[if_neg h,lg r (k+1) i]
    by_cases hk:k<=i
    ·rw[if_pos (by omega),if_pos hk,show i - k=(i - (k+1))+1 by omega];simp
    ·rw[if_neg (by omega),if_neg hk]
def un (tmps:Array Value):ResultVar->Sem Value
 | .tmp t=>pure (tmps.getD t Go.undef)
 | .cell x t=>do loadVar t (<- asAddr (tmps.getD x Go.undef))
theorem mR (fn:Func)(tmps:Array Value):results fn tmps=(do let vs <- fn.results.mapM (un tmps);pure (if h:vs.size=1 then vs[0] else .tuple vs)):=by
 unfold results
 congr 1
theorem kA {c:Ctx}{κ0 κ:Kap}{N:Nat}{s:St}{a:Act}{w:World}(hR:Rel c κ0 N s a w κ):∀ (rv:List ResultVar) (rs:List ARes) (vs:List AV),E4 P rv=some rs->fg c.G s rs=some vs ->
  ∃ us:List Value,(rv.mapM (un a.tmps)).run P w = .ok us w/\us.length=vs.length/\∀ (i:Nat) (x:AV),vs[i]? = some x->ARel κ x (us.getD i Go.undef)
 | [],rs,vs,h1,h2=>by
   simp[E4] at h1;subst h1
   simp[fg] at h2;subst h2
   exact⟨[],by simp,rfl,by simp⟩
 | r::q,rs,vs,h1,h2=>by
   simp only[E4] at h1
   split at h1
   ·rename_i ra rb hra hrb
    cases h1
    simp only[fg] at h2
    split at h2
    ·rename_i va vb hva hvb
     cases h2
     obtain⟨us,k1,k2,k3⟩:=kA hR q rb vb hrb hvb
     have hw:=hR.w_eq
     subst hw
     have hone:∃ u,(un a.tmps r).run P κ.w = .ok u κ.w/\ARel κ va u:=by
      cases r with
      | tmp t=>
        simp only[Tx,Option.some.injEq] at hra
        subst hra
        simp only[resV,Option.some.injEq] at hva
        subst hva
        exact⟨_,rfl,hR.env t⟩
      | cell x t=>
        simp only[Tx] at hra
        split at hra
        ·rename_i g n hg hn
         cases hra
         simp only[resV] at hva
         have hx:=hR.env x
         obtain⟨z,h3,h4⟩:=Bv (P:=P) hR.rel hg hn hx hva
         refine⟨z,?_,h4⟩
         obtain⟨y,hy⟩:∃ y,a.tmps.getD x Go.undef=y:=⟨_,rfl⟩
         rw[hy] at hx h3
         simp only[Instr.loadAt,Sem.run_bind] at h3
         have hp:∃ ad,y = .pointer (some ad):=by
          unfold ey at hva
          split at hva
          ·rename_i he
           rw[he] at hx;cases hx;exact⟨_,rfl⟩
          ·rename_i he
           rw[he] at hx;cases aH hx;exact⟨_,rfl⟩
          ·rename_i he
           rw[he] at hx;cases aH hx;exact⟨_,rfl⟩
          ·cases hva
         obtain⟨ad,rfl⟩:=hp
         simp only[un]
         rw[hy]
         simpa[asAddr,Instr.sureAddr] using h3
        ·cases hra
     obtain⟨u,h5,h6⟩:=hone
     refine⟨u::us,?_,by simp[k2],fun i x hx=>?_⟩
     ·rw[List.mapM_cons,Sem.run_bind,h5]
      simp only[Result.andThen_ok,Sem.run_bind,k1,Sem.run_pure]
     ·cases i with
      | zero=>simp only[List.getElem?_cons_zero,Option.some.injEq] at hx;subst hx;simpa using h6
      | succ i=>simpa using k3 i x (by simpa using hx)
    ·cases h2
   ·cases h1
theorem ib {P:Program}{c:Ctx}{κ0 κ:Kap}{N:Nat}{s:St}{a:Act}{w:World}{fn:Func}{R:Ending->World->Prop}(hk:κ0.w.heap.size<=c.w0.heap.size)(hc:c.rnd=false)(hR:Rel c κ0 N s a w κ)
  (h:∀ w' κ',Rel c κ0 N s ⟨a.tmps,[]⟩ w' κ'->∃ v,(results fn a.tmps).run P w' = .ok v w'/\R (.returned v) w'):LeavesInM Fence.wide 0 P fn a.tmps R a.defers .returning w:=by
 have key:∀ (Ds:List Nat) (w:World) (κ:Kap),Ds.Nodup->(∀ D∈Ds,c.w0.heap.size<=D/\w.heap[D]? = some (.deferred (some [])))->Rel c κ0 N s ⟨a.tmps,[]⟩ w κ->LeavesInM Fence.wide 0 P fn a.tmps R (Ds.map Ky) .returning w:=by
  intro Ds
  induction Ds with
  | nil=>intro w κ _ _ hR;exact h w κ hR
  | cons D Ds ih=>
    intro w κ hn hD hR
    obtain⟨h1,h2⟩:=hD D (by simp)
    obtain⟨n1,n2⟩:=List.nodup_cons.1 hn
    refine⟨by simp,.inl ⟨D,_,rfl,run_takeDeferred h2,ih _ _ n2 (fun E hE=>?_) (hR.putObj hk (.deferred none) h2 rfl h1 (dx.nil _ _))⟩⟩
    obtain⟨q1,q2⟩:=hD E (by simp[hE])
    exact⟨q1,(World.putObj_heap_other (by rintro rfl;exact n1 hE)).trans q2⟩
 rcases hR.defers with hm | ⟨Ds,m1,m2,m3⟩
 ·rw[hc] at hm;cases hm
 ·have hw:=hR.w_eq
  rw[m1]
  exact key Ds w κ m2 (fun D hD=>by rw[<- hw];exact m3 D hD) ⟨hR.w_eq,hR.ext0,hR.rel,hR.left,hR.env,hR.size,dx.nil _ _,hR.fresh⟩
theorem cm.of_code {muts:List Nat}{f:Nat}{fn:AFn}{args:List AV}{sto:List (Nat×Blk)}{next:Nat}{R:AV->List (Nat×Blk)->Nat->Prop}(hc:cFn P muts f=some fn)(hn:args.length<=fn.N)
  (hv:∀ (c:Ctx) (κ:Kap) (N:Nat) (a:Act) (w:World) (co:Code) (rl li:List Nat),c.G=G->κ.w.heap.size<=c.w0.heap.size->(∀ r,next<=r->κ.nm r=none)->bn P muts N rl co [] rl=some (fn.body,li)->Rel c κ N ⟨du args,sto,next⟩ a w κ ->
   co.wpIn (FR none) 0 P (lift c κ N (FnK G fn.res R)) a w):cm P G f args sto next R:=by
 unfold cFn at hc
 split at hc
 ·rename_i fnc hfn
  split at hc
  ·rename_i co hco
   split at hc
   ·rename_i rs hrs
    split at hc
    ·rename_i hok
     split at hc
     ·rename_i b li hb
      cases hc
      refine⟨hok,fun κ vals hS hf hsz hargs=>?_⟩
      refine callsIn_wide.1 (callsIn_of_wp_marks (n:=0) hfn hco trivial ?_ rfl)
      let c:=cl κ (fun r=>lookB r sto) G
      have hsize:(vals++Array.replicate (fnc.ntmps - vals.size) Go.undef).size=fnc.ntmps:=by
       simp only at hn
       simp only[Array.size_append,Array.size_replicate];omega
      have hR:Rel c κ fnc.ntmps ⟨du args,sto,next⟩ ⟨vals++Array.replicate (fnc.ntmps - vals.size) Go.undef,[]⟩ κ.w κ:=by
       refine⟨rfl,Ext.refl κ,hS,⟨rfl,rfl,rfl,Nat.le_refl _,fun _ _ _=>rfl,fun _ _ h=>.inl h⟩,fun i=>?_,hsize,dx.nil _ _,hf⟩
       show ARel κ (look i ((args.zipIdx 0).map fun p=>(p.2,p.1))) _
       rw[lg,if_pos (Nat.zero_le _),Nat.sub_zero]
       cases hx:args[i]? with
       | none=>exact .any _
       | some x=>
         have hi:i<vals.size:=by rw[hsz];exact (List.getElem?_eq_some_iff.1 hx).1
         have:=hargs i x hx
         have e:(vals++Array.replicate (fnc.ntmps - vals.size) Go.undef).getD i Go.undef=vals.getD i Go.undef:=by
          simp only[Array.getD_eq_getD_getElem?]
          rw[Array.getElem?_append_left hi]
         rw[e];exact this
      refine Go.wpIn_mono (hv c κ fnc.ntmps _ κ.w co (iL rs) li rfl (Nat.le_refl _) hf hb hR) ?_
      have fin:∀ (s:St) (κ':Kap) (a:Act) (w:World),Rel c κ fnc.ntmps s a w κ'->aJ (fg G s rs) (Kn R s)->∃ v,(results fnc a.tmps).run P w = .ok v w /\
        ∃ u v' κ'' sto' next',Ending.returned v = .returned u/\κ''.w=w/\Ext κ κ''/\Left c κ.imm κ''/\ARel κ'' v' u/\SRel c κ'' (fun r=>lookB r sto')/\(∀ r,next'<=r->κ''.nm r=none)/\R v' sto' next':=by
       intro s κ' a w hR hF
       simp only[aJ] at hF
       split at hF
       ·rename_i vs hvs
        obtain⟨us,h1,h2,h3⟩:=kA (P:=P) hR fnc.results.toList rs vs hrs hvs
        have hrun:(results fnc a.tmps).run P w = .ok (if h:us.toArray.size=1 then us.toArray[0] else .tuple us.toArray) w:=by
         rw[mR,Sem.run_bind,Array.mapM_eq_mapM_toList]
         simp only[Sem.run_bind,Sem.run_map]
         rw[h1]
         simp
        refine⟨_,hrun,_,An vs,κ',s.sto,s.next,rfl,hR.w_eq,hR.ext0,hR.left,?_,hR.rel,hR.fresh,hF⟩
        by_cases hl:vs.length=1
        ·obtain⟨v,rfl⟩:=List.length_eq_one_iff.1 hl
         obtain⟨u,rfl⟩:=List.length_eq_one_iff.1 (h2.trans hl)
         have:=h3 0 v rfl
         exact this
        ·have hul:¬ us.toArray.size=1:=by simpa[h2] using hl
         rw[dif_neg hul]
         have hrv:An vs=p5 vs:=by
          unfold An
          split
          ·simp at hl
          ·rfl
         rw[hrv]
         exact pZ (.tup _ _ (by simpa using h2) (fun i x hx=>by rw[aC];simpa using h3 i x hx))
       ·exact hF.elim
      intro e a w hq
      cases e with
      | normal=>
        obtain⟨s,κ',hR,hF⟩:=hq
        exact ib (Nat.le_refl _) rfl hR fun w' κ'' hR'=>fin s κ'' ⟨a.tmps,[]⟩ w' hR' hF
      | ret=>
        obtain⟨s,κ',hR,hF⟩:=hq
        exact ib (Nat.le_refl _) rfl hR fun w' κ'' hR'=>fin s κ'' ⟨a.tmps,[]⟩ w' hR' hF
      | exit id=>
        obtain⟨s,κ',hR,hF⟩:=hq
        exact hF.elim
      | goto l=>exact hq.elim
      | panic ch=>exact hq.elim
      | outgrown=>exact hq.elim
     ·cases hc
    ·cases hc
   ·cases hc
  ·cases hc
 ·cases hc
theorem cm.intro {muts:List Nat}{f:Nat}{fn:AFn}{args:List AV}{sto:List (Nat×Blk)}{next:Nat}{R:AV->List (Nat×Blk)->Nat->Prop}(hc:cFn P muts f=some fn)(hn:args.length<=fn.N)
  (hv:vc P G next fn.body (FnK G fn.res R) ⟨du args,sto,next⟩):cm P G f args sto next R:=
 cm.of_code hc hn fun c κ N a w co rl li hG hk hf hb hR=>tY (P:=P) (N:=N) co c κ next none 0 fn.body [] rl li (FnK G fn.res R) _ a w κ (.inl rfl) hf hk hb hR (by rw[hG];exact hv)
def isR (r:PV)(σ:List (Nat×Blk))(v:AV):Prop:=∃ q,tm (fun r=>lookB r σ) v=some q/\Nz q.1 r
theorem ak.of_tcalls {f:Nat}{args:List PV}{r:PV}(h:cm P G f (args.map .pv) [] 0 fun v σ _=>isR r σ v):ak P G f args r:=by
 obtain⟨hcal,h⟩:=h
 refine⟨hcal,fun w imm vals hG hlt hsz hargs=>?_⟩
 have hl:(fun r=>lookB r ([]:List (Nat×Blk)))=fun _=>Blk.none:=by funext r;rfl
 refine (h ⟨w,fun _=>none,imm⟩ vals ?_ (fun _ _=>rfl) (by simpa using hsz) (fun i x hx=>?_)).mono ?_
 ·refine⟨fun r=>trivial,fun r r' d d' b h1=>absurd rfl h1,fun r d b h1=>absurd rfl h1,hlt,hG.1,fun g hg=>?_⟩
  obtain⟨cs,T,fz,h1,h2⟩:=hG.2 g hg
  refine⟨(Array.getElem?_eq_some_iff.1 h1).1,?_,cs,T,fz,h1,h2⟩
  rintro⟨r,d,h1,_⟩
  exact h1 rfl
 ·simp only[List.getElem?_map,Option.map_eq_some_iff] at hx
  obtain⟨q,hq,rfl⟩:=hx
  exact .pv _ _ (hargs i q hq)
 ·rintro e w' ⟨u,v,κ',sto',next',rfl,rfl,he,hL,hv,hS,hf,q,hq,hqr⟩
  have hlent:∀ b,¬ (cl ⟨w,fun _=>none,imm⟩ (fun r=>lookB r ([]:List (Nat×Blk))) G).lent b:=by
   rintro b ⟨r,d,h1,_⟩
   exact h1 rfl
  obtain⟨h1,h2⟩:=ve hS hv hq
  obtain⟨h3,h4⟩:=vd hS q.2 h1 next'
  have hL':=h3.left _ hL
  refine⟨u,(I5 κ' (fun r=>lookB r sto') q.2).imm,rfl,⟨hL.os,hL.tape,hL.output,hL.size,fun k hk=>hL.block k hk (hlent k)⟩,fun b o hi=>h3.ext.imm _ _ (he.imm _ _ hi),fun b o hi=>?_,h4.immLt,h2.nz hqr⟩
  rcases hL'.imm b o hi with h1 | h1 | h1
  ·exact .inl h1
  ·exact .inr h1
  ·exact absurd h1 (hlent b)
def PZ (r:PV)(v:AV)(σ:List (Nat×Blk))(_:Nat):Prop:=isR r σ v
theorem Qs {r:PV}{σ:List (Nat×Blk)}{v:AV}(h:v.toPV=some r):isR r σ v:=by
 cases v with
 | pv p=>simp only[AV.toPV,Option.some.injEq] at h;subst h;exact⟨(p,[]),rfl,.refl p⟩
 | olist a b l=>simp only[AV.toPV,Option.some.injEq] at h;subst h;exact⟨(.list l,[]),rfl,.refl _⟩
 | _=>simp[AV.toPV] at h
theorem ak.intro {muts:List Nat}{f:Nat}{fn:AFn}{args:List PV}{r:PV}(hc:cFn P muts f=some fn)(hn:args.length<=fn.N)
  (hv:vc P G 0 fn.body (FnK G fn.res (PZ r)) ⟨du (args.map .pv),[],0⟩):ak P G f args r:=
 ak.of_tcalls (cm.intro hc (by simpa using hn) hv)
theorem ak.nz {f:Nat}{qs ps:List PV}{r:PV}(h:ak P G f ps r)(hz:NzL qs ps):ak P G f qs r:=by
 obtain⟨h1,h2⟩:=h
 refine⟨h1,fun w imm vals hG hlt hsz hargs=>h2 w imm vals hG hlt (by rw[hsz,hz.length]) fun i x hx=>?_⟩
 obtain⟨y,hy,hyx⟩:=hz.get i x hx
 exact (hargs i y hy).nz hyx
theorem ab.pure {f:Nat}{args:List AV}{ps:List PV}{r:PV}{s:St}{K:AV->St->Prop}(h:ak P G f ps r)(he:pvs args=some ps)(hk:K (.pv r) s):ab P G f args s K:=
 ⟨s,args,WkC.refl s args,.inl ⟨ps,r,he,h,hk⟩⟩
theorem ab.pureN {f:Nat}{args:List AV}{qs ps:List PV}{r:PV}{s:St}{K:AV->St->Prop}(h:ak P G f ps r)(he:pvs args=some qs)(hz:NzL qs ps)(hk:K (.pv r) s):ab P G f args s K:=
 ab.pure (h.nz hz) he hk
theorem ab.lent {f:Nat}{args:List AV}{s:St}{K:AV->St->Prop}{Q:AV->List (Nat×Blk)->Nat->Prop}(h:cm P G f args s.sto s.next Q)(hk:∀ v sto' next',Q v sto' next'->K v ⟨s.env,sto',next'⟩):ab P G f args s K:=
 ⟨s,args,WkC.refl s args,.inr ⟨Q,h,hk⟩⟩
theorem M6.intro {body:(AExit->St->Prop)->St->Prop}{m0:Nat}{keep:List Nat}{Q:AExit->St->Prop}{s:St}(I:Nat->St->Prop)(n:Nat)(h0:I n (norm m0 keep s))(h:∀ n s,I n s->body (R3 m0 I n Q) s):M6 body m0 keep Q s:=
 ⟨I,⟨n,_,Wk.norm m0 keep s,h0⟩,h⟩
end
section
variable {P:Program}{G:Nat->List PV}
theorem bq {α:Type}{x:Option α}{k k':α->Prop}(h:∀ a,k a->k' a)(hx:aJ x k):aJ x k':=by
 cases x with
 | none=>exact hx
 | some a=>exact h a hx
theorem ab.mono {f:Nat}{args:List AV}{s:St}{K K':AV->St->Prop}(h:∀ v s,K v s->K' v s)(hA:ab P G f args s K):ab P G f args s K':=by
 obtain⟨s',args',hw,⟨ps,r,h1,h2,h3⟩ | ⟨Q,h1,h2⟩⟩:=hA
 ·exact⟨s',args',hw,.inl ⟨ps,r,h1,h2,h _ _ h3⟩⟩
 ·exact⟨s',args',hw,.inr ⟨Q,h1,fun v sto n hq=>h _ _ (h2 v sto n hq)⟩⟩
theorem Et {F F':St->Prop}(h:∀ s,F s->F' s){s:St}{d:Option Nat}{o:AOp}(hx:l9 P G F s d o):l9 P G F' s d o:=by
 cases o with
 | t o=>
   simp only[l9,iT] at hx ⊢
   split
   ·rename_i v hv
    rw[hv] at hx;exact h _ hx
   ·rename_i hv
    rw[hv] at hx
    exact⟨hx.1,fun b=>h _ (hx.2 b)⟩
 | m o=>exact bq (fun v hv=>h _ hv) hx
 | fz g x=>exact bq (fun v hv=>h _ hv) hx
 | call f xs=>exact bq (fun p hp=>ab.mono (fun v s hv=>h _ hv) hp) hx
theorem Ew {F F':St->Prop}(h:∀ s,F s->F' s){s:St}{d:Option Nat}{o:AOp}{b:Bool}(hx:KG P G F s d o b):KG P G F' s d o b:=by
 cases b with
 | true=>exact Et h hx
 | false=>exact h _ hx
theorem iG {F F':St->Prop}(h:∀ s,F s->F' s):∀ (l:List AOper) (s:St),dy P G l F s->dy P G l F' s
 | [],s,hx=>h s hx
 | o::r,s,hx=>bq (fun b hb=>Ew (fun s hs=>iG h r s hs) hb) hx
theorem tK {F F':List (List Nat×List Nat)->St->Prop}(h:∀ T s,F T s->F' T s){T:List (List Nat×List Nat)}{s:St}{d:Option Nat}{args:List AV}{p:Nat×List AV×List AV}(hx:jz P G F T s d args p):jz P G F' T s d args p:=by
 unfold jz Rg at hx ⊢
 rcases hx with ⟨ps,r,h1,h2,h3⟩ | ⟨v,δ,top,h1,h2,h3⟩
 ·exact .inl ⟨ps,r,h1,h2,h _ _ h3⟩
 ·exact .inr ⟨v,δ,top,h1,h2,h _ _ h3⟩
theorem yU {F F':List (List Nat×List Nat)->St->Prop}(h:∀ T s,F T s->F' T s){T:List (List Nat×List Nat)}{s:St}{d:Option Nat}{o:AOp}(hx:iv P G F T s d o):iv P G F' T s d o:=by
 cases o with
 | t o=>exact bq (fun v hv=>h _ _ hv) hx
 | m o=>exact bq (fun v hv=>h _ _ hv) hx
 | fz g x=>exact hx
 | call f xs=>exact bq (fun p hp=>tK h hp) hx
theorem ny {A:List (List Nat)}{F F':St->Prop}(h:∀ s,F s->F' s):∀ (l:List AOper) (T:List (List Nat×List Nat)) (s:St),vcD P G A F l T s->vcD P G A F' l T s
 | [],T,s,hx=>⟨hx.1,h s hx.2⟩
 | o::r,T,s,hx=>by
   refine bq (fun b hb=>?_) hx
   cases b with
   | true=>exact yU (fun T s hs=>ny h r T s hs) hb
   | false=>exact ny h r _ _ hb
theorem cq:∀ {m0:Nat} (c:ACode) {Q Q':AExit->St->Prop} (h:∀ e s,Q e s->Q' e s) (s:St),vc P G m0 c Q s->vc P G m0 c Q' s
 | m0,.skip,Q,Q',h,s,hx=>h _ _ hx
 | m0,.ops l keep,Q,Q',h,s,hx=>iG (fun s hs=>h _ _ hs) l s hx
 | m0,.draw A l l2 keep,Q,Q',h,s,hx=>ny (fun s hs=>iG (fun s hs=>h _ _ hs) l2 s hs) l [] s hx
 | m0,.seq a b,Q,Q',h,s,hx=>cq a (fun e s hs=>by
   cases e with
   | norm=>exact cq b h s hs
   | exit i=>exact h _ _ hs
   | ret=>exact h _ _ hs) s hx
 | m0,.cond x a b,Q,Q',h,s,hx=>by
   simp only[vc] at hx ⊢
   unfold pP at hx ⊢
   split at hx
   ·exact cq a h s hx
   ·exact cq b h s hx
   ·exact hx
 | m0,.block id b,Q,Q',h,s,hx=>cq b (fun e s hs=>by
   cases e with
   | norm=>exact h _ _ hs
   | exit i=>
     simp only[d9] at hs ⊢
     split at hs
     ·rename_i hi;rw[if_pos hi];exact h _ _ hs
     ·rename_i hi;rw[if_neg hi];exact h _ _ hs
   | ret=>exact h _ _ hs) s hx
 | m0,.loop keep b,Q,Q',h,s,hx=>by
   obtain⟨I,h0,h1⟩:=hx
   refine⟨I,h0,fun n s hs=>cq b (fun e s hs=>?_) s (h1 n s hs)⟩
   cases e with
   | norm=>exact hs
   | exit i=>
     obtain⟨s',hw,hq⟩:=hs
     exact⟨s',hw,h _ _ hq⟩
   | ret=>exact h _ _ hs
 | m0,.range f ps keep a b,Q,Q',h,s,hx=>by
   obtain⟨I,s0,h1,h2,h3⟩:=hx
   refine⟨I,s0,h1,h2,bq (fun p hp=>?_) h3⟩
   obtain⟨q1,lb,xs,q2,q3,q4,q5⟩:=hp
   refine⟨q1,lb,xs,q2,q3,fun i x s' hx hI=>?_,fun s' hI=>h _ _ (q5 s' hI)⟩
   obtain⟨r1,r2⟩:=q4 i x s' hx hI
   refine⟨r1,cq a (fun e s hs=>?_) _ r2⟩
   cases e with
   | norm=>
     refine cq b (fun e s hs=>?_) s hs
     cases e with
     | norm=>exact hs
     | exit i=>exact h _ _ hs
     | ret=>exact h _ _ hs
   | exit i=>exact hs.elim
   | ret=>exact hs.elim
 | m0,.exit id,Q,Q',h,s,hx=>h _ _ hx
 | m0,.ret,Q,Q',h,s,hx=>h _ _ hx
end
theorem cP {n:Int}(h1:-9223372036854775808<=n)(h2:n<=9223372036854775807):IntKind.i64.wrap n=n:=by
 show (if (true&&decide (n % 18446744073709551616>=9223372036854775808))=true then n % 18446744073709551616 - 18446744073709551616 else n % 18446744073709551616)=n
 simp only[Bool.true_and,decide_eq_true_eq]
 split<;>omega
theorem F1 {n:Int}(h1:-2147483648<=n)(h2:n<=2147483647):IntKind.i32.wrap n=n:=by
 show (if (true&&decide (n % 4294967296>=2147483648))=true then n % 4294967296 - 4294967296 else n % 4294967296)=n
 simp only[Bool.true_and,decide_eq_true_eq]
 split<;>omega
theorem j7 {n:Int}(h1:0<=n)(h2:n<=255):IntKind.u8.wrap n=n:=by
 show (if (false&&decide (n % 256>=128))=true then n % 256 - 256 else n % 256)=n
 simp only[Bool.false_and]
 simp;omega
theorem FZ {n:Int}(h1:0<=n)(h2:n<=18446744073709551615):IntKind.u64.wrap n=n:=by
 show (if (false&&decide (n % 18446744073709551616>=9223372036854775808))=true then n % 18446744073709551616 - 18446744073709551616 else n % 18446744073709551616)=n
 simp only[Bool.false_and]
 simp;omega
theorem F0 {n:Int}(h1:0<=n)(h2:n<=4294967295):IntKind.u32.wrap n=n:=by
 show (if (false&&decide (n % 4294967296>=2147483648))=true then n % 4294967296 - 4294967296 else n % 4294967296)=n
 simp only[Bool.false_and]
 simp;omega
theorem Tg {a b:Int}(h:a<b):decide (a<b)=true:=decide_eq_true h
theorem Th {a b:Int}(h:¬ a<b):decide (a<b)=false:=decide_eq_false h
theorem Ti {a b:Int}(h:a<=b):decide (a<=b)=true:=decide_eq_true h
theorem Tj {a b:Int}(h:¬ a<=b):decide (a<=b)=false:=decide_eq_false h
theorem Tk {a b:Int}(h:a=b):decide (a=b)=true:=decide_eq_true h
theorem Tl {a b:Int}(h:¬ a=b):decide (a=b)=false:=decide_eq_false h
def Chk (b:Bool):Prop:=b=true
theorem NU:Chk true:=_root_.id rfl
theorem Dj (i k:Nat)(x:AV)(r:List (Nat×AV)):look i ((k,x)::r)=if k=i then x else look i r:=_root_.id rfl
theorem Ir (i:Nat):look i [] = .any:=_root_.id rfl
theorem yg (i k:Nat)(x:Blk)(r:List (Nat×Blk)):lookB i ((k,x)::r)=if k=i then x else lookB i r:=_root_.id rfl
theorem Dk (i:Nat):lookB i [] = .none:=_root_.id rfl
def evE (e:List (Nat×AV)):AX->AV
 | .t i=>look i e
 | .c p=>.pv p
 | .m i tb=>OO tb (look i e)
theorem Ta (e:List (Nat×AV))(i:Nat)(tb:List (Nat×Nat)):evE e (.m i tb)=OO tb (look i e):=_root_.id rfl
theorem yc (tb:List (Nat×Nat))(T:Nat)(p:PV):OO tb (.pv (.iface T p))=Di p (lh T tb):=_root_.id rfl
theorem ye (t a b:Nat)(r:List (Nat×Nat)):lh t ((a,b)::r)=if a=t then some b else lh t r:=_root_.id rfl
theorem yd (p:PV)(f:Nat):Di p (some f) = .clo f [.pv p] []:=_root_.id rfl
theorem S9 (e:List (Nat×AV))(i:Nat):evE e (.t i)=look i e:=_root_.id rfl
theorem Tb (e:List (Nat×AV))(p:PV):evE e (.c p) = .pv p:=_root_.id rfl
def evO (e:List (Nat×AV)):Option AX->Option AV
 | some x=>some (evE e x)
 | none=>none
theorem Jg (e:List (Nat×AV))(x:AX):evO e (some x)=some (evE e x):=_root_.id rfl
theorem Jh (e:List (Nat×AV)):evO e none=none:=_root_.id rfl
def evL (e:List (Nat×AV)):List AX->List AV
 | []=>[]
 | x::r=>evE e x::evL e r
theorem NL (e:List (Nat×AV)):evL e []=[]:=_root_.id rfl
theorem Jj (e:List (Nat×AV))(x:AX)(r:List AX):evL e (x::r)=evE e x::evL e r:=_root_.id rfl
theorem jJ (e:List (Nat×AV))(σ:List (Nat×Blk))(n:Nat)(x:AX):x.ev (St.E ⟨e,σ,n⟩)=evE e x:=by cases x<;>rfl
theorem Ek (e:List (Nat×AV))(σ:List (Nat×Blk))(n:Nat):∀ (l:List AX),l.map (·.ev (St.E ⟨e,σ,n⟩))=evL e l
 | []=>rfl
 | x::r=>by rw[List.map_cons,Ek e σ n r,jJ];rfl
def evP (e:List (Nat×AV)):List (Nat×Nat×AX)->List (Nat×Nat×AV)
 | []=>[]
 | (a,b,x)::r=>(a,b,evE e x)::evP e r
theorem NK (e:List (Nat×AV)):evP e []=[]:=_root_.id rfl
theorem Jf (e:List (Nat×AV))(a b:Nat)(x:AX)(r:List (Nat×Nat×AX)):evP e ((a,b,x)::r)=(a,b,evE e x)::evP e r:=_root_.id rfl
def iD (e:List (Nat×AV)):TOp->Option AV
 | .mv x=>some (evE e x)
 | .pick c a b=>r8 (evE e c) (evE e a) (evE e b)
 | .build zs ps=>(gA (zs.map .pv) (evP e ps)).map jE
 | .faddr off x=>jl off (evE e x)
 | .field g sz off x=>kL g sz off (evE e x)
 | .iaddr sz x i=>gW sz (evE e x) (evE e i)
 | .iaddrA n sz x i=>iO n sz (evE e x) (evE e i)
 | .index x i=>gV (evE e x) (evE e i)
 | .indexA g n sz x i=>fi g n sz (evE e x) (evE e i)
 | .len st x=>FO st (evE e x)
 | .imin x y=>My (evE e x) (evE e y)
 | .imax x y=>Mz (evE e x) (evE e y)
 | .sliceL sz x lo hi=>ew sz (evE e x) (evO e lo) (evO e hi)
 | .sliceS x lo hi=>gv (evE e x) (evO e lo) (evO e hi)
 | .bin op x y=>dr op (evE e x) (evE e y)
 | .beq kd ng x y=>(sv kd (evE e x) (evE e y)).map fun b=>.pv (.bool (if ng then !b else b))
 | .neg x=>OM (evE e x)
 | .not x=>OL (evE e x)
 | .conv k x=>xb k (evE e x)
 | .convIS x=>iP (evE e x)
 | .clo f fs cs=>some (sT f (evL e fs) (evL e cs))
 | .ext x i=>MC i (evE e x)
 | .nilck x=>FN (evE e x)
theorem Ji (e:List (Nat×AV)):∀ (l:List AX),l.map (fun x=>evE e x)=evL e l
 | []=>rfl
 | x::r=>by rw[List.map_cons,Ji e r];rfl
theorem QG (e:List (Nat×AV))(l:Option AX):l.map (fun x=>evE e x)=evO e l:=by cases l<;>rfl
theorem QF (e:List (Nat×AV)):∀ (l:List (Nat×Nat×AX)),(l.map fun p=>(p.1,p.2.1,evE e p.2.2))=evP e l
 | []=>rfl
 | (a,b,x)::r=>by rw[List.map_cons,QF e r];rfl
theorem Bb (e:List (Nat×AV))(σ:List (Nat×Blk))(n:Nat)(o:TOp):o.run (St.E ⟨e,σ,n⟩)=iD e o:=by
 cases o<;>simp only[TOp.run,iD,jJ,Ji,QG,QF]
theorem Lx (e:List (Nat×AV))(x:AX):iD e (.mv x)=some (evE e x):=_root_.id rfl
theorem A8 (e:List (Nat×AV))(c a b:AX):iD e (.pick c a b)=r8 (evE e c) (evE e a) (evE e b):=_root_.id rfl
theorem wK (e:List (Nat×AV))(zs:List PV)(ps:List (Nat×Nat×AX)):iD e (.build zs ps)=(gA (zs.map .pv) (evP e ps)).map jE:=_root_.id rfl
theorem wJ (e:List (Nat×AV))(off:Nat)(x:AX):iD e (.faddr off x)=jl off (evE e x):=_root_.id rfl
theorem wI (e:List (Nat×AV))(g:Bool)(sz off:Nat)(x:AX):iD e (.field g sz off x)=kL g sz off (evE e x):=_root_.id rfl
theorem wH (e:List (Nat×AV))(sz:Nat)(x i:AX):iD e (.iaddr sz x i)=gW sz (evE e x) (evE e i):=_root_.id rfl
theorem rO (e:List (Nat×AV))(n sz:Nat)(x i:AX):iD e (.iaddrA n sz x i)=iO n sz (evE e x) (evE e i):=_root_.id rfl
theorem wG (e:List (Nat×AV))(x i:AX):iD e (.index x i)=gV (evE e x) (evE e i):=_root_.id rfl
theorem rN (e:List (Nat×AV))(g:Bool)(n sz:Nat)(x i:AX):iD e (.indexA g n sz x i)=fi g n sz (evE e x) (evE e i):=_root_.id rfl
theorem Gs (e:List (Nat×AV))(st:Bool)(x:AX):iD e (.len st x)=FO st (evE e x):=_root_.id rfl
theorem A9 (e:List (Nat×AV))(x y:AX):iD e (.imin x y)=My (evE e x) (evE e y):=_root_.id rfl
theorem Ba (e:List (Nat×AV))(x y:AX):iD e (.imax x y)=Mz (evE e x) (evE e y):=_root_.id rfl
theorem rM (e:List (Nat×AV))(sz:Nat)(x:AX)(lo hi:Option AX):iD e (.sliceL sz x lo hi)=ew sz (evE e x) (evO e lo) (evO e hi):=_root_.id rfl
theorem rL (e:List (Nat×AV))(x:AX)(lo hi:Option AX):iD e (.sliceS x lo hi)=gv (evE e x) (evO e lo) (evO e hi):=_root_.id rfl
theorem Gv (e:List (Nat×AV))(op:BinOp)(x y:AX):iD e (.bin op x y)=dr op (evE e x) (evE e y):=_root_.id rfl
def HB (ng:Bool):Option Bool->Option AV
 | some b=>some (.pv (.bool (if ng then !b else b)))
 | none=>none
theorem Gw (e:List (Nat×AV))(kd:Nat)(ng:Bool)(x y:AX):iD e (.beq kd ng x y)=HB ng (sv kd (evE e x) (evE e y)):=by
 simp only[iD];cases sv kd (evE e x) (evE e y)<;>rfl
theorem ME (b:Bool):HB true (some b)=some (.pv (.bool (!b))):=_root_.id rfl
theorem MF (b:Bool):HB false (some b)=some (.pv (.bool b)):=_root_.id rfl
theorem Gr (e:List (Nat×AV))(x:AX):iD e (.neg x)=OM (evE e x):=_root_.id rfl
theorem Gq (e:List (Nat×AV))(x:AX):iD e (.not x)=OL (evE e x):=_root_.id rfl
theorem Bc (e:List (Nat×AV))(k:IntKind)(x:AX):iD e (.conv k x)=xb k (evE e x):=_root_.id rfl
theorem rP (e:List (Nat×AV))(x:AX):iD e (.convIS x)=iP (evE e x):=_root_.id rfl
theorem sn (k:IntKind)(n:Int):iP (.pv (.int k n))=some (.pv (.str (Utf8.encode n).data.toList)):=_root_.id rfl
theorem Gu (e:List (Nat×AV))(f:Nat)(fs cs:List AX):iD e (.clo f fs cs)=some (sT f (evL e fs) (evL e cs)):=_root_.id rfl
theorem Gt (e:List (Nat×AV))(x:AX)(i:Nat):iD e (.ext x i)=MC i (evE e x):=_root_.id rfl
theorem wF (e:List (Nat×AV))(x:AX):iD e (.nilck x)=FN (evE e x):=_root_.id rfl
theorem Mu (x y:AV):r8 (.pv (.bool true)) x y=some x:=_root_.id rfl
theorem Mv (x y:AV):r8 (.pv (.bool false)) x y=some y:=_root_.id rfl
theorem w9 (off r o:Nat):jl off (.ptr r o)=some (.ptr r (o+off)):=_root_.id rfl
theorem sm (off:Nat)(l:List PV)(i o:Nat):jl off (.pv (.eptr l i o))=some (.pv (.eptr l i (o+off))):=_root_.id rfl
theorem sl (off g o:Nat):jl off (.pv (.gptr g o))=some (.pv (.gptr g (o+off))):=_root_.id rfl
theorem B2 (g:Bool)(sz off:Nat)(ps:List PV):kL g sz off (.pv (.agg ps))=cR g sz off (ps.map .pv):=_root_.id rfl
theorem B3 (g:Bool)(sz off:Nat)(ps:List AV):kL g sz off (.agg ps)=cR g sz off ps:=_root_.id rfl
def MK (sz off:Nat)(cs:List AV):Option AV:=if off+sz<=cs.length then some (jE ((cs.drop off).take sz)) else none
theorem Cy (sz off:Nat)(cs:List AV):cR true sz off cs=MK sz off cs:=_root_.id rfl
theorem ML (sz off:Nat)(cs:List AV):cR false sz off cs=cs[off]?:=_root_.id rfl
def dE (sz:Nat)(l:List PV)(i:Nat):Option PV->Option AV
 | some y=>if y.cells.length=sz then some (.pv (.eptr l i 0)) else none
 | none=>none
theorem pC (sz:Nat)(l:List PV)(i:Nat):eA sz l (i:Int)=dE sz l i l[i]?:=by
 unfold eA dE
 rw[if_pos (by omega)]
 simp only[Int.toNat_natCast]
 cases l[i]? <;> rfl
theorem az (sz:Nat)(l:List PV):eA sz l 0=dE sz l 0 l[0]?:=_root_.id rfl
theorem xa (sz:Nat)(l:List PV)(i:Nat):eA sz l ((i:Int)+1)=dE sz l (i+1) l[i+1]?:=pC sz l (i+1)
theorem B4 (sz:Nat)(l:List PV){n:Int}(h:0<=n):eA sz l n=dE sz l n.toNat l[n.toNat]?:=by
 unfold eA dE
 rw[if_pos h]
 cases l[n.toNat]? <;> rfl
theorem sk (sz:Nat)(l:List PV)(k:IntKind)(n:Int):gW sz (.pv (.list l)) (.pv (.int k n))=eA sz l n:=_root_.id rfl
theorem pA (sz r s:Nat)(l:List PV)(k:IntKind)(n:Int):gW sz (.olist r s l) (.pv (.int k n))=eA sz l n:=_root_.id rfl
theorem w8 (sz r off len:Nat)(k:IntKind){n:Int}(h:0<=n)(h':n.toNat<len):gW sz (.row r sz off len) (.pv (.int k n))=some (.ptr r (off+n.toNat*sz)):=by
 simp[gW,h,h']
theorem Hj (l:List UInt8):FO true (.pv (.str l))=some (.pv (.int .i64 l.length)):=_root_.id rfl
theorem BZ (l:List PV):FO false (.pv (.list l))=some (.pv (.int .i64 l.length)):=_root_.id rfl
theorem BY:FO false (.pv .nils)=some (.pv (.int .i64 0)):=_root_.id rfl
theorem wZ (r s:Nat)(l:List PV):FO false (.olist r s l)=some (.pv (.int .i64 l.length)):=_root_.id rfl
theorem Hk (r s o n:Nat):FO false (.row r s o n)=some (.pv (.int .i64 n)):=_root_.id rfl
theorem sq {d top:Nat}{k:IntKind}{n:Int}(h0:0<=n)(h1:n<=top):aZ d top (some (.pv (.int k n)))=some n.toNat:=by
 simp[aZ,h0,h1]
theorem sr {d top:Nat}:aZ d top none=some d:=_root_.id rfl
def Tu {α:Type}(l:List α)(f:List α->AV):Option Nat->Option Nat->Option AV
 | some h,some a=>some (f ((l.take h).drop a))
 | _,_=>none
theorem EL {α:Type}(l:List α)(f:List α->AV)(h a:Nat):Tu l f (some h) (some a)=some (f ((l.take h).drop a)):=_root_.id rfl
def TE (l:Nat)(lo:Option AV):Option Nat->Option Nat
 | some h=>aZ 0 h lo
 | none=>none
theorem Fd (l:Nat)(lo:Option AV)(h:Nat):TE l lo (some h)=aZ 0 h lo:=_root_.id rfl
theorem r7 (l:List UInt8)(lo hi:Option AV):gv (.pv (.str l)) lo hi=Tu l (fun x=>.pv (.str x)) (aZ l.length l.length hi) (TE l.length lo (aZ l.length l.length hi)):=by
 unfold gv Tu TE
 simp only
 split<;>rename_i h
 ·rw[h];simp only;cases aZ 0 _ lo<;>rfl
 ·rw[h]
theorem Hx (k:IntKind)(a b:Int):dr .add (.pv (.int k a)) (.pv (.int k b))=some (.pv (.int k (k.wrap (a+b)))):=by simp[dr,oK]
theorem Hm (k:IntKind)(a b:Int):dr .sub (.pv (.int k a)) (.pv (.int k b))=some (.pv (.int k (k.wrap (a - b)))):=by simp[dr,oK]
theorem Hq (k:IntKind)(a b:Int):dr .mul (.pv (.int k a)) (.pv (.int k b))=some (.pv (.int k (k.wrap (a*b)))):=by simp[dr,oK]
theorem Ho {k:IntKind}{a b:Int}(h:¬ b=0):dr .quo (.pv (.int k a)) (.pv (.int k b))=some (.pv (.int k (k.wrap (a.tdiv b)))):=by simp[dr,oK,h]
theorem Hn {k:IntKind}{a b:Int}(h:¬ b=0):dr .rem (.pv (.int k a)) (.pv (.int k b))=some (.pv (.int k (a.tmod b))):=by simp[dr,oK,h]
theorem Hw (k:IntKind)(a b:Int):dr .and (.pv (.int k a)) (.pv (.int k b))=some (.pv (.int k (bits .and k a b))):=by simp[dr,oK]
theorem MD (k:IntKind)(a b:Int):dr .or (.pv (.int k a)) (.pv (.int k b))=some (.pv (.int k (bits .or k a b))):=by simp[dr,oK]
theorem Hl (k:IntKind)(a b:Int):dr .xor (.pv (.int k a)) (.pv (.int k b))=some (.pv (.int k (bits .xor k a b))):=by simp[dr,oK]
theorem su (k:IntKind)(a b:Int):dr .andNot (.pv (.int k a)) (.pv (.int k b))=some (.pv (.int k (bits .andNot k a b))):=by simp[dr,oK]
theorem Hv (k:IntKind)(a b:Int):dr .eql (.pv (.int k a)) (.pv (.int k b))=some (.pv (.bool (decide (a=b)))):=by simp[dr,oK];rfl
theorem Hp (k:IntKind)(a b:Int):dr .neq (.pv (.int k a)) (.pv (.int k b))=some (.pv (.bool (!decide (a=b)))):=by simp[dr,oK];rfl
theorem Hr (k:IntKind)(a b:Int):dr .lss (.pv (.int k a)) (.pv (.int k b))=some (.pv (.bool (decide (a<b)))):=by simp[dr,oK]
theorem Hs (k:IntKind)(a b:Int):dr .leq (.pv (.int k a)) (.pv (.int k b))=some (.pv (.bool (decide (a<=b)))):=by simp[dr,oK]
theorem Ht (k:IntKind)(a b:Int):dr .gtr (.pv (.int k a)) (.pv (.int k b))=some (.pv (.bool (decide (b<a)))):=by simp[dr,oK]
theorem Hu (k:IntKind)(a b:Int):dr .geq (.pv (.int k a)) (.pv (.int k b))=some (.pv (.bool (decide (b<=a)))):=by simp[dr,oK]
theorem Cc {a b:List UInt8}(h:a.length+b.length<=9223372036854775807):dr .add (.pv (.str a)) (.pv (.str b))=some (.pv (.str (a++b))):=by
 have:a.length+b.length<=maxLen:=by unfold maxLen;omega
 simp[dr,OK,this]
theorem Cb (a b:List UInt8):dr .eql (.pv (.str a)) (.pv (.str b))=some (.pv (.bool (decide (a=b)))):=by
 simp[dr,OK];rw[Bool.eq_iff_iff];simp
theorem B6 (a b:List UInt8):dr .neq (.pv (.str a)) (.pv (.str b))=some (.pv (.bool (!decide (a=b)))):=by
 simp[dr,OK];rw[Bool.eq_iff_iff];simp
theorem B7 (a b:List UInt8):dr .lss (.pv (.str a)) (.pv (.str b))=some (.pv (.bool (bc a b))):=_root_.id rfl
theorem B8 (a b:List UInt8):dr .leq (.pv (.str a)) (.pv (.str b))=some (.pv (.bool (bc a b||a == b))):=_root_.id rfl
theorem B9 (a b:List UInt8):dr .gtr (.pv (.str a)) (.pv (.str b))=some (.pv (.bool (!(bc a b||a == b)))):=_root_.id rfl
theorem Ca (a b:List UInt8):dr .geq (.pv (.str a)) (.pv (.str b))=some (.pv (.bool (!(bc a b)))):=_root_.id rfl
theorem Ch (a b:Bool):sv 0 (.pv (.bool a)) (.pv (.bool b))=some (a == b):=_root_.id rfl
theorem Hz (r o:Nat):sv 1 (.ptr r o) (.pv .nilp)=some false:=_root_.id rfl
theorem Cf (l:List PV)(i o:Nat):sv 1 (.pv (.eptr l i o)) (.pv .nilp)=some false:=_root_.id rfl
theorem Ce:sv 1 (.pv .nilp) (.pv .nilp)=some true:=_root_.id rfl
theorem Cg (x:PV)(l:List PV):sv 2 (.pv (.list (x::l))) (.pv .nils)=some false:=_root_.id rfl
theorem xe (r s:Nat)(x:PV)(l:List PV):sv 2 (.olist r s (x::l)) (.pv .nils)=some false:=_root_.id rfl
theorem Hy {r s o n:Nat}(h:0<n):sv 2 (.row r s o n) (.pv .nils)=some false:=by
 cases n with
 | zero=>exact absurd h (Nat.lt_irrefl _)
 | succ n=>rfl
theorem Cd:sv 2 (.pv .nils) (.pv .nils)=some true:=_root_.id rfl
theorem Hg (k:IntKind)(n:Int):OM (.pv (.int k n))=some (.pv (.int k (k.wrap (0 - n)))):=_root_.id rfl
theorem BT (b:Bool):OL (.pv (.bool b))=some (.pv (.bool (!b))):=_root_.id rfl
theorem B5 (k k':IntKind)(n:Int):xb k (.pv (.int k' n))=some (.pv (.int k (k.wrap n))):=_root_.id rfl
theorem He (r o:Nat):FN (.ptr r o)=some (.ptr r o):=_root_.id rfl
theorem BW (l:List PV)(i o:Nat):FN (.pv (.eptr l i o))=some (.pv (.eptr l i o)):=_root_.id rfl
theorem BV (g o:Nat):FN (.pv (.gptr g o))=some (.pv (.gptr g o)):=_root_.id rfl
theorem BU (f:Nat)(a b:List PV):FN (.pv (.clo f a b))=some (.pv (.clo f a b)):=_root_.id rfl
theorem Hf (f:Nat)(a b:List AV):FN (.clo f a b)=some (.clo f a b):=_root_.id rfl
theorem MA (i:Nat)(ps:List PV):MC i (.pv (.tup ps))=(ps[i]?).map .pv:=_root_.id rfl
theorem MB (i:Nat)(ps:List AV):MC i (.tup ps)=ps[i]?:=_root_.id rfl
theorem CR {α β:Type}(f:α->β)(a:α):(some a).map f=some (f a):=_root_.id rfl
theorem xW:[].map AV.pv=[]:=_root_.id rfl
theorem sV (x:PV)(r:List PV):(x::r).map AV.pv = .pv x::r.map AV.pv:=_root_.id rfl
theorem UI {α:Type}(x:α)(r:List α):(x::r)[0]? = some x:=_root_.id rfl
theorem UH {α:Type}(x:α)(r:List α)(n:Nat):(x::r)[n+1]? = r[n]?:=_root_.id rfl
theorem MG:pvs []=some []:=_root_.id rfl
def R5:Option PV->Option (List PV)->Option (List PV)
 | some p,some ps=>some (p::ps)
 | _,_=>none
theorem Cl (p:PV)(ps:List PV):R5 (some p) (some ps)=some (p::ps):=_root_.id rfl
theorem Cm (x:Option (List PV)):R5 none x=none:=_root_.id rfl
theorem xm (x:Option PV):R5 x none=none:=by cases x<;>rfl
theorem nT (x:AV)(r:List AV):pvs (x::r)=R5 x.toPV (pvs r):=by
 show (match x.toPV,pvs r with | some p,some ps=>some (p::ps) | _,_=>none)=_
 cases x.toPV<;>cases pvs r<;>rfl
theorem pvs_map:∀ (ps:List PV),pvs (ps.map .pv)=some ps
 | []=>rfl
 | x::r=>by rw[List.map_cons,nT,pvs_map r];rfl
theorem Ls (p:PV):(AV.pv p).toPV=some p:=_root_.id rfl
theorem wy (r s:Nat)(l:List PV):(AV.olist r s l).toPV=some (.list l):=_root_.id rfl
theorem Gi (r o:Nat):(AV.ptr r o).toPV=none:=_root_.id rfl
theorem Gh (r s o n:Nat):(AV.row r s o n).toPV=none:=_root_.id rfl
theorem Gk (cs:List AV):(AV.agg cs).toPV=none:=_root_.id rfl
theorem Gg (cs:List AV):(AV.tup cs).toPV=none:=_root_.id rfl
theorem Gj (f:Nat)(a b:List AV):(AV.clo f a b).toPV=none:=_root_.id rfl
def C8 (cs:List AV):Option (List PV)->AV
 | some ps=>.pv (.agg ps)
 | none=>.agg cs
theorem C7 (cs:List AV):jE cs=C8 cs (pvs cs):=by unfold jE;cases pvs cs<;>rfl
theorem ld (cs:List AV)(ps:List PV):C8 cs (some ps) = .pv (.agg ps):=_root_.id rfl
theorem sU (cs:List AV):C8 cs none = .agg cs:=_root_.id rfl
def C5 (cs:List AV):Option (List PV)->AV
 | some ps=>.pv (.tup ps)
 | none=>.tup cs
theorem M3 (cs:List AV):p5 cs=C5 cs (pvs cs):=by unfold p5;cases pvs cs<;>rfl
theorem sO (cs:List AV)(ps:List PV):C5 cs (some ps) = .pv (.tup ps):=_root_.id rfl
theorem sP (cs:List AV):C5 cs none = .tup cs:=_root_.id rfl
def p7 (f:Nat)(fs cs:List AV):Option (List PV)->Option (List PV)->AV
 | some a,some b=>.pv (.clo f a b)
 | _,_=>.clo f fs cs
theorem M4 (f:Nat)(fs cs:List AV):sT f fs cs=p7 f fs cs (pvs fs) (pvs cs):=by unfold sT p7;cases pvs fs<;>cases pvs cs<;>rfl
theorem sQ (f:Nat)(fs cs:List AV)(a b:List PV):p7 f fs cs (some a) (some b) = .pv (.clo f a b):=_root_.id rfl
theorem sR (f:Nat)(fs cs:List AV)(a:Option (List PV)):p7 f fs cs a none = .clo f fs cs:=by cases a<;>rfl
theorem p6 (f:Nat)(fs cs:List AV)(a:Option (List PV)):p7 f fs cs none a = .clo f fs cs:=by cases a<;>rfl
theorem E0 (p:PV):(AV.pv p).cells=p.cells.map .pv:=_root_.id rfl
theorem zU (cs:List AV):(AV.agg cs).cells=cs:=_root_.id rfl
theorem zI (cs:List AV):(AV.tup cs).cells=[.tup cs]:=_root_.id rfl
theorem zO (r o:Nat):(AV.ptr r o).cells=[.ptr r o]:=_root_.id rfl
theorem zJ (r s o n:Nat):(AV.row r s o n).cells=[.row r s o n]:=_root_.id rfl
theorem qY (r s:Nat)(l:List PV):(AV.olist r s l).cells=[.olist r s l]:=_root_.id rfl
theorem zP (f:Nat)(a b:List AV):(AV.clo f a b).cells=[.clo f a b]:=_root_.id rfl
theorem ag (cs:List PV):(PV.agg cs).cells=cs:=_root_.id rfl
theorem zH (b:Bool):(PV.bool b).cells=[.bool b]:=_root_.id rfl
theorem EY (k:IntKind)(n:Int):(PV.int k n).cells=[.int k n]:=_root_.id rfl
theorem EW (s:List UInt8):(PV.str s).cells=[.str s]:=_root_.id rfl
theorem zy:PV.nils.cells=[.nils]:=_root_.id rfl
theorem zE (l:List PV):(PV.list l).cells=[.list l]:=_root_.id rfl
theorem zz:PV.nilp.cells=[.nilp]:=_root_.id rfl
theorem zD:PV.nilf.cells=[.nilf]:=_root_.id rfl
theorem EZ (f:Nat)(a b:List PV):(PV.clo f a b).cells=[.clo f a b]:=_root_.id rfl
theorem zG (l:List PV)(i o:Nat):(PV.eptr l i o).cells=[.eptr l i o]:=_root_.id rfl
theorem zF (g o:Nat):(PV.gptr g o).cells=[.gptr g o]:=_root_.id rfl
def Nb (g:Bool)(sz o:Nat):Blk->Option AV
 | .cells _ _ l=>cR g sz o l
 | _=>none
theorem tg (g:Bool)(sz o T:Nat)(f:Bool)(l:List AV):Nb g sz o (.cells T f l)=cR g sz o l:=_root_.id rfl
def M7 (g:Bool)(sz o:Nat):Option PV->Option AV
 | some e=>mm g sz o e
 | none=>none
theorem yh (g:Bool)(sz o:Nat)(e:PV):M7 g sz o (some e)=mm g sz o e:=_root_.id rfl
theorem BX (G:Nat->List PV)(g:Bool)(sz:Nat)(σ:au)(r o:Nat):ey G g sz σ (.ptr r o)=Nb g sz o (σ r):=by
 simp only[ey,Nb];cases σ r<;>rfl
theorem wY (G:Nat->List PV)(g:Bool)(sz:Nat)(σ:au)(l:List PV)(i o:Nat):ey G g sz σ (.pv (.eptr l i o))=M7 g sz o l[i]?:=by
 simp only[ey,M7];cases l[i]? <;> rfl
theorem wX (G:Nat->List PV)(g:Bool)(sz:Nat)(σ:au)(b o:Nat):ey G g sz σ (.pv (.gptr b o))=cR g sz o ((G b).map .pv):=_root_.id rfl
theorem Na (sz o:Nat)(e:PV):mm false sz o e=cR false sz o (e.cells.map .pv):=by simp[mm]
theorem M9 {sz o:Nat}{cs:List PV}(h:0<o):mm true sz o (.agg cs)=cR true sz o (cs.map .pv):=by
 simp[mm,PV.cells];omega
def mB (e:List (Nat×AV))(σ:List (Nat×Blk))(new:Nat):XOp->Option (AV×List (Nat×Blk))
 | .noesc x=>some (evE e x,[])
 | .ucast u n b x=>(fh u n b (fun r=>lookB r σ) (evE e x)).map fun v=>(v,[])
 | .peq ng x y=>(Mw ng (evE e x) (evE e y)).map fun v=>(v,[])
 | .apps t by_ x y=>mf t by_ new (fun r=>lookB r σ) (evE e x) (evE e y)
 | .sdata x=>(gU (evE e x)).map fun v=>(v,[])
 | .ustr t x k=>pu t (fun r=>lookB r σ) (evE e x) (evE e k)
 | .ofStr x=>kJ new (evE e x)
 | .fnil ng x y=>(pB ng (evE e x) (evE e y)).map fun v=>(v,[])
 | .inil ng x y=>(px ng (evE e x) (evE e y)).map fun v=>(v,[])
 | .idxb x y=>(sh (evE e x) (evE e y)).map fun v=>(v,[])
 | .same x=>BR (fun r=>lookB r σ) (evE e x)
theorem La (e:List (Nat×AV))(σ:List (Nat×Blk))(n new:Nat)(o:XOp):o.run new (St.E ⟨e,σ,n⟩) (St.σ ⟨e,σ,n⟩)=mB e σ new o:=by
 cases o<;>simp only[XOp.run,mB,jJ,Ji]<;>rfl
def n9 (G:Nat->List PV)(e:List (Nat×AV))(σ:List (Nat×Blk))(new:Nat):MOp->Option (AV×List (Nat×Blk))
 | .alloc T zs=>some (.ptr new 0,[(new,.cells T true (zs.map .pv))])
 | .box T x=>if (evE e x).known=true then some (.ptr new 0,[(new,.cells T true (evE e x).cells)]) else none
 | .cbox T x=>match (evE e x).toPV with
   | some p=>if p.cells.all PV.one=true then some (.pv (.eptr [p] 0 0),[(new,.none)]) else none
   | none=>none
 | .load g sz x=>(ey G g sz (fun r=>lookB r σ) (evE e x)).map fun v=>(v,[])
 | .store sz x v=>(gS sz (fun r=>lookB r σ) (evE e x) (evE e v)).map fun d=>(.pv .undef,d)
 | .toStr x=>(eL (fun r=>lookB r σ) (evE e x)).map fun v=>(v,[])
 | .xop o=>mB e σ new o
 | .bslice mu t sz len xs=>dn mu t sz len new (evL e xs)
 | .append mu t sz by_ x y=>dM mu t sz by_ new (fun r=>lookB r σ) (evE e x) (evE e y)
 | .mk mu t sz by_ zs x y=>rMk mu t sz by_ zs new (evE e x) (evE e y)
theorem De (G:Nat->List PV)(e:List (Nat×AV))(σ:List (Nat×Blk))(n new:Nat)(o:MOp):o.run G new (St.E ⟨e,σ,n⟩) (St.σ ⟨e,σ,n⟩)=n9 G e σ new o:=by
 cases o<;>first | (simp only[MOp.run,n9,jJ,Ji,QG]<;>rfl) | exact La e σ n new _
def gq (δ:List (Nat×Blk)):Option AV->Option (AV×List (Nat×Blk))
 | some v=>some (v,δ)
 | none=>none
theorem wp (δ:List (Nat×Blk))(v:AV):gq δ (some v)=some (v,δ):=_root_.id rfl
def Pc (v:AV):Option (List (Nat×Blk))->Option (AV×List (Nat×Blk))
 | some δ=>some (v,δ)
 | none=>none
theorem wo (δ:List (Nat×Blk))(v:AV):Pc v (some δ)=some (v,δ):=_root_.id rfl
theorem x8 (G:Nat->List PV)(e:List (Nat×AV))(σ:List (Nat×Blk))(new T:Nat)(zs:List PV):n9 G e σ new (.alloc T zs)=some (.ptr new 0,[(new,.cells T true (zs.map .pv))]):=_root_.id rfl
def Uw (new T:Nat)(v:AV):Bool->Option (AV×List (Nat×Blk))
 | true=>some (.ptr new 0,[(new,.cells T true v.cells)])
 | false=>none
theorem Rq (new T:Nat)(v:AV):Uw new T v true=some (.ptr new 0,[(new,.cells T true v.cells)]):=_root_.id rfl
theorem Io (G:Nat->List PV)(e:List (Nat×AV))(σ:List (Nat×Blk))(new T:Nat)(x:AX):n9 G e σ new (.box T x)=Uw new T (evE e x) (evE e x).known:=by
 simp only[n9];cases (evE e x).known<;>rfl
def N1 (new:Nat):Option PV->Option (AV×List (Nat×Blk))
 | some p=>if p.cells.all PV.one=true then some (.pv (.eptr [p] 0 0),[(new,.none)]) else none
 | none=>none
theorem zY (new:Nat)(p:PV):N1 new (some p)=if p.cells.all PV.one=true then some (.pv (.eptr [p] 0 0),[(new,.none)]) else none:=_root_.id rfl
theorem Df (G:Nat->List PV)(e:List (Nat×AV))(σ:List (Nat×Blk))(new T:Nat)(x:AX):n9 G e σ new (.cbox T x)=N1 new (evE e x).toPV:=by
 simp only[n9,N1]
theorem Ix (p:PV):(AV.pv p).known=true:=_root_.id rfl
theorem Dv (cs:List AV):(AV.agg cs).known=true:=_root_.id rfl
theorem Dq (cs:List AV):(AV.tup cs).known=true:=_root_.id rfl
theorem Dt (r o:Nat):(AV.ptr r o).known=true:=_root_.id rfl
theorem Dr (r s o n:Nat):(AV.row r s o n).known=true:=_root_.id rfl
theorem tj (r s:Nat)(l:List PV):(AV.olist r s l).known=true:=_root_.id rfl
theorem Du (f:Nat)(a b:List AV):(AV.clo f a b).known=true:=_root_.id rfl
theorem Dd (G:Nat->List PV)(e:List (Nat×AV))(σ:List (Nat×Blk))(new:Nat)(g:Bool)(sz:Nat)(x:AX):n9 G e σ new (.load g sz x)=gq [] (ey G g sz (fun r=>lookB r σ) (evE e x)):=by
 simp only[n9];cases ey G g sz (fun r=>lookB r σ) (evE e x)<;>rfl
theorem x7 (G:Nat->List PV)(e:List (Nat×AV))(σ:List (Nat×Blk))(new sz:Nat)(x v:AX):n9 G e σ new (.store sz x v)=Pc (.pv .undef) (gS sz (fun r=>lookB r σ) (evE e x) (evE e v)):=by
 simp only[n9];cases gS sz (fun r=>lookB r σ) (evE e x) (evE e v)<;>rfl
theorem s9 (G:Nat->List PV)(e:List (Nat×AV))(σ:List (Nat×Blk))(new:Nat)(mu:Bool)(t sz len:Nat)(xs:List AX):n9 G e σ new (.bslice mu t sz len xs)=dn mu t sz len new (evL e xs):=_root_.id rfl
theorem ta (G:Nat->List PV)(e:List (Nat×AV))(σ:List (Nat×Blk))(new:Nat)(mu:Bool)(t sz by_:Nat)(x y:AX):n9 G e σ new (.append mu t sz by_ x y)=dM mu t sz by_ new (fun r=>lookB r σ) (evE e x) (evE e y):=_root_.id rfl
theorem M5 (G:Nat->List PV)(e:List (Nat×AV))(σ:List (Nat×Blk))(new:Nat)(mu:Bool)(t sz by_:Nat)(zs:List PV)(x y:AX):n9 G e σ new (.mk mu t sz by_ zs x y)=rMk mu t sz by_ zs new (evE e x) (evE e y):=_root_.id rfl
theorem Mx {e sz by_:Nat}{zs:List PV}{new:Nat}{k k':IntKind}{c:Int}(h:0<=c)(h1:(by_:Int)*c<=281474976710656)(h2:c<=9223372036854775807):rMk false e sz by_ zs new (.pv (.int k 0)) (.pv (.int k' c))=some (.olist new sz [],[(new,.tok e sz)]):=by
 simp[rMk,h,h1,h2]
def ue (sz r o:Nat)(v:AV):Blk->Option (List (Nat×Blk))
 | .cells T f l=>if v.known=true/\v.cells.length=sz/\v.cells.all AV.one=true/\o+sz<=l.length then some [(r,.cells T f (l.take o++v.cells++l.drop (o+sz)))] else none
 | _=>none
theorem wU (sz:Nat)(σ:au)(r o:Nat)(v:AV):gS sz σ (.ptr r o) v=ue sz r o v (σ r):=by
 simp only[gS,ue];cases σ r<;>rfl
def Kf (r T:Nat)(f:Bool)(l:List AV)(sz o:Nat)(cs:List AV):Bool->Option (List (Nat×Blk))
 | true=>some [(r,.cells T f (l.take o++cs++l.drop (o+sz)))]
 | false=>none
theorem o8 (sz r o:Nat)(v:AV)(T:Nat)(f:Bool)(l:List AV):ue sz r o v (.cells T f l)=Kf r T f l sz o v.cells (v.known&&decide (v.cells.length=sz)&&v.cells.all AV.one&&decide (o+sz<=l.length)):=by
 simp only[ue]
 by_cases h:v.known=true/\v.cells.length=sz/\v.cells.all AV.one=true/\o+sz<=l.length
 ·rw[if_pos h]
  have:(v.known&&decide (v.cells.length=sz)&&v.cells.all AV.one&&decide (o+sz<=l.length))=true:=by simp only[Bool.and_eq_true,decide_eq_true_eq];exact⟨⟨⟨h.1,h.2.1⟩,h.2.2.1⟩,h.2.2.2⟩
  rw[this];rfl
 ·rw[if_neg h]
  have:(v.known&&decide (v.cells.length=sz)&&v.cells.all AV.one&&decide (o+sz<=l.length))=false:=by
   rw[Bool.eq_false_iff]
   intro hh
   simp only[Bool.and_eq_true,decide_eq_true_eq] at hh
   exact h ⟨hh.1.1.1,hh.1.1.2,hh.1.2,hh.2⟩
  rw[this];rfl
theorem Gz (r T:Nat)(f:Bool)(l:List AV)(sz o:Nat)(cs:List AV):Kf r T f l sz o cs true=some [(r,.cells T f (l.take o++cs++l.drop (o+sz)))]:=_root_.id rfl
theorem ff {n m by_:Nat}(h1:n+m<=9223372036854775807)(h2:(n+m)*by_<=140737488355328):oI n m by_=true:=by
 simp[oI,h1,h2]
theorem Ga (l:List (Nat×Blk)):l8 l []=l:=_root_.id rfl
theorem AY (l:List (Nat×Blk))(p:Nat×Blk)(r:List (Nat×Blk)):l8 l (p::r)=l8 (p::l) r:=_root_.id rfl
theorem Jr (f:Nat)(a b:List PV):dw (.pv (.clo f a b))=some (f,a.map .pv,b.map .pv):=_root_.id rfl
theorem Js (f:Nat)(a b:List AV):dw (.clo f a b)=some (f,a,b):=_root_.id rfl
theorem MQ {α:Type}(a:α)(k:α->Prop):aJ (some a) k=k a:=_root_.id rfl
section
variable {P:Program}{G:Nat->List PV}
theorem H8 (F:St->Prop)(e:List (Nat×AV))(σ:List (Nat×Blk))(n d:Nat)(v:AV):H9 F ⟨e,σ,n⟩ (some d) v=F ⟨(d,v)::e,σ,n⟩:=_root_.id rfl
theorem H7 (F:St->Prop)(e:List (Nat×AV))(σ:List (Nat×Blk))(n:Nat)(v:AV):H9 F ⟨e,σ,n⟩ none v=F ⟨e,σ,n⟩:=_root_.id rfl
theorem Ib (F:St->Prop)(e:List (Nat×AV))(σ:List (Nat×Blk))(n d:Nat)(v:AV)(δ:List (Nat×Blk)):xL F ⟨e,σ,n⟩ (some d) (v,δ)=F ⟨(d,v)::e,l8 σ δ,n+1⟩:=_root_.id rfl
theorem Ia (F:St->Prop)(e:List (Nat×AV))(σ:List (Nat×Blk))(n:Nat)(v:AV)(δ:List (Nat×Blk)):xL F ⟨e,σ,n⟩ none (v,δ)=F ⟨e,l8 σ δ,n+1⟩:=_root_.id rfl
theorem Ie (F:St->Prop)(e:List (Nat×AV))(σ:List (Nat×Blk))(n d:Nat)(v:AV):If F (some d) v ⟨e,σ,n⟩=F ⟨(d,v)::e,σ,n⟩:=_root_.id rfl
theorem Ic (F:St->Prop)(e:List (Nat×AV))(σ:List (Nat×Blk))(n:Nat)(v:AV):If F none v ⟨e,σ,n⟩=F ⟨e,σ,n⟩:=_root_.id rfl
theorem Jv (args:List AV)(s:St)(K:AV->St->Prop)(f:Nat)(a b:List AV):E2 P G args s K (f,a,b)=ab P G f (a++args++b) s K:=_root_.id rfl
theorem AJ (F:St->Prop)(s:St):dy P G [] F s=F s:=_root_.id rfl
theorem wu (d:Option Nat)(o:AOp)(r:List AOper)(F:St->Prop)(s:St):dy P G (⟨d,o,none⟩::r) F s=l9 P G (dy P G r F) s d o:=_root_.id rfl
def ke (b:Bool):AV->Option Bool
 | .pv (.bool x)=>some (x == b)
 | .pv .undef=>some false
 | _=>none
theorem AD (x:Bool):ke true (.pv (.bool x))=some x:=by cases x<;>rfl
theorem AE (x:Bool):ke false (.pv (.bool x))=some (!x):=by cases x<;>rfl
theorem AC (b:Bool):ke b (.pv .undef)=some false:=_root_.id rfl
theorem rF (d:Option Nat)(o:AOp)(i:Nat)(b:Bool)(r:List AOper)(F:St->Prop)(e:List (Nat×AV))(σ:List (Nat×Blk))(n:Nat) :
  dy P G (⟨d,o,some (i,b)⟩::r) F ⟨e,σ,n⟩=aJ (ke b (look i e)) (KG P G (dy P G r F) ⟨e,σ,n⟩ d o):=_root_.id rfl
theorem Ev (F:St->Prop)(s:St)(d:Option Nat)(o:AOp):KG P G F s d o true=l9 P G F s d o:=_root_.id rfl
theorem yX (F:St->Prop)(e:List (Nat×AV))(σ:List (Nat×Blk))(n:Nat)(d:Nat)(o:AOp):KG P G F ⟨e,σ,n⟩ (some d) o false=F ⟨(d,.pv .undef)::e,σ,n⟩:=_root_.id rfl
theorem tA (F:St->Prop)(s:St)(o:AOp):KG P G F s none o false=F s:=_root_.id rfl
def Qf (k:AV->Prop):AV->Prop
 | .pv (.list [])=>∀ b:Bool,k (.pv (.bool b))
 | _=>False
def nX (x:Option AV)(k:AV->Prop)(e:List (Nat×AV))(o:TOp):Prop:=
 match x with
 | some v=>k v
 | none=>match o with
   | .beq 2 _ y (.c .nils)=>Qf k (evE e y)
   | _=>False
theorem pL (v:AV)(k:AV->Prop)(e:List (Nat×AV))(o:TOp):nX (some v) k e o=k v:=_root_.id rfl
theorem pM (k:AV->Prop)(e:List (Nat×AV))(ng:Bool)(y:AX):nX none k e (.beq 2 ng y (.c .nils))=Qf k (evE e y):=_root_.id rfl
theorem H3 (k:AV->Prop):Qf k (.pv (.list [])) = ∀ b:Bool,k (.pv (.bool b)):=_root_.id rfl
theorem HA (ng:Bool):HB ng (sv 2 (.pv (.list [])) (.pv .nils))=none:=_root_.id rfl
theorem QM (F:St->Prop)(e:List (Nat×AV))(σ:List (Nat×Blk))(n:Nat)(d:Option Nat)(o:TOp):l9 P G F ⟨e,σ,n⟩ d (.t o)=nX (iD e o) (H9 F ⟨e,σ,n⟩ d) e o:=by
 rw[<- Bb e σ n]
 show iT (o.run (St.E ⟨e,σ,n⟩)) _ _=_
 cases hr:o.run (St.E ⟨e,σ,n⟩) with
 | some v=>rfl
 | none=>
   simp only[iT,nX]
   refine propext ⟨fun h=>?_,fun h=>?_⟩
   ·obtain⟨h1,h2⟩:=h
    unfold nilB at h1
    split at h1
    ·split at h1
     ·rename_i hev
      rw[jJ] at hev
      show Qf _ _
      rw[hev];exact h2
     ·cases h1
    ·cases h1
   ·split at h
    ·rename_i y
     unfold Qf at h
     split at h
     ·rename_i hev
      refine⟨?_,h⟩
      simp only[nilB]
      rw[jJ,hev]
     ·exact h.elim
    ·exact h.elim
theorem QN (F:St->Prop)(e:List (Nat×AV))(σ:List (Nat×Blk))(n:Nat)(d:Option Nat)(o:MOp):l9 P G F ⟨e,σ,n⟩ d (.m o)=aJ (n9 G e σ n o) (xL F ⟨e,σ,n⟩ d):=by
 rw[<- De G e σ n];rfl
theorem Eu (F:St->Prop)(e:List (Nat×AV))(σ:List (Nat×Blk))(n:Nat)(d:Option Nat)(f:AX)(xs:List AX):l9 P G F ⟨e,σ,n⟩ d (.call f xs)=aJ (dw (evE e f)) (E2 P G (evL e xs) ⟨e,σ,n⟩ (If F d)):=by
 rw[<- jJ e σ n,<- Ek e σ n];rfl
theorem GF (F:List (List Nat×List Nat)->St->Prop)(T:List (List Nat×List Nat))(e:List (Nat×AV))(σ:List (Nat×Blk))(n d:Nat)(v:AV):Bh F T ⟨e,σ,n⟩ (some d) v=F (T++[([],[])]) ⟨(d,v)::e,σ,n⟩:=_root_.id rfl
theorem GD (F:List (List Nat×List Nat)->St->Prop)(T:List (List Nat×List Nat))(e:List (Nat×AV))(σ:List (Nat×Blk))(n:Nat)(v:AV):Bh F T ⟨e,σ,n⟩ none v=F (T++[([],[])]) ⟨e,σ,n⟩:=_root_.id rfl
theorem GH (F:List (List Nat×List Nat)->St->Prop)(T:List (List Nat×List Nat))(e:List (Nat×AV))(σ:List (Nat×Blk))(n d k:Nat)(rd:List Nat)(v:AV)(δ:List (Nat×Blk)):stepM F T ⟨e,σ,n⟩ (some d) k rd (v,δ)=F (T++[eS k (aU δ) rd]) ⟨(d,v)::e,l8 σ δ,n+1⟩:=_root_.id rfl
theorem GG (F:List (List Nat×List Nat)->St->Prop)(T:List (List Nat×List Nat))(e:List (Nat×AV))(σ:List (Nat×Blk))(n k:Nat)(rd:List Nat)(v:AV)(δ:List (Nat×Blk)):stepM F T ⟨e,σ,n⟩ none k rd (v,δ)=F (T++[eS k (aU δ) rd]) ⟨e,l8 σ δ,n+1⟩:=_root_.id rfl
theorem ae {F:List (List Nat×List Nat)->St->Prop}{T:List (List Nat×List Nat)}{e:List (Nat×AV)}{σ:List (Nat×Blk)}{n d:Nat}{f:Nat}{a b args:List AV}{ps:List PV}{r:PV}(h:ak P G f ps r)(he:pvs (a++args++b)=some ps)
  (hk:F (T++[([],[])]) ⟨(d,.pv r)::e,σ,n⟩):jz P G F T ⟨e,σ,n⟩ (some d) args (f,a,b):=.inl ⟨ps,r,he,h,hk⟩
theorem tL {F:List (List Nat×List Nat)->St->Prop}{T:List (List Nat×List Nat)}{e:List (Nat×AV)}{σ:List (Nat×Blk)}{n d:Nat}{f:Nat}{a b args:List AV}{v:AV}{δ:List (Nat×Blk)}{top:Nat}(h:cm P G f (a++args++b) σ n (fun v' sto' n'=>v'=v/\sto'=l8 σ δ/\n'=top))(ht:n<=top)
  (hk:F (T++[eS 2 (aU δ) (σ.map (·.1))]) ⟨(d,v)::e,l8 σ δ,top⟩):jz P G F T ⟨e,σ,n⟩ (some d) args (f,a,b):=.inr ⟨v,δ,top,h,ht,hk⟩
theorem PL (ks rs:List Nat):eS 0 ks rs=(ks.map (· + 1),rs.map (· + 1)):=_root_.id rfl
theorem PK (ks rs:List Nat):eS 1 ks rs=(ks.map (· + 1),0::rs.map (· + 1)):=_root_.id rfl
theorem PJ (ks rs:List Nat):eS 2 ks rs=(0::ks.map (· + 1),rs.map (· + 1)):=_root_.id rfl
theorem sX (g:Bool)(sz:Nat)(x:AX):bw (.load g sz x)=0:=_root_.id rfl
theorem qp (sz:Nat)(x v:AX):bw (.store sz x v)=0:=_root_.id rfl
theorem qo (x:AX):bw (.toStr x)=0:=_root_.id rfl
theorem qu (T:Nat)(z:List PV):bw (.alloc T z)=1:=_root_.id rfl
theorem xY (T:Nat)(x:AX):bw (.box T x)=1:=_root_.id rfl
theorem s7 (T:Nat)(x:AX):bw (.cbox T x)=1:=_root_.id rfl
theorem n7 (m:Bool)(e s l:Nat)(x:List AX):bw (.bslice m e s l x)=1:=_root_.id rfl
theorem n8 (m:Bool)(e s l:Nat)(x y:AX):bw (.append m e s l x y)=1:=_root_.id rfl
theorem Dc (m:Bool)(e s l:Nat)(z:List PV)(x y:AX):bw (.mk m e s l z x y)=1:=_root_.id rfl
theorem Li {A:List (List Nat)}{F:St->Prop}{T:List (List Nat×List Nat)}{s:St}(h:Chk (okB A T)):vcD P G A F [] T s=F s:=by
 show (okB A T=true/\F s)=F s
 rw[eq_iff_iff]
 exact⟨fun x=>x.2,fun x=>⟨h,x⟩⟩
theorem F6 (A:List (List Nat))(F:St->Prop)(d:Option Nat)(o:AOp)(r:List AOper)(T:List (List Nat×List Nat))(s:St):vcD P G A F (⟨d,o,none⟩::r) T s=iv P G (vcD P G A F r) T s d o:=_root_.id rfl
theorem AK (A:List (List Nat))(F:St->Prop)(d:Option Nat)(o:AOp)(i:Nat)(b:Bool)(r:List AOper)(T:List (List Nat×List Nat))(e:List (Nat×AV))(σ:List (Nat×Blk))(n:Nat) :
  vcD P G A F (⟨d,o,some (i,b)⟩::r) T ⟨e,σ,n⟩=aJ (ke b (look i e)) (qR P G (vcD P G A F r) T ⟨e,σ,n⟩ d o):=_root_.id rfl
theorem yY (F:List (List Nat×List Nat)->St->Prop)(T:List (List Nat×List Nat))(s:St)(d:Option Nat)(o:AOp):qR P G F T s d o true=iv P G F T s d o:=_root_.id rfl
theorem tB (F:List (List Nat×List Nat)->St->Prop)(T:List (List Nat×List Nat))(e:List (Nat×AV))(σ:List (Nat×Blk))(n:Nat)(d:Nat)(o:AOp):qR P G F T ⟨e,σ,n⟩ (some d) o false=F (T++[([],[])]) ⟨(d,.pv .undef)::e,σ,n⟩:=_root_.id rfl
theorem qQ (F:List (List Nat×List Nat)->St->Prop)(T:List (List Nat×List Nat))(s:St)(o:AOp):qR P G F T s none o false=F (T++[([],[])]) s:=_root_.id rfl
theorem NQ (F:List (List Nat×List Nat)->St->Prop)(T:List (List Nat×List Nat))(e:List (Nat×AV))(σ:List (Nat×Blk))(n:Nat)(d:Option Nat)(o:TOp):iv P G F T ⟨e,σ,n⟩ d (.t o)=aJ (iD e o) (Bh F T ⟨e,σ,n⟩ d):=by
 rw[<- Bb e σ n];rfl
def e7 (e:List (Nat×AV)):XOp->List Nat
 | .ucast _ _ _ x | .apps _ _ x _ | .ustr _ x _ | .same x=>(evE e x).name
 | .noesc _ | .peq _ _ _ | .sdata _ | .ofStr _ | .fnil _ _ _ | .inil _ _ _ | .idxb _ _=>[]
def dY (e:List (Nat×AV)):MOp->List Nat
 | .xop o=>e7 e o
 | .load _ _ x | .toStr x=>(evE e x).name
 | .append _ _ _ _ x y=>(evE e x).name++(evE e y).name
 | .store _ x _=>(evE e x).name
 | .alloc _ _ | .box _ _ | .cbox _ _ | .bslice _ _ _ _ _ | .mk _ _ _ _ _ _ _=>[]
theorem Dg (e:List (Nat×AV))(mu:Bool)(t sz b:Nat)(zs:List PV)(x y:AX):dY e (.mk mu t sz b zs x y)=[]:=_root_.id rfl
theorem qv (e:List (Nat×AV))(x:AX):dY e (.toStr x)=(evE e x).name:=_root_.id rfl
theorem tc (e:List (Nat×AV))(g:Bool)(sz:Nat)(x:AX):dY e (.load g sz x)=(evE e x).name:=_root_.id rfl
theorem x9 (e:List (Nat×AV))(T:Nat)(x:AX):dY e (.box T x)=[]:=_root_.id rfl
theorem tf (e:List (Nat×AV))(T:Nat)(x:AX):dY e (.cbox T x)=[]:=_root_.id rfl
theorem qx (e:List (Nat×AV))(T:Nat)(x:List PV):dY e (.alloc T x)=[]:=_root_.id rfl
theorem qw (e:List (Nat×AV))(sz:Nat)(x v:AX):dY e (.store sz x v)=(evE e x).name:=_root_.id rfl
theorem ob (e:List (Nat×AV))(mu:Bool)(t sz b:Nat)(x y:AX):dY e (.append mu t sz b x y)=(evE e x).name++(evE e y).name:=_root_.id rfl
theorem oa (e:List (Nat×AV))(mu:Bool)(t sz b:Nat)(x:List AX):dY e (.bslice mu t sz b x)=[]:=_root_.id rfl
theorem M2 (p:PV):(AV.pv p).name=[]:=_root_.id rfl
theorem Ik (r o:Nat):(AV.ptr r o).name=[r]:=_root_.id rfl
theorem Ij (r s o n:Nat):(AV.row r s o n).name=[r]:=_root_.id rfl
theorem xQ (r s:Nat)(l:List PV):(AV.olist r s l).name=[r]:=_root_.id rfl
theorem Dz:aU ([]:List (Nat×Blk))=[]:=_root_.id rfl
theorem yq (r:Nat)(B:Blk)(q:List (Nat×Blk)):aU ((r,B)::q)=r::aU q:=_root_.id rfl
theorem NR (F:List (List Nat×List Nat)->St->Prop)(T:List (List Nat×List Nat))(e:List (Nat×AV))(σ:List (Nat×Blk))(n:Nat)(d:Option Nat)(o:MOp):iv P G F T ⟨e,σ,n⟩ d (.m o)=aJ (n9 G e σ n o) (stepM F T ⟨e,σ,n⟩ d (bw o) (dY e o)):=by
 have:dY e o=o.reads (St.E ⟨e,σ,n⟩):=by
  cases o<;>simp only[dY,MOp.reads,jJ]
  rename_i o
  cases o<;>simp only[e7,XOp.reads,jJ]
 rw[<- De G e σ n,this];rfl
theorem yW (F:List (List Nat×List Nat)->St->Prop)(T:List (List Nat×List Nat))(e:List (Nat×AV))(σ:List (Nat×Blk))(n:Nat)(d:Option Nat)(f:AX)(xs:List AX):iv P G F T ⟨e,σ,n⟩ d (.call f xs)=aJ (dw (evE e f)) (jz P G F T ⟨e,σ,n⟩ d (evL e xs)):=by
 rw[<- jJ e σ n,<- Ek e σ n];rfl
def zu (e:List (Nat×AV)):List Nat->List (Nat×AV)
 | []=>[]
 | k::r=>(k,look k e)::zu e r
theorem EN (e:List (Nat×AV)):zu e []=[]:=_root_.id rfl
theorem zr (e:List (Nat×AV))(k:Nat)(r:List Nat):zu e (k::r)=(k,look k e)::zu e r:=_root_.id rfl
theorem vJ (e:List (Nat×AV))(σ:List (Nat×Blk))(n:Nat):∀ (l:List Nat),l.map (fun i=>(i,St.E ⟨e,σ,n⟩ i))=zu e l
 | []=>rfl
 | k::r=>by rw[List.map_cons,vJ e σ n r];rfl
theorem EO (seen:List Nat):jy seen []=[]:=_root_.id rfl
theorem zw (seen:List Nat)(k:Nat)(b:Blk)(r:List (Nat×Blk)):jy seen ((k,b)::r)=zh k b (jy (k::seen) r) (uM k seen):=_root_.id rfl
theorem NS (k:Nat)(b:Blk)(r:List (Nat×Blk)):zh k b r true=r:=_root_.id rfl
theorem NT (k:Nat)(b:Blk)(r:List (Nat×Blk)):zh k b r false=(k,b)::r:=_root_.id rfl
theorem In (k:Nat):uM k []=false:=_root_.id rfl
theorem Qi (k j:Nat)(r:List Nat):uM k (j::r)=if j=k then true else uM k r:=_root_.id rfl
theorem H1 (Q:AExit->St->Prop)(keep:List Nat)(e:List (Nat×AV))(σ:List (Nat×Blk))(n:Nat):sH Q keep ⟨e,σ,n⟩=Q .norm ⟨zu e keep,jy [] σ,n⟩:=by
 rw[<- vJ e σ n];rfl
theorem Fy (F:St->Prop)(Q:AExit->St->Prop)(s:St):FA F Q .norm s=F s:=_root_.id rfl
theorem Fz (F:St->Prop)(Q:AExit->St->Prop)(i:Nat)(s:St):FA F Q (.exit i) s=Q (.exit i) s:=_root_.id rfl
theorem JZ (F:St->Prop)(Q:AExit->St->Prop)(s:St):FA F Q .ret s=Q .ret s:=_root_.id rfl
theorem tW (id:Nat)(Q:AExit->St->Prop)(s:St):d9 id Q .norm s=Q .norm s:=_root_.id rfl
theorem tX (id:Nat)(Q:AExit->St->Prop)(i:Nat)(s:St):d9 id Q (.exit i) s=if i=id then Q .norm s else Q (.exit i) s:=_root_.id rfl
theorem Al (id:Nat)(Q:AExit->St->Prop)(s:St):d9 id Q .ret s=Q .ret s:=_root_.id rfl
theorem Le (m0:Nat)(Q:AExit->St->Prop)(s:St):vc P G m0 .skip Q s=Q .norm s:=_root_.id rfl
theorem Pf (m0:Nat)(l:List AOper)(keep:List Nat)(Q:AExit->St->Prop)(s:St):vc P G m0 (.ops l keep) Q s=dy P G l (sH Q keep) s:=_root_.id rfl
theorem Lg (m0:Nat)(A:List (List Nat))(l l2:List AOper)(keep:List Nat)(Q:AExit->St->Prop)(s:St):vc P G m0 (.draw A l l2 keep) Q s=vcD P G A (dy P G l2 (sH Q keep)) l [] s:=_root_.id rfl
theorem NP (F:St->Prop)(e:List (Nat×AV))(σ:List (Nat×Blk))(n:Nat)(d:Option Nat)(g:Option (Bool×Nat))(x:AX):l9 P G F ⟨e,σ,n⟩ d (.fz g x)=aJ (KE G (fun r=>lookB r σ) g (evE e x)) (xL F ⟨e,σ,n⟩ d):=by
 rw[<- jJ e σ n];rfl
theorem Pd (m0:Nat)(a b:ACode)(Q:AExit->St->Prop)(s:St):vc P G m0 (.seq a b) Q s=vc P G m0 a (FA (vc P G m0 b Q) Q) s:=_root_.id rfl
theorem Lh (m0:Nat)(x:AX)(a b:ACode)(Q:AExit->St->Prop)(e:List (Nat×AV))(σ:List (Nat×Blk))(n:Nat):vc P G m0 (.cond x a b) Q ⟨e,σ,n⟩=pP (evE e x) (vc P G m0 a Q) (vc P G m0 b Q) ⟨e,σ,n⟩:=by
 rw[<- jJ e σ n];rfl
theorem F5 (m0 id:Nat)(b:ACode)(Q:AExit->St->Prop)(s:St):vc P G m0 (.block id b) Q s=vc P G m0 b (d9 id Q) s:=_root_.id rfl
theorem Lf (m0 id:Nat)(Q:AExit->St->Prop)(s:St):vc P G m0 (.exit id) Q s=Q (.exit id) s:=_root_.id rfl
theorem Pe (m0:Nat)(Q:AExit->St->Prop)(s:St):vc P G m0 .ret Q s=Q .ret s:=_root_.id rfl
theorem HY (b:Bool)(F H:St->Prop)(s:St):pP (.pv (.bool b)) F H s=ifB b F H s:=by cases b<;>rfl
theorem SW (F H:St->Prop)(s:St):ifB true F H s=F s:=_root_.id rfl
theorem SY (F H:St->Prop)(s:St):ifB false F H s=H s:=_root_.id rfl
def PR (G:Nat->List PV)(e:List (Nat×AV))(σ:List (Nat×Blk)):ARes->Option AV
 | .tmp t=>some (look t e)
 | .cell t g sz=>ey G g sz (fun r=>lookB r σ) (look t e)
theorem G0 (e:List (Nat×AV))(σ:List (Nat×Blk))(t:Nat):PR G e σ (.tmp t)=some (look t e):=_root_.id rfl
theorem BG (e:List (Nat×AV))(σ:List (Nat×Blk))(t:Nat)(g:Bool)(sz:Nat):PR G e σ (.cell t g sz)=ey G g sz (fun r=>lookB r σ) (look t e):=_root_.id rfl
theorem J4 (res:List ARes)(R:AV->List (Nat×Blk)->Nat->Prop)(s:St):FnK G res R .norm s=aJ (fg G s res) (Kn R s):=_root_.id rfl
theorem OD (res:List ARes)(R:AV->List (Nat×Blk)->Nat->Prop)(s:St):FnK G res R .ret s=aJ (fg G s res) (Kn R s):=_root_.id rfl
theorem L9 (R:AV->List (Nat×Blk)->Nat->Prop)(e:List (Nat×AV))(σ:List (Nat×Blk))(n:Nat)(l:List AV):Kn R ⟨e,σ,n⟩ l=R (An l) σ n:=_root_.id rfl
theorem PP (x:AV):An [x]=x:=_root_.id rfl
theorem PQ:An [] = .pv (.tup []):=_root_.id rfl
theorem PO (x y:AV)(r:List AV):An (x::y::r)=p5 (x::y::r):=_root_.id rfl
def Q2:Option AV->Option (List AV)->Option (List AV)
 | some a,some b=>some (a::b)
 | _,_=>none
theorem zj (a:AV)(b:List AV):Q2 (some a) (some b)=some (a::b):=_root_.id rfl
theorem BF (s:St):fg G s []=some []:=_root_.id rfl
theorem wP (e:List (Nat×AV))(σ:List (Nat×Blk))(n:Nat)(r:ARes)(q:List ARes):fg G ⟨e,σ,n⟩ (r::q)=Q2 (PR G e σ r) (fg G ⟨e,σ,n⟩ q):=by
 have:resV G ⟨e,σ,n⟩ r=PR G e σ r:=by cases r<;>rfl
 show (match resV G ⟨e,σ,n⟩ r,fg G ⟨e,σ,n⟩ q with | some a,some b=>some (a::b) | _,_=>none)=_
 rw[this]
 cases PR G e σ r<;>cases fg G ⟨e,σ,n⟩ q<;>rfl
theorem HF (r:PV)(v:AV)(σ:List (Nat×Blk))(n:Nat):PZ r v σ n=isR r σ v:=_root_.id rfl
theorem Qr (r p:PV)(σ:List (Nat×Blk)):isR r σ (.pv p)=Nz p r:=propext ⟨fun ⟨q,h,g⟩=>by cases h;exact g,fun h=>⟨(p,[]),rfl,h⟩⟩
theorem DE (r:PV)(k sz:Nat)(l:List PV)(σ:List (Nat×Blk)):isR r σ (.olist k sz l)=Nz (.list l) r:=propext ⟨fun ⟨q,h,g⟩=>by cases h;exact g,fun h=>⟨(.list l,[]),rfl,h⟩⟩
def Qt (r:PV):Option (PV×List Nat)->Prop
 | some q=>Nz q.1 r
 | none=>False
theorem DG (r p:PV)(l:List Nat):Qt r (some (p,l))=Nz p r:=_root_.id rfl
theorem DF (r:PV)(σ:List (Nat×Blk))(v:AV):isR r σ v=Qt r (tm (fun r=>lookB r σ) v):=by
 unfold isR Qt
 cases tm (fun r=>lookB r σ) v with
 | none=>simp
 | some q=>simp
theorem Nj (r:PV)(cs:List AV)(σ:List (Nat×Blk)):isR r σ (.agg cs)=Qt r ((FS (fun r=>lookB r σ) cs).map fun p=>(.agg p.1,p.2)):=DF _ _ _
theorem Ni (r:PV)(k sz len:Nat)(σ:List (Nat×Blk)):isR r σ (.row k sz 0 len)=Qt r (Nv sz len k (lookB k σ)):=DF _ _ _
def yw:List AV->Nat->List (Nat×AV)
 | [],_=>[]
 | x::r,k=>(k,x)::yw r (k+1)
theorem DK (k:Nat):yw [] k=[]:=_root_.id rfl
theorem yv (x:AV)(r:List AV)(k:Nat):yw (x::r) k=(k,x)::yw r (k+1):=_root_.id rfl
theorem DJ:∀ (args:List AV) (k:Nat),((args.zipIdx k).map fun p=>(p.2,p.1))=yw args k
 | [],k=>rfl
 | x::r,k=>by rw[List.zipIdx_cons,List.map_cons,DJ r (k+1)];rfl
theorem yu (args:List AV):du args=yw args 0:=DJ args 0
theorem Ss {ι:Type}(S:ι->St)(Inv:ι->Prop)(μ:ι->Nat)(x0:ι){m0:Nat}{keep:List Nat}{b:ACode}{Q:AExit->St->Prop}{s:St}(h0:Wk m0 s (S x0))(hi:Inv x0)
  (h:∀ x,Inv x->vc P G m0 b (fun e s'=>match e with
   | .norm=>∃ x',Wk m0 s' (S x')/\Inv x'/\μ x'<μ x
   | .exit i=>Q (.exit i) s'
   | .ret=>Q .ret s') (S x)):vc P G m0 (.loop keep b) Q s:=by
 refine⟨fun n s=>∃ x,s=S x/\Inv x/\μ x=n,⟨μ x0,S x0,h0,x0,rfl,hi,rfl⟩,?_⟩
 rintro n s ⟨x,rfl,hx,rfl⟩
 refine cq b (fun e s' hs=>?_) _ (h x hx)
 cases e with
 | norm=>
   obtain⟨x',h1,h2,h3⟩:=hs
   exact⟨_,_,h3,h1,x',rfl,h2,rfl⟩
 | exit i=>exact⟨s',Wk.of (Wx.refl s') m0,hs⟩
 | ret=>exact hs
def Hd (A:List (Nat×Nat×Nat×Nat))(m0:Nat)(keep:List Nat)(s t:St):Prop:=Wk m0 s t
theorem aK {A:List (Nat×Nat×Nat×Nat)}{m0:Nat}{keep:List Nat}{s t:St}(h:StZ (cC A m0 keep s) t):Hd A m0 keep s t:=Wk.head h
def nx {ι:Type}(A:List (Nat×Nat×Nat×Nat))(S:ι->St)(Inv:ι->Prop)(μ:ι->Nat)(x:ι)(m0:Nat)(keep:List Nat)(Q:AExit->St->Prop):AExit->St->Prop
 | .norm,s'=>∃ x',Hd A m0 keep s' (S x')/\Inv x'/\μ x'<μ x
 | .exit i,s'=>Q (.exit i) s'
 | .ret,s'=>Q .ret s'
theorem tU {ι:Type}(A:List (Nat×Nat×Nat×Nat))(S:ι->St)(Inv:ι->Prop)(μ:ι->Nat)(x:ι)(m0:Nat)(keep:List Nat)(Q:AExit->St->Prop)(s:St):nx A S Inv μ x m0 keep Q .norm s = ∃ x',Hd A m0 keep s (S x')/\Inv x'/\μ x'<μ x:=_root_.id rfl
theorem tV {ι:Type}(A:List (Nat×Nat×Nat×Nat))(S:ι->St)(Inv:ι->Prop)(μ:ι->Nat)(x:ι)(m0:Nat)(keep:List Nat)(Q:AExit->St->Prop)(i:Nat)(s:St):nx A S Inv μ x m0 keep Q (.exit i) s=Q (.exit i) s:=_root_.id rfl
theorem Ak {ι:Type}(A:List (Nat×Nat×Nat×Nat))(S:ι->St)(Inv:ι->Prop)(μ:ι->Nat)(x:ι)(m0:Nat)(keep:List Nat)(Q:AExit->St->Prop)(s:St):nx A S Inv μ x m0 keep Q .ret s=Q .ret s:=_root_.id rfl
theorem AI {ι:Type}(A:List (Nat×Nat×Nat×Nat))(S:ι->St)(Inv:ι->Prop)(μ:ι->Nat)(x0:ι){m0:Nat}{keep:List Nat}{b:ACode}{Q:AExit->St->Prop}{s:St}(h0:Hd A m0 keep s (S x0))(hi:Inv x0)
  (h:∀ x,Inv x->vc P G m0 b (nx A S Inv μ x m0 keep Q) (S x)):vc P G m0 (.loop keep b) Q s:=by
 refine Ss S Inv μ x0 h0 hi fun x hx=>?_
 have e:(fun (e:AExit) (s':St)=>match e with
   | .norm=>∃ x',Wk m0 s' (S x')/\Inv x'/\μ x'<μ x
   | .exit i=>Q (.exit i) s'
   | .ret=>Q .ret s')=nx A S Inv μ x m0 keep Q:=by
  funext e s'
  cases e<;>rfl
 rw[e];exact h x hx
def xu (k:Nat)(x:AV):List (Nat×AV)->AV
 | []=>x
 | p::r=>if p.1=k then p.2 else xu k x r
def dW:List (Nat×AV)->List (Nat×AV)->List (Nat×AV)
 | [],_=>[]
 | p::r,ch=>(p.1,xu p.1 p.2 ch)::dW r ch
def xw (k:Nat)(x:Blk):List (Nat×Blk)->Blk
 | []=>x
 | p::r=>if p.1=k then p.2 else xw k x r
def eU:List (Nat×Blk)->List (Nat×Blk)->List (Nat×Blk)
 | [],_=>[]
 | p::r,ch=>(p.1,xw p.1 p.2 ch)::eU r ch
theorem Cv (k:Nat)(x:AV):xu k x []=x:=_root_.id rfl
theorem xq (k j:Nat)(x y:AV)(r:List (Nat×AV)):xu k x ((j,y)::r)=if j=k then y else xu k x r:=_root_.id rfl
theorem CF (ch:List (Nat×AV)):dW [] ch=[]:=_root_.id rfl
theorem xz (k:Nat)(x:AV)(r ch:List (Nat×AV)):dW ((k,x)::r) ch=(k,xu k x ch)::dW r ch:=_root_.id rfl
theorem Cw (k:Nat)(x:Blk):xw k x []=x:=_root_.id rfl
theorem xv (k j:Nat)(x y:Blk)(r:List (Nat×Blk)):xw k x ((j,y)::r)=if j=k then y else xw k x r:=_root_.id rfl
theorem CG (ch:List (Nat×Blk)):eU [] ch=[]:=_root_.id rfl
theorem xA (k:Nat)(x:Blk)(r ch:List (Nat×Blk)):eU ((k,x)::r) ch=(k,xw k x ch)::eU r ch:=_root_.id rfl
theorem ap {ι:Type}(A:List (Nat×Nat×Nat×Nat))(ch:ι->List (Nat×AV))(chB:ι->List (Nat×Blk))(Inv:ι->Prop)(μ:ι->Nat)(x0:ι){m0:Nat}{keep:List Nat}{b:ACode}{Q:AExit->St->Prop}{s:St}
  (h:∀ e0 σ0 n0,cC A m0 keep s=⟨e0,σ0,n0⟩->StZ ⟨e0,σ0,n0⟩ ⟨dW e0 (ch x0),eU σ0 (chB x0),n0⟩/\Inv x0 /\
   ∀ x,Inv x->vc P G m0 b (nx A (fun x=>⟨dW e0 (ch x),eU σ0 (chB x),n0⟩) Inv μ x m0 keep Q) ⟨dW e0 (ch x),eU σ0 (chB x),n0⟩):vc P G m0 (.loop keep b) Q s:=by
 obtain⟨h1,h2,h3⟩:=h (cC A m0 keep s).env (cC A m0 keep s).sto (cC A m0 keep s).next rfl
 exact AI A (fun x=>⟨dW (cC A m0 keep s).env (ch x),eU (cC A m0 keep s).sto (chB x),(cC A m0 keep s).next⟩) Inv μ x0 (aK h1) h2 h3
end
end Go.Ab

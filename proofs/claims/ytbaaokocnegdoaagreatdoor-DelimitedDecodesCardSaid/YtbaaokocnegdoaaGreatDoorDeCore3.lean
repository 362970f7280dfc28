/- A program logic over the model: part 3 (a proof is built on it; nothing of the statement is said here). -/
import Derived.TacticsIn
import Derived.OrdersIn
import Derived.Orders
import Derived.RangeFuncSeq
import Derived.RangeFuncLeaves
import Derived.Test.YtbaaokocnegdoaaGreatDoorDeCore2
set_option linter.unusedVariables false
set_option linter.unusedSimpArgs false
namespace Go.Ab
open Go Go.RowKit
section
variable {P:Program}{c:Ctx}{κ0 κ:Kap}{N:Nat}{s:St}{a:Act}{w:World}{ro:Option Nat}{nf:Nat}
def FR (ro:Option Nat):Fence:={ Fence.wide with round:=ro }
theorem wh (ro:Option Nat):¬ (FR ro).depth.isSome=true:=by simp[FR,Fence.wide]
theorem N2 {f:Nat}{args:Array Value}{R:Ending->World->Prop}(h:Calls P f args w R):CallsIn (FR ro) nf P f args w R:=by
 have:=(callsIn_wide (n:=nf)).2 h
 cases ro with
 | none=>exact this
 | some l=>exact this
theorem ky {o:Oper}{ρ:Operand->Value}{x:Next}{w':World}(h:(execOp ρ o).run P w = .ok x w')(hx:∀ d,x≠.defer d):(o.semAt ro ρ).run P w = .ok x w':=by
 cases ro with
 | none=>rw[Oper.semAt_none];exact h
 | some l=>
   rw[Oper.semAt_some l ρ o]
   ·exact h
   ·intro c hc
    simp only[execOp,hc,Sem.run_bind] at h
    cases hr:(resolve ρ c o.type).run P w with
    | ok d w1=>rw[hr] at h;simp at h;exact hx _ h.1.symm
    | halt y w1=>rw[hr] at h;simp[Result.andThen] at h
theorem dX {o:Oper}{u:Value}{w':World}{K:Act->World->Prop}{Q:Exit->Act->World->Prop}(h:(execOp a.eval o).run P w = .ok (.value u) w')(hk:K (a.put o.dst u) w'):o.wpIn (FR ro) nf P a w K Q:=by
 refine⟨fun _ _=>trivial,?_⟩
 rw[show (FR ro).round=ro from rfl,ky h (by simp)];exact hk
theorem uF {o:Oper}{w':World}{K:Act->World->Prop}{Q:Exit->Act->World->Prop}(h:(execOp a.eval o).run P w = .ok .skip w')(hk:K (a.put o.dst Go.undef) w'):o.wpIn (FR ro) nf P a w K Q:=by
 refine⟨fun _ _=>trivial,?_⟩
 rw[show (FR ro).round=ro from rfl,ky h (by simp)];exact hk
theorem kU {o:Oper}{f:Nat}{args:Array Value}{w':World}{K:Act->World->Prop}{Q:Exit->Act->World->Prop}(h:(execOp a.eval o).run P w = .ok (.enter f args) w')
  (hk:Calls P f args w' fun
   | .returned v,w''=>K (a.put o.dst v) w''
   | .panicked chain,w''=>Q (.panic chain) a w''
   | .outgrown,_=>LetsOut Q):o.wpIn (FR ro) nf P a w K Q:=by
 refine⟨fun _ _=>trivial,?_⟩
 rw[show (FR ro).round=ro from rfl,ky h (by simp)]
 exact⟨fun h=>absurd h (wh ro),N2 hk⟩
theorem Rel.pureCall (h:Rel c κ0 N s a w κ){w':World}{imm':Nat->Nat->Prop}(hb:Below w.heap.size w w')(h1:∀ b o,κ.imm b o->imm' b o)(h2:∀ b o,imm' b o->κ.imm b o\/w.heap.size<=b)(h3:∀ b o,imm' b o->b<w'.heap.size) :
  Rel c κ0 N s a w' ⟨w',κ.nm,imm'⟩:=by
 have hw:=h.w_eq
 subst hw
 have he:Ext κ ⟨w',κ.nm,imm'⟩:=by
  refine⟨h1,fun b o v hi hc=>?_,fun _ _ h=>h,fun b o ho _=>(hb.block b (Array.getElem?_eq_some_iff.1 ho).1).trans ho⟩
  have hl:=World.block_lt_of_cell? κ.w _ hc
  exact (World.cell?_of_block (a:=⟨b,o,none⟩) (hb.block b hl)).trans hc
 have hS:=h.rel
 have hL:=h.left
 refine⟨rfl,h.ext0.trans he,⟨fun r=>?_,hS.apart,hS.mine,h3,SRel.glob_ext he hS.glob fun g h1 _=>hb.block g (Nat.lt_of_lt_of_le h1 hL.size)⟩,⟨hb.os.trans hL.os,hb.tape.trans hL.tape,hb.output.trans hL.output,Nat.le_trans hL.size hb.size,fun b hlt hl=>?_,fun b o hi=>?_⟩,fun i=>(h.env i).ext he,h.size,h.defers.ext he,h.fresh⟩
 ·refine (hS.blk r).keep he fun hz d b hd hbk=>?_
  have hl:=(hS.blk r).lt hz hd hbk
  exact⟨hb.block b hl,fun o ho=>(h2 b o ho).elim id (fun h=>by omega)⟩
 ·exact (hb.block b (Nat.lt_of_lt_of_le hlt hL.size)).trans (hL.block b hlt hl)
 ·rcases h2 b o hi with h | h
  ·exact hL.imm b o h
  ·exact .inr (.inl (Nat.le_trans hL.size h))
theorem Rel.lentCall (h:Rel c κ0 N s a w κ){κ':Kap}{sto':List (Nat×Blk)}{next':Nat}(he:Ext κ κ')(hL:Left (cl κ s.σ c.G) κ.imm κ')(hS:SRel (cl κ s.σ c.G) κ' (fun r=>lookB r sto'))(hf:∀ r,next'<=r->κ'.nm r=none) :
  Rel c κ0 N ⟨s.env,sto',next'⟩ a κ'.w κ':=by
 have hl0:=h.left
 have hlm:∀ b,(cl κ s.σ c.G).lent b->c.mine b:=fun b ⟨r,d,h1,h2,h3⟩=>h.rel.mine r d b h1 h2 h3
 have hmine:∀ b,(cl κ s.σ c.G).mine b->c.mine b:=by
  intro b hb
  rcases hb with hb | ⟨r,d,h1,h2,h3⟩
  ·exact .inl (Nat.le_trans hl0.size hb)
  ·exact h.rel.mine r d b h1 h2 h3
 refine⟨rfl,h.ext0.trans he,⟨hS.blk,hS.apart,fun r d b h1 h2 h3=>hmine b (hS.mine r d b h1 h2 h3),hS.immLt,h.rel.glob.back hlm hS.glob hL.block⟩,⟨hL.os.trans hl0.os,hL.tape.trans hl0.tape,hL.output.trans hl0.output,Nat.le_trans hl0.size hL.size,fun b hlt hl=>?_,fun b o hi=>?_⟩,fun i=>(h.env i).ext he,h.size,h.defers.ext he,hf⟩
 ·refine (hL.block b (Nat.lt_of_lt_of_le hlt hl0.size) ?_).trans (hl0.block b hlt hl)
  rintro⟨r,d,h1,h2,h3⟩
  rcases h.rel.mine r d b h1 h2 h3 with h4 | h4
  ·omega
  ·exact hl h4
 ·rcases hL.imm b o hi with h1 | h1
  ·exact hl0.imm b o h1
  ·exact .inr (hmine b h1)
theorem tP {f:Nat}{args:List AV}{vals:Array Value}{K:AV->St->Prop}(h:Rel c κ0 N s a w κ)(hA:ab P c.G f args s K)(hsz:vals.size=args.length)(hargs:∀ (i:Nat) (x:AV),args[i]? = some x->ARel κ x (vals.getD i Go.undef)) :
  bS P f=true/\Calls P f vals w fun e w'=>∃ u v s' κ',e = .returned u/\Rel c κ0 N s' a w' κ'/\ARel κ' v u/\K v s':=by
 obtain⟨s1,args1,⟨hlen1,henv1,hW⟩,hA⟩:=hA
 obtain⟨κ,h,hargs⟩:=hW c κ0 κ N a w vals h hargs
 rw[<- hlen1] at hsz
 rw[<- henv1] at hA
 clear hW hlen1 henv1
 have hw:=h.w_eq
 rcases hA with ⟨ps,r,hps,⟨hcal,hP⟩,hK⟩ | ⟨Q,⟨hcal,hT⟩,hK⟩
 ·refine⟨hcal,?_⟩
  subst hw
  refine (hP κ.w κ.imm vals h.rel.glob.ok h.rel.immLt (hsz.trans (bU hps).symm) fun i x hx=>?_).mono ?_
  ·obtain⟨y,hy,hp⟩:=cw hps i x hx
   exact bQ hp (hargs i y hy)
  ·rintro e w' ⟨u,imm',rfl,hb,h1,h2,h3,h4⟩
   exact⟨u,.pv r,s1,_,rfl,h.pureCall hb h1 h2 h3,.pv _ _ h4,hK⟩
 ·refine⟨hcal,?_⟩
  subst hw
  refine (hT κ vals ?_ h.fresh hsz hargs).mono ?_
  ·have hS:=h.rel
   exact⟨hS.blk,hS.apart,fun r d b h1 h2 h3=>.inr ⟨r,d,h1,h2,h3⟩,hS.immLt,hS.glob.lend fun b ⟨r,d,h1,h2,h3⟩=>hS.mine r d b h1 h2 h3⟩
  ·rintro e w' ⟨u,v,κ',sto',next',rfl,rfl,he,hL,hv,hS,hf,hQ⟩
   exact⟨u,v,_,κ',rfl,h.lentCall he hL hS hf,hv,hK v sto' next' hQ⟩
theorem fb {ops:Array Oper}{o:Oper}{g:Option (Nat×Bool)}{b:Bool}(hg:E5 ops o.guard=some g)(henv:∀ i,ARel κ (s.E i) (a.tmps.getD i Go.undef))(hw:bT s g=some b):Region.wanted o (yielded ops a.tmps)=b:=by
 unfold E5 at hg
 unfold Region.wanted
 split at hg
 ·rename_i hgu
  cases hg
  simp[bT] at hw
  simp[hgu,hw]
 ·rename_i j want hgu
  split at hg
  ·rename_i d hd
   cases hg
   rw[hgu]
   simp only
   have hy:yielded ops a.tmps j=match (a.tmps[d]?) with | some (.bool b)=>some b | _=>none:=by
    simp only[yielded,hd,Option.bind_some]
    cases a.tmps[d]? with
    | none=>rfl
    | some v=>cases v<;>rfl
   rw[hy]
   have he:=henv d
   simp only[bT] at hw
   split at hw
   ·rename_i x hx
    cases hw
    rw[hx] at he
    have:=de he
    have hlt:d<a.tmps.size:=by
     rcases Nat.lt_or_ge d a.tmps.size with h | h
     ·exact h
     ·rw[Array.getD_eq_getD_getElem?,Array.getElem?_eq_none h] at this
      cases this
    rw[Array.getD_eq_getD_getElem?,Array.getElem?_eq_getElem hlt] at this
    simp only[Option.getD_some] at this
    rw[Array.getElem?_eq_getElem hlt,this]
    cases x<;>cases want<;>rfl
   ·rename_i hx
    cases hw
    rw[hx] at he
    have hu:a.tmps.getD d Go.undef = .tuple #[]:=by
     generalize a.tmps.getD d Go.undef=u at he
     cases aH he;rfl
    rcases Nat.lt_or_ge d a.tmps.size with hlt | hge
    ·rw[Array.getD_eq_getD_getElem?,Array.getElem?_eq_getElem hlt] at hu
     simp only[Option.getD_some] at hu
     rw[Array.getElem?_eq_getElem hlt,hu]
     rfl
    ·rw[Array.getElem?_eq_none hge];rfl
   ·cases hw
  ·cases hg
theorem fC {f:Nat}{vals:Array Value}(h:bS P f=true):(callFunc f vals).run P w = .ok (.enter f vals) w:=by
 unfold bS at h
 split at h
 ·rename_i fn hfn
  simp only[Bool.and_eq_true,Bool.not_eq_true',beq_eq_false_iff_ne] at h
  obtain⟨b,hb⟩:=Option.isSome_iff_exists.1 h.1
  simp[callFunc,hfn,h.2,hb]
 ·cases h
theorem EM {x:AV}{u:Value}{p:Nat×List AV×List AV}(hx:ARel κ x u)(h:dw x=some p):∃ vs us:Array Value,u = .func (.func p.1) vs us/\vs.size=p.2.1.length/\us.size=p.2.2.length /\
  (∀ (i:Nat) (x:AV),p.2.1[i]? = some x->ARel κ x (vs.getD i Go.undef))/\∀ (i:Nat) (x:AV),p.2.2[i]? = some x->ARel κ x (us.getD i Go.undef):=by
 unfold dw at h
 split at h
 ·cases h
  cases aH hx with
  | clo _ _ _ vs us h1 h2 h3 h4=>
    refine⟨vs,us,rfl,by simpa using h1,by simpa using h3,fun i x hx=>?_,fun i x hx=>?_⟩
    ·simp only[List.getElem?_map,Option.map_eq_some_iff] at hx
     obtain⟨q,hq,rfl⟩:=hx
     exact .pv _ _ (h2 i q hq)
    ·simp only[List.getElem?_map,Option.map_eq_some_iff] at hx
     obtain⟨q,hq,rfl⟩:=hx
     exact .pv _ _ (h4 i q hq)
 ·cases h
  cases hx with
  | clo _ _ _ vs us h1 h2 h3 h4=>exact⟨vs,us,rfl,h1,h3,h2,h4⟩
 ·cases h
theorem cz {l k:List AV}{xs zs:Array Value}(hl:xs.size=l.length)(h:∀ (i:Nat) (x:AV),l[i]? = some x->ARel κ x (xs.getD i Go.undef))(g:∀ (i:Nat) (x:AV),k[i]? = some x->ARel κ x (zs.getD i Go.undef)) :
  ∀ (i:Nat) (x:AV),(l++k)[i]? = some x->ARel κ x ((xs++zs).getD i Go.undef):=by
 have:=iM (κ:=κ) (l:=l) (k:=k) (xs:=xs.toList) (zs:=zs.toList) (by simpa using hl.symm) (by simpa[aC] using h) (by simpa[aC] using g)
 intro i x hx
 rw[aC];simpa using this i x hx
theorem Iq {tb:List (Nat×Nat)}{x:AV}{p:Nat×List AV×List AV}(h:dw (OO tb x)=some p):∃ T q f,x = .pv (.iface T q)/\lh T tb=some f/\p=(f,[.pv q],[]):=by
 unfold OO at h
 split at h
 ·rename_i T q
  cases hl:lh T tb with
  | none=>rw[hl] at h;simp[Di,dw] at h
  | some f=>
    rw[hl] at h
    simp only[Di,dw,Option.some.injEq] at h
    exact⟨T,q,f,rfl,hl,h.symm⟩
 ·simp[dw] at h
theorem vR {E:Nat->AV}{o:Oper}{af:AX}{xs:List AX}{p:Nat×List AV×List AV}(hc:K9 P o.op af xs)(hE:∀ i,ARel κ (E i) (a.tmps.getD i Go.undef))(hp:dw (af.ev E)=some p) :
  ∃ (vs us:Array Value) (args:Array Operand),vs.size=p.2.1.length/\us.size=p.2.2.length/\(∀ (i:Nat) (x:AV),p.2.1[i]? = some x->ARel κ x (vs.getD i Go.undef))/\(∀ (i:Nat) (x:AV),p.2.2[i]? = some x->ARel κ x (us.getD i Go.undef)) /\
    cXs args.toList=some xs/\(bS P p.1=true->∀ w,(execOp a.eval o).run P w = .ok (.enter p.1 (vs++args.map a.eval++us)) w):=by
 rcases hc with ⟨f,args,ts,hop,hf,hxs⟩ | ⟨r,m,args,ts,hop,rfl,hxs⟩
 ·obtain⟨vs,us,hfu,hvs,hus,hv1,hu1⟩:=EM (aA (κ:=κ) (E:=E) (a:=a) hf (fun i _=>hE i)) hp
  refine⟨vs,us,args,hvs,hus,hv1,hu1,hxs,fun hcal w=>?_⟩
  simp[execOp,hop,resolve,hfu,Deferred.ofValue,invoke,fC hcal]
 ·simp only[AX.ev] at hp
  obtain⟨T,q,f,hx,hl,rfl⟩:=Iq hp
  have hr:=hE r
  rw[hx] at hr
  generalize hu:a.tmps.getD r Go.undef=u at hr
  cases aH hr with
  | iface _ _ v hv=>
  refine⟨#[v],#[],args,rfl,rfl,fun i x hx=>?_,fun i x hx=>by simp at hx,hxs,fun hcal w=>?_⟩
  ·cases i with
   | zero=>simp at hx;subst hx;simpa using ARel.pv _ _ hv
   | succ i=>simp at hx
  ·have h0:(#[a.eval (.tmp r)]++args.map a.eval)[0]? = some (.iface T v):=by
    rw[Array.getElem?_append_left (by simp)]
    simp[Act.eval,hu]
   have hfu:P.types.size+Made.depth=(P.types.size+99)+1:=rfl
   simp[execOp,hop,resolve,invoke,h0,callMethod,hfu,xV hl,fC hcal]
   rw[show args.size=(args.map a.eval).size by simp,Array.extract_size]
theorem NM {w:World}(d:Nat){t e:TypeId}(hu:P.underlying t=some (.slice e))(A:Option Addr)(n c:Nat):(Op.equalIn (d+1) t (.slice A n c) (.slice none 0 0)).run P w = .ok A.isNone w:=by
 cases A<;>simp[Op.equalIn,run_underlying hu]
theorem Rh {op:Op}{kd:Nat}{ng:Bool}{ax ay:AX}(h:cT P op=some (.beq kd ng ax ay)):∃ bo t x y z,op = .binOp bo t x y z/\cG P t=some kd/\((bo = .eql/\ng=false)\/(bo = .neq/\ng=true))/\cX x=some ax/\cX y=some ay:=by
 cases op with
 | binOp bo t x y z=>
   simp only[cT] at h
   split at h
   ·obtain⟨ax',ay',hx,hy,he⟩:=d6 h
    cases he
    exact⟨_,_,_,_,_,rfl,‹_›,.inl ⟨rfl,rfl⟩,hx,hy⟩
   ·obtain⟨ax',ay',hx,hy,he⟩:=d6 h
    cases he
    exact⟨_,_,_,_,_,rfl,‹_›,.inr ⟨rfl,rfl⟩,hx,hy⟩
   ·exfalso
    revert h
    (repeat' split)<;>(intro h;obtain⟨_,_,_,_,he⟩:=d6 h;cases he)
 | _=>
   exfalso
   unfold cT at h
   revert h
   (repeat' split)<;>(intro h;first
    | (cases h;done)
    | (obtain⟨_,_,he⟩:=d7 h;cases he;done)
    | (obtain⟨_,_,_,_,he⟩:=d6 h;cases he;done)
    | (obtain⟨_,_,_,_,_,_,he⟩:=E7 h;cases he;done)
    | (cases ‹_=Op.binOp _ _ _ _ _›;done)
    | (simp at h;done))
theorem N3 {x:Operand}(h:cX x=some (.c .nils))(a:Act):a.eval x = .slice none 0 0:=by
 cases x with
 | tmp t=>simp[cX] at h
 | const v=>
   simp only[cX,Option.map_eq_some_iff] at h
   obtain⟨p,hp,he⟩:=h
   cases he
   have:=q8 (w:=default) (imm:=fun _ _=>False) hp
   cases this;rfl
 | global g=>simp[cX] at h
 | func f=>simp[cX] at h
theorem H6 {E:Nat->AV}{o:Oper}{op:TOp}(hc:cT P o.op=some op)(hE:∀ i,i∈op.slots->ARel κ (E i) (a.tmps.getD i Go.undef))(hn:nilB E op=true) :
  ∃ b,(execOp a.eval o).run P κ.w = .ok (.value (.bool b)) κ.w:=by
 unfold nilB at hn
 split at hn
 ·rename_i ng x
  split at hn
  ·rename_i hev
   obtain⟨dst,op,type,pos,after,guard⟩:=o
   obtain⟨bo,t,X,Y,z,rfl,hk,hbo,hX,hY⟩:=Rh hc
   have hx:=aA (κ:=κ) (E:=E) (a:=a) hX (fun i hi=>hE i (by simp[TOp.slots,hi]))
   rw[hev] at hx
   have hy:=N3 hY a
   obtain⟨e,hu⟩:∃ e,P.underlying t=some (.slice e):=by
    unfold cG at hk
    split at hk<;>first | exact⟨_,‹_›⟩ | cases hk
   obtain⟨A,n,c,hs⟩:∃ A n c,a.eval X = .slice A n c:=by
    generalize a.eval X=u at hx
    cases aH hx<;>exact⟨_,_,_,rfl⟩
   have he:Op.equal t (.slice A n c) (.slice none 0 0)=Op.equalIn (9999+1) t (.slice A n c) (.slice none 0 0):=rfl
   have hmain:=NM (P:=P) (w:=κ.w) 9999 hu A n c
   rcases hbo with ⟨rfl,_⟩ | ⟨rfl,_⟩
   ·refine⟨A.isNone,?_⟩
    simp[execOp,hs,hy,eqGuard_at_slice,binOp,he,hmain]
   ·refine⟨!A.isNone,?_⟩
    simp[execOp,hs,hy,eqGuard_at_slice,binOp,he,hmain]
  ·cases hn
 ·cases hn
theorem mV {mu:Bool×Bool}{o:Oper}{op:AOp}{F:St->Prop}{K:Act->World->Prop}{Q:Exit->Act->World->Prop}(hc:cA P mu o.op=some op)(h:Rel c κ0 N s a w κ)
  (hd:yS o.dst N=true) (hr:l9 P c.G F s o.dst op) (hK:∀ s a w κ,Rel c κ0 N s a w κ->F s->K a w):o.wpIn (FR ro) nf P a w K Q:=by
 have hw:=h.w_eq
 subst hw
 rcases KU hc with ⟨g,x,rfl,hz⟩ | ⟨t,rfl,ht⟩ | ⟨m,rfl,hm⟩ | rfl
 ·simp only[l9,aJ] at hr
  split at hr
  ·rename_i p hp
   obtain⟨u,κ',h1,h2,h3,h4⟩:=Eh (P:=P) (κ:=κ) (E:=s.E) (a:=a) (new:=s.next) hz h.rel (fun i _=>h.env i) hp
   refine dX h1 ?_
   exact hK _ _ _ κ' ((h.step h3 h4).put (κ':=κ') (w':=κ'.w) hd h2) hr
  ·exact hr.elim
 ·replace ht:=vU ht
  simp only[l9,iT] at hr
  split at hr
  ·rename_i v hv
   obtain⟨u,h1,h2⟩:=oY (P:=P) (κ:=κ) (E:=s.E) (a:=a) ht (fun i _=>h.env i) hv
   refine dX h1 ?_
   exact hK _ _ _ κ (h.put (κ':=κ) (w':=κ.w) hd h2) hr
  ·obtain⟨hnb,hall⟩:=hr
   obtain⟨b,h1⟩:=H6 (P:=P) (κ:=κ) (E:=s.E) (a:=a) ht (fun i _=>h.env i) hnb
   refine dX h1 ?_
   exact hK _ _ _ κ (h.put (κ':=κ) (w':=κ.w) hd (.pv _ _ (.bool b))) (hall b)
 ·simp only[l9,aJ] at hr
  split at hr
  ·rename_i p hp
   obtain⟨x,u,κ',h1,h2,h3,h4,h5,_⟩:=mX (P:=P) hm h.rel h.size_le (fun _=>h.fresh s.next (Nat.le_refl _)) (fun i _=>h.env i) hp
   have hR:=(h.step h4 h5).put (κ':=κ') (w':=κ'.w) hd h3
   rcases h2 with rfl | ⟨rfl,rfl⟩
   ·exact dX h1 (hK _ _ _ κ' hR hr)
   ·exact uF h1 (hK _ _ _ κ' hR hr)
  ·exact hr.elim
 ·
   rcases q9 P o.op with hb | ⟨af,xs,hce,hco⟩
   ·rw[hb] at hr;simp[jK,l9,AX.ev,dw,aJ] at hr
   ·rw[hce] at hr
    ·simp only[l9,aJ] at hr
     split at hr
     ·rename_i p hp
      obtain⟨vs,us,args,hvs,hus,hv1,hu1,hxs,hrun0⟩:=vR (P:=P) (κ:=κ) (E:=s.E) (a:=a) hco h.env hp
      obtain⟨hxl,hxr⟩:=jf (κ:=κ) (E:=s.E) (a:=a) hxs (fun i _=>h.env i)
      have hmid:∀ (i:Nat) (x:AV),(xs.map (·.ev s.E))[i]? = some x->ARel κ x ((args.map a.eval).getD i Go.undef):=by
       intro i x hx
       rw[aC];simpa using hxr i x hx
      have hall:=cz (κ:=κ) (by simp[hvs];exact hxl) (cz (κ:=κ) hvs hv1 hmid) hu1
      simp only[E2] at hr
      obtain⟨hcal,hC⟩:=tP (vals:=vs++args.map a.eval++us) h hr (by simp[hvs,hus];simpa using hxl) hall
      have hrun:=hrun0 hcal κ.w
      refine kU hrun (hC.mono ?_)
      rintro e w' ⟨u,v,s',κ',rfl,hR,hv,hk⟩
      exact hK _ _ _ κ' (hR.put (κ':=κ') (w':=w') hd hv) hk
     ·exact hr.elim
theorem ed {muts:List Nat}{ops:Array Oper}{Q:Exit->Act->World->Prop}{F:St->Prop}(hQ:∀ s a w κ,Rel c κ0 N s a w κ->F s->Q .normal a w):∀ (l:List Oper) (aops:List AOper) (s:St) (a:Act) (w:World) (κ:Kap),
  FV P muts N ops l=some aops->Rel c κ0 N s a w κ->dy P c.G aops F s->wpListIn (FR ro) nf P ops Q l a w
 | [],aops,s,a,w,κ,hc,h,hv=>by
   simp[FV] at hc;subst hc
   exact hQ s a w κ h hv
 | o::r,aops,s,a,w,κ,hc,h,hv=>by
   simp only[FV] at hc
   split at hc
   ·rename_i ao ar ho hr
    cases hc
    unfold zZ at ho
    split at ho
    ·rename_i g op hg hop
     split at ho
     ·rename_i hd
      cases ho
      simp only[dy,aJ] at hv
      split at hv
      ·rename_i b hb
       have hwant:=fb (ops:=ops) (o:=o) hg h.env hb
       refine wpListIn_step fun K hK=>?_
       rw[hwant]
       cases b with
       | true=>
         rw[if_pos rfl]
         exact mV hop h hd hv fun s a w κ hR hF=>hK _ _ (ed hQ r ar s a w κ hr hR hF)
       | false=>
         rw[if_neg (by simp)]
         refine⟨fun _ _=>trivial,?_⟩
         exact hK _ _ (ed hQ r ar _ _ w κ hr (h.put (κ':=κ) (w':=w) hd (.pv _ _ .undef)) hv)
      ·exact hv.elim
     ·cases ho
    ·cases ho
   ·cases hc
end
section
variable {β:Type}
def mz (g:Nat->β):List (Nat×β)->Nat->β
 | []=>g
 | p::r=>mz (fun x=>if x=p.1 then p.2 else g x) r
def aU (u:List (Nat×β)):List Nat:=u.map (·.1)
theorem iB {r:Nat}:∀ (u:List (Nat×β)) (g:Nat->β),r∉aU u->mz g u r=g r
 | [],g,_=>rfl
 | p::q,g,h=>by
   simp only[aU,List.map_cons,List.mem_cons,not_or] at h
   rw[mz,iB q _ h.2,if_neg h.1]
theorem oD {r:Nat}:∀ (u:List (Nat×β)) (g g':Nat->β),(r∈aU u\/g r=g' r)->mz g u r=mz g' u r
 | [],g,g',h=>by
   rcases h with h | h
   ·simp[aU] at h
   ·exact h
 | p::q,g,g',h=>by
   rw[mz,mz]
   refine oD q _ _ ?_
   by_cases hp:r=p.1
   ·right;simp[hp]
   ·rcases h with h | h
    ·simp only[aU,List.map_cons,List.mem_cons] at h
     exact .inl (h.resolve_left hp)
    ·right;simp[hp,h]
def bL (S:Nat->Bool):List (List (Nat×β))->Nat->(Nat->β)->Nat->β
 | [],_,g=>g
 | u::r,k,g=>bL S r (k+1) (if S k=true then mz g u else g)
theorem f7 {S S':Nat->Bool}{r:Nat}:∀ (W:List (List (Nat×β))) (k:Nat) (g g':Nat->β),(∀ i u,W[i]? = some u->r∈aU u->S (k+i)=S' (k+i))->g r=g' r->bL S W k g r=bL S' W k g' r
 | [],k,g,g',_,h=>h
 | u::q,k,g,g',hs,h=>by
   rw[bL,bL]
   refine f7 q (k+1) _ _ (fun i v hv hr=>?_) ?_
   ·have:=hs (i+1) v (by simpa using hv) hr
    rw[show k+1+i=k+(i+1) by omega];exact this
   ·by_cases hr:r∈aU u
    ·have:=hs 0 u (by simp) hr
     simp only[Nat.add_zero] at this
     rw[this]
     split
     ·exact oD u _ _ (.inl hr)
     ·exact h
    ·split<;>split<;>simp[iB u _ hr,h]
theorem rn {S:Nat->Bool}{r:Nat}:∀ (W:List (List (Nat×β))) (k i:Nat) (u:List (Nat×β)) (g g':Nat->β),W[i]? = some u->S (k+i)=true->r∈aU u->(∀ j v,i<j->W[j]? = some v->r∈aU v->S (k+j)=false) ->
  bL S W k g r=mz g' u r
 | [],k,i,u,g,g',h,_,_,_=>by simp at h
 | v::q,k,i,u,g,g',h,hS,hr,hl=>by
   rw[bL]
   cases i with
   | zero=>
     simp only[List.getElem?_cons_zero,Option.some.injEq] at h
     subst h
     simp only[Nat.add_zero] at hS
     rw[if_pos hS]
     have hz:bL S q (k+1) (mz g v) r=bL (fun _=>false) q (k+1) (mz g v) r:=
      f7 q (k+1) _ _ (fun j w hw hrw=>by
       have:=hl (j+1) w (by omega) (by simpa using hw) hrw
       rw[show k+1+j=k+(j+1) by omega];exact this) rfl
     have hno:∀ (W:List (List (Nat×β))) (k:Nat) (g:Nat->β),bL (fun _=>false) W k g=g:=by
      intro W
      induction W with
      | nil=>intros;rfl
      | cons a b ih=>intro k g;rw[bL];simpa using ih (k+1) g
     rw[hz,hno]
     exact oD v _ _ (.inl hr)
   | succ i=>
     exact rn q (k+1) i u _ g' (by simpa using h) (by rw[show k+1+i=k+(i+1) by omega];exact hS) hr (fun j w hj hw hrw=>by
      have:=hl (j+1) w (by omega) (by simpa using hw) hrw
      rw[show k+1+j=k+(j+1) by omega];exact this)
theorem rk {S S':Nat->Bool}{W:List (List (Nat×β))}{i:Nat}{u:List (Nat×β)}{g:Nat->β}(hi:W[i]? = some u)(h1:S' i=true)(h2:∀ j,j≠i->S' j=S j)
  (ho:∀ j v r,j≠i->W[j]? = some v->r∈aU v->r∈aU u->i<j->S j=false):bL S' W 0 g=mz (bL S W 0 g) u:=by
 funext r
 by_cases hr:r∈aU u
 ·refine rn W 0 i u g _ hi (by simpa using h1) hr (fun j v hj hv hrv=>?_)
  rw[Nat.zero_add,h2 j (by omega)]
  exact ho j v r (by omega) hv hrv hr hj
 ·rw[iB u _ hr]
  refine f7 W 0 g g (fun j v hv hrv=>?_) rfl
  rw[Nat.zero_add]
  refine h2 j ?_
  rintro rfl
  rw[hi] at hv;cases hv
  exact hr hrv
theorem rm {S:Nat->Bool}{W:List (List (Nat×β))}{i r:Nat}{g:Nat->β}(hi:S i=false)(ho:∀ j v,j≠i->W[j]? = some v->r∈aU v->(j<i/\S j=true)\/(i<j/\S j=false)) :
  bL S W 0 g r=bL (fun j=>decide (j<i)) W 0 g r:=by
 refine f7 W 0 g g (fun j v hv hrv=>?_) rfl
 rw[Nat.zero_add]
 by_cases hj:j=i
 ·subst hj;simp[hi]
 ·rcases ho j v hj hv hrv with ⟨h1,h2⟩ | ⟨h1,h2⟩
  ·simp[h1,h2]
  ·rw[h2];simp;omega
theorem oG (S:Nat->Bool):∀ (W:List (List (Nat×β))) (k:Nat) (g:Nat->β),(∀ i,i<W.length->S (k+i)=true)->bL S W k g=bL (fun _=>true) W k g
 | [],k,g,_=>rfl
 | v::q,k,g,h=>by
   have h0:=h 0 (by simp)
   rw[Nat.add_zero] at h0
   rw[bL,bL,if_pos h0,if_pos rfl]
   exact oG S q (k+1) _ (fun i hi=>by rw[show k+1+i=k+(i+1) by omega];exact h (i+1) (by simp;omega))
end
theorem aw {E E':Nat->AV}{x:AX}(h:∀ i∈x.slots,E i=E' i):x.ev E=x.ev E':=by
 cases x with
 | t i=>exact h i (by simp[AX.slots])
 | c p=>rfl
 | m i tb=>simp only[AX.ev];rw[h i (by simp[AX.slots])]
theorem iq {E E':Nat->AV}{xs:List AX}(h:∀ i∈xs.flatMap AX.slots,E i=E' i):xs.map (·.ev E)=xs.map (·.ev E'):=
 List.map_congr_left fun x hx=>aw fun i hi=>h i (List.mem_flatMap.2 ⟨x,hx,hi⟩)
theorem ir {E E':Nat->AV}{x:Option AX}(h:∀ i∈mT x,E i=E' i):x.map (·.ev E)=x.map (·.ev E'):=by
 cases x with
 | none=>rfl
 | some x=>simp only[Option.map_some];rw[aw (x:=x) (fun i hi=>h i (by simpa[mT] using hi))]
theorem TOp.run_congr {E E':Nat->AV}{o:TOp}(h:∀ i∈o.slots,E i=E' i):o.run E=o.run E':=by
 cases o<;>simp only[TOp.run,TOp.slots,List.mem_append] at h ⊢
 case mv x=>rw[aw h]
 case pick c a b=>rw[aw (x:=c) (fun i hi=>h i (.inl (.inl hi))),aw (x:=a) (fun i hi=>h i (.inl (.inr hi))),aw (x:=b) (fun i hi=>h i (.inr hi))]
 case build zs ps=>
  have:(ps.map fun p=>(p.1,p.2.1,p.2.2.ev E))=ps.map fun p=>(p.1,p.2.1,p.2.2.ev E'):=
   List.map_congr_left fun p hp=>by rw[aw (x:=p.2.2) (fun i hi=>h i (List.mem_flatMap.2 ⟨p,hp,hi⟩))]
  rw[this]
 case faddr off x=>rw[aw h]
 case field g sz off x=>rw[aw h]
 case len st x=>rw[aw h]
 case neg x=>rw[aw h]
 case not x=>rw[aw h]
 case conv k x=>rw[aw h]
 case convIS x=>rw[aw h]
 case ext x i=>rw[aw h]
 case nilck x=>rw[aw h]
 case sliceL sz x l hh=>rw[aw (x:=x) (fun i hi=>h i (.inl (.inl hi))),ir (x:=l) (fun i hi=>h i (.inl (.inr hi))),ir (x:=hh) (fun i hi=>h i (.inr hi))]
 case sliceS x l hh=>rw[aw (x:=x) (fun i hi=>h i (.inl (.inl hi))),ir (x:=l) (fun i hi=>h i (.inl (.inr hi))),ir (x:=hh) (fun i hi=>h i (.inr hi))]
 case clo f fs cs=>rw[iq (xs:=fs) (fun i hi=>h i (.inl hi)),iq (xs:=cs) (fun i hi=>h i (.inr hi))]
 all_goals
  rename_i x y
  rw[aw (x:=x) (fun i hi=>h i (.inl hi)),aw (x:=y) (fun i hi=>h i (.inr hi))]
def AV.name:AV->List Nat
 | .ptr r _=>[r]
 | .row r _ _ _=>[r]
 | .olist r _ _=>[r]
 | _=>[]
def XOp.reads (E:Nat->AV):XOp->List Nat
 | .ucast _ _ _ x | .apps _ _ x _ | .ustr _ x _ | .same x=>(x.ev E).name
 | .noesc _ | .peq _ _ _ | .sdata _ | .ofStr _ | .fnil _ _ _ | .inil _ _ _ | .idxb _ _=>[]
def MOp.reads (E:Nat->AV):MOp->List Nat
 | .load _ _ x | .toStr x=>(x.ev E).name
 | .store _ x _=>(x.ev E).name
 | .append _ _ _ _ x y=>(x.ev E).name++(y.ev E).name
 | .xop o=>o.reads E
 | _=>[]
theorem iu {σ σ':au}{sz:Nat}{y:AV}(h:∀ r∈y.name,σ r=σ' r):bh σ sz y=bh σ' sz y:=by
 cases y with
 | row r s off len=>simp only[bh,h r (by simp[AV.name])]
 | pv p=>cases p<;>rfl
 | _=>rfl
theorem XOp.reads_congr {E E':Nat->AV}{o:XOp}(h:∀ i∈o.slots,E i=E' i):o.reads E=o.reads E':=by
 cases o<;>simp only[XOp.slots,XOp.reads,List.mem_append] at h ⊢
 case ucast u n b x=>rw[aw h]
 case same x=>rw[aw h]
 case apps e b x y=>rw[aw (x:=x) (fun i hi=>h i (.inl hi))]
 case ustr e x y=>rw[aw (x:=x) (fun i hi=>h i (.inl hi))]
theorem XOp.run_congr {new:Nat}{E E':Nat->AV}{σ σ':au}{o:XOp}(h:∀ i∈o.slots,E i=E' i)(hr:∀ r∈o.reads E,σ r=σ' r):o.run new E σ=o.run new E' σ':=by
 cases o<;>simp only[XOp.run,XOp.slots,XOp.reads,List.mem_append] at h hr ⊢
 case noesc x=>rw[aw h]
 case same x=>
  rw[<- aw (x:=x) h]
  cases hx:x.ev E with
  | olist r s l=>
    cases l with
    | nil=>rfl
    | cons y l=>simp only[BR];rw[hr r (by simp[hx,AV.name])]
  | _=>rfl
 case peq ng x y=>rw[<- aw (x:=x) (fun i hi=>h i (.inl hi)),<- aw (x:=y) (fun i hi=>h i (.inr hi))]
 case sdata x=>rw[aw h]
 case ofStr x=>rw[aw h]
 case inil ng x y=>rw[<- aw (x:=x) (fun i hi=>h i (.inl hi)),<- aw (x:=y) (fun i hi=>h i (.inr hi))]
 case idxb x y=>rw[<- aw (x:=x) (fun i hi=>h i (.inl hi)),<- aw (x:=y) (fun i hi=>h i (.inr hi))]
 case fnil ng x y=>rw[<- aw (x:=x) (fun i hi=>h i (.inl hi)),<- aw (x:=y) (fun i hi=>h i (.inr hi))]
 case ucast u n b x=>
  rw[<- aw (x:=x) h]
  congr 1
  cases hx:x.ev E with
  | ptr r o=>simp only[fh];rw[hr r (by simp[hx,AV.name])]
  | _=>rfl
 case apps e b x y=>
  rw[<- aw (x:=x) (fun i hi=>h i (.inl hi)),<- aw (x:=y) (fun i hi=>h i (.inr hi))]
  have key:∀ ys,KW e 1 b new σ (x.ev E) ys=KW e 1 b new σ' (x.ev E) ys:=by
   intro ys
   cases hx:x.ev E with
   | row r s off len=>simp only[KW];rw[hr r (by simp[hx,AV.name])]
   | pv p=>cases p<;>rfl
   | _=>rfl
  cases y.ev E with
  | pv q=>cases q<;>first | rfl | exact key _
  | _=>rfl
 case ustr e x y=>
  rw[<- aw (x:=x) (fun i hi=>h i (.inl hi)),<- aw (x:=y) (fun i hi=>h i (.inr hi))]
  cases hx:x.ev E with
  | ptr r o=>
    cases y.ev E with
    | pv p=>
      cases p with
      | int k n=>cases k<;>simp only[pu];rw[hr r (by simp[hx,AV.name])]
      | _=>rfl
    | _=>rfl
  | pv p=>
    cases y.ev E with
    | pv q=>
      cases p with
      | nilp=>
        cases q with
        | int k n=>cases k<;>rfl
        | _=>rfl
      | _=>rfl
    | _=>cases p<;>rfl
  | _=>rfl
theorem MOp.run_congr {G:Nat->List PV}{new:Nat}{E E':Nat->AV}{σ σ':au}{o:MOp}(h:∀ i∈o.slots,E i=E' i)(hr:∀ r∈o.reads E,σ r=σ' r):o.run G new E σ=o.run G new E' σ':=by
 cases o<;>simp only[MOp.run,MOp.slots,MOp.reads,List.mem_append] at h hr ⊢
 case box T x=>rw[aw h]
 case xop o=>exact XOp.run_congr h hr
 case cbox T x=>rw[aw h]
 case load g sz x=>
  rw[<- aw (x:=x) h]
  congr 1
  cases hx:x.ev E with
  | ptr r o=>simp only[ey];rw[hr r (by simp[hx,AV.name])]
  | pv p=>cases p<;>rfl
  | _=>rfl
 case store sz x v=>
  rw[<- aw (x:=x) (fun i hi=>h i (.inl hi)),<- aw (x:=v) (fun i hi=>h i (.inr hi))]
  congr 1
  cases hx:x.ev E with
  | ptr r o=>simp only[gS];rw[hr r (by simp[hx,AV.name])]
  | _=>rfl
 case toStr x=>
  rw[<- aw (x:=x) h]
  unfold eL
  rw[iu (fun r hrr=>hr r hrr)]
 case bslice mu e sz len xs=>rw[iq h]
 case append mu e sz by_ x y=>
  rw[<- aw (x:=x) (fun i hi=>h i (.inl hi)),<- aw (x:=y) (fun i hi=>h i (.inr hi))]
  unfold dM
  rw[iu (fun r hrr=>hr r (.inr hrr))]
  cases bh σ' sz (y.ev E) with
  | none=>rfl
  | some ys=>
    simp only
    cases hx:x.ev E with
    | olist r s l=>cases mu<;>simp only[hr r (.inl (by simp[hx,AV.name]))]
    | row r s off len=>cases mu<;>simp only[hr r (.inl (by simp[hx,AV.name]))]
    | pv p=>cases p<;>cases mu<;>rfl
    | _=>cases mu<;>rfl
 case mk mu e sz by_ zs x y=>rw[<- aw (x:=x) (fun i hi=>h i (.inl hi)),<- aw (x:=y) (fun i hi=>h i (.inr hi))]
def AOp.slots:AOp->List Nat
 | .t o=>o.slots
 | .m o=>o.slots
 | .call f xs=>f.slots++xs.flatMap AX.slots
 | .fz _ x=>x.slots
def AOper.slots (o:AOper):List Nat:=
 (match o.guard with
  | some (i,_)=>[i]
  | none=>[])++o.op.slots
def aO (o:Oper):List Nat:=(o.after.toList.filter (Region.binds .any)).map (·.on)
def Uq (x:Nat)(d:List Nat):List Nat:=match d.contains x with
 | true=>d
 | false=>x::d
def KJ:List Nat->List Nat
 | []=>[]
 | x::r=>Uq x (KJ r)
theorem jU {x:Nat}:∀ {l:List Nat},x∈KJ l↔x∈l
 | []=>by simp[KJ]
 | y::r=>by
   simp only[KJ,Uq]
   split
   ·rename_i h
    rw[jU,List.mem_cons]
    refine⟨.inr,fun h'=>h'.elim (fun e=>?_) id⟩
    subst e
    exact jU.1 (by simpa using h)
   ·rw[List.mem_cons,List.mem_cons,jU]
def aQ:List (List Nat)->List (List Nat)->List (List Nat)
 | [],acc=>acc
 | d::r,acc=>aQ r (acc++[KJ (d++d.flatMap fun j=>acc.getD j [])])
def FP (A:List (List Nat))(i j:Nat):Bool:=
 if i<j then (A.getD j []).contains i else (A.getD i []).contains j
def Qj (a b:List Nat):Bool:=a.any fun x=>b.contains x
def okB (A:List (List Nat))(l:List (List Nat×List Nat)):Bool:=
 (l.zipIdx).all fun p=>(l.zipIdx).all fun q=>p.2 == q.2||!(Qj p.1.1 (q.1.2++q.1.1))||FP A p.2 q.2
def ko (ops:List AOper):List (List Nat×List Nat):=ops.map fun o=>(o.dst.toList,o.slots)
def Er (ops:List Oper)(aops:List AOper)(k:Nat):Bool:=
 let ds:=ops.map aO
 okB (aQ ds []) (ko (aops.take k))&&((ds.zipIdx).all fun p=>p.1.all fun j=>decide (j<p.2)) &&
  (List.range ops.length).all fun i=>decide (i<k)||(List.range i).all fun j=>((aQ ds []).getD i []).contains j
def DR (A:List (List Nat)):Nat->Nat
 | 0=>0
 | n+1=>if (List.range n).all (fun j=>(A.getD n []).contains j)=true then DR A n else n+1
def mC (md:Region.Mode)(ops:Array Oper):List (List Nat):=ops.toList.map fun o=>(o.after.toList.filter (Region.binds md)).map (·.on)
def R6 (x:Nat):List Nat->Nat
 | []=>0
 | y::r=>if y=x then 0 else R6 x r+1
def HL:List (Nat×List Nat)->List Nat->List (Nat×List Nat)×List Nat
 | [],d=>([],d)
 | p::r,d=>if p.2.all (fun j=>d.contains j)=true then HL r (d++[p.1]) else ((p::(HL r d).1),(HL r d).2)
def Lr:Nat->List (Nat×List Nat)->List Nat->List Nat
 | 0,_,d=>d
 | n+1,ps,d=>match HL ps d with
   | ([],d')=>d'
   | (q,d')=>Lr n q d'
def ut (md:Region.Mode)(ops:Array Oper):Bool:=
 let ps:=(mC md ops).zipIdx.map fun p=>(p.2,p.1)
 let L:=Lr ps.length ps []
 ps.all fun p=>p.2.all fun j=>decide (j<ps.length)&&decide (R6 j L<R6 p.1 L)
def sN (ops:Array Oper):Bool:=!(Region.departs ops)||(ut .text ops&&ut .gc ops)
def Rg (P:Program)(G:Nat->List PV)(args:List AV)(K:PV->Prop)(p:Nat×List AV×List AV):Prop:=
 ∃ ps r,pvs (p.2.1++args++p.2.2)=some ps/\ak P G p.1 ps r/\K r
def eS (mk:Nat)(ks rs:List Nat):List Nat×List Nat:=((if mk=2 then [0] else [])++ks.map (· + 1),(if mk=1 then [0] else [])++rs.map (· + 1))
def bw (o:MOp):Nat:=if o.makes=true then 1 else 0
def jz (P:Program)(G:Nat->List PV)(F:List (List Nat×List Nat)->St->Prop)(T:List (List Nat×List Nat))(s:St)(d:Option Nat)(args:List AV)(p:Nat×List AV×List AV):Prop:=
 Rg P G args (fun r=>F (T++[([],[])]) (s.put d (.pv r))) p \/
 ∃ v δ top,cm P G p.1 (p.2.1++args++p.2.2) s.sto s.next (fun v' sto' n'=>v'=v/\sto'=l8 s.sto δ/\n'=top)/\s.next<=top/\F (T++[eS 2 (aU δ) (s.sto.map (·.1))]) ((⟨s.env,l8 s.sto δ,top⟩:St).put d v)
def Bh (F:List (List Nat×List Nat)->St->Prop)(T:List (List Nat×List Nat))(s:St)(d:Option Nat)(v:AV):Prop:=F (T++[([],[])]) (s.put d v)
def stepM (F:List (List Nat×List Nat)->St->Prop)(T:List (List Nat×List Nat))(s:St)(d:Option Nat)(mk:Nat)(rd:List Nat)(p:AV×List (Nat×Blk)):Prop:=F (T++[eS mk (aU p.2) rd]) ((s.mem p.2).put d p.1)
def iv (P:Program)(G:Nat->List PV)(F:List (List Nat×List Nat)->St->Prop)(T:List (List Nat×List Nat))(s:St)(d:Option Nat):AOp->Prop
 | .t o=>aJ (o.run s.E) (Bh F T s d)
 | .m o=>aJ (o.run G s.next s.E s.σ) (stepM F T s d (bw o) (o.reads s.E))
 | .call f xs=>aJ (dw (f.ev s.E)) (jz P G F T s d (xs.map (·.ev s.E)))
 | .fz _ _=>False
def qR (P:Program)(G:Nat->List PV)(F:List (List Nat×List Nat)->St->Prop)(T:List (List Nat×List Nat))(s:St)(d:Option Nat)(o:AOp)(b:Bool):Prop:=
 match b with
 | true=>iv P G F T s d o
 | false=>F (T++[([],[])]) (s.put d (.pv .undef))
def vcD (P:Program)(G:Nat->List PV)(A:List (List Nat))(F:St->Prop):List AOper->List (List Nat×List Nat)->St->Prop
 | [],T,s=>okB A T=true/\F s
 | o::r,T,s=>aJ (bT s o.guard) (qR P G (vcD P G A F r) T s o.dst o.op)
structure Ent where
 dst:Option Nat
 v:AV
 δ:List (Nat×Blk)
 reads:List Nat
 isM:Bool
 new:Nat
 top:Nat
 kd:Nat
def Ent.env (e:Ent):List (Nat×AV):=
 match e.dst with
 | some d=>[(d,e.v)]
 | none=>[]
def oH (P:Program)(G:Nat->List PV)(E:Nat->AV)(σ:au)(wt:Option Bool)(op:AOp)(e:Ent):Prop:=
 (wt=some false/\e.v = .pv .undef/\e.δ=[]/\e.reads=[]/\e.isM=false/\e.kd=0) \/
 (wt=some true/\match op with
  | .t o=>o.run E=some e.v/\e.δ=[]/\e.reads=[]/\e.isM=false/\e.kd=0
  | .m o=>o.run G e.new E σ=some (e.v,e.δ)/\e.reads=o.reads E/\e.isM=true/\e.top=e.new+1/\e.kd=bw o
  | .call f xs=>∃ p,dw (f.ev E)=some p /\
    ((∃ ps r,pvs (p.2.1++xs.map (·.ev E)++p.2.2)=some ps/\ak P G p.1 ps r/\e.v = .pv r/\e.δ=[]/\e.reads=[]/\e.isM=false/\e.kd=0) \/
     (∃ sto,(fun r=>lookB r sto)=σ/\cm P G p.1 (p.2.1++xs.map (·.ev E)++p.2.2) sto e.new (fun v' sto' n'=>v'=e.v/\(fun r=>lookB r sto')=σ.upd e.δ/\n'=e.top)/\e.new<=e.top/\e.isM=true/\e.kd=2/\∀ r,σ r≠.none->r∈e.reads))
  | .fz _ _=>False)
def g8 (s:St)(e:Ent):St:=if e.isM=true then (⟨s.env,l8 s.sto e.δ,e.top⟩:St).put e.dst e.v else s.put e.dst e.v
def Tr (P:Program)(G:Nat->List PV):List AOper->St->List Ent->St->Prop
 | [],s,[],s'=>s'=s
 | o::r,s,e::T,s'=>e.dst=o.dst/\e.new=s.next/\oH P G s.E s.σ (bT s o.guard) o.op e/\Tr P G r (g8 s e) T s'
 | _,_,_,_=>False
theorem qz {r:Nat}:∀ {l:List (Nat×Blk)},lookB r l≠.none->r∈l.map (·.1)
 | [],h=>by simp[lookB] at h
 | p::q,h=>by
   simp only[lookB] at h
   by_cases hp:p.1=r
   ·simp[hp]
   ·rw[if_neg hp] at h
    have:=qz h
    simp only[List.map_cons,List.mem_cons];exact .inr this
theorem mD {P:Program}{G:Nat->List PV}{A:List (List Nat)}{F:St->Prop}:∀ (ops:List AOper) (T0:List (List Nat×List Nat)) (s:St),vcD P G A F ops T0 s ->
  ∃ T s',Tr P G ops s T s'/\okB A (T0++T.map fun e=>eS e.kd (aU e.δ) e.reads)=true/\F s'
 | [],T0,s,h=>⟨[],s,rfl,by simpa using h.1,h.2⟩
 | o::r,T0,s,h=>by
   simp only[vcD,aJ] at h
   split at h
   ·rename_i b hb
    cases b with
    | false=>
      simp only[qR] at h
      obtain⟨T,s',h1,h2,h3⟩:=mD r _ _ h
      exact⟨⟨o.dst,.pv .undef,[],[],false,s.next,s.next,0⟩::T,s',⟨rfl,rfl,.inl ⟨hb,rfl,rfl,rfl,rfl,rfl⟩,h1⟩,by simpa[aU,eS] using h2,h3⟩
    | true=>
      simp only[qR] at h
      cases hop:o.op with
      | t op=>
        rw[hop] at h
        simp only[iv,aJ] at h
        split at h
        ·rename_i v hv
         obtain⟨T,s',h1,h2,h3⟩:=mD r _ _ h
         exact⟨⟨o.dst,v,[],[],false,s.next,s.next,0⟩::T,s',⟨rfl,rfl,.inr ⟨hb,by rw[hop];exact⟨hv,rfl,rfl,rfl,rfl⟩⟩,h1⟩,by simpa[aU,eS] using h2,h3⟩
        ·exact h.elim
      | m op=>
        rw[hop] at h
        simp only[iv,aJ] at h
        split at h
        ·rename_i p hp
         obtain⟨T,s',h1,h2,h3⟩:=mD r _ _ h
         exact⟨⟨o.dst,p.1,p.2,op.reads s.E,true,s.next,s.next+1,bw op⟩::T,s',⟨rfl,rfl,.inr ⟨hb,by rw[hop];exact⟨hp,rfl,rfl,rfl,rfl⟩⟩,h1⟩,by simpa using h2,h3⟩
        ·exact h.elim
      | call f xs=>
        rw[hop] at h
        simp only[iv,aJ] at h
        split at h
        ·rename_i p hp
         rcases h with ⟨ps,q,hps,hP,hk⟩ | ⟨v,δ,top,hT,htop,hk⟩
         ·obtain⟨T,s',h1,h2,h3⟩:=mD r _ _ hk
          exact⟨⟨o.dst,.pv q,[],[],false,s.next,s.next,0⟩::T,s',⟨rfl,rfl,.inr ⟨hb,by rw[hop];exact⟨p,hp,.inl ⟨ps,q,hps,hP,rfl,rfl,rfl,rfl,rfl⟩⟩⟩,h1⟩,by simpa[aU,eS] using h2,h3⟩
         ·obtain⟨T,s',h1,h2,h3⟩:=mD r _ _ hk
          refine⟨⟨o.dst,v,δ,s.sto.map (·.1),true,s.next,top,2⟩::T,s',⟨rfl,rfl,.inr ⟨hb,by
           rw[hop]
           refine⟨p,hp,.inr ⟨s.sto,rfl,?_,htop,rfl,rfl,fun r hr=>qz hr⟩⟩
           obtain⟨t1,t2⟩:=hT
           refine⟨t1,fun κ vals a1 a2 a3 a4=>(t2 κ vals a1 a2 a3 a4).mono ?_⟩
           rintro e w' ⟨u,v',κ',sto',next',b1,b2,b3,b4,b5,b6,b7,rfl,rfl,rfl⟩
           exact⟨u,_,κ',_,_,b1,b2,b3,b4,b5,b6,b7,rfl,by funext r;exact ia δ s.sto r,rfl⟩⟩,h1⟩,by simpa using h2,h3⟩
        ·exact h.elim
      | fz g x=>
        rw[hop] at h
        exact h.elim
   ·exact h.elim
theorem PY (s:St)(d:Option Nat)(v:AV):(s.put d v).E=mz s.E (match d with | some d=>[(d,v)] | none=>[]):=by
 cases d with
 | none=>rfl
 | some d=>
   funext i
   simp only[St.put,St.E,look,mz]
   by_cases h:i=d
   ·simp[h]
   ·rw[if_neg (fun e=>h e.symm),if_neg h]
theorem ee (σ:au)(δ:List (Nat×Blk)):au.upd σ δ=mz σ δ:=by
 induction δ generalizing σ with
 | nil=>rfl
 | cons p q ih=>rw[au.upd,mz,ih];rfl
theorem uL (s:St)(e:Ent):(g8 s e).E=mz s.E e.env:=by
 unfold g8 Ent.env
 split
 ·rw[PY];rfl
 ·rw[PY]
theorem CY (s:St)(δ:List (Nat×Blk))(n:Nat):(⟨s.env,l8 s.sto δ,n⟩:St).σ=au.upd s.σ δ:=by
 funext r;exact ia δ s.sto r
theorem uK (s:St)(e:Ent)(h:e.isM=false->e.δ=[]):(g8 s e).σ=mz s.σ e.δ:=by
 have hp:∀ (s:St) (d:Option Nat) (v:AV),(s.put d v).σ=s.σ:=by intro s d v;cases d<;>rfl
 unfold g8
 split
 ·rw[hp]
  rw[CY,ee]
 ·rename_i hm
  rw[hp,h (by simpa using hm)];rfl
theorem oH.noM {P:Program}{G:Nat->List PV}{E:Nat->AV}{σ:au}{wt:Option Bool}{op:AOp}{e:Ent}(h:oH P G E σ wt op e):e.isM=false->e.δ=[]:=by
 intro hm
 rcases h with ⟨_,_,h,_⟩ | ⟨_,h⟩
 ·exact h
 ·cases op with
  | t o=>exact h.2.1
  | m o=>rw[h.2.2.1] at hm;cases hm
  | call f xs=>
    obtain⟨p,_,⟨ps,r,_,_,_,h,_⟩ | ⟨sto,_,_,_,h,_⟩⟩:=h
    ·exact h
    ·rw[hm] at h;cases h
  | fz g x=>exact h.elim
theorem oH.tops {P:Program}{G:Nat->List PV}{E:Nat->AV}{σ:au}{wt:Option Bool}{op:AOp}{e:Ent}(h:oH P G E σ wt op e):(e.isM=true->e.new<=e.top)/\(e.kd≠0->e.isM=true)/\(e.kd=1->e.top=e.new+1):=by
 rcases h with ⟨_,_,_,_,h1,h2⟩ | ⟨_,h⟩
 ·exact⟨fun h=>(by rw[h1] at h;cases h),fun h=>absurd h2 h,fun h=>(by rw[h2] at h;cases h)⟩
 ·cases op with
  | t o=>
    obtain⟨_,_,_,h1,h2⟩:=h
    exact⟨fun h=>(by rw[h1] at h;cases h),fun h=>absurd h2 h,fun h=>(by rw[h2] at h;cases h)⟩
  | m o=>
    obtain⟨_,_,h1,h2,_⟩:=h
    exact⟨fun _=>by omega,fun _=>h1,fun _=>h2⟩
  | call f xs=>
    obtain⟨p,_,⟨ps,r,_,_,_,_,_,h1,h2⟩ | ⟨sto,_,_,h0,h1,h2,_⟩⟩:=h
    ·exact⟨fun h=>(by rw[h1] at h;cases h),fun h=>absurd h2 h,fun h=>(by rw[h2] at h;cases h)⟩
    ·exact⟨fun _=>h0,fun _=>h1,fun h=>(by rw[h2] at h;cases h)⟩
  | fz g x=>exact h.elim
theorem RJ {P:Program}{G:Nat->List PV}:∀ (ops:List AOper) (s:St) (T:List Ent) (s':St),Tr P G ops s T s' ->
  ops.length=T.length/\s'.E=bL (fun _=>true) (T.map Ent.env) 0 s.E/\s'.σ=bL (fun _=>true) (T.map (·.δ)) 0 s.σ/\s.next<=s'.next /\
  (∀ (i:Nat) (e:Ent),T[i]? = some e->e.isM=true->s.next<=e.new/\e.top<=s'.next) /\
  (∀ (i j:Nat) (e e':Ent),i<j->T[i]? = some e->T[j]? = some e'->e.isM=true->e'.isM=true->e.top<=e'.new) /\
  ∀ (i:Nat) (e:Ent),T[i]? = some e->∃ o,ops[i]? = some o/\e.dst=o.dst/\∃ si:St,si.E=bL (fun j=>decide (j<i)) (T.map Ent.env) 0 s.E/\si.σ=bL (fun j=>decide (j<i)) (T.map (·.δ)) 0 s.σ /\
    oH P G si.E si.σ (bT si o.guard) o.op e
 | [],s,[],s',h=>by
   have h:s'=s:=h
   subst h
   exact⟨rfl,rfl,rfl,Nat.le_refl _,by simp,by simp,by simp⟩
 | o::r,s,e::T,s',h=>by
   obtain⟨hd,hn,hst,hr⟩:=h
   obtain⟨h1,h2,h3,h4,h5,h6,h7⟩:=RJ r (g8 s e) T s' hr
   have hnx:(g8 s e).next=if e.isM=true then e.top else s.next:=by
    have hp:∀ (s:St) (d:Option Nat) (v:AV),(s.put d v).next=s.next:=by intro s d v;cases d<;>rfl
    unfold g8
    split
    ·rw[hp]
    ·rw[hp]
   have htp:=hst.tops.1
   have hle:s.next<=(g8 s e).next:=by
    rw[hnx]
    split
    ·have:=htp ‹_›;omega
    ·exact Nat.le_refl _
   have shift:∀ {β:Type} (S:Nat->Bool) (W:List (List (Nat×β))) (k:Nat) (g:Nat->β),bL (fun j=>S (j+1)) W k g=bL S W (k+1) g:=by
    intro β S W
    induction W with
    | nil=>intros;rfl
    | cons a b ih=>intro k g;simp only[bL];exact ih (k+1) _
   refine⟨by simp[h1],?_,?_,by omega,?_,?_,?_⟩
   ·rw[h2,uL]
    simp only[List.map_cons,bL,if_true]
    rw[<- shift]
   ·rw[h3,uK s e hst.noM]
    simp only[List.map_cons,bL,if_true]
    rw[<- shift]
   ·intro i e' hi hm
    cases i with
    | zero=>
      simp only[List.getElem?_cons_zero,Option.some.injEq] at hi
      subst hi
      rw[if_pos hm] at hnx
      omega
    | succ i=>
      have:=h5 i e' (by simpa using hi) hm
      omega
   ·intro i j e1 e2 hij hi hj hm1 hm2
    cases j with
    | zero=>omega
    | succ j=>
      cases i with
      | zero=>
        simp only[List.getElem?_cons_zero,Option.some.injEq] at hi
        subst hi
        have:=(h5 j e2 (by simpa using hj) hm2).1
        rw[if_pos hm1] at hnx
        omega
      | succ i=>exact h6 i j e1 e2 (by omega) (by simpa using hi) (by simpa using hj) hm1 hm2
   ·intro i e' hi
    cases i with
    | zero=>
      simp only[List.getElem?_cons_zero,Option.some.injEq] at hi
      subst hi
      have hno:∀ {β:Type} (W:List (List (Nat×β))) (k:Nat) (g:Nat->β),bL (fun j=>decide (j<0)) W k g=g:=by
       intro β W
       induction W with
       | nil=>intros;rfl
       | cons a b ih=>intro k g;rw[bL];simpa using ih (k+1) g
      exact⟨o,rfl,hd,s,(hno _ _ _).symm,(hno _ _ _).symm,hst⟩
    | succ i=>
      obtain⟨o',ho',hd',si,k1,k2,k3⟩:=h7 i e' (by simpa using hi)
      refine⟨o',by simpa using ho',hd',si,?_,?_,k3⟩
      ·rw[k1,uL]
       simp only[List.map_cons,bL,Nat.zero_lt_succ,decide_true,if_true]
       rw[<- shift]
       simp
      ·rw[k2,uK s e hst.noM]
       simp only[List.map_cons,bL,Nat.zero_lt_succ,decide_true,if_true]
       rw[<- shift]
       simp
 | [],s,e::T,s',h=>h.elim
 | o::r,s,[],s',h=>h.elim
theorem mU {A:List (List Nat)}{L:List (List Nat×List Nat)}(h:okB A L=true){i j x:Nat}{p q:List Nat×List Nat}(hj:L[j]? = some p)(hi:L[i]? = some q)(hne:j≠i)(hx:x∈p.1)(hy:x∈q.2\/x∈q.1):FP A j i=true:=by
 have h1:=(List.all_eq_true.1 h) (p,j) (List.mem_of_getElem? (i:=j) (by simp[List.getElem?_zipIdx,hj]))
 have h2:=(List.all_eq_true.1 h1) (q,i) (List.mem_of_getElem? (i:=i) (by simp[List.getElem?_zipIdx,hi]))
 simp only[Bool.or_eq_true,beq_iff_eq,Bool.not_eq_true'] at h2
 rcases h2 with (h2 | h2) | h2
 ·exact absurd h2 hne
 ·exfalso
  have:Qj p.1 (q.2++q.1)=true:=by
   refine List.any_eq_true.2 ⟨x,hx,?_⟩
   simp only[List.contains_eq_mem,decide_eq_true_eq,List.mem_append]
   exact hy
  rw[this] at h2;cases h2
 ·exact h2
theorem f0 {S:Nat->Bool}:∀ (ds acc:List (List Nat)) (k:Nat),acc.length=k->(∀ i d,ds[i]? = some d->S (k+i)=true->∀ j∈d,S j=true) ->
  (∀ i a,acc[i]? = some a->S i=true->∀ j∈a,S j=true)->(∀ i a,acc[i]? = some a->i<k) ->
  (∀ i a,(aQ ds acc)[i]? = some a->S i=true->∀ j∈a,S j=true) /\
  ∀ i d,ds[i]? = some d->(∀ j∈d,S j=true)->∀ a,(aQ ds acc)[k+i]? = some a->∀ j∈a,S j=true
 | [],acc,k,hk,_,h2,_=>⟨h2,by simp⟩
 | d::r,acc,k,hk,h1,h2,h3=>by
   have hrow:(∀ j∈d,S j=true)->∀ j∈KJ (d++d.flatMap fun j=>acc.getD j []),S j=true:=by
    intro hd j hj
    rw[jU] at hj
    rcases List.mem_append.1 hj with hj | hj
    ·exact hd j hj
    ·obtain⟨m,hm,hj⟩:=List.mem_flatMap.1 hj
     cases ha:acc[m]? with
     | none=>rw[List.getD_eq_getElem?_getD,ha] at hj;simp at hj
     | some a=>rw[List.getD_eq_getElem?_getD,ha] at hj;exact h2 m a ha (hd m hm) j hj
   have hacc:∀ i a,(acc++[KJ (d++d.flatMap fun j=>acc.getD j [])])[i]? = some a->S i=true->∀ j∈a,S j=true:=by
    intro i a ha hS
    by_cases hi:i<k
    ·rw[List.getElem?_append_left (by omega)] at ha
     exact h2 i a ha hS
    ·rw[List.getElem?_append_right (by omega)] at ha
     have hik:i=k:=by
      have:=(List.getElem?_eq_some_iff.1 ha).1
      simp at this;omega
     subst hik
     rw[hk] at ha
     simp only[Nat.sub_self,List.getElem?_cons_zero,Option.some.injEq] at ha
     subst ha
     exact hrow (h1 0 d rfl (by simpa using hS))
   obtain⟨k1,k2⟩:=f0 r (acc++[KJ (d++d.flatMap fun j=>acc.getD j [])]) (k+1) (by simp[hk]) (fun i e he hS=>h1 (i+1) e (by simpa using he) (by rw[show k+(i+1)=k+1+i by omega];exact hS)) hacc
    (fun i a ha=>by have:=(List.getElem?_eq_some_iff.1 ha).1;simp at this;omega)
   refine⟨k1,fun i e he hd a ha=>?_⟩
   have keep:∀ (ds acc:List (List Nat)) (i:Nat),i<acc.length->(aQ ds acc)[i]? = acc[i]?:=by
    intro ds
    induction ds with
    | nil=>intros;rfl
    | cons d r ih=>
      intro acc i hi
      rw[aQ,ih _ i (by simp;omega),List.getElem?_append_left hi]
   cases i with
   | zero=>
     simp only[List.getElem?_cons_zero,Option.some.injEq] at he
     subst he
     rw[aQ,Nat.add_zero,keep _ _ _ (by simp;omega),List.getElem?_append_right (by omega),hk] at ha
     simp only[Nat.sub_self,List.getElem?_cons_zero,Option.some.injEq] at ha
     subst ha
     exact hrow hd
   | succ i=>
     rw[aQ,show k+(i+1)=k+1+i by omega] at ha
     exact k2 i e (by simpa using he) hd a ha
theorem f5:∀ (ds acc:List (List Nat)),(aQ ds acc).length=acc.length+ds.length
 | [],acc=>by simp[aQ]
 | d::r,acc=>by rw[aQ,f5];simp;omega
section
variable {P:Program}{c:Ctx}{κ0:Kap}{N:Nat}{ro:Option Nat}{nf:Nat}
theorem tM {muts:List Nat}{ops:Array Oper}:∀ (l:List Oper) (aops:List AOper),FV P muts N ops l=some aops->l.length=aops.length/\∀ (i:Nat) (o:Oper),l[i]? = some o->∃ ao,aops[i]? = some ao/\zZ P muts N ops o=some ao
 | [],aops,h=>by simp[FV] at h;subst h;simp
 | o::r,aops,h=>by
   simp only[FV] at h
   split at h
   ·rename_i a b ha hb
    cases h
    obtain⟨h1,h2⟩:=tM r b hb
    refine⟨by simp[h1],fun i o' hi=>?_⟩
    cases i with
    | zero=>simp only[List.getElem?_cons_zero,Option.some.injEq] at hi;subst hi;exact⟨a,rfl,ha⟩
    | succ i=>exact h2 i o' (by simpa using hi)
   ·cases h
structure Mid (c:Ctx)(κ0:Kap)(N:Nat)(s:St)(T:List Ent)(S:Nat->Bool)(a:Act)(w:World)(κ:Kap):Prop where
 w_eq:κ.w=w
 ext0:Ext κ0 κ
 rel:SRel c κ (bL S (T.map (·.δ)) 0 s.σ)
 left:Left c κ0.imm κ
 env:∀ x,ARel κ (bL S (T.map Ent.env) 0 s.E x) (a.tmps.getD x Go.undef)
 size:a.tmps.size=N
 defers:dx c κ a.defers
 fresh:∀ r,s.next<=r->κ.nm r≠none->∃ j e,S j=true/\T[j]? = some e/\((e.kd=1/\e.new=r)\/(e.kd=2/\r<e.top))
theorem ov {e:Ent}{x:Nat}:x∈aU e.env↔e.dst=some x:=by
 unfold Ent.env aU
 cases e.dst with
 | none=>simp
 | some d=>simp[eq_comm]
theorem Im {muts:List Nat}{ops:Array Oper}{o:Oper}{ao:AOper}{s si:St}{T:List Ent}{S S':Nat->Bool}{a:Act}{w:World}{κ:Kap}{e:Ent}{i:Nat}{K:Act->World->Prop}{Q:Exit->Act->World->Prop}
  (hc:zZ P muts N ops o=some ao) (hM:Mid c κ0 N s T S a w κ) (hi:T[i]? = some e) (hSi:S i=false) (hS':S' i=true) (hSS:∀ j,j≠i->S' j=S j) (hdst:e.dst=ao.dst)
  (hstep:oH P c.G si.E si.σ (bT si ao.guard) ao.op e)
  (hE:∀ x∈ao.slots,bL S (T.map Ent.env) 0 s.E x=si.E x) (hσ:∀ r∈e.reads,bL S (T.map (·.δ)) 0 s.σ r=si.σ r)
  (hoE:∀ j v r,j≠i->(T.map Ent.env)[j]? = some v->r∈aU v->r∈aU e.env->i<j->S j=false) (hoσ:∀ j v r,j≠i->(T.map (·.δ))[j]? = some v->r∈aU v->r∈aU e.δ->i<j->S j=false)
  (hnew:e.isM=true->s.next<=e.new) (hnone:e.kd≠0->∀ r,(e.kd=1->r=e.new)->e.new<=r->∀ j e',S j=true->T[j]? = some e'->¬ ((e'.kd=1/\e'.new=r)\/(e'.kd=2/\r<e'.top)))
  (hK:∀ a w κ,Mid c κ0 N s T S' a w κ->K a w) :
  if Region.wanted o (yielded ops a.tmps)=true then o.wpIn (FR ro) nf P a w K Q else K (a.put o.dst Go.undef) w:=by
 have hw:=hM.w_eq
 subst hw
 unfold zZ at hc
 split at hc
 ·rename_i g op hg hop
  split at hc
  ·rename_i hd
   cases hc
   simp only at hstep hdst
   let sS:St:=⟨[],[],0⟩
   have hEenv:bL S' (T.map Ent.env) 0 s.E=mz (bL S (T.map Ent.env) 0 s.E) e.env:=rk (by simp[hi]) hS' hSS hoE
   have hσenv:bL S' (T.map (·.δ)) 0 s.σ=mz (bL S (T.map (·.δ)) 0 s.σ) e.δ:=rk (by simp[hi]) hS' hSS hoσ
   have put':∀ (κ':Kap) (u:Value),(∀ x,ARel κ' (bL S (T.map Ent.env) 0 s.E x) (a.tmps.getD x Go.undef))->ARel κ' e.v u ->
     (∀ x,ARel κ' (bL S' (T.map Ent.env) 0 s.E x) ((a.put o.dst u).tmps.getD x Go.undef))/\(a.put o.dst u).tmps.size=N/\(a.put o.dst u).defers=a.defers:=by
    intro κ' u h1 h2
    rw[hEenv]
    cases hod:o.dst with
    | none=>
      have:e.env=[]:=by unfold Ent.env;rw[hdst,hod]
      rw[this]
      exact⟨h1,hM.size,rfl⟩
    | some d=>
      have hev:e.env=[(d,e.v)]:=by unfold Ent.env;rw[hdst,hod]
      rw[hev]
      rw[hod] at hd
      simp only[yS,decide_eq_true_eq] at hd
      refine⟨fun x=>?_,by simp[Act.put,hM.size],rfl⟩
      simp only[mz,Act.put]
      by_cases hx:x=d
      ·subst hx
       rw[if_pos rfl]
       have:(a.tmps.setIfInBounds x u).getD x Go.undef=u:=by simp[Array.getD_eq_getD_getElem?,hM.size,hd]
       rw[this];exact h2
      ·rw[if_neg hx]
       have:(a.tmps.setIfInBounds d u).getD x Go.undef=a.tmps.getD x Go.undef:=by
        simp only[Array.getD_eq_getD_getElem?,Array.getElem?_setIfInBounds]
        rw[if_neg (fun h=>hx h.symm)]
       rw[this];exact h1 x
   have hguard:∀ b,bT si g=some b->Region.wanted o (yielded ops a.tmps)=b:=by
    intro b hb
    have hcg:bT ⟨(match g with | some (i,_)=>[(i,si.E i)] | none=>[]),[],0⟩ g=some b:=by
     cases g with
     | none=>exact hb
     | some p=>
       obtain⟨x,y⟩:=p
       simp only[bT,St.E,look,if_true] at hb ⊢
       exact hb
    refine fb (κ:=κ) (a:=a) hg (fun x=>?_) hcg
    cases g with
    | none=>exact .any _
    | some p=>
      obtain⟨y,z⟩:=p
      simp only[St.E,look]
      by_cases hx:y=x
      ·subst hx
       rw[if_pos rfl]
       have:=hM.env y
       rw[hE y (by simp[AOper.slots])] at this
       exact this
      ·rw[if_neg hx];exact .any _
   have fresh0:∀ r,s.next<=r->κ.nm r≠none->∃ j e,S' j=true/\T[j]? = some e/\((e.kd=1/\e.new=r)\/(e.kd=2/\r<e.top)):=by
    intro r hr hn
    obtain⟨j,e',h1,h2,h3⟩:=hM.fresh r hr hn
    have hj:j≠i:=by rintro rfl;rw[hSi] at h1;cases h1
    exact⟨j,e',by rw[hSS j hj];exact h1,h2,h3⟩
   have slotsE:∀ x∈op.slots,bL S (T.map Ent.env) 0 s.E x=si.E x:=fun x hx=>hE x (by simp[AOper.slots,hx])
   rcases hstep with ⟨hb,hv,hδ,hrd,hm,_⟩ | ⟨hb,hst⟩
   ·rw[hguard _ hb,if_neg (by simp)]
    obtain⟨p1,p2,p3⟩:=put' κ Go.undef hM.env (by rw[hv];exact .pv _ _ .undef)
    exact hK _ _ κ ⟨rfl,hM.ext0,by rw[hσenv,hδ];exact hM.rel,hM.left,p1,p2,by rw[p3];exact hM.defers,fresh0⟩
   ·rw[hguard _ hb,if_pos rfl]
    generalize hmu:Un muts o.dst=mu at hop
    rcases KU hop with ⟨g,x,rfl,hz⟩ | ⟨t,rfl,ht⟩ | ⟨m,rfl,hmm⟩ | rfl
    ·exact hst.elim
    ·replace ht:=vU ht
     obtain⟨hrun,hδ,hrd,hm,_⟩:=hst
     rw[<- TOp.run_congr (E:=bL S (T.map Ent.env) 0 s.E) (E':=si.E) (fun x hx=>slotsE x hx)] at hrun
     obtain⟨u,h1,h2⟩:=oY (P:=P) (κ:=κ) (E:=bL S (T.map Ent.env) 0 s.E) (a:=a) ht (fun x _=>hM.env x) hrun
     obtain⟨p1,p2,p3⟩:=put' κ u hM.env h2
     refine dX h1 ?_
     exact hK _ _ κ ⟨rfl,hM.ext0,by rw[hσenv,hδ];exact hM.rel,hM.left,p1,p2,by rw[p3];exact hM.defers,fresh0⟩
    ·
      obtain⟨hrun,hrd,hm,htop,hkd⟩:=hst
      have hreads:m.reads (bL S (T.map Ent.env) 0 s.E)=m.reads si.E:=by
       have hh:∀ x∈m.slots,bL S (T.map Ent.env) 0 s.E x=si.E x:=fun x hx=>slotsE x hx
       cases m<;>simp only[MOp.reads,MOp.slots,List.mem_append] at hh ⊢
       case load g sz x=>rw[aw hh]
       case toStr x=>rw[aw hh]
       case xop o=>exact XOp.reads_congr hh
       case store sz x v=>rw[aw (x:=x) (fun i hi=>hh i (.inl hi))]
       case append mu e sz b x y=>rw[aw (x:=x) (fun i hi=>hh i (.inl hi)),aw (x:=y) (fun i hi=>hh i (.inr hi))]
      rw[<- MOp.run_congr (E:=bL S (T.map Ent.env) 0 s.E) (E':=si.E) (σ:=bL S (T.map (·.δ)) 0 s.σ) (σ':=si.σ) (fun x hx=>slotsE x hx) (fun r hr=>hσ r (by rw[hrd,<- hreads];exact hr))] at hrun
      have hn:m.makes=true->κ.nm e.new=none:=by
       intro hmk
       have hk1:e.kd=1:=by rw[hkd,bw,if_pos hmk]
       cases hk:κ.nm e.new with
       | none=>rfl
       | some d=>
         obtain⟨j,e',h1,h2,h3⟩:=hM.fresh e.new (hnew hm) (by rw[hk];simp)
         exact absurd h3 (hnone (by omega) e.new (fun _=>rfl) (Nat.le_refl _) j e' h1 h2)
      obtain⟨x,u,κ',h1,h2,h3,h4,h5,h6⟩:=mX (P:=P) hmm hM.rel hM.left.size hn (fun x _=>hM.env x) hrun
      obtain⟨p1,p2,p3⟩:=put' κ' u (fun x=>(hM.env x).ext h4.ext) h3
      have hMid:Mid c κ0 N s T S' (a.put o.dst u) κ'.w κ':=by
       refine⟨rfl,hM.ext0.trans h4.ext,?_,h4.left _ hM.left,p1,p2,by rw[p3];exact hM.defers.ext h4.ext,fun r hr hnn=>?_⟩
       ·rw[hσenv,<- ee];exact h5
       ·cases hmk:m.makes with
        | false=>rw[h6 hmk] at hnn;exact fresh0 r hr hnn
        | true=>
          by_cases hre:r=e.new
          ·exact⟨i,e,hS',hi,.inl ⟨by rw[hkd,bw,if_pos hmk],hre.symm⟩⟩
          ·refine fresh0 r hr fun hz=>hnn (h4.fresh r hre hz)
      rcases h2 with rfl | ⟨rfl,rfl⟩
      ·exact dX h1 (hK _ _ κ' hMid)
      ·exact uF h1 (hK _ _ κ' hMid)
    ·
      rcases q9 P o.op with hb | ⟨af,xs,hce,hco⟩
      ·rw[hb] at hst;obtain⟨p,hcl,_⟩:=hst;simp[jK,AX.ev,dw] at hcl
      ·rw[hce] at hst slotsE
       ·obtain⟨p,hcl,hst⟩:=hst
        have hevf:af.ev (bL S (T.map Ent.env) 0 s.E)=af.ev si.E:=aw fun x hx=>slotsE x (by simp[AOp.slots,hx])
        have hevx:xs.map (·.ev (bL S (T.map Ent.env) 0 s.E))=xs.map (·.ev si.E):=iq fun x hx=>slotsE x (by simp only[AOp.slots,List.mem_append];exact .inr hx)
        rw[<- hevf] at hcl
        obtain⟨vs,us,args,hvs,hus,hv1,hu1,hxs,hrun0⟩:=vR (P:=P) (κ:=κ) (E:=bL S (T.map Ent.env) 0 s.E) (a:=a) hco (fun x=>hM.env x) hcl
        obtain⟨hxl,hxr⟩:=jf (κ:=κ) (E:=bL S (T.map Ent.env) 0 s.E) (a:=a) hxs (fun x _=>hM.env x)
        have hmid:∀ (i:Nat) (x:AV),(xs.map (·.ev (bL S (T.map Ent.env) 0 s.E)))[i]? = some x->ARel κ x ((args.map a.eval).getD i Go.undef):=by
         intro i x hx
         rw[aC];simpa using hxr i x hx
        have hall:=cz (κ:=κ) (by simp[hvs];exact hxl) (cz (κ:=κ) hvs hv1 hmid) hu1
        rcases hst with ⟨ps,r,hps,⟨hcal,hP⟩,hv,hδ,hrd,hm,_⟩ | ⟨sto,hsto,⟨hcal,hT⟩,htop,hm,hkd,hlive⟩
        rotate_left
        ·-- a call that is lent memory
         rw[<- hevx] at hT
         have hrun:=hrun0 hcal κ.w
         refine kU hrun ?_
         have hR:=hM.rel
         have hL:=hM.left
         have hreads:∀ r,si.σ r≠.none->bL S (T.map (·.δ)) 0 s.σ r=si.σ r:=fun r hr=>hσ r (hlive r hr)
         have hzz:∀ r,si.σ r≠.none->bL S (T.map (·.δ)) 0 s.σ r≠.none:=fun r hr=>by rw[hreads r hr];exact hr
         have hS0:SRel (cl κ si.σ c.G) κ si.σ:=by
          refine⟨fun r=>?_,fun r r' d d' b h1 h2=>hR.apart r r' d d' b (hzz r h1) (hzz r' h2),fun r d b h1 h2 h3=>.inr ⟨r,d,h1,h2,h3⟩,hR.immLt,hR.glob.lend fun b ⟨r,d,h1,h2,h3⟩=>hR.mine r d b (hzz r h1) h2 h3⟩
          by_cases hr:si.σ r = .none
          ·rw[hr];trivial
          ·rw[<- hreads r hr];exact hR.blk r
         have hfr:∀ r,e.new<=r->κ.nm r=none:=by
          intro r hr
          cases hk:κ.nm r with
          | none=>rfl
          | some d=>
            obtain⟨j,e',h1,h2,h3⟩:=hM.fresh r (Nat.le_trans (hnew hm) hr) (by rw[hk];simp)
            exact absurd h3 (hnone (by omega) r (fun h=>by omega) hr j e' h1 h2)
         refine (hT κ _ (by rw[hsto];exact hS0) hfr (by simp[hvs,hus];simpa using hxl) hall).mono ?_
         rintro e1 w' ⟨u,v',κ',sto',next',rfl,rfl,he,hL1,hv1,hS1,hf1,rfl,hsto',rfl⟩
         rw[hsto] at hL1 hS1
         rw[hsto'] at hS1
         obtain⟨p1,p2,p3⟩:=put' κ' u (fun x=>(hM.env x).ext he) hv1
         have hlent:∀ b,(cl κ si.σ c.G).lent b->c.mine b:=by
          rintro b ⟨r,d,h1,h2,h3⟩
          exact hR.mine r d b (hzz r h1) h2 h3
         have hmine:∀ b,(cl κ si.σ c.G).mine b->c.mine b:=by
          intro b hb
          rcases hb with hb | hb
          ·exact .inl (Nat.le_trans hL.size hb)
          ·exact hlent b hb
         have hupd:∀ r,r∈aU e.δ\/si.σ r≠.none->au.upd (bL S (T.map (·.δ)) 0 s.σ) e.δ r=au.upd si.σ e.δ r:=by
          intro r hr
          rw[ee,ee]
          exact oD e.δ _ _ (hr.imp id (hreads r))
         have hout:∀ r,¬ (r∈aU e.δ\/si.σ r≠.none)->au.upd (bL S (T.map (·.δ)) 0 s.σ) e.δ r=bL S (T.map (·.δ)) 0 s.σ r/\au.upd si.σ e.δ r = .none:=by
          intro r hr
          have hk:r∉aU e.δ:=fun h=>hr (.inl h)
          have hz:si.σ r = .none:=Classical.byContradiction fun h=>hr (.inr h)
          rw[ee,ee,iB _ _ hk,iB _ _ hk]
          exact⟨rfl,hz⟩
         have hfar:∀ r d b,bL S (T.map (·.δ)) 0 s.σ r≠.none->¬ (r∈aU e.δ\/si.σ r≠.none)->κ.nm r=some d->d.block=some b->b<κ.w.heap.size/\¬ (cl κ si.σ c.G).lent b:=by
          intro r d b h1 h2 h3 h4
          refine⟨(hR.blk r).lt h1 h3 h4,?_⟩
          rintro⟨r',d',k1,k2,k3⟩
          have hne:r≠r':=by rintro rfl;exact h2 (.inr k1)
          exact hR.apart r r' d d' b h1 (hzz r' k1) hne h3 k2 h4 k3
         have hnm:∀ r d',bL S (T.map (·.δ)) 0 s.σ r≠.none->κ'.nm r=some d'->∃ d,κ.nm r=some d/\d=d':=by
          intro r d' h1 h2
          have hb:=hR.blk r
          generalize bL S (T.map (·.δ)) 0 s.σ r=B at hb h1
          cases B with
          | none=>exact absurd rfl h1
          | cells A f l=>
            rcases hb with ⟨_,_,q1⟩ | ⟨b,n,cs,q1,_⟩
            ·have:=he.nm r _ q1
             rw[this] at h2;cases h2
             exact⟨_,q1,rfl⟩
            have:=he.nm r _ q1
            rw[this] at h2;cases h2
            exact⟨_,q1,rfl⟩
          | tok A z=>
            rcases hb with q1 | ⟨b,n,cap,cs,q1,_⟩
            ·have:=he.nm r _ q1
             rw[this] at h2;cases h2
             exact⟨_,q1,rfl⟩
            have:=he.nm r _ q1
            rw[this] at h2;cases h2
            exact⟨_,q1,rfl⟩
          | bts e l=>
            obtain⟨b,n,cs,fz,q1,_⟩:=hb
            have:=he.nm r _ q1
            rw[this] at h2;cases h2
            exact⟨_,q1,rfl⟩
         refine hK _ _ κ' ⟨rfl,hM.ext0.trans he,?_,⟨hL1.os.trans hL.os,hL1.tape.trans hL.tape,hL1.output.trans hL.output,Nat.le_trans hL.size hL1.size,fun b hlt hl=>?_,fun b o hi=>?_⟩,p1,p2,by rw[p3];exact hM.defers.ext he,fun r hr hnn=>?_⟩
         ·rw[hσenv,<- ee]
          refine⟨fun r=>?_,fun r r' d d' b h1 h2 hne h3 h4 h5=>?_,fun r d b h1 h2 h3=>?_,hS1.immLt,hR.glob.back hlent hS1.glob hL1.block⟩
          ·by_cases hr:r∈aU e.δ\/si.σ r≠.none
           ·rw[hupd r hr];exact hS1.blk r
           ·rw[(hout r hr).1]
            refine (hR.blk r).keep he fun hz d b hd hbk=>?_
            obtain⟨q1,q2⟩:=hfar r d b hz hr hd hbk
            exact⟨hL1.block b q1 q2,fun o ho=>(hL1.imm b o ho).elim id fun h=>h.elim (fun h=>absurd q1 (Nat.not_lt.2 h)) (fun h=>absurd h q2)⟩
          ·by_cases hr:r∈aU e.δ\/si.σ r≠.none
           ·rw[hupd r hr] at h1
            by_cases hr':r'∈aU e.δ\/si.σ r'≠.none
            ·rw[hupd r' hr'] at h2
             exact hS1.apart r r' d d' b h1 h2 hne h3 h4 h5
            ·rw[(hout r' hr').1] at h2
             intro h6
             obtain⟨d2,q1,rfl⟩:=hnm r' d' h2 h4
             obtain⟨q3,q4⟩:=hfar r' _ b h2 hr' q1 h6
             rcases hS1.mine r d b h1 h3 h5 with h | h
             ·exact absurd q3 (Nat.not_lt.2 h)
             ·exact q4 h
           ·rw[(hout r hr).1] at h1
            obtain⟨d1,q1,rfl⟩:=hnm r d h1 h3
            obtain⟨q3,q4⟩:=hfar r _ b h1 hr q1 h5
            intro h6
            by_cases hr':r'∈aU e.δ\/si.σ r'≠.none
            ·rw[hupd r' hr'] at h2
             rcases hS1.mine r' d' b h2 h4 h6 with h | h
             ·exact absurd q3 (Nat.not_lt.2 h)
             ·exact q4 h
            ·rw[(hout r' hr').1] at h2
             obtain⟨d2,q1',rfl⟩:=hnm r' d' h2 h4
             exact hR.apart r r' _ _ b h1 h2 hne q1 q1' h5 h6
          ·by_cases hr:r∈aU e.δ\/si.σ r≠.none
           ·rw[hupd r hr] at h1
            exact hmine b (hS1.mine r d b h1 h2 h3)
           ·rw[(hout r hr).1] at h1
            obtain⟨d1,q1,rfl⟩:=hnm r d h1 h2
            exact hR.mine r _ b h1 q1 h3
         ·refine (hL1.block b (Nat.lt_of_lt_of_le hlt hL.size) fun h=>?_).trans (hL.block b hlt hl)
          rcases hlent b h with h | h
          ·exact absurd hlt (Nat.not_lt.2 h)
          ·exact hl h
         ·rcases hL1.imm b o hi with h | h
          ·exact hL.imm b o h
          ·exact .inr (hmine b h)
         ·by_cases hk:κ.nm r=none
          ·refine⟨i,e,hS',hi,.inr ⟨hkd,?_⟩⟩
           rcases Nat.lt_or_ge r e.top with h | h
           ·exact h
           ·exact absurd (hf1 r h) hnn
          ·exact fresh0 r hr hk
        rw[<- hevx] at hps
        have hrun:=hrun0 hcal κ.w
        refine kU hrun ?_
        refine (hP κ.w κ.imm _ hM.rel.glob.ok hM.rel.immLt (by rw[bU hps];simp[hvs,hus];simpa using hxl) fun k x hx=>?_).mono ?_
        ·obtain⟨y,hy,hp⟩:=cw hps k x hx
         exact bQ hp (hall k y hy)
        ·rintro e' w' ⟨u,imm',rfl,hbl,h1,h2,h3,h4⟩
         have hst:Rel c κ0 N ⟨[],[],s.next⟩ a κ.w κ->True:=fun _=>trivial
         have he:Ext κ ⟨w',κ.nm,imm'⟩:=by
          refine⟨h1,fun b o v hi hc=>?_,fun _ _ h=>h,fun b o ho _=>(hbl.block b (Array.getElem?_eq_some_iff.1 ho).1).trans ho⟩
          have hl:=World.block_lt_of_cell? κ.w _ hc
          exact (World.cell?_of_block (a:=⟨b,o,none⟩) (hbl.block b hl)).trans hc
         have hL:=hM.left
         have hR:=hM.rel
         obtain⟨p1,p2,p3⟩:=put' ⟨w',κ.nm,imm'⟩ u (fun x=>(hM.env x).ext he) (by rw[hv];exact .pv _ _ h4)
         refine hK _ _ ⟨w',κ.nm,imm'⟩ ⟨rfl,hM.ext0.trans he,?_,⟨hbl.os.trans hL.os,hbl.tape.trans hL.tape,hbl.output.trans hL.output,Nat.le_trans hL.size hbl.size,fun b hlt hl=>?_,fun b o hi=>?_⟩,p1,p2,by rw[p3];exact hM.defers.ext he,fresh0⟩
         ·rw[hσenv,hδ]
          refine⟨fun r=>?_,hR.apart,hR.mine,h3,SRel.glob_ext he hR.glob fun g h1 _=>hbl.block g (Nat.lt_of_lt_of_le h1 hL.size)⟩
          refine (hR.blk r).keep he fun hz d b hd hbk=>?_
          have hl:=(hR.blk r).lt hz hd hbk
          exact⟨hbl.block b hl,fun o ho=>(h2 b o ho).elim id (fun h=>by omega)⟩
         ·exact (hbl.block b (Nat.lt_of_lt_of_le hlt hL.size)).trans (hL.block b hlt hl)
         ·rcases h2 b o hi with h | h
          ·exact hL.imm b o h
          ·exact .inr (.inl (Nat.le_trans hL.size h))
  ·cases hc
 ·cases hc
end
section
variable {P:Program}{c:Ctx}{κ0:Kap}{N:Nat}{ro:Option Nat}{nf:Nat}
theorem Ff {md:Region.Mode}{e:Edge}(h:Region.binds .any e=true):Region.binds md e=true:=by
 unfold Region.binds at h ⊢
 split at h
 ·exact absurd h (by decide)
 ·exact absurd h (by decide)
 ·rfl
theorem kG {md:Region.Mode}{ops:Array Oper}{listed:Array Bool}{i:Nat}(h:i∈Region.ready md ops listed):∃ o,ops[i]? = some o/\i<ops.size/\listed.getD i true=false/\∀ j∈aO o,listed.getD j false=true:=by
 unfold Region.ready at h
 simp only[List.mem_filter,List.mem_range,Bool.and_eq_true,Bool.not_eq_true'] at h
 obtain⟨h1,h2,h3⟩:=h
 refine⟨ops[i],by simp[h1],h1,h2,fun j hj=>?_⟩
 have ho:ops[i]? = some ops[i]:=by simp[h1]
 rw[ho] at h3
 simp only[Option.map_some,Option.getD_some,Array.all_eq_true_iff_forall_mem,Bool.or_eq_true,Bool.not_eq_true'] at h3
 simp only[aO,List.mem_map,List.mem_filter] at hj
 obtain⟨e,⟨he,hb⟩,rfl⟩:=hj
 rcases h3 e (by simpa using he) with h | h
 ·rw[Ff hb] at h;cases h
 ·exact h
theorem pp {md:Region.Mode}{ops:Array Oper}{listed:Array Bool}(hsz:listed.size=ops.size)(hr:Region.ready md ops listed=[])(rank:Nat->Nat)
  (hlt:∀ (i:Nat) (o:Oper),ops[i]? = some o->∀ e∈o.after,Region.binds md e=true->e.on<ops.size/\rank e.on<rank i) :
  ∀ i,i<ops.size->listed.getD i false=true:=by
 have main:∀ n i,rank i=n->i<ops.size->listed.getD i false=true:=by
  intro n
  induction n using Nat.strongRecOn with
  | _ n ih=>
    intro i hin hi
    cases hL:listed.getD i false with
    | true=>rfl
    | false=>
      exfalso
      have hm:i∈Region.ready md ops listed:=by
       unfold Region.ready
       simp only[List.mem_filter,List.mem_range,Bool.and_eq_true,Bool.not_eq_true']
       have ho:ops[i]? = some ops[i]:=by simp[hi]
       refine⟨hi,?_,?_⟩
       ·have hi':i<listed.size:=by omega
        simp[Array.getD_eq_getD_getElem?,hi'] at hL ⊢
        exact hL
       ·rw[ho]
        simp only[Option.map_some,Option.getD_some,Array.all_eq_true_iff_forall_mem,Bool.or_eq_true,Bool.not_eq_true']
        intro e he
        cases hb:Region.binds md e with
        | false=>exact .inl rfl
        | true=>
          right
          obtain⟨h1,h2⟩:=hlt i _ ho e he hb
          exact ih (rank e.on) (by omega) e.on rfl h1
      rw[hr] at hm;cases hm
 exact fun i hi=>main _ i rfl hi
theorem kH {md:Region.Mode}{ops:Array Oper}(h:ut md ops=true):∃ rank:Nat->Nat,∀ (i:Nat) (o:Oper),ops[i]? = some o->∀ e∈o.after,Region.binds md e=true->e.on<ops.size/\rank e.on<rank i:=by
 unfold ut at h
 simp only at h
 refine⟨fun i=>R6 i (Lr ((mC md ops).zipIdx.map fun p=>(p.2,p.1)).length ((mC md ops).zipIdx.map fun p=>(p.2,p.1)) []),fun i o ho e he hb=>?_⟩
 have hm:(i,(o.after.toList.filter (Region.binds md)).map (·.on))∈(mC md ops).zipIdx.map fun p=>(p.2,p.1):=by
  refine List.mem_map.2 ⟨((o.after.toList.filter (Region.binds md)).map (·.on),i),List.mem_of_getElem? (i:=i) ?_,rfl⟩
  simp[List.getElem?_zipIdx,mC,ho]
 have h1:=(List.all_eq_true.1 h) _ hm
 have h2:=(List.all_eq_true.1 h1) e.on (List.mem_map.2 ⟨e,List.mem_filter.2 ⟨by simpa using he,hb⟩,rfl⟩)
 simp only[Bool.and_eq_true,decide_eq_true_eq] at h2
 refine⟨?_,h2.2⟩
 have:=h2.1
 simpa[mC] using this
theorem j8 {ops:Array Oper}{id:Nat}{a:Act}{w:World}{Q:Exit->Act->World->Prop}
  (h:∀ md,md = .any\/Region.departs ops=true->wpAnyIn (FR ro) nf P md ops Q ops.size (Array.replicate ops.size false) a { w with drawn:=w.drawn+1 }):(Code.region id ops true).wpIn (FR ro) nf P Q a w:=
 wpIn_region_draw fun t=>by
  unfold Region.schedule
  split
  ·exact wpAnyIn_sound ops.size t _ a _ (h .any (.inl rfl))
  ·rename_i hd
   have hdep:Region.departs ops=true:=by
    cases hx:Region.departs ops with
    | true=>rfl
    | false=>simp[hx] at hd
   exact wpAnyIn_sound ops.size (t / 2) _ a _ (h _ (.inr hdep))
theorem nN {k r:Nat}{ks rs:List Nat}(h:r∈ks):r+1∈(eS k ks rs).1:=by
 simp only[eS,List.mem_append,List.mem_map]
 exact .inr ⟨r,h,rfl⟩
theorem Bz {k r:Nat}{ks rs:List Nat}(h:r∈rs):r+1∈(eS k ks rs).2:=by
 simp only[eS,List.mem_append,List.mem_map]
 exact .inr ⟨r,h,rfl⟩
theorem CM {A:List (List Nat)}{i j:Nat}(hne:j≠i)(h:FP A i j=true):FP A j i=true:=by
 unfold FP at h ⊢
 by_cases h1:i<j
 ·rw[if_pos h1] at h
  rw[if_neg (by omega)];exact h
 ·rw[if_neg h1] at h
  rw[if_pos (by omega)];exact h
theorem oH.kds {P:Program}{G:Nat->List PV}{E:Nat->AV}{σ:au}{wt:Option Bool}{op:AOp}{e:Ent}(h:oH P G E σ wt op e)(h0:e.kd≠0):e.kd=1\/e.kd=2:=by
 rcases h with ⟨_,_,_,_,h1,h2⟩ | ⟨_,h⟩
 ·exact absurd h2 h0
 ·cases op with
  | t o=>exact absurd h.2.2.2.2 h0
  | m o=>
    have h2:=h.2.2.2.2
    unfold bw at h2
    split at h2
    ·exact .inl h2
    ·exact absurd h2 h0
  | call f xs=>
    obtain⟨p,_,⟨ps,r,_,_,_,_,_,h1,h2⟩ | ⟨sto,_,_,h1,h2,h3,_⟩⟩:=h
    ·exact absurd h2 h0
    ·exact .inr h3
  | fz g x=>exact h.elim
theorem wB {muts:List Nat}{ops:Array Oper}{aops:List AOper}{F:St->Prop}{Q:Exit->Act->World->Prop}{k:Nat}{md:Region.Mode}
  (hc:FV P muts N ops ops.toList=some aops) (hlt:∀ (i:Nat) (o:Oper),ops[i]? = some o->∀ j∈aO o,j<i)
  (htail:∀ i,k<=i->i<ops.size->∀ j,j<i->((aQ (ops.toList.map aO) []).getD i []).contains j=true)
  (hrank:∃ rank:Nat->Nat,∀ (i:Nat) (o:Oper),ops[i]? = some o->∀ e∈o.after,Region.binds md e=true->e.on<ops.size/\rank e.on<rank i)
  (hQ:∀ s a w κ,Rel c κ0 N s a w κ->F s->Q .normal a w):∀ (fuel m:Nat) (listed:Array Bool) (s:St) (a:Act) (w:World) (κ:Kap),listed.size=ops.size->k<=m->(∀ j,j<ops.size->listed.getD j false=decide (j<m)) ->
   ops.size - m<=fuel->Rel c κ0 N s a w κ->dy P c.G (aops.drop m) F s->wpAnyIn (FR ro) nf P md ops Q fuel listed a w:=by
 obtain⟨l1,l2⟩:=tM (P:=P) (N:=N) ops.toList aops hc
 have hn:aops.length=ops.size:=by rw[<- l1];simp
 have hget:∀ (listed:Array Bool) (i:Nat),listed.size=ops.size->i<ops.size->listed.getD i true=listed.getD i false:=by
  intro listed i h1 h2
  simp[Array.getD_eq_getD_getElem?,show i<listed.size by omega]
 have done:∀ (m:Nat) (s:St) (a:Act) (w:World) (κ:Kap),ops.size<=m->Rel c κ0 N s a w κ->dy P c.G (aops.drop m) F s->Q .normal a w:=by
  intro m s a w κ hm hR hv
  rw[List.drop_eq_nil_of_le (by omega)] at hv
  exact hQ s a w κ hR hv
 intro fuel
 induction fuel with
 | zero=>
   intro m listed s a w κ hsz hkm hl hf hR hv
   refine⟨?_,done m s a w κ (by omega) hR hv⟩
   cases hrd:Region.ready md ops listed with
   | nil=>rfl
   | cons i r=>
     obtain⟨o,ho,hi,hli,_⟩:=kG (i:=i) (by rw[hrd];simp)
     rw[hget listed i hsz hi,hl i hi] at hli
     simp at hli;omega
 | succ fuel ih=>
   intro m listed s a w κ hsz hkm hl hf hR hv
   refine⟨fun hr=>?_,fun i hi=>?_⟩
   ·obtain⟨rank,hrk⟩:=hrank
    have hall:=pp hsz hr rank hrk
    refine done m s a w κ ?_ hR hv
    rcases Nat.lt_or_ge m ops.size with h | h
    ·have:=hall m h
     rw[hl m h] at this
     simp at this
    ·exact h
   ·obtain⟨o,ho,hil,hli,hdeps⟩:=kG hi
    rw[hget listed i hsz hil,hl i hil] at hli
    have hmi:m<=i:=by simpa using hli
    have him:i=m:=by
     rcases Nat.lt_or_ge m i with h | h
     ·exfalso
      obtain⟨c1,c2⟩:=f0 (S:=fun i=>listed.getD i false) (ops.toList.map aO) [] 0 rfl (fun i d hd hS j hj=>by
       simp only[Nat.zero_add] at hS
       simp only[List.getElem?_map,Option.map_eq_some_iff] at hd
       obtain⟨o',ho',rfl⟩:=hd
       have ho'':ops[i]? = some o':=by simpa using ho'
       have h1:=hlt i o' ho'' j hj
       have h2:i<ops.size:=(Array.getElem?_eq_some_iff.1 ho'').1
       rw[hl i h2] at hS
       rw[hl j (by omega)]
       simp at hS ⊢;omega) (by simp) (by simp)
      have hlenA:(aQ (ops.toList.map aO) []).length=ops.size:=by rw[f5];simp
      have hA:(aQ (ops.toList.map aO) [])[i]? = some ((aQ (ops.toList.map aO) []).getD i []):=by
       simp[List.getD_eq_getElem?_getD,show i<(aQ (ops.toList.map aO) []).length by omega]
      have:=c2 i (aO o) (by simp[ho]) hdeps _ (by simpa using hA) m (by simpa using htail i (by omega) hil m h)
      rw[hl m (by omega)] at this
      simp at this
     ·omega
    subst him
    have hol:ops.toList[i]? = some o:=by simpa using ho
    obtain⟨ao,hao,hco⟩:=l2 i o hol
    have hdrop:aops.drop i=ao::aops.drop (i+1):=by
     have hlt':i<aops.length:=by omega
     rw[List.drop_eq_getElem_cons hlt']
     congr 1
     exact (List.getElem?_eq_some_iff.1 hao).2
    rw[hdrop] at hv
    have next:∀ s a w κ,Rel c κ0 N s a w κ->dy P c.G (aops.drop (i+1)) F s->wpAnyIn (FR ro) nf P md ops Q fuel (listed.setIfInBounds i true) a w:=by
     intro s a w κ hR hv
     refine ih (i+1) (listed.setIfInBounds i true) s a w κ (by simp[hsz]) (by omega) (fun j hj=>?_) (by omega) hR hv
     simp only[Array.getD_eq_getD_getElem?,Array.getElem?_setIfInBounds]
     by_cases hji:i=j
     ·subst hji;simp[show i<listed.size by omega]
     ·rw[if_neg hji,<- Array.getD_eq_getD_getElem?,hl j hj]
      have:decide (j<i)=decide (j<i+1):=by
       rw[decide_eq_decide];omega
      exact this
    unfold zZ at hco
    split at hco
    ·rename_i g op hg hop
     split at hco
     ·rename_i hd
      cases hco
      simp only[dy,aJ] at hv
      split at hv
      ·rename_i b hb
       have hwant:=fb (ops:=ops) (o:=o) hg hR.env hb
       unfold wpOpIn
       rw[ho]
       simp only
       rw[hwant]
       cases b with
       | true=>
         rw[if_pos rfl]
         exact mV hop hR hd hv next
       | false=>
         rw[if_neg (by simp)]
         refine⟨fun _ _=>trivial,?_⟩
         exact next _ _ w κ (hR.put (κ':=κ) (w':=w) hd (.pv _ _ .undef)) hv
      ·exact hv.elim
     ·cases hco
    ·cases hco
theorem np {muts:List Nat}{ops:Array Oper}{aops:List AOper}{id:Nat}{F:St->Prop}{Q:Exit->Act->World->Prop}{s:St}{a:Act}{w:World}{κ:Kap}
  {k:Nat} (hc:FV P muts N ops ops.toList=some aops) (hok:Er ops.toList aops k=true) (hk:k<=aops.length) (hm:sN ops=true) (hR:Rel c κ0 N s a w κ)
  (hv:vcD P c.G (aQ (ops.toList.map aO) []) (dy P c.G (aops.drop k) F) (aops.take k) [] s) (hQ:∀ s a w κ,Rel c κ0 N s a w κ->F s->Q .normal a w):(Code.region id ops true).wpIn (FR ro) nf P Q a w:=by
 obtain⟨T,s',hT,hnames,hF⟩:=mD (aops.take k) [] s hv
 simp only[List.nil_append] at hnames
 obtain⟨t1,t2,t3,t4,t5,t6,t7⟩:=RJ (aops.take k) s T s' hT
 obtain⟨l1,l2⟩:=tM (P:=P) (N:=N) ops.toList aops hc
 simp only[Er,Bool.and_eq_true] at hok
 obtain⟨⟨hslots,hback⟩,htl⟩:=hok
 have hTk:T.length=k:=by rw[<- t1];simp;omega
 have hlt:∀ (i:Nat) (o:Oper),ops[i]? = some o->∀ j∈aO o,j<i:=by
  intro i o ho j hj
  have hd:((ops.toList.map aO).zipIdx)[i]? = some (aO o,i):=by simp[List.getElem?_zipIdx,ho]
  have:=(List.all_eq_true.1 hback) _ (List.mem_of_getElem? hd)
  have:=(List.all_eq_true.1 this) j hj
  simpa using this
 have hn:ops.size=aops.length:=by rw[<- l1];simp
 have htail:∀ i,k<=i->i<ops.size->∀ j,j<i->((aQ (ops.toList.map aO) []).getD i []).contains j=true:=by
  intro i h1 h2 j hj
  have h3:=(List.all_eq_true.1 htl) i (by simpa using h2)
  simp only[Bool.or_eq_true,decide_eq_true_eq] at h3
  rcases h3 with h3 | h3
  ·omega
  ·exact (List.all_eq_true.1 h3) j (by simpa using hj)
 refine j8 fun md hmd=>?_
 have hrank:∃ rank:Nat->Nat,∀ (i:Nat) (o:Oper),ops[i]? = some o->∀ e∈o.after,Region.binds md e=true->e.on<ops.size/\rank e.on<rank i:=by
  have hany:∃ rank:Nat->Nat,∀ (i:Nat) (o:Oper),ops[i]? = some o->∀ e∈o.after,Region.binds .any e=true->e.on<ops.size/\rank e.on<rank i:=by
   refine⟨fun i=>i,fun i o ho e he hb=>?_⟩
   have h1:=hlt i o ho e.on (by
    simp only[aO,List.mem_map,List.mem_filter]
    exact⟨e,⟨by simpa using he,hb⟩,rfl⟩)
   have h2:i<ops.size:=(Array.getElem?_eq_some_iff.1 ho).1
   exact⟨by omega,h1⟩
  rcases hmd with rfl | hdep
  ·exact hany
  ·simp only[sN,hdep,Bool.not_true,Bool.false_or,Bool.and_eq_true] at hm
   cases md with
   | text=>exact kH hm.1
   | gc=>exact kH hm.2
   | any=>exact hany
 have key:∀ (fuel:Nat) (listed:Array Bool) (a:Act) (w:World) (κ:Kap),listed.size=ops.size ->
   (∀ i d,(ops.toList.map aO)[i]? = some d->listed.getD i false=true->∀ j∈d,listed.getD j false=true) ->
   (((List.range k).filter fun i=>!listed.getD i false).length+(ops.size - k)<=fuel)->(∀ i,k<=i->listed.getD i false=false) ->
   Mid c κ0 N s T (fun i=>listed.getD i false) a w κ->wpAnyIn (FR ro) nf P md ops Q fuel listed a w:=by
  have fin:∀ (fuel:Nat) (listed:Array Bool) (a:Act) (w:World) (κ:Kap),listed.size=ops.size->ops.size - k<=fuel->(∀ i,i<k->listed.getD i false=true)->(∀ i,k<=i->listed.getD i false=false) ->
    Mid c κ0 N s T (fun i=>listed.getD i false) a w κ->wpAnyIn (FR ro) nf P md ops Q fuel listed a w:=by
   intro fuel listed a w κ hsz hf hall hno hM
   refine wB (F:=F) hc hlt htail hrank hQ fuel k listed s' a w κ hsz (Nat.le_refl _) (fun j hj=>?_) hf ⟨hM.w_eq,hM.ext0,?_,hM.left,fun x=>?_,hM.size,hM.defers,fun r hr=>?_⟩ hF
   ·by_cases h:j<k
    ·rw[hall j h];simp[h]
    ·rw[hno j (by omega)];simp[h]
   ·have e:s'.σ=bL (fun i=>listed.getD i false) (T.map (·.δ)) 0 s.σ:=by
     rw[t3,oG (fun i=>listed.getD i false)]
     intro i hi
     rw[Nat.zero_add]
     exact hall i (by simp at hi;omega)
    rw[e];exact hM.rel
   ·have e:s'.E=bL (fun i=>listed.getD i false) (T.map Ent.env) 0 s.E:=by
     rw[t2,oG (fun i=>listed.getD i false)]
     intro i hi
     rw[Nat.zero_add]
     exact hall i (by simp at hi;omega)
    rw[e];exact hM.env x
   ·cases hk:κ.nm r with
    | none=>rfl
    | some d=>
      obtain⟨j,e,h1,h2,h3⟩:=hM.fresh r (by omega) (by rw[hk];simp)
      obtain⟨_,_,_,sj,_,_,hst⟩:=t7 j e h2
      have htp:=hst.tops
      rcases h3 with ⟨h3,h4⟩ | ⟨h3,h4⟩
      ·have h5:=htp.2.1 (by omega)
       have h6:=htp.2.2 h3
       have:=(t5 j e h2 h5).2
       omega
      ·have h5:=htp.2.1 (by omega)
       have:=(t5 j e h2 h5).2
       omega
  intro fuel
  induction fuel with
  | zero=>
    intro listed a w κ hsz hcl hf hno hM
    refine fin 0 listed a w κ hsz (by omega) (fun i hi=>?_) hno hM
    have h0:((List.range k).filter fun i=>!listed.getD i false)=[]:=List.eq_nil_of_length_eq_zero (by omega)
    cases hL:listed.getD i false with
    | true=>rfl
    | false=>
      have:i∈(List.range k).filter fun i=>!listed.getD i false:=List.mem_filter.2 ⟨List.mem_range.2 hi,by rw[hL];rfl⟩
      rw[h0] at this;cases this
  | succ fuel ih=>
    intro listed a w κ hsz hcl hf hno hM
    by_cases hallk:∀ i,i<k->listed.getD i false=true
    ·exact fin _ listed a w κ hsz (by omega) hallk hno hM
    obtain⟨u0,hu0,hu1⟩:∃ i,i<k/\listed.getD i false=false:=by
     refine Classical.byContradiction fun h=>hallk fun i hi=>?_
     cases hL:listed.getD i false with
     | true=>rfl
     | false=>exact absurd ⟨i,hi,hL⟩ h
    refine⟨fun hr=>?_,fun i hi=>?_⟩
    ·obtain⟨rank,hrk⟩:=hrank
     have:=pp hsz hr rank hrk u0 (by omega)
     rw[hu1] at this;cases this
    obtain⟨o,ho,hil,hl,hdeps⟩:=kG hi
    have hi':i<listed.size:=by omega
    have hik:i<k:=by
     rcases Nat.lt_or_ge i k with h | h
     ·exact h
     ·exfalso
      obtain⟨c1,c2⟩:=f0 (S:=fun i=>listed.getD i false) (ops.toList.map aO) [] 0 rfl (fun i d hd hS=>hcl i d hd (by simpa using hS)) (by simp) (by simp)
      have hlenA:(aQ (ops.toList.map aO) []).length=ops.size:=by rw[f5];simp
      have hA:(aQ (ops.toList.map aO) [])[i]? = some ((aQ (ops.toList.map aO) []).getD i []):=by
       simp[List.getD_eq_getElem?_getD,show i<(aQ (ops.toList.map aO) []).length by omega]
      have:=c2 i (aO o) (by simp[ho]) hdeps _ (by simpa using hA) u0 (by simpa using htail i h hil u0 (by omega))
      rw[hu1] at this;cases this
    have hSi:listed.getD i false=false:=by
     simp[Array.getD_eq_getD_getElem?,hi'] at hl ⊢;exact hl
    have hol:ops.toList[i]? = some o:=by simpa using ho
    obtain⟨ao,hao,hco⟩:=l2 i o hol
    have hTi:T[i]? = some T[i]:=List.getElem?_eq_getElem (by omega)
    obtain⟨ao',hao',hdst,si,e1,e2,hstep⟩:=t7 i _ hTi
    rw[List.getElem?_take,if_pos hik,hao] at hao';cases hao'
    have hbefore:∀ j,FP (aQ (ops.toList.map aO) []) j i=true->j≠i->(j<i/\listed.getD j false=true)\/(i<j/\listed.getD j false=false):=by
     intro j hord hne
     obtain⟨c1,c2⟩:=f0 (S:=fun i=>listed.getD i false) (ops.toList.map aO) [] 0 rfl (fun i d hd hS=>hcl i d hd (by simpa using hS)) (by simp) (by simp)
     have hlenA:(aQ (ops.toList.map aO) []).length=ops.size:=by rw[f5];simp
     unfold FP at hord
     split at hord
     ·rename_i hji
      refine .inl ⟨hji,?_⟩
      have hA:(aQ (ops.toList.map aO) [])[i]? = some ((aQ (ops.toList.map aO) []).getD i []):=by
       simp[List.getD_eq_getElem?_getD,show i<(aQ (ops.toList.map aO) []).length by omega]
      exact c2 i (aO o) (by simp[ho]) hdeps _ (by simpa using hA) j (by simpa using hord)
     ·rename_i hji
      have hij:i<j:=by omega
      refine .inr ⟨hij,?_⟩
      cases hL:listed.getD j false with
      | false=>rfl
      | true=>
        exfalso
        by_cases hjn:j<ops.size
        ·have hA:(aQ (ops.toList.map aO) [])[j]? = some ((aQ (ops.toList.map aO) []).getD j []):=by
          simp[List.getD_eq_getElem?_getD,show j<(aQ (ops.toList.map aO) []).length by omega]
         have:=c1 j _ hA hL i (by simpa using hord)
         rw[hSi] at this;cases this
        ·rw[Array.getD_eq_getD_getElem?,Array.getElem?_eq_none (by omega)] at hL
         cases hL
    have hslotPair:∀ (j:Nat) (e:Ent),T[j]? = some e->∃ ao,aops[j]? = some ao/\e.dst=ao.dst/\(ko (aops.take k))[j]? = some (ao.dst.toList,ao.slots):=by
     intro j e hj
     obtain⟨ao,h1,h2,_⟩:=t7 j e hj
     have hjk:j<k:=by have:=(List.getElem?_eq_some_iff.1 hj).1;omega
     refine⟨ao,by rw[List.getElem?_take,if_pos hjk] at h1;exact h1,h2,?_⟩
     simp only[ko,List.getElem?_map,h1,Option.map_some]
    have hE:∀ x∈ao.slots,bL (fun i=>listed.getD i false) (T.map Ent.env) 0 s.E x=si.E x:=by
     intro x hx
     rw[e1]
     refine rm hSi fun j v hne hj hkv=>?_
     simp only[List.getElem?_map,Option.map_eq_some_iff] at hj
     obtain⟨e,he,rfl⟩:=hj
     obtain⟨aj,a1,a2,a3⟩:=hslotPair j e he
     obtain⟨ai,b1,b2,b3⟩:=hslotPair i _ hTi
     rw[hao] at b1;cases b1
     refine hbefore j (mU hslots a3 b3 hne (x:=x) ?_ (.inl hx)) hne
     have:=ov.1 hkv
     rw[a2] at this
     simp[this]
    have hσ:∀ r∈T[i].reads,bL (fun i=>listed.getD i false) (T.map (·.δ)) 0 s.σ r=si.σ r:=by
     intro r hr
     rw[e2]
     refine rm hSi fun j v hne hj hkv=>?_
     simp only[List.getElem?_map,Option.map_eq_some_iff] at hj
     obtain⟨e,he,rfl⟩:=hj
     exact hbefore j (mU hnames (p:=eS e.kd (aU e.δ) e.reads) (q:=eS T[i].kd (aU T[i].δ) T[i].reads) (x:=r+1) (by simp[he]) (by simp[hTi]) hne (nN hkv) (.inl (Bz hr))) hne
    have hgetset:∀ j,(listed.setIfInBounds i true).getD j false=if j=i then true else listed.getD j false:=by
     intro j
     simp only[Array.getD_eq_getD_getElem?,Array.getElem?_setIfInBounds]
     by_cases hj:i=j
     ·subst hj;simp[hi']
     ·rw[if_neg hj,if_neg (fun h=>hj h.symm)]
    have step:=Im (P:=P) (ro:=ro) (nf:=nf) (s:=s) (si:=si) (T:=T) (S:=fun i=>listed.getD i false) (S':=fun j=>(listed.setIfInBounds i true).getD j false) (e:=T[i]) (i:=i) (K:=wpAnyIn (FR ro) nf P md ops Q fuel (listed.setIfInBounds i true)) (Q:=Q)
     hco hM hTi hSi (by simp only[hgetset];simp) (fun j hj=>by simp only[hgetset,if_neg hj]) hdst hstep hE hσ
     (fun j v r hne hj hkv hke hij=>by
      simp only[List.getElem?_map,Option.map_eq_some_iff] at hj
      obtain⟨e,he,rfl⟩:=hj
      obtain⟨aj,a1,a2,a3⟩:=hslotPair j e he
      obtain⟨ai,b1,b2,b3⟩:=hslotPair i _ hTi
      have h1:=ov.1 hkv
      have h2:=ov.1 hke
      rw[a2] at h1;rw[b2] at h2
      rcases hbefore j (mU hslots a3 b3 hne (x:=r) (by simp[h1]) (.inr (by simp[h2]))) hne with ⟨h,_⟩ | ⟨_,h⟩
      ·omega
      ·exact h)
     (fun j v r hne hj hkv hke hij=>by
      simp only[List.getElem?_map,Option.map_eq_some_iff] at hj
      obtain⟨e,he,rfl⟩:=hj
      rcases hbefore j (mU hnames (p:=eS e.kd (aU e.δ) e.reads) (q:=eS T[i].kd (aU T[i].δ) T[i].reads) (x:=r+1) (by simp[he]) (by simp[hTi]) hne (nN hkv) (.inr (nN hke))) hne with ⟨h,_⟩ | ⟨_,h⟩
      ·omega
      ·exact h)
     (fun hm=>(t5 i _ hTi hm).1)
     (fun hkd r hr hge j e' hSj he'=>by
      obtain⟨_,_,_,sj,_,_,hst'⟩:=t7 j e' he'
      have htp':=hst'.tops
      have htp:=hstep.tops
      have hmi:=htp.2.1 hkd
      have hjne:j≠i:=by
       rintro rfl
       rw[hSi] at hSj;cases hSj
      have before:j<i->e'.isM=true->e'.top<=T[i].new:=fun h hm'=>t6 j i e' _ h he' hTi hm' hmi
      have after:i<j->e'.isM=true->T[i].top<=e'.new:=fun h hm'=>t6 i j _ e' h hTi he' hmi hm'
      have ordered:(T[i].kd=2/\e'.kd≠0)\/e'.kd=2->j<i:=by
       intro h
       have hpair:(eS e'.kd (aU e'.δ) e'.reads,j)≠(eS e'.kd (aU e'.δ) e'.reads,i):=fun h=>hjne (Prod.mk.inj h).2
       have hTj:(T.map fun e=>eS e.kd (aU e.δ) e.reads)[j]? = some (eS e'.kd (aU e'.δ) e'.reads):=by simp[he']
       have hTi':(T.map fun e=>eS e.kd (aU e.δ) e.reads)[i]? = some (eS T[i].kd (aU T[i].δ) T[i].reads):=by simp[hTi]
       have k0:T[i].kd=1\/T[i].kd=2:=hstep.kds hkd
       have ho:FP (aQ (ops.toList.map aO) []) j i=true\/FP (aQ (ops.toList.map aO) []) i j=true:=by
        rcases h with ⟨h,h'⟩ | h
        ·have k1:e'.kd=1\/e'.kd=2:=hst'.kds h'
         refine .inr (mU hnames hTi' hTj (fun h=>hjne h.symm) (x:=0) (by simp[eS,h]) ?_)
         rcases k1 with k1 | k1
         ·exact .inl (by simp[eS,k1])
         ·exact .inr (by simp[eS,k1])
        ·refine .inl (mU hnames hTj hTi' hjne (x:=0) (by simp[eS,h]) ?_)
         rcases k0 with k0 | k0
         ·exact .inl (by simp[eS,k0])
         ·exact .inr (by simp[eS,k0])
       have ho':FP (aQ (ops.toList.map aO) []) j i=true:=by
        rcases ho with ho | ho
        ·exact ho
        ·exact CM hjne ho
       rcases hbefore j ho' hjne with ⟨h,_⟩ | ⟨_,h⟩
       ·exact h
       ·rw[hSj] at h;cases h
      rintro (⟨h1,h2⟩ | ⟨h1,h2⟩)
      ·have hm':=htp'.2.1 (by omega)
       have ht':=htp'.2.2 h1
       rcases Nat.lt_or_gt_of_ne hjne with h | h
       ·have:=before h hm';omega
       ·rcases hstep.kds hkd with k0 | k0
        ·have:=after h hm'
         have:=htp.2.2 k0
         have:=hr k0
         omega
        ·have:=ordered (.inl ⟨k0,by omega⟩);omega
      ·have hm':=htp'.2.1 (by omega)
       have:=ordered (.inr h1)
       have:=before this hm'
       omega)
     (fun a w κ hM'=>ih (listed.setIfInBounds i true) a w κ (by simp[hsz]) (fun k d hd hk j hj=>by
       rw[hgetset] at hk ⊢
       by_cases hki:k=i
       ·subst hki
        simp only[List.getElem?_map,hol,Option.map_some,Option.some.injEq] at hd
        subst hd
        rw[hdeps j hj];simp
       ·rw[if_neg hki] at hk
        rw[hcl k d hd hk j hj];simp) (by
       have hsub:((List.range k).filter fun q=>!(listed.setIfInBounds i true).getD q false).length<((List.range k).filter fun q=>!listed.getD q false).length:=by
        have:((List.range k).filter fun q=>!(listed.setIfInBounds i true).getD q false)=((List.range k).filter fun q=>!listed.getD q false).filter fun q=>decide (q≠i):=by
         rw[List.filter_filter]
         apply List.filter_congr
         intro q _
         rw[hgetset]
         by_cases hk:q=i<;>simp[hk]
        rw[this]
        refine List.length_filter_lt_length_iff_exists.2 ⟨i,List.mem_filter.2 ⟨List.mem_range.2 hik,by rw[hSi];rfl⟩,by simp⟩
       omega) (fun q hq=>by rw[hgetset,if_neg (by omega)];exact hno q hq) hM')
    unfold wpOpIn
    rw[ho]
    simp only
    split
    ·rename_i hw
     rw[if_pos hw] at step
     exact step
    ·rename_i hw
     rw[if_neg hw] at step
     exact⟨fun _ _=>trivial,step⟩
 have hfalse:∀ j,(Array.replicate ops.size false).getD j false=false:=by
  intro j
  simp only[Array.getD_eq_getD_getElem?,Array.getElem?_replicate]
  split<;>rfl
 have hw:=hR.w_eq
 subst hw
 refine key ops.size (Array.replicate ops.size false) a _ ⟨{ κ.w with drawn:=κ.w.drawn+1 },κ.nm,κ.imm⟩ (by simp) (fun i d _ h=>by rw[hfalse] at h;cases h) (by
  have:=List.length_filter_le (fun i=>!(Array.replicate ops.size false).getD i false) (List.range k)
  simp only[List.length_range] at this
  omega) (fun i _=>hfalse i) ?_
 have hno:∀ {β:Type} (W:List (List (Nat×β))) (k:Nat) (g:Nat->β),bL (fun i=>(Array.replicate ops.size false).getD i false) W k g=g:=by
  intro β W
  induction W with
  | nil=>intros;rfl
  | cons x y ih=>intro k g;rw[bL,hfalse];simpa using ih (k+1) g
 have he:Ext κ ⟨{ κ.w with drawn:=κ.w.drawn+1 },κ.nm,κ.imm⟩:=⟨fun _ _ h=>h,fun _ _ _ _ h=>h,fun _ _ h=>h,fun _ _ h _=>h⟩
 have hS:=hR.rel
 have hL:=hR.left
 refine⟨rfl,hR.ext0.trans he,?_,⟨hL.os,hL.tape,hL.output,hL.size,hL.block,hL.imm⟩,fun x=>?_,hR.size,hR.defers.ext he,fun r hr h=>absurd (hR.fresh r hr) h⟩
 ·rw[hno]
  refine⟨fun r=>(hS.blk r).keep he fun _ _ _ _ _=>⟨rfl,fun _ h=>h⟩,hS.apart,hS.mine,hS.immLt,SRel.glob_ext he hS.glob fun _ _ _=>rfl⟩
 ·rw[hno];exact (hR.env x).ext he
end
inductive ACode where
 | skip
 | ops (l:List AOper) (keep:List Nat)
 | draw (A:List (List Nat)) (l l2:List AOper) (keep:List Nat)
 | seq (a b:ACode)
 | cond (x:AX) (a b:ACode)
 | block (id:Nat) (b:ACode)
 | loop (keep:List Nat) (b:ACode)
 | range (f:AX) (ps:List Nat) (keep:List Nat) (a b:ACode)
 | exit (id:Nat)
 | ret
inductive AExit where
 | norm
 | exit (id:Nat)
 | ret
def clip0 (keep:List Nat)(s:St):St:=⟨keep.map fun i=>(i,s.E i),s.sto,s.next⟩
def uM (k:Nat):List Nat->Bool
 | []=>false
 | j::r=>if j=k then true else uM k r
def zh (k:Nat)(b:Blk)(r:List (Nat×Blk)):Bool->List (Nat×Blk)
 | true=>r
 | false=>(k,b)::r
def jy:List Nat->List (Nat×Blk)->List (Nat×Blk)
 | _,[]=>[]
 | seen,p::r=>zh p.1 p.2 (jy (p.1::seen) r) (uM p.1 seen)
theorem qj (k j:Nat)(r:List Nat):uM k (j::r)=if j=k then true else uM k r:=rfl
theorem lj:∀ (l:List (Nat×Blk)) (seen:List Nat) (r:Nat),uM r seen=false->lookB r (jy seen l)=lookB r l
 | [],seen,r,_=>rfl
 | p::q,seen,r,h=>by
   simp only[jy]
   by_cases hp:p.1=r
   ·rw[hp,h]
    simp only[zh,lookB,if_pos hp,if_true]
   ·have hr:uM r (p.1::seen)=false:=by rw[qj,if_neg hp];exact h
    have:=lj q (p.1::seen) r hr
    cases uM p.1 seen<;>simp only[zh,lookB,if_neg hp,this]
def clip (keep:List Nat)(s:St):St:=⟨keep.map fun i=>(i,s.E i),jy [] s.sto,s.next⟩
def bE (acc:List Nat):List Nat->List Nat
 | []=>acc
 | n::r=>bE (if acc.contains n then acc else acc++[n]) r
mutual
def AV.names:AV->List Nat
 | .ptr r _=>[r]
 | .row r _ _ _=>[r]
 | .olist r _ _=>[r]
 | .agg cs=>AV.namesL cs
 | .tup cs=>AV.namesL cs
 | .clo _ fs cs=>AV.namesL fs++AV.namesL cs
 | _=>[]
def AV.namesL:List AV->List Nat
 | []=>[]
 | x::r=>AV.names x++AV.namesL r
end
def Blk.names:Blk->List Nat
 | .cells _ _ l=>AV.namesL l
 | _=>[]
def gi (m0:Nat)(sto:List (Nat×Blk)):Nat->List Nat->List Nat
 | 0,acc=>acc
 | k+1,acc=>gi m0 sto k (bE acc ((acc.flatMap fun r=>(lookB r sto).names).filter fun r=>decide (m0<=r)))
def yN (m0:Nat)(sto:List (Nat×Blk)):List Nat:=(List.range m0).flatMap fun r=>(lookB r sto).names
def Qa (m0:Nat)(keep:List Nat)(s:St):List Nat:=
 gi m0 s.sto s.sto.length (bE [] (((keep.flatMap fun i=>(s.E i).names)++yN m0 s.sto).filter fun r=>decide (m0<=r)))
def IL (x:Nat):List Nat->Nat->Option Nat
 | [],_=>none
 | y::r,k=>if y=x then some k else IL x r (k+1)
def dO (m0:Nat)(os:List Nat)(r:Nat):Option Nat:=if r<m0 then some r else IL r os m0
mutual
def AV.ren (f:Nat->Option Nat):AV->AV
 | .ptr r o=>match f r with
   | some r'=>.ptr r' o
   | none=>.any
 | .row r a b c=>match f r with
   | some r'=>.row r' a b c
   | none=>.any
 | .olist r a l=>match f r with
   | some r'=>.olist r' a l
   | none=>.pv (.list l)
 | .agg cs=>.agg (AV.renL f cs)
 | .tup cs=>.tup (AV.renL f cs)
 | .clo g fs cs=>.clo g (AV.renL f fs) (AV.renL f cs)
 | .pv p=>.pv p
 | .any=>.any
def AV.renL (f:Nat->Option Nat):List AV->List AV
 | []=>[]
 | x::r=>AV.ren f x::AV.renL f r
end
def Blk.ren (f:Nat->Option Nat):Blk->Blk
 | .cells T b l=>.cells T b (AV.renL f l)
 | x=>x
def eK (m0:Nat)(f:Nat->Option Nat)(sto:List (Nat×Blk)):List Nat->Nat->List (Nat×Blk)
 | [],_=>[]
 | r::q,k=>(k,(lookB r sto).ren f)::eK m0 f sto q (k+1)
def norm (m0:Nat)(keep:List Nat)(s:St):St:=
 let os:=Qa m0 keep s
 let f:=dO m0 os
 ⟨keep.map fun i=>(i,(s.E i).ren f),eK m0 f s.sto (List.range m0++os) 0,m0+os.length⟩
def sH (Q:AExit->St->Prop)(keep:List Nat)(s:St):Prop:=Q .norm (clip keep s)
def FA (F:St->Prop)(Q:AExit->St->Prop):AExit->St->Prop
 | .norm,s=>F s
 | .exit i,s=>Q (.exit i) s
 | .ret,s=>Q .ret s
def d9 (id:Nat)(Q:AExit->St->Prop):AExit->St->Prop
 | .norm,s=>Q .norm s
 | .exit i,s=>if i=id then Q .norm s else Q (.exit i) s
 | .ret,s=>Q .ret s
def R3 (m0:Nat)(I:Nat->St->Prop)(n:Nat)(Q:AExit->St->Prop):AExit->St->Prop
 | .norm,s=>∃ n' s',n'<n/\Wk m0 s s'/\I n' s'
 | .exit i,s=>∃ s',Wk m0 s s'/\Q (.exit i) s'
 | .ret,s=>Q .ret s
def M6 (body:(AExit->St->Prop)->St->Prop)(m0:Nat)(keep:List Nat)(Q:AExit->St->Prop)(s:St):Prop:=
 ∃ I:Nat->St->Prop,(∃ n s',Wk m0 s s'/\I n s')/\∀ n s,I n s->body (R3 m0 I n Q) s
def pP (v:AV)(F G:St->Prop)(s:St):Prop:=
 match v with
 | .pv (.bool true)=>F s
 | .pv (.bool false)=>G s
 | _=>False
def ifB (b:Bool)(F G:St->Prop)(s:St):Prop:=
 match b with
 | true=>F s
 | false=>G s
def TJ (P:Program)(G:Nat->List PV)(g:Nat)(lb:List PV)(xs:List (List PV)):Prop:=
 bS P g=true/\∀ (w:World) (imm:Nat->Nat->Prop) (lbv:Array Value) (l:Nat) (J:Nat->(Nat->Nat->Prop)->World->Prop) (Jx:World->Prop) (O:Nat->Nat->Prop),
  bM G w imm->(∀ b o,imm b o->b<w.heap.size/\¬ O b o)->lbv.size=lb.length->(∀ (i:Nat) (x:PV),lb[i]? = some x->PRel w imm x (lbv.getD i Go.undef)) ->
  (∀ i O W W',J i O W->Below W.heap.size W W'->J i O W')->(∀ i O W b o,J i O W->O b o->b<W.heap.size) ->
  (∀ (m i:Nat) (x:List PV) (O:Nat->Nat->Prop) (W:World) (vals:Array Value) (imm' kp:Nat->Nat->Prop),J i O W->xs[i]? = some x->vals.size=x.length ->
   (∀ (j:Nat) (y:PV),x[j]? = some y->PRel W imm' y (vals.getD j Go.undef))->(∀ b o,imm' b o->imm b o\/w.heap.size<=b)->(∀ b o,imm' b o->kp b o)->(∀ b o,kp b o->b<W.heap.size/\¬ O b o) ->
   YieldAt Fence.wide m P l vals W fun e W'=>
    (e = .returned (.bool true)/\(∃ O',J (i+1) O' W'/\∀ b o,kp b o->¬ O' b o)/\W.heap.size<=W'.heap.size/\(∀ b o v,kp b o->W.cell? ⟨b,o,none⟩=some v->W'.cell? ⟨b,o,none⟩=some v) /\
     ∀ g,G g≠[]->∃ cs T fz,W'.heap[g]? = some (.cells cs T fz)/\cs.size=(G g).length) \/
    (e = .returned (.bool false)/\Jx W')) ->
  J 0 O w ->
  CallsIn Fence.wide 0 P g (#[.func (.yield l) #[] #[]]++lbv) w fun e w'=>(∃ v,e = .returned v)/\((∃ O',J xs.length O' w')\/Jx w')
def HD:List Nat->List PV->List (Nat×AV)->List (Nat×AV)
 | p::ps,x::xs,e=>HD ps xs ((p,.pv x)::e)
 | _,_,e=>e
def Ul (F:St->Prop):AExit->St->Prop
 | .norm,s=>F s
 | _,_=>False
def RK (m0:Nat)(I:Nat->St->Prop)(i:Nat)(Q:AExit->St->Prop)(e0:List (Nat×AV)):AExit->St->Prop
 | .norm,s=>∃ s',Wk m0 ⟨e0,s.sto,s.next⟩ s'/\I (i+1) s'
 | .exit id,s=>Q (.exit id) ⟨e0,s.sto,s.next⟩
 | .ret,s=>Q .ret ⟨e0,s.sto,s.next⟩
def N4 (vb:Nat->(AExit->St->Prop)->St->Prop)(Q:AExit->St->Prop)(s:St):Prop:=vb s.next Q s
def PX (P:Program)(G:Nat->List PV)(va vb:Nat->(AExit->St->Prop)->St->Prop)(m0:Nat)(ps:List Nat)(Q:AExit->St->Prop)(I:Nat->St->Prop)(p:Nat×List AV×List AV):Prop:=
 p.2.1=[]/\∃ lb xs,pvs p.2.2=some lb/\TJ P G p.1 lb xs /\
  (∀ i x s',xs[i]? = some x->I i s'->x.length=ps.length/\va s'.next (Ul (N4 vb (RK m0 I i Q s'.env))) ⟨HD ps x s'.env,s'.sto,s'.next⟩)/\∀ s',I xs.length s'->Q .norm s'
def Kp (P:Program)(G:Nat->List PV)(va vb:Nat->(AExit->St->Prop)->St->Prop)(m0:Nat)(f:AX)(ps:List Nat)(Q:AExit->St->Prop)(s:St):Prop:=
 ∃ (I:Nat->St->Prop) (s0:St),Wk m0 s s0/\I 0 s0/\aJ (dw (f.ev s0.E)) (PX P G va vb m0 ps Q I)
def vc (P:Program)(G:Nat->List PV):Nat->ACode->(AExit->St->Prop)->St->Prop
 | m0,.skip,Q,s=>Q .norm s
 | m0,.ops l keep,Q,s=>dy P G l (sH Q keep) s
 | m0,.draw A l l2 keep,Q,s=>vcD P G A (dy P G l2 (sH Q keep)) l [] s
 | m0,.seq a b,Q,s=>vc P G m0 a (FA (vc P G m0 b Q) Q) s
 | m0,.cond x a b,Q,s=>pP (x.ev s.E) (vc P G m0 a Q) (vc P G m0 b Q) s
 | m0,.block id b,Q,s=>vc P G m0 b (d9 id Q) s
 | m0,.loop keep b,Q,s=>M6 (vc P G m0 b) m0 keep Q s
 | m0,.range f ps keep a b,Q,s=>Kp P G (fun m=>vc P G m a) (fun m=>vc P G m b) m0 f ps Q s
 | m0,.exit id,Q,s=>Q (.exit id) s
 | m0,.ret,Q,s=>Q .ret s
def gr (a:List Nat):List Nat->List Nat
 | []=>a
 | x::r=>gr (if a.contains x then a else a++[x]) r
def Dl:List AOper->List Nat->List Nat
 | [],out=>out
 | o::r,out=>gr ((Dl r out).filter fun x=>!(o.dst == some x)) o.slots
def Qm (i:Nat):List (Nat×List Nat)->List Nat
 | []=>[]
 | p::r=>if p.1=i then p.2 else Qm i r
def Up (x:Nat):List Nat->List Nat
 | []=>[x]
 | y::r=>if x<=y then x::y::r else y::Up x r
def o9:List Nat->List Nat
 | []=>[]
 | x::r=>Up x (o9 r)
def Ei:List (Nat×List Nat)->List Nat
 | []=>[]
 | p::r=>gr (Ei r) p.2
def bk:Code->Bool
 | .rangeFunc _ _ _ _=>true
 | .seq a b=>bk a||bk b
 | .cond _ a b=>bk a||bk b
 | .block _ b=>bk b
 | .loop b=>bk b
 | _=>false
def P0 (N:Nat):List Nat->Bool
 | []=>true
 | p::r=>decide (p<N)&&!r.contains p&&P0 N r
def bn (P:Program)(muts:List Nat)(N:Nat)(ret:List Nat):Code->List (Nat×List Nat)->List Nat->Option (ACode×List Nat)
 | .skip,_,out=>some (.skip,out)
 | .region _ ops d,_,out=>match FV P muts N ops ops.toList with
   | some l=>match d with
     | false=>some (.ops l (o9 out),Dl l out)
     | true=>if Er ops.toList l (DR (aQ (ops.toList.map aO) []) l.length)=true/\DR (aQ (ops.toList.map aO) []) l.length<=l.length/\sN ops=true then
       some (.draw (aQ (ops.toList.map aO) []) (l.take (DR (aQ (ops.toList.map aO) []) l.length)) (l.drop (DR (aQ (ops.toList.map aO) []) l.length)) (o9 out),Dl l out)
       else none
   | none=>none
 | .seq a b,ex,out=>match bn P muts N ret b ex out with
   | some (b',lb)=>match bn P muts N ret a ex lb with
     | some (a',la)=>some (.seq a' b',la)
     | none=>none
   | none=>none
 | .cond x a b,ex,out=>match cX x,bn P muts N ret a ex out,bn P muts N ret b ex out with
   | some ax,some (a',la),some (b',lb)=>some (.cond ax a' b',gr (gr la lb) ax.slots)
   | _,_,_=>none
 | .block id b,ex,out=>match bn P muts N ret b ((id,out)::ex) out with
   | some (b',lb)=>some (.block id b',lb)
   | none=>none
 | .loop b,ex,out=>match bn P muts N ret b ex [] with
   | some (_,l1)=>match bn P muts N ret b ex l1 with
     | some (_,l2)=>match bn P muts N ret b ex l2 with
       | some (b',l3)=>some (.loop (o9 l2) b',l2)
       | none=>none
     | none=>none
   | none=>none
 | .exit id,ex,_=>some (.exit id,Qm id ex)
 | .ret,_,_=>some (.ret,ret)
 | .rangeFunc g ps a b,ex,out=>match bk a||bk b,cX g,bn P muts N ret b ex [],P0 N ps.toList with
   | false,some ax,some (b',lb),true=>match bn P muts N ret a ex lb with
     | some (a',la)=>some (.range ax ps.toList (o9 (gr (gr (gr la out) (gr ret (Ei ex))) ax.slots)) a' b',gr (gr (gr la out) (gr ret (Ei ex))) ax.slots)
     | none=>none
   | _,_,_,_=>some (.ops [⟨none,jK,none⟩] [],[])
 | _,_,_=>some (.ops [⟨none,jK,none⟩] [],[])
end Go.Ab

/- A program logic over the model: part 3 (a proof is built on it; nothing of the statement is said here). -/
import Derived.TacticsIn
import Derived.OrdersIn
import Derived.Orders
import Derived.RangeFuncSeq
import Derived.RangeFuncLeaves
import Derived.Test.YtamoeblcphjbaaaGreatDoorTyCore2
set_option linter.unusedVariables false
set_option linter.unusedSimpArgs false
open Array renaming getElem?_eq_some_iff->WU,getD_eq_getD_getElem?->WM,getElem?_eq_getElem->XL,getElem?_setIfInBounds->XP,replicate->XF
open Nat renaming lt_of_lt_of_le->W0,le_trans->Xv,lt_or_ge->XU,le_refl->WX,zero_add->W4
open Option renaming getD_some->XK,map_eq_some_iff->WI,map_some->WZ
open Bool renaming and_eq_true->WT
open List renaming getElem?_map->WW,map_cons->WP,mem_cons->W9,getElem?_cons_zero->Xb,mem_append->Xk,range->Xq,all_eq_true->W8,mem_of_getElem?->WK,getD_eq_getElem?_getD->WN,getElem?_append_left->Xe,getElem?_append_right->Xg,getElem?_eq_some_iff->WH,mem_map->Xo,getElem?_take->Xl
open Option.some renaming injEq->WJ
namespace Go.Ab
open Go Go.RowKit
section
variable {P:Program}{c:Ctx}{κ0 κ:Kap}{N:Nat}{s:St}{a:Act}{w:World}{ro:Option Nat}{nf:Nat}
def FR (ro:Option Nat):Fence:={ Fence.wide with round:=ro }
theorem yj (ro:Option Nat):¬ (FR ro).depth.isSome=true:=by simp[FR,Fence.wide]
theorem Pc {f:Nat}{args:Array Value}{R:Ending->World->Prop}(h:Calls P f args w R):CallsIn (FR ro) nf P f args w R:=by
 have:=(callsIn_wide (n:=nf)).2 h
 cases ro with
 | none=>exact this
 | some l=>exact this
theorem lX {o:Oper}{ρ:Operand->Value}{x:Next}{w':World}(h:(execOp ρ o).run P w = .ok x w')(hx:∀ d,x≠.defer d):(o.semAt ro ρ).run P w = .ok x w':=by
 cases ro with
 | none=>rw[Oper.semAt_none];exact h
 | some l=>
   rw[Oper.semAt_some l ρ o]
   ·exact h
   ·intro c hc
    simp only[execOp,hc,Sem.run_bind] at h
    cases hr:(resolve ρ c o.type).run P w with
    | ok d w1=>rw[hr] at h;simp at h;exact hx _ h.1.symm
    | halt y w1=>rw[hr] at h;simp[Result.andThen] at h
theorem eQ {o:Oper}{u:Value}{w':World}{K:Act->World->Prop}{Q:Exit->Act->World->Prop}(h:(execOp a.eval o).run P w = .ok (.value u) w')(hk:K (a.put o.dst u) w'):o.wpIn (FR ro) nf P a w K Q:=by
 refine⟨fun _ _=>trivial,?_⟩
 rw[show (FR ro).round=ro from rfl,lX h (by simp)];exact hk
theorem wC {o:Oper}{w':World}{K:Act->World->Prop}{Q:Exit->Act->World->Prop}(h:(execOp a.eval o).run P w = .ok .skip w')(hk:K (a.put o.dst Go.undef) w'):o.wpIn (FR ro) nf P a w K Q:=by
 refine⟨fun _ _=>trivial,?_⟩
 rw[show (FR ro).round=ro from rfl,lX h (by simp)];exact hk
theorem mw {o:Oper}{f:Nat}{args:Array Value}{w':World}{K:Act->World->Prop}{Q:Exit->Act->World->Prop}(h:(execOp a.eval o).run P w = .ok (.enter f args) w')
  (hk:Calls P f args w' fun
   | .returned v,w''=>K (a.put o.dst v) w''
   | .panicked chain,w''=>Q (.panic chain) a w''
   | .outgrown,_=>LetsOut Q):o.wpIn (FR ro) nf P a w K Q:=by
 refine⟨fun _ _=>trivial,?_⟩
 rw[show (FR ro).round=ro from rfl,lX h (by simp)]
 exact⟨fun h=>absurd h (yj ro),Pc hk⟩
theorem Rel.pureCall (h:Rel c κ0 N s a w κ){w':World}{imm':Nat->Nat->Prop}(hb:Below w.heap.size w w')(h1:∀ b o,κ.imm b o->imm' b o)(h2:∀ b o,imm' b o->κ.imm b o\/w.heap.size<=b)(h3:∀ b o,imm' b o->b<w'.heap.size) :
  Rel c κ0 N s a w' ⟨w',κ.nm,imm'⟩:=by
 have hw:=h.w_eq
 subst hw
 have he:Ext κ ⟨w',κ.nm,imm'⟩:=by
  refine⟨h1,fun b o v hi hc=>?_,fun _ _ h=>h,fun b o ho _=>(hb.block b (WU.1 ho).1).trans ho⟩
  have hl:=World.block_lt_of_cell? κ.w _ hc
  exact (World.cell?_of_block (a:=⟨b,o,none⟩) (hb.block b hl)).trans hc
 have hS:=h.rel
 have hL:=h.left
 refine⟨rfl,h.ext0.trans he,⟨fun r=>?_,hS.apart,hS.mine,h3,Wr he hS.glob fun g h1 _=>hb.block g (W0 h1 hL.size)⟩,⟨hb.os.trans hL.os,hb.tape.trans hL.tape,hb.output.trans hL.output,Xv hL.size hb.size,fun b hlt hl=>?_,fun b o hi=>?_⟩,fun i=>(h.env i).ext he,h.size,h.defers.ext he,h.fresh⟩
 ·refine (hS.blk r).keep he fun hz d b hd hbk=>?_
  have hl:=(hS.blk r).lt hz hd hbk
  exact⟨hb.block b hl,fun o ho=>(h2 b o ho).elim id (fun h=>by omega)⟩
 ·exact (hb.block b (W0 hlt hL.size)).trans (hL.block b hlt hl)
 ·rcases h2 b o hi with h | h
  ·exact hL.imm b o h
  ·exact .inr (.inl (Xv hL.size h))
theorem Rel.lentCall (h:Rel c κ0 N s a w κ){κ':Kap}{sto':List (Nat×Blk)}{next':Nat}(he:Ext κ κ')(hL:Left (cQ κ s.σ c.G) κ.imm κ')(hS:SRel (cQ κ s.σ c.G) κ' (fun r=>lookB r sto'))(hf:∀ r,next'<=r->κ'.nm r=none) :
  Rel c κ0 N ⟨s.env,sto',next'⟩ a κ'.w κ':=by
 have hl0:=h.left
 have hlm:∀ b,(cQ κ s.σ c.G).lent b->c.mine b:=fun b ⟨r,d,h1,h2,h3⟩=>h.rel.mine r d b h1 h2 h3
 have hmine:∀ b,(cQ κ s.σ c.G).mine b->c.mine b:=by
  intro b hb
  rcases hb with hb | ⟨r,d,h1,h2,h3⟩
  ·exact .inl (Xv hl0.size hb)
  ·exact h.rel.mine r d b h1 h2 h3
 refine⟨rfl,h.ext0.trans he,⟨hS.blk,hS.apart,fun r d b h1 h2 h3=>hmine b (hS.mine r d b h1 h2 h3),hS.immLt,h.rel.glob.back hlm hS.glob hL.block⟩,⟨hL.os.trans hl0.os,hL.tape.trans hl0.tape,hL.output.trans hl0.output,Xv hl0.size hL.size,fun b hlt hl=>?_,fun b o hi=>?_⟩,fun i=>(h.env i).ext he,h.size,h.defers.ext he,hf⟩
 ·refine (hL.block b (W0 hlt hl0.size) ?_).trans (hl0.block b hlt hl)
  rintro⟨r,d,h1,h2,h3⟩
  rcases h.rel.mine r d b h1 h2 h3 with h4 | h4
  ·omega
  ·exact hl h4
 ·rcases hL.imm b o hi with h1 | h1
  ·exact hl0.imm b o h1
  ·exact .inr (hmine b h1)
theorem vp {f:Nat}{args:List AV}{vals:Array Value}{K:AV->St->Prop}(h:Rel c κ0 N s a w κ)(hA:ae P c.G f args s K)(hsz:vals.size=args.length)(hargs:∀ (i:Nat) (x:AV),args[i]? = some x->ARel κ x (vals.getD i Go.undef)) :
  cx P f=true/\Calls P f vals w fun e w'=>∃ u v s' κ',e = .returned u/\Rel c κ0 N s' a w' κ'/\ARel κ' v u/\K v s':=by
 obtain⟨s1,args1,⟨hlen1,henv1,hW⟩,hA⟩:=hA
 obtain⟨κ,h,hargs⟩:=hW c κ0 κ N a w vals h hargs
 rw[<- hlen1] at hsz
 rw[<- henv1] at hA
 clear hW hlen1 henv1
 have hw:=h.w_eq
 rcases hA with ⟨ps,r,hps,⟨hcal,hP⟩,hK⟩ | ⟨Q,⟨hcal,hT⟩,hK⟩
 ·refine⟨hcal,?_⟩
  subst hw
  refine (hP κ.w κ.imm vals h.rel.glob.ok h.rel.immLt (hsz.trans (cz hps).symm) fun i x hx=>?_).mono ?_
  ·obtain⟨y,hy,hp⟩:=dj hps i x hx
   exact cr hp (hargs i y hy)
  ·rintro e w' ⟨u,imm',rfl,hb,h1,h2,h3,h4⟩
   exact⟨u,.pv r,s1,_,rfl,h.pureCall hb h1 h2 h3,.pv _ _ h4,hK⟩
 ·refine⟨hcal,?_⟩
  subst hw
  refine (hT κ vals ?_ h.fresh hsz hargs).mono ?_
  ·have hS:=h.rel
   exact⟨hS.blk,hS.apart,fun r d b h1 h2 h3=>.inr ⟨r,d,h1,h2,h3⟩,hS.immLt,hS.glob.lend fun b ⟨r,d,h1,h2,h3⟩=>hS.mine r d b h1 h2 h3⟩
  ·rintro e w' ⟨u,v,κ',sto',next',rfl,rfl,he,hL,hv,hS,hf,hQ⟩
   exact⟨u,v,_,κ',rfl,h.lentCall he hL hS hf,hv,hK v sto' next' hQ⟩
theorem f9 {ops:Array Oper}{o:Oper}{g:Option (Nat×Bool)}{b:Bool}(hg:FU ops o.guard=some g)(henv:∀ i,ARel κ (s.E i) (a.tmps.getD i Go.undef))(hw:cH s g=some b):Region.wanted o (yielded ops a.tmps)=b:=by
 unfold FU at hg
 unfold Region.wanted
 split at hg
 ·rename_i hgu
  cases hg
  simp[cH] at hw
  simp[hgu,hw]
 ·rename_i j want hgu
  split at hg
  ·rename_i d hd
   cases hg
   rw[hgu]
   simp only
   have hy:yielded ops a.tmps j=match (a.tmps[d]?) with | some (.bool b)=>some b | _=>none:=by
    simp only[yielded,hd,Option.bind_some]
    cases a.tmps[d]? with
    | none=>rfl
    | some v=>cases v<;>rfl
   rw[hy]
   have he:=henv d
   simp only[cH] at hw
   split at hw
   ·rename_i x hx
    cases hw
    rw[hx] at he
    have:=dP he
    have hlt:d<a.tmps.size:=by
     rcases XU d a.tmps.size with h | h
     ·exact h
     ·rw[WM,Array.getElem?_eq_none h] at this
      cases this
    rw[WM,XL hlt] at this
    simp only[XK] at this
    rw[XL hlt,this]
    cases x<;>cases want<;>rfl
   ·rename_i hx
    cases hw
    rw[hx] at he
    have hu:a.tmps.getD d Go.undef = .tuple #[]:=by
     generalize a.tmps.getD d Go.undef=u at he
     cases aT he;rfl
    rcases XU d a.tmps.size with hlt | hge
    ·rw[WM,XL hlt] at hu
     simp only[XK] at hu
     rw[XL hlt,hu]
     rfl
    ·rw[Array.getElem?_eq_none hge];rfl
   ·cases hw
  ·cases hg
theorem gJ {f:Nat}{vals:Array Value}(h:cx P f=true):(callFunc f vals).run P w = .ok (.enter f vals) w:=by
 unfold cx at h
 split at h
 ·rename_i fn hfn
  simp only[WT,Bool.not_eq_true',beq_eq_false_iff_ne] at h
  obtain⟨b,hb⟩:=Option.isSome_iff_exists.1 h.1
  simp[callFunc,hfn,h.2,hb]
 ·cases h
theorem FA {x:AV}{u:Value}{p:Nat×List AV×List AV}(hx:ARel κ x u)(h:ed x=some p):∃ vs us:Array Value,u = .func (.func p.1) vs us/\vs.size=p.2.1.length/\us.size=p.2.2.length /\
  (∀ (i:Nat) (x:AV),p.2.1[i]? = some x->ARel κ x (vs.getD i Go.undef))/\∀ (i:Nat) (x:AV),p.2.2[i]? = some x->ARel κ x (us.getD i Go.undef):=by
 unfold ed at h
 split at h
 ·cases h
  cases aT hx with
  | clo _ _ _ vs us h1 h2 h3 h4=>
    refine⟨vs,us,rfl,by simpa using h1,by simpa using h3,fun i x hx=>?_,fun i x hx=>?_⟩
    ·simp only[WW,WI] at hx
     obtain⟨q,hq,rfl⟩:=hx
     exact .pv _ _ (h2 i q hq)
    ·simp only[WW,WI] at hx
     obtain⟨q,hq,rfl⟩:=hx
     exact .pv _ _ (h4 i q hq)
 ·cases h
  cases hx with
  | clo _ _ _ vs us h1 h2 h3 h4=>exact⟨vs,us,rfl,h1,h3,h2,h4⟩
 ·cases h
theorem dp {l k:List AV}{xs zs:Array Value}(hl:xs.size=l.length)(h:∀ (i:Nat) (x:AV),l[i]? = some x->ARel κ x (xs.getD i Go.undef))(g:∀ (i:Nat) (x:AV),k[i]? = some x->ARel κ x (zs.getD i Go.undef)) :
  ∀ (i:Nat) (x:AV),(l++k)[i]? = some x->ARel κ x ((xs++zs).getD i Go.undef):=by
 have:=jR (κ:=κ) (l:=l) (k:=k) (xs:=xs.toList) (zs:=zs.toList) (by simpa using hl.symm) (by simpa[aL] using h) (by simpa[aL] using g)
 intro i x hx
 rw[aL];simpa using this i x hx
theorem I2 {tb:List (Nat×Nat)}{x:AV}{p:Nat×List AV×List AV}(h:ed (Th tb x)=some p):∃ T q f,x = .pv (.iface T q)/\rV T tb=some f/\p=(f,[.pv q],[]):=by
 unfold Th at h
 split at h
 ·rename_i T q
  cases hl:rV T tb with
  | none=>rw[hl] at h;simp[N1,ed] at h
  | some f=>
    rw[hl] at h
    simp only[N1,ed,WJ] at h
    exact⟨T,q,f,rfl,hl,h.symm⟩
 ·simp[ed] at h
theorem xW {E:Nat->AV}{o:Oper}{af:AX}{xs:List AX}{p:Nat×List AV×List AV}(hc:Mf P o.op af xs)(hE:∀ i,ARel κ (E i) (a.tmps.getD i Go.undef))(hp:ed (af.ev E)=some p) :
  ∃ (vs us:Array Value) (args:Array Operand),vs.size=p.2.1.length/\us.size=p.2.2.length/\(∀ (i:Nat) (x:AV),p.2.1[i]? = some x->ARel κ x (vs.getD i Go.undef))/\(∀ (i:Nat) (x:AV),p.2.2[i]? = some x->ARel κ x (us.getD i Go.undef)) /\
    cXs args.toList=some xs/\(cx P p.1=true->∀ w,(execOp a.eval o).run P w = .ok (.enter p.1 (vs++args.map a.eval++us)) w):=by
 rcases hc with ⟨f,args,ts,hop,hf,hxs⟩ | ⟨r,m,args,ts,hop,rfl,hxs⟩
 ·obtain⟨vs,us,hfu,hvs,hus,hv1,hu1⟩:=FA (aH (κ:=κ) (E:=E) (a:=a) hf (fun i _=>hE i)) hp
  refine⟨vs,us,args,hvs,hus,hv1,hu1,hxs,fun hcal w=>?_⟩
  simp[execOp,hop,resolve,hfu,Deferred.ofValue,invoke,gJ hcal]
 ·simp only[AX.ev] at hp
  obtain⟨T,q,f,hx,hl,rfl⟩:=I2 hp
  have hr:=hE r
  rw[hx] at hr
  generalize hu:a.tmps.getD r Go.undef=u at hr
  cases aT hr with
  | iface _ _ v hv=>
  refine⟨#[v],#[],args,rfl,rfl,fun i x hx=>?_,fun i x hx=>by simp at hx,hxs,fun hcal w=>?_⟩
  ·cases i with
   | zero=>simp at hx;subst hx;simpa using ARel.pv _ _ hv
   | succ i=>simp at hx
  ·have h0:(#[a.eval (.tmp r)]++args.map a.eval)[0]? = some (.iface T v):=by
    rw[Array.getElem?_append_left (by simp)]
    simp[Act.eval,hu]
   have hfu:P.types.size+Made.depth=(P.types.size+99)+1:=rfl
   simp[execOp,hop,resolve,invoke,h0,callMethod,hfu,zX hl,gJ hcal]
   rw[show args.size=(args.map a.eval).size by simp,Array.extract_size]
theorem OO {w:World}(d:Nat){t e:TypeId}(hu:P.underlying t=some (.slice e))(A:Option Addr)(n c:Nat):(Op.equalIn (d+1) t (.slice A n c) (.slice none 0 0)).run P w = .ok A.isNone w:=by
 cases A<;>simp[Op.equalIn,run_underlying hu]
theorem Sq {op:Op}{kd:Nat}{ng:Bool}{ax ay:AX}(h:cT P op=some (.beq kd ng ax ay)):∃ bo t x y z,op = .binOp bo t x y z/\dC P t=some kd/\((bo = .eql/\ng=false)\/(bo = .neq/\ng=true))/\cX x=some ax/\cX y=some ay:=by
 cases op with
 | binOp bo t x y z=>
   simp only[cT] at h
   split at h
   ·obtain⟨ax',ay',hx,hy,he⟩:=eY h
    cases he
    exact⟨_,_,_,_,_,rfl,‹_›,.inl ⟨rfl,rfl⟩,hx,hy⟩
   ·obtain⟨ax',ay',hx,hy,he⟩:=eY h
    cases he
    exact⟨_,_,_,_,_,rfl,‹_›,.inr ⟨rfl,rfl⟩,hx,hy⟩
   ·exfalso
    revert h
    (repeat' split)<;>(intro h;obtain⟨_,_,_,_,he⟩:=eY h;cases he)
 | _=>
   exfalso
   unfold cT at h
   revert h
   (repeat' split)<;>(intro h;first
    | (cases h;done)
    | (obtain⟨_,_,he⟩:=eZ h;cases he;done)
    | (obtain⟨_,_,_,_,he⟩:=eY h;cases he;done)
    | (obtain⟨_,_,_,_,_,_,he⟩:=FW h;cases he;done)
    | (cases ‹_=Op.binOp _ _ _ _ _›;done)
    | (simp at h;done))
theorem Pd {x:Operand}(h:cX x=some (.c .nils))(a:Act):a.eval x = .slice none 0 0:=by
 cases x with
 | tmp t=>simp[cX] at h
 | const v=>
   simp only[cX,WI] at h
   obtain⟨p,hp,he⟩:=h
   cases he
   have:=nk (w:=default) (imm:=fun _ _=>False) hp
   cases this;rfl
 | global g=>simp[cX] at h
 | func f=>simp[cX] at h
theorem IK {E:Nat->AV}{o:Oper}{op:TOp}(hc:cT P o.op=some op)(hE:∀ i,i∈op.slots->ARel κ (E i) (a.tmps.getD i Go.undef))(hn:Rk E op=true) :
  ∃ b,(execOp a.eval o).run P κ.w = .ok (.value (.bool b)) κ.w:=by
 unfold Rk at hn
 split at hn
 ·rename_i ng x
  split at hn
  ·rename_i hev
   obtain⟨dst,op,type,pos,after,guard⟩:=o
   obtain⟨bo,t,X,Y,z,rfl,hk,hbo,hX,hY⟩:=Sq hc
   have hx:=aH (κ:=κ) (E:=E) (a:=a) hX (fun i hi=>hE i (by simp[TOp.slots,hi]))
   rw[hev] at hx
   have hy:=Pd hY a
   obtain⟨e,hu⟩:∃ e,P.underlying t=some (.slice e):=by
    unfold dC at hk
    split at hk<;>first | exact⟨_,‹_›⟩ | cases hk
   obtain⟨A,n,c,hs⟩:∃ A n c,a.eval X = .slice A n c:=by
    generalize a.eval X=u at hx
    cases aT hx<;>exact⟨_,_,_,rfl⟩
   have he:Op.equal t (.slice A n c) (.slice none 0 0)=Op.equalIn (9999+1) t (.slice A n c) (.slice none 0 0):=rfl
   have hmain:=OO (P:=P) (w:=κ.w) 9999 hu A n c
   rcases hbo with ⟨rfl,_⟩ | ⟨rfl,_⟩
   ·refine⟨A.isNone,?_⟩
    simp[execOp,hs,hy,eqGuard_at_slice,binOp,he,hmain]
   ·refine⟨!A.isNone,?_⟩
    simp[execOp,hs,hy,eqGuard_at_slice,binOp,he,hmain]
  ·cases hn
 ·cases hn
theorem oh {mu:Bool×Bool}{o:Oper}{op:AOp}{F:St->Prop}{K:Act->World->Prop}{Q:Exit->Act->World->Prop}(hc:cA P mu o.op=some op)(h:Rel c κ0 N s a w κ)
  (hd:AD o.dst N=true) (hr:nA P c.G F s o.dst op) (hK:∀ s a w κ,Rel c κ0 N s a w κ->F s->K a w):o.wpIn (FR ro) nf P a w K Q:=by
 have hw:=h.w_eq
 subst hw
 rcases LW hc with ⟨g,x,rfl,hz⟩ | ⟨t,rfl,ht⟩ | ⟨m,rfl,hm⟩ | rfl
 ·simp only[nA,aV] at hr
  split at hr
  ·rename_i p hp
   obtain⟨u,κ',h1,h2,h3,h4⟩:=E1 (P:=P) (κ:=κ) (E:=s.E) (a:=a) (new:=s.next) hz h.rel (fun i _=>h.env i) hp
   refine eQ h1 ?_
   exact hK _ _ _ κ' ((h.step h3 h4).put (κ':=κ') (w':=κ'.w) hd h2) hr
  ·exact hr.elim
 ·replace ht:=xZ ht
  simp only[nA,jY] at hr
  split at hr
  ·rename_i v hv
   obtain⟨u,h1,h2⟩:=qH (P:=P) (κ:=κ) (E:=s.E) (a:=a) ht (fun i _=>h.env i) hv
   refine eQ h1 ?_
   exact hK _ _ _ κ (h.put (κ':=κ) (w':=κ.w) hd h2) hr
  ·obtain⟨hnb,hall⟩:=hr
   obtain⟨b,h1⟩:=IK (P:=P) (κ:=κ) (E:=s.E) (a:=a) ht (fun i _=>h.env i) hnb
   refine eQ h1 ?_
   exact hK _ _ _ κ (h.put (κ':=κ) (w':=κ.w) hd (.pv _ _ (.bool b))) (hall b)
 ·simp only[nA,aV] at hr
  split at hr
  ·rename_i p hp
   obtain⟨x,u,κ',h1,h2,h3,h4,h5,_⟩:=oo (P:=P) hm h.rel h.size_le (fun _=>h.fresh s.next (WX _)) (fun i _=>h.env i) hp
   have hR:=(h.step h4 h5).put (κ':=κ') (w':=κ'.w) hd h3
   rcases h2 with rfl | ⟨rfl,rfl⟩
   ·exact eQ h1 (hK _ _ _ κ' hR hr)
   ·exact wC h1 (hK _ _ _ κ' hR hr)
  ·exact hr.elim
 ·
   rcases sF P o.op with hb | ⟨af,xs,hce,hco⟩
   ·rw[hb] at hr;simp[kV,nA,AX.ev,ed,aV] at hr
   ·rw[hce] at hr
    ·simp only[nA,aV] at hr
     split at hr
     ·rename_i p hp
      obtain⟨vs,us,args,hvs,hus,hv1,hu1,hxs,hrun0⟩:=xW (P:=P) (κ:=κ) (E:=s.E) (a:=a) hco h.env hp
      obtain⟨hxl,hxr⟩:=iI (κ:=κ) (E:=s.E) (a:=a) hxs (fun i _=>h.env i)
      have hmid:∀ (i:Nat) (x:AV),(xs.map (·.ev s.E))[i]? = some x->ARel κ x ((args.map a.eval).getD i Go.undef):=by
       intro i x hx
       rw[aL];simpa using hxr i x hx
      have hall:=dp (κ:=κ) (by simp[hvs];exact hxl) (dp (κ:=κ) hvs hv1 hmid) hu1
      simp only[FQ] at hr
      obtain⟨hcal,hC⟩:=vp (vals:=vs++args.map a.eval++us) h hr (by simp[hvs,hus];simpa using hxl) hall
      have hrun:=hrun0 hcal κ.w
      refine mw hrun (hC.mono ?_)
      rintro e w' ⟨u,v,s',κ',rfl,hR,hv,hk⟩
      exact hK _ _ _ κ' (hR.put (κ':=κ') (w':=w') hd hv) hk
     ·exact hr.elim
theorem fh {muts:List Nat}{ops:Array Oper}{Q:Exit->Act->World->Prop}{F:St->Prop}(hQ:∀ s a w κ,Rel c κ0 N s a w κ->F s->Q .normal a w):∀ (l:List Oper) (aops:List AOper) (s:St) (a:Act) (w:World) (κ:Kap),
  GB P muts N ops l=some aops->Rel c κ0 N s a w κ->ef P c.G aops F s->wpListIn (FR ro) nf P ops Q l a w
 | [],aops,s,a,w,κ,hc,h,hv=>by
   simp[GB] at hc;subst hc
   exact hQ s a w κ h hv
 | o::r,aops,s,a,w,κ,hc,h,hv=>by
   simp only[GB] at hc
   split at hc
   ·rename_i ao ar ho hr
    cases hc
    unfold A2 at ho
    split at ho
    ·rename_i g op hg hop
     split at ho
     ·rename_i hd
      cases ho
      simp only[ef,aV] at hv
      split at hv
      ·rename_i b hb
       have hwant:=f9 (ops:=ops) (o:=o) hg h.env hb
       refine wpListIn_step fun K hK=>?_
       rw[hwant]
       cases b with
       | true=>
         rw[if_pos rfl]
         exact oh hop h hd hv fun s a w κ hR hF=>hK _ _ (fh hQ r ar s a w κ hr hR hF)
       | false=>
         rw[if_neg (by simp)]
         refine⟨fun _ _=>trivial,?_⟩
         exact hK _ _ (fh hQ r ar _ _ w κ hr (h.put (κ':=κ) (w':=w) hd (.pv _ _ .undef)) hv)
      ·exact hv.elim
     ·cases ho
    ·cases ho
   ·cases hc
end
section
variable {β:Type}
def nJ (g:Nat->β):List (Nat×β)->Nat->β
 | []=>g
 | p::r=>nJ (fun x=>if x=p.1 then p.2 else g x) r
def bm (u:List (Nat×β)):List Nat:=u.map (·.1)
theorem jF {r:Nat}:∀ (u:List (Nat×β)) (g:Nat->β),r∉bm u->nJ g u r=g r
 | [],g,_=>rfl
 | p::q,g,h=>by
   simp only[bm,WP,W9,not_or] at h
   rw[nJ,jF q _ h.2,if_neg h.1]
theorem qo {r:Nat}:∀ (u:List (Nat×β)) (g g':Nat->β),(r∈bm u\/g r=g' r)->nJ g u r=nJ g' u r
 | [],g,g',h=>by
   rcases h with h | h
   ·simp[bm] at h
   ·exact h
 | p::q,g,g',h=>by
   rw[nJ,nJ]
   refine qo q _ _ ?_
   by_cases hp:r=p.1
   ·right;simp[hp]
   ·rcases h with h | h
    ·simp only[bm,WP,W9] at h
     exact .inl (h.resolve_left hp)
    ·right;simp[hp,h]
def cy (S:Nat->Bool):List (List (Nat×β))->Nat->(Nat->β)->Nat->β
 | [],_,g=>g
 | u::r,k,g=>cy S r (k+1) (if S k=true then nJ g u else g)
theorem gZ {S S':Nat->Bool}{r:Nat}:∀ (W:List (List (Nat×β))) (k:Nat) (g g':Nat->β),(∀ i u,W[i]? = some u->r∈bm u->S (k+i)=S' (k+i))->g r=g' r->cy S W k g r=cy S' W k g' r
 | [],k,g,g',_,h=>h
 | u::q,k,g,g',hs,h=>by
   rw[cy,cy]
   refine gZ q (k+1) _ _ (fun i v hv hr=>?_) ?_
   ·have:=hs (i+1) v (by simpa using hv) hr
    rw[show k+1+i=k+(i+1) by omega];exact this
   ·by_cases hr:r∈bm u
    ·have:=hs 0 u (by simp) hr
     simp only[Nat.add_zero] at this
     rw[this]
     split
     ·exact qo u _ _ (.inl hr)
     ·exact h
    ·split<;>split<;>simp[jF u _ hr,h]
theorem sQ {S:Nat->Bool}{r:Nat}:∀ (W:List (List (Nat×β))) (k i:Nat) (u:List (Nat×β)) (g g':Nat->β),W[i]? = some u->S (k+i)=true->r∈bm u->(∀ j v,i<j->W[j]? = some v->r∈bm v->S (k+j)=false) ->
  cy S W k g r=nJ g' u r
 | [],k,i,u,g,g',h,_,_,_=>by simp at h
 | v::q,k,i,u,g,g',h,hS,hr,hl=>by
   rw[cy]
   cases i with
   | zero=>
     simp only[Xb,WJ] at h
     subst h
     simp only[Nat.add_zero] at hS
     rw[if_pos hS]
     have hz:cy S q (k+1) (nJ g v) r=cy (fun _=>false) q (k+1) (nJ g v) r:=
      gZ q (k+1) _ _ (fun j w hw hrw=>by
       have:=hl (j+1) w (by omega) (by simpa using hw) hrw
       rw[show k+1+j=k+(j+1) by omega];exact this) rfl
     have hno:∀ (W:List (List (Nat×β))) (k:Nat) (g:Nat->β),cy (fun _=>false) W k g=g:=by
      intro W
      induction W with
      | nil=>intros;rfl
      | cons a b ih=>intro k g;rw[cy];simpa using ih (k+1) g
     rw[hz,hno]
     exact qo v _ _ (.inl hr)
   | succ i=>
     exact sQ q (k+1) i u _ g' (by simpa using h) (by rw[show k+1+i=k+(i+1) by omega];exact hS) hr (fun j w hj hw hrw=>by
      have:=hl (j+1) w (by omega) (by simpa using hw) hrw
      rw[show k+1+j=k+(j+1) by omega];exact this)
theorem sO {S S':Nat->Bool}{W:List (List (Nat×β))}{i:Nat}{u:List (Nat×β)}{g:Nat->β}(hi:W[i]? = some u)(h1:S' i=true)(h2:∀ j,j≠i->S' j=S j)
  (ho:∀ j v r,j≠i->W[j]? = some v->r∈bm v->r∈bm u->i<j->S j=false):cy S' W 0 g=nJ (cy S W 0 g) u:=by
 funext r
 by_cases hr:r∈bm u
 ·refine sQ W 0 i u g _ hi (by simpa using h1) hr (fun j v hj hv hrv=>?_)
  rw[W4,h2 j (by omega)]
  exact ho j v r (by omega) hv hrv hr hj
 ·rw[jF u _ hr]
  refine gZ W 0 g g (fun j v hv hrv=>?_) rfl
  rw[W4]
  refine h2 j ?_
  rintro rfl
  rw[hi] at hv;cases hv
  exact hr hrv
theorem sP {S:Nat->Bool}{W:List (List (Nat×β))}{i r:Nat}{g:Nat->β}(hi:S i=false)(ho:∀ j v,j≠i->W[j]? = some v->r∈bm v->(j<i/\S j=true)\/(i<j/\S j=false)) :
  cy S W 0 g r=cy (fun j=>decide (j<i)) W 0 g r:=by
 refine gZ W 0 g g (fun j v hv hrv=>?_) rfl
 rw[W4]
 by_cases hj:j=i
 ·subst hj;simp[hi]
 ·rcases ho j v hj hv hrv with ⟨h1,h2⟩ | ⟨h1,h2⟩
  ·simp[h1,h2]
  ·rw[h2];simp;omega
theorem qr (S:Nat->Bool):∀ (W:List (List (Nat×β))) (k:Nat) (g:Nat->β),(∀ i,i<W.length->S (k+i)=true)->cy S W k g=cy (fun _=>true) W k g
 | [],k,g,_=>rfl
 | v::q,k,g,h=>by
   have h0:=h 0 (by simp)
   rw[Nat.add_zero] at h0
   rw[cy,cy,if_pos h0,if_pos rfl]
   exact qr S q (k+1) _ (fun i hi=>by rw[show k+1+i=k+(i+1) by omega];exact h (i+1) (by simp;omega))
end
theorem az {E E':Nat->AV}{x:AX}(h:∀ i∈x.slots,E i=E' i):x.ev E=x.ev E':=by
 cases x with
 | t i=>exact h i (by simp[AX.slots])
 | c p=>rfl
 | m i tb=>simp only[AX.ev];rw[h i (by simp[AX.slots])]
theorem jw {E E':Nat->AV}{xs:List AX}(h:∀ i∈xs.flatMap AX.slots,E i=E' i):xs.map (·.ev E)=xs.map (·.ev E'):=
 List.map_congr_left fun x hx=>az fun i hi=>h i (List.mem_flatMap.2 ⟨x,hx,hi⟩)
theorem eX {E E':Nat->AV}{x:Option AX}(h:∀ i∈ky x,E i=E' i):x.map (·.ev E)=x.map (·.ev E'):=by
 cases x with
 | none=>rfl
 | some x=>simp only[WZ];rw[az (x:=x) (fun i hi=>h i (by simpa[ky] using hi))]
theorem TOp.run_congr {E E':Nat->AV}{o:TOp}(h:∀ i∈o.slots,E i=E' i):o.run E=o.run E':=by
 cases o<;>simp only[TOp.run,TOp.slots,Xk] at h ⊢
 case mv x=>rw[az h]
 case pick c a b=>rw[az (x:=c) (fun i hi=>h i (.inl (.inl hi))),az (x:=a) (fun i hi=>h i (.inl (.inr hi))),az (x:=b) (fun i hi=>h i (.inr hi))]
 case build zs ps=>
  have:(ps.map fun p=>(p.1,p.2.1,p.2.2.ev E))=ps.map fun p=>(p.1,p.2.1,p.2.2.ev E'):=
   List.map_congr_left fun p hp=>by rw[az (x:=p.2.2) (fun i hi=>h i (List.mem_flatMap.2 ⟨p,hp,hi⟩))]
  rw[this]
 case faddr off x=>rw[az h]
 case field g sz off x=>rw[az h]
 case len st x=>rw[az h]
 case neg x=>rw[az h]
 case not x=>rw[az h]
 case conv k x=>rw[az h]
 case convIS x=>rw[az h]
 case ext x i=>rw[az h]
 case nilck x=>rw[az h]
 case sliceL sz x l hh=>rw[az (x:=x) (fun i hi=>h i (.inl (.inl hi))),eX (x:=l) (fun i hi=>h i (.inl (.inr hi))),eX (x:=hh) (fun i hi=>h i (.inr hi))]
 case sliceS x l hh=>rw[az (x:=x) (fun i hi=>h i (.inl (.inl hi))),eX (x:=l) (fun i hi=>h i (.inl (.inr hi))),eX (x:=hh) (fun i hi=>h i (.inr hi))]
 case clo f fs cs=>rw[jw (xs:=fs) (fun i hi=>h i (.inl hi)),jw (xs:=cs) (fun i hi=>h i (.inr hi))]
 all_goals
  rename_i x y
  rw[az (x:=x) (fun i hi=>h i (.inl hi)),az (x:=y) (fun i hi=>h i (.inr hi))]
def AV.name:AV->List Nat
 | .ptr r _=>[r]
 | .row r _ _ _=>[r]
 | .olist r _ _=>[r]
 | .mp r=>[r]
 | _=>[]
def XOp.reads (E:Nat->AV):XOp->List Nat
 | .ucast _ _ _ x | .apps _ _ x _ | .ustr _ x _ | .same x=>(x.ev E).name
 | .noesc _ | .peq _ _ _ | .sdata _ | .ofStr _ | .inil _ _ _ | .idxb _ _ | .mkmap | .bslf _ _ _=>[]
 | .mlook _ _ _ x _ | .mset _ x _ _=>(x.ev E).name
def MOp.reads (E:Nat->AV):MOp->List Nat
 | .load _ _ x | .sliceA _ _ x _ _ | .toStr x=>(x.ev E).name
 | .store _ x _=>(x.ev E).name
 | .append _ _ _ _ x y=>(x.ev E).name++(y.ev E).name
 | .xop o=>o.reads E
 | _=>[]
theorem jy {σ σ':aE}{sz:Nat}{y:AV}(h:∀ r∈y.name,σ r=σ' r):cn σ sz y=cn σ' sz y:=by
 cases y with
 | row r s off len=>simp only[cn,h r (by simp[AV.name])]
 | pv p=>cases p<;>rfl
 | _=>rfl
theorem XOp.reads_congr {E E':Nat->AV}{o:XOp}(h:∀ i∈o.slots,E i=E' i):o.reads E=o.reads E':=by
 cases o<;>simp only[XOp.slots,XOp.reads,Xk] at h ⊢
 case ucast u n b x=>rw[az h]
 case same x=>rw[az h]
 case apps e b x y=>rw[az (x:=x) (fun i hi=>h i (.inl hi))]
 case ustr e x y=>rw[az (x:=x) (fun i hi=>h i (.inl hi))]
 case mlook kd co z x k=>rw[az (x:=x) (fun i hi=>h i (.inl hi))]
 case mset kd x k v=>rw[az (x:=x) (fun i hi=>h i (.inl hi))]
theorem XOp.run_congr {new:Nat}{E E':Nat->AV}{σ σ':aE}{o:XOp}(h:∀ i∈o.slots,E i=E' i)(hr:∀ r∈o.reads E,σ r=σ' r):o.run new E σ=o.run new E' σ':=by
 cases o<;>simp only[XOp.run,XOp.slots,XOp.reads,Xk] at h hr ⊢
 case mlook kd co z x k=>
  rw[<- az (x:=x) (fun i hi=>h i (.inl hi)),<- az (x:=k) (fun i hi=>h i (.inr hi))]
  congr 1
  cases hx:x.ev E with
  | mp r=>
    cases hk:k.ev E with
    | pv p=>simp only[pp];rw[hr r (by simp[hx,AV.name])]
    | _=>rfl
  | _=>rfl
 case mset kd x k v=>
  rw[<- az (x:=x) (fun i hi=>h i (.inl hi)),<- az (x:=k) (fun i hi=>h i (.inr (.inl hi))),<- az (x:=v) (fun i hi=>h i (.inr (.inr hi)))]
  congr 1
  cases hx:x.ev E with
  | mp r=>
    cases hk:k.ev E with
    | pv p=>simp only[po];rw[hr r (by simp[hx,AV.name])]
    | _=>rfl
  | _=>rfl
 case bslf sz len xs=>
  have e:xs.map (·.ev E)=xs.map (·.ev E'):=List.map_congr_left fun x hx=>az fun i hi=>h i (by simp only[List.mem_flatMap];exact⟨x,hx,hi⟩)
  rw[e]
 case noesc x=>rw[az h]
 case same x=>
  rw[<- az (x:=x) h]
  cases hx:x.ev E with
  | olist r s l=>
    cases l with
    | nil=>rfl
    | cons y l=>simp only[CL];rw[hr r (by simp[hx,AV.name])]
  | _=>rfl
 case peq ng x y=>rw[<- az (x:=x) (fun i hi=>h i (.inl hi)),<- az (x:=y) (fun i hi=>h i (.inr hi))]
 case sdata x=>rw[az h]
 case ofStr x=>rw[az h]
 case inil ng x y=>rw[<- az (x:=x) (fun i hi=>h i (.inl hi)),<- az (x:=y) (fun i hi=>h i (.inr hi))]
 case idxb x y=>rw[<- az (x:=x) (fun i hi=>h i (.inl hi)),<- az (x:=y) (fun i hi=>h i (.inr hi))]
 case ucast u n b x=>
  rw[<- az (x:=x) h]
  congr 1
  cases hx:x.ev E with
  | ptr r o=>simp only[gm];rw[hr r (by simp[hx,AV.name])]
  | _=>rfl
 case apps e b x y=>
  rw[<- az (x:=x) (fun i hi=>h i (.inl hi)),<- az (x:=y) (fun i hi=>h i (.inr hi))]
  have key:∀ ys,L8 e 1 b new σ (x.ev E) ys=L8 e 1 b new σ' (x.ev E) ys:=by
   intro ys
   cases hx:x.ev E with
   | row r s off len=>simp only[L8];rw[hr r (by simp[hx,AV.name])]
   | pv p=>cases p<;>rfl
   | _=>rfl
  cases y.ev E with
  | pv q=>cases q<;>first | rfl | exact key _
  | _=>rfl
 case ustr e x y=>
  rw[<- az (x:=x) (fun i hi=>h i (.inl hi)),<- az (x:=y) (fun i hi=>h i (.inr hi))]
  cases hx:x.ev E with
  | ptr r o=>
    cases y.ev E with
    | pv p=>
      cases p with
      | int k n=>cases k<;>simp only[q8];rw[hr r (by simp[hx,AV.name])]
      | _=>rfl
    | _=>rfl
  | pv p=>
    cases y.ev E with
    | pv q=>
      cases p with
      | nilp=>
        cases q with
        | int k n=>cases k<;>rfl
        | _=>rfl
      | _=>rfl
    | _=>cases p<;>rfl
  | _=>rfl
theorem MOp.run_congr {G:Nat->List PV}{new:Nat}{E E':Nat->AV}{σ σ':aE}{o:MOp}(h:∀ i∈o.slots,E i=E' i)(hr:∀ r∈o.reads E,σ r=σ' r):o.run G new E σ=o.run G new E' σ':=by
 cases o<;>simp only[MOp.run,MOp.slots,MOp.reads,Xk] at h hr ⊢
 case box T x=>rw[az h]
 case xop o=>exact XOp.run_congr h hr
 case cbox T x=>rw[az h]
 case load g sz x=>
  rw[<- az (x:=x) h]
  congr 1
  cases hx:x.ev E with
  | ptr r o=>simp only[fV];rw[hr r (by simp[hx,AV.name])]
  | pv p=>cases p<;>rfl
  | _=>rfl
 case store sz x v=>
  rw[<- az (x:=x) (fun i hi=>h i (.inl hi)),<- az (x:=v) (fun i hi=>h i (.inr hi))]
  congr 1
  cases hx:x.ev E with
  | ptr r o=>simp only[ja];rw[hr r (by simp[hx,AV.name])]
  | _=>rfl
 case toStr x=>
  rw[<- az (x:=x) h]
  unfold i8
  rw[jy (fun r hrr=>hr r hrr)]
 case bslice mu e sz len xs=>rw[jw h]
 case append mu e sz by_ x y=>
  rw[<- az (x:=x) (fun i hi=>h i (.inl hi)),<- az (x:=y) (fun i hi=>h i (.inr hi))]
  unfold eB
  rw[jy (fun r hrr=>hr r (.inr hrr))]
  cases cn σ' sz (y.ev E) with
  | none=>rfl
  | some ys=>
    simp only
    cases hx:x.ev E with
    | olist r s l=>cases mu<;>simp only[hr r (.inl (by simp[hx,AV.name]))]
    | row r s off len=>cases mu<;>simp only[hr r (.inl (by simp[hx,AV.name]))]
    | pv p=>cases p<;>cases mu<;>rfl
    | _=>cases mu<;>rfl
 case mk mu e sz by_ zs x y=>rw[<- az (x:=x) (fun i hi=>h i (.inl hi)),<- az (x:=y) (fun i hi=>h i (.inr hi))]
 case sliceA n sz x l hh=>
  rw[<- az (x:=x) (fun i hi=>h i (.inl (.inl hi))),eX (x:=l) (fun i hi=>h i (.inl (.inr hi))),eX (x:=hh) (fun i hi=>h i (.inr hi))]
  cases hx:x.ev E with
  | ptr r o=>simp only;rw[hr r (by simp[hx,AV.name])]
  | _=>rfl
def AOp.slots:AOp->List Nat
 | .t o=>o.slots
 | .m o=>o.slots
 | .call f xs=>f.slots++xs.flatMap AX.slots
 | .fz _ x=>x.slots
def AOper.slots (o:AOper):List Nat:=
 (match o.guard with
  | some (i,_)=>[i]
  | none=>[])++o.op.slots
def be (o:Oper):List Nat:=(o.after.toList.filter (Region.binds .any)).map (·.on)
def V0 (x:Nat)(d:List Nat):List Nat:=match d.contains x with
 | true=>d
 | false=>x::d
def LJ:List Nat->List Nat
 | []=>[]
 | x::r=>V0 x (LJ r)
theorem lf {x:Nat}:∀ {l:List Nat},x∈LJ l↔x∈l
 | []=>by simp[LJ]
 | y::r=>by
   simp only[LJ,V0]
   split
   ·rename_i h
    rw[lf,W9]
    refine⟨.inr,fun h'=>h'.elim (fun e=>?_) id⟩
    subst e
    exact lf.1 (by simpa using h)
   ·rw[W9,W9,lf]
def bg:List (List Nat)->List (List Nat)->List (List Nat)
 | [],acc=>acc
 | d::r,acc=>bg r (acc++[LJ (d++d.flatMap fun j=>acc.getD j [])])
def Gy (A:List (List Nat))(i j:Nat):Bool:=
 if i<j then (A.getD j []).contains i else (A.getD i []).contains j
def Ro (a b:List Nat):Bool:=a.any fun x=>b.contains x
def okB (A:List (List Nat))(l:List (List Nat×List Nat)):Bool:=
 (l.zipIdx).all fun p=>(l.zipIdx).all fun q=>p.2 == q.2||!(Ro p.1.1 (q.1.2++q.1.1))||Gy A p.2 q.2
def lU (ops:List AOper):List (List Nat×List Nat):=ops.map fun o=>(o.dst.toList,o.slots)
def Fi (ops:List Oper)(aops:List AOper)(k:Nat):Bool:=
 let ds:=ops.map be
 okB (bg ds []) (lU (aops.take k))&&((ds.zipIdx).all fun p=>p.1.all fun j=>decide (j<p.2)) &&
  (Xq ops.length).all fun i=>decide (i<k)||(Xq i).all fun j=>((bg ds []).getD i []).contains j
def Ey (A:List (List Nat)):Nat->Nat
 | 0=>0
 | n+1=>if (Xq n).all (fun j=>(A.getD n []).contains j)=true then Ey A n else n+1
def nN (md:Region.Mode)(ops:Array Oper):List (List Nat):=ops.toList.map fun o=>(o.after.toList.filter (Region.binds md)).map (·.on)
def Te (x:Nat):List Nat->Nat
 | []=>0
 | y::r=>if y=x then 0 else Te x r+1
def Ip:List (Nat×List Nat)->List Nat->List (Nat×List Nat)×List Nat
 | [],d=>([],d)
 | p::r,d=>if p.2.all (fun j=>d.contains j)=true then Ip r (d++[p.1]) else ((p::(Ip r d).1),(Ip r d).2)
def Mz:Nat->List (Nat×List Nat)->List Nat->List Nat
 | 0,_,d=>d
 | n+1,ps,d=>match Ip ps d with
   | ([],d')=>d'
   | (q,d')=>Mz n q d'
def wk (md:Region.Mode)(ops:Array Oper):Bool:=
 let ps:=(nN md ops).zipIdx.map fun p=>(p.2,p.1)
 let L:=Mz ps.length ps []
 ps.all fun p=>p.2.all fun j=>decide (j<ps.length)&&decide (Te j L<Te p.1 L)
def uj (ops:Array Oper):Bool:=!(Region.departs ops)||(wk .text ops&&wk .gc ops)
def Sp (P:Program)(G:Nat->List PV)(args:List AV)(K:PV->Prop)(p:Nat×List AV×List AV):Prop:=
 ∃ ps r,pvs (p.2.1++args++p.2.2)=some ps/\am P G p.1 ps r/\K r
def gj (mk:Nat)(ks rs:List Nat):List Nat×List Nat:=((if mk=2 then [0] else [])++ks.map (· + 1),(if mk=1 then [0] else [])++rs.map (· + 1))
def dE (o:MOp):Nat:=if o.makes=true then 1 else 0
def kF (P:Program)(G:Nat->List PV)(F:List (List Nat×List Nat)->St->Prop)(T:List (List Nat×List Nat))(s:St)(d:Option Nat)(args:List AV)(p:Nat×List AV×List AV):Prop:=
 Sp P G args (fun r=>F (T++[([],[])]) (s.put d (.pv r))) p \/
 ∃ v δ top,da P G p.1 (p.2.1++args++p.2.2) s.sto s.next (fun v' sto' n'=>v'=v/\sto'=nw s.sto δ/\n'=top)/\s.next<=top/\F (T++[gj 2 (bm δ) (s.sto.map (·.1))]) ((⟨s.env,nw s.sto δ,top⟩:St).put d v)
def Hy (F:List (List Nat×List Nat)->St->Prop)(T:List (List Nat×List Nat))(s:St)(d:Option Nat)(v:AV):Prop:=F (T++[([],[])]) (s.put d v)
def B9 (F:List (List Nat×List Nat)->St->Prop)(T:List (List Nat×List Nat))(s:St)(d:Option Nat)(mk:Nat)(rd:List Nat)(p:AV×List (Nat×Blk)):Prop:=F (T++[gj mk (bm p.2) rd]) ((s.mem p.2).put d p.1)
def jz (P:Program)(G:Nat->List PV)(F:List (List Nat×List Nat)->St->Prop)(T:List (List Nat×List Nat))(s:St)(d:Option Nat):AOp->Prop
 | .t o=>aV (o.run s.E) (Hy F T s d)
 | .m o=>aV (o.run G s.next s.E s.σ) (B9 F T s d (dE o) (o.reads s.E))
 | .call f xs=>aV (ed (f.ev s.E)) (kF P G F T s d (xs.map (·.ev s.E)))
 | .fz _ _=>False
def uU (P:Program)(G:Nat->List PV)(F:List (List Nat×List Nat)->St->Prop)(T:List (List Nat×List Nat))(s:St)(d:Option Nat)(o:AOp)(b:Bool):Prop:=
 match b with
 | true=>jz P G F T s d o
 | false=>F (T++[([],[])]) (s.put d (.pv .undef))
def vcD (P:Program)(G:Nat->List PV)(A:List (List Nat))(F:St->Prop):List AOper->List (List Nat×List Nat)->St->Prop
 | [],T,s=>okB A T=true/\F s
 | o::r,T,s=>aV (cH s o.guard) (uU P G (vcD P G A F r) T s o.dst o.op)
structure Ent where
 dst:Option Nat
 v:AV
 δ:List (Nat×Blk)
 reads:List Nat
 isM:Bool
 new:Nat
 top:Nat
 kd:Nat
def Ent.env (e:Ent):List (Nat×AV):=
 match e.dst with
 | some d=>[(d,e.v)]
 | none=>[]
def qt (P:Program)(G:Nat->List PV)(E:Nat->AV)(σ:aE)(wt:Option Bool)(op:AOp)(e:Ent):Prop:=
 (wt=some false/\e.v = .pv .undef/\e.δ=[]/\e.reads=[]/\e.isM=false/\e.kd=0) \/
 (wt=some true/\match op with
  | .t o=>o.run E=some e.v/\e.δ=[]/\e.reads=[]/\e.isM=false/\e.kd=0
  | .m o=>o.run G e.new E σ=some (e.v,e.δ)/\e.reads=o.reads E/\e.isM=true/\e.top=e.new+1/\e.kd=dE o
  | .call f xs=>∃ p,ed (f.ev E)=some p /\
    ((∃ ps r,pvs (p.2.1++xs.map (·.ev E)++p.2.2)=some ps/\am P G p.1 ps r/\e.v = .pv r/\e.δ=[]/\e.reads=[]/\e.isM=false/\e.kd=0) \/
     (∃ sto,(fun r=>lookB r sto)=σ/\da P G p.1 (p.2.1++xs.map (·.ev E)++p.2.2) sto e.new (fun v' sto' n'=>v'=e.v/\(fun r=>lookB r sto')=σ.upd e.δ/\n'=e.top)/\e.new<=e.top/\e.isM=true/\e.kd=2/\∀ r,σ r≠.none->r∈e.reads))
  | .fz _ _=>False)
def jf (s:St)(e:Ent):St:=if e.isM=true then (⟨s.env,nw s.sto e.δ,e.top⟩:St).put e.dst e.v else s.put e.dst e.v
def Tr (P:Program)(G:Nat->List PV):List AOper->St->List Ent->St->Prop
 | [],s,[],s'=>s'=s
 | o::r,s,e::T,s'=>e.dst=o.dst/\e.new=s.next/\qt P G s.E s.σ (cH s o.guard) o.op e/\Tr P G r (jf s e) T s'
 | _,_,_,_=>False
theorem rX {r:Nat}:∀ {l:List (Nat×Blk)},lookB r l≠.none->r∈l.map (·.1)
 | [],h=>by simp[lookB] at h
 | p::q,h=>by
   simp only[lookB] at h
   by_cases hp:p.1=r
   ·simp[hp]
   ·rw[if_neg hp] at h
    have:=rX h
    simp only[WP,W9];exact .inr this
theorem nO {P:Program}{G:Nat->List PV}{A:List (List Nat)}{F:St->Prop}:∀ (ops:List AOper) (T0:List (List Nat×List Nat)) (s:St),vcD P G A F ops T0 s ->
  ∃ T s',Tr P G ops s T s'/\okB A (T0++T.map fun e=>gj e.kd (bm e.δ) e.reads)=true/\F s'
 | [],T0,s,h=>⟨[],s,rfl,by simpa using h.1,h.2⟩
 | o::r,T0,s,h=>by
   simp only[vcD,aV] at h
   split at h
   ·rename_i b hb
    cases b with
    | false=>
      simp only[uU] at h
      obtain⟨T,s',h1,h2,h3⟩:=nO r _ _ h
      exact⟨⟨o.dst,.pv .undef,[],[],false,s.next,s.next,0⟩::T,s',⟨rfl,rfl,.inl ⟨hb,rfl,rfl,rfl,rfl,rfl⟩,h1⟩,by simpa[bm,gj] using h2,h3⟩
    | true=>
      simp only[uU] at h
      cases hop:o.op with
      | t op=>
        rw[hop] at h
        simp only[jz,aV] at h
        split at h
        ·rename_i v hv
         obtain⟨T,s',h1,h2,h3⟩:=nO r _ _ h
         exact⟨⟨o.dst,v,[],[],false,s.next,s.next,0⟩::T,s',⟨rfl,rfl,.inr ⟨hb,by rw[hop];exact⟨hv,rfl,rfl,rfl,rfl⟩⟩,h1⟩,by simpa[bm,gj] using h2,h3⟩
        ·exact h.elim
      | m op=>
        rw[hop] at h
        simp only[jz,aV] at h
        split at h
        ·rename_i p hp
         obtain⟨T,s',h1,h2,h3⟩:=nO r _ _ h
         exact⟨⟨o.dst,p.1,p.2,op.reads s.E,true,s.next,s.next+1,dE op⟩::T,s',⟨rfl,rfl,.inr ⟨hb,by rw[hop];exact⟨hp,rfl,rfl,rfl,rfl⟩⟩,h1⟩,by simpa using h2,h3⟩
        ·exact h.elim
      | call f xs=>
        rw[hop] at h
        simp only[jz,aV] at h
        split at h
        ·rename_i p hp
         rcases h with ⟨ps,q,hps,hP,hk⟩ | ⟨v,δ,top,hT,htop,hk⟩
         ·obtain⟨T,s',h1,h2,h3⟩:=nO r _ _ hk
          exact⟨⟨o.dst,.pv q,[],[],false,s.next,s.next,0⟩::T,s',⟨rfl,rfl,.inr ⟨hb,by rw[hop];exact⟨p,hp,.inl ⟨ps,q,hps,hP,rfl,rfl,rfl,rfl,rfl⟩⟩⟩,h1⟩,by simpa[bm,gj] using h2,h3⟩
         ·obtain⟨T,s',h1,h2,h3⟩:=nO r _ _ hk
          refine⟨⟨o.dst,v,δ,s.sto.map (·.1),true,s.next,top,2⟩::T,s',⟨rfl,rfl,.inr ⟨hb,by
           rw[hop]
           refine⟨p,hp,.inr ⟨s.sto,rfl,?_,htop,rfl,rfl,fun r hr=>rX hr⟩⟩
           obtain⟨t1,t2⟩:=hT
           refine⟨t1,fun κ vals a1 a2 a3 a4=>(t2 κ vals a1 a2 a3 a4).mono ?_⟩
           rintro e w' ⟨u,v',κ',sto',next',b1,b2,b3,b4,b5,b6,b7,rfl,rfl,rfl⟩
           exact⟨u,_,κ',_,_,b1,b2,b3,b4,b5,b6,b7,rfl,by funext r;exact jj δ s.sto r,rfl⟩⟩,h1⟩,by simpa using h2,h3⟩
        ·exact h.elim
      | fz g x=>
        rw[hop] at h
        exact h.elim
   ·exact h.elim
theorem QZ (s:St)(d:Option Nat)(v:AV):(s.put d v).E=nJ s.E (match d with | some d=>[(d,v)] | none=>[]):=by
 cases d with
 | none=>rfl
 | some d=>
   funext i
   simp only[St.put,St.E,look,nJ]
   by_cases h:i=d
   ·simp[h]
   ·rw[if_neg (fun e=>h e.symm),if_neg h]
theorem fj (σ:aE)(δ:List (Nat×Blk)):aE.upd σ δ=nJ σ δ:=by
 induction δ generalizing σ with
 | nil=>rfl
 | cons p q ih=>rw[aE.upd,nJ,ih];rfl
theorem wJ (s:St)(e:Ent):(jf s e).E=nJ s.E e.env:=by
 unfold jf Ent.env
 split
 ·rw[QZ];rfl
 ·rw[QZ]
theorem DB (s:St)(δ:List (Nat×Blk))(n:Nat):(⟨s.env,nw s.sto δ,n⟩:St).σ=aE.upd s.σ δ:=by
 funext r;exact jj δ s.sto r
theorem wI (s:St)(e:Ent)(h:e.isM=false->e.δ=[]):(jf s e).σ=nJ s.σ e.δ:=by
 have hp:∀ (s:St) (d:Option Nat) (v:AV),(s.put d v).σ=s.σ:=by intro s d v;cases d<;>rfl
 unfold jf
 split
 ·rw[hp]
  rw[DB,fj]
 ·rename_i hm
  rw[hp,h (by simpa using hm)];rfl
theorem qt.noM {P:Program}{G:Nat->List PV}{E:Nat->AV}{σ:aE}{wt:Option Bool}{op:AOp}{e:Ent}(h:qt P G E σ wt op e):e.isM=false->e.δ=[]:=by
 intro hm
 rcases h with ⟨_,_,h,_⟩ | ⟨_,h⟩
 ·exact h
 ·cases op with
  | t o=>exact h.2.1
  | m o=>rw[h.2.2.1] at hm;cases hm
  | call f xs=>
    obtain⟨p,_,⟨ps,r,_,_,_,h,_⟩ | ⟨sto,_,_,_,h,_⟩⟩:=h
    ·exact h
    ·rw[hm] at h;cases h
  | fz g x=>exact h.elim
theorem qt.tops {P:Program}{G:Nat->List PV}{E:Nat->AV}{σ:aE}{wt:Option Bool}{op:AOp}{e:Ent}(h:qt P G E σ wt op e):(e.isM=true->e.new<=e.top)/\(e.kd≠0->e.isM=true)/\(e.kd=1->e.top=e.new+1):=by
 rcases h with ⟨_,_,_,_,h1,h2⟩ | ⟨_,h⟩
 ·exact⟨fun h=>(by rw[h1] at h;cases h),fun h=>absurd h2 h,fun h=>(by rw[h2] at h;cases h)⟩
 ·cases op with
  | t o=>
    obtain⟨_,_,_,h1,h2⟩:=h
    exact⟨fun h=>(by rw[h1] at h;cases h),fun h=>absurd h2 h,fun h=>(by rw[h2] at h;cases h)⟩
  | m o=>
    obtain⟨_,_,h1,h2,_⟩:=h
    exact⟨fun _=>by omega,fun _=>h1,fun _=>h2⟩
  | call f xs=>
    obtain⟨p,_,⟨ps,r,_,_,_,_,_,h1,h2⟩ | ⟨sto,_,_,h0,h1,h2,_⟩⟩:=h
    ·exact⟨fun h=>(by rw[h1] at h;cases h),fun h=>absurd h2 h,fun h=>(by rw[h2] at h;cases h)⟩
    ·exact⟨fun _=>h0,fun _=>h1,fun h=>(by rw[h2] at h;cases h)⟩
  | fz g x=>exact h.elim
theorem SW {P:Program}{G:Nat->List PV}:∀ (ops:List AOper) (s:St) (T:List Ent) (s':St),Tr P G ops s T s' ->
  ops.length=T.length/\s'.E=cy (fun _=>true) (T.map Ent.env) 0 s.E/\s'.σ=cy (fun _=>true) (T.map (·.δ)) 0 s.σ/\s.next<=s'.next /\
  (∀ (i:Nat) (e:Ent),T[i]? = some e->e.isM=true->s.next<=e.new/\e.top<=s'.next) /\
  (∀ (i j:Nat) (e e':Ent),i<j->T[i]? = some e->T[j]? = some e'->e.isM=true->e'.isM=true->e.top<=e'.new) /\
  ∀ (i:Nat) (e:Ent),T[i]? = some e->∃ o,ops[i]? = some o/\e.dst=o.dst/\∃ si:St,si.E=cy (fun j=>decide (j<i)) (T.map Ent.env) 0 s.E/\si.σ=cy (fun j=>decide (j<i)) (T.map (·.δ)) 0 s.σ /\
    qt P G si.E si.σ (cH si o.guard) o.op e
 | [],s,[],s',h=>by
   have h:s'=s:=h
   subst h
   exact⟨rfl,rfl,rfl,WX _,by simp,by simp,by simp⟩
 | o::r,s,e::T,s',h=>by
   obtain⟨hd,hn,hst,hr⟩:=h
   obtain⟨h1,h2,h3,h4,h5,h6,h7⟩:=SW r (jf s e) T s' hr
   have hnx:(jf s e).next=if e.isM=true then e.top else s.next:=by
    have hp:∀ (s:St) (d:Option Nat) (v:AV),(s.put d v).next=s.next:=by intro s d v;cases d<;>rfl
    unfold jf
    split
    ·rw[hp]
    ·rw[hp]
   have htp:=hst.tops.1
   have hle:s.next<=(jf s e).next:=by
    rw[hnx]
    split
    ·have:=htp ‹_›;omega
    ·exact WX _
   have shift:∀ {β:Type} (S:Nat->Bool) (W:List (List (Nat×β))) (k:Nat) (g:Nat->β),cy (fun j=>S (j+1)) W k g=cy S W (k+1) g:=by
    intro β S W
    induction W with
    | nil=>intros;rfl
    | cons a b ih=>intro k g;simp only[cy];exact ih (k+1) _
   refine⟨by simp[h1],?_,?_,by omega,?_,?_,?_⟩
   ·rw[h2,wJ]
    simp only[WP,cy,if_true]
    rw[<- shift]
   ·rw[h3,wI s e hst.noM]
    simp only[WP,cy,if_true]
    rw[<- shift]
   ·intro i e' hi hm
    cases i with
    | zero=>
      simp only[Xb,WJ] at hi
      subst hi
      rw[if_pos hm] at hnx
      omega
    | succ i=>
      have:=h5 i e' (by simpa using hi) hm
      omega
   ·intro i j e1 e2 hij hi hj hm1 hm2
    cases j with
    | zero=>omega
    | succ j=>
      cases i with
      | zero=>
        simp only[Xb,WJ] at hi
        subst hi
        have:=(h5 j e2 (by simpa using hj) hm2).1
        rw[if_pos hm1] at hnx
        omega
      | succ i=>exact h6 i j e1 e2 (by omega) (by simpa using hi) (by simpa using hj) hm1 hm2
   ·intro i e' hi
    cases i with
    | zero=>
      simp only[Xb,WJ] at hi
      subst hi
      have hno:∀ {β:Type} (W:List (List (Nat×β))) (k:Nat) (g:Nat->β),cy (fun j=>decide (j<0)) W k g=g:=by
       intro β W
       induction W with
       | nil=>intros;rfl
       | cons a b ih=>intro k g;rw[cy];simpa using ih (k+1) g
      exact⟨o,rfl,hd,s,(hno _ _ _).symm,(hno _ _ _).symm,hst⟩
    | succ i=>
      obtain⟨o',ho',hd',si,k1,k2,k3⟩:=h7 i e' (by simpa using hi)
      refine⟨o',by simpa using ho',hd',si,?_,?_,k3⟩
      ·rw[k1,wJ]
       simp only[WP,cy,Nat.zero_lt_succ,decide_true,if_true]
       rw[<- shift]
       simp
      ·rw[k2,wI s e hst.noM]
       simp only[WP,cy,Nat.zero_lt_succ,decide_true,if_true]
       rw[<- shift]
       simp
 | [],s,e::T,s',h=>h.elim
 | o::r,s,[],s',h=>h.elim
theorem og {A:List (List Nat)}{L:List (List Nat×List Nat)}(h:okB A L=true){i j x:Nat}{p q:List Nat×List Nat}(hj:L[j]? = some p)(hi:L[i]? = some q)(hne:j≠i)(hx:x∈p.1)(hy:x∈q.2\/x∈q.1):Gy A j i=true:=by
 have h1:=(W8.1 h) (p,j) (WK (i:=j) (by simp[List.getElem?_zipIdx,hj]))
 have h2:=(W8.1 h1) (q,i) (WK (i:=i) (by simp[List.getElem?_zipIdx,hi]))
 simp only[Bool.or_eq_true,beq_iff_eq,Bool.not_eq_true'] at h2
 rcases h2 with (h2 | h2) | h2
 ·exact absurd h2 hne
 ·exfalso
  have:Ro p.1 (q.2++q.1)=true:=by
   refine List.any_eq_true.2 ⟨x,hx,?_⟩
   simp only[List.contains_eq_mem,decide_eq_true_eq,Xk]
   exact hy
  rw[this] at h2;cases h2
 ·exact h2
theorem gX {S:Nat->Bool}:∀ (ds acc:List (List Nat)) (k:Nat),acc.length=k->(∀ i d,ds[i]? = some d->S (k+i)=true->∀ j∈d,S j=true) ->
  (∀ i a,acc[i]? = some a->S i=true->∀ j∈a,S j=true)->(∀ i a,acc[i]? = some a->i<k) ->
  (∀ i a,(bg ds acc)[i]? = some a->S i=true->∀ j∈a,S j=true) /\
  ∀ i d,ds[i]? = some d->(∀ j∈d,S j=true)->∀ a,(bg ds acc)[k+i]? = some a->∀ j∈a,S j=true
 | [],acc,k,hk,_,h2,_=>⟨h2,by simp⟩
 | d::r,acc,k,hk,h1,h2,h3=>by
   have hrow:(∀ j∈d,S j=true)->∀ j∈LJ (d++d.flatMap fun j=>acc.getD j []),S j=true:=by
    intro hd j hj
    rw[lf] at hj
    rcases Xk.1 hj with hj | hj
    ·exact hd j hj
    ·obtain⟨m,hm,hj⟩:=List.mem_flatMap.1 hj
     cases ha:acc[m]? with
     | none=>rw[WN,ha] at hj;simp at hj
     | some a=>rw[WN,ha] at hj;exact h2 m a ha (hd m hm) j hj
   have hacc:∀ i a,(acc++[LJ (d++d.flatMap fun j=>acc.getD j [])])[i]? = some a->S i=true->∀ j∈a,S j=true:=by
    intro i a ha hS
    by_cases hi:i<k
    ·rw[Xe (by omega)] at ha
     exact h2 i a ha hS
    ·rw[Xg (by omega)] at ha
     have hik:i=k:=by
      have:=(WH.1 ha).1
      simp at this;omega
     subst hik
     rw[hk] at ha
     simp only[Nat.sub_self,Xb,WJ] at ha
     subst ha
     exact hrow (h1 0 d rfl (by simpa using hS))
   obtain⟨k1,k2⟩:=gX r (acc++[LJ (d++d.flatMap fun j=>acc.getD j [])]) (k+1) (by simp[hk]) (fun i e he hS=>h1 (i+1) e (by simpa using he) (by rw[show k+(i+1)=k+1+i by omega];exact hS)) hacc
    (fun i a ha=>by have:=(WH.1 ha).1;simp at this;omega)
   refine⟨k1,fun i e he hd a ha=>?_⟩
   have keep:∀ (ds acc:List (List Nat)) (i:Nat),i<acc.length->(bg ds acc)[i]? = acc[i]?:=by
    intro ds
    induction ds with
    | nil=>intros;rfl
    | cons d r ih=>
      intro acc i hi
      rw[bg,ih _ i (by simp;omega),Xe hi]
   cases i with
   | zero=>
     simp only[Xb,WJ] at he
     subst he
     rw[bg,Nat.add_zero,keep _ _ _ (by simp;omega),Xg (by omega),hk] at ha
     simp only[Nat.sub_self,Xb,WJ] at ha
     subst ha
     exact hrow hd
   | succ i=>
     rw[bg,show k+(i+1)=k+1+i by omega] at ha
     exact k2 i e (by simpa using he) hd a ha
theorem gY:∀ (ds acc:List (List Nat)),(bg ds acc).length=acc.length+ds.length
 | [],acc=>by simp[bg]
 | d::r,acc=>by rw[bg,gY];simp;omega
section
variable {P:Program}{c:Ctx}{κ0:Kap}{N:Nat}{ro:Option Nat}{nf:Nat}
theorem ve {muts:List Nat}{ops:Array Oper}:∀ (l:List Oper) (aops:List AOper),GB P muts N ops l=some aops->l.length=aops.length/\∀ (i:Nat) (o:Oper),l[i]? = some o->∃ ao,aops[i]? = some ao/\A2 P muts N ops o=some ao
 | [],aops,h=>by simp[GB] at h;subst h;simp
 | o::r,aops,h=>by
   simp only[GB] at h
   split at h
   ·rename_i a b ha hb
    cases h
    obtain⟨h1,h2⟩:=ve r b hb
    refine⟨by simp[h1],fun i o' hi=>?_⟩
    cases i with
    | zero=>simp only[Xb,WJ] at hi;subst hi;exact⟨a,rfl,ha⟩
    | succ i=>exact h2 i o' (by simpa using hi)
   ·cases h
structure Mid (c:Ctx)(κ0:Kap)(N:Nat)(s:St)(T:List Ent)(S:Nat->Bool)(a:Act)(w:World)(κ:Kap):Prop where
 w_eq:κ.w=w
 ext0:Ext κ0 κ
 rel:SRel c κ (cy S (T.map (·.δ)) 0 s.σ)
 left:Left c κ0.imm κ
 env:∀ x,ARel κ (cy S (T.map Ent.env) 0 s.E x) (a.tmps.getD x Go.undef)
 size:a.tmps.size=N
 defers:ee c κ a.defers
 fresh:∀ r,s.next<=r->κ.nm r≠none->∃ j e,S j=true/\T[j]? = some e/\((e.kd=1/\e.new=r)\/(e.kd=2/\r<e.top))
theorem p5 {e:Ent}{x:Nat}:x∈bm e.env↔e.dst=some x:=by
 unfold Ent.env bm
 cases e.dst with
 | none=>simp
 | some d=>simp[eq_comm]
theorem IY {muts:List Nat}{ops:Array Oper}{o:Oper}{ao:AOper}{s si:St}{T:List Ent}{S S':Nat->Bool}{a:Act}{w:World}{κ:Kap}{e:Ent}{i:Nat}{K:Act->World->Prop}{Q:Exit->Act->World->Prop}
  (hc:A2 P muts N ops o=some ao) (hM:Mid c κ0 N s T S a w κ) (hi:T[i]? = some e) (hSi:S i=false) (hS':S' i=true) (hSS:∀ j,j≠i->S' j=S j) (hdst:e.dst=ao.dst)
  (hstep:qt P c.G si.E si.σ (cH si ao.guard) ao.op e)
  (hE:∀ x∈ao.slots,cy S (T.map Ent.env) 0 s.E x=si.E x) (hσ:∀ r∈e.reads,cy S (T.map (·.δ)) 0 s.σ r=si.σ r)
  (hoE:∀ j v r,j≠i->(T.map Ent.env)[j]? = some v->r∈bm v->r∈bm e.env->i<j->S j=false) (hoσ:∀ j v r,j≠i->(T.map (·.δ))[j]? = some v->r∈bm v->r∈bm e.δ->i<j->S j=false)
  (hnew:e.isM=true->s.next<=e.new) (hnone:e.kd≠0->∀ r,(e.kd=1->r=e.new)->e.new<=r->∀ j e',S j=true->T[j]? = some e'->¬ ((e'.kd=1/\e'.new=r)\/(e'.kd=2/\r<e'.top)))
  (hK:∀ a w κ,Mid c κ0 N s T S' a w κ->K a w) :
  if Region.wanted o (yielded ops a.tmps)=true then o.wpIn (FR ro) nf P a w K Q else K (a.put o.dst Go.undef) w:=by
 have hw:=hM.w_eq
 subst hw
 unfold A2 at hc
 split at hc
 ·rename_i g op hg hop
  split at hc
  ·rename_i hd
   cases hc
   simp only at hstep hdst
   let sS:St:=⟨[],[],0⟩
   have hEenv:cy S' (T.map Ent.env) 0 s.E=nJ (cy S (T.map Ent.env) 0 s.E) e.env:=sO (by simp[hi]) hS' hSS hoE
   have hσenv:cy S' (T.map (·.δ)) 0 s.σ=nJ (cy S (T.map (·.δ)) 0 s.σ) e.δ:=sO (by simp[hi]) hS' hSS hoσ
   have put':∀ (κ':Kap) (u:Value),(∀ x,ARel κ' (cy S (T.map Ent.env) 0 s.E x) (a.tmps.getD x Go.undef))->ARel κ' e.v u ->
     (∀ x,ARel κ' (cy S' (T.map Ent.env) 0 s.E x) ((a.put o.dst u).tmps.getD x Go.undef))/\(a.put o.dst u).tmps.size=N/\(a.put o.dst u).defers=a.defers:=by
    intro κ' u h1 h2
    rw[hEenv]
    cases hod:o.dst with
    | none=>
      have:e.env=[]:=by unfold Ent.env;rw[hdst,hod]
      rw[this]
      exact⟨h1,hM.size,rfl⟩
    | some d=>
      have hev:e.env=[(d,e.v)]:=by unfold Ent.env;rw[hdst,hod]
      rw[hev]
      rw[hod] at hd
      simp only[AD,decide_eq_true_eq] at hd
      refine⟨fun x=>?_,by simp[Act.put,hM.size],rfl⟩
      simp only[nJ,Act.put]
      by_cases hx:x=d
      ·subst hx
       rw[if_pos rfl]
       have:(a.tmps.setIfInBounds x u).getD x Go.undef=u:=by simp[WM,hM.size,hd]
       rw[this];exact h2
      ·rw[if_neg hx]
       have:(a.tmps.setIfInBounds d u).getD x Go.undef=a.tmps.getD x Go.undef:=by
        simp only[WM,XP]
        rw[if_neg (fun h=>hx h.symm)]
       rw[this];exact h1 x
   have hguard:∀ b,cH si g=some b->Region.wanted o (yielded ops a.tmps)=b:=by
    intro b hb
    have hcg:cH ⟨(match g with | some (i,_)=>[(i,si.E i)] | none=>[]),[],0⟩ g=some b:=by
     cases g with
     | none=>exact hb
     | some p=>
       obtain⟨x,y⟩:=p
       simp only[cH,St.E,look,if_true] at hb ⊢
       exact hb
    refine f9 (κ:=κ) (a:=a) hg (fun x=>?_) hcg
    cases g with
    | none=>exact .any _
    | some p=>
      obtain⟨y,z⟩:=p
      simp only[St.E,look]
      by_cases hx:y=x
      ·subst hx
       rw[if_pos rfl]
       have:=hM.env y
       rw[hE y (by simp[AOper.slots])] at this
       exact this
      ·rw[if_neg hx];exact .any _
   have fresh0:∀ r,s.next<=r->κ.nm r≠none->∃ j e,S' j=true/\T[j]? = some e/\((e.kd=1/\e.new=r)\/(e.kd=2/\r<e.top)):=by
    intro r hr hn
    obtain⟨j,e',h1,h2,h3⟩:=hM.fresh r hr hn
    have hj:j≠i:=by rintro rfl;rw[hSi] at h1;cases h1
    exact⟨j,e',by rw[hSS j hj];exact h1,h2,h3⟩
   have slotsE:∀ x∈op.slots,cy S (T.map Ent.env) 0 s.E x=si.E x:=fun x hx=>hE x (by simp[AOper.slots,hx])
   rcases hstep with ⟨hb,hv,hδ,hrd,hm,_⟩ | ⟨hb,hst⟩
   ·rw[hguard _ hb,if_neg (by simp)]
    obtain⟨p1,p2,p3⟩:=put' κ Go.undef hM.env (by rw[hv];exact .pv _ _ .undef)
    exact hK _ _ κ ⟨rfl,hM.ext0,by rw[hσenv,hδ];exact hM.rel,hM.left,p1,p2,by rw[p3];exact hM.defers,fresh0⟩
   ·rw[hguard _ hb,if_pos rfl]
    generalize hmu:VY muts o.dst=mu at hop
    rcases LW hop with ⟨g,x,rfl,hz⟩ | ⟨t,rfl,ht⟩ | ⟨m,rfl,hmm⟩ | rfl
    ·exact hst.elim
    ·replace ht:=xZ ht
     obtain⟨hrun,hδ,hrd,hm,_⟩:=hst
     rw[<- TOp.run_congr (E:=cy S (T.map Ent.env) 0 s.E) (E':=si.E) (fun x hx=>slotsE x hx)] at hrun
     obtain⟨u,h1,h2⟩:=qH (P:=P) (κ:=κ) (E:=cy S (T.map Ent.env) 0 s.E) (a:=a) ht (fun x _=>hM.env x) hrun
     obtain⟨p1,p2,p3⟩:=put' κ u hM.env h2
     refine eQ h1 ?_
     exact hK _ _ κ ⟨rfl,hM.ext0,by rw[hσenv,hδ];exact hM.rel,hM.left,p1,p2,by rw[p3];exact hM.defers,fresh0⟩
    ·
      obtain⟨hrun,hrd,hm,htop,hkd⟩:=hst
      have hreads:m.reads (cy S (T.map Ent.env) 0 s.E)=m.reads si.E:=by
       have hh:∀ x∈m.slots,cy S (T.map Ent.env) 0 s.E x=si.E x:=fun x hx=>slotsE x hx
       cases m<;>simp only[MOp.reads,MOp.slots,Xk] at hh ⊢
       case load g sz x=>rw[az hh]
       case toStr x=>rw[az hh]
       case xop o=>exact XOp.reads_congr hh
       case store sz x v=>rw[az (x:=x) (fun i hi=>hh i (.inl hi))]
       case append mu e sz b x y=>rw[az (x:=x) (fun i hi=>hh i (.inl hi)),az (x:=y) (fun i hi=>hh i (.inr hi))]
       case sliceA n sz x l h=>rw[az (x:=x) (fun i hi=>hh i (.inl (.inl hi)))]
      rw[<- MOp.run_congr (E:=cy S (T.map Ent.env) 0 s.E) (E':=si.E) (σ:=cy S (T.map (·.δ)) 0 s.σ) (σ':=si.σ) (fun x hx=>slotsE x hx) (fun r hr=>hσ r (by rw[hrd,<- hreads];exact hr))] at hrun
      have hn:m.makes=true->κ.nm e.new=none:=by
       intro hmk
       have hk1:e.kd=1:=by rw[hkd,dE,if_pos hmk]
       cases hk:κ.nm e.new with
       | none=>rfl
       | some d=>
         obtain⟨j,e',h1,h2,h3⟩:=hM.fresh e.new (hnew hm) (by rw[hk];simp)
         exact absurd h3 (hnone (by omega) e.new (fun _=>rfl) (WX _) j e' h1 h2)
      obtain⟨x,u,κ',h1,h2,h3,h4,h5,h6⟩:=oo (P:=P) hmm hM.rel hM.left.size hn (fun x _=>hM.env x) hrun
      obtain⟨p1,p2,p3⟩:=put' κ' u (fun x=>(hM.env x).ext h4.ext) h3
      have hMid:Mid c κ0 N s T S' (a.put o.dst u) κ'.w κ':=by
       refine⟨rfl,hM.ext0.trans h4.ext,?_,h4.left _ hM.left,p1,p2,by rw[p3];exact hM.defers.ext h4.ext,fun r hr hnn=>?_⟩
       ·rw[hσenv,<- fj];exact h5
       ·cases hmk:m.makes with
        | false=>rw[h6 hmk] at hnn;exact fresh0 r hr hnn
        | true=>
          by_cases hre:r=e.new
          ·exact⟨i,e,hS',hi,.inl ⟨by rw[hkd,dE,if_pos hmk],hre.symm⟩⟩
          ·refine fresh0 r hr fun hz=>hnn (h4.fresh r hre hz)
      rcases h2 with rfl | ⟨rfl,rfl⟩
      ·exact eQ h1 (hK _ _ κ' hMid)
      ·exact wC h1 (hK _ _ κ' hMid)
    ·
      rcases sF P o.op with hb | ⟨af,xs,hce,hco⟩
      ·rw[hb] at hst;obtain⟨p,hcl,_⟩:=hst;simp[kV,AX.ev,ed] at hcl
      ·rw[hce] at hst slotsE
       ·obtain⟨p,hcl,hst⟩:=hst
        have hevf:af.ev (cy S (T.map Ent.env) 0 s.E)=af.ev si.E:=az fun x hx=>slotsE x (by simp[AOp.slots,hx])
        have hevx:xs.map (·.ev (cy S (T.map Ent.env) 0 s.E))=xs.map (·.ev si.E):=jw fun x hx=>slotsE x (by simp only[AOp.slots,Xk];exact .inr hx)
        rw[<- hevf] at hcl
        obtain⟨vs,us,args,hvs,hus,hv1,hu1,hxs,hrun0⟩:=xW (P:=P) (κ:=κ) (E:=cy S (T.map Ent.env) 0 s.E) (a:=a) hco (fun x=>hM.env x) hcl
        obtain⟨hxl,hxr⟩:=iI (κ:=κ) (E:=cy S (T.map Ent.env) 0 s.E) (a:=a) hxs (fun x _=>hM.env x)
        have hmid:∀ (i:Nat) (x:AV),(xs.map (·.ev (cy S (T.map Ent.env) 0 s.E)))[i]? = some x->ARel κ x ((args.map a.eval).getD i Go.undef):=by
         intro i x hx
         rw[aL];simpa using hxr i x hx
        have hall:=dp (κ:=κ) (by simp[hvs];exact hxl) (dp (κ:=κ) hvs hv1 hmid) hu1
        rcases hst with ⟨ps,r,hps,⟨hcal,hP⟩,hv,hδ,hrd,hm,_⟩ | ⟨sto,hsto,⟨hcal,hT⟩,htop,hm,hkd,hlive⟩
        rotate_left
        ·-- a call that is lent memory
         rw[<- hevx] at hT
         have hrun:=hrun0 hcal κ.w
         refine mw hrun ?_
         have hR:=hM.rel
         have hL:=hM.left
         have hreads:∀ r,si.σ r≠.none->cy S (T.map (·.δ)) 0 s.σ r=si.σ r:=fun r hr=>hσ r (hlive r hr)
         have hzz:∀ r,si.σ r≠.none->cy S (T.map (·.δ)) 0 s.σ r≠.none:=fun r hr=>by rw[hreads r hr];exact hr
         have hS0:SRel (cQ κ si.σ c.G) κ si.σ:=by
          refine⟨fun r=>?_,fun r r' d d' b h1 h2=>hR.apart r r' d d' b (hzz r h1) (hzz r' h2),fun r d b h1 h2 h3=>.inr ⟨r,d,h1,h2,h3⟩,hR.immLt,hR.glob.lend fun b ⟨r,d,h1,h2,h3⟩=>hR.mine r d b (hzz r h1) h2 h3⟩
          by_cases hr:si.σ r = .none
          ·rw[hr];trivial
          ·rw[<- hreads r hr];exact hR.blk r
         have hfr:∀ r,e.new<=r->κ.nm r=none:=by
          intro r hr
          cases hk:κ.nm r with
          | none=>rfl
          | some d=>
            obtain⟨j,e',h1,h2,h3⟩:=hM.fresh r (Xv (hnew hm) hr) (by rw[hk];simp)
            exact absurd h3 (hnone (by omega) r (fun h=>by omega) hr j e' h1 h2)
         refine (hT κ _ (by rw[hsto];exact hS0) hfr (by simp[hvs,hus];simpa using hxl) hall).mono ?_
         rintro e1 w' ⟨u,v',κ',sto',next',rfl,rfl,he,hL1,hv1,hS1,hf1,rfl,hsto',rfl⟩
         rw[hsto] at hL1 hS1
         rw[hsto'] at hS1
         obtain⟨p1,p2,p3⟩:=put' κ' u (fun x=>(hM.env x).ext he) hv1
         have hlent:∀ b,(cQ κ si.σ c.G).lent b->c.mine b:=by
          rintro b ⟨r,d,h1,h2,h3⟩
          exact hR.mine r d b (hzz r h1) h2 h3
         have hmine:∀ b,(cQ κ si.σ c.G).mine b->c.mine b:=by
          intro b hb
          rcases hb with hb | hb
          ·exact .inl (Xv hL.size hb)
          ·exact hlent b hb
         have hupd:∀ r,r∈bm e.δ\/si.σ r≠.none->aE.upd (cy S (T.map (·.δ)) 0 s.σ) e.δ r=aE.upd si.σ e.δ r:=by
          intro r hr
          rw[fj,fj]
          exact qo e.δ _ _ (hr.imp id (hreads r))
         have hout:∀ r,¬ (r∈bm e.δ\/si.σ r≠.none)->aE.upd (cy S (T.map (·.δ)) 0 s.σ) e.δ r=cy S (T.map (·.δ)) 0 s.σ r/\aE.upd si.σ e.δ r = .none:=by
          intro r hr
          have hk:r∉bm e.δ:=fun h=>hr (.inl h)
          have hz:si.σ r = .none:=Classical.byContradiction fun h=>hr (.inr h)
          rw[fj,fj,jF _ _ hk,jF _ _ hk]
          exact⟨rfl,hz⟩
         have hfar:∀ r d b,cy S (T.map (·.δ)) 0 s.σ r≠.none->¬ (r∈bm e.δ\/si.σ r≠.none)->κ.nm r=some d->d.block=some b->b<κ.w.heap.size/\¬ (cQ κ si.σ c.G).lent b:=by
          intro r d b h1 h2 h3 h4
          refine⟨(hR.blk r).lt h1 h3 h4,?_⟩
          rintro⟨r',d',k1,k2,k3⟩
          have hne:r≠r':=by rintro rfl;exact h2 (.inr k1)
          exact hR.apart r r' d d' b h1 (hzz r' k1) hne h3 k2 h4 k3
         have hnm:∀ r d',cy S (T.map (·.δ)) 0 s.σ r≠.none->κ'.nm r=some d'->∃ d,κ.nm r=some d/\d=d':=by
          intro r d' h1 h2
          have hb:=hR.blk r
          generalize cy S (T.map (·.δ)) 0 s.σ r=B at hb h1
          cases B with
          | none=>exact absurd rfl h1
          | cells A f l=>
            rcases hb with ⟨_,_,q1⟩ | ⟨b,n,cs,q1,_⟩
            ·have:=he.nm r _ q1
             rw[this] at h2;cases h2
             exact⟨_,q1,rfl⟩
            have:=he.nm r _ q1
            rw[this] at h2;cases h2
            exact⟨_,q1,rfl⟩
          | tok A z=>
            rcases hb with q1 | ⟨b,n,cap,cs,q1,_⟩
            ·have:=he.nm r _ q1
             rw[this] at h2;cases h2
             exact⟨_,q1,rfl⟩
            have:=he.nm r _ q1
            rw[this] at h2;cases h2
            exact⟨_,q1,rfl⟩
          | mp l=>
            obtain⟨b,es,ck,q1,_⟩:=hb
            have:=he.nm r _ q1
            rw[this] at h2;cases h2
            exact⟨_,q1,rfl⟩
          | bts e l=>
            obtain⟨b,n,cs,fz,q1,_⟩:=hb
            have:=he.nm r _ q1
            rw[this] at h2;cases h2
            exact⟨_,q1,rfl⟩
         refine hK _ _ κ' ⟨rfl,hM.ext0.trans he,?_,⟨hL1.os.trans hL.os,hL1.tape.trans hL.tape,hL1.output.trans hL.output,Xv hL.size hL1.size,fun b hlt hl=>?_,fun b o hi=>?_⟩,p1,p2,by rw[p3];exact hM.defers.ext he,fun r hr hnn=>?_⟩
         ·rw[hσenv,<- fj]
          refine⟨fun r=>?_,fun r r' d d' b h1 h2 hne h3 h4 h5=>?_,fun r d b h1 h2 h3=>?_,hS1.immLt,hR.glob.back hlent hS1.glob hL1.block⟩
          ·by_cases hr:r∈bm e.δ\/si.σ r≠.none
           ·rw[hupd r hr];exact hS1.blk r
           ·rw[(hout r hr).1]
            refine (hR.blk r).keep he fun hz d b hd hbk=>?_
            obtain⟨q1,q2⟩:=hfar r d b hz hr hd hbk
            exact⟨hL1.block b q1 q2,fun o ho=>(hL1.imm b o ho).elim id fun h=>h.elim (fun h=>absurd q1 (Nat.not_lt.2 h)) (fun h=>absurd h q2)⟩
          ·by_cases hr:r∈bm e.δ\/si.σ r≠.none
           ·rw[hupd r hr] at h1
            by_cases hr':r'∈bm e.δ\/si.σ r'≠.none
            ·rw[hupd r' hr'] at h2
             exact hS1.apart r r' d d' b h1 h2 hne h3 h4 h5
            ·rw[(hout r' hr').1] at h2
             intro h6
             obtain⟨d2,q1,rfl⟩:=hnm r' d' h2 h4
             obtain⟨q3,q4⟩:=hfar r' _ b h2 hr' q1 h6
             rcases hS1.mine r d b h1 h3 h5 with h | h
             ·exact absurd q3 (Nat.not_lt.2 h)
             ·exact q4 h
           ·rw[(hout r hr).1] at h1
            obtain⟨d1,q1,rfl⟩:=hnm r d h1 h3
            obtain⟨q3,q4⟩:=hfar r _ b h1 hr q1 h5
            intro h6
            by_cases hr':r'∈bm e.δ\/si.σ r'≠.none
            ·rw[hupd r' hr'] at h2
             rcases hS1.mine r' d' b h2 h4 h6 with h | h
             ·exact absurd q3 (Nat.not_lt.2 h)
             ·exact q4 h
            ·rw[(hout r' hr').1] at h2
             obtain⟨d2,q1',rfl⟩:=hnm r' d' h2 h4
             exact hR.apart r r' _ _ b h1 h2 hne q1 q1' h5 h6
          ·by_cases hr:r∈bm e.δ\/si.σ r≠.none
           ·rw[hupd r hr] at h1
            exact hmine b (hS1.mine r d b h1 h2 h3)
           ·rw[(hout r hr).1] at h1
            obtain⟨d1,q1,rfl⟩:=hnm r d h1 h2
            exact hR.mine r _ b h1 q1 h3
         ·refine (hL1.block b (W0 hlt hL.size) fun h=>?_).trans (hL.block b hlt hl)
          rcases hlent b h with h | h
          ·exact absurd hlt (Nat.not_lt.2 h)
          ·exact hl h
         ·rcases hL1.imm b o hi with h | h
          ·exact hL.imm b o h
          ·exact .inr (hmine b h)
         ·by_cases hk:κ.nm r=none
          ·refine⟨i,e,hS',hi,.inr ⟨hkd,?_⟩⟩
           rcases XU r e.top with h | h
           ·exact h
           ·exact absurd (hf1 r h) hnn
          ·exact fresh0 r hr hk
        rw[<- hevx] at hps
        have hrun:=hrun0 hcal κ.w
        refine mw hrun ?_
        refine (hP κ.w κ.imm _ hM.rel.glob.ok hM.rel.immLt (by rw[cz hps];simp[hvs,hus];simpa using hxl) fun k x hx=>?_).mono ?_
        ·obtain⟨y,hy,hp⟩:=dj hps k x hx
         exact cr hp (hall k y hy)
        ·rintro e' w' ⟨u,imm',rfl,hbl,h1,h2,h3,h4⟩
         have hst:Rel c κ0 N ⟨[],[],s.next⟩ a κ.w κ->True:=fun _=>trivial
         have he:Ext κ ⟨w',κ.nm,imm'⟩:=by
          refine⟨h1,fun b o v hi hc=>?_,fun _ _ h=>h,fun b o ho _=>(hbl.block b (WU.1 ho).1).trans ho⟩
          have hl:=World.block_lt_of_cell? κ.w _ hc
          exact (World.cell?_of_block (a:=⟨b,o,none⟩) (hbl.block b hl)).trans hc
         have hL:=hM.left
         have hR:=hM.rel
         obtain⟨p1,p2,p3⟩:=put' ⟨w',κ.nm,imm'⟩ u (fun x=>(hM.env x).ext he) (by rw[hv];exact .pv _ _ h4)
         refine hK _ _ ⟨w',κ.nm,imm'⟩ ⟨rfl,hM.ext0.trans he,?_,⟨hbl.os.trans hL.os,hbl.tape.trans hL.tape,hbl.output.trans hL.output,Xv hL.size hbl.size,fun b hlt hl=>?_,fun b o hi=>?_⟩,p1,p2,by rw[p3];exact hM.defers.ext he,fresh0⟩
         ·rw[hσenv,hδ]
          refine⟨fun r=>?_,hR.apart,hR.mine,h3,Wr he hR.glob fun g h1 _=>hbl.block g (W0 h1 hL.size)⟩
          refine (hR.blk r).keep he fun hz d b hd hbk=>?_
          have hl:=(hR.blk r).lt hz hd hbk
          exact⟨hbl.block b hl,fun o ho=>(h2 b o ho).elim id (fun h=>by omega)⟩
         ·exact (hbl.block b (W0 hlt hL.size)).trans (hL.block b hlt hl)
         ·rcases h2 b o hi with h | h
          ·exact hL.imm b o h
          ·exact .inr (.inl (Xv hL.size h))
  ·cases hc
 ·cases hc
end
section
variable {P:Program}{c:Ctx}{κ0:Kap}{N:Nat}{ro:Option Nat}{nf:Nat}
theorem F4 {md:Region.Mode}{e:Edge}(h:Region.binds .any e=true):Region.binds md e=true:=by
 unfold Region.binds at h ⊢
 split at h
 ·exact absurd h (by decide)
 ·exact absurd h (by decide)
 ·rfl
theorem ma {md:Region.Mode}{ops:Array Oper}{listed:Array Bool}{i:Nat}(h:i∈Region.ready md ops listed):∃ o,ops[i]? = some o/\i<ops.size/\listed.getD i true=false/\∀ j∈be o,listed.getD j false=true:=by
 unfold Region.ready at h
 simp only[List.mem_filter,List.mem_range,WT,Bool.not_eq_true'] at h
 obtain⟨h1,h2,h3⟩:=h
 refine⟨ops[i],by simp[h1],h1,h2,fun j hj=>?_⟩
 have ho:ops[i]? = some ops[i]:=by simp[h1]
 rw[ho] at h3
 simp only[WZ,XK,Array.all_eq_true_iff_forall_mem,Bool.or_eq_true,Bool.not_eq_true'] at h3
 simp only[be,Xo,List.mem_filter] at hj
 obtain⟨e,⟨he,hb⟩,rfl⟩:=hj
 rcases h3 e (by simpa using he) with h | h
 ·rw[F4 hb] at h;cases h
 ·exact h
theorem qX {md:Region.Mode}{ops:Array Oper}{listed:Array Bool}(hsz:listed.size=ops.size)(hr:Region.ready md ops listed=[])(rank:Nat->Nat)
  (hlt:∀ (i:Nat) (o:Oper),ops[i]? = some o->∀ e∈o.after,Region.binds md e=true->e.on<ops.size/\rank e.on<rank i) :
  ∀ i,i<ops.size->listed.getD i false=true:=by
 have main:∀ n i,rank i=n->i<ops.size->listed.getD i false=true:=by
  intro n
  induction n using Nat.strongRecOn with
  | _ n ih=>
    intro i hin hi
    cases hL:listed.getD i false with
    | true=>rfl
    | false=>
      exfalso
      have hm:i∈Region.ready md ops listed:=by
       unfold Region.ready
       simp only[List.mem_filter,List.mem_range,WT,Bool.not_eq_true']
       have ho:ops[i]? = some ops[i]:=by simp[hi]
       refine⟨hi,?_,?_⟩
       ·have hi':i<listed.size:=by omega
        simp[WM,hi'] at hL ⊢
        exact hL
       ·rw[ho]
        simp only[WZ,XK,Array.all_eq_true_iff_forall_mem,Bool.or_eq_true,Bool.not_eq_true']
        intro e he
        cases hb:Region.binds md e with
        | false=>exact .inl rfl
        | true=>
          right
          obtain⟨h1,h2⟩:=hlt i _ ho e he hb
          exact ih (rank e.on) (by omega) e.on rfl h1
      rw[hr] at hm;cases hm
 exact fun i hi=>main _ i rfl hi
theorem me {md:Region.Mode}{ops:Array Oper}(h:wk md ops=true):∃ rank:Nat->Nat,∀ (i:Nat) (o:Oper),ops[i]? = some o->∀ e∈o.after,Region.binds md e=true->e.on<ops.size/\rank e.on<rank i:=by
 unfold wk at h
 simp only at h
 refine⟨fun i=>Te i (Mz ((nN md ops).zipIdx.map fun p=>(p.2,p.1)).length ((nN md ops).zipIdx.map fun p=>(p.2,p.1)) []),fun i o ho e he hb=>?_⟩
 have hm:(i,(o.after.toList.filter (Region.binds md)).map (·.on))∈(nN md ops).zipIdx.map fun p=>(p.2,p.1):=by
  refine Xo.2 ⟨((o.after.toList.filter (Region.binds md)).map (·.on),i),WK (i:=i) ?_,rfl⟩
  simp[List.getElem?_zipIdx,nN,ho]
 have h1:=(W8.1 h) _ hm
 have h2:=(W8.1 h1) e.on (Xo.2 ⟨e,List.mem_filter.2 ⟨by simpa using he,hb⟩,rfl⟩)
 simp only[WT,decide_eq_true_eq] at h2
 refine⟨?_,h2.2⟩
 have:=h2.1
 simpa[nN] using this
theorem lF {ops:Array Oper}{id:Nat}{a:Act}{w:World}{Q:Exit->Act->World->Prop}
  (h:∀ md,md = .any\/Region.departs ops=true->wpAnyIn (FR ro) nf P md ops Q ops.size (XF ops.size false) a { w with drawn:=w.drawn+1 }):(Code.region id ops true).wpIn (FR ro) nf P Q a w:=
 wpIn_region_draw fun t=>by
  unfold Region.schedule
  split
  ·exact wpAnyIn_sound ops.size t _ a _ (h .any (.inl rfl))
  ·rename_i hd
   have hdep:Region.departs ops=true:=by
    cases hx:Region.departs ops with
    | true=>rfl
    | false=>simp[hx] at hd
   exact wpAnyIn_sound ops.size (t / 2) _ a _ (h _ (.inr hdep))
theorem pi {k r:Nat}{ks rs:List Nat}(h:r∈ks):r+1∈(gj k ks rs).1:=by
 simp only[gj,Xk,Xo]
 exact .inr ⟨r,h,rfl⟩
theorem Cs {k r:Nat}{ks rs:List Nat}(h:r∈rs):r+1∈(gj k ks rs).2:=by
 simp only[gj,Xk,Xo]
 exact .inr ⟨r,h,rfl⟩
theorem Dg {A:List (List Nat)}{i j:Nat}(hne:j≠i)(h:Gy A i j=true):Gy A j i=true:=by
 unfold Gy at h ⊢
 by_cases h1:i<j
 ·rw[if_pos h1] at h
  rw[if_neg (by omega)];exact h
 ·rw[if_neg h1] at h
  rw[if_pos (by omega)];exact h
theorem qt.kds {P:Program}{G:Nat->List PV}{E:Nat->AV}{σ:aE}{wt:Option Bool}{op:AOp}{e:Ent}(h:qt P G E σ wt op e)(h0:e.kd≠0):e.kd=1\/e.kd=2:=by
 rcases h with ⟨_,_,_,_,h1,h2⟩ | ⟨_,h⟩
 ·exact absurd h2 h0
 ·cases op with
  | t o=>exact absurd h.2.2.2.2 h0
  | m o=>
    have h2:=h.2.2.2.2
    unfold dE at h2
    split at h2
    ·exact .inl h2
    ·exact absurd h2 h0
  | call f xs=>
    obtain⟨p,_,⟨ps,r,_,_,_,_,_,h1,h2⟩ | ⟨sto,_,_,h1,h2,h3,_⟩⟩:=h
    ·exact absurd h2 h0
    ·exact .inr h3
  | fz g x=>exact h.elim
theorem yF {muts:List Nat}{ops:Array Oper}{aops:List AOper}{F:St->Prop}{Q:Exit->Act->World->Prop}{k:Nat}{md:Region.Mode}
  (hc:GB P muts N ops ops.toList=some aops) (hlt:∀ (i:Nat) (o:Oper),ops[i]? = some o->∀ j∈be o,j<i)
  (htail:∀ i,k<=i->i<ops.size->∀ j,j<i->((bg (ops.toList.map be) []).getD i []).contains j=true)
  (hrank:∃ rank:Nat->Nat,∀ (i:Nat) (o:Oper),ops[i]? = some o->∀ e∈o.after,Region.binds md e=true->e.on<ops.size/\rank e.on<rank i)
  (hQ:∀ s a w κ,Rel c κ0 N s a w κ->F s->Q .normal a w):∀ (fuel m:Nat) (listed:Array Bool) (s:St) (a:Act) (w:World) (κ:Kap),listed.size=ops.size->k<=m->(∀ j,j<ops.size->listed.getD j false=decide (j<m)) ->
   ops.size - m<=fuel->Rel c κ0 N s a w κ->ef P c.G (aops.drop m) F s->wpAnyIn (FR ro) nf P md ops Q fuel listed a w:=by
 obtain⟨l1,l2⟩:=ve (P:=P) (N:=N) ops.toList aops hc
 have hn:aops.length=ops.size:=by rw[<- l1];simp
 have hget:∀ (listed:Array Bool) (i:Nat),listed.size=ops.size->i<ops.size->listed.getD i true=listed.getD i false:=by
  intro listed i h1 h2
  simp[WM,show i<listed.size by omega]
 have done:∀ (m:Nat) (s:St) (a:Act) (w:World) (κ:Kap),ops.size<=m->Rel c κ0 N s a w κ->ef P c.G (aops.drop m) F s->Q .normal a w:=by
  intro m s a w κ hm hR hv
  rw[List.drop_eq_nil_of_le (by omega)] at hv
  exact hQ s a w κ hR hv
 intro fuel
 induction fuel with
 | zero=>
   intro m listed s a w κ hsz hkm hl hf hR hv
   refine⟨?_,done m s a w κ (by omega) hR hv⟩
   cases hrd:Region.ready md ops listed with
   | nil=>rfl
   | cons i r=>
     obtain⟨o,ho,hi,hli,_⟩:=ma (i:=i) (by rw[hrd];simp)
     rw[hget listed i hsz hi,hl i hi] at hli
     simp at hli;omega
 | succ fuel ih=>
   intro m listed s a w κ hsz hkm hl hf hR hv
   refine⟨fun hr=>?_,fun i hi=>?_⟩
   ·obtain⟨rank,hrk⟩:=hrank
    have hall:=qX hsz hr rank hrk
    refine done m s a w κ ?_ hR hv
    rcases XU m ops.size with h | h
    ·have:=hall m h
     rw[hl m h] at this
     simp at this
    ·exact h
   ·obtain⟨o,ho,hil,hli,hdeps⟩:=ma hi
    rw[hget listed i hsz hil,hl i hil] at hli
    have hmi:m<=i:=by simpa using hli
    have him:i=m:=by
     rcases XU m i with h | h
     ·exfalso
      obtain⟨c1,c2⟩:=gX (S:=fun i=>listed.getD i false) (ops.toList.map be) [] 0 rfl (fun i d hd hS j hj=>by
       simp only[W4] at hS
       simp only[WW,WI] at hd
       obtain⟨o',ho',rfl⟩:=hd
       have ho'':ops[i]? = some o':=by simpa using ho'
       have h1:=hlt i o' ho'' j hj
       have h2:i<ops.size:=(WU.1 ho'').1
       rw[hl i h2] at hS
       rw[hl j (by omega)]
       simp at hS ⊢;omega) (by simp) (by simp)
      have hlenA:(bg (ops.toList.map be) []).length=ops.size:=by rw[gY];simp
      have hA:(bg (ops.toList.map be) [])[i]? = some ((bg (ops.toList.map be) []).getD i []):=by
       simp[WN,show i<(bg (ops.toList.map be) []).length by omega]
      have:=c2 i (be o) (by simp[ho]) hdeps _ (by simpa using hA) m (by simpa using htail i (by omega) hil m h)
      rw[hl m (by omega)] at this
      simp at this
     ·omega
    subst him
    have hol:ops.toList[i]? = some o:=by simpa using ho
    obtain⟨ao,hao,hco⟩:=l2 i o hol
    have hdrop:aops.drop i=ao::aops.drop (i+1):=by
     have hlt':i<aops.length:=by omega
     rw[List.drop_eq_getElem_cons hlt']
     congr 1
     exact (WH.1 hao).2
    rw[hdrop] at hv
    have next:∀ s a w κ,Rel c κ0 N s a w κ->ef P c.G (aops.drop (i+1)) F s->wpAnyIn (FR ro) nf P md ops Q fuel (listed.setIfInBounds i true) a w:=by
     intro s a w κ hR hv
     refine ih (i+1) (listed.setIfInBounds i true) s a w κ (by simp[hsz]) (by omega) (fun j hj=>?_) (by omega) hR hv
     simp only[WM,XP]
     by_cases hji:i=j
     ·subst hji;simp[show i<listed.size by omega]
     ·rw[if_neg hji,<- WM,hl j hj]
      have:decide (j<i)=decide (j<i+1):=by
       rw[decide_eq_decide];omega
      exact this
    unfold A2 at hco
    split at hco
    ·rename_i g op hg hop
     split at hco
     ·rename_i hd
      cases hco
      simp only[ef,aV] at hv
      split at hv
      ·rename_i b hb
       have hwant:=f9 (ops:=ops) (o:=o) hg hR.env hb
       unfold wpOpIn
       rw[ho]
       simp only
       rw[hwant]
       cases b with
       | true=>
         rw[if_pos rfl]
         exact oh hop hR hd hv next
       | false=>
         rw[if_neg (by simp)]
         refine⟨fun _ _=>trivial,?_⟩
         exact next _ _ w κ (hR.put (κ':=κ) (w':=w) hd (.pv _ _ .undef)) hv
      ·exact hv.elim
     ·cases hco
    ·cases hco
theorem oK {muts:List Nat}{ops:Array Oper}{aops:List AOper}{id:Nat}{F:St->Prop}{Q:Exit->Act->World->Prop}{s:St}{a:Act}{w:World}{κ:Kap}
  {k:Nat} (hc:GB P muts N ops ops.toList=some aops) (hok:Fi ops.toList aops k=true) (hk:k<=aops.length) (hm:uj ops=true) (hR:Rel c κ0 N s a w κ)
  (hv:vcD P c.G (bg (ops.toList.map be) []) (ef P c.G (aops.drop k) F) (aops.take k) [] s) (hQ:∀ s a w κ,Rel c κ0 N s a w κ->F s->Q .normal a w):(Code.region id ops true).wpIn (FR ro) nf P Q a w:=by
 obtain⟨T,s',hT,hnames,hF⟩:=nO (aops.take k) [] s hv
 simp only[List.nil_append] at hnames
 obtain⟨t1,t2,t3,t4,t5,t6,t7⟩:=SW (aops.take k) s T s' hT
 obtain⟨l1,l2⟩:=ve (P:=P) (N:=N) ops.toList aops hc
 simp only[Fi,WT] at hok
 obtain⟨⟨hslots,hback⟩,htl⟩:=hok
 have hTk:T.length=k:=by rw[<- t1];simp;omega
 have hlt:∀ (i:Nat) (o:Oper),ops[i]? = some o->∀ j∈be o,j<i:=by
  intro i o ho j hj
  have hd:((ops.toList.map be).zipIdx)[i]? = some (be o,i):=by simp[List.getElem?_zipIdx,ho]
  have:=(W8.1 hback) _ (WK hd)
  have:=(W8.1 this) j hj
  simpa using this
 have hn:ops.size=aops.length:=by rw[<- l1];simp
 have htail:∀ i,k<=i->i<ops.size->∀ j,j<i->((bg (ops.toList.map be) []).getD i []).contains j=true:=by
  intro i h1 h2 j hj
  have h3:=(W8.1 htl) i (by simpa using h2)
  simp only[Bool.or_eq_true,decide_eq_true_eq] at h3
  rcases h3 with h3 | h3
  ·omega
  ·exact (W8.1 h3) j (by simpa using hj)
 refine lF fun md hmd=>?_
 have hrank:∃ rank:Nat->Nat,∀ (i:Nat) (o:Oper),ops[i]? = some o->∀ e∈o.after,Region.binds md e=true->e.on<ops.size/\rank e.on<rank i:=by
  have hany:∃ rank:Nat->Nat,∀ (i:Nat) (o:Oper),ops[i]? = some o->∀ e∈o.after,Region.binds .any e=true->e.on<ops.size/\rank e.on<rank i:=by
   refine⟨fun i=>i,fun i o ho e he hb=>?_⟩
   have h1:=hlt i o ho e.on (by
    simp only[be,Xo,List.mem_filter]
    exact⟨e,⟨by simpa using he,hb⟩,rfl⟩)
   have h2:i<ops.size:=(WU.1 ho).1
   exact⟨by omega,h1⟩
  rcases hmd with rfl | hdep
  ·exact hany
  ·simp only[uj,hdep,Bool.not_true,Bool.false_or,WT] at hm
   cases md with
   | text=>exact me hm.1
   | gc=>exact me hm.2
   | any=>exact hany
 have key:∀ (fuel:Nat) (listed:Array Bool) (a:Act) (w:World) (κ:Kap),listed.size=ops.size ->
   (∀ i d,(ops.toList.map be)[i]? = some d->listed.getD i false=true->∀ j∈d,listed.getD j false=true) ->
   (((Xq k).filter fun i=>!listed.getD i false).length+(ops.size - k)<=fuel)->(∀ i,k<=i->listed.getD i false=false) ->
   Mid c κ0 N s T (fun i=>listed.getD i false) a w κ->wpAnyIn (FR ro) nf P md ops Q fuel listed a w:=by
  have fin:∀ (fuel:Nat) (listed:Array Bool) (a:Act) (w:World) (κ:Kap),listed.size=ops.size->ops.size - k<=fuel->(∀ i,i<k->listed.getD i false=true)->(∀ i,k<=i->listed.getD i false=false) ->
    Mid c κ0 N s T (fun i=>listed.getD i false) a w κ->wpAnyIn (FR ro) nf P md ops Q fuel listed a w:=by
   intro fuel listed a w κ hsz hf hall hno hM
   refine yF (F:=F) hc hlt htail hrank hQ fuel k listed s' a w κ hsz (WX _) (fun j hj=>?_) hf ⟨hM.w_eq,hM.ext0,?_,hM.left,fun x=>?_,hM.size,hM.defers,fun r hr=>?_⟩ hF
   ·by_cases h:j<k
    ·rw[hall j h];simp[h]
    ·rw[hno j (by omega)];simp[h]
   ·have e:s'.σ=cy (fun i=>listed.getD i false) (T.map (·.δ)) 0 s.σ:=by
     rw[t3,qr (fun i=>listed.getD i false)]
     intro i hi
     rw[W4]
     exact hall i (by simp at hi;omega)
    rw[e];exact hM.rel
   ·have e:s'.E=cy (fun i=>listed.getD i false) (T.map Ent.env) 0 s.E:=by
     rw[t2,qr (fun i=>listed.getD i false)]
     intro i hi
     rw[W4]
     exact hall i (by simp at hi;omega)
    rw[e];exact hM.env x
   ·cases hk:κ.nm r with
    | none=>rfl
    | some d=>
      obtain⟨j,e,h1,h2,h3⟩:=hM.fresh r (by omega) (by rw[hk];simp)
      obtain⟨_,_,_,sj,_,_,hst⟩:=t7 j e h2
      have htp:=hst.tops
      rcases h3 with ⟨h3,h4⟩ | ⟨h3,h4⟩
      ·have h5:=htp.2.1 (by omega)
       have h6:=htp.2.2 h3
       have:=(t5 j e h2 h5).2
       omega
      ·have h5:=htp.2.1 (by omega)
       have:=(t5 j e h2 h5).2
       omega
  intro fuel
  induction fuel with
  | zero=>
    intro listed a w κ hsz hcl hf hno hM
    refine fin 0 listed a w κ hsz (by omega) (fun i hi=>?_) hno hM
    have h0:((Xq k).filter fun i=>!listed.getD i false)=[]:=List.eq_nil_of_length_eq_zero (by omega)
    cases hL:listed.getD i false with
    | true=>rfl
    | false=>
      have:i∈(Xq k).filter fun i=>!listed.getD i false:=List.mem_filter.2 ⟨List.mem_range.2 hi,by rw[hL];rfl⟩
      rw[h0] at this;cases this
  | succ fuel ih=>
    intro listed a w κ hsz hcl hf hno hM
    by_cases hallk:∀ i,i<k->listed.getD i false=true
    ·exact fin _ listed a w κ hsz (by omega) hallk hno hM
    obtain⟨u0,hu0,hu1⟩:∃ i,i<k/\listed.getD i false=false:=by
     refine Classical.byContradiction fun h=>hallk fun i hi=>?_
     cases hL:listed.getD i false with
     | true=>rfl
     | false=>exact absurd ⟨i,hi,hL⟩ h
    refine⟨fun hr=>?_,fun i hi=>?_⟩
    ·obtain⟨rank,hrk⟩:=hrank
     have:=qX hsz hr rank hrk u0 (by omega)
     rw[hu1] at this;cases this
    obtain⟨o,ho,hil,hl,hdeps⟩:=ma hi
    have hi':i<listed.size:=by omega
    have hik:i<k:=by
     rcases XU i k with h | h
     ·exact h
     ·exfalso
      obtain⟨c1,c2⟩:=gX (S:=fun i=>listed.getD i false) (ops.toList.map be) [] 0 rfl (fun i d hd hS=>hcl i d hd (by simpa using hS)) (by simp) (by simp)
      have hlenA:(bg (ops.toList.map be) []).length=ops.size:=by rw[gY];simp
      have hA:(bg (ops.toList.map be) [])[i]? = some ((bg (ops.toList.map be) []).getD i []):=by
       simp[WN,show i<(bg (ops.toList.map be) []).length by omega]
      have:=c2 i (be o) (by simp[ho]) hdeps _ (by simpa using hA) u0 (by simpa using htail i h hil u0 (by omega))
      rw[hu1] at this;cases this
    have hSi:listed.getD i false=false:=by
     simp[WM,hi'] at hl ⊢;exact hl
    have hol:ops.toList[i]? = some o:=by simpa using ho
    obtain⟨ao,hao,hco⟩:=l2 i o hol
    have hTi:T[i]? = some T[i]:=List.getElem?_eq_getElem (by omega)
    obtain⟨ao',hao',hdst,si,e1,e2,hstep⟩:=t7 i _ hTi
    rw[Xl,if_pos hik,hao] at hao';cases hao'
    have hbefore:∀ j,Gy (bg (ops.toList.map be) []) j i=true->j≠i->(j<i/\listed.getD j false=true)\/(i<j/\listed.getD j false=false):=by
     intro j hord hne
     obtain⟨c1,c2⟩:=gX (S:=fun i=>listed.getD i false) (ops.toList.map be) [] 0 rfl (fun i d hd hS=>hcl i d hd (by simpa using hS)) (by simp) (by simp)
     have hlenA:(bg (ops.toList.map be) []).length=ops.size:=by rw[gY];simp
     unfold Gy at hord
     split at hord
     ·rename_i hji
      refine .inl ⟨hji,?_⟩
      have hA:(bg (ops.toList.map be) [])[i]? = some ((bg (ops.toList.map be) []).getD i []):=by
       simp[WN,show i<(bg (ops.toList.map be) []).length by omega]
      exact c2 i (be o) (by simp[ho]) hdeps _ (by simpa using hA) j (by simpa using hord)
     ·rename_i hji
      have hij:i<j:=by omega
      refine .inr ⟨hij,?_⟩
      cases hL:listed.getD j false with
      | false=>rfl
      | true=>
        exfalso
        by_cases hjn:j<ops.size
        ·have hA:(bg (ops.toList.map be) [])[j]? = some ((bg (ops.toList.map be) []).getD j []):=by
          simp[WN,show j<(bg (ops.toList.map be) []).length by omega]
         have:=c1 j _ hA hL i (by simpa using hord)
         rw[hSi] at this;cases this
        ·rw[WM,Array.getElem?_eq_none (by omega)] at hL
         cases hL
    have hslotPair:∀ (j:Nat) (e:Ent),T[j]? = some e->∃ ao,aops[j]? = some ao/\e.dst=ao.dst/\(lU (aops.take k))[j]? = some (ao.dst.toList,ao.slots):=by
     intro j e hj
     obtain⟨ao,h1,h2,_⟩:=t7 j e hj
     have hjk:j<k:=by have:=(WH.1 hj).1;omega
     refine⟨ao,by rw[Xl,if_pos hjk] at h1;exact h1,h2,?_⟩
     simp only[lU,WW,h1,WZ]
    have hE:∀ x∈ao.slots,cy (fun i=>listed.getD i false) (T.map Ent.env) 0 s.E x=si.E x:=by
     intro x hx
     rw[e1]
     refine sP hSi fun j v hne hj hkv=>?_
     simp only[WW,WI] at hj
     obtain⟨e,he,rfl⟩:=hj
     obtain⟨aj,a1,a2,a3⟩:=hslotPair j e he
     obtain⟨ai,b1,b2,b3⟩:=hslotPair i _ hTi
     rw[hao] at b1;cases b1
     refine hbefore j (og hslots a3 b3 hne (x:=x) ?_ (.inl hx)) hne
     have:=p5.1 hkv
     rw[a2] at this
     simp[this]
    have hσ:∀ r∈T[i].reads,cy (fun i=>listed.getD i false) (T.map (·.δ)) 0 s.σ r=si.σ r:=by
     intro r hr
     rw[e2]
     refine sP hSi fun j v hne hj hkv=>?_
     simp only[WW,WI] at hj
     obtain⟨e,he,rfl⟩:=hj
     exact hbefore j (og hnames (p:=gj e.kd (bm e.δ) e.reads) (q:=gj T[i].kd (bm T[i].δ) T[i].reads) (x:=r+1) (by simp[he]) (by simp[hTi]) hne (pi hkv) (.inl (Cs hr))) hne
    have hgetset:∀ j,(listed.setIfInBounds i true).getD j false=if j=i then true else listed.getD j false:=by
     intro j
     simp only[WM,XP]
     by_cases hj:i=j
     ·subst hj;simp[hi']
     ·rw[if_neg hj,if_neg (fun h=>hj h.symm)]
    have step:=IY (P:=P) (ro:=ro) (nf:=nf) (s:=s) (si:=si) (T:=T) (S:=fun i=>listed.getD i false) (S':=fun j=>(listed.setIfInBounds i true).getD j false) (e:=T[i]) (i:=i) (K:=wpAnyIn (FR ro) nf P md ops Q fuel (listed.setIfInBounds i true)) (Q:=Q)
     hco hM hTi hSi (by simp only[hgetset];simp) (fun j hj=>by simp only[hgetset,if_neg hj]) hdst hstep hE hσ
     (fun j v r hne hj hkv hke hij=>by
      simp only[WW,WI] at hj
      obtain⟨e,he,rfl⟩:=hj
      obtain⟨aj,a1,a2,a3⟩:=hslotPair j e he
      obtain⟨ai,b1,b2,b3⟩:=hslotPair i _ hTi
      have h1:=p5.1 hkv
      have h2:=p5.1 hke
      rw[a2] at h1;rw[b2] at h2
      rcases hbefore j (og hslots a3 b3 hne (x:=r) (by simp[h1]) (.inr (by simp[h2]))) hne with ⟨h,_⟩ | ⟨_,h⟩
      ·omega
      ·exact h)
     (fun j v r hne hj hkv hke hij=>by
      simp only[WW,WI] at hj
      obtain⟨e,he,rfl⟩:=hj
      rcases hbefore j (og hnames (p:=gj e.kd (bm e.δ) e.reads) (q:=gj T[i].kd (bm T[i].δ) T[i].reads) (x:=r+1) (by simp[he]) (by simp[hTi]) hne (pi hkv) (.inr (pi hke))) hne with ⟨h,_⟩ | ⟨_,h⟩
      ·omega
      ·exact h)
     (fun hm=>(t5 i _ hTi hm).1)
     (fun hkd r hr hge j e' hSj he'=>by
      obtain⟨_,_,_,sj,_,_,hst'⟩:=t7 j e' he'
      have htp':=hst'.tops
      have htp:=hstep.tops
      have hmi:=htp.2.1 hkd
      have hjne:j≠i:=by
       rintro rfl
       rw[hSi] at hSj;cases hSj
      have before:j<i->e'.isM=true->e'.top<=T[i].new:=fun h hm'=>t6 j i e' _ h he' hTi hm' hmi
      have after:i<j->e'.isM=true->T[i].top<=e'.new:=fun h hm'=>t6 i j _ e' h hTi he' hmi hm'
      have ordered:(T[i].kd=2/\e'.kd≠0)\/e'.kd=2->j<i:=by
       intro h
       have hpair:(gj e'.kd (bm e'.δ) e'.reads,j)≠(gj e'.kd (bm e'.δ) e'.reads,i):=fun h=>hjne (Prod.mk.inj h).2
       have hTj:(T.map fun e=>gj e.kd (bm e.δ) e.reads)[j]? = some (gj e'.kd (bm e'.δ) e'.reads):=by simp[he']
       have hTi':(T.map fun e=>gj e.kd (bm e.δ) e.reads)[i]? = some (gj T[i].kd (bm T[i].δ) T[i].reads):=by simp[hTi]
       have k0:T[i].kd=1\/T[i].kd=2:=hstep.kds hkd
       have ho:Gy (bg (ops.toList.map be) []) j i=true\/Gy (bg (ops.toList.map be) []) i j=true:=by
        rcases h with ⟨h,h'⟩ | h
        ·have k1:e'.kd=1\/e'.kd=2:=hst'.kds h'
         refine .inr (og hnames hTi' hTj (fun h=>hjne h.symm) (x:=0) (by simp[gj,h]) ?_)
         rcases k1 with k1 | k1
         ·exact .inl (by simp[gj,k1])
         ·exact .inr (by simp[gj,k1])
        ·refine .inl (og hnames hTj hTi' hjne (x:=0) (by simp[gj,h]) ?_)
         rcases k0 with k0 | k0
         ·exact .inl (by simp[gj,k0])
         ·exact .inr (by simp[gj,k0])
       have ho':Gy (bg (ops.toList.map be) []) j i=true:=by
        rcases ho with ho | ho
        ·exact ho
        ·exact Dg hjne ho
       rcases hbefore j ho' hjne with ⟨h,_⟩ | ⟨_,h⟩
       ·exact h
       ·rw[hSj] at h;cases h
      rintro (⟨h1,h2⟩ | ⟨h1,h2⟩)
      ·have hm':=htp'.2.1 (by omega)
       have ht':=htp'.2.2 h1
       rcases Nat.lt_or_gt_of_ne hjne with h | h
       ·have:=before h hm';omega
       ·rcases hstep.kds hkd with k0 | k0
        ·have:=after h hm'
         have:=htp.2.2 k0
         have:=hr k0
         omega
        ·have:=ordered (.inl ⟨k0,by omega⟩);omega
      ·have hm':=htp'.2.1 (by omega)
       have:=ordered (.inr h1)
       have:=before this hm'
       omega)
     (fun a w κ hM'=>ih (listed.setIfInBounds i true) a w κ (by simp[hsz]) (fun k d hd hk j hj=>by
       rw[hgetset] at hk ⊢
       by_cases hki:k=i
       ·subst hki
        simp only[WW,hol,WZ,WJ] at hd
        subst hd
        rw[hdeps j hj];simp
       ·rw[if_neg hki] at hk
        rw[hcl k d hd hk j hj];simp) (by
       have hsub:((Xq k).filter fun q=>!(listed.setIfInBounds i true).getD q false).length<((Xq k).filter fun q=>!listed.getD q false).length:=by
        have:((Xq k).filter fun q=>!(listed.setIfInBounds i true).getD q false)=((Xq k).filter fun q=>!listed.getD q false).filter fun q=>decide (q≠i):=by
         rw[List.filter_filter]
         apply List.filter_congr
         intro q _
         rw[hgetset]
         by_cases hk:q=i<;>simp[hk]
        rw[this]
        refine List.length_filter_lt_length_iff_exists.2 ⟨i,List.mem_filter.2 ⟨List.mem_range.2 hik,by rw[hSi];rfl⟩,by simp⟩
       omega) (fun q hq=>by rw[hgetset,if_neg (by omega)];exact hno q hq) hM')
    unfold wpOpIn
    rw[ho]
    simp only
    split
    ·rename_i hw
     rw[if_pos hw] at step
     exact step
    ·rename_i hw
     rw[if_neg hw] at step
     exact⟨fun _ _=>trivial,step⟩
 have hfalse:∀ j,(XF ops.size false).getD j false=false:=by
  intro j
  simp only[WM,Array.getElem?_replicate]
  split<;>rfl
 have hw:=hR.w_eq
 subst hw
 refine key ops.size (XF ops.size false) a _ ⟨{ κ.w with drawn:=κ.w.drawn+1 },κ.nm,κ.imm⟩ (by simp) (fun i d _ h=>by rw[hfalse] at h;cases h) (by
  have:=List.length_filter_le (fun i=>!(XF ops.size false).getD i false) (Xq k)
  simp only[List.length_range] at this
  omega) (fun i _=>hfalse i) ?_
 have hno:∀ {β:Type} (W:List (List (Nat×β))) (k:Nat) (g:Nat->β),cy (fun i=>(XF ops.size false).getD i false) W k g=g:=by
  intro β W
  induction W with
  | nil=>intros;rfl
  | cons x y ih=>intro k g;rw[cy,hfalse];simpa using ih (k+1) g
 have he:Ext κ ⟨{ κ.w with drawn:=κ.w.drawn+1 },κ.nm,κ.imm⟩:=⟨fun _ _ h=>h,fun _ _ _ _ h=>h,fun _ _ h=>h,fun _ _ h _=>h⟩
 have hS:=hR.rel
 have hL:=hR.left
 refine⟨rfl,hR.ext0.trans he,?_,⟨hL.os,hL.tape,hL.output,hL.size,hL.block,hL.imm⟩,fun x=>?_,hR.size,hR.defers.ext he,fun r hr h=>absurd (hR.fresh r hr) h⟩
 ·rw[hno]
  refine⟨fun r=>(hS.blk r).keep he fun _ _ _ _ _=>⟨rfl,fun _ h=>h⟩,hS.apart,hS.mine,hS.immLt,Wr he hS.glob fun _ _ _=>rfl⟩
 ·rw[hno];exact (hR.env x).ext he
end
inductive ACode where
 | skip
 | ops (l:List AOper) (keep:List Nat)
 | draw (A:List (List Nat)) (l l2:List AOper) (keep:List Nat)
 | seq (a b:ACode)
 | cond (x:AX) (a b:ACode)
 | block (id:Nat) (b:ACode)
 | loop (keep:List Nat) (b:ACode)
 | range (f:AX) (ps:List Nat) (keep:List Nat) (a b:ACode)
 | exit (id:Nat)
 | ret
inductive AExit where
 | norm
 | exit (id:Nat)
 | ret
def clip0 (keep:List Nat)(s:St):St:=⟨keep.map fun i=>(i,s.E i),s.sto,s.next⟩
def wL (k:Nat):List Nat->Bool
 | []=>false
 | j::r=>if j=k then true else wL k r
def AL (k:Nat)(b:Blk)(r:List (Nat×Blk)):Bool->List (Nat×Blk)
 | true=>r
 | false=>(k,b)::r
def kE:List Nat->List (Nat×Blk)->List (Nat×Blk)
 | _,[]=>[]
 | seen,p::r=>AL p.1 p.2 (kE (p.1::seen) r) (wL p.1 seen)
theorem rN (k j:Nat)(r:List Nat):wL k (j::r)=if j=k then true else wL k r:=rfl
theorem mG:∀ (l:List (Nat×Blk)) (seen:List Nat) (r:Nat),wL r seen=false->lookB r (kE seen l)=lookB r l
 | [],seen,r,_=>rfl
 | p::q,seen,r,h=>by
   simp only[kE]
   by_cases hp:p.1=r
   ·rw[hp,h]
    simp only[AL,lookB,if_pos hp,if_true]
   ·have hr:wL r (p.1::seen)=false:=by rw[rN,if_neg hp];exact h
    have:=mG q (p.1::seen) r hr
    cases wL p.1 seen<;>simp only[AL,lookB,if_neg hp,this]
def clip (keep:List Nat)(s:St):St:=⟨keep.map fun i=>(i,s.E i),kE [] s.sto,s.next⟩
def cg (acc:List Nat):List Nat->List Nat
 | []=>acc
 | n::r=>cg (if acc.contains n then acc else acc++[n]) r
mutual
def AV.names:AV->List Nat
 | .ptr r _=>[r]
 | .row r _ _ _=>[r]
 | .olist r _ _=>[r]
 | .mp r=>[r]
 | .agg cs=>AV.namesL cs
 | .tup cs=>AV.namesL cs
 | .clo _ fs cs=>AV.namesL fs++AV.namesL cs
 | _=>[]
def AV.namesL:List AV->List Nat
 | []=>[]
 | x::r=>AV.names x++AV.namesL r
end
def Blk.names:Blk->List Nat
 | .cells _ _ l=>AV.namesL l
 | _=>[]
def ig (m0:Nat)(sto:List (Nat×Blk)):Nat->List Nat->List Nat
 | 0,acc=>acc
 | k+1,acc=>ig m0 sto k (cg acc ((acc.flatMap fun r=>(lookB r sto).names).filter fun r=>decide (m0<=r)))
def AA (m0:Nat)(sto:List (Nat×Blk)):List Nat:=(Xq m0).flatMap fun r=>(lookB r sto).names
def Q9 (m0:Nat)(keep:List Nat)(s:St):List Nat:=
 ig m0 s.sto s.sto.length (cg [] (((keep.flatMap fun i=>(s.E i).names)++AA m0 s.sto).filter fun r=>decide (m0<=r)))
def Lt (x:Nat):List Nat->Nat->Option Nat
 | [],_=>none
 | y::r,k=>if y=x then some k else Lt x r (k+1)
def eD (m0:Nat)(os:List Nat)(r:Nat):Option Nat:=if r<m0 then some r else Lt r os m0
mutual
def AV.ren (f:Nat->Option Nat):AV->AV
 | .ptr r o=>match f r with
   | some r'=>.ptr r' o
   | none=>.any
 | .row r a b c=>match f r with
   | some r'=>.row r' a b c
   | none=>.any
 | .olist r a l=>match f r with
   | some r'=>.olist r' a l
   | none=>.pv (.list l)
 | .mp r=>match f r with
   | some r'=>.mp r'
   | none=>.any
 | .agg cs=>.agg (AV.renL f cs)
 | .tup cs=>.tup (AV.renL f cs)
 | .clo g fs cs=>.clo g (AV.renL f fs) (AV.renL f cs)
 | .pv p=>.pv p
 | .any=>.any
def AV.renL (f:Nat->Option Nat):List AV->List AV
 | []=>[]
 | x::r=>AV.ren f x::AV.renL f r
end
def Blk.ren (f:Nat->Option Nat):Blk->Blk
 | .cells T b l=>.cells T b (AV.renL f l)
 | x=>x
def fR (m0:Nat)(f:Nat->Option Nat)(sto:List (Nat×Blk)):List Nat->Nat->List (Nat×Blk)
 | [],_=>[]
 | r::q,k=>(k,(lookB r sto).ren f)::fR m0 f sto q (k+1)
def norm (m0:Nat)(keep:List Nat)(s:St):St:=
 let os:=Q9 m0 keep s
 let f:=eD m0 os
 ⟨keep.map fun i=>(i,(s.E i).ren f),fR m0 f s.sto (Xq m0++os) 0,m0+os.length⟩
def uc (Q:AExit->St->Prop)(keep:List Nat)(s:St):Prop:=Q .norm (clip keep s)
def Mc (F:St->Prop)(Q:AExit->St->Prop):AExit->St->Prop
 | .norm,s=>F s
 | .exit i,s=>Q (.exit i) s
 | .ret,s=>Q .ret s
def ir (id:Nat)(Q:AExit->St->Prop):AExit->St->Prop
 | .norm,s=>Q .norm s
 | .exit i,s=>if i=id then Q .norm s else Q (.exit i) s
 | .ret,s=>Q .ret s
def VP (m0:Nat)(I:Nat->St->Prop)(n:Nat)(Q:AExit->St->Prop):AExit->St->Prop
 | .norm,s=>∃ n' s',n'<n/\Wk m0 s s'/\I n' s'
 | .exit i,s=>∃ s',Wk m0 s s'/\Q (.exit i) s'
 | .ret,s=>Q .ret s
def T7 (body:(AExit->St->Prop)->St->Prop)(m0:Nat)(keep:List Nat)(Q:AExit->St->Prop)(s:St):Prop:=
 ∃ I:Nat->St->Prop,(∃ n s',Wk m0 s s'/\I n s')/\∀ n s,I n s->body (VP m0 I n Q) s
def rr (v:AV)(F G:St->Prop)(s:St):Prop:=
 match v with
 | .pv (.bool true)=>F s
 | .pv (.bool false)=>G s
 | _=>False
def ifB (b:Bool)(F G:St->Prop)(s:St):Prop:=
 match b with
 | true=>F s
 | false=>G s
def U3 (P:Program)(G:Nat->List PV)(g:Nat)(lb:List PV)(xs:List (List PV)):Prop:=
 cx P g=true/\∀ (w:World) (imm:Nat->Nat->Prop) (lbv:Array Value) (l:Nat) (J:Nat->(Nat->Nat->Prop)->World->Prop) (Jx:World->Prop) (O:Nat->Nat->Prop),
  dd G w imm->(∀ b o,imm b o->b<w.heap.size/\¬ O b o)->lbv.size=lb.length->(∀ (i:Nat) (x:PV),lb[i]? = some x->PRel w imm x (lbv.getD i Go.undef)) ->
  (∀ i O W W',J i O W->Below W.heap.size W W'->J i O W')->(∀ i O W b o,J i O W->O b o->b<W.heap.size) ->
  (∀ (m i:Nat) (x:List PV) (O:Nat->Nat->Prop) (W:World) (vals:Array Value) (imm' kp:Nat->Nat->Prop),J i O W->xs[i]? = some x->vals.size=x.length ->
   (∀ (j:Nat) (y:PV),x[j]? = some y->PRel W imm' y (vals.getD j Go.undef))->(∀ b o,imm' b o->imm b o\/w.heap.size<=b)->(∀ b o,imm' b o->kp b o)->(∀ b o,kp b o->b<W.heap.size/\¬ O b o) ->
   YieldAt Fence.wide m P l vals W fun e W'=>
    (e = .returned (.bool true)/\(∃ O',J (i+1) O' W'/\∀ b o,kp b o->¬ O' b o)/\W.heap.size<=W'.heap.size/\(∀ b o v,kp b o->W.cell? ⟨b,o,none⟩=some v->W'.cell? ⟨b,o,none⟩=some v) /\
     ∀ g,G g≠[]->∃ cs T fz,W'.heap[g]? = some (.cells cs T fz)/\cs.size=(G g).length) \/
    (e = .returned (.bool false)/\Jx W')) ->
  J 0 O w ->
  CallsIn Fence.wide 0 P g (#[.func (.yield l) #[] #[]]++lbv) w fun e w'=>(∃ v,e = .returned v)/\((∃ O',J xs.length O' w')\/Jx w')
def Im:List Nat->List PV->List (Nat×AV)->List (Nat×AV)
 | p::ps,x::xs,e=>Im ps xs ((p,.pv x)::e)
 | _,_,e=>e
def VS (F:St->Prop):AExit->St->Prop
 | .norm,s=>F s
 | _,_=>False
def SY (m0:Nat)(I:Nat->St->Prop)(i:Nat)(Q:AExit->St->Prop)(e0:List (Nat×AV)):AExit->St->Prop
 | .norm,s=>∃ s',Wk m0 ⟨e0,s.sto,s.next⟩ s'/\I (i+1) s'
 | .exit id,s=>Q (.exit id) ⟨e0,s.sto,s.next⟩
 | .ret,s=>Q .ret ⟨e0,s.sto,s.next⟩
def Pe (vb:Nat->(AExit->St->Prop)->St->Prop)(Q:AExit->St->Prop)(s:St):Prop:=vb s.next Q s
def QX (P:Program)(G:Nat->List PV)(va vb:Nat->(AExit->St->Prop)->St->Prop)(m0:Nat)(ps:List Nat)(Q:AExit->St->Prop)(I:Nat->St->Prop)(p:Nat×List AV×List AV):Prop:=
 p.2.1=[]/\∃ lb xs,pvs p.2.2=some lb/\U3 P G p.1 lb xs /\
  (∀ i x s',xs[i]? = some x->I i s'->x.length=ps.length/\va s'.next (VS (Pe vb (SY m0 I i Q s'.env))) ⟨Im ps x s'.env,s'.sto,s'.next⟩)/\∀ s',I xs.length s'->Q .norm s'
def K9 (P:Program)(G:Nat->List PV)(va vb:Nat->(AExit->St->Prop)->St->Prop)(m0:Nat)(f:AX)(ps:List Nat)(Q:AExit->St->Prop)(s:St):Prop:=
 ∃ (I:Nat->St->Prop) (s0:St),Wk m0 s s0/\I 0 s0/\aV (ed (f.ev s0.E)) (QX P G va vb m0 ps Q I)
def vc (P:Program)(G:Nat->List PV):Nat->ACode->(AExit->St->Prop)->St->Prop
 | m0,.skip,Q,s=>Q .norm s
 | m0,.ops l keep,Q,s=>ef P G l (uc Q keep) s
 | m0,.draw A l l2 keep,Q,s=>vcD P G A (ef P G l2 (uc Q keep)) l [] s
 | m0,.seq a b,Q,s=>vc P G m0 a (Mc (vc P G m0 b Q) Q) s
 | m0,.cond x a b,Q,s=>rr (x.ev s.E) (vc P G m0 a Q) (vc P G m0 b Q) s
 | m0,.block id b,Q,s=>vc P G m0 b (ir id Q) s
 | m0,.loop keep b,Q,s=>T7 (vc P G m0 b) m0 keep Q s
 | m0,.range f ps keep a b,Q,s=>K9 P G (fun m=>vc P G m a) (fun m=>vc P G m b) m0 f ps Q s
 | m0,.exit id,Q,s=>Q (.exit id) s
 | m0,.ret,Q,s=>Q .ret s
def iv (a:List Nat):List Nat->List Nat
 | []=>a
 | x::r=>iv (if a.contains x then a else a++[x]) r
def DU:List AOper->List Nat->List Nat
 | [],out=>out
 | o::r,out=>iv ((DU r out).filter fun x=>!(o.dst == some x)) o.slots
def Rs (i:Nat):List (Nat×List Nat)->List Nat
 | []=>[]
 | p::r=>if p.1=i then p.2 else Rs i r
def VZ (x:Nat):List Nat->List Nat
 | []=>[x]
 | y::r=>if x<=y then x::y::r else y::VZ x r
def qM:List Nat->List Nat
 | []=>[]
 | x::r=>VZ x (qM r)
def E2:List (Nat×List Nat)->List Nat
 | []=>[]
 | p::r=>iv (E2 r) p.2
def bP:Code->Bool
 | .rangeFunc _ _ _ _=>true
 | .seq a b=>bP a||bP b
 | .cond _ a b=>bP a||bP b
 | .block _ b=>bP b
 | .loop b=>bP b
 | _=>false
def Q2 (N:Nat):List Nat->Bool
 | []=>true
 | p::r=>decide (p<N)&&!r.contains p&&Q2 N r
def bW (P:Program)(muts:List Nat)(N:Nat)(ret:List Nat):Code->List (Nat×List Nat)->List Nat->Option (ACode×List Nat)
 | .skip,_,out=>some (.skip,out)
 | .region _ ops d,_,out=>match GB P muts N ops ops.toList with
   | some l=>match d with
     | false=>some (.ops l (qM out),DU l out)
     | true=>if Fi ops.toList l (Ey (bg (ops.toList.map be) []) l.length)=true/\Ey (bg (ops.toList.map be) []) l.length<=l.length/\uj ops=true then
       some (.draw (bg (ops.toList.map be) []) (l.take (Ey (bg (ops.toList.map be) []) l.length)) (l.drop (Ey (bg (ops.toList.map be) []) l.length)) (qM out),DU l out)
       else none
   | none=>none
 | .seq a b,ex,out=>match bW P muts N ret b ex out with
   | some (b',lb)=>match bW P muts N ret a ex lb with
     | some (a',la)=>some (.seq a' b',la)
     | none=>none
   | none=>none
 | .cond x a b,ex,out=>match cX x,bW P muts N ret a ex out,bW P muts N ret b ex out with
   | some ax,some (a',la),some (b',lb)=>some (.cond ax a' b',iv (iv la lb) ax.slots)
   | _,_,_=>none
 | .block id b,ex,out=>match bW P muts N ret b ((id,out)::ex) out with
   | some (b',lb)=>some (.block id b',lb)
   | none=>none
 | .loop b,ex,out=>match bW P muts N ret b ex [] with
   | some (_,l1)=>match bW P muts N ret b ex l1 with
     | some (_,l2)=>match bW P muts N ret b ex l2 with
       | some (b',l3)=>some (.loop (qM l2) b',l2)
       | none=>none
     | none=>none
   | none=>none
 | .exit id,ex,_=>some (.exit id,Rs id ex)
 | .ret,_,_=>some (.ret,ret)
 | .rangeFunc g ps a b,ex,out=>match bP a||bP b,cX g,bW P muts N ret b ex [],Q2 N ps.toList with
   | false,some ax,some (b',lb),true=>match bW P muts N ret a ex lb with
     | some (a',la)=>some (.range ax ps.toList (qM (iv (iv (iv la out) (iv ret (E2 ex))) ax.slots)) a' b',iv (iv (iv la out) (iv ret (E2 ex))) ax.slots)
     | none=>none
   | _,_,_,_=>some (.ops [⟨none,kV,none⟩] [],[])
 | _,_,_=>some (.ops [⟨none,kV,none⟩] [],[])

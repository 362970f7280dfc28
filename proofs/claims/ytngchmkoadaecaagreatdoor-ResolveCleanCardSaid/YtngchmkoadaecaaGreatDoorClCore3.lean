/- A program logic over the model: part 3 (a proof is built on it; nothing of the statement is said here). -/
import Derived.Laws.BytesString
import Derived.Laws.Cells
import Derived.Laws.MakeOwn
import Derived.TacticsIn
import Derived.OrdersIn
import Derived.Orders
import Derived.Test.YtngchmkoadaecaaGreatDoorClCore2
set_option linter.unusedVariables false
set_option linter.unusedSimpArgs false
open List renaming range->U1,replicate->Vm,getElem?_append_left->US,getElem?_append_right->UT,getElem?_map->UE,getElem?_eq_getElem->Uq,all_eq_true->UD,getD_eq_getElem?_getD->Uv,getElem?_eq_some_iff->Ur,map_cons->UQ,getElem?_cons_zero->UW,mem_of_getElem?->Us,getElem?_take->UL,mem_append->UY,mem_cons->UP
open Nat renaming succ_mul->Vo,zero_le->Vn,mul_le_mul_right->UA,add_zero->VA,le_refl->UI,zero_add->UN,lt_of_lt_of_le->UZ,le_trans->UX,lt_or_ge->U6
open Option renaming map_eq_some_iff->Ut,getD_some->Vb
open Array renaming getD_eq_getD_getElem?->Uw,getElem?_eq_some_iff->UF,getElem?_setIfInBounds->VC,getElem?_eq_getElem->Vq
open Option.some renaming injEq->Uu
open Prod.mk renaming injEq->Uz
namespace Go.Ab
open Go Go.RowKit
def cM0 (P:Program)(mu:Bool):Op->Option MOp
 | .alloc e=>(ik P e).map (.alloc e)
 | .box e x=>(cX x).map (if mu=true then .cbox e else .box e)
 | .load t x=>match eR P t,iP P t,cX x with
   | some n,some g,some ax=>some (.load g n ax)
   | _,_,_=>none
 | .store t x v=>match eR P t,cX x,cX v with
   | some n,some ax,some av=>some (.store n ax av)
   | _,_,_=>none
 | .buildSlice t len parts=>match P.underlying t with
   | some (.slice e)=>match eR P e,ik P e,cXs (parts.toList.map (·.2)) with
     | some n,some _,some xs=>if len*n<=2 ^ 24/\parts.toList.map (·.1)=U1 len then some (.bslice mu e n len xs) else none
     | _,_,_=>none
   | _=>none
 | .call { callee:=.builtin .append,args,argTypes }=>match args.toList,argTypes.toList with
   | [x,y],[t,t']=>if t=t' then match P.underlying t with
     | some (.slice e)=>match P.info? e with
       | some i=>match i.zero,cX x,cX y with
         | some z,some ax,some ay=>if z.cells.size=i.size then some (.append mu e i.size i.bytes ax ay) else none
         | _,_,_=>none
       | none=>none
     | _=>none
     else none
   | _,_=>none
 | .call { callee:=.builtin .clear,args,argTypes }=>match args.toList,argTypes.toList with
   | [x],[t]=>match P.underlying t with
     | some (.slice e)=>match ik P e,cX x with
       | some zs,some ax=>some (.clear zs.length zs ax)
       | _,_=>none
     | _=>none
   | _,_=>none
 | .slice t x lo hi none=>match P.underlying t with
   | some (.array n e)=>match eR P e,cX x,cO lo,cO hi with
     | some s,some ax,some al,some ah=>some (.sliceA n s ax al ah)
     | _,_,_,_=>none
   | _=>none
 | .convert s d x=>match P.underlying s,P.underlying d with
   | some (.slice e),some .string=>match P.underlying e with
     | some (.int .u8)=>(cX x).map .toStr
     | _=>none
   | _,_=>none
 | .makeSlice t x y=>match P.underlying t with
   | some (.slice e)=>match P.info? e with
     | some i=>match i.zero with
       | some z=>match cV z,cX x,cX y with
         | some p,some ax,some ay=>if p.cells.length=i.size then some (.mk mu e i.size i.bytes p.cells ax ay) else none
         | _,_,_=>none
       | none=>none
     | none=>none
   | _=>none
 | _=>none
def cM (P:Program)(mu:Bool)(op:Op):Option MOp:=
 match cM0 P mu op with
 | some m=>some m
 | none=>(Si P mu op).map .xop
section
variable {P:Program}{c:Ctx}{κ:Kap}{σ:aq}{E:Nat->AV}{a:Act}
theorem dH (sz:Nat)(zs:List PV)(hz:zs.length=sz):∀ (n j:Nat) (x:PV),(Vm n zs).flatten[j]? = some x->j<n*sz/\zs[j % sz]? = some x
 | 0,j,x,h=>by simp at h
 | n+1,j,x,h=>by
   rw[List.replicate_succ,List.flatten_cons] at h
   by_cases hj:j<sz
   ·rw[US (by omega)] at h
    refine⟨by rw[Vo];omega,?_⟩
    rw[Nat.mod_eq_of_lt hj];exact h
   ·rw[UT (by omega),hz] at h
    obtain⟨h1,h2⟩:=dH sz zs hz n (j - sz) x h
    refine⟨by rw[Vo];omega,?_⟩
    have:j % sz=(j - sz) % sz:=by rw[Nat.mod_eq_sub_mod (by omega)]
    rw[this];exact h2
theorem Tz {mu:Bool}{t e new:Nat}{i:TypeInfo}{z:Value}{p:PV}{x y v:AV}{ux uy:Value}{δ:List (Nat×Blk)}(hS:SRel c κ σ)(hw:c.w0.heap.size<=κ.w.heap.size)(hn:κ.nm new=none)
  (hu:P.underlying t=some (.slice e)) (hi:P.info? e=some i) (hz:i.zero=some z) (hp:cV z=some p) (hsz:p.cells.length=i.size) (hx:ARel κ x ux) (hy:ARel κ y uy) (hr:rMk mu e i.size i.bytes p.cells new x y=some (v,δ)) :
  ∃ u κ',(Instr.makeSlice t ux uy).run P κ.w = .ok u κ'.w/\ARel κ' v u/\Done c κ κ' new/\SRel c κ' (σ.upd δ):=by
 unfold rMk at hr
 split at hr
 ·rename_i kl l kc cc
  obtain rfl:=aV hx
  obtain rfl:=aV hy
  split at hr
  ·rename_i hh
   obtain⟨h0,hlc,hby,h63⟩:=hh
   have hrun:=run_make (P:=P) κ.w t e i z hu hi hz kl kc l cc h0 hlc hby h63
   have hmax:cc.toNat<=maxLen:=by unfold maxLen;omega
   have hle:l.toNat<=cc.toNat:=by omega
   obtain⟨k1,k2⟩:=(ARel.pv (κ:=κ) p z (fK hp)).cellsOf rfl
   split at hr
   ·split at hr
    ·rename_i hl0
     cases hr
     obtain⟨κ',e1,e2,e3,e4⟩:=jz (e:=e) (sz:=i.size) (n:=0) (cap:=cc.toNat) (l:=[]) (xs:=[]) hS hw hn (by exact⟨by simp,by simp,by simp⟩) rfl (Vn _) hmax (size_madeCells z.cells (cc.toNat*i.size)) (by simp) κ.w rfl rfl rfl rfl
     refine⟨_,κ',by rw[hrun,e1],?_,e3,e4⟩
     rw[hl0]
     exact e2
    ·cases hr
   ·cases hr
    have hlen:((Vm l.toNat p.cells).flatten.map AV.pv).length=l.toNat*i.size:=by simp[hsz]
    have hmul:l.toNat*i.size<=cc.toNat*i.size:=UA _ hle
    obtain⟨κ',e1,e2,e3,e4⟩:=bM (T:=e) (f:=false) (cs:=madeCells z.cells (cc.toNat*i.size)) (l:=(Vm l.toNat p.cells).flatten.map AV.pv) hS hw hn (by rw[hlen,size_madeCells];exact hmul) (fun h=>by cases h) (fun j x hx=>by
     simp only[UE,Ut] at hx
     obtain⟨q,hq,rfl⟩:=hx
     obtain⟨h1,h2⟩:=dH i.size p.cells hsz l.toNat j q hq
     have h3:=k2 (j % i.size) (.pv q) (by simp[AV.cells,h2])
     have hzs:z.cells.size=i.size:=by rw[k1];simp[AV.cells,hsz]
     have e:(madeCells z.cells (cc.toNat*i.size)).getD j Go.undef=z.cells.getD (j % i.size) Go.undef:=by
      have hj:j<cc.toNat*i.size:=by omega
      have hm:j % i.size<i.size:=Nat.mod_lt _ (by
       rcases Nat.eq_zero_or_pos i.size with h | h
       ·rw[h] at h1;simp at h1
       ·exact h)
      have hm2:j % z.cells.size<z.cells.size:=by rw[hzs];exact hm
      simp[madeCells,Uw,hj,hzs,hm]
     rw[e];exact h3) κ.w rfl rfl rfl rfl
    refine⟨_,κ',by rw[hrun,e1],?_,e3,e4⟩
    rw[size_madeCells] at e2
    exact .row _ _ _ _ _ _ cc.toNat e2 (by omega) (fun _=>rfl) hle hmax
  ·cases hr
 ·cases hr
theorem J6 {t e ty new:Nat}{zs:List PV}{x:AV}{u:Value}{δ:List (Nat×Blk)}(hS:SRel c κ σ)(hu:P.underlying t=some (.slice e))(hz:ik P e=some zs)(hx:ARel κ x u)(hr:gq zs.length zs σ x=some δ) :
  ∃ w',(Builtin.clear_ #[t] ty #[u]).run P κ.w = .ok (.tuple #[]) w'/\Done c κ ⟨w',κ.nm,κ.imm⟩ new/\SRel c ⟨w',κ.nm,κ.imm⟩ (σ.upd δ):=by
 unfold gq at hr
 split at hr
 ·rename_i r s off len
  split at hr
  ·rename_i T f l hσ
   split at hr
   ·rename_i hh
    obtain⟨rfl,h0,_,hle,hone⟩:=hh
    cases hr
    cases hx with
    | row0=>omega
    | row _ _ _ _ b n cap hnm _ _ _ _=>
      obtain⟨cs,hg,hcs,hln,hf,himm,hrel,_⟩:=bJ hS hσ hnm
      obtain⟨z,p,hz1,hp,rfl⟩:=iT (P:=P) (w:=κ.w) hz
      obtain⟨q1,q2⟩:=(ARel.pv (κ:=κ) p z (fK hp)).cellsOf rfl
      have hzs:z.cells.size=p.cells.length:=by rw[q1];simp[AV.cells]
      have hnl:(Builtin.zeroCells z.cells len).size=len*p.cells.length:=by rw[size_zeroCells,hzs]
      have hget:∀ j,j<len*p.cells.length->∃ y,p.cells[j % p.cells.length]? = some y/\ARel κ (.pv y) ((Builtin.zeroCells z.cells len).getD j Go.undef)/\y.one=true:=by
       intro j hj
       have hpos:0<p.cells.length:=by
        rcases Nat.eq_zero_or_pos p.cells.length with h | h
        ·rw[h] at hj;simp at hj
        ·exact h
       have hm:j % p.cells.length<p.cells.length:=Nat.mod_lt _ hpos
       refine⟨_,Uq hm,?_,(UD.1 hone) _ (List.getElem_mem hm)⟩
       have h3:=q2 (j % p.cells.length) (.pv p.cells[j % p.cells.length]) (by simp[AV.cells,hm])
       have e:(Builtin.zeroCells z.cells len).getD j Go.undef=z.cells.getD (j % p.cells.length) Go.undef:=by
        simp[Builtin.zeroCells,Uw,hj,hzs,hm]
       rw[e];exact h3
      have hone':∀ y∈(Builtin.zeroCells z.cells len).toList,y.oneCell'=true:=by
       intro y hy
       obtain⟨i,hi,rfl⟩:=List.getElem_of_mem hy
       have hi':i<(Builtin.zeroCells z.cells len).size:=by simpa using hi
       obtain⟨y,h1,h2,h3⟩:=hget i (by rw[<- hnl];exact hi')
       have:=h2.oneCell (by simpa[AV.one] using h3)
       simpa[Uw,hi'] using this
      have hst:=run_storeCells_at (P:=P) b off T (Builtin.zeroCells z.cells len).toList 0 cs κ.w hg (by simp;omega) hone'
      simp only[VA,Array.length_toList] at hst
      obtain⟨X,hX⟩:∃ X,X=(Vm len p.cells).flatten.map AV.pv:=⟨_,rfl⟩
      have hXl:X.length=len*p.cells.length:=by rw[hX];simp
      rw[<- hX]
      refine⟨κ.w.setRow b (cs.toList.take off++(Builtin.zeroCells z.cells len).toList++cs.toList.drop (off+(Builtin.zeroCells z.cells len).size)).toArray,?_,?_⟩
      ·obtain⟨m,rfl⟩:∃ m,len=m+1:=⟨len - 1,by omega⟩
       simp[Builtin.clear_,run_underlying hu,hz1,hst]
      ·have hh:=setRow_heap κ.w b cs (cs.toList.take off++(Builtin.zeroCells z.cells len).toList++cs.toList.drop (off+(Builtin.zeroCells z.cells len).size)).toArray T (0,0) hg
       obtain⟨h1,h2⟩:=uu hS (r0:=r) (b0:=b) (d0:=.blk b n) (Bo:=.cells T f (l.take off++X++l.drop (off+len*p.cells.length)))
        (w':=κ.w.setRow b (cs.toList.take off++(Builtin.zeroCells z.cells len).toList++cs.toList.drop (off+(Builtin.zeroCells z.cells len).size)).toArray) new
        rfl rfl rfl (setRow_size ..) (fun b' hb'=>setRow_other κ.w b b' _ hb') himm (by rw[hσ];simp) hnm rfl
       refine⟨h1,h2 (.inr ⟨b,n,_,hnm,hh,?_,?_,?_,fun i y hy=>?_,himm⟩)⟩
       ·simp;omega
       ·simp;omega
       ·intro hft;have:=hf hft;simp;omega
       ·rw[aA]
        simp only
        rw[Uv]
        rw[<- hXl] at hy hle
        rw[bO l X off i hle] at hy
        have hm:=bO cs.toList (Builtin.zeroCells z.cells len).toList off i (by simp;omega)
        simp only[Array.length_toList] at hm
        rw[hm]
        by_cases hi:off<=i/\i<off+X.length
        ·rw[if_pos hi] at hy
         rw[if_pos (by omega)]
         obtain⟨y',g1,g2,_⟩:=hget (i - off) (by omega)
         rw[hX] at hy
         simp only[UE,Ut] at hy
         obtain⟨q,hq,rfl⟩:=hy
         obtain⟨_,g3⟩:=dH p.cells.length p.cells rfl len (i - off) q hq
         rw[g3] at g1;cases g1
         have:=g2.ext h1.ext
         rw[aA,Uv] at this
         exact this
        ·rw[if_neg hi] at hy
         rw[if_neg (by omega)]
         have:=(hrel i y hy).ext h1.ext
         rw[aA,Uv] at this
         exact this
   ·cases hr
  ·cases hr
 ·cases hr
theorem lU:∀ {ys:List PV} {l:List UInt8},u8s ys=some l->∃ ns:List Int,ys=ns.map (PV.int .u8)/\l=ns.map fun n=>UInt8.ofNat n.toNat
 | [],l,h=>by simp only[u8s,Uu] at h;subst h;exact⟨[],rfl,rfl⟩
 | y::r,l,h=>by
   unfold u8s at h
   split at h
   ·cases ‹_::_=[]›
   ·rename_i n r' he
    cases he
    split at h
    ·rename_i k hk
     cases h
     obtain⟨ns,h1,h2⟩:=lU hk
     exact⟨n::ns,by rw[h1];rfl,by rw[h2];rfl⟩
    ·cases h
   ·cases h
theorem jS:∀ (ns:List Int) (s:ByteArray),(ns.foldl (fun r n=>r.push (UInt8.ofNat n.toNat)) s).data.toList=s.data.toList++ns.map fun n=>UInt8.ofNat n.toNat
 | [],s=>by simp
 | n::r,s=>by
   rw[List.foldl_cons,jS r]
   simp[ByteArray.push]
theorem JU {src dst e:TypeId}{x v:AV}{u:Value}(hS:SRel c κ σ)(hs:P.underlying src=some (.slice e))(he:P.underlying e=some (.int .u8))(hd:P.underlying dst=some .string)(hx:ARel κ x u)(hr:eI σ x=some v) :
  ∃ u',(convert src dst u).run P κ.w = .ok u' κ.w/\ARel κ v u':=by
 unfold eI at hr
 split at hr
 ·rename_i ys hys
  split at hr
  ·rename_i l hl
   cases hr
   have hlen:=CP hx hys hS
   obtain⟨A,m,cc,xs,rfl,hm,hrow,_,hcell⟩:=gE hS hx hys
   obtain⟨ns,rfl,rfl⟩:=lU hl
   obtain⟨h1,h2,h3⟩:=hrow
   have hxs:xs=ns.map (Value.int .u8):=by
    refine List.ext_getElem? fun i=>?_
    rw[UE]
    cases hn:ns[i]? with
    | none=>
      have:ns.length<=i:=by simpa using hn
      rw[List.getElem?_eq_none (by rw[h1];simp;omega)];rfl
    | some n=>
      have hi:i<ns.length:=(Ur.1 hn).1
      have h4:=(h3 i (.int .u8 n) 0 (.int .u8 n) (by rw[UE,hn];rfl) rfl).1
      rw[Nat.mul_one,VA] at h4
      have h5:i<xs.length:=by rw[h1];simp;omega
      rw[Uq h5]
      rw[Uv,Uq h5] at h4
      simp only[Vb] at h4
      generalize xs[i]=y at h4
      cases h4;rfl
   subst hxs
   rw[run_convert_bytes_string κ.w src dst e A m cc hs he hd]
   cases A with
   | none=>
     rcases hcell with h0 | ⟨a,ha,_⟩
     ·have:ns=[]:=List.eq_nil_of_length_eq_zero (by rw[h0] at hm;simpa using hm.symm)
      subst this
      exact⟨.string .empty,by simp[Conv.bytesToString],.pv _ _ (.str .empty (by simp[maxLen]))⟩
     ·cases ha
   | some a=>
     have hload:(loadCells a m).run P κ.w = .ok (ns.map (Value.int .u8)).toArray κ.w:=by
      have hml:m=(ns.map (Value.int .u8)).length:=by rw[hm];simp
      rw[hml]
      refine run_loadCells_list κ.w a _ fun j v hj=>?_
      rcases hcell with h0 | ⟨a',ha,hc⟩
      ·have:j<(ns.map (Value.int .u8)).length:=(Ur.1 hj).1
       omega
      ·cases ha;exact hc j v hj
     refine⟨_,run_bytesToString κ.w a m cc ns hload,yZ ?_ (by simpa using hlen)⟩
     rw[jS];simp
  ·cases hr
 ·cases hr
theorem vX {o:Oper}{m:MOp}{mu:Bool}{v:AV}{new:Nat}{δ:List (Nat×Blk)}(hc:cM0 P mu o.op=some m)(hS:SRel c κ σ)(hw:c.w0.heap.size<=κ.w.heap.size)(hn:m.makes=true->κ.nm new=none)
  (hE:∀ i,i∈m.slots->ARel κ (E i) (a.tmps.getD i Go.undef)) (hr:m.run c.G new E σ=some (v,δ)) :
  ∃ x u κ',(execOp a.eval o).run P κ.w = .ok x κ'.w/\(x = .value u\/(x = .skip/\u=Go.undef))/\ARel κ' v u/\Done c κ κ' new/\SRel c κ' (σ.upd δ)/\(m.makes=false->κ'.nm=κ.nm):=by
 obtain⟨dst,op,type,pos,after,guard⟩:=o
 simp only at hc
 unfold cM0 at hc
 split at hc
 ·rename_i e
  simp only[Ut] at hc
  obtain⟨zs,hz,rfl⟩:=hc
  simp only[MOp.run,Uu,Uz] at hr
  obtain⟨rfl,rfl⟩:=hr
  obtain⟨u,κ',h1,h2,h3,h4⟩:=J8 (P:=P) hS hw (hn rfl) hz (.tuple #[])
  exact⟨_,u,κ',by simp[execOp,h1],.inl rfl,h2,h3,h4,fun h=>by cases h⟩
 ·rename_i e x
  simp only[Ut] at hc
  obtain⟨ax,hx,rfl⟩:=hc
  by_cases hmu:mu=true
  ·simp only[hmu,if_true] at hn hE hr ⊢
   simp only[MOp.run] at hr
   split at hr
   ·rename_i p hp
    split at hr
    ·rename_i ho
     simp only[Uu,Uz] at hr
     obtain⟨rfl,rfl⟩:=hr
     obtain⟨u,κ',h1,h2,h3,h4⟩:=NY (P:=P) (T:=e) hS hw (hn rfl) hp ho (az hx hE)
     exact⟨_,u,κ',by simp[execOp,h1],.inl rfl,h2,h3,h4,fun h=>by cases h⟩
    ·cases hr
   ·cases hr
  rw[if_neg hmu] at hn hE hr ⊢
  simp only[MOp.run] at hr
  split at hr
  ·rename_i hk
   simp only[Uu,Uz] at hr
   obtain⟨rfl,rfl⟩:=hr
   obtain⟨u,κ',h1,h2,h3,h4⟩:=RB (P:=P) (T:=e) hS hw (hn rfl) hk (az hx hE)
   exact⟨_,u,κ',by simp[execOp,h1],.inl rfl,h2,h3,h4,fun h=>by cases h⟩
  ·cases hr
 ·rename_i t x
  split at hc
  ·rename_i n g ax hsz hg hx
   cases hc
   simp only[MOp.run,Ut,Uz] at hr
   obtain⟨v',hv',rfl,rfl⟩:=hr
   obtain⟨u,h1,h2⟩:=zx (P:=P) hS hg hsz (az hx hE) hv'
   exact⟨_,u,κ,by simp[execOp,h1],.inl rfl,h2,Done.same c κ new,hS,fun _=>rfl⟩
  ·cases hc
 ·rename_i t x y
  split at hc
  ·rename_i n ax ay hsz hx hy
   cases hc
   simp only[MOp.run,Ut,Uz] at hr
   obtain⟨d,hd,rfl,rfl⟩:=hr
   obtain⟨w',h1,h2,h3⟩:=JV (P:=P) (new:=new) hS hsz (az hx (fun i hi=>hE i (by simp[MOp.slots,hi]))) (az hy (fun i hi=>hE i (by simp[MOp.slots,hi]))) hd
   exact⟨_,Go.undef,_,by simp[execOp,h1],.inr ⟨rfl,rfl⟩,.pv _ _ .undef,h2,h3,fun _=>rfl⟩
  ·cases hc
 ·rename_i t len parts
  split at hc
  ·rename_i e hu
   split at hc
   ·rename_i n zs xs hsz hz hxs
    split at hc
    ·rename_i hh
     cases hc
     obtain⟨z,p,hz1,_,_⟩:=iT (P:=P) (w:=κ.w) hz
     obtain⟨_,hrel⟩:=fZ (κ:=κ) (E:=E) (a:=a) hxs hE
     simp only[MOp.run] at hr
     obtain⟨u,κ',h1,h2,h3,h4⟩:=E1 (P:=P) (t:=t) (parts:=parts.map fun p=>(p.1,a.eval p.2)) (z:=z) hS hw (hn rfl) hu hsz hz1 hh.1
      (by rw[<- hh.2];simp[Function.comp_def]) (fun i v hv=>by
       have:=hrel i v hv
       simpa[Function.comp_def] using this) hr
     exact⟨_,u,κ',by simp[execOp,h1],.inl rfl,h2,h3,h4,fun h=>by cases h⟩
    ·cases hc
   ·cases hc
  ·cases hc
 ·rename_i args argTypes
  split at hc
  ·rename_i x y t t' hargs hat
   obtain rfl:args = #[x,y]:=by cases args;simp_all
   obtain rfl:argTypes = #[t,t']:=by cases argTypes;simp_all
   split at hc
   ·rename_i htt
    subst htt
    split at hc
    ·rename_i e hu
     split at hc
     ·rename_i i hi
      split at hc
      ·rename_i z ax ay hz hx hy
       split at hc
       ·rename_i hzs
        cases hc
        simp only[MOp.run] at hr
        have hI:ElemInfo P t e i.size i.bytes:=⟨hu,i,z,hi,hz,rfl,rfl,hzs⟩
        have hx':=az (κ:=κ) (E:=E) (a:=a) hx (fun i hi=>hE i (by simp[MOp.slots,hi]))
        have hy':=az (κ:=κ) (E:=E) (a:=a) hy (fun i hi=>hE i (by simp[MOp.slots,hi]))
        cases mu with
        | false=>
          obtain⟨u,κ',h1,h2,h3,h4⟩:=E2 (P:=P) (ty:=type) hS hw (hn rfl) hI hx' hy' hr
          exact⟨_,u,κ',by simp[execOp,resolve,invoke,builtin,h1],.inl rfl,h2,h3,h4,fun h=>by cases h⟩
        | true=>
          obtain⟨u,κ',h1,h2,h3,h4⟩:=zz (P:=P) (ty:=type) hS hw (hn rfl) hI hx' hy' hr
          exact⟨_,u,κ',by simp[execOp,resolve,invoke,builtin,h1],.inl rfl,h2,h3,h4,fun h=>by cases h⟩
       ·cases hc
      ·cases hc
     ·cases hc
    ·cases hc
   ·cases hc
  ·cases hc
 ·rename_i args argTypes
  split at hc
  ·rename_i x t hargs hat
   obtain rfl:args = #[x]:=by cases args;simp_all
   obtain rfl:argTypes = #[t]:=by cases argTypes;simp_all
   split at hc
   ·rename_i e hu
    split at hc
    ·rename_i zs ax hz hx
     cases hc
     simp only[MOp.run,Ut,Uz] at hr
     obtain⟨d,hd,rfl,rfl⟩:=hr
     obtain⟨w',h1,h2,h3⟩:=J6 (P:=P) (ty:=type) (new:=new) hS hu hz (az hx hE) hd
     exact⟨_,.tuple #[],_,by simp[execOp,resolve,invoke,builtin,h1],.inl rfl,.pv _ _ (.tup [] #[] rfl (by simp)),h2,h3,fun _=>rfl⟩
    ·cases hc
   ·cases hc
  ·cases hc
 ·rename_i t x lo hi
  split at hc
  ·rename_i n e hu
   split at hc
   ·rename_i s ax al ah hsz hx hl hh
    cases hc
    simp only[MOp.run] at hr
    obtain⟨l1,l2⟩:=lN (κ:=κ) (E:=E) (a:=a) hl (fun i hi=>hE i (by simp[MOp.slots,hi]))
    obtain⟨h1,h2⟩:=lN (κ:=κ) (E:=E) (a:=a) hh (fun i hi=>hE i (by simp[MOp.slots,hi]))
    have hx':=az (κ:=κ) (E:=E) (a:=a) hx (fun i hi=>hE i (by simp[MOp.slots,hi]))
    split at hr
    ·rename_i r o hxe
     rw[hxe] at hx'
     obtain⟨b,N,hux,hnm⟩:∃ b N,a.eval x = .pointer (some ⟨b,o,none⟩)/\κ.nm r=some (.blk b N):=by
      generalize a.eval x=ux at hx'
      cases hx' with
      | ptr _ _ b N h=>exact⟨b,N,rfl,h⟩
     split at hr
     ·rename_i T f l hσ
      split at hr
      ·rename_i hg
       obtain⟨hf,hle,h0,hmax⟩:=hg
       simp only[Ut,Uz] at hr
       obtain⟨v',hv',rfl,rfl⟩:=hr
       obtain⟨cs,_,hcs,hln,hfn,_,_,_⟩:=bJ hS hσ hnm
       have hN:=hfn hf
       have hrow:ARel κ (.row r s o n) (.slice (some ⟨b,o,none⟩) n n):=.row r s o n b N n hnm (by omega) (fun h=>by rw[h0 h,hN]) (UI _) (by unfold maxLen;omega)
       obtain⟨A,m',c',p,q,e1,hb,hv⟩:=sg (P:=P) hrow l1 l2 h1 h2 hv'
       cases e1
       refine⟨.value _,_,κ,?_,.inl rfl,hv,Done.same c κ new,hS,fun _=>rfl⟩
       have hb:=hb false
       simp only[execOp,Instr.sliceAt,Sem.run_bind,run_underlying hu,Result.andThen_ok,hux,Instr.sureAddr,Sem.run_pure,Option.map_none,hb,aZ hsz]
       congr 4
       split<;>rfl
      ·cases hr
     ·cases hr
    ·cases hr
   ·cases hc
  ·cases hc
 ·rename_i s d x
  split at hc
  ·rename_i e hs hd
   split at hc
   ·rename_i he
    simp only[Ut] at hc
    obtain⟨ax,hx,rfl⟩:=hc
    simp only[MOp.run,Ut,Uz] at hr
    obtain⟨v',hv',rfl,rfl⟩:=hr
    obtain⟨u,h1,h2⟩:=JU (P:=P) hS hs he hd (az hx hE) hv'
    exact⟨_,u,κ,by simp[execOp,h1],.inl rfl,h2,Done.same c κ new,hS,fun _=>rfl⟩
   ·cases hc
  ·cases hc
 ·rename_i t x y
  split at hc
  ·rename_i e hu
   split at hc
   ·rename_i i hi
    split at hc
    ·rename_i z hz
     split at hc
     ·rename_i p ax ay hp hx hy
      split at hc
      ·rename_i hsz
       cases hc
       simp only[MOp.run] at hr
       have hx':=az (κ:=κ) (E:=E) (a:=a) hx (fun i hi=>hE i (by simp[MOp.slots,hi]))
       have hy':=az (κ:=κ) (E:=E) (a:=a) hy (fun i hi=>hE i (by simp[MOp.slots,hi]))
       obtain⟨u,κ',h1,h2,h3,h4⟩:=Tz (P:=P) hS hw (hn rfl) hu hi hz hp hsz hx' hy' hr
       exact⟨_,u,κ',by simp[execOp,h1],.inl rfl,h2,h3,h4,fun h=>by cases h⟩
      ·cases hc
     ·cases hc
    ·cases hc
   ·cases hc
  ·cases hc
 ·cases hc
theorem BD {o:Oper}{m:MOp}{mu:Bool}{v:AV}{new:Nat}{δ:List (Nat×Blk)}(hc:cM P mu o.op=some m)(hS:SRel c κ σ)(hw:c.w0.heap.size<=κ.w.heap.size)(hn:m.makes=true->κ.nm new=none)
  (hE:∀ i,i∈m.slots->ARel κ (E i) (a.tmps.getD i Go.undef)) (hr:m.run c.G new E σ=some (v,δ)) :
  ∃ x u κ',(execOp a.eval o).run P κ.w = .ok x κ'.w/\(x = .value u\/(x = .skip/\u=Go.undef))/\ARel κ' v u/\Done c κ κ' new/\SRel c κ' (σ.upd δ)/\(m.makes=false->κ'.nm=κ.nm):=by
 unfold cM at hc
 split at hc
 ·rename_i m' hm
  cases hc
  exact vX hm hS hw hn hE hr
 ·simp only[Ut] at hc
  obtain⟨x,hx,rfl⟩:=hc
  exact yr hx hS hw hn hE hr
def cBf (P:Program):Op->Option MOp
 | .buildSlice t len parts=>match P.underlying t with
   | some (.slice e)=>match eR P e,ik P e,cXs (parts.toList.map (·.2)) with
     | some n,some _,some xs=>if len*n<=2 ^ 24/\parts.toList.map (·.1)=U1 len then some (.xop (.bslf n len xs)) else none
     | _,_,_=>none
   | _=>none
 | _=>none
def cMm (P:Program)(mu:Bool×Bool)(op:Op):Option MOp:=
 match mu.2 with
 | true=>cBf P op
 | false=>cM P mu.1 op
theorem lk {o:Oper}{m:MOp}{mu:Bool×Bool}{v:AV}{new:Nat}{δ:List (Nat×Blk)}(hc:cMm P mu o.op=some m)(hS:SRel c κ σ)(hw:c.w0.heap.size<=κ.w.heap.size)(hn:m.makes=true->κ.nm new=none)
  (hE:∀ i,i∈m.slots->ARel κ (E i) (a.tmps.getD i Go.undef)) (hr:m.run c.G new E σ=some (v,δ)) :
  ∃ x u κ',(execOp a.eval o).run P κ.w = .ok x κ'.w/\(x = .value u\/(x = .skip/\u=Go.undef))/\ARel κ' v u/\Done c κ κ' new/\SRel c κ' (σ.upd δ)/\(m.makes=false->κ'.nm=κ.nm):=by
 obtain⟨mu,fz⟩:=mu
 cases fz with
 | false=>exact BD hc hS hw hn hE hr
 | true=>
   obtain⟨dst,op,type,pos,after,guard⟩:=o
   simp only[cMm] at hc
   unfold cBf at hc
   split at hc
   ·rename_i op t len parts
    split at hc
    ·rename_i e hu
     split at hc
     ·rename_i n zs xs hn' hz hxs
      split at hc
      ·rename_i hh
       cases hc
       simp only[MOp.run,XOp.run,qm] at hr
       split at hr
       ·rename_i hl
        split at hr
        ·rename_i ps hps
         split at hr
         ·rename_i hall
          cases hr
          obtain⟨z,p,hz1,_,_⟩:=iT (P:=P) (w:=κ.w) hz
          have hE':∀ i,i∈xs.flatMap AX.slots->ARel κ (E i) (a.tmps.getD i Go.undef):=fun i hi=>hE i (by simpa[MOp.slots,XOp.slots] using hi)
          obtain⟨_,hrel⟩:=fZ (κ:=κ) (E:=E) (a:=a) hxs hE'
          obtain⟨us,r1,r2,r3⟩:=lP (P:=P) (t:=t) (parts:=parts.map fun p=>(p.1,a.eval p.2)) (z:=z) hu hn' hz1 hh.1 (by rw[<- hh.2];simp[Function.comp_def]) (fun i v hv=>by
           have:=hrel i v hv
           simpa[Function.comp_def] using this) hl hps hall
          obtain⟨h1,h2⟩:=RM hS hw (.cells us e) (fun j=>j<len*n) new
          have hh2:(κ.w.alloc (.cells us e)).heap[κ.w.heap.size]? = some (.cells us e (0,0)):=heap_alloc_new κ.w _
          have hmax:len<=maxLen:=by have:=hl.2;unfold maxLen;omega
          exact⟨_,_,_,by simp[execOp,r1],.inl rfl,.pv _ _ ((r3.ext h1.ext).list (by rw[bT hps,hl.1]) (UI _) hmax (ka hh2 (show us.toList.take (len*n)=us.toList from List.take_of_length_le (by simp;omega))) (fun j hj=>.inr ⟨rfl,hj⟩)),h1,h2,fun _=>rfl⟩
         ·cases hr
        ·cases hr
       ·cases hr
      ·cases hc
     ·cases hc
    ·cases hc
   ·cases hc
end
def ij (sz:Nat):Nat->List PV->List PV
 | 0,_=>[]
 | n+1,l=>(if sz=1 then l.headD .undef else .agg (l.take sz))::ij sz n (l.drop sz)
def L8 (sz len r:Nat):Blk->Option (PV×List Nat)
 | .cells _ _ l=>if 0<sz/\len*sz<=l.length/\(l.take (len*sz)).all AV.one=true then (pvs (l.take (len*sz))).map fun ps=>(.list (ij sz len ps),[r]) else none
 | _=>none
def IQ (σ:aq):AV->Option (PV×List Nat)
 | .pv p=>some (p,[])
 | .olist _ _ l=>some (.list l,[])
 | .row r sz 0 len=>L8 sz len r (σ r)
 | _=>none
def Ra:Option (PV×List Nat)->Option (List PV×List Nat)->Option (List PV×List Nat)
 | some p,some q=>some (p.1::q.1,p.2++q.2)
 | _,_=>none
def D5 (σ:aq):List AV->Option (List PV×List Nat)
 | []=>some ([],[])
 | x::r=>Ra (IQ σ x) (D5 σ r)
def rr (σ:aq):AV->Option (PV×List Nat)
 | .agg cs=>(D5 σ cs).map fun p=>(.agg p.1,p.2)
 | x=>IQ σ x
def IP (p:PV×List Nat):AV×List (Nat×Blk):=(.pv p.1,p.2.map fun r=>(r,.none))
def IS (G:Nat->List PV)(σ:aq):Option (Bool×Nat)->AV->Option (AV×List (Nat×Blk))
 | none,v=>(rr σ v).map IP
 | some (g,sz),v=>match ef G g sz σ v with
   | some v=>(rr σ v).map IP
   | none=>none
section
variable {P:Program}{c:Ctx}{κ:Kap}{σ:aq}
theorem lT:∀ (rs:List Nat) (σ:aq) (r:Nat),aq.upd σ (rs.map fun r=>(r,Blk.none)) r=if r∈rs then .none else σ r
 | [],σ,r=>by simp[aq.upd]
 | x::q,σ,r=>by
   rw[UQ,aq.upd,lT q]
   by_cases h:r∈q
   ·simp[h]
   ·by_cases hx:r=x
    ·subst hx;simp[aq.set]
    ·simp[h,hx,aq.set]
def Hl (κ:Kap)(σ:aq)(rs:List Nat):Kap:=
 ⟨κ.w,κ.nm,fun b o=>κ.imm b o\/∃ r∈rs,∃ n,κ.nm r=some (.blk b n)/\∃ T f l,σ r = .cells T f l/\o<l.length⟩
theorem sP (hS:SRel c κ σ)(rs:List Nat)(hrs:∀ r∈rs,σ r≠.none)(new:Nat):Done c κ (Hl κ σ rs) new/\SRel c (Hl κ σ rs) (σ.upd (rs.map fun r=>(r,.none))):=by
 have he:Ext κ (Hl κ σ rs):=⟨fun _ _ h=>.inl h,fun _ _ _ _ h=>h,fun _ _ h=>h,fun _ _ h _=>h⟩
 refine⟨⟨he,fun imm0 hL=>⟨hL.os,hL.tape,hL.output,hL.size,hL.block,fun b o hi=>?_⟩,UI _,fun _ _ h=>h⟩,?_⟩
 ·rcases hi with hi | ⟨r,hr,n,hn,_⟩
  ·exact hL.imm b o hi
  ·exact .inr (hS.mine r _ b (hrs r hr) hn rfl)
 ·have hz:∀ r,(σ.upd (rs.map fun r=>(r,Blk.none))) r≠.none->r∉rs/\σ r≠.none:=by
   intro r h
   rw[lT] at h
   by_cases hm:r∈rs
   ·simp[hm] at h
   ·simp[hm] at h;exact⟨hm,h⟩
  refine⟨fun r=>?_,fun r r' d d' b h1 h2=>hS.apart r r' d d' b (hz r h1).2 (hz r' h2).2,fun r d b h1=>hS.mine r d b (hz r h1).2,fun b o hi=>?_,T9 he hS.glob fun _ _ _=>rfl⟩
  ·rw[lT]
   by_cases hm:r∈rs
   ·simp[hm,eP]
   ·simp only[hm,if_false]
    refine (hS.blk r).keep he fun hnz d b hd hb=>⟨rfl,fun o ho=>?_⟩
    rcases ho with ho | ⟨r',hr',n,hn,_⟩
    ·exact ho
    ·exact absurd rfl (hS.apart r r' d _ b hnz (hrs r' hr') (fun e=>hm (e▸hr')) hd hn hb)
  ·rcases hi with hi | ⟨r,hr,n,hn,_⟩
   ·exact hS.immLt b o hi
   ·exact (hS.blk r).lt (hrs r hr) hn rfl
theorem A7 {x:AV}{p:PV}(h:x.toPV=some p)(h1:x.one=true):p.cells=[p]:=by
 cases x with
 | pv q=>
   simp only[AV.toPV,Uu] at h
   subst h
   cases q<;>first | rfl | simp[AV.one,PV.one] at h1
 | olist a b l=>
   simp only[AV.toPV,Uu] at h
   subst h;rfl
 | _=>simp[AV.toPV] at h
theorem j7 (sz:Nat):∀ (n:Nat) (l:List PV),(ij sz n l).length=n
 | 0,l=>rfl
 | n+1,l=>by simp[ij,j7 sz n]
theorem j8 {sz:Nat}(hsz:0<sz):∀ (n:Nat) (l:List PV) (i:Nat) (x:PV),n*sz<=l.length->(∀ p∈l,p.cells=[p])->(ij sz n l)[i]? = some x->i<n/\x.cells=(l.drop (i*sz)).take sz
 | 0,l,i,x,_,_,h=>by simp[ij] at h
 | n+1,l,i,x,hl,h1,h=>by
   rw[Vo] at hl
   cases i with
   | zero=>
     simp only[ij,UW,Uu] at h
     refine⟨by omega,?_⟩
     subst h
     by_cases hs:sz=1
     ·subst hs
      cases l with
      | nil=>simp at hl
      | cons y q=>
        simp only[if_true,List.headD_cons,Nat.zero_mul,List.drop_zero,List.take_succ_cons,List.take_zero]
        exact h1 y (by simp)
     ·rw[if_neg hs];simp[PV.cells]
   | succ i=>
     simp only[ij,List.getElem?_cons_succ] at h
     obtain⟨h2,h3⟩:=j8 hsz n (l.drop sz) i x (by simp;omega) (fun p hp=>h1 p (List.mem_of_mem_drop hp)) h
     refine⟨by omega,?_⟩
     rw[h3,List.drop_drop,Vo,Nat.add_comm]
theorem sU (hS:SRel c κ σ){x:AV}{u:Value}{p:PV}{rs:List Nat}(hx:ARel κ x u)(h:IQ σ x=some (p,rs)) :
  (∀ r∈rs,σ r≠.none)/\∀ rs',(∀ r∈rs,r∈rs')->PRel κ.w (Hl κ σ rs').imm p u:=by
 unfold IQ at h
 split at h
 ·cases h
  exact⟨by simp,fun rs' _=>(aG hx).mono (fun _ _ h=>.inl h) (fun _ _ _ _ h=>h)⟩
 ·cases h
  refine⟨by simp,fun rs' _=>?_⟩
  cases hx with
  | olist _ _ _ _ hn hp _=>exact hp.mono (fun _ _ h=>.inl h) (fun _ _ _ _ h=>h)
 ·rename_i r sz len
  unfold L8 at h
  split at h
  ·rename_i T f l hσ
   split at h
   ·rename_i hh
    obtain⟨hsz,hle,hone⟩:=hh
    simp only[Ut,Uz] at h
    obtain⟨ps,hps,rfl,rfl⟩:=h
    refine⟨by simp[hσ],fun rs' hrs=>?_⟩
    cases hx with
    | row0=>exact .lnil _ _ (Vn _)
    | row _ _ _ _ b n cap hnm k1 k0 k2 k3=>
      obtain⟨cs,hg,hcs,hln,_,himm,hrel,hcell⟩:=bJ hS hσ hnm
      have hpl:ps.length=len*sz:=by rw[bT hps];simp;omega
      have hget:∀ (i:Nat) (q:PV),ps[i]? = some q->∃ y,l[i]? = some y/\y.toPV=some q/\y.one=true:=by
       intro i q hq
       obtain⟨y,hy,hyq⟩:=cB hps i q hq
       have h1:=(UD.1 hone) y (Us hy)
       rw[UL] at hy
       split at hy
       ·exact⟨y,hy,hyq,h1⟩
       ·cases hy
      have hpone:∀ q∈ps,q.cells=[q]:=by
       intro q hq
       obtain⟨i,hi⟩:=List.getElem?_of_mem hq
       obtain⟨y,_,h2,h3⟩:=hget i q hi
       exact A7 h2 h3
      have hc:∀ (i:Nat) (y:PV),(ij sz len ps)[i]? = some y->y.cells.length=sz:=by
       intro i y hy
       obtain⟨hi,hyc⟩:=j8 hsz len ps i y (by omega) hpone hy
       have:(i+1)*sz<=len*sz:=UA _ hi
       rw[Vo] at this
       rw[hyc];simp;omega
      have hcc:∀ (i:Nat) (y:PV) (j:Nat) (z:PV),(ij sz len ps)[i]? = some y->y.cells[j]? = some z->ps[i*sz+j]? = some z/\i*sz+j<len*sz:=by
       intro i y j z hy hz
       obtain⟨hi,hyc⟩:=j8 hsz len ps i y (by omega) hpone hy
       rw[hyc,UL] at hz
       split at hz
       ·rename_i hj
        rw[List.getElem?_drop] at hz
        exact⟨hz,ot hi hj⟩
       ·cases hz
      have key:=PRel.list (w:=κ.w) (imm:=(Hl κ σ rs').imm) (ij sz len ps) b 0 cap sz (fun i j=>cs.getD (i*sz+j) Go.undef) (by rw[j7];exact k2) k3 hc (fun i y j z hy hz=>by
        obtain⟨h1,h2⟩:=hcc i y j z hy hz
        obtain⟨q,h3,h4,h5⟩:=hget _ z h1
        rw[UN]
        refine⟨.inr ⟨r,hrs r (by simp),n,hnm,T,f,l,hσ,by omega⟩,?_,(hrel _ q h3).oneCell h5⟩
        have hlt:i*sz+j<cs.size:=by omega
        rw[cell_of_row κ.w b _ cs T (0,0) hg]
        simp[Uw,hlt]) (fun i y j z hy hz=>by
        obtain⟨h1,h2⟩:=hcc i y j z hy hz
        obtain⟨q,h3,h4,h5⟩:=hget _ z h1
        exact (bI h4 (hrel _ q h3)).mono (fun _ _ h=>.inl h) (fun _ _ _ _ h=>h))
      rw[j7] at key
      exact key
   ·cases h
  ·cases h
 ·cases h
theorem sR (hS:SRel c κ σ):∀ (xs:List AV) (vs:List Value) (ps:List PV) (rs:List Nat),(∀ (i:Nat) (x:AV),xs[i]? = some x->ARel κ x (vs.getD i Go.undef))->D5 σ xs=some (ps,rs) ->
  ps.length=xs.length/\(∀ r∈rs,σ r≠.none)/\∀ rs',(∀ r∈rs,r∈rs')->∀ (i:Nat) (p:PV),ps[i]? = some p->PRel κ.w (Hl κ σ rs').imm p (vs.getD i Go.undef)
 | [],vs,ps,rs,hx,h=>by
   simp only[D5,Uu,Uz] at h
   obtain⟨rfl,rfl⟩:=h
   exact⟨rfl,by simp,fun _ _ i p hp=>by simp at hp⟩
 | x::q,vs,ps,rs,hx,h=>by
   simp only[D5] at h
   unfold Ra at h
   split at h
   ·rename_i p1 q1 h1 h2
    cases h
    obtain⟨a1,a2⟩:=sU hS (hx 0 x (by simp)) h1
    obtain⟨b0,b1,b2⟩:=sR hS q (vs.drop 1) q1.1 q1.2 (fun i y hy=>by
     have:=hx (i+1) y (by simpa using hy)
     simpa[Uv,Nat.add_comm] using this) h2
    refine⟨by simp[b0],fun r hr=>(UY.1 hr).elim (a1 r) (b1 r),fun rs' hrs i p hp=>?_⟩
    cases i with
    | zero=>
      simp only[UW,Uu] at hp
      subst hp
      exact a2 rs' fun r hr=>hrs r (UY.2 (.inl hr))
    | succ i=>
      have:=b2 rs' (fun r hr=>hrs r (UY.2 (.inr hr))) i p (by simpa using hp)
      simpa[Uv,Nat.add_comm] using this
   ·cases h
theorem sQ (hS:SRel c κ σ){x:AV}{u:Value}{p:PV}{rs:List Nat}(hx:ARel κ x u)(h:rr σ x=some (p,rs)) :
  (∀ r∈rs,σ r≠.none)/\PRel κ.w (Hl κ σ rs).imm p u:=by
 unfold rr at h
 split at h
 ·rename_i cs
  simp only[Ut,Uz] at h
  obtain⟨q,hq,rfl,rfl⟩:=h
  cases hx with
  | agg _ vs hl hc=>
    obtain⟨h0,h1,h2⟩:=sR hS cs vs.toList q.1 q.2 (fun i x hx=>by rw[<- aA];exact hc i x hx) hq
    refine⟨h1,.agg _ _ (by rw[hl,h0]) fun i p hp=>?_⟩
    rw[aA]
    exact h2 q.2 (fun _ h=>h) i p hp
 ·obtain⟨h1,h2⟩:=sU hS hx h
  exact⟨h1,h2 rs fun _ h=>h⟩
theorem NU (hS:SRel c κ σ){x v:AV}{u:Value}{δ:List (Nat×Blk)}(new:Nat)(hx:ARel κ x u)(h:(rr σ x).map IP=some (v,δ)) :
  ∃ κ',κ'.w=κ.w/\ARel κ' v u/\Done c κ κ' new/\SRel c κ' (σ.upd δ):=by
 simp only[Ut] at h
 obtain⟨q,hq,h⟩:=h
 unfold IP at h
 simp only[Uz] at h
 obtain⟨rfl,rfl⟩:=h
 obtain⟨h1,h2⟩:=sQ hS hx hq
 obtain⟨h3,h4⟩:=sP hS q.2 h1 new
 exact⟨Hl κ σ q.2,rfl,.pv _ _ h2,h3,h4⟩
def Tb (P:Program)(g:Option (Bool×Nat))(ax:AX)(op:Op):Prop:=
 match g with
 | none=>∃ x,op = .move x/\cX x=some ax
 | some (g,n)=>∃ t x,op = .load t x/\eR P t=some n/\iP P t=some g/\cX x=some ax
theorem CE {E:Nat->AV}{a:Act}{o:Oper}{g:Option (Bool×Nat)}{ax:AX}{v:AV}{new:Nat}{δ:List (Nat×Blk)}(hc:Tb P g ax o.op)(hS:SRel c κ σ)
  (hE:∀ i,i∈ax.slots->ARel κ (E i) (a.tmps.getD i Go.undef)) (hr:IS c.G σ g (ax.ev E)=some (v,δ)) :
  ∃ u κ',(execOp a.eval o).run P κ.w = .ok (.value u) κ'.w/\ARel κ' v u/\Done c κ κ' new/\SRel c κ' (σ.upd δ):=by
 obtain⟨dst,op,type,pos,after,guard⟩:=o
 cases g with
 | none=>
   obtain⟨x,rfl,hx⟩:=hc
   obtain⟨κ',h1,h2,h3,h4⟩:=NU hS new (az (κ:=κ) (E:=E) (a:=a) hx hE) hr
   exact⟨_,κ',by simp[execOp,h1],h2,h3,h4⟩
 | some p=>
   obtain⟨g,n⟩:=p
   obtain⟨t,x,rfl,hn,hg,hx⟩:=hc
   simp only[IS] at hr
   split at hr
   ·rename_i v' hv'
    obtain⟨u,h1,h2⟩:=zx (P:=P) hS hg hn (az (κ:=κ) (E:=E) (a:=a) hx hE) hv'
    obtain⟨κ',k1,k2,k3,k4⟩:=NU hS new h2 hr
    exact⟨u,κ',by simp[execOp,h1,k1],k2,k3,k4⟩
   ·cases hr
end
inductive AOp where
 | t (o:TOp)
 | m (o:MOp)
 | call (f:AX) (args:List AX)
 | fz (g:Option (Bool×Nat)) (x:AX)
structure AOper where
 dst:Option Nat
 op:AOp
 guard:Option (Nat×Bool)
structure St where
 env:List (Nat×AV)
 sto:List (Nat×Blk)
 next:Nat
def look (i:Nat):List (Nat×AV)->AV
 | []=>.any
 | p::r=>if p.1=i then p.2 else look i r
def lookB (i:Nat):List (Nat×Blk)->Blk
 | []=>.none
 | p::r=>if p.1=i then p.2 else lookB i r
def St.E (s:St)(i:Nat):AV:=look i s.env
def St.σ (s:St)(r:Nat):Blk:=lookB r s.sto
def St.put (s:St)(d:Option Nat)(v:AV):St:=
 match d with
 | some d=>⟨(d,v)::s.env,s.sto,s.next⟩
 | none=>s
def je (l:List (Nat×Blk)):List (Nat×Blk)->List (Nat×Blk)
 | []=>l
 | p::r=>je (p::l) r
def St.mem (s:St)(δ:List (Nat×Blk)):St:=⟨s.env,je s.sto δ,s.next+1⟩
theorem gv:∀ (δ l:List (Nat×Blk)) (r:Nat),lookB r (je l δ)=aq.upd (fun r=>lookB r l) δ r
 | [],l,r=>rfl
 | p::q,l,r=>by
   rw[je,aq.upd,gv q (p::l) r]
   congr 1
   funext x
   simp only[lookB,aq.set]
   by_cases h:p.1=x
   ·simp[h]
   ·rw[if_neg h,if_neg (fun e=>h e.symm)]
def IH (D:Nat):Deferred:={ target:=.collected D,args:=#[] }
def dt (c:Ctx)(κ:Kap)(ds:List Deferred):Prop:=c.rnd=true\/∃ Ds:List Nat,ds=Ds.map IH/\Ds.Nodup/\∀ D∈Ds,c.w0.heap.size<=D/\κ.w.heap[D]? = some (.deferred (some []))
theorem dt.ext {c:Ctx}{κ κ':Kap}{ds:List Deferred}(h:dt c κ ds)(he:Ext κ κ'):dt c κ' ds:=by
 rcases h with h | ⟨Ds,h1,h2,h3⟩
 ·exact .inl h
 ·exact .inr ⟨Ds,h1,h2,fun D hD=>⟨(h3 D hD).1,he.obj D _ (h3 D hD).2 rfl⟩⟩
theorem dt.nil (c:Ctx)(κ:Kap):dt c κ []:=.inr ⟨[],rfl,List.nodup_nil,fun D hD=>by simp at hD⟩
structure Rel (c:Ctx)(κ0:Kap)(N:Nat)(s:St)(a:Act)(w:World)(κ:Kap):Prop where
 w_eq:κ.w=w
 ext0:Ext κ0 κ
 rel:SRel c κ s.σ
 left:Left c κ0.imm κ
 env:∀ i,ARel κ (s.E i) (a.tmps.getD i Go.undef)
 size:a.tmps.size=N
 defers:dt c κ a.defers
 fresh:∀ r,s.next<=r->κ.nm r=none
def Wx (s s':St):Prop:=∀ (c:Ctx) (κ0 κ:Kap) (N:Nat) (a:Act) (w:World),Rel c κ0 N s a w κ->∃ κ',Ext κ κ'/\Rel c κ0 N s' a w κ'
def Wk (m0:Nat)(s s':St):Prop:=∀ (c:Ctx) (κ0 κ:Kap) (N:Nat) (a:Act) (w:World),(∀ r,m0<=r->κ0.nm r=none)->Rel c κ0 N s a w κ->∃ κ',Rel c κ0 N s' a w κ'
def WkC (s:St)(args:List AV)(s':St)(args':List AV):Prop:=args'.length=args.length/\s'.env=s.env/\∀ (c:Ctx) (κ0 κ:Kap) (N:Nat) (a:Act) (w:World) (vals:Array Value),Rel c κ0 N s a w κ ->
 (∀ (i:Nat) (x:AV),args[i]? = some x->ARel κ x (vals.getD i Go.undef))->∃ κ',Rel c κ0 N s' a w κ'/\∀ (i:Nat) (x:AV),args'[i]? = some x->ARel κ' x (vals.getD i Go.undef)
theorem Wx.refl (s:St):Wx s s:=fun c κ0 κ N a w h=>⟨κ,Ext.refl κ,h⟩
theorem Wx.trans {s t u:St}(h:Wx s t)(k:Wx t u):Wx s u:=fun c κ0 κ N a w hr=>by
 obtain⟨κ1,e1,h1⟩:=h c κ0 κ N a w hr
 obtain⟨κ2,e2,h2⟩:=k c κ0 κ1 N a w h1
 exact⟨κ2,e1.trans e2,h2⟩
theorem Wk.of {s t:St}(h:Wx s t)(m0:Nat):Wk m0 s t:=fun c κ0 κ N a w _ hr=>by
 obtain⟨κ1,_,h1⟩:=h c κ0 κ N a w hr
 exact⟨κ1,h1⟩
theorem Wk.trans {m0:Nat}{s t u:St}(h:Wk m0 s t)(k:Wk m0 t u):Wk m0 s u:=fun c κ0 κ N a w h0 hr=>by
 obtain⟨κ1,h1⟩:=h c κ0 κ N a w h0 hr
 exact k c κ0 κ1 N a w h0 h1
theorem WkC.refl (s:St)(args:List AV):WkC s args s args:=⟨rfl,rfl,fun c κ0 κ N a w vals h g=>⟨κ,h,g⟩⟩
theorem WkC.of {s t:St}(h:Wx s t)(he:t.env=s.env)(args:List AV):WkC s args t args:=⟨rfl,he,fun c κ0 κ N a w vals hr g=>by
 obtain⟨κ1,e1,h1⟩:=h c κ0 κ N a w hr
 exact⟨κ1,h1,fun i x hx=>(g i x hx).ext e1⟩⟩
def bY (P:Program)(f:Nat):Bool:=
 match P.funcs[f]? with
 | some fn=>fn.body.isSome&&!(fn.name == "runtime.NumGoroutine")
 | none=>false
def du (G:Nat->List PV)(w:World)(imm:Nat->Nat->Prop):Prop:=
 (∀ g o p,(G g)[o]? = some p->imm g o/\∃ v,w.cell? ⟨g,o,none⟩=some v/\v.oneCell'=true/\PRel w imm p v) /\
 ∀ g,G g≠[]->∃ cs T fz,w.heap[g]? = some (.cells cs T fz)/\cs.size=(G g).length
theorem iQ.ok {c:Ctx}{κ:Kap}(h:iQ c κ):du c.G κ.w κ.imm:=⟨h.1,fun g hg=>(h.2 g hg).2.2⟩
def ap (P:Program)(G:Nat->List PV)(f:Nat)(args:List PV)(r:PV):Prop:=
 bY P f=true/\∀ (w:World) (imm:Nat->Nat->Prop) (vals:Array Value),du G w imm->(∀ b o,imm b o->b<w.heap.size)->vals.size=args.length ->
  (∀ (i:Nat) (x:PV),args[i]? = some x->PRel w imm x (vals.getD i Go.undef)) ->
  Calls P f vals w fun e w'=>∃ u imm',e = .returned u/\Below w.heap.size w w'/\(∀ b o,imm b o->imm' b o)/\(∀ b o,imm' b o->imm b o\/w.heap.size<=b)/\(∀ b o,imm' b o->b<w'.heap.size)/\PRel w' imm' r u
def cu (κ:Kap)(σ:aq)(G:Nat->List PV):Ctx:=⟨κ.w,fun b=>∃ r d,σ r≠.none/\κ.nm r=some d/\d.block=some b,G,false⟩
theorem iQ.lend {c:Ctx}{κ:Kap}{σ:aq}(h:iQ c κ)(hm:∀ b,(cu κ σ c.G).lent b->c.mine b):iQ (cu κ σ c.G) κ:=
 ⟨h.1,fun g hg=>by
  obtain⟨h1,h2,cs,T,fz,h3,h4⟩:=h.2 g hg
  exact⟨(UF.1 h3).1,fun hl=>en h1 h2 (hm g hl),cs,T,fz,h3,h4⟩⟩
theorem iQ.back {c:Ctx}{κ κ':Kap}{σ:aq}(h:iQ c κ)(hm:∀ b,(cu κ σ c.G).lent b->c.mine b)(h':iQ (cu κ σ c.G) κ')
  (hb:∀ b,b<κ.w.heap.size->¬ (cu κ σ c.G).lent b->κ'.w.heap[b]? = κ.w.heap[b]?):iQ c κ':=
 ⟨h'.1,fun g hg=>by
  obtain⟨h1,h2,cs,T,fz,h3,h4⟩:=h.2 g hg
  exact⟨h1,h2,cs,T,fz,(hb g (UF.1 h3).1 fun hl=>en h1 h2 (hm g hl)).trans h3,h4⟩⟩
def bW (P:Program)(G:Nat->List PV)(f:Nat)(args:List AV)(sto:List (Nat×Blk))(next:Nat)(Q:AV->List (Nat×Blk)->Nat->Prop):Prop:=
 bY P f=true/\∀ (κ:Kap) (vals:Array Value),SRel (cu κ (fun r=>lookB r sto) G) κ (fun r=>lookB r sto)->(∀ r,next<=r->κ.nm r=none)->vals.size=args.length ->
  (∀ (i:Nat) (x:AV),args[i]? = some x->ARel κ x (vals.getD i Go.undef)) ->
  Calls P f vals κ.w fun e w'=>∃ u v κ' sto' next',e = .returned u/\κ'.w=w'/\Ext κ κ'/\Left (cu κ (fun r=>lookB r sto) G) κ.imm κ'/\ARel κ' v u /\
   SRel (cu κ (fun r=>lookB r sto) G) κ' (fun r=>lookB r sto')/\(∀ r,next'<=r->κ'.nm r=none)/\Q v sto' next'
def ab (P:Program)(G:Nat->List PV)(f:Nat)(args:List AV)(s:St)(K:AV->St->Prop):Prop:=
 ∃ s' args',WkC s args s' args'/\((∃ ps r,pvs args'=some ps/\ap P G f ps r/\K (.pv r) s') \/
 (∃ Q,bW P G f args' s'.sto s'.next Q/\∀ v sto' next',Q v sto' next'->K v ⟨s.env,sto',next'⟩))
def dn:AV->Option (Nat×List AV×List AV)
 | .pv (.clo f fs cs)=>some (f,fs.map .pv,cs.map .pv)
 | .clo f fs cs=>some (f,fs,cs)
 | _=>none
def aK {α:Type}(x:Option α)(k:α->Prop):Prop:=
 match x with
 | some a=>k a
 | none=>False
def bZ (s:St):Option (Nat×Bool)->Option Bool
 | none=>some true
 | some (i,b)=>match s.E i with
   | .pv (.bool x)=>some (x == b)
   | .pv .undef=>some false
   | _=>none
def Gf (F:St->Prop)(s:St)(d:Option Nat)(v:AV):Prop:=F (s.put d v)
def vH (F:St->Prop)(s:St)(d:Option Nat)(p:AV×List (Nat×Blk)):Prop:=F ((s.mem p.2).put d p.1)
def Gk (F:St->Prop)(d:Option Nat)(v:AV)(s:St):Prop:=F (s.put d v)
def Dp (P:Program)(G:Nat->List PV)(args:List AV)(s:St)(K:AV->St->Prop)(p:Nat×List AV×List AV):Prop:=ab P G p.1 (p.2.1++args++p.2.2) s K
def nilB (E:Nat->AV):TOp->Bool
 | .beq 2 _ x (.c .nils)=>match x.ev E with
   | .pv (.list [])=>true
   | _=>false
 | _=>false
def g8 (x:Option AV)(k:AV->Prop)(nb:Bool):Prop:=
 match x with
 | some v=>k v
 | none=>nb=true/\∀ b:Bool,k (.pv (.bool b))
def ku (P:Program)(G:Nat->List PV)(F:St->Prop)(s:St)(d:Option Nat):AOp->Prop
 | .t o=>g8 (o.run s.E) (Gf F s d) (nilB s.E o)
 | .m o=>aK (o.run G s.next s.E s.σ) (vH F s d)
 | .call f xs=>aK (dn (f.ev s.E)) (Dp P G (xs.map (·.ev s.E)) s (Gk F d))
 | .fz g x=>aK (IS G s.σ g (x.ev s.E)) (vH F s d)
def IW (P:Program)(G:Nat->List PV)(F:St->Prop)(s:St)(d:Option Nat)(o:AOp)(b:Bool):Prop:=
 match b with
 | true=>ku P G F s d o
 | false=>F (s.put d (.pv .undef))
def dv (P:Program)(G:Nat->List PV):List AOper->(St->Prop)->St->Prop
 | [],F,s=>F s
 | o::r,F,s=>aK (bZ s o.guard) (IW P G (dv P G r F) s o.dst o.op)
def Dt (ops:Array Oper):Option (Nat×Bool)->Option (Option (Nat×Bool))
 | none=>some none
 | some (j,b)=>match (ops[j]?).bind (·.dst) with
   | some d=>some (some (d,b))
   | none=>none
def cF (P:Program):Op->Option AOp
 | .move x=>(cX x).map (.fz none)
 | .load t x=>match eR P t,iP P t,cX x with
   | some n,some g,some ax=>some (.fz (some (g,n)) ax)
   | _,_,_=>none
 | _=>none
def iN:AOp:=.call (.c .undef) []
def TB:Op->Bool
 | .slice _ _ _ _ _=>true
 | .binOp .eql _ _ _ _ | .binOp .neq _ _ _ _=>true
 | _=>false
def cT1 (P:Program)(mu:Bool)(op:Op):Option TOp:=
 match mu&&TB op with
 | true=>none
 | false=>cT P op
theorem tF {P:Program}{mu:Bool}{op:Op}{t:TOp}(h:cT1 P mu op=some t):cT P op=some t:=by
 unfold cT1 at h
 split at h
 ·cases h
 ·exact h
def OP (d:Option TypeDesc):Option Method->Option Nat
 | some m=>match m.path.toList,m.func,d with
   | [],some (f,true),some (.pointer _)=>some f
   | [],some (_,false),some (.pointer _)=>none
   | [],some (f,false),some _=>some f
   | _,_,_=>none
 | none=>none
def RK (P:Program)(m:String)(T:Nat):Option Nat:=
 match P.info? T with
 | some i=>OP (P.underlying T) (i.methods.find? (·.name == m))
 | none=>none
def vN (P:Program)(m:String):List Nat->List (Nat×Nat)
 | []=>[]
 | T::r=>match RK P m T with
   | some f=>(T,f)::vN P m r
   | none=>vN P m r
def RJ (P:Program)(m:String):List (Nat×Nat):=vN P m (U1 P.types.size)
theorem hH {P:Program}{m:String}{T f:Nat}:∀ {l:List Nat},jH T (vN P m l)=some f->RK P m T=some f
 | [],h=>by simp[vN,jH] at h
 | t::r,h=>by
   simp only[vN] at h
   split at h
   ·rename_i g hg
    simp only[jH] at h
    split at h
    ·rename_i he
     cases h
     rw[<- he];exact hg
    ·exact hH h
   ·exact hH h
theorem vO {P:Program}{m:String}{T f:Nat}(h:jH T (RJ P m)=some f)(k:Nat)(v:Value)(w:World):(method (k+1) T v m).run P w = .ok (f,v) w:=by
 have h:=hH h
 unfold RK at h
 split at h
 ·rename_i i hi
  generalize hd:P.underlying T=d at h
  generalize hm:i.methods.find? (·.name == m)=o at h
  unfold OP at h
  split at h
  ·rename_i row
   split at h
   ·rename_i f' te hp hf
    cases h
    simp[method,typeInfo,hi,hm,hp,hf,follow,receiverAt,run_underlying hd,Place.get]
   ·cases h
   ·rename_i f' td hnp hp hf
    cases h
    cases td with
    | pointer e=>exact absurd rfl (hnp e)
    | _=>simp[method,typeInfo,hi,hm,hp,hf,follow,receiverAt,run_underlying hd,Place.get]
   ·cases h
  ·cases h
 ·cases h
def Du (P:Program):Op->AOp
 | .call { callee:=.value f,args,argTypes:=_ }=>match cX f,cXs args.toList with
   | some af,some xs=>.call af xs
   | _,_=>iN
 | .call { callee:=.invoke (.tmp r) m,args,argTypes:=_ }=>match cXs args.toList with
   | some xs=>.call (.m r (RJ P m)) xs
   | none=>iN
 | _=>iN
def Je (P:Program)(o:Op)(af:AX)(xs:List AX):Prop:=
 (∃ f args ts,o = .call { callee:=.value f,args:=args,argTypes:=ts }/\cX f=some af/\cXs args.toList=some xs) \/
 ∃ r m args ts,o = .call { callee:=.invoke (.tmp r) m,args:=args,argTypes:=ts }/\af = .m r (RJ P m)/\cXs args.toList=some xs
theorem oY (P:Program)(o:Op):Du P o=iN\/∃ af xs,Du P o = .call af xs/\Je P o af xs:=by
 unfold Du
 split
 ·split
  ·exact .inr ⟨_,_,rfl,.inl ⟨_,_,_,rfl,‹_›,‹_›⟩⟩
  ·exact .inl rfl
 ·split
  ·exact .inr ⟨_,_,rfl,.inr ⟨_,_,_,_,rfl,rfl,‹_›⟩⟩
  ·exact .inl rfl
 ·exact .inl rfl
def cA0 (P:Program)(mu:Bool)(op:Op):Option AOp:=
 match cT1 P mu op with
 | some t=>some (.t t)
 | none=>match cM P mu op with
   | some m=>some (.m m)
   | none=>some (Du P op)
def cA (P:Program)(mu:Bool×Bool)(op:Op):Option AOp:=
 match mu.2 with
 | true=>match cF P op with
   | some a=>some a
   | none=>(cBf P op).map .m
 | false=>cA0 P mu.1 op
theorem Sm {P:Program}{o:Op}{op:AOp}(h:cF P o=some op):∃ g x,op = .fz g x/\Tb P g x o:=by
 unfold cF at h
 split at h
 ·simp only[Ut] at h
  obtain⟨ax,hx,rfl⟩:=h
  exact⟨none,ax,rfl,_,rfl,hx⟩
 ·split at h
  ·rename_i n g ax h1 h2 h3
   cases h
   exact⟨some (g,n),ax,rfl,_,_,rfl,h1,h2,h3⟩
  ·cases h
 ·cases h
theorem I3 {P:Program}{mu:Bool×Bool}{o:Op}{op:AOp}(h:cA P mu o=some op) :
  (∃ g x,op = .fz g x/\Tb P g x o)\/(∃ t,op = .t t/\cT1 P mu.1 o=some t)\/(∃ m,op = .m m/\cMm P mu o=some m)\/op=Du P o:=by
 obtain⟨mu,fz⟩:=mu
 cases fz with
 | true=>
   simp only[cA] at h
   split at h
   ·rename_i a ha
    cases h
    exact .inl (Sm ha)
   ·simp only[Ut] at h
    obtain⟨m,hm,rfl⟩:=h
    exact .inr (.inr (.inl ⟨m,rfl,hm⟩))
 | false=>
   simp only[cA] at h
   unfold cA0 at h
   split at h
   ·rename_i t ht
    cases h
    exact .inr (.inl ⟨t,rfl,ht⟩)
   ·split at h
    ·rename_i m hm
     cases h
     exact .inr (.inr (.inl ⟨m,rfl,hm⟩))
    ·cases h
     exact .inr (.inr (.inr rfl))
def Tj (muts:List Nat):Option Nat->Bool×Bool
 | some d=>(muts.contains d,muts.contains (d+1000000))
 | none=>(false,false)
def wQ (d:Option Nat)(N:Nat):Bool:=
 match d with
 | some d=>decide (d<N)
 | none=>true
def xy (P:Program)(muts:List Nat)(N:Nat)(ops:Array Oper)(o:Oper):Option AOper:=
 match Dt ops o.guard,cA P (Tj muts o.dst) o.op with
 | some g,some op=>if wQ o.dst N=true then some ⟨o.dst,op,g⟩ else none
 | _,_=>none
def D7 (P:Program)(muts:List Nat)(N:Nat)(ops:Array Oper):List Oper->Option (List AOper)
 | []=>some []
 | o::r=>match xy P muts N ops o,D7 P muts N ops r with
   | some a,some b=>some (a::b)
   | _,_=>none
theorem Ld {κ:Kap}{s:St}{a:Act}{d:Option Nat}{v:AV}{u:Value}{N:Nat}(h:∀ i,ARel κ (s.E i) (a.tmps.getD i Go.undef))(hN:a.tmps.size=N)
  (hd:wQ d N=true) (hv:ARel κ v u):(∀ i,ARel κ ((s.put d v).E i) ((a.put d u).tmps.getD i Go.undef))/\(a.put d u).tmps.size=N/\(a.put d u).defers=a.defers:=by
 cases d with
 | none=>exact⟨h,hN,rfl⟩
 | some d=>
   simp only[wQ,decide_eq_true_eq] at hd
   refine⟨fun i=>?_,by simp[Act.put,hN],rfl⟩
   simp only[St.put,St.E,look,Act.put]
   by_cases hi:d=i
   ·subst hi
    rw[if_pos rfl]
    have:(a.tmps.setIfInBounds d u).getD d Go.undef=u:=by simp[Uw,hN,hd]
    rw[this];exact hv
   ·rw[if_neg hi]
    have:(a.tmps.setIfInBounds d u).getD i Go.undef=a.tmps.getD i Go.undef:=by
     simp only[Uw,VC]
     rw[if_neg hi]
    rw[this];exact h i
theorem Rel.put {c:Ctx}{κ0 κ κ':Kap}{N:Nat}{s:St}{a:Act}{w w':World}(h:Rel c κ0 N s a w κ){d:Option Nat}{v:AV}{u:Value}(hd:wQ d N=true)(hv:ARel κ v u) :
  Rel c κ0 N (s.put d v) (a.put d u) w κ:=by
 obtain⟨h1,h2,h3⟩:=Ld h.env h.size hd hv
 have e1:(s.put d v).σ=s.σ:=by cases d<;>rfl
 have e2:(s.put d v).next=s.next:=by cases d<;>rfl
 exact⟨h.w_eq,h.ext0,by rw[e1];exact h.rel,h.left,h1,h2,by rw[h3];exact h.defers,by rw[e2];exact h.fresh⟩
theorem Rel.size_le {c:Ctx}{κ0 κ:Kap}{N:Nat}{s:St}{a:Act}{w:World}(h:Rel c κ0 N s a w κ):c.w0.heap.size<=κ.w.heap.size:=h.left.size
theorem Rel.step {c:Ctx}{κ0 κ κ':Kap}{N:Nat}{s:St}{a:Act}{w:World}{δ:List (Nat×Blk)}(h:Rel c κ0 N s a w κ)(hd:Done c κ κ' s.next)(hS:SRel c κ' (aq.upd s.σ δ)):Rel c κ0 N (s.mem δ) a κ'.w κ':=by
 refine⟨rfl,h.ext0.trans hd.ext,?_,hd.left _ h.left,fun i=>(h.env i).ext hd.ext,h.size,h.defers.ext hd.ext,fun r hr=>?_⟩
 ·have:(s.mem δ).σ=aq.upd s.σ δ:=by funext r;exact gv δ s.sto r
  rw[this];exact hS
 ·have hr':s.next+1<=r:=hr
  exact hd.fresh r (by omega) (h.fresh r (by omega))
section
variable {P:Program}{c:Ctx}{κ0 κ:Kap}{N:Nat}{s:St}{a:Act}{w:World}{ro:Option Nat}{nf:Nat}
def FR (ro:Option Nat):Fence:={ Fence.wide with round:=ro }
theorem tL (ro:Option Nat):¬ (FR ro).depth.isSome=true:=by simp[FR,Fence.wide]
theorem MD {f:Nat}{args:Array Value}{R:Ending->World->Prop}(h:Calls P f args w R):CallsIn (FR ro) nf P f args w R:=by
 have:=(callsIn_wide (n:=nf)).2 h
 cases ro with
 | none=>exact this
 | some l=>exact this
theorem jn {o:Oper}{ρ:Operand->Value}{x:Next}{w':World}(h:(execOp ρ o).run P w = .ok x w')(hx:∀ d,x≠.defer d):(o.semAt ro ρ).run P w = .ok x w':=by
 cases ro with
 | none=>rw[Oper.semAt_none];exact h
 | some l=>
   rw[Oper.semAt_some l ρ o]
   ·exact h
   ·intro c hc
    simp only[execOp,hc,Sem.run_bind] at h
    cases hr:(resolve ρ c o.type).run P w with
    | ok d w1=>rw[hr] at h;simp at h;exact hx _ h.1.symm
    | halt y w1=>rw[hr] at h;simp[Result.andThen] at h
theorem dM {o:Oper}{u:Value}{w':World}{K:Act->World->Prop}{Q:Exit->Act->World->Prop}(h:(execOp a.eval o).run P w = .ok (.value u) w')(hk:K (a.put o.dst u) w'):o.wpIn (FR ro) nf P a w K Q:=by
 refine⟨fun _ _=>trivial,?_⟩
 rw[show (FR ro).round=ro from rfl,jn h (by simp)];exact hk
theorem sA {o:Oper}{w':World}{K:Act->World->Prop}{Q:Exit->Act->World->Prop}(h:(execOp a.eval o).run P w = .ok .skip w')(hk:K (a.put o.dst Go.undef) w'):o.wpIn (FR ro) nf P a w K Q:=by
 refine⟨fun _ _=>trivial,?_⟩
 rw[show (FR ro).round=ro from rfl,jn h (by simp)];exact hk
theorem jB {o:Oper}{f:Nat}{args:Array Value}{w':World}{K:Act->World->Prop}{Q:Exit->Act->World->Prop}(h:(execOp a.eval o).run P w = .ok (.enter f args) w')
  (hk:Calls P f args w' fun
   | .returned v,w''=>K (a.put o.dst v) w''
   | .panicked chain,w''=>Q (.panic chain) a w''
   | .outgrown,_=>LetsOut Q):o.wpIn (FR ro) nf P a w K Q:=by
 refine⟨fun _ _=>trivial,?_⟩
 rw[show (FR ro).round=ro from rfl,jn h (by simp)]
 exact⟨fun h=>absurd h (tL ro),MD hk⟩
theorem Rel.pureCall (h:Rel c κ0 N s a w κ){w':World}{imm':Nat->Nat->Prop}(hb:Below w.heap.size w w')(h1:∀ b o,κ.imm b o->imm' b o)(h2:∀ b o,imm' b o->κ.imm b o\/w.heap.size<=b)(h3:∀ b o,imm' b o->b<w'.heap.size) :
  Rel c κ0 N s a w' ⟨w',κ.nm,imm'⟩:=by
 have hw:=h.w_eq
 subst hw
 have he:Ext κ ⟨w',κ.nm,imm'⟩:=by
  refine⟨h1,fun b o v hi hc=>?_,fun _ _ h=>h,fun b o ho _=>(hb.block b (UF.1 ho).1).trans ho⟩
  have hl:=World.block_lt_of_cell? κ.w _ hc
  exact (World.cell?_of_block (a:=⟨b,o,none⟩) (hb.block b hl)).trans hc
 have hS:=h.rel
 have hL:=h.left
 refine⟨rfl,h.ext0.trans he,⟨fun r=>?_,hS.apart,hS.mine,h3,T9 he hS.glob fun g h1 _=>hb.block g (UZ h1 hL.size)⟩,⟨hb.os.trans hL.os,hb.tape.trans hL.tape,hb.output.trans hL.output,UX hL.size hb.size,fun b hlt hl=>?_,fun b o hi=>?_⟩,fun i=>(h.env i).ext he,h.size,h.defers.ext he,h.fresh⟩
 ·refine (hS.blk r).keep he fun hz d b hd hbk=>?_
  have hl:=(hS.blk r).lt hz hd hbk
  exact⟨hb.block b hl,fun o ho=>(h2 b o ho).elim id (fun h=>by omega)⟩
 ·exact (hb.block b (UZ hlt hL.size)).trans (hL.block b hlt hl)
 ·rcases h2 b o hi with h | h
  ·exact hL.imm b o h
  ·exact .inr (.inl (UX hL.size h))
theorem Rel.lentCall (h:Rel c κ0 N s a w κ){κ':Kap}{sto':List (Nat×Blk)}{next':Nat}(he:Ext κ κ')(hL:Left (cu κ s.σ c.G) κ.imm κ')(hS:SRel (cu κ s.σ c.G) κ' (fun r=>lookB r sto'))(hf:∀ r,next'<=r->κ'.nm r=none) :
  Rel c κ0 N ⟨s.env,sto',next'⟩ a κ'.w κ':=by
 have hl0:=h.left
 have hlm:∀ b,(cu κ s.σ c.G).lent b->c.mine b:=fun b ⟨r,d,h1,h2,h3⟩=>h.rel.mine r d b h1 h2 h3
 have hmine:∀ b,(cu κ s.σ c.G).mine b->c.mine b:=by
  intro b hb
  rcases hb with hb | ⟨r,d,h1,h2,h3⟩
  ·exact .inl (UX hl0.size hb)
  ·exact h.rel.mine r d b h1 h2 h3
 refine⟨rfl,h.ext0.trans he,⟨hS.blk,hS.apart,fun r d b h1 h2 h3=>hmine b (hS.mine r d b h1 h2 h3),hS.immLt,h.rel.glob.back hlm hS.glob hL.block⟩,⟨hL.os.trans hl0.os,hL.tape.trans hl0.tape,hL.output.trans hl0.output,UX hl0.size hL.size,fun b hlt hl=>?_,fun b o hi=>?_⟩,fun i=>(h.env i).ext he,h.size,h.defers.ext he,hf⟩
 ·refine (hL.block b (UZ hlt hl0.size) ?_).trans (hl0.block b hlt hl)
  rintro⟨r,d,h1,h2,h3⟩
  rcases h.rel.mine r d b h1 h2 h3 with h4 | h4
  ·omega
  ·exact hl h4
 ·rcases hL.imm b o hi with h1 | h1
  ·exact hl0.imm b o h1
  ·exact .inr (hmine b h1)
theorem rT {f:Nat}{args:List AV}{vals:Array Value}{K:AV->St->Prop}(h:Rel c κ0 N s a w κ)(hA:ab P c.G f args s K)(hsz:vals.size=args.length)(hargs:∀ (i:Nat) (x:AV),args[i]? = some x->ARel κ x (vals.getD i Go.undef)) :
  bY P f=true/\Calls P f vals w fun e w'=>∃ u v s' κ',e = .returned u/\Rel c κ0 N s' a w' κ'/\ARel κ' v u/\K v s':=by
 obtain⟨s1,args1,⟨hlen1,henv1,hW⟩,hA⟩:=hA
 obtain⟨κ,h,hargs⟩:=hW c κ0 κ N a w vals h hargs
 rw[<- hlen1] at hsz
 rw[<- henv1] at hA
 clear hW hlen1 henv1
 have hw:=h.w_eq
 rcases hA with ⟨ps,r,hps,⟨hcal,hP⟩,hK⟩ | ⟨Q,⟨hcal,hT⟩,hK⟩
 ·refine⟨hcal,?_⟩
  subst hw
  refine (hP κ.w κ.imm vals h.rel.glob.ok h.rel.immLt (hsz.trans (bT hps).symm) fun i x hx=>?_).mono ?_
  ·obtain⟨y,hy,hp⟩:=cB hps i x hx
   exact bI hp (hargs i y hy)
  ·rintro e w' ⟨u,imm',rfl,hb,h1,h2,h3,h4⟩
   exact⟨u,.pv r,s1,_,rfl,h.pureCall hb h1 h2 h3,.pv _ _ h4,hK⟩
 ·refine⟨hcal,?_⟩
  subst hw
  refine (hT κ vals ?_ h.fresh hsz hargs).mono ?_
  ·have hS:=h.rel
   exact⟨hS.blk,hS.apart,fun r d b h1 h2 h3=>.inr ⟨r,d,h1,h2,h3⟩,hS.immLt,hS.glob.lend fun b ⟨r,d,h1,h2,h3⟩=>hS.mine r d b h1 h2 h3⟩
  ·rintro e w' ⟨u,v,κ',sto',next',rfl,rfl,he,hL,hv,hS,hf,hQ⟩
   exact⟨u,v,_,κ',rfl,h.lentCall he hL hS hf,hv,hK v sto' next' hQ⟩
theorem eU {ops:Array Oper}{o:Oper}{g:Option (Nat×Bool)}{b:Bool}(hg:Dt ops o.guard=some g)(henv:∀ i,ARel κ (s.E i) (a.tmps.getD i Go.undef))(hw:bZ s g=some b):Region.wanted o (yielded ops a.tmps)=b:=by
 unfold Dt at hg
 unfold Region.wanted
 split at hg
 ·rename_i hgu
  cases hg
  simp[bZ] at hw
  simp[hgu,hw]
 ·rename_i j want hgu
  split at hg
  ·rename_i d hd
   cases hg
   rw[hgu]
   simp only
   have hy:yielded ops a.tmps j=match (a.tmps[d]?) with | some (.bool b)=>some b | _=>none:=by
    simp only[yielded,hd,Option.bind_some]
    cases a.tmps[d]? with
    | none=>rfl
    | some v=>cases v<;>rfl
   rw[hy]
   have he:=henv d
   simp only[bZ] at hw
   split at hw
   ·rename_i x hx
    cases hw
    rw[hx] at he
    have:=cY he
    have hlt:d<a.tmps.size:=by
     rcases U6 d a.tmps.size with h | h
     ·exact h
     ·rw[Uw,Array.getElem?_eq_none h] at this
      cases this
    rw[Uw,Vq hlt] at this
    simp only[Vb] at this
    rw[Vq hlt,this]
    cases x<;>cases want<;>rfl
   ·rename_i hx
    cases hw
    rw[hx] at he
    have hu:a.tmps.getD d Go.undef = .tuple #[]:=by
     generalize a.tmps.getD d Go.undef=u at he
     cases aG he;rfl
    rcases U6 d a.tmps.size with hlt | hge
    ·rw[Uw,Vq hlt] at hu
     simp only[Vb] at hu
     rw[Vq hlt,hu]
     rfl
    ·rw[Array.getElem?_eq_none hge];rfl
   ·cases hw
  ·cases hg
theorem fb {f:Nat}{vals:Array Value}(h:bY P f=true):(callFunc f vals).run P w = .ok (.enter f vals) w:=by
 unfold bY at h
 split at h
 ·rename_i fn hfn
  simp only[Bool.and_eq_true,Bool.not_eq_true',beq_eq_false_iff_ne] at h
  obtain⟨b,hb⟩:=Option.isSome_iff_exists.1 h.1
  simp[callFunc,hfn,h.2,hb]
 ·cases h
theorem C5 {x:AV}{u:Value}{p:Nat×List AV×List AV}(hx:ARel κ x u)(h:dn x=some p):∃ vs us:Array Value,u = .func (.func p.1) vs us/\vs.size=p.2.1.length/\us.size=p.2.2.length /\
  (∀ (i:Nat) (x:AV),p.2.1[i]? = some x->ARel κ x (vs.getD i Go.undef))/\∀ (i:Nat) (x:AV),p.2.2[i]? = some x->ARel κ x (us.getD i Go.undef):=by
 unfold dn at h
 split at h
 ·cases h
  cases aG hx with
  | clo _ _ _ vs us h1 h2 h3 h4=>
    refine⟨vs,us,rfl,by simpa using h1,by simpa using h3,fun i x hx=>?_,fun i x hx=>?_⟩
    ·simp only[UE,Ut] at hx
     obtain⟨q,hq,rfl⟩:=hx
     exact .pv _ _ (h2 i q hq)
    ·simp only[UE,Ut] at hx
     obtain⟨q,hq,rfl⟩:=hx
     exact .pv _ _ (h4 i q hq)
 ·cases h
  cases hx with
  | clo _ _ _ vs us h1 h2 h3 h4=>exact⟨vs,us,rfl,h1,h3,h2,h4⟩
 ·cases h
theorem cD {l k:List AV}{xs zs:Array Value}(hl:xs.size=l.length)(h:∀ (i:Nat) (x:AV),l[i]? = some x->ARel κ x (xs.getD i Go.undef))(g:∀ (i:Nat) (x:AV),k[i]? = some x->ARel κ x (zs.getD i Go.undef)) :
  ∀ (i:Nat) (x:AV),(l++k)[i]? = some x->ARel κ x ((xs++zs).getD i Go.undef):=by
 have:=fp (κ:=κ) (l:=l) (k:=k) (xs:=xs.toList) (zs:=zs.toList) (by simpa using hl.symm) (by simpa[aA] using h) (by simpa[aA] using g)
 intro i x hx
 rw[aA];simpa using this i x hx
theorem Gz {tb:List (Nat×Nat)}{x:AV}{p:Nat×List AV×List AV}(h:dn (Nf tb x)=some p):∃ T q f,x = .pv (.iface T q)/\jH T tb=some f/\p=(f,[.pv q],[]):=by
 unfold Nf at h
 split at h
 ·rename_i T q
  cases hl:jH T tb with
  | none=>rw[hl] at h;simp[BG,dn] at h
  | some f=>
    rw[hl] at h
    simp only[BG,dn,Uu] at h
    exact⟨T,q,f,rfl,hl,h.symm⟩
 ·simp[dn] at h
theorem tB {E:Nat->AV}{o:Oper}{af:AX}{xs:List AX}{p:Nat×List AV×List AV}(hc:Je P o.op af xs)(hE:∀ i,ARel κ (E i) (a.tmps.getD i Go.undef))(hp:dn (af.ev E)=some p) :
  ∃ (vs us:Array Value) (args:Array Operand),vs.size=p.2.1.length/\us.size=p.2.2.length/\(∀ (i:Nat) (x:AV),p.2.1[i]? = some x->ARel κ x (vs.getD i Go.undef))/\(∀ (i:Nat) (x:AV),p.2.2[i]? = some x->ARel κ x (us.getD i Go.undef)) /\
    cXs args.toList=some xs/\(bY P p.1=true->∀ w,(execOp a.eval o).run P w = .ok (.enter p.1 (vs++args.map a.eval++us)) w):=by
 rcases hc with ⟨f,args,ts,hop,hf,hxs⟩ | ⟨r,m,args,ts,hop,rfl,hxs⟩
 ·obtain⟨vs,us,hfu,hvs,hus,hv1,hu1⟩:=C5 (az (κ:=κ) (E:=E) (a:=a) hf (fun i _=>hE i)) hp
  refine⟨vs,us,args,hvs,hus,hv1,hu1,hxs,fun hcal w=>?_⟩
  simp[execOp,hop,resolve,hfu,Deferred.ofValue,invoke,fb hcal]
 ·simp only[AX.ev] at hp
  obtain⟨T,q,f,hx,hl,rfl⟩:=Gz hp
  have hr:=hE r
  rw[hx] at hr
  generalize hu:a.tmps.getD r Go.undef=u at hr
  cases aG hr with
  | iface _ _ v hv=>
  refine⟨#[v],#[],args,rfl,rfl,fun i x hx=>?_,fun i x hx=>by simp at hx,hxs,fun hcal w=>?_⟩
  ·cases i with
   | zero=>simp at hx;subst hx;simpa using ARel.pv _ _ hv
   | succ i=>simp at hx
  ·have h0:(#[a.eval (.tmp r)]++args.map a.eval)[0]? = some (.iface T v):=by
    rw[Array.getElem?_append_left (by simp)]
    simp[Act.eval,hu]
   have hfu:P.types.size+Made.depth=(P.types.size+99)+1:=rfl
   simp[execOp,hop,resolve,invoke,h0,callMethod,hfu,vO hl,fb hcal]
   rw[show args.size=(args.map a.eval).size by simp,Array.extract_size]
theorem Mh {w:World}(d:Nat){t e:TypeId}(hu:P.underlying t=some (.slice e))(A:Option Addr)(n c:Nat):(Op.equalIn (d+1) t (.slice A n c) (.slice none 0 0)).run P w = .ok A.isNone w:=by
 cases A<;>simp[Op.equalIn,run_underlying hu]
theorem P0 {op:Op}{kd:Nat}{ng:Bool}{ax ay:AX}(h:cT P op=some (.beq kd ng ax ay)):∃ bo t x y z,op = .binOp bo t x y z/\cN P t=some kd/\((bo = .eql/\ng=false)\/(bo = .neq/\ng=true))/\cX x=some ax/\cX y=some ay:=by
 cases op with
 | binOp bo t x y z=>
   simp only[cT] at h
   split at h
   ·obtain⟨ax',ay',hx,hy,he⟩:=dq h
    cases he
    exact⟨_,_,_,_,_,rfl,‹_›,.inl ⟨rfl,rfl⟩,hx,hy⟩
   ·obtain⟨ax',ay',hx,hy,he⟩:=dq h
    cases he
    exact⟨_,_,_,_,_,rfl,‹_›,.inr ⟨rfl,rfl⟩,hx,hy⟩
   ·exfalso
    revert h
    (repeat' split)<;>(intro h;obtain⟨_,_,_,_,he⟩:=dq h;cases he)
 | _=>
   exfalso
   unfold cT at h
   revert h
   (repeat' split)<;>(intro h;first
    | (cases h;done)
    | (obtain⟨_,_,he⟩:=dr h;cases he;done)
    | (obtain⟨_,_,_,_,he⟩:=dq h;cases he;done)
    | (obtain⟨_,_,_,_,_,_,he⟩:=Dv h;cases he;done)
    | (cases ‹_=Op.binOp _ _ _ _ _›;done)
    | (simp at h;done))
theorem MF {x:Operand}(h:cX x=some (.c .nils))(a:Act):a.eval x = .slice none 0 0:=by
 cases x with
 | tmp t=>simp[cX] at h
 | const v=>
   simp only[cX,Ut] at h
   obtain⟨p,hp,he⟩:=h
   cases he
   have:=fK (w:=default) (imm:=fun _ _=>False) hp
   cases this;rfl
 | global g=>simp[cX] at h
 | func f=>simp[cX] at h
theorem Gc {E:Nat->AV}{o:Oper}{op:TOp}(hc:cT P o.op=some op)(hE:∀ i,i∈op.slots->ARel κ (E i) (a.tmps.getD i Go.undef))(hn:nilB E op=true) :
  ∃ b,(execOp a.eval o).run P κ.w = .ok (.value (.bool b)) κ.w:=by
 unfold nilB at hn
 split at hn
 ·rename_i ng x
  split at hn
  ·rename_i hev
   obtain⟨dst,op,type,pos,after,guard⟩:=o
   obtain⟨bo,t,X,Y,z,rfl,hk,hbo,hX,hY⟩:=P0 hc
   have hx:=az (κ:=κ) (E:=E) (a:=a) hX (fun i hi=>hE i (by simp[TOp.slots,hi]))
   rw[hev] at hx
   have hy:=MF hY a
   obtain⟨e,hu⟩:∃ e,P.underlying t=some (.slice e):=by
    unfold cN at hk
    split at hk<;>first | exact⟨_,‹_›⟩ | cases hk
   obtain⟨A,n,c,hs⟩:∃ A n c,a.eval X = .slice A n c:=by
    generalize a.eval X=u at hx
    cases aG hx<;>exact⟨_,_,_,rfl⟩
   have he:Op.equal t (.slice A n c) (.slice none 0 0)=Op.equalIn (9999+1) t (.slice A n c) (.slice none 0 0):=rfl
   have hmain:=Mh (P:=P) (w:=κ.w) 9999 hu A n c
   rcases hbo with ⟨rfl,_⟩ | ⟨rfl,_⟩
   ·refine⟨A.isNone,?_⟩
    simp[execOp,hs,hy,eqGuard_at_slice,binOp,he,hmain]
   ·refine⟨!A.isNone,?_⟩
    simp[execOp,hs,hy,eqGuard_at_slice,binOp,he,hmain]
  ·cases hn
 ·cases hn
theorem lg {mu:Bool×Bool}{o:Oper}{op:AOp}{F:St->Prop}{K:Act->World->Prop}{Q:Exit->Act->World->Prop}(hc:cA P mu o.op=some op)(h:Rel c κ0 N s a w κ)
  (hd:wQ o.dst N=true) (hr:ku P c.G F s o.dst op) (hK:∀ s a w κ,Rel c κ0 N s a w κ->F s->K a w):o.wpIn (FR ro) nf P a w K Q:=by
 have hw:=h.w_eq
 subst hw
 rcases I3 hc with ⟨g,x,rfl,hz⟩ | ⟨t,rfl,ht⟩ | ⟨m,rfl,hm⟩ | rfl
 ·simp only[ku,aK] at hr
  split at hr
  ·rename_i p hp
   obtain⟨u,κ',h1,h2,h3,h4⟩:=CE (P:=P) (κ:=κ) (E:=s.E) (a:=a) (new:=s.next) hz h.rel (fun i _=>h.env i) hp
   refine dM h1 ?_
   exact hK _ _ _ κ' ((h.step h3 h4).put (κ':=κ') (w':=κ'.w) hd h2) hr
  ·exact hr.elim
 ·replace ht:=tF ht
  simp only[ku,g8] at hr
  split at hr
  ·rename_i v hv
   obtain⟨u,h1,h2⟩:=nc (P:=P) (κ:=κ) (E:=s.E) (a:=a) ht (fun i _=>h.env i) hv
   refine dM h1 ?_
   exact hK _ _ _ κ (h.put (κ':=κ) (w':=κ.w) hd h2) hr
  ·obtain⟨hnb,hall⟩:=hr
   obtain⟨b,h1⟩:=Gc (P:=P) (κ:=κ) (E:=s.E) (a:=a) ht (fun i _=>h.env i) hnb
   refine dM h1 ?_
   exact hK _ _ _ κ (h.put (κ':=κ) (w':=κ.w) hd (.pv _ _ (.bool b))) (hall b)
 ·simp only[ku,aK] at hr
  split at hr
  ·rename_i p hp
   obtain⟨x,u,κ',h1,h2,h3,h4,h5,_⟩:=lk (P:=P) hm h.rel h.size_le (fun _=>h.fresh s.next (UI _)) (fun i _=>h.env i) hp
   have hR:=(h.step h4 h5).put (κ':=κ') (w':=κ'.w) hd h3
   rcases h2 with rfl | ⟨rfl,rfl⟩
   ·exact dM h1 (hK _ _ _ κ' hR hr)
   ·exact sA h1 (hK _ _ _ κ' hR hr)
  ·exact hr.elim
 ·
   rcases oY P o.op with hb | ⟨af,xs,hce,hco⟩
   ·rw[hb] at hr;simp[iN,ku,AX.ev,dn,aK] at hr
   ·rw[hce] at hr
    ·simp only[ku,aK] at hr
     split at hr
     ·rename_i p hp
      obtain⟨vs,us,args,hvs,hus,hv1,hu1,hxs,hrun0⟩:=tB (P:=P) (κ:=κ) (E:=s.E) (a:=a) hco h.env hp
      obtain⟨hxl,hxr⟩:=fZ (κ:=κ) (E:=s.E) (a:=a) hxs (fun i _=>h.env i)
      have hmid:∀ (i:Nat) (x:AV),(xs.map (·.ev s.E))[i]? = some x->ARel κ x ((args.map a.eval).getD i Go.undef):=by
       intro i x hx
       rw[aA];simpa using hxr i x hx
      have hall:=cD (κ:=κ) (by simp[hvs];exact hxl) (cD (κ:=κ) hvs hv1 hmid) hu1
      simp only[Dp] at hr
      obtain⟨hcal,hC⟩:=rT (vals:=vs++args.map a.eval++us) h hr (by simp[hvs,hus];simpa using hxl) hall
      have hrun:=hrun0 hcal κ.w
      refine jB hrun (hC.mono ?_)
      rintro e w' ⟨u,v,s',κ',rfl,hR,hv,hk⟩
      exact hK _ _ _ κ' (hR.put (κ':=κ') (w':=w') hd hv) hk
     ·exact hr.elim
theorem d6 {muts:List Nat}{ops:Array Oper}{Q:Exit->Act->World->Prop}{F:St->Prop}(hQ:∀ s a w κ,Rel c κ0 N s a w κ->F s->Q .normal a w):∀ (l:List Oper) (aops:List AOper) (s:St) (a:Act) (w:World) (κ:Kap),
  D7 P muts N ops l=some aops->Rel c κ0 N s a w κ->dv P c.G aops F s->wpListIn (FR ro) nf P ops Q l a w
 | [],aops,s,a,w,κ,hc,h,hv=>by
   simp[D7] at hc;subst hc
   exact hQ s a w κ h hv
 | o::r,aops,s,a,w,κ,hc,h,hv=>by
   simp only[D7] at hc
   split at hc
   ·rename_i ao ar ho hr
    cases hc
    unfold xy at ho
    split at ho
    ·rename_i g op hg hop
     split at ho
     ·rename_i hd
      cases ho
      simp only[dv,aK] at hv
      split at hv
      ·rename_i b hb
       have hwant:=eU (ops:=ops) (o:=o) hg h.env hb
       refine wpListIn_step fun K hK=>?_
       rw[hwant]
       cases b with
       | true=>
         rw[if_pos rfl]
         exact lg hop h hd hv fun s a w κ hR hF=>hK _ _ (d6 hQ r ar s a w κ hr hR hF)
       | false=>
         rw[if_neg (by simp)]
         refine⟨fun _ _=>trivial,?_⟩
         exact hK _ _ (d6 hQ r ar _ _ w κ hr (h.put (κ':=κ) (w':=w) hd (.pv _ _ .undef)) hv)
      ·exact hv.elim
     ·cases ho
    ·cases ho
   ·cases hc
end
section
variable {β:Type}
def kD (g:Nat->β):List (Nat×β)->Nat->β
 | []=>g
 | p::r=>kD (fun x=>if x=p.1 then p.2 else g x) r
def aU (u:List (Nat×β)):List Nat:=u.map (·.1)
theorem gM {r:Nat}:∀ (u:List (Nat×β)) (g:Nat->β),r∉aU u->kD g u r=g r
 | [],g,_=>rfl
 | p::q,g,h=>by
   simp only[aU,UQ,UP,not_or] at h
   rw[kD,gM q _ h.2,if_neg h.1]
theorem mL {r:Nat}:∀ (u:List (Nat×β)) (g g':Nat->β),(r∈aU u\/g r=g' r)->kD g u r=kD g' u r
 | [],g,g',h=>by
   rcases h with h | h
   ·simp[aU] at h
   ·exact h
 | p::q,g,g',h=>by
   rw[kD,kD]
   refine mL q _ _ ?_
   by_cases hp:r=p.1
   ·right;simp[hp]
   ·rcases h with h | h
    ·simp only[aU,UQ,UP] at h
     exact .inl (h.resolve_left hp)
    ·right;simp[hp,h]
def bS (S:Nat->Bool):List (List (Nat×β))->Nat->(Nat->β)->Nat->β
 | [],_,g=>g
 | u::r,k,g=>bS S r (k+1) (if S k=true then kD g u else g)
theorem fy {S S':Nat->Bool}{r:Nat}:∀ (W:List (List (Nat×β))) (k:Nat) (g g':Nat->β),(∀ i u,W[i]? = some u->r∈aU u->S (k+i)=S' (k+i))->g r=g' r->bS S W k g r=bS S' W k g' r
 | [],k,g,g',_,h=>h
 | u::q,k,g,g',hs,h=>by
   rw[bS,bS]
   refine fy q (k+1) _ _ (fun i v hv hr=>?_) ?_
   ·have:=hs (i+1) v (by simpa using hv) hr
    rw[show k+1+i=k+(i+1) by omega];exact this
   ·by_cases hr:r∈aU u
    ·have:=hs 0 u (by simp) hr
     simp only[VA] at this
     rw[this]
     split
     ·exact mL u _ _ (.inl hr)
     ·exact h
    ·split<;>split<;>simp[gM u _ hr,h]
theorem pm {S:Nat->Bool}{r:Nat}:∀ (W:List (List (Nat×β))) (k i:Nat) (u:List (Nat×β)) (g g':Nat->β),W[i]? = some u->S (k+i)=true->r∈aU u->(∀ j v,i<j->W[j]? = some v->r∈aU v->S (k+j)=false) ->
  bS S W k g r=kD g' u r
 | [],k,i,u,g,g',h,_,_,_=>by simp at h
 | v::q,k,i,u,g,g',h,hS,hr,hl=>by
   rw[bS]
   cases i with
   | zero=>
     simp only[UW,Uu] at h
     subst h
     simp only[VA] at hS
     rw[if_pos hS]
     have hz:bS S q (k+1) (kD g v) r=bS (fun _=>false) q (k+1) (kD g v) r:=
      fy q (k+1) _ _ (fun j w hw hrw=>by
       have:=hl (j+1) w (by omega) (by simpa using hw) hrw
       rw[show k+1+j=k+(j+1) by omega];exact this) rfl
     have hno:∀ (W:List (List (Nat×β))) (k:Nat) (g:Nat->β),bS (fun _=>false) W k g=g:=by
      intro W
      induction W with
      | nil=>intros;rfl
      | cons a b ih=>intro k g;rw[bS];simpa using ih (k+1) g
     rw[hz,hno]
     exact mL v _ _ (.inl hr)
   | succ i=>
     exact pm q (k+1) i u _ g' (by simpa using h) (by rw[show k+1+i=k+(i+1) by omega];exact hS) hr (fun j w hj hw hrw=>by
      have:=hl (j+1) w (by omega) (by simpa using hw) hrw
      rw[show k+1+j=k+(j+1) by omega];exact this)
theorem pj {S S':Nat->Bool}{W:List (List (Nat×β))}{i:Nat}{u:List (Nat×β)}{g:Nat->β}(hi:W[i]? = some u)(h1:S' i=true)(h2:∀ j,j≠i->S' j=S j)
  (ho:∀ j v r,j≠i->W[j]? = some v->r∈aU v->r∈aU u->i<j->S j=false):bS S' W 0 g=kD (bS S W 0 g) u:=by
 funext r
 by_cases hr:r∈aU u
 ·refine pm W 0 i u g _ hi (by simpa using h1) hr (fun j v hj hv hrv=>?_)
  rw[UN,h2 j (by omega)]
  exact ho j v r (by omega) hv hrv hr hj
 ·rw[gM u _ hr]
  refine fy W 0 g g (fun j v hv hrv=>?_) rfl
  rw[UN]
  refine h2 j ?_
  rintro rfl
  rw[hi] at hv;cases hv
  exact hr hrv
theorem pk {S:Nat->Bool}{W:List (List (Nat×β))}{i r:Nat}{g:Nat->β}(hi:S i=false)(ho:∀ j v,j≠i->W[j]? = some v->r∈aU v->(j<i/\S j=true)\/(i<j/\S j=false)) :
  bS S W 0 g r=bS (fun j=>decide (j<i)) W 0 g r:=by
 refine fy W 0 g g (fun j v hv hrv=>?_) rfl
 rw[UN]
 by_cases hj:j=i
 ·subst hj;simp[hi]
 ·rcases ho j v hj hv hrv with ⟨h1,h2⟩ | ⟨h1,h2⟩
  ·simp[h1,h2]
  ·rw[h2];simp;omega
theorem mU (S:Nat->Bool):∀ (W:List (List (Nat×β))) (k:Nat) (g:Nat->β),(∀ i,i<W.length->S (k+i)=true)->bS S W k g=bS (fun _=>true) W k g
 | [],k,g,_=>rfl
 | v::q,k,g,h=>by
   have h0:=h 0 (by simp)
   rw[VA] at h0
   rw[bS,bS,if_pos h0,if_pos rfl]
   exact mU S q (k+1) _ (fun i hi=>by rw[show k+1+i=k+(i+1) by omega];exact h (i+1) (by simp;omega))
end
theorem ag {E E':Nat->AV}{x:AX}(h:∀ i∈x.slots,E i=E' i):x.ev E=x.ev E':=by
 cases x with
 | t i=>exact h i (by simp[AX.slots])
 | c p=>rfl
 | m i tb=>simp only[AX.ev];rw[h i (by simp[AX.slots])]
theorem gD {E E':Nat->AV}{xs:List AX}(h:∀ i∈xs.flatMap AX.slots,E i=E' i):xs.map (·.ev E)=xs.map (·.ev E'):=
 List.map_congr_left fun x hx=>ag fun i hi=>h i (List.mem_flatMap.2 ⟨x,hx,hi⟩)
theorem dV {E E':Nat->AV}{x:Option AX}(h:∀ i∈iv x,E i=E' i):x.map (·.ev E)=x.map (·.ev E'):=by
 cases x with
 | none=>rfl
 | some x=>simp only[Option.map_some];rw[ag (x:=x) (fun i hi=>h i (by simpa[iv] using hi))]
theorem TOp.run_congr {E E':Nat->AV}{o:TOp}(h:∀ i∈o.slots,E i=E' i):o.run E=o.run E':=by
 cases o<;>simp only[TOp.run,TOp.slots,UY] at h ⊢
 case mv x=>rw[ag h]
 case pick c a b=>rw[ag (x:=c) (fun i hi=>h i (.inl (.inl hi))),ag (x:=a) (fun i hi=>h i (.inl (.inr hi))),ag (x:=b) (fun i hi=>h i (.inr hi))]
 case build zs ps=>
  have:(ps.map fun p=>(p.1,p.2.1,p.2.2.ev E))=ps.map fun p=>(p.1,p.2.1,p.2.2.ev E'):=
   List.map_congr_left fun p hp=>by rw[ag (x:=p.2.2) (fun i hi=>h i (List.mem_flatMap.2 ⟨p,hp,hi⟩))]
  rw[this]
 case faddr off x=>rw[ag h]
 case field g sz off x=>rw[ag h]
 case len st x=>rw[ag h]
 case neg x=>rw[ag h]
 case not x=>rw[ag h]
 case compl x=>rw[ag h]
 case conv k x=>rw[ag h]
 case convS x=>rw[ag h]
 case convIS x=>rw[ag h]
 case ext x i=>rw[ag h]
 case nilck x=>rw[ag h]
 case sliceL sz x l hh=>rw[ag (x:=x) (fun i hi=>h i (.inl (.inl hi))),dV (x:=l) (fun i hi=>h i (.inl (.inr hi))),dV (x:=hh) (fun i hi=>h i (.inr hi))]
 case sliceS x l hh=>rw[ag (x:=x) (fun i hi=>h i (.inl (.inl hi))),dV (x:=l) (fun i hi=>h i (.inl (.inr hi))),dV (x:=hh) (fun i hi=>h i (.inr hi))]
 case clo f fs cs=>rw[gD (xs:=fs) (fun i hi=>h i (.inl hi)),gD (xs:=cs) (fun i hi=>h i (.inr hi))]
 all_goals
  rename_i x y
  rw[ag (x:=x) (fun i hi=>h i (.inl hi)),ag (x:=y) (fun i hi=>h i (.inr hi))]
def AV.name:AV->List Nat
 | .ptr r _=>[r]
 | .row r _ _ _=>[r]
 | .olist r _ _=>[r]
 | .mp r=>[r]
 | _=>[]
def XOp.reads (E:Nat->AV):XOp->List Nat
 | .cap _ x=>(x.ev E).name
 | .resl _ x _=>(x.ev E).name
 | .copy _ x y | .apart x y=>(x.ev E).name++(y.ev E).name
 | .appz _ _ _ _ x _=>(x.ev E).name
 | .ucast _ _ _ x | .apps _ _ x _ | .ustr _ x _ | .same x | .mlen x=>(x.ev E).name
 | .noesc _ | .peq _ _ _ | .anyc | .sdata _ | .ofStr _ | .fnil _ _ _ | .inil _ _ _ | .idxb _ _ | .mki _ _ | .mkmap | .bslf _ _ _=>[]
 | .mlook _ _ _ x _ | .mset _ x _ _=>(x.ev E).name
def MOp.reads (E:Nat->AV):MOp->List Nat
 | .load _ _ x | .sliceA _ _ x _ _ | .clear _ _ x | .toStr x=>(x.ev E).name
 | .store _ x _=>(x.ev E).name
 | .append _ _ _ _ x y=>(x.ev E).name++(y.ev E).name
 | .xop o=>o.reads E
 | _=>[]
theorem ez {σ σ':aq}{sz:Nat}{y:AV}(h:∀ r∈y.name,σ r=σ' r):be σ sz y=be σ' sz y:=by
 cases y with
 | row r s off len=>simp only[be,h r (by simp[AV.name])]
 | pv p=>cases p<;>rfl
 | _=>rfl
theorem uA {σ σ':aq}{sz:Nat}{y:AV}(h:∀ r∈y.name,σ r=σ' r):xN sz σ y=xN sz σ' y:=by
 cases y with
 | row r s off len=>simp only[xN,h r (by simp[AV.name])]
 | _=>simp only[xN];rw[ez h]
theorem XOp.reads_congr {E E':Nat->AV}{o:XOp}(h:∀ i∈o.slots,E i=E' i):o.reads E=o.reads E':=by
 cases o<;>simp only[XOp.slots,XOp.reads,UY] at h ⊢
 case cap sz x=>rw[ag h]
 case resl sz x y=>rw[ag (x:=x) (fun i hi=>h i (.inl hi))]
 case copy sz x y=>rw[ag (x:=x) (fun i hi=>h i (.inl hi)),ag (x:=y) (fun i hi=>h i (.inr hi))]
 case apart x y=>rw[ag (x:=x) (fun i hi=>h i (.inl hi)),ag (x:=y) (fun i hi=>h i (.inr hi))]
 case appz e sz b zs x y=>rw[ag (x:=x) (fun i hi=>h i (.inl hi))]
 case ucast u n b x=>rw[ag h]
 case same x=>rw[ag h]
 case mlen x=>rw[ag h]
 case apps e b x y=>rw[ag (x:=x) (fun i hi=>h i (.inl hi))]
 case ustr e x y=>rw[ag (x:=x) (fun i hi=>h i (.inl hi))]
 case mlook kd co z x k=>rw[ag (x:=x) (fun i hi=>h i (.inl hi))]
 case mset kd x k v=>rw[ag (x:=x) (fun i hi=>h i (.inl hi))]
theorem XOp.run_congr {new:Nat}{E E':Nat->AV}{σ σ':aq}{o:XOp}(h:∀ i∈o.slots,E i=E' i)(hr:∀ r∈o.reads E,σ r=σ' r):o.run new E σ=o.run new E' σ':=by
 cases o<;>simp only[XOp.run,XOp.slots,XOp.reads,UY] at h hr ⊢
 case cap sz x=>
  rw[<- ag (x:=x) h]
  congr 1
  cases hx:x.ev E with
  | row r s off len=>simp only[Fx];rw[hr r (by simp[hx,AV.name])]
  | _=>rfl
 case resl sz x y=>
  rw[<- ag (x:=x) (fun i hi=>h i (.inl hi)),<- ag (x:=y) (fun i hi=>h i (.inr hi))]
  congr 1
  cases hx:x.ev E with
  | row r s off len=>
    cases y.ev E with
    | pv p=>cases p<;>simp only[l7];rw[hr r (by simp[hx,AV.name])]
    | _=>rfl
  | _=>rfl
 case copy sz x y=>
  rw[<- ag (x:=x) (fun i hi=>h i (.inl hi)),<- ag (x:=y) (fun i hi=>h i (.inr hi))]
  cases hx:x.ev E with
  | row r s off len=>simp only[nI];rw[hr r (.inl (by simp[hx,AV.name])),uA (fun q hq=>hr q (.inr hq))]
  | _=>rfl
 case apart x y=>
  rw[<- ag (x:=x) (fun i hi=>h i (.inl hi)),<- ag (x:=y) (fun i hi=>h i (.inr hi))]
  congr 1
  cases hx:x.ev E with
  | olist r s l=>
    cases hy:y.ev E with
    | row q s off len=>simp only[gr];rw[hr r (.inl (by simp[hx,AV.name])),hr q (.inr (by simp[hy,AV.name]))]
    | _=>rfl
  | _=>rfl
 case appz e sz b zs x y=>
  rw[<- ag (x:=x) (fun i hi=>h i (.inl hi)),<- ag (x:=y) (fun i hi=>h i (.inr hi))]
  cases hx:x.ev E with
  | row r s off len=>
    cases y.ev E with
    | pv p=>cases p<;>simp only[nK];rw[hr r (by simp[hx,AV.name])]
    | _=>rfl
  | _=>rfl
 case mlook kd co z x k=>
  rw[<- ag (x:=x) (fun i hi=>h i (.inl hi)),<- ag (x:=k) (fun i hi=>h i (.inr hi))]
  congr 1
  cases hx:x.ev E with
  | mp r=>
    cases hk:k.ev E with
    | pv p=>simp only[ma];rw[hr r (by simp[hx,AV.name])]
    | _=>rfl
  | _=>rfl
 case mset kd x k v=>
  rw[<- ag (x:=x) (fun i hi=>h i (.inl hi)),<- ag (x:=k) (fun i hi=>h i (.inr (.inl hi))),<- ag (x:=v) (fun i hi=>h i (.inr (.inr hi)))]
  congr 1
  cases hx:x.ev E with
  | mp r=>
    cases hk:k.ev E with
    | pv p=>simp only[l8];rw[hr r (by simp[hx,AV.name])]
    | _=>rfl
  | _=>rfl
 case bslf sz len xs=>
  have e:xs.map (·.ev E)=xs.map (·.ev E'):=List.map_congr_left fun x hx=>ag fun i hi=>h i (by simp only[List.mem_flatMap];exact⟨x,hx,hi⟩)
  rw[e]
 case noesc x=>rw[ag h]
 case mlen x=>
  rw[<- ag (x:=x) h]
  congr 1
  cases hx:x.ev E with
  | mp r=>simp only[l9];rw[hr r (by simp[hx,AV.name])]
  | _=>rfl
 case same x=>
  rw[<- ag (x:=x) h]
  cases hx:x.ev E with
  | olist r s l=>
    cases l with
    | nil=>rfl
    | cons y l=>simp only[qc];rw[hr r (by simp[hx,AV.name])]
  | _=>rfl
 case peq ng x y=>rw[<- ag (x:=x) (fun i hi=>h i (.inl hi)),<- ag (x:=y) (fun i hi=>h i (.inr hi))]
 case sdata x=>rw[ag h]
 case mki T x=>rw[ag h]
 case ofStr x=>rw[ag h]
 case inil ng x y=>rw[<- ag (x:=x) (fun i hi=>h i (.inl hi)),<- ag (x:=y) (fun i hi=>h i (.inr hi))]
 case idxb x y=>rw[<- ag (x:=x) (fun i hi=>h i (.inl hi)),<- ag (x:=y) (fun i hi=>h i (.inr hi))]
 case fnil ng x y=>rw[<- ag (x:=x) (fun i hi=>h i (.inl hi)),<- ag (x:=y) (fun i hi=>h i (.inr hi))]
 case ucast u n b x=>
  rw[<- ag (x:=x) h]
  congr 1
  cases hx:x.ev E with
  | ptr r o=>simp only[eY];rw[hr r (by simp[hx,AV.name])]
  | _=>rfl
 case apps e b x y=>
  rw[<- ag (x:=x) (fun i hi=>h i (.inl hi)),<- ag (x:=y) (fun i hi=>h i (.inr hi))]
  have key:∀ ys,I5 e 1 b new σ (x.ev E) ys=I5 e 1 b new σ' (x.ev E) ys:=by
   intro ys
   cases hx:x.ev E with
   | row r s off len=>simp only[I5];rw[hr r (by simp[hx,AV.name])]
   | pv p=>cases p<;>rfl
   | _=>rfl
  cases y.ev E with
  | pv q=>cases q<;>first | rfl | exact key _
  | _=>rfl
 case ustr e x y=>
  rw[<- ag (x:=x) (fun i hi=>h i (.inl hi)),<- ag (x:=y) (fun i hi=>h i (.inr hi))]
  cases hx:x.ev E with
  | ptr r o=>
    cases y.ev E with
    | pv p=>
      cases p with
      | int k n=>cases k<;>simp only[nC];rw[hr r (by simp[hx,AV.name])]
      | _=>rfl
    | _=>rfl
  | pv p=>
    cases y.ev E with
    | pv q=>
      cases p with
      | nilp=>
        cases q with
        | int k n=>cases k<;>rfl
        | _=>rfl
      | _=>rfl
    | _=>cases p<;>rfl
  | _=>rfl
theorem MOp.run_congr {G:Nat->List PV}{new:Nat}{E E':Nat->AV}{σ σ':aq}{o:MOp}(h:∀ i∈o.slots,E i=E' i)(hr:∀ r∈o.reads E,σ r=σ' r):o.run G new E σ=o.run G new E' σ':=by
 cases o<;>simp only[MOp.run,MOp.slots,MOp.reads,UY] at h hr ⊢
 case box T x=>rw[ag h]
 case xop o=>exact XOp.run_congr h hr
 case cbox T x=>rw[ag h]
 case load g sz x=>
  rw[<- ag (x:=x) h]
  congr 1
  cases hx:x.ev E with
  | ptr r o=>simp only[ef];rw[hr r (by simp[hx,AV.name])]
  | pv p=>cases p<;>rfl
  | _=>rfl
 case store sz x v=>
  rw[<- ag (x:=x) (fun i hi=>h i (.inl hi)),<- ag (x:=v) (fun i hi=>h i (.inr hi))]
  congr 1
  cases hx:x.ev E with
  | ptr r o=>simp only[gj];rw[hr r (by simp[hx,AV.name])]
  | _=>rfl
 case toStr x=>
  rw[<- ag (x:=x) h]
  unfold eI
  rw[ez (fun r hrr=>hr r hrr)]
 case bslice mu e sz len xs=>rw[gD h]
 case append mu e sz by_ x y=>
  rw[<- ag (x:=x) (fun i hi=>h i (.inl hi)),<- ag (x:=y) (fun i hi=>h i (.inr hi))]
  unfold dE
  rw[ez (fun r hrr=>hr r (.inr hrr))]
  cases be σ' sz (y.ev E) with
  | none=>rfl
  | some ys=>
    simp only
    cases hx:x.ev E with
    | olist r s l=>cases mu<;>simp only[hr r (.inl (by simp[hx,AV.name]))]
    | row r s off len=>cases mu<;>simp only[hr r (.inl (by simp[hx,AV.name]))]
    | pv p=>cases p<;>cases mu<;>rfl
    | _=>cases mu<;>rfl
 case mk mu e sz by_ zs x y=>rw[<- ag (x:=x) (fun i hi=>h i (.inl hi)),<- ag (x:=y) (fun i hi=>h i (.inr hi))]
 case clear sz zs x=>
  rw[<- ag (x:=x) h]
  congr 1
  cases hx:x.ev E with
  | row r s off len=>simp only[gq];rw[hr r (by simp[hx,AV.name])]
  | _=>rfl
 case sliceA n sz x l hh=>
  rw[<- ag (x:=x) (fun i hi=>h i (.inl (.inl hi))),dV (x:=l) (fun i hi=>h i (.inl (.inr hi))),dV (x:=hh) (fun i hi=>h i (.inr hi))]
  cases hx:x.ev E with
  | ptr r o=>simp only;rw[hr r (by simp[hx,AV.name])]
  | _=>rfl
def AOp.slots:AOp->List Nat
 | .t o=>o.slots
 | .m o=>o.slots
 | .call f xs=>f.slots++xs.flatMap AX.slots
 | .fz _ x=>x.slots
def AOper.slots (o:AOper):List Nat:=
 (match o.guard with
  | some (i,_)=>[i]
  | none=>[])++o.op.slots
def aQ (o:Oper):List Nat:=(o.after.toList.filter (Region.binds .any)).map (·.on)
def Tm (x:Nat)(d:List Nat):List Nat:=match d.contains x with
 | true=>d
 | false=>x::d
def IX:List Nat->List Nat
 | []=>[]
 | x::r=>Tm x (IX r)
theorem iX {x:Nat}:∀ {l:List Nat},x∈IX l↔x∈l
 | []=>by simp[IX]
 | y::r=>by
   simp only[IX,Tm]
   split
   ·rename_i h
    rw[iX,UP]
    refine⟨.inr,fun h'=>h'.elim (fun e=>?_) id⟩
    subst e
    exact iX.1 (by simpa using h)
   ·rw[UP,UP,iX]
def aR:List (List Nat)->List (List Nat)->List (List Nat)
 | [],acc=>acc
 | d::r,acc=>aR r (acc++[IX (d++d.flatMap fun j=>acc.getD j [])])
def D3 (A:List (List Nat))(i j:Nat):Bool:=
 if i<j then (A.getD j []).contains i else (A.getD i []).contains j
def OR (a b:List Nat):Bool:=a.any fun x=>b.contains x
def okB (A:List (List Nat))(l:List (List Nat×List Nat)):Bool:=
 (l.zipIdx).all fun p=>(l.zipIdx).all fun q=>p.2 == q.2||!(OR p.1.1 (q.1.2++q.1.1))||D3 A p.2 q.2
def ji (ops:List AOper):List (List Nat×List Nat):=ops.map fun o=>(o.dst.toList,o.slots)
def CV (ops:List Oper)(aops:List AOper)(k:Nat):Bool:=
 let ds:=ops.map aQ
 okB (aR ds []) (ji (aops.take k))&&((ds.zipIdx).all fun p=>p.1.all fun j=>decide (j<p.2)) &&
  (U1 ops.length).all fun i=>decide (i<k)||(U1 i).all fun j=>((aR ds []).getD i []).contains j
def Cf (A:List (List Nat)):Nat->Nat
 | 0=>0
 | n+1=>if (U1 n).all (fun j=>(A.getD n []).contains j)=true then Cf A n else n+1
def kH (md:Region.Mode)(ops:Array Oper):List (List Nat):=ops.toList.map fun o=>(o.after.toList.filter (Region.binds md)).map (·.on)
def Q4 (x:Nat):List Nat->Nat
 | []=>0
 | y::r=>if y=x then 0 else Q4 x r+1
def FS:List (Nat×List Nat)->List Nat->List (Nat×List Nat)×List Nat
 | [],d=>([],d)
 | p::r,d=>if p.2.all (fun j=>d.contains j)=true then FS r (d++[p.1]) else ((p::(FS r d).1),(FS r d).2)
def JA:Nat->List (Nat×List Nat)->List Nat->List Nat
 | 0,_,d=>d
 | n+1,ps,d=>match FS ps d with
   | ([],d')=>d'
   | (q,d')=>JA n q d'
def sn (md:Region.Mode)(ops:Array Oper):Bool:=
 let ps:=(kH md ops).zipIdx.map fun p=>(p.2,p.1)
 let L:=JA ps.length ps []
 ps.all fun p=>p.2.all fun j=>decide (j<ps.length)&&decide (Q4 j L<Q4 p.1 L)
def qG (ops:Array Oper):Bool:=!(Region.departs ops)||(sn .text ops&&sn .gc ops)
def PZ (P:Program)(G:Nat->List PV)(args:List AV)(K:PV->Prop)(p:Nat×List AV×List AV):Prop:=
 ∃ ps r,pvs (p.2.1++args++p.2.2)=some ps/\ap P G p.1 ps r/\K r
def eG (mk:Nat)(ks rs:List Nat):List Nat×List Nat:=((if mk=2 then [0] else [])++ks.map (· + 1),(if mk=1 then [0] else [])++rs.map (· + 1))
def aY (o:MOp):Nat:=if o.makes=true then 1 else 0
def gK (P:Program)(G:Nat->List PV)(F:List (List Nat×List Nat)->St->Prop)(T:List (List Nat×List Nat))(s:St)(d:Option Nat)(args:List AV)(p:Nat×List AV×List AV):Prop:=
 PZ P G args (fun r=>F (T++[([],[])]) (s.put d (.pv r))) p \/
 ∃ v δ top,bW P G p.1 (p.2.1++args++p.2.2) s.sto s.next (fun v' sto' n'=>v'=v/\sto'=je s.sto δ/\n'=top)/\s.next<=top/\F (T++[eG 2 (aU δ) (s.sto.map (·.1))]) ((⟨s.env,je s.sto δ,top⟩:St).put d v)
def zb (F:List (List Nat×List Nat)->St->Prop)(T:List (List Nat×List Nat))(s:St)(d:Option Nat)(v:AV):Prop:=F (T++[([],[])]) (s.put d v)
def zc (F:List (List Nat×List Nat)->St->Prop)(T:List (List Nat×List Nat))(s:St)(d:Option Nat)(mk:Nat)(rd:List Nat)(p:AV×List (Nat×Blk)):Prop:=F (T++[eG mk (aU p.2) rd]) ((s.mem p.2).put d p.1)
def gG (P:Program)(G:Nat->List PV)(F:List (List Nat×List Nat)->St->Prop)(T:List (List Nat×List Nat))(s:St)(d:Option Nat):AOp->Prop
 | .t o=>aK (o.run s.E) (zb F T s d)
 | .m o=>aK (o.run G s.next s.E s.σ) (zc F T s d (aY o) (o.reads s.E))
 | .call f xs=>aK (dn (f.ev s.E)) (gK P G F T s d (xs.map (·.ev s.E)))
 | .fz _ _=>False
def oM (P:Program)(G:Nat->List PV)(F:List (List Nat×List Nat)->St->Prop)(T:List (List Nat×List Nat))(s:St)(d:Option Nat)(o:AOp)(b:Bool):Prop:=
 match b with
 | true=>gG P G F T s d o
 | false=>F (T++[([],[])]) (s.put d (.pv .undef))
def vcD (P:Program)(G:Nat->List PV)(A:List (List Nat))(F:St->Prop):List AOper->List (List Nat×List Nat)->St->Prop
 | [],T,s=>okB A T=true/\F s
 | o::r,T,s=>aK (bZ s o.guard) (oM P G (vcD P G A F r) T s o.dst o.op)
structure Ent where
 dst:Option Nat
 v:AV
 δ:List (Nat×Blk)
 reads:List Nat
 isM:Bool
 new:Nat
 top:Nat
 kd:Nat
def Ent.env (e:Ent):List (Nat×AV):=
 match e.dst with
 | some d=>[(d,e.v)]
 | none=>[]
def mV (P:Program)(G:Nat->List PV)(E:Nat->AV)(σ:aq)(wt:Option Bool)(op:AOp)(e:Ent):Prop:=
 (wt=some false/\e.v = .pv .undef/\e.δ=[]/\e.reads=[]/\e.isM=false/\e.kd=0) \/
 (wt=some true/\match op with
  | .t o=>o.run E=some e.v/\e.δ=[]/\e.reads=[]/\e.isM=false/\e.kd=0
  | .m o=>o.run G e.new E σ=some (e.v,e.δ)/\e.reads=o.reads E/\e.isM=true/\e.top=e.new+1/\e.kd=aY o
  | .call f xs=>∃ p,dn (f.ev E)=some p /\
    ((∃ ps r,pvs (p.2.1++xs.map (·.ev E)++p.2.2)=some ps/\ap P G p.1 ps r/\e.v = .pv r/\e.δ=[]/\e.reads=[]/\e.isM=false/\e.kd=0) \/
     (∃ sto,(fun r=>lookB r sto)=σ/\bW P G p.1 (p.2.1++xs.map (·.ev E)++p.2.2) sto e.new (fun v' sto' n'=>v'=e.v/\(fun r=>lookB r sto')=σ.upd e.δ/\n'=e.top)/\e.new<=e.top/\e.isM=true/\e.kd=2/\∀ r,σ r≠.none->r∈e.reads))
  | .fz _ _=>False)
def gu (s:St)(e:Ent):St:=if e.isM=true then (⟨s.env,je s.sto e.δ,e.top⟩:St).put e.dst e.v else s.put e.dst e.v
def Tr (P:Program)(G:Nat->List PV):List AOper->St->List Ent->St->Prop
 | [],s,[],s'=>s'=s
 | o::r,s,e::T,s'=>e.dst=o.dst/\e.new=s.next/\mV P G s.E s.σ (bZ s o.guard) o.op e/\Tr P G r (gu s e) T s'
 | _,_,_,_=>False
theorem oi {r:Nat}:∀ {l:List (Nat×Blk)},lookB r l≠.none->r∈l.map (·.1)
 | [],h=>by simp[lookB] at h
 | p::q,h=>by
   simp only[lookB] at h
   by_cases hp:p.1=r
   ·simp[hp]
   ·rw[if_neg hp] at h
    have:=oi h
    simp only[UQ,UP];exact .inr this
theorem kJ {P:Program}{G:Nat->List PV}{A:List (List Nat)}{F:St->Prop}:∀ (ops:List AOper) (T0:List (List Nat×List Nat)) (s:St),vcD P G A F ops T0 s ->
  ∃ T s',Tr P G ops s T s'/\okB A (T0++T.map fun e=>eG e.kd (aU e.δ) e.reads)=true/\F s'
 | [],T0,s,h=>⟨[],s,rfl,by simpa using h.1,h.2⟩
 | o::r,T0,s,h=>by
   simp only[vcD,aK] at h
   split at h
   ·rename_i b hb
    cases b with
    | false=>
      simp only[oM] at h
      obtain⟨T,s',h1,h2,h3⟩:=kJ r _ _ h
      exact⟨⟨o.dst,.pv .undef,[],[],false,s.next,s.next,0⟩::T,s',⟨rfl,rfl,.inl ⟨hb,rfl,rfl,rfl,rfl,rfl⟩,h1⟩,by simpa[aU,eG] using h2,h3⟩
    | true=>
      simp only[oM] at h
      cases hop:o.op with
      | t op=>
        rw[hop] at h
        simp only[gG,aK] at h
        split at h
        ·rename_i v hv
         obtain⟨T,s',h1,h2,h3⟩:=kJ r _ _ h
         exact⟨⟨o.dst,v,[],[],false,s.next,s.next,0⟩::T,s',⟨rfl,rfl,.inr ⟨hb,by rw[hop];exact⟨hv,rfl,rfl,rfl,rfl⟩⟩,h1⟩,by simpa[aU,eG] using h2,h3⟩
        ·exact h.elim
      | m op=>
        rw[hop] at h
        simp only[gG,aK] at h
        split at h
        ·rename_i p hp
         obtain⟨T,s',h1,h2,h3⟩:=kJ r _ _ h
         exact⟨⟨o.dst,p.1,p.2,op.reads s.E,true,s.next,s.next+1,aY op⟩::T,s',⟨rfl,rfl,.inr ⟨hb,by rw[hop];exact⟨hp,rfl,rfl,rfl,rfl⟩⟩,h1⟩,by simpa using h2,h3⟩
        ·exact h.elim
      | call f xs=>
        rw[hop] at h
        simp only[gG,aK] at h
        split at h
        ·rename_i p hp
         rcases h with ⟨ps,q,hps,hP,hk⟩ | ⟨v,δ,top,hT,htop,hk⟩
         ·obtain⟨T,s',h1,h2,h3⟩:=kJ r _ _ hk
          exact⟨⟨o.dst,.pv q,[],[],false,s.next,s.next,0⟩::T,s',⟨rfl,rfl,.inr ⟨hb,by rw[hop];exact⟨p,hp,.inl ⟨ps,q,hps,hP,rfl,rfl,rfl,rfl,rfl⟩⟩⟩,h1⟩,by simpa[aU,eG] using h2,h3⟩
         ·obtain⟨T,s',h1,h2,h3⟩:=kJ r _ _ hk
          refine⟨⟨o.dst,v,δ,s.sto.map (·.1),true,s.next,top,2⟩::T,s',⟨rfl,rfl,.inr ⟨hb,by
           rw[hop]
           refine⟨p,hp,.inr ⟨s.sto,rfl,?_,htop,rfl,rfl,fun r hr=>oi hr⟩⟩
           obtain⟨t1,t2⟩:=hT
           refine⟨t1,fun κ vals a1 a2 a3 a4=>(t2 κ vals a1 a2 a3 a4).mono ?_⟩
           rintro e w' ⟨u,v',κ',sto',next',b1,b2,b3,b4,b5,b6,b7,rfl,rfl,rfl⟩
           exact⟨u,_,κ',_,_,b1,b2,b3,b4,b5,b6,b7,rfl,by funext r;exact gv δ s.sto r,rfl⟩⟩,h1⟩,by simpa using h2,h3⟩
        ·exact h.elim
      | fz g x=>
        rw[hop] at h
        exact h.elim
   ·exact h.elim
theorem Oz (s:St)(d:Option Nat)(v:AV):(s.put d v).E=kD s.E (match d with | some d=>[(d,v)] | none=>[]):=by
 cases d with
 | none=>rfl
 | some d=>
   funext i
   simp only[St.put,St.E,look,kD]
   by_cases h:i=d
   ·simp[h]
   ·rw[if_neg (fun e=>h e.symm),if_neg h]
theorem d7 (σ:aq)(δ:List (Nat×Blk)):aq.upd σ δ=kD σ δ:=by
 induction δ generalizing σ with
 | nil=>rfl
 | cons p q ih=>rw[aq.upd,kD,ih];rfl
theorem sD (s:St)(e:Ent):(gu s e).E=kD s.E e.env:=by
 unfold gu Ent.env
 split
 ·rw[Oz];rfl
 ·rw[Oz]
theorem Bg (s:St)(δ:List (Nat×Blk))(n:Nat):(⟨s.env,je s.sto δ,n⟩:St).σ=aq.upd s.σ δ:=by
 funext r;exact gv δ s.sto r
theorem sC (s:St)(e:Ent)(h:e.isM=false->e.δ=[]):(gu s e).σ=kD s.σ e.δ:=by
 have hp:∀ (s:St) (d:Option Nat) (v:AV),(s.put d v).σ=s.σ:=by intro s d v;cases d<;>rfl
 unfold gu
 split
 ·rw[hp]
  rw[Bg,d7]
 ·rename_i hm
  rw[hp,h (by simpa using hm)];rfl
theorem mV.noM {P:Program}{G:Nat->List PV}{E:Nat->AV}{σ:aq}{wt:Option Bool}{op:AOp}{e:Ent}(h:mV P G E σ wt op e):e.isM=false->e.δ=[]:=by
 intro hm
 rcases h with ⟨_,_,h,_⟩ | ⟨_,h⟩
 ·exact h
 ·cases op with
  | t o=>exact h.2.1
  | m o=>rw[h.2.2.1] at hm;cases hm
  | call f xs=>
    obtain⟨p,_,⟨ps,r,_,_,_,h,_⟩ | ⟨sto,_,_,_,h,_⟩⟩:=h
    ·exact h
    ·rw[hm] at h;cases h
  | fz g x=>exact h.elim
theorem mV.tops {P:Program}{G:Nat->List PV}{E:Nat->AV}{σ:aq}{wt:Option Bool}{op:AOp}{e:Ent}(h:mV P G E σ wt op e):(e.isM=true->e.new<=e.top)/\(e.kd≠0->e.isM=true)/\(e.kd=1->e.top=e.new+1):=by
 rcases h with ⟨_,_,_,_,h1,h2⟩ | ⟨_,h⟩
 ·exact⟨fun h=>(by rw[h1] at h;cases h),fun h=>absurd h2 h,fun h=>(by rw[h2] at h;cases h)⟩
 ·cases op with
  | t o=>
    obtain⟨_,_,_,h1,h2⟩:=h
    exact⟨fun h=>(by rw[h1] at h;cases h),fun h=>absurd h2 h,fun h=>(by rw[h2] at h;cases h)⟩
  | m o=>
    obtain⟨_,_,h1,h2,_⟩:=h
    exact⟨fun _=>by omega,fun _=>h1,fun _=>h2⟩
  | call f xs=>
    obtain⟨p,_,⟨ps,r,_,_,_,_,_,h1,h2⟩ | ⟨sto,_,_,h0,h1,h2,_⟩⟩:=h
    ·exact⟨fun h=>(by rw[h1] at h;cases h),fun h=>absurd h2 h,fun h=>(by rw[h2] at h;cases h)⟩
    ·exact⟨fun _=>h0,fun _=>h1,fun h=>(by rw[h2] at h;cases h)⟩
  | fz g x=>exact h.elim
theorem QB {P:Program}{G:Nat->List PV}:∀ (ops:List AOper) (s:St) (T:List Ent) (s':St),Tr P G ops s T s' ->
  ops.length=T.length/\s'.E=bS (fun _=>true) (T.map Ent.env) 0 s.E/\s'.σ=bS (fun _=>true) (T.map (·.δ)) 0 s.σ/\s.next<=s'.next /\
  (∀ (i:Nat) (e:Ent),T[i]? = some e->e.isM=true->s.next<=e.new/\e.top<=s'.next) /\
  (∀ (i j:Nat) (e e':Ent),i<j->T[i]? = some e->T[j]? = some e'->e.isM=true->e'.isM=true->e.top<=e'.new) /\
  ∀ (i:Nat) (e:Ent),T[i]? = some e->∃ o,ops[i]? = some o/\e.dst=o.dst/\∃ si:St,si.E=bS (fun j=>decide (j<i)) (T.map Ent.env) 0 s.E/\si.σ=bS (fun j=>decide (j<i)) (T.map (·.δ)) 0 s.σ /\
    mV P G si.E si.σ (bZ si o.guard) o.op e
 | [],s,[],s',h=>by
   have h:s'=s:=h
   subst h
   exact⟨rfl,rfl,rfl,UI _,by simp,by simp,by simp⟩
 | o::r,s,e::T,s',h=>by
   obtain⟨hd,hn,hst,hr⟩:=h
   obtain⟨h1,h2,h3,h4,h5,h6,h7⟩:=QB r (gu s e) T s' hr
   have hnx:(gu s e).next=if e.isM=true then e.top else s.next:=by
    have hp:∀ (s:St) (d:Option Nat) (v:AV),(s.put d v).next=s.next:=by intro s d v;cases d<;>rfl
    unfold gu
    split
    ·rw[hp]
    ·rw[hp]
   have htp:=hst.tops.1
   have hle:s.next<=(gu s e).next:=by
    rw[hnx]
    split
    ·have:=htp ‹_›;omega
    ·exact UI _
   have shift:∀ {β:Type} (S:Nat->Bool) (W:List (List (Nat×β))) (k:Nat) (g:Nat->β),bS (fun j=>S (j+1)) W k g=bS S W (k+1) g:=by
    intro β S W
    induction W with
    | nil=>intros;rfl
    | cons a b ih=>intro k g;simp only[bS];exact ih (k+1) _
   refine⟨by simp[h1],?_,?_,by omega,?_,?_,?_⟩
   ·rw[h2,sD]
    simp only[UQ,bS,if_true]
    rw[<- shift]
   ·rw[h3,sC s e hst.noM]
    simp only[UQ,bS,if_true]
    rw[<- shift]
   ·intro i e' hi hm
    cases i with
    | zero=>
      simp only[UW,Uu] at hi
      subst hi
      rw[if_pos hm] at hnx
      omega
    | succ i=>
      have:=h5 i e' (by simpa using hi) hm
      omega
   ·intro i j e1 e2 hij hi hj hm1 hm2
    cases j with
    | zero=>omega
    | succ j=>
      cases i with
      | zero=>
        simp only[UW,Uu] at hi
        subst hi
        have:=(h5 j e2 (by simpa using hj) hm2).1
        rw[if_pos hm1] at hnx
        omega
      | succ i=>exact h6 i j e1 e2 (by omega) (by simpa using hi) (by simpa using hj) hm1 hm2
   ·intro i e' hi
    cases i with
    | zero=>
      simp only[UW,Uu] at hi
      subst hi
      have hno:∀ {β:Type} (W:List (List (Nat×β))) (k:Nat) (g:Nat->β),bS (fun j=>decide (j<0)) W k g=g:=by
       intro β W
       induction W with
       | nil=>intros;rfl
       | cons a b ih=>intro k g;rw[bS];simpa using ih (k+1) g
      exact⟨o,rfl,hd,s,(hno _ _ _).symm,(hno _ _ _).symm,hst⟩
    | succ i=>
      obtain⟨o',ho',hd',si,k1,k2,k3⟩:=h7 i e' (by simpa using hi)
      refine⟨o',by simpa using ho',hd',si,?_,?_,k3⟩
      ·rw[k1,sD]
       simp only[UQ,bS,Nat.zero_lt_succ,decide_true,if_true]
       rw[<- shift]
       simp
      ·rw[k2,sC s e hst.noM]
       simp only[UQ,bS,Nat.zero_lt_succ,decide_true,if_true]
       rw[<- shift]
       simp
 | [],s,e::T,s',h=>h.elim
 | o::r,s,[],s',h=>h.elim
theorem lf {A:List (List Nat)}{L:List (List Nat×List Nat)}(h:okB A L=true){i j x:Nat}{p q:List Nat×List Nat}(hj:L[j]? = some p)(hi:L[i]? = some q)(hne:j≠i)(hx:x∈p.1)(hy:x∈q.2\/x∈q.1):D3 A j i=true:=by
 have h1:=(UD.1 h) (p,j) (Us (i:=j) (by simp[List.getElem?_zipIdx,hj]))
 have h2:=(UD.1 h1) (q,i) (Us (i:=i) (by simp[List.getElem?_zipIdx,hi]))
 simp only[Bool.or_eq_true,beq_iff_eq,Bool.not_eq_true'] at h2
 rcases h2 with (h2 | h2) | h2
 ·exact absurd h2 hne
 ·exfalso
  have:OR p.1 (q.2++q.1)=true:=by
   refine List.any_eq_true.2 ⟨x,hx,?_⟩
   simp only[List.contains_eq_mem,decide_eq_true_eq,UY]
   exact hy
  rw[this] at h2;cases h2
 ·exact h2
theorem fv {S:Nat->Bool}:∀ (ds acc:List (List Nat)) (k:Nat),acc.length=k->(∀ i d,ds[i]? = some d->S (k+i)=true->∀ j∈d,S j=true) ->
  (∀ i a,acc[i]? = some a->S i=true->∀ j∈a,S j=true)->(∀ i a,acc[i]? = some a->i<k) ->
  (∀ i a,(aR ds acc)[i]? = some a->S i=true->∀ j∈a,S j=true) /\
  ∀ i d,ds[i]? = some d->(∀ j∈d,S j=true)->∀ a,(aR ds acc)[k+i]? = some a->∀ j∈a,S j=true
 | [],acc,k,hk,_,h2,_=>⟨h2,by simp⟩
 | d::r,acc,k,hk,h1,h2,h3=>by
   have hrow:(∀ j∈d,S j=true)->∀ j∈IX (d++d.flatMap fun j=>acc.getD j []),S j=true:=by
    intro hd j hj
    rw[iX] at hj
    rcases UY.1 hj with hj | hj
    ·exact hd j hj
    ·obtain⟨m,hm,hj⟩:=List.mem_flatMap.1 hj
     cases ha:acc[m]? with
     | none=>rw[Uv,ha] at hj;simp at hj
     | some a=>rw[Uv,ha] at hj;exact h2 m a ha (hd m hm) j hj
   have hacc:∀ i a,(acc++[IX (d++d.flatMap fun j=>acc.getD j [])])[i]? = some a->S i=true->∀ j∈a,S j=true:=by
    intro i a ha hS
    by_cases hi:i<k
    ·rw[US (by omega)] at ha
     exact h2 i a ha hS
    ·rw[UT (by omega)] at ha
     have hik:i=k:=by
      have:=(Ur.1 ha).1
      simp at this;omega
     subst hik
     rw[hk] at ha
     simp only[Nat.sub_self,UW,Uu] at ha
     subst ha
     exact hrow (h1 0 d rfl (by simpa using hS))
   obtain⟨k1,k2⟩:=fv r (acc++[IX (d++d.flatMap fun j=>acc.getD j [])]) (k+1) (by simp[hk]) (fun i e he hS=>h1 (i+1) e (by simpa using he) (by rw[show k+(i+1)=k+1+i by omega];exact hS)) hacc
    (fun i a ha=>by have:=(Ur.1 ha).1;simp at this;omega)
   refine⟨k1,fun i e he hd a ha=>?_⟩
   have keep:∀ (ds acc:List (List Nat)) (i:Nat),i<acc.length->(aR ds acc)[i]? = acc[i]?:=by
    intro ds
    induction ds with
    | nil=>intros;rfl
    | cons d r ih=>
      intro acc i hi
      rw[aR,ih _ i (by simp;omega),US hi]
   cases i with
   | zero=>
     simp only[UW,Uu] at he
     subst he
     rw[aR,VA,keep _ _ _ (by simp;omega),UT (by omega),hk] at ha
     simp only[Nat.sub_self,UW,Uu] at ha
     subst ha
     exact hrow hd
   | succ i=>
     rw[aR,show k+(i+1)=k+1+i by omega] at ha
     exact k2 i e (by simpa using he) hd a ha
theorem fx:∀ (ds acc:List (List Nat)),(aR ds acc).length=acc.length+ds.length
 | [],acc=>by simp[aR]
 | d::r,acc=>by rw[aR,fx];simp;omega
section
variable {P:Program}{c:Ctx}{κ0:Kap}{N:Nat}{ro:Option Nat}{nf:Nat}
theorem rK {muts:List Nat}{ops:Array Oper}:∀ (l:List Oper) (aops:List AOper),D7 P muts N ops l=some aops->l.length=aops.length/\∀ (i:Nat) (o:Oper),l[i]? = some o->∃ ao,aops[i]? = some ao/\xy P muts N ops o=some ao
 | [],aops,h=>by simp[D7] at h;subst h;simp
 | o::r,aops,h=>by
   simp only[D7] at h
   split at h
   ·rename_i a b ha hb
    cases h
    obtain⟨h1,h2⟩:=rK r b hb
    refine⟨by simp[h1],fun i o' hi=>?_⟩
    cases i with
    | zero=>simp only[UW,Uu] at hi;subst hi;exact⟨a,rfl,ha⟩
    | succ i=>exact h2 i o' (by simpa using hi)
   ·cases h
structure Mid (c:Ctx)(κ0:Kap)(N:Nat)(s:St)(T:List Ent)(S:Nat->Bool)(a:Act)(w:World)(κ:Kap):Prop where
 w_eq:κ.w=w
 ext0:Ext κ0 κ
 rel:SRel c κ (bS S (T.map (·.δ)) 0 s.σ)
 left:Left c κ0.imm κ
 env:∀ x,ARel κ (bS S (T.map Ent.env) 0 s.E x) (a.tmps.getD x Go.undef)
 size:a.tmps.size=N
 defers:dt c κ a.defers
 fresh:∀ r,s.next<=r->κ.nm r≠none->∃ j e,S j=true/\T[j]? = some e/\((e.kd=1/\e.new=r)\/(e.kd=2/\r<e.top))
theorem mD {e:Ent}{x:Nat}:x∈aU e.env↔e.dst=some x:=by
 unfold Ent.env aU
 cases e.dst with
 | none=>simp
 | some d=>simp[eq_comm]
theorem Gv {muts:List Nat}{ops:Array Oper}{o:Oper}{ao:AOper}{s si:St}{T:List Ent}{S S':Nat->Bool}{a:Act}{w:World}{κ:Kap}{e:Ent}{i:Nat}{K:Act->World->Prop}{Q:Exit->Act->World->Prop}
  (hc:xy P muts N ops o=some ao) (hM:Mid c κ0 N s T S a w κ) (hi:T[i]? = some e) (hSi:S i=false) (hS':S' i=true) (hSS:∀ j,j≠i->S' j=S j) (hdst:e.dst=ao.dst)
  (hstep:mV P c.G si.E si.σ (bZ si ao.guard) ao.op e)
  (hE:∀ x∈ao.slots,bS S (T.map Ent.env) 0 s.E x=si.E x) (hσ:∀ r∈e.reads,bS S (T.map (·.δ)) 0 s.σ r=si.σ r)
  (hoE:∀ j v r,j≠i->(T.map Ent.env)[j]? = some v->r∈aU v->r∈aU e.env->i<j->S j=false) (hoσ:∀ j v r,j≠i->(T.map (·.δ))[j]? = some v->r∈aU v->r∈aU e.δ->i<j->S j=false)
  (hnew:e.isM=true->s.next<=e.new) (hnone:e.kd≠0->∀ r,(e.kd=1->r=e.new)->e.new<=r->∀ j e',S j=true->T[j]? = some e'->¬ ((e'.kd=1/\e'.new=r)\/(e'.kd=2/\r<e'.top)))
  (hK:∀ a w κ,Mid c κ0 N s T S' a w κ->K a w) :
  if Region.wanted o (yielded ops a.tmps)=true then o.wpIn (FR ro) nf P a w K Q else K (a.put o.dst Go.undef) w:=by
 have hw:=hM.w_eq
 subst hw
 unfold xy at hc
 split at hc
 ·rename_i g op hg hop
  split at hc
  ·rename_i hd
   cases hc
   simp only at hstep hdst
   let sS:St:=⟨[],[],0⟩
   have hEenv:bS S' (T.map Ent.env) 0 s.E=kD (bS S (T.map Ent.env) 0 s.E) e.env:=pj (by simp[hi]) hS' hSS hoE
   have hσenv:bS S' (T.map (·.δ)) 0 s.σ=kD (bS S (T.map (·.δ)) 0 s.σ) e.δ:=pj (by simp[hi]) hS' hSS hoσ
   have put':∀ (κ':Kap) (u:Value),(∀ x,ARel κ' (bS S (T.map Ent.env) 0 s.E x) (a.tmps.getD x Go.undef))->ARel κ' e.v u ->
     (∀ x,ARel κ' (bS S' (T.map Ent.env) 0 s.E x) ((a.put o.dst u).tmps.getD x Go.undef))/\(a.put o.dst u).tmps.size=N/\(a.put o.dst u).defers=a.defers:=by
    intro κ' u h1 h2
    rw[hEenv]
    cases hod:o.dst with
    | none=>
      have:e.env=[]:=by unfold Ent.env;rw[hdst,hod]
      rw[this]
      exact⟨h1,hM.size,rfl⟩
    | some d=>
      have hev:e.env=[(d,e.v)]:=by unfold Ent.env;rw[hdst,hod]
      rw[hev]
      rw[hod] at hd
      simp only[wQ,decide_eq_true_eq] at hd
      refine⟨fun x=>?_,by simp[Act.put,hM.size],rfl⟩
      simp only[kD,Act.put]
      by_cases hx:x=d
      ·subst hx
       rw[if_pos rfl]
       have:(a.tmps.setIfInBounds x u).getD x Go.undef=u:=by simp[Uw,hM.size,hd]
       rw[this];exact h2
      ·rw[if_neg hx]
       have:(a.tmps.setIfInBounds d u).getD x Go.undef=a.tmps.getD x Go.undef:=by
        simp only[Uw,VC]
        rw[if_neg (fun h=>hx h.symm)]
       rw[this];exact h1 x
   have hguard:∀ b,bZ si g=some b->Region.wanted o (yielded ops a.tmps)=b:=by
    intro b hb
    have hcg:bZ ⟨(match g with | some (i,_)=>[(i,si.E i)] | none=>[]),[],0⟩ g=some b:=by
     cases g with
     | none=>exact hb
     | some p=>
       obtain⟨x,y⟩:=p
       simp only[bZ,St.E,look,if_true] at hb ⊢
       exact hb
    refine eU (κ:=κ) (a:=a) hg (fun x=>?_) hcg
    cases g with
    | none=>exact .any _
    | some p=>
      obtain⟨y,z⟩:=p
      simp only[St.E,look]
      by_cases hx:y=x
      ·subst hx
       rw[if_pos rfl]
       have:=hM.env y
       rw[hE y (by simp[AOper.slots])] at this
       exact this
      ·rw[if_neg hx];exact .any _
   have fresh0:∀ r,s.next<=r->κ.nm r≠none->∃ j e,S' j=true/\T[j]? = some e/\((e.kd=1/\e.new=r)\/(e.kd=2/\r<e.top)):=by
    intro r hr hn
    obtain⟨j,e',h1,h2,h3⟩:=hM.fresh r hr hn
    have hj:j≠i:=by rintro rfl;rw[hSi] at h1;cases h1
    exact⟨j,e',by rw[hSS j hj];exact h1,h2,h3⟩
   have slotsE:∀ x∈op.slots,bS S (T.map Ent.env) 0 s.E x=si.E x:=fun x hx=>hE x (by simp[AOper.slots,hx])
   rcases hstep with ⟨hb,hv,hδ,hrd,hm,_⟩ | ⟨hb,hst⟩
   ·rw[hguard _ hb,if_neg (by simp)]
    obtain⟨p1,p2,p3⟩:=put' κ Go.undef hM.env (by rw[hv];exact .pv _ _ .undef)
    exact hK _ _ κ ⟨rfl,hM.ext0,by rw[hσenv,hδ];exact hM.rel,hM.left,p1,p2,by rw[p3];exact hM.defers,fresh0⟩
   ·rw[hguard _ hb,if_pos rfl]
    generalize hmu:Tj muts o.dst=mu at hop
    rcases I3 hop with ⟨g,x,rfl,hz⟩ | ⟨t,rfl,ht⟩ | ⟨m,rfl,hmm⟩ | rfl
    ·exact hst.elim
    ·replace ht:=tF ht
     obtain⟨hrun,hδ,hrd,hm,_⟩:=hst
     rw[<- TOp.run_congr (E:=bS S (T.map Ent.env) 0 s.E) (E':=si.E) (fun x hx=>slotsE x hx)] at hrun
     obtain⟨u,h1,h2⟩:=nc (P:=P) (κ:=κ) (E:=bS S (T.map Ent.env) 0 s.E) (a:=a) ht (fun x _=>hM.env x) hrun
     obtain⟨p1,p2,p3⟩:=put' κ u hM.env h2
     refine dM h1 ?_
     exact hK _ _ κ ⟨rfl,hM.ext0,by rw[hσenv,hδ];exact hM.rel,hM.left,p1,p2,by rw[p3];exact hM.defers,fresh0⟩
    ·
      obtain⟨hrun,hrd,hm,htop,hkd⟩:=hst
      have hreads:m.reads (bS S (T.map Ent.env) 0 s.E)=m.reads si.E:=by
       have hh:∀ x∈m.slots,bS S (T.map Ent.env) 0 s.E x=si.E x:=fun x hx=>slotsE x hx
       cases m<;>simp only[MOp.reads,MOp.slots,UY] at hh ⊢
       case load g sz x=>rw[ag hh]
       case clear sz zs x=>rw[ag hh]
       case toStr x=>rw[ag hh]
       case xop o=>exact XOp.reads_congr hh
       case store sz x v=>rw[ag (x:=x) (fun i hi=>hh i (.inl hi))]
       case append mu e sz b x y=>rw[ag (x:=x) (fun i hi=>hh i (.inl hi)),ag (x:=y) (fun i hi=>hh i (.inr hi))]
       case sliceA n sz x l h=>rw[ag (x:=x) (fun i hi=>hh i (.inl (.inl hi)))]
      rw[<- MOp.run_congr (E:=bS S (T.map Ent.env) 0 s.E) (E':=si.E) (σ:=bS S (T.map (·.δ)) 0 s.σ) (σ':=si.σ) (fun x hx=>slotsE x hx) (fun r hr=>hσ r (by rw[hrd,<- hreads];exact hr))] at hrun
      have hn:m.makes=true->κ.nm e.new=none:=by
       intro hmk
       have hk1:e.kd=1:=by rw[hkd,aY,if_pos hmk]
       cases hk:κ.nm e.new with
       | none=>rfl
       | some d=>
         obtain⟨j,e',h1,h2,h3⟩:=hM.fresh e.new (hnew hm) (by rw[hk];simp)
         exact absurd h3 (hnone (by omega) e.new (fun _=>rfl) (UI _) j e' h1 h2)
      obtain⟨x,u,κ',h1,h2,h3,h4,h5,h6⟩:=lk (P:=P) hmm hM.rel hM.left.size hn (fun x _=>hM.env x) hrun
      obtain⟨p1,p2,p3⟩:=put' κ' u (fun x=>(hM.env x).ext h4.ext) h3
      have hMid:Mid c κ0 N s T S' (a.put o.dst u) κ'.w κ':=by
       refine⟨rfl,hM.ext0.trans h4.ext,?_,h4.left _ hM.left,p1,p2,by rw[p3];exact hM.defers.ext h4.ext,fun r hr hnn=>?_⟩
       ·rw[hσenv,<- d7];exact h5
       ·cases hmk:m.makes with
        | false=>rw[h6 hmk] at hnn;exact fresh0 r hr hnn
        | true=>
          by_cases hre:r=e.new
          ·exact⟨i,e,hS',hi,.inl ⟨by rw[hkd,aY,if_pos hmk],hre.symm⟩⟩
          ·refine fresh0 r hr fun hz=>hnn (h4.fresh r hre hz)
      rcases h2 with rfl | ⟨rfl,rfl⟩
      ·exact dM h1 (hK _ _ κ' hMid)
      ·exact sA h1 (hK _ _ κ' hMid)
    ·
      rcases oY P o.op with hb | ⟨af,xs,hce,hco⟩
      ·rw[hb] at hst;obtain⟨p,hcl,_⟩:=hst;simp[iN,AX.ev,dn] at hcl
      ·rw[hce] at hst slotsE
       ·obtain⟨p,hcl,hst⟩:=hst
        have hevf:af.ev (bS S (T.map Ent.env) 0 s.E)=af.ev si.E:=ag fun x hx=>slotsE x (by simp[AOp.slots,hx])
        have hevx:xs.map (·.ev (bS S (T.map Ent.env) 0 s.E))=xs.map (·.ev si.E):=gD fun x hx=>slotsE x (by simp only[AOp.slots,UY];exact .inr hx)
        rw[<- hevf] at hcl
        obtain⟨vs,us,args,hvs,hus,hv1,hu1,hxs,hrun0⟩:=tB (P:=P) (κ:=κ) (E:=bS S (T.map Ent.env) 0 s.E) (a:=a) hco (fun x=>hM.env x) hcl
        obtain⟨hxl,hxr⟩:=fZ (κ:=κ) (E:=bS S (T.map Ent.env) 0 s.E) (a:=a) hxs (fun x _=>hM.env x)
        have hmid:∀ (i:Nat) (x:AV),(xs.map (·.ev (bS S (T.map Ent.env) 0 s.E)))[i]? = some x->ARel κ x ((args.map a.eval).getD i Go.undef):=by
         intro i x hx
         rw[aA];simpa using hxr i x hx
        have hall:=cD (κ:=κ) (by simp[hvs];exact hxl) (cD (κ:=κ) hvs hv1 hmid) hu1
        rcases hst with ⟨ps,r,hps,⟨hcal,hP⟩,hv,hδ,hrd,hm,_⟩ | ⟨sto,hsto,⟨hcal,hT⟩,htop,hm,hkd,hlive⟩
        rotate_left
        ·-- a call that is lent memory
         rw[<- hevx] at hT
         have hrun:=hrun0 hcal κ.w
         refine jB hrun ?_
         have hR:=hM.rel
         have hL:=hM.left
         have hreads:∀ r,si.σ r≠.none->bS S (T.map (·.δ)) 0 s.σ r=si.σ r:=fun r hr=>hσ r (hlive r hr)
         have hzz:∀ r,si.σ r≠.none->bS S (T.map (·.δ)) 0 s.σ r≠.none:=fun r hr=>by rw[hreads r hr];exact hr
         have hS0:SRel (cu κ si.σ c.G) κ si.σ:=by
          refine⟨fun r=>?_,fun r r' d d' b h1 h2=>hR.apart r r' d d' b (hzz r h1) (hzz r' h2),fun r d b h1 h2 h3=>.inr ⟨r,d,h1,h2,h3⟩,hR.immLt,hR.glob.lend fun b ⟨r,d,h1,h2,h3⟩=>hR.mine r d b (hzz r h1) h2 h3⟩
          by_cases hr:si.σ r = .none
          ·rw[hr];trivial
          ·rw[<- hreads r hr];exact hR.blk r
         have hfr:∀ r,e.new<=r->κ.nm r=none:=by
          intro r hr
          cases hk:κ.nm r with
          | none=>rfl
          | some d=>
            obtain⟨j,e',h1,h2,h3⟩:=hM.fresh r (UX (hnew hm) hr) (by rw[hk];simp)
            exact absurd h3 (hnone (by omega) r (fun h=>by omega) hr j e' h1 h2)
         refine (hT κ _ (by rw[hsto];exact hS0) hfr (by simp[hvs,hus];simpa using hxl) hall).mono ?_
         rintro e1 w' ⟨u,v',κ',sto',next',rfl,rfl,he,hL1,hv1,hS1,hf1,rfl,hsto',rfl⟩
         rw[hsto] at hL1 hS1
         rw[hsto'] at hS1
         obtain⟨p1,p2,p3⟩:=put' κ' u (fun x=>(hM.env x).ext he) hv1
         have hlent:∀ b,(cu κ si.σ c.G).lent b->c.mine b:=by
          rintro b ⟨r,d,h1,h2,h3⟩
          exact hR.mine r d b (hzz r h1) h2 h3
         have hmine:∀ b,(cu κ si.σ c.G).mine b->c.mine b:=by
          intro b hb
          rcases hb with hb | hb
          ·exact .inl (UX hL.size hb)
          ·exact hlent b hb
         have hupd:∀ r,r∈aU e.δ\/si.σ r≠.none->aq.upd (bS S (T.map (·.δ)) 0 s.σ) e.δ r=aq.upd si.σ e.δ r:=by
          intro r hr
          rw[d7,d7]
          exact mL e.δ _ _ (hr.imp id (hreads r))
         have hout:∀ r,¬ (r∈aU e.δ\/si.σ r≠.none)->aq.upd (bS S (T.map (·.δ)) 0 s.σ) e.δ r=bS S (T.map (·.δ)) 0 s.σ r/\aq.upd si.σ e.δ r = .none:=by
          intro r hr
          have hk:r∉aU e.δ:=fun h=>hr (.inl h)
          have hz:si.σ r = .none:=Classical.byContradiction fun h=>hr (.inr h)
          rw[d7,d7,gM _ _ hk,gM _ _ hk]
          exact⟨rfl,hz⟩
         have hfar:∀ r d b,bS S (T.map (·.δ)) 0 s.σ r≠.none->¬ (r∈aU e.δ\/si.σ r≠.none)->κ.nm r=some d->d.block=some b->b<κ.w.heap.size/\¬ (cu κ si.σ c.G).lent b:=by
          intro r d b h1 h2 h3 h4
          refine⟨(hR.blk r).lt h1 h3 h4,?_⟩
          rintro⟨r',d',k1,k2,k3⟩
          have hne:r≠r':=by rintro rfl;exact h2 (.inr k1)
          exact hR.apart r r' d d' b h1 (hzz r' k1) hne h3 k2 h4 k3
         have hnm:∀ r d',bS S (T.map (·.δ)) 0 s.σ r≠.none->κ'.nm r=some d'->∃ d,κ.nm r=some d/\d=d':=by
          intro r d' h1 h2
          have hb:=hR.blk r
          generalize bS S (T.map (·.δ)) 0 s.σ r=B at hb h1
          cases B with
          | none=>exact absurd rfl h1
          | cells A f l=>
            rcases hb with ⟨_,_,q1⟩ | ⟨b,n,cs,q1,_⟩
            ·have:=he.nm r _ q1
             rw[this] at h2;cases h2
             exact⟨_,q1,rfl⟩
            have:=he.nm r _ q1
            rw[this] at h2;cases h2
            exact⟨_,q1,rfl⟩
          | tok A z=>
            rcases hb with q1 | ⟨b,n,cap,cs,q1,_⟩
            ·have:=he.nm r _ q1
             rw[this] at h2;cases h2
             exact⟨_,q1,rfl⟩
            have:=he.nm r _ q1
            rw[this] at h2;cases h2
            exact⟨_,q1,rfl⟩
          | mp l=>
            obtain⟨b,es,ck,q1,_⟩:=hb
            have:=he.nm r _ q1
            rw[this] at h2;cases h2
            exact⟨_,q1,rfl⟩
          | bts e l=>
            obtain⟨b,n,cs,fz,q1,_⟩:=hb
            have:=he.nm r _ q1
            rw[this] at h2;cases h2
            exact⟨_,q1,rfl⟩
         refine hK _ _ κ' ⟨rfl,hM.ext0.trans he,?_,⟨hL1.os.trans hL.os,hL1.tape.trans hL.tape,hL1.output.trans hL.output,UX hL.size hL1.size,fun b hlt hl=>?_,fun b o hi=>?_⟩,p1,p2,by rw[p3];exact hM.defers.ext he,fun r hr hnn=>?_⟩
         ·rw[hσenv,<- d7]
          refine⟨fun r=>?_,fun r r' d d' b h1 h2 hne h3 h4 h5=>?_,fun r d b h1 h2 h3=>?_,hS1.immLt,hR.glob.back hlent hS1.glob hL1.block⟩
          ·by_cases hr:r∈aU e.δ\/si.σ r≠.none
           ·rw[hupd r hr];exact hS1.blk r
           ·rw[(hout r hr).1]
            refine (hR.blk r).keep he fun hz d b hd hbk=>?_
            obtain⟨q1,q2⟩:=hfar r d b hz hr hd hbk
            exact⟨hL1.block b q1 q2,fun o ho=>(hL1.imm b o ho).elim id fun h=>h.elim (fun h=>absurd q1 (Nat.not_lt.2 h)) (fun h=>absurd h q2)⟩
          ·by_cases hr:r∈aU e.δ\/si.σ r≠.none
           ·rw[hupd r hr] at h1
            by_cases hr':r'∈aU e.δ\/si.σ r'≠.none
            ·rw[hupd r' hr'] at h2
             exact hS1.apart r r' d d' b h1 h2 hne h3 h4 h5
            ·rw[(hout r' hr').1] at h2
             intro h6
             obtain⟨d2,q1,rfl⟩:=hnm r' d' h2 h4
             obtain⟨q3,q4⟩:=hfar r' _ b h2 hr' q1 h6
             rcases hS1.mine r d b h1 h3 h5 with h | h
             ·exact absurd q3 (Nat.not_lt.2 h)
             ·exact q4 h
           ·rw[(hout r hr).1] at h1
            obtain⟨d1,q1,rfl⟩:=hnm r d h1 h3
            obtain⟨q3,q4⟩:=hfar r _ b h1 hr q1 h5
            intro h6
            by_cases hr':r'∈aU e.δ\/si.σ r'≠.none
            ·rw[hupd r' hr'] at h2
             rcases hS1.mine r' d' b h2 h4 h6 with h | h
             ·exact absurd q3 (Nat.not_lt.2 h)
             ·exact q4 h
            ·rw[(hout r' hr').1] at h2
             obtain⟨d2,q1',rfl⟩:=hnm r' d' h2 h4
             exact hR.apart r r' _ _ b h1 h2 hne q1 q1' h5 h6
          ·by_cases hr:r∈aU e.δ\/si.σ r≠.none
           ·rw[hupd r hr] at h1
            exact hmine b (hS1.mine r d b h1 h2 h3)
           ·rw[(hout r hr).1] at h1
            obtain⟨d1,q1,rfl⟩:=hnm r d h1 h2
            exact hR.mine r _ b h1 q1 h3
         ·refine (hL1.block b (UZ hlt hL.size) fun h=>?_).trans (hL.block b hlt hl)
          rcases hlent b h with h | h
          ·exact absurd hlt (Nat.not_lt.2 h)
          ·exact hl h
         ·rcases hL1.imm b o hi with h | h
          ·exact hL.imm b o h
          ·exact .inr (hmine b h)
         ·by_cases hk:κ.nm r=none
          ·refine⟨i,e,hS',hi,.inr ⟨hkd,?_⟩⟩
           rcases U6 r e.top with h | h
           ·exact h
           ·exact absurd (hf1 r h) hnn
          ·exact fresh0 r hr hk
        rw[<- hevx] at hps
        have hrun:=hrun0 hcal κ.w
        refine jB hrun ?_
        refine (hP κ.w κ.imm _ hM.rel.glob.ok hM.rel.immLt (by rw[bT hps];simp[hvs,hus];simpa using hxl) fun k x hx=>?_).mono ?_
        ·obtain⟨y,hy,hp⟩:=cB hps k x hx
         exact bI hp (hall k y hy)
        ·rintro e' w' ⟨u,imm',rfl,hbl,h1,h2,h3,h4⟩
         have hst:Rel c κ0 N ⟨[],[],s.next⟩ a κ.w κ->True:=fun _=>trivial
         have he:Ext κ ⟨w',κ.nm,imm'⟩:=by
          refine⟨h1,fun b o v hi hc=>?_,fun _ _ h=>h,fun b o ho _=>(hbl.block b (UF.1 ho).1).trans ho⟩
          have hl:=World.block_lt_of_cell? κ.w _ hc
          exact (World.cell?_of_block (a:=⟨b,o,none⟩) (hbl.block b hl)).trans hc
         have hL:=hM.left
         have hR:=hM.rel
         obtain⟨p1,p2,p3⟩:=put' ⟨w',κ.nm,imm'⟩ u (fun x=>(hM.env x).ext he) (by rw[hv];exact .pv _ _ h4)
         refine hK _ _ ⟨w',κ.nm,imm'⟩ ⟨rfl,hM.ext0.trans he,?_,⟨hbl.os.trans hL.os,hbl.tape.trans hL.tape,hbl.output.trans hL.output,UX hL.size hbl.size,fun b hlt hl=>?_,fun b o hi=>?_⟩,p1,p2,by rw[p3];exact hM.defers.ext he,fresh0⟩
         ·rw[hσenv,hδ]
          refine⟨fun r=>?_,hR.apart,hR.mine,h3,T9 he hR.glob fun g h1 _=>hbl.block g (UZ h1 hL.size)⟩
          refine (hR.blk r).keep he fun hz d b hd hbk=>?_
          have hl:=(hR.blk r).lt hz hd hbk
          exact⟨hbl.block b hl,fun o ho=>(h2 b o ho).elim id (fun h=>by omega)⟩
         ·exact (hbl.block b (UZ hlt hL.size)).trans (hL.block b hlt hl)
         ·rcases h2 b o hi with h | h
          ·exact hL.imm b o h
          ·exact .inr (.inl (UX hL.size h))
  ·cases hc
 ·cases hc
end

/- A program logic over the model: part 2 (a proof is built on it; nothing of the statement is said here). -/
import Derived.MapKept
import Derived.Lib.Overlaps
import Derived.Lib.AppendZerosOnto
import Derived.Lib.Builder
import Derived.Lib.Bytealg
import Derived.Lib.UnsafeStr
import Derived.Lib.AppendStr
import Derived.KernelRfl
import Derived.Laws.BytesString
import Derived.Laws.Cells
import Derived.Laws.MakeOwn
import Derived.Test.YtamoeblcphjbaaaGreatDoorTyCore1
set_option linter.unusedVariables false
set_option linter.unusedSimpArgs false
open Bool renaming and_eq_true->WT
open List renaming length_cons->WG,nil_append->WO,eq_nil_of_length_eq_zero->WY,all_eq_true->W8,getElem?_eq_getElem->WE,getElem?_take->Xl,getElem?_eq_none->Xu,mem_append->Xk,getElem?_of_mem->XO,length_append->WF,size_toArray->XQ,length_take->Xd,length_drop->Xh,mem_map->Xo,getElem?_map->WW,getElem?_eq_some_iff->WH,getD_eq_getElem?_getD->WN,getElem?_append_left->Xe,getElem?_append_right->Xg,replicate->Xt,map_cons->WP,range->Xq,mem_of_getElem?->WK,take_of_length_le->Xm,append_assoc->WS,getElem?_cons_zero->Xb
open Nat renaming zero_add->W4,mul_le_mul_right->Xa,zero_le->Xr,le_refl->WX,mul_comm->XA
open Option.some renaming injEq->WJ
open Option renaming map_eq_some_iff->WI,map_some->WZ,getD_some->XK
open Array renaming getElem?_modify->XR,getElem?_eq_some_iff->WU,getElem?_eq_getElem->XL,getD_eq_getD_getElem?->WM
open Prod.mk renaming injEq->WR
namespace Go.Ab
open Go Go.RowKit
section
variable {P:Program}{c:Ctx}{κ:Kap}{σ:aE}
structure ElemInfo (P:Program)(t e sz by_:Nat):Prop where
 under:P.underlying t=some (.slice e)
 info:∃ i z,P.info? e=some i/\i.zero=some z/\i.size=sz/\i.bytes=by_/\z.cells.size=sz
theorem jP {n m by_:Nat}(h:qv n m by_=true):n+m<=maxLen/\(n+m)*by_<=140737488355328:=by
 simp only[qv,WT,decide_eq_true_eq] at h
 exact⟨by unfold maxLen;omega,h.2⟩
theorem o8 (cur:List Value)(k m:Nat)(news xs:List Value)(hk:cur.take k=xs)(hl:k+news.length<=cur.length) :
  (cur.take k++news++cur.drop (k+news.length)).take (k+news.length)=xs++news:=by
 rw[hk]
 have:(xs++news).length=k+news.length:=by subst hk;simp;omega
 rw[<- this]
 exact List.take_left
theorem HI {t ty e sz by_ new:Nat}{x y v:AV}{ux uy:Value}{δ:List (Nat×Blk)}(hS:SRel c κ σ)(hw:c.w0.heap.size<=κ.w.heap.size)(hn:κ.nm new=none)(hI:ElemInfo P t e sz by_)
  (hx:ARel κ x ux) (hy:ARel κ y uy) (hr:eB false e sz by_ new σ x y=some (v,δ)) :
  ∃ u κ',(Builtin.append_ #[t,t] ty #[ux,uy]).run P κ.w = .ok u κ'.w/\ARel κ' v u/\Done c κ κ' new/\SRel c κ' (σ.upd δ):=by
 obtain⟨hu,i,z,hi,hz,hsz,hby,hzs⟩:=hI
 unfold eB at hr
 split at hr
 ·rename_i ys hys
  obtain⟨A,m,cc,news,rfl,hm,hrow,hone,hat⟩:=m5 hS hy hys
  split at hr
  ·-- onto nil
   have hux:ux = .slice none 0 0:=by cases aT hx;rfl
   subst hux
   split at hr
   ·cases hr
    obtain⟨v',w',h1,h2⟩:=bh (P:=P) κ.w t ty e i z sz by_ hu hi hz hsz hby hzs (.slice none 0 0) 0 [] (World.ownsRow_nil _ _ _ _) A m cc news (by rw[hrow.1,hm]) hat hone (by rw[hm];simp) (by rw[hm];simp)
    rcases h2 with ⟨_,rfl,rfl⟩ | ⟨h0,_⟩ | ⟨h0,_⟩
    ·exact⟨_,κ,h1,.pv _ _ .nils,Done.same c κ new,by simpa[tf] using hS⟩
    ·simp at hm;omega
    ·simp at hm;omega
   ·rename_i y0 r
    split at hr
    ·rename_i hroom
     cases hr
     obtain⟨k1,k2⟩:=jP hroom
     simp only[WG] at hm
     subst hm
     obtain⟨v',w',h1,h2⟩:=bh (P:=P) κ.w t ty e i z sz by_ hu hi hz hsz hby hzs (.slice none 0 0) 0 [] (World.ownsRow_nil _ _ _ _) A (r.length+1) cc news (by rw[hrow.1];rfl) hat hone k1 k2
     rcases h2 with ⟨h0,_⟩ | ⟨_,g,cap,cur,h0,_⟩ | ⟨_,cs,cap,rfl,rfl,q1,q2,q3,q4⟩
     ·omega
     ·cases h0
     ·simp only[W4,WO] at q1 q4
      obtain⟨κ',e1,e2,e3,e4⟩:=mr (e:=e) hS hw hn hrow (n:=r.length+1) rfl q1 q2 q3 q4 κ.w.drew rfl rfl rfl rfl
      exact⟨_,κ',by rw[h1,e1],by simpa using e2,e3,e4⟩
    ·cases hr
  ·-- onto a list of the call's own
   rename_i q s l _
   split at hr
   ·rename_i e' sz' hσ
    split at hr
    ·rename_i hh
     obtain⟨rfl,rfl,rfl,hroom⟩:=hh
     cases hr
     obtain⟨k1,k2⟩:=jP hroom
     cases hx with
     | olist _ _ _ _ hnm hp hls=>
       have hB:=hS.blk q
       rw[hσ] at hB
       rcases hB with hq | ⟨g,n,cap,cur,hq,hg,hnc,hcm,hcs,hfree⟩
       ·-- the nil slice
        rw[hnm] at hq
        simp only[WJ,Den.own.injEq] at hq
        subst hq
        have hl0:l=[]:=by cases hp;rfl
        subst hl0
        subst hm
        obtain⟨v',w',h1,h2⟩:=bh (P:=P) κ.w t ty e' i z s by_ hu hi hz hsz hby hzs (.slice none 0 0) 0 [] (World.ownsRow_nil _ _ _ _) A ys.length cc news (by rw[hrow.1]) hat hone (by simpa using k1) (by simpa using k2)
        rcases h2 with ⟨h0,rfl,rfl⟩ | ⟨_,g,cap,cur,h0,_⟩ | ⟨_,cs,cap,rfl,rfl,q1,q2,q3,q4⟩
        ·have hys0:ys=[]:=WY h0
         subst hys0
         obtain⟨a1,a2,a3⟩:=Gl (hS.drop q) hn e' s
         exact⟨_,(⟨κ.w,fun r=>if r=new then some (.own (.slice none 0 0)) else κ.nm r,κ.imm⟩:Kap),h1,a3,⟨a1.ext,a1.left,a1.size,a1.fresh⟩,a2⟩
        ·cases h0
        ·simp only[W4,WO] at q1 q4
         obtain⟨κ',e1,e2,e3,e4⟩:=mr (e:=e') (hS.drop q) hw hn hrow (n:=ys.length) rfl q1 q2 q3 q4 κ.w.drew rfl rfl rfl rfl
         exact⟨_,κ',by rw[h1,e1],by simpa using e2,e3,e4⟩
       rw[hnm] at hq
       simp only[WJ,Den.own.injEq] at hq
       subst hq
       obtain⟨hnl,xs,hxrow,hxone,hxat⟩:=wN hp (W8.2 fun x hx=>by simpa using hls x hx)
       have hxs:cur.toList.take (n*s)=xs:=by
        have hnsz:n*s<=cur.size:=by rw[hcs];exact Xa _ hnc
        apply List.ext_getElem?
        intro j
        by_cases hj:j<n*s
        ·have hjx:j<xs.length:=by rw[hxrow.1,<- hnl];exact hj
         have hjc:j<cur.size:=by omega
         rcases hxat with h0 | ⟨a,ha,hc⟩
         ·subst h0;simp at hj
         ·cases ha
          have h3:=hc j _ (WE hjx)
          rw[Addr.add_lit,cell_of_row κ.w g (0+j) cur e' (0,0) hg] at h3
          rw[Xl,if_pos hj,WE hjx,<- h3]
          simp
        ·rw[Xu (by simp;omega),Xu (by rw[hxrow.1,<- hnl];omega)]
       have hown:κ.w.ownsRow 0 e' s (.slice (some ⟨g,0,none⟩) n cap) n xs:=⟨by rw[hxrow.1,hnl],.inr ⟨g,cap,cur,rfl,Xr _,hg,hnc,hcm,hcs,hxs⟩⟩
       subst hnl
       subst hm
       obtain⟨v',w',h1,h2⟩:=bh (P:=P) κ.w t ty e' i z s by_ hu hi hz hsz hby hzs _ _ xs hown A ys.length cc news (by rw[hrow.1]) hat hone k1 k2
       have hb0:∀ b,some g=some b->σ q≠.none/\∃ d,κ.nm q=some d/\d.block=some b:=fun b hb=>⟨by rw[hσ];simp,_,hnm,hb⟩
       have hls':∀ x∈l++ys,x.cells.length=s:=by
        intro x hx
        rcases Xk.1 hx with h | h
        ·exact hls x h
        ·obtain⟨i,hi⟩:=XO h
         exact hrow.2.1 i x hi
       rcases h2 with ⟨h0,rfl,rfl⟩ | ⟨_,g',cap',cur',h0,hg',q1,q2,q3,q4,rfl,rfl⟩ | ⟨_,cs,cap',rfl,rfl,q1,q2,q3,q4⟩
       ·-- nothing to add
        have hys0:ys=[]:=WY h0
        subst hys0
        obtain⟨h3,h4⟩:=yP (d:=.own (.slice (some ⟨g,0,none⟩) l.length cap)) (Bn:=.tok e' s) (q:=fun _ _=>False) (b':=g) (b0:=some g) (r0:=q) hS hw ⟨rfl,rfl,rfl,WX _,fun _ _ _=>rfl⟩ hn rfl (.inl rfl) (fun _ _ h=>h.elim) (fun _ _ _ h=>h) (fun _ _ _ _ _ h=>h) hb0
        refine⟨_,(⟨κ.w,fun r=>if r=new then some (Den.own (.slice (some ⟨g,0,none⟩) l.length cap)) else κ.nm r,fun b o=>κ.imm b o\/False⟩:Kap),h1,.olist _ _ _ _ (by simp) ?_ hls',h3,h4 (.inr ⟨g,l.length,cap,cur,by simp,hg,hnc,hcm,hcs,fun o ho hi=>hi.elim (hfree o ho) id⟩)⟩
        rw[List.append_nil]
        exact hp.ext h3.ext
       ·-- there is qv
        cases h0
        rw[hg] at hg';cases hg'
        have hnl2:news.length=ys.length*s:=hrow.1
        have hfit:l.length*s+news.length<=cur.toList.length:=by
         have hcl:cur.toList.length=cur.size:=by simp
         rw[hnl2,hcl,hcs,<- Nat.add_mul];exact Xa _ q1
        have hgrow:κ.w.grownBy (κ.w.setRow g (cur.toList.take (l.length*s)++news++cur.toList.drop (l.length*s+news.length)).toArray) (some g):=
         ⟨rfl,rfl,rfl,by simp,fun k _ hk=>setRow_other κ.w g k _ (fun h=>hk (by rw[h]))⟩
        have hnewrow:=setRow_heap κ.w g cur (cur.toList.take (l.length*s)++news++cur.toList.drop (l.length*s+news.length)).toArray e' (0,0) hg
        have hkeep:∀ (o:Nat) (u:Value),κ.imm g o->κ.w.cell? ⟨g,o,none⟩=some u ->
          (κ.w.setRow g (cur.toList.take (l.length*s)++news++cur.toList.drop (l.length*s+news.length)).toArray).cell? ⟨g,o,none⟩=some u:=by
         intro o u ho hc
         have hlt:o<l.length*s:=by
          rcases Nat.lt_or_ge o (l.length*s) with h | h
          ·exact h
          ·exact absurd ho (hfree o h)
         rw[cell_of_row κ.w g o cur e' (0,0) hg] at hc
         rw[cell_of_row _ g o _ e' (0,0) hnewrow]
         simp only[List.getElem?_toArray]
         rw[gx cur.toList news (l.length*s) o hfit,if_neg (by omega)]
         simpa using hc
        have htk:=o8 cur.toList (l.length*s) 0 news xs hxs hfit
        have hmul:l.length*s+news.length=(l++ys).length*s:=by rw[hnl2,WF,Nat.add_mul]
        obtain⟨h3,h4⟩:=yP (d:=.own (.slice (some ⟨g,0,none⟩) (l.length+ys.length) cap)) (Bn:=.tok e' s) (q:=fun b o=>b=g/\o<(l++ys).length*s) (b':=g) (b0:=some g) (r0:=q) hS hw hgrow hn rfl (.inl rfl)
         (fun _ _ h=>h.1) hkeep (fun b o u hb ho hc=>by cases hb;exact hkeep o u ho hc) hb0
        have hrow2:=(hxrow.append hrow).ext h3.ext
        refine⟨_,_,h1,.olist _ _ _ _ (by simp) (hrow2.list (by simp) q1 hcm (nj hnewrow (n:=l.length*s+news.length) htk) (fun j hj=>.inr ⟨rfl,by simpa using hj⟩)) hls',h3,
         h4 (.inr ⟨g,l.length+ys.length,cap,_,by simp,hnewrow,q1,hcm,?_,?_⟩)⟩
        ·simp only[XQ,WF,Xd,Xh]
         rw[<- hcs];simp only[Array.length_toList] at hfit ⊢;omega
        ·rintro o ho (h | ⟨_,h⟩)
         ·exact hfree o (Nat.le_trans (Xa _ (by omega)) ho) h
         ·simp only[WF] at h;omega
       ·-- a new block
        obtain⟨κ',e1,e2,e3,e4⟩:=mr (e:=e') (hS.drop q) hw hn (hxrow.append hrow) (n:=l.length+ys.length) (by simp) q1 q2 q3 q4 κ.w.drew rfl rfl rfl rfl
        exact⟨_,κ',by rw[h1,e1],by simpa using e2,e3,e4⟩
    ·cases hr
   ·cases hr
  ·simp_all
  ·simp_all
  ·cases hr
 ·cases hr
end
section
variable {P:Program}{c:Ctx}{κ:Kap}{σ:aE}
theorem xD {sz:Nat}{ys:List PV}{xs:List Value}(h:f7 κ sz ys xs):(bQ ys).length=xs.length/\∀ (i:Nat) (x:AV),(bQ ys)[i]? = some x->ARel κ x (xs.getD i Go.undef):=by
 have hall:∀ l∈ys.map PV.cells,l.length=sz:=by
  intro l hl
  obtain⟨y,hy,rfl⟩:=Xo.1 hl
  obtain⟨i,hi⟩:=XO hy
  exact h.2.1 i y hi
 have e:ys.flatMap PV.cells=(ys.map PV.cells).flatten:=by rw[List.flatMap_def]
 have hlen:(ys.flatMap PV.cells).length=ys.length*sz:=by rw[e,jt _ hall];simp
 refine⟨by simp[bQ,hlen,h.1],fun i x hx=>?_⟩
 simp only[bQ,WW,WI] at hx
 obtain⟨p,hp,rfl⟩:=hx
 have hi:i<ys.length*sz:=by rw[<- hlen];exact (WH.1 hp).1
 have hsz:0<sz:=by
  rcases Nat.eq_zero_or_pos sz with h0 | h0
  ·subst h0;simp at hi
  ·exact h0
 have hd:=Nat.div_add_mod i sz
 have hm:=Nat.mod_lt i hsz
 rw[e,show i=i / sz*sz+i % sz by rw[XA];omega,pW hm _ _ hall] at hp
 simp only[WW] at hp
 cases hy:ys[i / sz]? with
 | none=>simp[hy] at hp
 | some y=>
   simp only[hy,WZ,Option.bind_some] at hp
   have:=(h.2.2 (i / sz) y (i % sz) p hy hp).1
   rw[show i / sz*sz+i % sz=i by rw[XA];omega] at this
   exact .pv _ _ this
theorem jR {l k:List AV}{xs zs:List Value}(hl:l.length=xs.length)(h:∀ (i:Nat) (x:AV),l[i]? = some x->ARel κ x (xs.getD i Go.undef))(g:∀ (i:Nat) (x:AV),k[i]? = some x->ARel κ x (zs.getD i Go.undef)) :
  ∀ (i:Nat) (x:AV),(l++k)[i]? = some x->ARel κ x ((xs++zs).getD i Go.undef):=by
 intro i x hx
 rw[WN]
 by_cases hi:i<l.length
 ·rw[Xe hi] at hx
  rw[Xe (by omega),<- WN]
  exact h i x hx
 ·rw[Xg (by omega)] at hx
  rw[Xg (by omega),<- hl,<- WN]
  exact g _ x hx
theorem eo {l:List AV}{cs:Array Value}{n:Nat}{xs:List Value}(ht:cs.toList.take n=xs)(hl:l.length<=n)(h:∀ (i:Nat) (x:AV),l[i]? = some x->ARel κ x (xs.getD i Go.undef)) :
  ∀ (i:Nat) (x:AV),l[i]? = some x->ARel κ x (cs.getD i Go.undef):=by
 intro i x hx
 have hi:i<l.length:=(WH.1 hx).1
 have:=h i x hx
 rw[aL]
 rw[<- ht,WN,Xl,if_pos (by omega),<- WN] at this
 exact this
theorem Ck {t ty e sz by_ new:Nat}{x y v:AV}{ux uy:Value}{δ:List (Nat×Blk)}(hS:SRel c κ σ)(hw:c.w0.heap.size<=κ.w.heap.size)(hn:κ.nm new=none)(hI:ElemInfo P t e sz by_)
  (hx:ARel κ x ux) (hy:ARel κ y uy) (hr:eB true e sz by_ new σ x y=some (v,δ)) :
  ∃ u κ',(Builtin.append_ #[t,t] ty #[ux,uy]).run P κ.w = .ok u κ'.w/\ARel κ' v u/\Done c κ κ' new/\SRel c κ' (σ.upd δ):=by
 obtain⟨hu,i,z,hi,hz,hsz,hby,hzs⟩:=hI
 unfold eB at hr
 split at hr
 ·rename_i ys hys
  obtain⟨A,m,cc,news,rfl,hm,hrow,hone,hat⟩:=m5 hS hy hys
  obtain⟨hfl,hfr⟩:=xD hrow
  split at hr
  ·simp_all
  ·simp_all
  ·-- onto nil
   have hux:ux = .slice none 0 0:=by cases aT hx;rfl
   subst hux
   split at hr
   ·cases hr
    obtain⟨v',w',h1,h2⟩:=bh (P:=P) κ.w t ty e i z sz by_ hu hi hz hsz hby hzs (.slice none 0 0) 0 [] (World.ownsRow_nil _ _ _ _) A m cc news (by rw[hrow.1,hm]) hat hone (by rw[hm];simp) (by rw[hm];simp)
    rcases h2 with ⟨_,rfl,rfl⟩ | ⟨h0,_⟩ | ⟨h0,_⟩
    ·exact⟨_,κ,h1,.pv _ _ .nils,Done.same c κ new,by simpa[tf] using hS⟩
    ·simp at hm;omega
    ·simp at hm;omega
   ·rename_i y0 r
    split at hr
    ·rename_i hroom
     cases hr
     obtain⟨k1,k2⟩:=jP hroom
     simp only[WG] at hm
     subst hm
     obtain⟨v',w',h1,h2⟩:=bh (P:=P) κ.w t ty e i z sz by_ hu hi hz hsz hby hzs (.slice none 0 0) 0 [] (World.ownsRow_nil _ _ _ _) A (r.length+1) cc news (by rw[hrow.1];rfl) hat hone k1 k2
     rcases h2 with ⟨h0,_⟩ | ⟨_,g,cap,cur,h0,_⟩ | ⟨_,cs,cap,rfl,rfl,q1,q2,q3,q4⟩
     ·omega
     ·cases h0
     ·simp only[W4,WO] at q1 q4
      have hnl:news.length=(r.length+1)*sz:=hrow.1
      have hle:(r.length+1)*sz<=cap*sz:=Xa _ q1
      obtain⟨κ',e1,e2,e3,e4⟩:=cC (T:=e) (f:=false) (l:=bQ (y0::r)) hS hw hn (by omega) (fun h=>by cases h) (eo q4 (by omega) hfr) κ.w.drew rfl rfl rfl rfl
      refine⟨_,κ',by rw[h1,e1],?_,e3,e4⟩
      simp only[W4]
      exact .row _ _ _ _ _ _ cap e2 (by omega) (fun _=>q3.symm) q1 q2
    ·cases hr
  ·-- onto a row of the call's own
   rename_i q s off len _
   split at hr
   ·rename_i e' f lw hσ
    split at hr
    ·rename_i hh
     obtain⟨rfl,rfl,rfl,hllw,hroom⟩:=hh
     cases hr
     obtain⟨k1,k2⟩:=jP hroom
     subst hm
     cases hx with
     | row0 _ _ hnm=>
       have hB:=hS.blk q
       rw[hσ] at hB
       obtain⟨rfl,rfl⟩:f=false/\lw=[]:=by
        rcases hB with ⟨h1,h2,_⟩ | ⟨_,_,_,h1,_⟩
        ·exact⟨h1,h2⟩
        ·rw[hnm] at h1;cases h1
       obtain⟨v',w',h1,h2⟩:=bh (P:=P) κ.w t ty e' i z s by_ hu hi hz hsz hby hzs (.slice none 0 0) 0 [] (World.ownsRow_nil _ _ _ _) A ys.length cc news (by rw[hrow.1]) hat hone k1 k2
       rw[List.take_nil,WO,W4]
       rcases h2 with ⟨h0,rfl,rfl⟩ | ⟨_,g,cap,cur,h0,_⟩ | ⟨_,cs,cap,rfl,rfl,q1,q2,q3,q4⟩
       ·have hys0:ys=[]:=WY h0
        subst hys0
        obtain⟨h3,h4,h5⟩:=qq (hS.drop q) hn e' s
        exact⟨_,⟨κ.w,fun r=>if r=new then some (.own (.slice none 0 0)) else κ.nm r,κ.imm⟩,h1,h5,h3,h4⟩
       ·exact absurd h0 (by simp)
       ·simp only[W4,WO] at q1 q4
        have hnl:news.length=ys.length*s:=hrow.1
        have hle:ys.length*s<=cap*s:=Xa _ q1
        obtain⟨κ',e1,e2,e3,e4⟩:=cC (T:=e') (f:=false) (l:=bQ ys) (hS.drop q) hw hn (by omega) (fun h=>by cases h) (eo q4 (by omega) hfr) κ.w.drew rfl rfl rfl rfl
        refine⟨_,κ',by rw[h1,e1],?_,e3,e4⟩
        rw[W4]
        exact .row _ _ _ _ _ _ cap e2 (by omega) (fun _=>q3.symm) q1 q2
     | row _ _ _ _ b N cap hnm h5 h6 h7 h8=>
       obtain⟨cur,hg,hcs,hlnw,hf,himm,hrelw,hcell⟩:=dt hS hσ hnm
       obtain⟨l,hl0,hll,hln,hrel⟩:∃ l,lw.take (len*s)=l/\l.length=len*s/\l.length<=N/\∀ (i:Nat) (x:AV),l[i]? = some x->ARel κ x (cur.getD i Go.undef):=by
        refine⟨_,rfl,by simp;omega,by simp;omega,fun i x hx=>?_⟩
        rw[Xl] at hx
        split at hx
        ·exact hrelw i x hx
        ·cases hx
       rw[hl0]
       have hcap:=h6 rfl
       have hown:κ.w.ownsRow 0 e' s (.slice (some ⟨b,0,none⟩) len cap) len (cur.toList.take (len*s)):=by
        refine⟨?_,.inr ⟨b,cap,cur,rfl,Xr _,hg,h7,h8,by omega,rfl⟩⟩
        simp;rw[hcs,<- hcap];exact Nat.min_eq_left (Xa _ h7)
       have hxl:(cur.toList.take (len*s)).length=len*s:=hown.1
       have hlrel:∀ (i:Nat) (x:AV),l[i]? = some x->ARel κ x ((cur.toList.take (len*s)).getD i Go.undef):=by
        intro i x hx
        have hi:i<l.length:=(WH.1 hx).1
        have:=hrel i x hx
        rw[aL] at this
        rw[WN,Xl,if_pos (by omega),<- WN]
        exact this
       have hall:=jR (κ:=κ) (by omega) hlrel hfr
       have hlen2:(l++bQ ys).length=(len+ys.length)*s:=by
        have:news.length=ys.length*s:=hrow.1
        rw[WF,hfl,this,hll,Nat.add_mul]
       have hlen3:(l++bQ ys).length=len*s+news.length:=by rw[WF,hfl,hll]
       obtain⟨v',w',h1,h2⟩:=bh (P:=P) κ.w t ty e' i z s by_ hu hi hz hsz hby hzs _ _ _ hown A ys.length cc news (by rw[hrow.1]) hat hone k1 k2
       have hb0:∀ b',some b=some b'->σ q≠.none/\∃ d,κ.nm q=some d/\d.block=some b':=fun b' hb=>⟨by rw[hσ];simp,_,hnm,hb⟩
       rcases h2 with ⟨h0,rfl,rfl⟩ | ⟨_,g',cap',cur',h0,hg',q1,q2,q3,q4,rfl,rfl⟩ | ⟨_,cs,cap',rfl,rfl,q1,q2,q3,q4⟩
       ·have hys0:ys=[]:=WY h0
        subst hys0
        obtain⟨h3,h4⟩:=yP (d:=.blk b N) (Bn:=.cells e' false (l++bQ [])) (q:=fun _ _=>False) (b':=b) (b0:=some b) (r0:=q) hS hw ⟨rfl,rfl,rfl,WX _,fun _ _ _=>rfl⟩ hn rfl (.inl rfl) (fun _ _ h=>h.elim) (fun _ _ _ h=>h) (fun _ _ _ _ _ h=>h) hb0
        refine⟨_,(⟨κ.w,fun r=>if r=new then some (Den.blk b N) else κ.nm r,fun b o=>κ.imm b o\/False⟩:Kap),h1,?_,h3,h4 (.inr ⟨b,N,cur,by simp,hg,hcs,?_,fun h=>(by cases h),fun i x hx=>?_,fun o hi=>hi.elim (himm o) id⟩)⟩
        ·exact .row _ _ _ _ b N cap (by simp) h5 h6 (by simpa using h7) h8
        ·simp[bQ];omega
        ·have hx':l[i]? = some x:=by simpa[bQ] using hx
         exact (hrel i x hx').ext h3.ext
       ·cases h0
        rw[hg] at hg';cases hg'
        have hnl2:news.length=ys.length*s:=hrow.1
        have hcl:cur.toList.length=cur.size:=by simp
        have hfit:len*s+news.length<=cur.toList.length:=by
         rw[hnl2,hcl,q3,<- Nat.add_mul];exact Xa _ q1
        have hgrow:κ.w.grownBy (κ.w.setRow b (cur.toList.take (len*s)++news++cur.toList.drop (len*s+news.length)).toArray) (some b):=
         ⟨rfl,rfl,rfl,by simp,fun k _ hk=>setRow_other κ.w b k _ (fun h=>hk (by rw[h]))⟩
        have hnewrow:=setRow_heap κ.w b cur (cur.toList.take (len*s)++news++cur.toList.drop (len*s+news.length)).toArray e' (0,0) hg
        have htk:=o8 cur.toList (len*s) 0 news _ rfl hfit
        obtain⟨h3,h4⟩:=yP (d:=.blk b N) (Bn:=.cells e' false (l++bQ ys)) (q:=fun _ _=>False) (b':=b) (b0:=some b) (r0:=q) hS hw hgrow hn rfl (.inl rfl)
         (fun _ _ h=>h.elim) (fun o _ ho=>absurd ho (himm o)) (fun b' o _ hb ho=>by cases hb;exact absurd ho (himm o)) hb0
        refine⟨_,_,h1,.row _ _ _ _ b N cap (by simp) h5 h6 q1 h8,h3,h4 (.inr ⟨b,N,_,by simp,hnewrow,?_,?_,fun h=>(by cases h),?_,fun o hi=>hi.elim (himm o) id⟩)⟩
        ·simp only[XQ,WF,Xd,Xh];omega
        ·rw[hlen2,<- hcap];exact Xa _ q1
        ·have hz:=eo (κ:=κ) (l:=l++bQ ys) (cs:=(cur.toList.take (len*s)++news++cur.toList.drop (len*s+news.length)).toArray) (n:=len*s+news.length) (by simpa using htk) (by rw[hlen3];exact WX _) hall
         exact fun i x hx=>(hz i x hx).ext h3.ext
       ·obtain⟨κ',e1,e2,e3,e4⟩:=cC (T:=e') (f:=false) (l:=l++bQ ys) (hS.drop q) hw hn (by rw[hlen2,q3];exact Xa _ q1) (fun h=>by cases h) (eo q4 (by omega) hall) κ.w.drew rfl rfl rfl rfl
        exact⟨_,κ',by rw[h1,e1],.row _ _ _ _ _ _ cap' e2 (by omega) (fun _=>q3.symm) q1 q2,e3,e4⟩
    ·cases hr
   ·cases hr
  ·cases hr
 ·cases hr
end
section
variable {P:Program}{c:Ctx}{κ:Kap}{σ:aE}
theorem xF {sz:Nat}:∀ (vs:List AV) (pre:List AV) (i:Nat),pre.length=i*sz->(∀ v∈vs,v.known=true/\v.cells.length=sz) ->
  iF (pre++Xt (vs.length*sz) AV.any) ((vs.zipIdx i).map fun p=>(p.2*sz,sz,p.1))=some (pre++vs.flatMap AV.cells)
 | [],pre,i,_,_=>by simp[iF]
 | v::r,pre,i,hp,h=>by
   obtain⟨hk,hs⟩:=h v (by simp)
   simp only[List.zipIdx_cons,WP,iF]
   rw[if_pos ⟨hk,hs,by simp only[WF,List.length_replicate,WG,hp,Nat.succ_mul];omega⟩]
   have e:(pre++Xt ((r.length+1)*sz) AV.any).take (i*sz)++v.cells++(pre++Xt ((r.length+1)*sz) AV.any).drop (i*sz+sz)=(pre++v.cells)++Xt (r.length*sz) AV.any:=by
    rw[<- hp,List.take_left,List.drop_append]
    rw[List.drop_eq_nil_of_le (by omega)]
    simp only[WO,List.drop_replicate]
    congr 2
    rw[Nat.succ_mul];omega
   simp only[WG]
   rw[e,xF r (pre++v.cells) (i+1) (by rw[WF,hp,hs,Nat.succ_mul]) (fun v hv=>h v (by simp[hv]))]
   simp
theorem nV {t e sz len:Nat}{z:Value}{parts:Array (Nat×Value)}{vs:List AV}{w:World}(hu:P.underlying t=some (.slice e))(hn:iW P e=some sz)(hz:(zeroValue e).run P w = .ok z w)
  (hbig:len*sz<=2 ^ 24) (hidx:parts.toList.map (·.1)=Xq len) (hrel:∀ (i:Nat) (v:AV),vs[i]? = some v->ARel κ v ((parts.toList.map (·.2)).getD i Go.undef)) (hlen:vs.length=len)
  (hok:∀ v∈vs,v.known=true/\v.cells.length=sz) :
  ∃ us:Array Value,(Instr.buildSlice t len parts).run P w = .ok (.slice (some ⟨w.heap.size,0,none⟩) len len) (w.alloc (.cells us e))/\us.size=len*sz /\
    ∀ (i:Nat) (x:AV),(vs.flatMap AV.cells)[i]? = some x->ARel κ x (us.getD i Go.undef):=by
 have hfl:(vs.flatMap AV.cells).length=len*sz:=by
  rw[List.flatMap_def,jt (sz:=sz)]
  ·simp[hlen]
  ·intro l hl
   obtain⟨y,hy,rfl⟩:=Xo.1 hl
   exact (hok y hy).2
 have hplen:parts.toList.length=len:=by
  have:=congrArg List.length hidx;simpa using this
 let qs:List (Nat×Nat×Nat×AV×Value):=(Xq len).map fun i=>(i,i*sz,sz,vs.getD i .any,(parts.toList.map (·.2)).getD i Go.undef)
 have hq1:qs.map (fun q=>(q.2.1,q.2.2.1,q.2.2.2.1))=(vs.zipIdx 0).map fun p=>(p.2*sz,sz,p.1):=by
  apply List.ext_getElem?
  intro i
  simp only[qs,List.map_map,WW,List.getElem?_zipIdx,W4]
  by_cases hi:i<len
  ·rw[List.getElem?_range hi,WE (show i<vs.length by omega)]
   simp[WN,show i<vs.length by omega]
  ·rw[Xu (by simp;omega),Xu (by omega)]
   rfl
 have hq2:qs.map (fun q=>(q.1,q.2.2.2.2))=parts.toList:=by
  apply List.ext_getElem?
  intro i
  simp only[qs,List.map_map,WW]
  by_cases hi:i<len
  ·rw[List.getElem?_range hi,WE (show i<parts.toList.length by omega)]
   have h1:(parts.toList.map (·.1))[i]? = some i:=by rw[hidx,List.getElem?_range hi]
   rw[WW,WE (show i<parts.toList.length by omega)] at h1
   simp only[WZ,WJ] at h1
   simp only[WZ,Function.comp,WN,WW,WE (show i<parts.toList.length by omega),XK]
   congr 1
   exact Prod.ext h1.symm rfl
  ·rw[Xu (by simp;omega),Xu (by omega)]
   rfl
 let zero:Array Value:=if len*sz=0 then #[] else z.cells
 obtain⟨us,h1,h2,h3⟩:=Cj (κ:=κ) (fun i=>some (i*sz,sz)) qs (Xt (len*sz) .any) ((Array.range (len*sz)).map (zero[· % zero.size]!)) (vs.flatMap AV.cells) (by simp) (fun i x hx=>by
   have:x = .any:=by
    have:=WK hx
    exact (List.mem_replicate.1 this).2
   subst this;exact .any _) (by
   intro q hq
   simp only[qs,Xo,List.mem_range] at hq
   obtain⟨i,hi,rfl⟩:=hq
   refine⟨rfl,?_⟩
   have hv:=WE (show i<vs.length by omega)
   have:=hrel i _ hv
   simpa[WN,show i<vs.length by omega] using this) (by
   rw[hq1]
   have:=xF vs [] 0 (by simp) hok
   simpa[hlen] using this)
 rw[hq2] at h1
 refine⟨us,?_,by rw[h2,hfl],h3⟩
 simp only[Instr.buildSlice,Sem.run_bind,run_underlying hu,Result.andThen_ok,cf hn]
 rw[if_neg (by omega)]
 by_cases h0:len*sz=0
 ·have hz0:zero = #[]:=by simp[zero,h0]
  rw[hz0] at h1
  rw[if_pos h0]
  simp only[Sem.run_bind,Sem.run_pure,Result.andThen_ok]
  rw[h1]
  simp[newRow,World.alloc_eq]
 ·have hz0:zero=z.cells:=by simp[zero,h0]
  rw[hz0] at h1
  rw[if_neg h0]
  simp only[Sem.run_bind,hz,Sem.run_pure,Result.andThen_ok]
  rw[h1]
  simp[newRow,World.alloc_eq]
theorem oR {t e sz len:Nat}{z:Value}{parts:Array (Nat×Value)}{vs:List AV}{ps:List PV}
  (hu:P.underlying t=some (.slice e)) (hn:iW P e=some sz) (hz:(zeroValue e).run P κ.w = .ok z κ.w)
  (hbig:len*sz<=2 ^ 24) (hidx:parts.toList.map (·.1)=Xq len) (hrel:∀ (i:Nat) (v:AV),vs[i]? = some v->ARel κ v ((parts.toList.map (·.2)).getD i Go.undef))
  (hl:vs.length=len/\len<=9223372036854775807) (hps:pvs vs=some ps) (hall:ps.all (fun p=>p.cells.length == sz&&p.cells.all PV.one)=true) :
  ∃ us:Array Value,(Instr.buildSlice t len parts).run P κ.w = .ok (.slice (some ⟨κ.w.heap.size,0,none⟩) len len) (κ.w.alloc (.cells us e))/\us.size=len*sz/\f7 κ sz ps us.toList:=by
 have hps':∀ (i:Nat) (p:PV),ps[i]? = some p->p.cells.length=sz/\∀ y∈p.cells,y.one=true:=by
  intro i p hp
  have:=(W8.1 hall) p (WK hp)
  simp only[WT,beq_iff_eq,W8] at this
  exact this
 have hvp:∀ x∈vs,x.known=true/\x.cells.length=sz:=by
  intro x hx
  obtain⟨i,hi⟩:=XO hx
  have hil:i<ps.length:=by rw[cz hps];exact (WH.1 hi).1
  obtain⟨x',hx',hxp⟩:=dj hps i _ (WE hil)
  rw[hi] at hx';cases hx'
  have h1:=(hps' i _ (WE hil)).1
  cases x with
  | pv q=>simp only[AV.toPV,WJ] at hxp;subst hxp;exact⟨rfl,by simpa[AV.cells] using h1⟩
  | olist a b l=>simp only[AV.toPV,WJ] at hxp;rw[<- hxp] at h1;exact⟨rfl,by simpa[AV.cells,PV.cells] using h1⟩
  | _=>simp[AV.toPV] at hxp
 obtain⟨us,h1,h2,h3⟩:=nV (P:=P) (κ:=κ) (w:=κ.w) hu hn hz hbig hidx hrel hl.1 hvp
 have hrow:f7 κ sz ps us.toList:=by
  refine⟨by simp only[Array.length_toList];rw[h2,cz hps,hl.1],fun i x hx=>(hps' i x hx).1,fun i x j y hx hy=>?_⟩
  have hj:j<sz:=by rw[<- (hps' i x hx).1];exact (WH.1 hy).1
  obtain⟨x',hx',hxp⟩:=dj hps i x hx
  have hflat:(vs.flatMap AV.cells)[i*sz+j]? = some (x'.cells.getD j .any):=by
   rw[List.flatMap_def,pW hj _ _ (by
    intro l hl
    obtain⟨y,hy,rfl⟩:=Xo.1 hl
    exact (hvp y hy).2)]
   rw[WW,hx']
   have:j<x'.cells.length:=by rw[(hvp x' (WK hx')).2];exact hj
   simp[WN,this]
  have hr3:=h3 _ _ hflat
  have hc:∃ q,x'.cells.getD j .any=q/\q.toPV=some y/\q.one=true:=by
   have hy1:=(hps' i x hx).2 y (WK hy)
   cases x' with
   | pv q=>
     simp only[AV.toPV,WJ] at hxp;subst hxp
     refine⟨.pv y,?_,rfl,hy1⟩
     simp[AV.cells,WN,hy]
   | olist a b l=>
     simp only[AV.toPV,WJ] at hxp;subst hxp
     simp only[PV.cells] at hy
     rcases j with _ | j
     ·simp at hy;subst hy
      exact⟨_,rfl,rfl,rfl⟩
     ·simp at hy
   | _=>simp[AV.toPV] at hxp
  obtain⟨q,hq,hqp,hq1⟩:=hc
  rw[hq] at hr3
  rw[<- aL]
  exact⟨cr hqp hr3,hr3.oneCell hq1⟩
 exact⟨us,h1,h2,hrow⟩
theorem HH {mu:Bool}{t e sz len new:Nat}{z:Value}{parts:Array (Nat×Value)}{vs:List AV}{v:AV}{δ:List (Nat×Blk)}(hS:SRel c κ σ)(hw:c.w0.heap.size<=κ.w.heap.size)(hnew:κ.nm new=none)
  (hu:P.underlying t=some (.slice e)) (hn:iW P e=some sz) (hz:(zeroValue e).run P κ.w = .ok z κ.w)
  (hbig:len*sz<=2 ^ 24) (hidx:parts.toList.map (·.1)=Xq len) (hrel:∀ (i:Nat) (v:AV),vs[i]? = some v->ARel κ v ((parts.toList.map (·.2)).getD i Go.undef))
  (hr:iz mu e sz len new vs=some (v,δ)) :
  ∃ u κ',(Instr.buildSlice t len parts).run P κ.w = .ok u κ'.w/\ARel κ' v u/\Done c κ κ' new/\SRel c κ' (σ.upd δ):=by
 unfold iz at hr
 split at hr
 ·rename_i hl
  have hmax:len<=maxLen:=by unfold maxLen;omega
  split at hr
  ·split at hr
   ·rename_i ps hps
    split at hr
    ·rename_i hall
     cases hr
     obtain⟨us,h1,h2,hrow⟩:=oR (P:=P) hu hn hz hbig hidx hrel hl hps hall
     obtain⟨κ',e1,e2,e3,e4⟩:=mr (e:=e) hS hw hnew hrow (n:=len) (cap:=len) (by rw[cz hps,hl.1]) (WX _) hmax h2 (Xm (by simp;omega)) κ.w rfl rfl rfl rfl
     exact⟨_,κ',by rw[h1,e1],e2,e3,e4⟩
    ·cases hr
   ·cases hr
  ·split at hr
   ·rename_i hall
    cases hr
    have hvp:∀ x∈vs,x.known=true/\x.cells.length=sz:=by
     intro x hx
     have:=(W8.1 hall) x hx
     simp only[WT,beq_iff_eq] at this
     exact this.1
    obtain⟨us,h1,h2,h3⟩:=nV (P:=P) (κ:=κ) (w:=κ.w) hu hn hz hbig hidx hrel hl.1 hvp
    have hfl:(vs.flatMap AV.cells).length=us.size:=by
     rw[List.flatMap_def,jt (sz:=sz)]
     ·simp[hl.1,h2]
     ·intro l hl
      obtain⟨y,hy,rfl⟩:=Xo.1 hl
      exact (hvp y hy).2
    obtain⟨κ',e1,e2,e3,e4⟩:=cC (T:=e) (f:=true) hS hw hnew (Nat.le_of_eq hfl) (fun _=>hfl) h3 κ.w rfl rfl rfl rfl
    exact⟨_,κ',by rw[h1,e1],.row _ _ _ _ _ _ len e2 (by omega) (fun _=>h2.symm) (WX _) hmax,e3,e4⟩
   ·cases hr
 ·cases hr
end
section
variable {P:Program}{c:Ctx}{κ:Kap}{σ:aE}
theorem RC {w:World}{imm:Nat->Nat->Prop}{d:TypeDesc}{kd:Option IntKind}{k q:PV}{u v:Value}{b:Bool}(hd:d7 d=some kd)(hk:PRel w imm k u)(hkd:Ak kd k=true)(hq:PRel w imm q v)(h:keq k q=some b) :
  Instr.sameNow d u v=some b/\(b=true->v=u):=by
 unfold keq at h
 split at h
 ·rename_i x y
  cases hk with
  | str s hs=>
    cases hq with
    | str s' hs'=>
      have hkd':kd=none:=by cases kd<;>simp_all [Ak]
      subst hkd'
      have hd':d = .string:=by cases d<;>simp_all [d7]
      subst hd'
      have e:(s == s')=(s.data.toList == s'.data.toList):=by
       by_cases h:s=s'
       ·subst h;rw[(MapKept.bytes_beq s s).2 rfl];simp
       ·have h1:(s == s')=false:=by
         cases hb:s == s' with
         | false=>rfl
         | true=>exact absurd ((MapKept.bytes_beq s s').1 hb) h
        have h2:s.data.toList≠s'.data.toList:=fun e=>h (by
         obtain⟨a⟩:=s;obtain⟨b⟩:=s'
         simp only at e
         rw[Array.toList_inj.1 e])
        rw[h1];simpa using h2
      cases h
      refine⟨by simp[Instr.sameNow,e],fun hb=>?_⟩
      rw[<- e] at hb
      rw[(MapKept.bytes_beq s s').1 hb]
 ·rename_i j x j' y
  split at h
  ·rename_i hj
   subst hj
   cases hk with
   | int _ _=>
     cases hq with
     | int _ _=>
       cases h
       obtain⟨kk,rfl⟩:∃ kk,kd=some kk:=by cases kd<;>simp_all [Ak]
       have hd':d = .int kk:=by cases d<;>simp_all [d7]
       subst hd'
       refine⟨by simp[Instr.sameNow],fun hb=>?_⟩
       simp only[beq_iff_eq] at hb
       rw[hb]
  ·cases h
 ·cases h
theorem mV {w:World}{imm:Nat->Nat->Prop}{d:TypeDesc}{kd:Option IntKind}{k:PV}{u:Value}(hd:d7 d=some kd)(hk:PRel w imm k u)(hkd:Ak kd k=true) :
  ∀ (es:List MapEntry) (l:List (PV×PV)) (i:Nat),es.length=l.length->(∀ (j:Nat) (e:MapEntry),es[j]? = some e->∃ p,l[j]? = some p/\PRel w imm p.1 e.key/\PRel w imm p.2 e.val) ->
    ∀ r,j2 k l i=some r->(r=none/\Instr.findNow d u es i=some none) \/
      ∃ j p e,r=some (i+j,p.2)/\l[j]? = some p/\es[j]? = some e/\Instr.findNow d u es i=some (some (i+j,e.val))/\PRel w imm p.2 e.val/\e.key=u
 | [],[],i,_,_,r,h=>by cases h;exact .inl ⟨rfl,rfl⟩
 | [],_::_,_,hl,_,_,_=>by simp at hl
 | _::_,[],_,hl,_,_,_=>by simp at hl
 | e::es,p::l,i,hl,hr,r,h=>by
   obtain⟨p',hp',h1,h2⟩:=hr 0 e rfl
   cases hp'
   unfold j2 at h
   cases hq:keq k p.1 with
   | none=>rw[hq] at h;cases h
   | some b=>
     rw[hq] at h
     obtain⟨s1,s2⟩:=RC hd hk hkd h1 hq
     cases b with
     | true=>
       cases h
       exact .inr ⟨0,p,e,rfl,rfl,rfl,by simp[Instr.findNow,s1],h2,s2 rfl⟩
     | false=>
       rcases mV hd hk hkd es l (i+1) (by simpa using hl) (fun j e' he=>hr (j+1) e' (by simpa using he)) r h with ⟨q1,q2⟩ | ⟨j,p',e',q1,q2,q3,q4,q5,q6⟩
       ·exact .inl ⟨q1,by simp[Instr.findNow,s1,q2]⟩
       ·refine .inr ⟨j+1,p',e',?_,by simpa using q2,by simpa using q3,?_,q5,q6⟩
        ·rw[q1,Nat.add_assoc,Nat.add_comm 1 j]
        ·simp only[Instr.findNow,s1,q4]
         rw[Nat.add_assoc,Nat.add_comm 1 j]
theorem Lp {w:World}{imm:Nat->Nat->Prop}{d:TypeDesc}{kd:Option IntKind}{k:PV}{u:Value}(hd:d7 d=some kd)(hk:PRel w imm k u)(hkd:Ak kd k=true):MapKept.IsKey d u:=by
 cases kd with
 | none=>
   have hd':d = .string:=by cases d<;>simp_all [d7]
   subst hd'
   cases k<;>simp[Ak] at hkd
   cases hk
   trivial
 | some kk=>
   have hd':d = .int kk:=by cases d<;>simp_all [d7]
   subst hd'
   cases k<;>simp[Ak] at hkd
   cases hk
   exact hkd.symm
theorem MS {t:TypeId}{new:Nat}(hS:SRel c κ σ)(hw:c.w0.heap.size<=κ.w.heap.size)(hn:κ.nm new=none) :
  ∃ u κ',(Instr.makeMap t none).run P κ.w = .ok u κ'.w/\ARel κ' (.mp new) u/\Done c κ κ' new/\SRel c κ' (σ.upd [(new,.mp [])]):=by
 obtain⟨h1,h2⟩:=Rq hS hw hn (.map #[] 0) (.mp κ.w.heap.size) (.mp []) (fun _=>False) rfl κ.w rfl rfl rfl rfl
 refine⟨.map (some κ.w.heap.size),_,rfl,.mp _ _ (by simp),h1,h2 ⟨κ.w.heap.size,#[],0,by simp,(MapKept.heap_alloc κ.w _).1,by simp,rfl,?_⟩⟩
 rintro o (hi | ⟨_,hi⟩)
 ·have:=hS.immLt _ _ hi;omega
 ·exact hi
theorem Lm (hS:SRel c κ σ){r b:Nat}{l:List (PV×PV)}(h:σ r = .mp l)(hb:κ.nm r=some (.mp b)) :
  ∃ es ck,κ.w.heap[b]? = some (.map es ck)/\(∀ (i:Nat) (e:MapEntry),es[i]? = some e->∃ p,l[i]? = some p/\PRel κ.w κ.imm p.1 e.key/\PRel κ.w κ.imm p.2 e.val)/\es.size=l.length/\∀ o,¬ κ.imm b o:=by
 have hB:=hS.blk r
 rw[h] at hB
 obtain⟨b',es,ck,h1,h2,h3,h4,h5⟩:=hB
 rw[hb] at h1;cases h1
 exact⟨es,ck,h2,h3,h4,h5⟩
theorem MR {t kt et:TypeId}{d:TypeDesc}{kd:Option IntKind}{co:Bool}{i:TypeInfo}{z:Value}{p:PV}{x k v:AV}{ux uk:Value}(hS:SRel c κ σ)(ht:P.underlying t=some (.map kt et))(hdk:P.underlying kt=some d)
  (hd:d7 d=some kd) (hi:P.info? et=some i) (hz:i.zero=some z) (hp:cV z=some p) (hx:ARel κ x ux) (hk:ARel κ k uk) (hr:pp kd co p σ x k=some v) :
  ∃ u,(Instr.lookup t ux uk co).run P κ.w = .ok u κ.w/\ARel κ v u:=by
 unfold pp at hr
 split at hr
 ·rename_i r kp
  split at hr
  ·rename_i l hσ
   split at hr
   ·rename_i hkd
    cases hx with
    | mp _ b hnm=>
      obtain⟨es,ck,g1,g2,g3,g4⟩:=Lm hS hσ hnm
      have hkr:=aT hk
      have hkey:=Lp hd hkr hkd
      have hzr:(zeroValue et).run P κ.w = .ok z κ.w:=by simp[zeroValue,typeInfo,hi,hz]
      have hg2:∀ (j:Nat) (e:MapEntry),es.toList[j]? = some e->∃ p,l[j]? = some p/\PRel κ.w κ.imm p.1 e.key/\PRel κ.w κ.imm p.2 e.val:=fun j e he=>g2 j e (by simpa using he)
      split at hr
      ·rename_i n q hf
       rcases mV hd hkr hkd es.toList l 0 (by simpa using g3) hg2 _ hf with ⟨q1,_⟩ | ⟨j,p',e,q1,q2,q3,q4,q5,q6⟩
       ·cases q1
       cases q1
       cases co with
       | true=>
         cases hr
         refine⟨.tuple #[e.val,.bool true],by simp[Instr.lookup,run_underlying ht,MapKept.run_getObj_map g1,MapKept.run_checkKey hdk hkey,MapKept.run_findKey hdk q4],.pv _ _ (.tup _ _ rfl fun j x hx=>?_)⟩
         match j with
         | 0=>simp at hx;subst hx;simpa using q5
         | 1=>simp at hx;subst hx;simpa using PRel.bool true
         | j+2=>simp at hx
       | false=>
         cases hr
         exact⟨e.val,by simp[Instr.lookup,run_underlying ht,MapKept.run_getObj_map g1,MapKept.run_checkKey hdk hkey,MapKept.run_findKey hdk q4],.pv _ _ q5⟩
      ·rename_i hf
       rcases mV hd hkr hkd es.toList l 0 (by simpa using g3) hg2 _ hf with ⟨_,q4⟩ | ⟨j,p',e,q1,_⟩
       rotate_left
       ·cases q1
       cases co with
       | true=>
         cases hr
         refine⟨.tuple #[z,.bool false],by simp[Instr.lookup,run_underlying ht,MapKept.run_getObj_map g1,MapKept.run_checkKey hdk hkey,MapKept.run_findKey hdk q4,hzr],.pv _ _ (.tup _ _ rfl fun j x hx=>?_)⟩
         match j with
         | 0=>simp at hx;subst hx;simpa using nk hp
         | 1=>simp at hx;subst hx;simpa using PRel.bool false
         | j+2=>simp at hx
       | false=>
         cases hr
         exact⟨z,by simp[Instr.lookup,run_underlying ht,MapKept.run_getObj_map g1,MapKept.run_checkKey hdk hkey,MapKept.run_findKey hdk q4,hzr],.pv _ _ (nk hp)⟩
      ·cases hr
   ·cases hr
  ·cases hr
 ·cases hr
theorem QA {t kt et:TypeId}{d:TypeDesc}{kd:Option IntKind}{new:Nat}{x k v:AV}{ux uk uv:Value}{δ:List (Nat×Blk)}(hS:SRel c κ σ)(ht:P.underlying t=some (.map kt et))(hdk:P.underlying kt=some d)
  (hd:d7 d=some kd) (hx:ARel κ x ux) (hk:ARel κ k uk) (hv:ARel κ v uv) (hr:po kd σ x k v=some δ) :
  ∃ w',(Instr.mapUpdate t ux uk uv).run P κ.w = .ok () w'/\Done c κ ⟨w',κ.nm,κ.imm⟩ new/\SRel c ⟨w',κ.nm,κ.imm⟩ (σ.upd δ):=by
 unfold po at hr
 split at hr
 ·rename_i r kp
  split at hr
  ·rename_i l q hσ hq
   split at hr
   ·rename_i hkd
    cases hx with
    | mp _ b hnm=>
      obtain⟨es,ck,g1,g2,g3,g4⟩:=Lm hS hσ hnm
      have hkr:=aT hk
      have hkey:=Lp hd hkr hkd
      have hqv:PRel κ.w κ.imm q uv:=cr hq hv
      have hg2:∀ (j:Nat) (e:MapEntry),es.toList[j]? = some e->∃ p,l[j]? = some p/\PRel κ.w κ.imm p.1 e.key/\PRel κ.w κ.imm p.2 e.val:=fun j e he=>g2 j e (by simpa using he)
      have step:∀ (es':Array MapEntry) (ck':Nat) (l':List (PV×PV)),(∀ (i:Nat) (e:MapEntry),es'[i]? = some e->∃ p,l'[i]? = some p/\PRel κ.w κ.imm p.1 e.key/\PRel κ.w κ.imm p.2 e.val)->es'.size=l'.length ->
        Done c κ ⟨{ κ.w with heap:=κ.w.heap.setIfInBounds b (.map es' ck') },κ.nm,κ.imm⟩ new/\SRel c ⟨{ κ.w with heap:=κ.w.heap.setIfInBounds b (.map es' ck') },κ.nm,κ.imm⟩ (σ.upd [(r,.mp l')]):=by
       intro es' ck' l' k1 k2
       obtain⟨h1,h2⟩:=B8 hS (r0:=r) (b0:=b) (d0:=.mp b) (Bo:=.mp l') (w':={ κ.w with heap:=κ.w.heap.setIfInBounds b (.map es' ck') }) new
        rfl rfl rfl (by simp) (fun b' hb'=>(MapKept.heap_set g1).2 b' hb') g4 (by rw[hσ];simp) hnm rfl
       refine⟨h1,h2 ⟨b,es',ck',hnm,(MapKept.heap_set g1).1,fun i e he=>?_,k2,g4⟩⟩
       obtain⟨p,e1,e2,e3⟩:=k1 i e he
       exact⟨p,e1,e2.ext h1.ext,e3.ext h1.ext⟩
      split at hr
      ·rename_i n q' hf
       cases hr
       rcases mV hd hkr hkd es.toList l 0 (by simpa using g3) hg2 _ hf with ⟨q1,_⟩ | ⟨j,p',e,q1,q2,q3,q4,q5,q6⟩
       ·cases q1
       cases q1
       rw[W4] at q4 ⊢
       have he:es[j]? = some e:=by simpa using q3
       obtain⟨h1,h2⟩:=step (es.modify j fun e=>{ e with key:=uk,val:=uv }) ck (l.set j (kp,q)) (fun i e' he'=>by
        rw[XR] at he'
        rw[List.getElem?_set]
        by_cases hij:j=i
        ·subst hij
         rw[if_pos rfl,he] at he'
         cases he'
         have hlt:j<l.length:=(WH.1 q2).1
         exact⟨(kp,q),by simp[hlt],hkr,hqv⟩
        ·rw[if_neg hij] at he'
         rw[if_neg hij]
         exact g2 i e' he') (by simpa using g3)
       refine⟨_,?_,h1,h2⟩
       have hke:e.key=uk:=q6
       simp[Instr.mapUpdate,run_underlying ht,MapKept.run_getObj_map g1,MapKept.run_checkKey hdk hkey,MapKept.run_findKey hdk q4,he,hke,MapKept.run_keyThatStays hkey,MapKept.run_setObj_map _ g1]
      ·rename_i hf
       cases hr
       rcases mV hd hkr hkd es.toList l 0 (by simpa using g3) hg2 _ hf with ⟨_,q4⟩ | ⟨j,p',e,q1,_⟩
       rotate_left
       ·cases q1
       obtain⟨h1,h2⟩:=step (es.push { key:=uk,val:=uv,born:=ck }) (ck+1) (l++[(kp,q)]) (fun i e' he'=>by
        rw[Array.getElem?_push] at he'
        split at he'
        ·rename_i hi
         cases he'
         subst hi
         exact⟨(kp,q),by simp[g3],hkr,hqv⟩
        ·have hlt:i<l.length:=by have:=(WU.1 he').1;omega
         obtain⟨p,e1,e2⟩:=g2 i e' he'
         exact⟨p,by rw[Xe hlt];exact e1,e2⟩) (by simp[g3])
       refine⟨_,?_,h1,h2⟩
       simp[Instr.mapUpdate,run_underlying ht,MapKept.run_getObj_map g1,MapKept.run_checkKey hdk hkey,MapKept.run_findKey hdk q4,MapKept.run_setObj_map _ g1]
      ·cases hr
   ·cases hr
  ·cases hr
 ·cases hr
end
def kf:String:= "internal/abi.NoEscape"
def V4 (P:Program)(f:Nat):Bool:=
 match P.funcs[f]? with
 | some fn=>fn.body.isNone&&(fn.name == kf)&&(Extern.allNextRows.lookup fn.origin).isNone
 | none=>false
def j5:String:= "internal/bytealg.IndexByteString"
def V3 (P:Program)(f:Nat):Bool:=
 match P.funcs[f]? with
 | some fn=>fn.body.isNone&&(fn.name == j5)&&(Extern.allNextRows.lookup fn.origin).isNone
 | none=>false
def vg (P:Program)(t:TypeId):Option (TypeId×Nat):=
 match P.underlying t with
 | some (.slice e)=>match P.info? e with
   | some i=>match i.zero with
     | some (.int .u8 z)=>if z=0/\i.size=1 then some (e,i.bytes) else none
     | _=>none
   | none=>none
 | _=>none
def Tg (P:Program)(t:TypeId)(x k v:Operand):Option XOp:=
 match P.underlying t with
 | some (.map kt _)=>match P.underlying kt,cX x,cX k,cX v with
   | some d,some ax,some ak,some av=>(d7 d).map fun kd=>.mset kd ax ak av
   | _,_,_,_=>none
 | _=>none
def UN (P:Program)(mu:Bool):Op->Option XOp
 | .call { callee:=.builtin .append,args,argTypes }=>match args.toList,argTypes.toList with
   | [x,y],[t,t']=>match P.underlying t,P.underlying t' with
     | some (.slice _),some .string=>match vg P t,cX x,cX y with
       | some (e,b),some ax,some ay=>if mu=true then some (.apps e b ax ay) else none
       | _,_,_=>none
     | _,_=>none
   | _,_=>none
 | .call { callee:=.value (.func f),args,argTypes:=_ }=>match args.toList with
   | [x,y]=>match V3 P f,cX x,cX y with
     | true,some ax,some ay=>some (.idxb ax ay)
     | _,_,_=>none
   | [x]=>match V4 P f,cX x with
     | true,some ax=>some (.noesc ax)
     | _,_=>none
   | _=>none
 | .convert s d x=>match P.underlying s,P.underlying d with
   | some (.pointer t),some .unsafePointer=>match iW P t,cX x with
     | some n,some ax=>if n≠0 then some (.ucast 0 0 false ax) else none
     | _,_=>none
   | some .unsafePointer,some (.pointer u)=>match iW P u,cX x with
     | some n,some ax=>if liesAt P P.depth u (n / P.cellsOf u) 0 u 1=true then some (.ucast u n true ax) else none
     | _,_=>none
   | some .string,some (.slice e)=>match P.underlying e,cX x with
     | some (.int .u8),some ax=>some (.ofStr ax)
     | _,_=>none
   | some (.slice e),some (.slice _)=>match P.underlying e,cX x with
     | some (.int .u8),some ax=>if s=d then some (.same ax) else none
     | _,_=>none
   | _,_=>none
 | .binOp .eql t x y _=>match mu,P.underlying t with
   | true,some (.pointer te)=>match P.info? te,cX x,cX y with
     | some _,some ax,some ay=>some (.peq false ax ay)
     | _,_,_=>none
   | true,some (.interface _)=>match y,cX x,cX y with
     | .const _,some ax,some ay=>some (.inil false ax ay)
     | _,_,_=>none
   | _,_=>none
 | .binOp .neq t x y _=>match mu,P.underlying t with
   | true,some (.pointer te)=>match P.info? te,cX x,cX y with
     | some _,some ax,some ay=>some (.peq true ax ay)
     | _,_,_=>none
   | true,some (.interface _)=>match y,cX x,cX y with
     | .const _,some ax,some ay=>some (.inil true ax ay)
     | _,_,_=>none
   | _,_=>none
 | .call { callee:=.builtin .unsafeSliceData,args,argTypes:=_ }=>match args.toList with
   | [x]=>(cX x).map .sdata
   | _=>none
 | .call { callee:=.builtin .unsafeString,args,argTypes }=>match args.toList,argTypes.toList with
   | [x,y],[pt,_]=>match P.underlying pt with
     | some (.pointer e)=>match cX x,cX y with
       | some ax,some ay=>if P.cellsOf e=1 then some (.ustr e ax ay) else none
       | _,_=>none
     | _=>none
   | _,_=>none
 | .makeMap _ none=>some .mkmap
 | .lookup t x k co=>match P.underlying t with
   | some (.map kt et)=>match P.underlying kt,P.info? et,cX x,cX k with
     | some d,some i,some ax,some ak=>match d7 d,i.zero with
       | some kd,some z=>(cV z).map fun p=>.mlook kd co p ax ak
       | _,_=>none
     | _,_,_,_=>none
   | _=>none
 | .mapUpdate t x k v=>Tg P t x k v
 | .insert t x k v=>Tg P t x k v
 | _=>none
section
variable {P:Program}{c:Ctx}{κ:Kap}{σ:aE}{E:Nat->AV}{a:Act}
theorem dh {w:World}{b:Nat}{cs:Array Value}{T:TypeId}{fr:Nat×Nat}(h:w.heap[b]? = some (.cells cs T fr)):w.shape? b=some (T,cs.size):=by
 simp[World.shape?,h]
theorem yT {s d t:TypeId}{n u m:Nat}{x v:AV}{ux:Value}(hS:SRel c κ σ)(hs:P.underlying s=some (.pointer t))(hd:P.underlying d=some .unsafePointer)(hn:iW P t=some n)(h0:n≠0)(hx:ARel κ x ux)(hr:gm u m false σ x=some v) :
  (convert s d ux).run P κ.w = .ok ux κ.w/\ARel κ v ux:=by
 unfold gm at hr
 split at hr
 ·rename_i r o
  split at hr
  ·rename_i T f l hσ
   simp only at hr
   split at hr
   ·rename_i ho
    cases hr
    cases hx with
    | ptr _ _ b N hnm=>
      obtain⟨cs,hg,hcs,hln,_,_,_,_⟩:=dt hS hσ hnm
      obtain⟨j,hj,hjn⟩:∃ j,P.info? t=some j/\j.size=n:=by
       unfold iW at hn
       simpa[WI] using hn
      exact⟨Lib.run_to_unsafe κ.w ⟨b,o,none⟩ hs hd hj (by omega) (dh hg) (by show o<cs.size;omega),.ptr _ _ b N hnm⟩
   ·cases hr
  ·cases hr
 ·cases hr
theorem qQ {s d u:TypeId}{n:Nat}{x v:AV}{ux:Value}(hS:SRel c κ σ)(hs:P.underlying s=some .unsafePointer)(hd:P.underlying d=some (.pointer u))(hn:iW P u=some n)(hl:liesAt P P.depth u (n / P.cellsOf u) 0 u 1=true)(hx:ARel κ x ux)(hr:gm u n true σ x=some v) :
  (convert s d ux).run P κ.w = .ok ux κ.w/\ARel κ v ux:=by
 unfold gm at hr
 split at hr
 ·rename_i r o
  split at hr
  ·rename_i T f l hσ
   simp only at hr
   split at hr
   ·rename_i hh
    obtain⟨rfl,rfl,rfl,hlen⟩:=hh
    cases hr
    cases hx with
    | ptr _ _ b N hnm=>
      obtain⟨cs,hg,hcs,hln,hf,_,_,_⟩:=dt hS hσ hnm
      obtain⟨j,hj,hjn⟩:∃ j,P.info? T=some j/\j.size=n:=by
       unfold iW at hn
       simpa[WI] using hn
      have hsz:cs.size=n:=by rw[hcs,<- hf rfl,hlen]
      refine⟨Lib.run_from_unsafe κ.w ⟨b,0,none⟩ hs hd hj (dh hg) ?_,.ptr _ _ b N hnm⟩
      show liesAt P P.depth T (cs.size / P.cellsOf T) 0 T 1=true
      rw[hsz];exact hl
   ·cases hr
  ·cases hr
 ·cases hr
theorem Qz {t te:TypeId}{i:TypeInfo}{op:BinOp}{X Y:Operand}{x y v:AV}{ux uy:Value}{ng:Bool}(hop:(op = .eql/\ng=false)\/(op = .neq/\ng=true))(ht:P.underlying t=some (.pointer te))(hi:P.info? te=some i)(hx:ARel κ x ux)(hy:ARel κ y uy)(hr:Nm ng x y=some v) :
  ∃ z,(do eqGuard op t X Y ux uy;binOp op t ux uy:Sem Value).run P κ.w = .ok z κ.w/\ARel κ v z:=by
 unfold Nm at hr
 split at hr
 ·rename_i r o r' o'
  split at hr
  ·rename_i hh
   obtain⟨rfl,rfl⟩:=hh
   cases hr
   cases hx with
   | ptr _ _ b n h1=>
     cases hy with
     | ptr _ _ b' n' h2=>
       rw[h1] at h2;cases h2
       rcases hop with ⟨rfl,rfl⟩ | ⟨rfl,rfl⟩
       ·exact⟨.bool true,by simpa[eqGuard_at_pointer] using run_eql_ptr_same κ.w ⟨b,o,none⟩ ht hi,.pv _ _ (.bool _)⟩
       ·exact⟨.bool false,by simpa[eqGuard_at_pointer] using Lib.run_neq_ptr_same κ.w ⟨b,o,none⟩ ht hi,.pv _ _ (.bool _)⟩
  ·cases hr
 ·cases hr
theorem pZ {w:World}(d:Nat){t:TypeId}{ms:Array (String×TypeId)}(hu:P.underlying t=some (.interface ms)):(Op.equalIn (d+1) t .nilIface .nilIface).run P w = .ok true w:=by
 simp[Op.equalIn,run_underlying hu]
theorem Ay {w:World}(d:Nat){t T:TypeId}{v:Value}{ms:Array (String×TypeId)}(hu:P.underlying t=some (.interface ms)):(Op.equalIn (d+1) t (.iface T v) .nilIface).run P w = .ok false w:=by
 simp[Op.equalIn,run_underlying hu]
theorem K0 {t:TypeId}{ms:Array (String×TypeId)}{op:BinOp}{X:Operand}{cv:Value}{x y v:AV}{ux uy:Value}{ng:Bool}(hop:(op = .eql/\ng=false)\/(op = .neq/\ng=true))(ht:P.underlying t=some (.interface ms))(hx:ARel κ x ux)(hy:ARel κ y uy)(hr:rc ng x y=some v) :
  ∃ z,(do eqGuard op t X (.const cv) ux uy;binOp op t ux uy:Sem Value).run P κ.w = .ok z κ.w/\ARel κ v z:=by
 have he:∀ b,(Op.equalIn (9999+1) t ux uy).run P κ.w = .ok b κ.w->((do pure (.bool (<- Op.equal t ux uy))):Sem Value).run P κ.w = .ok (.bool b) κ.w/\((do pure (.bool (!(<- Op.equal t ux uy)))):Sem Value).run P κ.w = .ok (.bool (!b)) κ.w:=by
  intro b h
  have hq:Op.equal t ux uy=Op.equalIn (9999+1) t ux uy:=rfl
  rw[hq];simp[h]
 unfold rc at hr
 split at hr
 ·cases hr
  cases aT hx
  cases aT hy
  obtain⟨h1,h2⟩:=he true (pZ 9999 ht)
  rcases hop with ⟨rfl,rfl⟩ | ⟨rfl,rfl⟩
  ·refine⟨.bool true,?_,.pv _ _ (.bool _)⟩
   have hg:eqGuard .eql t X (.const cv) .nilIface .nilIface=pure ():=by simp[eqGuard]
   rw[hg];simpa[binOp] using h1
  ·refine⟨.bool false,?_,.pv _ _ (.bool _)⟩
   have hg:eqGuard .neq t X (.const cv) .nilIface .nilIface=pure ():=by simp[eqGuard]
   rw[hg];simpa[binOp] using h2
 ·cases hr
  obtain⟨T,w,rfl⟩:∃ T w,ux = .iface T w:=by cases aT hx;exact⟨_,_,rfl⟩
  cases aT hy
  obtain⟨h1,h2⟩:=he false (Ay 9999 ht)
  rcases hop with ⟨rfl,rfl⟩ | ⟨rfl,rfl⟩
  ·refine⟨.bool false,?_,.pv _ _ (.bool _)⟩
   have hg:eqGuard .eql t X (.const cv) (.iface T w) .nilIface=pure ():=by simp[eqGuard]
   rw[hg];simpa[binOp] using h1
  ·refine⟨.bool true,?_,.pv _ _ (.bool _)⟩
   have hg:eqGuard .neq t X (.const cv) (.iface T w) .nilIface=pure ():=by simp[eqGuard]
   rw[hg];simpa[binOp] using h2
 ·cases hr
theorem oz (c:UInt8):∀ (l:List UInt8) (k:Nat),fZ c l k=(match (Xq l.length).find? fun i=>l.getD i 0 == c with
  | some i=>((i+k:Nat):Int)
  | none=>-1)
 | [],k=>rfl
 | b::r,k=>by
   have ih:=oz c r (k+1)
   rw[WG,Lib.find_range_succ]
   simp only[fZ,List.getD_cons_zero,List.getD_cons_succ]
   by_cases h:(b == c)=true
   ·simp[h]
   ·rw[if_neg h,if_neg h,ih]
    cases (Xq r.length).find? fun i=>r.getD i 0 == c with
    | none=>rfl
    | some i=>simp only[WZ];congr 1;omega
theorem Ot (c:UInt8)(s:ByteArray):firstIdx s c=fZ c s.data.toList 0:=by
 rw[oz]
 have hl:s.data.toList.length=s.size:=by simp
 have hp:∀ i,i∈Xq s.size->(s[i]! == c)=(s.data.toList.getD i 0 == c):=by
  intro i hi
  have hi':i<s.size:=List.mem_range.1 hi
  have:s[i]! = s.data.toList.getD i 0:=by
   have h2:i<s.data.size:=hi'
   rw[getElem!_pos s i hi']
   simp only[WN,Array.getElem?_toList]
   rw[XL h2]
   rfl
  rw[this]
 unfold firstIdx
 rw[hl]
 have:(Xq s.size).find? (fun i=>s[i]! == c)=(Xq s.size).find? (fun i=>s.data.toList.getD i 0 == c):=by
  clear hl
  generalize Xq s.size=R at hp
  induction R with
  | nil=>rfl
  | cons a r ih=>
    rw[List.find?_cons,List.find?_cons,hp a (by simp),ih (fun i hi=>hp i (by simp[hi]))]
 rw[this]
 cases (Xq s.size).find? fun i=>s.data.toList.getD i 0 == c<;>rfl
theorem MP {ts:Array TypeId}{ty:TypeId}{x v:AV}{u:Value}(hx:ARel κ x u)(hr:jb x=some v) :
  ∃ z,(Builtin.unsafeSliceData_ ts ty #[u]).run P κ.w = .ok z κ.w/\ARel κ v z:=by
 unfold jb at hr
 split at hr
 ·cases hr
  cases aT hx
  exact⟨.pointer none,rfl,.pv _ _ .nilp⟩
 ·split at hr
  ·rename_i r s off len h
   cases hr
   cases hx with
   | row0=>omega
   | row _ _ _ _ b n cap hn h1 h0 h2 h3=>
     have hc:cap≠0:=by omega
     refine⟨.pointer (some ⟨b,off,none⟩),?_,.ptr _ _ b n hn⟩
     have e:∀ y:Sem Value,(if cap≠0 then (pure (Value.pointer (some ⟨b,off,none⟩)):Sem Value) else y)=pure (Value.pointer (some ⟨b,off,none⟩)):=fun y=>if_pos hc
     exact (congrArg (fun q:Sem Value=>Sem.run P q κ.w) (e _)).trans rfl
  ·cases hr
 ·cases hr
theorem BN:∀ {ps:List PV} {l:List UInt8},u8x ps=some l->ps=aD l
 | [],l,h=>by simp[u8x] at h;subst h;rfl
 | p::r,l,h=>by
   cases p with
   | int k n=>
     cases k<;>simp only[u8x] at h<;>first | cases h | skip
     split at h
     ·rename_i hn
      split at h
      ·rename_i q hq
       cases h
       have ih:=BN hq
       simp only[aD,WP]
       rw[<- aD,<- ih]
       congr 2
       simp only[UInt8.toNat_ofNat']
       omega
      ·cases h
     ·cases h
   | _=>simp[u8x] at h
theorem oA (w:World)(b:Nat)(cs:Array Value)(T:Nat)(fz:Nat×Nat)(n:Nat)(h:w.heap[b]? = some (.cells cs T fz)):∃ fz',(w.freeze ⟨b,0,none⟩ n).heap[b]? = some (.cells cs T fz'):=by
 unfold World.freeze
 by_cases hn:n=0
 ·rw[if_pos hn];exact⟨_,h⟩
 ·rw[if_neg hn]
  obtain⟨lo,hi⟩:=fz
  simp only[XR,if_true,h,WZ]
  exact⟨_,rfl⟩
theorem sd {w:World}{b j:Nat}{cs:Array Value}{T:Nat}{fz:Nat×Nat}{v:Value}(hg:w.heap[b]? = some (.cells cs T fz))(h:w.cell? ⟨b,j,none⟩=some v):cs.getD j Go.undef=v:=by
 simp only[World.cell?,hg] at h
 rw[WM]
 simp at h
 simp[h]
theorem Qw {pt it ty e:TypeId}{x y v:AV}{ux uy:Value}{δ:List (Nat×Blk)}{new:Nat}(hS:SRel c κ σ)(hp:P.underlying pt=some (.pointer e))(hc:P.cellsOf e=1)(hx:ARel κ x ux)(hy:ARel κ y uy)(hr:q8 e σ x y=some (v,δ)) :
  ∃ z w',(Builtin.unsafeString_ #[pt,it] ty #[ux,uy]).run P κ.w = .ok z w'/\ARel ⟨w',κ.nm,κ.imm⟩ v z/\Done c κ ⟨w',κ.nm,κ.imm⟩ new/\SRel c ⟨w',κ.nm,κ.imm⟩ (σ.upd δ):=by
 unfold q8 at hr
 split at hr
 ·rename_i r o k
  unfold tc at hr
  split at hr
  ·rename_i T f l hσ
   split at hr
   ·rename_i hh
    obtain⟨rfl,rfl,hk0,hkl,hkm⟩:=hh
    unfold Do at hr
    split at hr
    ·rename_i bs hbs
     cases hr
     rw[Option.bind_eq_some_iff] at hbs
     obtain⟨ps,hps,hbs⟩:=hbs
     have hpb:=BN hbs
     have hpl:=cz hps
     obtain rfl:=bw hy
     cases hx with
     | ptr _ _ b n hnm=>
       obtain⟨cs,hg,hcs,hln,_,himm,hrel,hcell⟩:=dt hS hσ hnm
       have hlen:bs.length=k.toNat:=by
        have:ps.length=bs.length:=by rw[hpb];simp[aD]
        rw[<- this,hpl];simp;omega
       have hkk:k=(bs.length:Int):=by omega
       have hrd:∀ j x,bs[j]? = some x->κ.w.cell? ((⟨b,0,none⟩:Addr).add j)=some (.int .u8 x.toNat):=by
        intro j x hj
        have h1:ps[j]? = some (.int .u8 (x.toNat:Int)):=by rw[hpb];simp[aD,hj]
        obtain⟨y,hy1,hy2⟩:=dj hps j _ h1
        have hjk:j<k.toNat:=by rw[<- hlen];exact (WH.1 hj).1
        rw[Xl,if_pos hjk] at hy1
        obtain⟨u,hu1,hu2⟩:=hcell j y hy1
        have hpv:=cr hy2 hu2
        rw[Addr.add_lit,W4,hu1]
        cases hpv
        rfl
       have hrun:=Lib.run_unsafeString_row (P:=P) κ.w pt it ty T hp hc b cs.size (dh hg) bs (by intro h;rw[h] at hlen;simp at hlen;omega) (by omega) (by omega) hrd
       rw[<- hkk] at hrun
       have hne:bs.length≠0:=by omega
       have hheap:∀ b',b'≠b->(κ.w.freeze ⟨b,0,none⟩ bs.length).heap[b']? = κ.w.heap[b']?:=by
        intro b' hb'
        simp only[World.freeze,if_neg hne]
        rw[XR]
        simp[Ne.symm hb']
       obtain⟨k1,k2⟩:=B8 hS (r0:=r) (b0:=b) (d0:=.blk b n) (Bo:=.bts T bs) (w':=κ.w.freeze ⟨b,0,none⟩ bs.length) new
        (by simp[World.freeze,hne]) (by simp[World.freeze,hne]) (by simp[World.freeze,hne]) (by simp[World.freeze,hne]) hheap himm (by rw[hσ];simp) hnm rfl
       obtain⟨fz',hfz⟩:=oA (κ.w) b cs T (0,0) bs.length hg
       refine⟨_,_,hrun,?_,k1,k2 ⟨b,n,cs,fz',hnm,hfz,hcs,by rw[<- hlen] at hkl;omega,fun j x hj=>?_,himm⟩⟩
       ·have hsz:(⟨bs.toArray⟩:ByteArray).size<=maxLen:=by
         show bs.toArray.size<=maxLen
         simp only[XQ,maxLen];omega
        have:=PRel.str (w:=κ.w.freeze ⟨b,0,none⟩ bs.length) (imm:=κ.imm) ⟨bs.toArray⟩ hsz
        simpa using ARel.pv (κ:=⟨κ.w.freeze ⟨b,0,none⟩ bs.length,κ.nm,κ.imm⟩) _ _ this
       ·exact sd hg (by have:=hrd j x hj;rwa [Addr.add_lit,W4] at this)
    ·cases hr
   ·cases hr
  ·rename_i T l hσ
   split at hr
   ·rename_i hh
    obtain⟨rfl,rfl,hk0,hkl,hkm⟩:=hh
    cases hr
    obtain rfl:=bw hy
    cases hx with
    | ptr _ _ b n hnm=>
      have hB:=hS.blk r
      rw[hσ] at hB
      obtain⟨b',n',cs,fz,h1,hg,hcs,hln,hcell,himm⟩:=hB
      rw[hnm] at h1;cases h1
      have hrd:∀ j x,l[j]? = some x->κ.w.cell? ((⟨b,0,none⟩:Addr).add j)=some (.int .u8 x.toNat):=by
       intro j x hj
       rw[Addr.add_lit,W4]
       have hj':j<cs.size:=by rw[hcs];exact Nat.lt_of_lt_of_le (WH.1 hj).1 hln
       have:=hcell j x hj
       rw[WM,XL hj'] at this
       simp only[XK] at this
       simp[World.cell?,hg,hj',this]
      have hrun:=Lib.run_unsafeString_row (P:=P) κ.w pt it ty T hp hc b cs.size (dh hg) l (by intro h;rw[h] at hkl;simp at hkl;omega) (by omega) (by omega) hrd
      rw[<- hkl] at hrun
      have hne:l.length≠0:=by omega
      have hheap:∀ b',b'≠b->(κ.w.freeze ⟨b,0,none⟩ l.length).heap[b']? = κ.w.heap[b']?:=by
       intro b' hb'
       simp only[World.freeze,if_neg hne]
       rw[XR]
       simp[Ne.symm hb']
      obtain⟨k1,k2⟩:=B8 hS (r0:=r) (b0:=b) (d0:=.blk b n) (Bo:=.bts T l) (w':=κ.w.freeze ⟨b,0,none⟩ l.length) new
       (by simp[World.freeze,hne]) (by simp[World.freeze,hne]) (by simp[World.freeze,hne]) (by simp[World.freeze,hne]) hheap himm (by rw[hσ];simp) hnm rfl
      obtain⟨fz',hfz⟩:=oA (κ.w) b cs T fz l.length hg
      refine⟨_,_,hrun,?_,k1,k2 ⟨b,n,cs,fz',hnm,hfz,hcs,hln,hcell,himm⟩⟩
      have hsz:(⟨l.toArray⟩:ByteArray).size<=maxLen:=by
       show l.toArray.size<=maxLen
       simp only[XQ,maxLen];omega
      have:=PRel.str (w:=κ.w.freeze ⟨b,0,none⟩ l.length) (imm:=κ.imm) ⟨l.toArray⟩ hsz
      simpa using ARel.pv (κ:=⟨κ.w.freeze ⟨b,0,none⟩ l.length,κ.nm,κ.imm⟩) _ _ this
   ·cases hr
  ·cases hr
 ·rename_i k
  split at hr
  ·rename_i hk
   subst hk
   cases hr
   cases aT hx
   obtain rfl:=bw hy
   refine⟨_,κ.w,Lib.run_unsafeString_none κ.w pt it ty none,?_,Done.same c κ new,hS⟩
   exact .pv _ _ (.str .empty (by simp[maxLen]))
  ·cases hr
 ·cases hr
theorem FX (s:ByteArray):f7 κ 1 (aD s.data.toList) (Lib.strCells s):=by
 refine⟨by simp[Lib.strCells,aD],fun i x hx=>?_,fun i x j y hx hy=>?_⟩
 ·simp only[aD,WW,WI] at hx
  obtain⟨b,_,rfl⟩:=hx
  rfl
 ·simp only[aD,WW,WI] at hx
  obtain⟨b,hb,rfl⟩:=hx
  have hj:j=0/\y = .int .u8 (b.toNat:Int):=by
   cases j with
   | zero=>simp[PV.cells] at hy;exact⟨rfl,hy.symm⟩
   | succ j=>simp[PV.cells] at hy
  obtain⟨rfl,rfl⟩:=hj
  have e:(Lib.strCells s).getD (i*1+0) Go.undef = .int .u8 (b.toNat:Int):=by
   simp[Lib.strCells,WN,hb]
  rw[e]
  exact⟨.int _ _,rfl⟩
theorem kL (w:World)(t u ty e:TypeId)(i:TypeInfo)(bytes:Nat)(ht:P.underlying t=some (.slice e))(hu:P.underlying u=some .string)(hi:P.info? e=some i)(hz:i.zero=some (.int .u8 0))
  (hsize:i.size=1) (hby:i.bytes=bytes) (v:Value) (n:Nat) (xs:List Value) (hown:w.ownsRow 0 e 1 v n xs) (s:ByteArray) (h63:n+s.size<=maxLen) (hbytes:(n+s.size)*bytes<=140737488355328) :
  ∃ v' w',(Builtin.append_ #[t,u] ty #[v,.string s]).run P w = .ok v' w' /\
    ((s.size=0/\v'=v/\w'=w) \/
     (0 < s.size/\∃ g cap cur,v = .slice (some ⟨g,0,none⟩) n cap/\w.heap[g]? = some (.cells cur e (0,0))/\n+s.size<=cap/\cap<=maxLen/\cur.size=cap*1/\cur.toList.take (n*1)=xs /\
        v' = .slice (some ⟨g,0,none⟩) (n+s.size) cap/\w'=w.setRow g (cur.toList.take (n*1)++Lib.strCells s++cur.toList.drop (n*1+(Lib.strCells s).length)).toArray) \/
     (0<s.size/\∃ cs cap,v' = .slice (some ⟨w.heap.size,0,none⟩) (n+s.size) cap/\w'=w.drew.alloc (.cells cs e)/\n+s.size<=cap/\cap<=maxLen/\cs.size=cap*1/\cs.toList.take ((n+s.size)*1)=xs++Lib.strCells s)):=by
 subst hby
 have hxl:xs.length=n:=by simpa using hown.1
 have hlen:(xs++Lib.strCells s).length=(n+s.size)*1:=by rw[WF,hxl,Lib.strCells_length,Nat.mul_one]
 have hsmall:n+s.size<=9223372036854775807:=by simp only[maxLen] at h63;omega
 have grown:∀ (old:Nat),old<n+s.size ->
   n+s.size<=grownCap w (n+s.size) old e/\grownCap w (n+s.size) old e<=maxLen /\
   (xs.toArray++(Lib.strCells s).toArray++Builtin.zeroCells (Value.int .u8 0).cells (grownCap w (n+s.size) old e - (n+s.size))).size=grownCap w (n+s.size) old e*1 /\
   (xs.toArray++(Lib.strCells s).toArray++Builtin.zeroCells (Value.int .u8 0).cells (grownCap w (n+s.size) old e - (n+s.size))).toList.take ((n+s.size)*1)=xs++Lib.strCells s:=by
  intro old ho
  have hge:=grownCap_ge w (n+s.size) old e
  refine⟨hge,grownCap_le_maxLen w (n+s.size) old e h63,?_,?_⟩
  ·have hz1:(Value.int IntKind.u8 0).cells.size=1:=rfl
   simp only[Array.size_append,XQ,size_zeroCells,hz1,hxl,Lib.strCells_length]
   omega
  ·simp only[Array.toList_append,WS]
   rw[<- WS,<- hlen]
   exact List.take_left
 by_cases hm:s.size=0
 ·have hn:Lib.strCells s=[]:=WY (by rw[Lib.strCells_length];exact hm)
  have hf:=Lib.run_firstCells_string (P:=P) w 1 s
  rw[hm,hn] at hf
  refine⟨v,w,?_,.inl ⟨hm,rfl,rfl⟩⟩
  rcases hown.2 with ⟨rfl,rfl⟩ | ⟨g,cap,cur,rfl,hbg,hg,hnc,hcm,hcs,htake⟩
  ·simp[Builtin.append_,run_underlying ht,run_underlying hu,sizeOf,typeInfo,hi,hsize,Builtin.lenOf,hm,hf]
  ·simp[Builtin.append_,run_underlying ht,run_underlying hu,sizeOf,typeInfo,hi,hsize,Builtin.lenOf,hm,hf,hnc,storeCells]
 ·rcases hown.2 with ⟨rfl,rfl⟩ | ⟨g,cap,cur,rfl,hbg,hg,hnc,hcm,hcs,htake⟩
  ·have hx:xs=[]:=WY hxl
   subst hx
   have hr:=run_append_nil_string (P:=P) w t u ty e i (.int .u8 0) ht hu hi hz s (by omega) (by omega) (by have hb:=hbytes;simp only[W4] at hb;omega)
   have hgr:=grown 0 (by omega)
   simp only[W4,WO,Array.empty_append] at hgr ⊢
   have e1:(s.data.map fun b=>Value.int .u8 b.toNat)=(Lib.strCells s).toArray:=by
    apply Array.ext'
    simp[Lib.strCells]
   rw[e1] at hr
   exact⟨_,_,hr,.inr (.inr ⟨by omega,_,_,rfl,rfl,hgr.1,hgr.2.1,hgr.2.2.1,hgr.2.2.2⟩)⟩
  ·by_cases hroom:n+s.size<=cap
   ·have hcs':cur.size=cap:=by simpa using hcs
    have hr:=Lib.run_append_room_string (P:=P) w t u ty e i ht hu hi hsize g n cap cur hg s hroom (by omega)
    refine⟨_,_,hr,.inr (.inl ⟨by omega,g,cap,cur,rfl,hg,hroom,hcm,hcs,htake,rfl,?_⟩)⟩
    rw[Nat.mul_one,Lib.strCells_length]
   ·have holds:∀ j x,xs[j]? = some x->w.cell? ((⟨g,0,none⟩:Addr).add j)=some x:=hown.cells (g:=g) rfl
    have hr:=Lib.run_append_grow_string (P:=P) w t u ty e i (.int .u8 0) ht hu hi hz ⟨g,0,none⟩ n cap xs (by rw[hsize];omega) holds s (by omega) (by omega) (growslice_fits (by omega) hbytes)
    have hgr:=grown cap (by omega)
    exact⟨_,_,hr,.inr (.inr ⟨by omega,_,_,rfl,rfl,hgr.1,hgr.2.1,hgr.2.2.1,hgr.2.2.2⟩)⟩
theorem QI {e sz by_ new m:Nat}{x v:AV}{ux:Value}{ys:List PV}{news:List Value}{δ:List (Nat×Blk)}(A:Value->Sem Value)(hS:SRel c κ σ)(hw:c.w0.heap.size<=κ.w.heap.size)(hn:κ.nm new=none)
  (hm:m=ys.length) (hrow:f7 κ sz ys news)
  (hA:∀ (v:Value) (n:Nat) (xs:List Value),κ.w.ownsRow 0 e sz v n xs->n+m<=maxLen->(n+m)*by_<=140737488355328->∃ v' w',(A v).run P κ.w = .ok v' w' /\
   ((m=0/\v'=v/\w'=κ.w) \/
    (0 < m/\∃ g cap cur,v = .slice (some ⟨g,0,none⟩) n cap/\κ.w.heap[g]? = some (.cells cur e (0,0))/\n+m<=cap/\cap<=maxLen/\cur.size=cap*sz/\cur.toList.take (n*sz)=xs /\
       v' = .slice (some ⟨g,0,none⟩) (n+m) cap/\w'=κ.w.setRow g (cur.toList.take (n*sz)++news++cur.toList.drop (n*sz+news.length)).toArray) \/
    (0<m/\∃ cs cap,v' = .slice (some ⟨κ.w.heap.size,0,none⟩) (n+m) cap/\w'=κ.w.drew.alloc (.cells cs e)/\n+m<=cap/\cap<=maxLen/\cs.size=cap*sz/\cs.toList.take ((n+m)*sz)=xs++news)))
  (hx:ARel κ x ux) (hr:L8 e sz by_ new σ x ys=some (v,δ)) :
  ∃ u κ',(A ux).run P κ.w = .ok u κ'.w/\ARel κ' v u/\Done c κ κ' new/\SRel c κ' (σ.upd δ):=by
 obtain⟨hfl,hfr⟩:=xD hrow
 unfold L8 at hr
 split at hr
 ·-- onto nil
  have hux:ux = .slice none 0 0:=by cases aT hx;rfl
  subst hux
  split at hr
  ·cases hr
   obtain⟨v',w',h1,h2⟩:=hA (.slice none 0 0) 0 [] (World.ownsRow_nil _ _ _ _) (by rw[hm];simp) (by rw[hm];simp)
   rcases h2 with ⟨_,rfl,rfl⟩ | ⟨h0,_⟩ | ⟨h0,_⟩
   ·exact⟨_,κ,h1,.pv _ _ .nils,Done.same c κ new,by simpa[tf] using hS⟩
   ·simp at hm;omega
   ·simp at hm;omega
  ·rename_i y0 r
   split at hr
   ·rename_i hroom
    cases hr
    obtain⟨k1,k2⟩:=jP hroom
    simp only[WG] at hm
    subst hm
    obtain⟨v',w',h1,h2⟩:=hA (.slice none 0 0) 0 [] (World.ownsRow_nil _ _ _ _) k1 k2
    rcases h2 with ⟨h0,_⟩ | ⟨_,g,cap,cur,h0,_⟩ | ⟨_,cs,cap,rfl,rfl,q1,q2,q3,q4⟩
    ·omega
    ·cases h0
    ·simp only[W4,WO] at q1 q4
     have hnl:news.length=(r.length+1)*sz:=hrow.1
     have hle:(r.length+1)*sz<=cap*sz:=Xa _ q1
     obtain⟨κ',e1,e2,e3,e4⟩:=cC (T:=e) (f:=false) (l:=bQ (y0::r)) hS hw hn (by omega) (fun h=>by cases h) (eo q4 (by omega) hfr) κ.w.drew rfl rfl rfl rfl
     refine⟨_,κ',by rw[h1,e1],?_,e3,e4⟩
     simp only[W4]
     exact .row _ _ _ _ _ _ cap e2 (by omega) (fun _=>q3.symm) q1 q2
   ·cases hr
 ·-- onto a row of the call's own
  rename_i q s off len
  split at hr
  ·rename_i e' f lw hσ
   split at hr
   ·rename_i hh
    obtain⟨rfl,rfl,rfl,hllw,hroom⟩:=hh
    cases hr
    obtain⟨k1,k2⟩:=jP hroom
    subst hm
    cases hx with
    | row0 _ _ hnm=>
      have hB:=hS.blk q
      rw[hσ] at hB
      obtain⟨rfl,rfl⟩:f=false/\lw=[]:=by
       rcases hB with ⟨h1,h2,_⟩ | ⟨_,_,_,h1,_⟩
       ·exact⟨h1,h2⟩
       ·rw[hnm] at h1;cases h1
      obtain⟨v',w',h1,h2⟩:=hA (.slice none 0 0) 0 [] (World.ownsRow_nil _ _ _ _) k1 k2
      rw[List.take_nil,WO,W4]
      rcases h2 with ⟨h0,rfl,rfl⟩ | ⟨_,g,cap,cur,h0,_⟩ | ⟨_,cs,cap,rfl,rfl,q1,q2,q3,q4⟩
      ·have hys0:ys=[]:=WY h0
       subst hys0
       obtain⟨h3,h4,h5⟩:=qq (hS.drop q) hn e' s
       exact⟨_,⟨κ.w,fun r=>if r=new then some (.own (.slice none 0 0)) else κ.nm r,κ.imm⟩,h1,h5,h3,h4⟩
      ·exact absurd h0 (by simp)
      ·simp only[W4,WO] at q1 q4
       have hnl:news.length=ys.length*s:=hrow.1
       have hle:ys.length*s<=cap*s:=Xa _ q1
       obtain⟨κ',e1,e2,e3,e4⟩:=cC (T:=e') (f:=false) (l:=bQ ys) (hS.drop q) hw hn (by omega) (fun h=>by cases h) (eo q4 (by omega) hfr) κ.w.drew rfl rfl rfl rfl
       refine⟨_,κ',by rw[h1,e1],?_,e3,e4⟩
       rw[W4]
       exact .row _ _ _ _ _ _ cap e2 (by omega) (fun _=>q3.symm) q1 q2
    | row _ _ _ _ b N cap hnm h5 h6 h7 h8=>
      obtain⟨cur,hg,hcs,hlnw,hf,himm,hrelw,hcell⟩:=dt hS hσ hnm
      obtain⟨l,hl0,hll,hln,hrel⟩:∃ l,lw.take (len*s)=l/\l.length=len*s/\l.length<=N/\∀ (i:Nat) (x:AV),l[i]? = some x->ARel κ x (cur.getD i Go.undef):=by
       refine⟨_,rfl,by simp;omega,by simp;omega,fun i x hx=>?_⟩
       rw[Xl] at hx
       split at hx
       ·exact hrelw i x hx
       ·cases hx
      rw[hl0]
      have hcap:=h6 rfl
      have hown:κ.w.ownsRow 0 e' s (.slice (some ⟨b,0,none⟩) len cap) len (cur.toList.take (len*s)):=by
       refine⟨?_,.inr ⟨b,cap,cur,rfl,Xr _,hg,h7,h8,by omega,rfl⟩⟩
       simp;rw[hcs,<- hcap];exact Nat.min_eq_left (Xa _ h7)
      have hxl:(cur.toList.take (len*s)).length=len*s:=hown.1
      have hlrel:∀ (i:Nat) (x:AV),l[i]? = some x->ARel κ x ((cur.toList.take (len*s)).getD i Go.undef):=by
       intro i x hx
       have hi:i<l.length:=(WH.1 hx).1
       have:=hrel i x hx
       rw[aL] at this
       rw[WN,Xl,if_pos (by omega),<- WN]
       exact this
      have hall:=jR (κ:=κ) (by omega) hlrel hfr
      have hlen2:(l++bQ ys).length=(len+ys.length)*s:=by
       have:news.length=ys.length*s:=hrow.1
       rw[WF,hfl,this,hll,Nat.add_mul]
      have hlen3:(l++bQ ys).length=len*s+news.length:=by rw[WF,hfl,hll]
      obtain⟨v',w',h1,h2⟩:=hA _ _ _ hown k1 k2
      have hb0:∀ b',some b=some b'->σ q≠.none/\∃ d,κ.nm q=some d/\d.block=some b':=fun b' hb=>⟨by rw[hσ];simp,_,hnm,hb⟩
      rcases h2 with ⟨h0,rfl,rfl⟩ | ⟨_,g',cap',cur',h0,hg',q1,q2,q3,q4,rfl,rfl⟩ | ⟨_,cs,cap',rfl,rfl,q1,q2,q3,q4⟩
      ·have hys0:ys=[]:=WY h0
       subst hys0
       obtain⟨h3,h4⟩:=yP (d:=.blk b N) (Bn:=.cells e' false (l++bQ [])) (q:=fun _ _=>False) (b':=b) (b0:=some b) (r0:=q) hS hw ⟨rfl,rfl,rfl,WX _,fun _ _ _=>rfl⟩ hn rfl (.inl rfl) (fun _ _ h=>h.elim) (fun _ _ _ h=>h) (fun _ _ _ _ _ h=>h) hb0
       refine⟨_,(⟨κ.w,fun r=>if r=new then some (Den.blk b N) else κ.nm r,fun b o=>κ.imm b o\/False⟩:Kap),h1,?_,h3,h4 (.inr ⟨b,N,cur,by simp,hg,hcs,?_,fun h=>(by cases h),fun i x hx=>?_,fun o hi=>hi.elim (himm o) id⟩)⟩
       ·exact .row _ _ _ _ b N cap (by simp) h5 h6 (by simpa using h7) h8
       ·simp[bQ];omega
       ·have hx':l[i]? = some x:=by simpa[bQ] using hx
        exact (hrel i x hx').ext h3.ext
      ·cases h0
       rw[hg] at hg';cases hg'
       have hnl2:news.length=ys.length*s:=hrow.1
       have hcl:cur.toList.length=cur.size:=by simp
       have hfit:len*s+news.length<=cur.toList.length:=by
        rw[hnl2,hcl,q3,<- Nat.add_mul];exact Xa _ q1
       have hgrow:κ.w.grownBy (κ.w.setRow b (cur.toList.take (len*s)++news++cur.toList.drop (len*s+news.length)).toArray) (some b):=
        ⟨rfl,rfl,rfl,by simp,fun k _ hk=>setRow_other κ.w b k _ (fun h=>hk (by rw[h]))⟩
       have hnewrow:=setRow_heap κ.w b cur (cur.toList.take (len*s)++news++cur.toList.drop (len*s+news.length)).toArray e' (0,0) hg
       have htk:=o8 cur.toList (len*s) 0 news _ rfl hfit
       obtain⟨h3,h4⟩:=yP (d:=.blk b N) (Bn:=.cells e' false (l++bQ ys)) (q:=fun _ _=>False) (b':=b) (b0:=some b) (r0:=q) hS hw hgrow hn rfl (.inl rfl)
        (fun _ _ h=>h.elim) (fun o _ ho=>absurd ho (himm o)) (fun b' o _ hb ho=>by cases hb;exact absurd ho (himm o)) hb0
       refine⟨_,_,h1,.row _ _ _ _ b N cap (by simp) h5 h6 q1 h8,h3,h4 (.inr ⟨b,N,_,by simp,hnewrow,?_,?_,fun h=>(by cases h),?_,fun o hi=>hi.elim (himm o) id⟩)⟩
       ·simp only[XQ,WF,Xd,Xh];omega
       ·rw[hlen2,<- hcap];exact Xa _ q1
       ·have hz:=eo (κ:=κ) (l:=l++bQ ys) (cs:=(cur.toList.take (len*s)++news++cur.toList.drop (len*s+news.length)).toArray) (n:=len*s+news.length) (by simpa using htk) (by rw[hlen3];exact WX _) hall
        exact fun i x hx=>(hz i x hx).ext h3.ext
      ·obtain⟨κ',e1,e2,e3,e4⟩:=cC (T:=e') (f:=false) (l:=l++bQ ys) (hS.drop q) hw hn (by rw[hlen2,q3];exact Xa _ q1) (fun h=>by cases h) (eo q4 (by omega) hall) κ.w.drew rfl rfl rfl rfl
       exact⟨_,κ',by rw[h1,e1],.row _ _ _ _ _ _ cap' e2 (by omega) (fun _=>q3.symm) q1 q2,e3,e4⟩
   ·cases hr
  ·cases hr
 ·cases hr
theorem QH {t tu ty e by_ new:Nat}{x y v:AV}{ux uy:Value}{δ:List (Nat×Blk)}(hS:SRel c κ σ)(hw:c.w0.heap.size<=κ.w.heap.size)(hn:κ.nm new=none)(hbr:vg P t=some (e,by_))(htu:P.underlying tu=some .string)
  (hx:ARel κ x ux) (hy:ARel κ y uy) (hr:nD e by_ new σ x y=some (v,δ)) :
  ∃ u κ',(Builtin.append_ #[t,tu] ty #[ux,uy]).run P κ.w = .ok u κ'.w/\ARel κ' v u/\Done c κ κ' new/\SRel c κ' (σ.upd δ):=by
 obtain⟨hu,i,hi,hz,hsz,hby⟩:P.underlying t=some (.slice e)/\∃ i,P.info? e=some i/\i.zero=some (.int .u8 0)/\i.size=1/\i.bytes=by_:=by
  unfold vg at hbr
  split at hbr
  ·rename_i e' hu
   split at hbr
   ·rename_i i hi
    split at hbr
    ·rename_i z hz
     split at hbr
     ·rename_i hh
      cases hbr
      exact⟨hu,i,hi,by rw[hz,hh.1],hh.2,rfl⟩
     ·cases hbr
    ·cases hbr
   ·cases hbr
  ·cases hbr
 unfold nD at hr
 split at hr
 ·rename_i k
  obtain⟨s,rfl,rfl,hm⟩:=fm hy
  exact QI (m:=s.size) (fun v=>Builtin.append_ #[t,tu] ty #[v,.string s]) hS hw hn (by simp[aD]) (FX s)
   (fun v n xs hown h63 hb=>kL κ.w t tu ty e i by_ hu htu hi hz hsz hby v n xs hown s h63 hb) hx hr
 ·cases hr
theorem sM (w:World)(cs:Array Value)(e:TypeId)(n:Nat):(w.alloc (.cells cs e)).freeze ⟨w.heap.size,n,none⟩ 1=w.alloc (.cells cs e (n,n+1)):=by
 simp only[World.freeze,World.alloc,if_neg (by omega:¬ 1=0)]
 congr 1
 apply Array.ext
 ·simp
 ·intro i h1 h2
  simp only[Array.getElem_modify,Array.getElem_push]
  by_cases hi:i<w.heap.size
  ·have:¬ w.heap.size=i:=by omega
   simp[hi,this]
  ·have:w.heap.size=i:=by simp at h2;omega
   simp[this]
theorem TJ (hS:SRel c κ σ){r0 b0:Nat}{d0:Den}{w':World}(new:Nat)
  (hos:w'.os=κ.w.os) (htape:w'.tape=κ.w.tape) (hout:w'.output=κ.w.output) (hsize:w'.heap.size=κ.w.heap.size)
  (hblock:∀ b,b≠b0->w'.heap[b]? = κ.w.heap[b]?) (hkeep:∀ o v,κ.w.cell? ⟨b0,o,none⟩=some v->w'.cell? ⟨b0,o,none⟩=some v)
  (h0:σ r0≠.none) (hd0:κ.nm r0=some d0) (hb0:d0.block=some b0) :
  Done c κ ⟨w',κ.nm,κ.imm⟩ new/\SRel c ⟨w',κ.nm,κ.imm⟩ (σ.set r0 .none):=by
 have he:Ext κ ⟨w',κ.nm,κ.imm⟩:=by
  refine⟨fun _ _ h=>h,fun b o v hi hc=>?_,fun _ _ h=>h,fun b o ho hc=>(hblock b fun e=>?_).trans ho⟩
  rotate_left
  ·have:=(hS.blk r0).isCells h0 hd0 hb0 (e▸ho);rw[hc] at this;cases this
  by_cases hne:b=b0
  ·subst hne;exact hkeep o v hc
  ·have hb:=hblock b hne
   simpa[World.cell?,hb] using hc
 have hm:=hS.mine r0 d0 b0 h0 hd0 hb0
 refine⟨⟨he,fun imm0 hL=>⟨hos.trans hL.os,htape.trans hL.tape,hout.trans hL.output,by rw[hsize];exact hL.size,fun b hb hl=>?_,fun b o hi=>hL.imm b o hi⟩,by rw[hsize];exact WX _,fun r _ h=>h⟩,?_⟩
 ·refine (hblock b fun e=>?_).trans (hL.block b hb hl)
  subst e
  rcases hm with h | h
  ·omega
  ·exact hl h
 ·have hz:∀ r,aE.set σ r0 .none r≠.none->σ r≠.none/\r≠r0:=by
   intro r h
   by_cases hr:r=r0
   ·subst hr;simp[aE.set] at h
   ·exact⟨by simpa[aE.set,hr] using h,hr⟩
  refine⟨fun r=>?_,fun r r' d d' b h1 h2 hne hd hd' hb=>?_,fun r d b h1 hd hb=>?_,fun b o hi=>by rw[hsize];exact hS.immLt b o hi,Wr he hS.glob fun g h1 h2=>hblock g fun e=>fy h1 h2 (e▸hm)⟩
  ·by_cases hr:r=r0
   ·subst hr;simp[aE.set,fM]
   ·simp only[aE.set,hr,if_false]
    refine (hS.blk r).keep he fun hz d b hd hb=>⟨hblock b ?_,fun o ho=>ho⟩
    rintro rfl
    exact hS.apart r r0 d d0 b hz h0 hr hd hd0 hb hb0
  ·exact hS.apart r r' d d' b (hz r h1).1 (hz r' h2).1 hne hd hd' hb
  ·exact hS.mine r d b (hz r h1).1 hd hb
theorem Qx {t e:TypeId}{new:Nat}{x v:AV}{u:Value}{δ:List (Nat×Blk)}(hS:SRel c κ σ)(ht:P.underlying t=some (.slice e))(he:P.underlying e=some (.int .u8))(hx:ARel κ x u)(hr:CL σ x=some (v,δ)) :
  ∃ z w',(convert t t u).run P κ.w = .ok z w'/\ARel ⟨w',κ.nm,κ.imm⟩ v z/\Done c κ ⟨w',κ.nm,κ.imm⟩ new/\SRel c ⟨w',κ.nm,κ.imm⟩ (σ.upd δ):=by
 unfold CL at hr
 split at hr
 ·rename_i q s y l
  unfold Qv at hr
  split at hr
  ·rename_i e' sz' hσ
   cases hr
   cases hx with
   | olist _ _ _ _ hn hp hs=>
     have hB:=hS.blk q
     rw[hσ] at hB
     rcases hB with h | ⟨g,n,cap,cur,h1,h2,h3,h4,h5,h6⟩
     ·rw[hn] at h;cases h;cases hp
     ·rw[hn] at h1;cases h1
      have hrun:(convert t t (.slice (some ⟨g,0,none⟩) n cap)).run P κ.w = .ok (.slice (some ⟨g,0,none⟩) n cap) (κ.w.freeze ⟨g,cur.size,none⟩ 1):=by
       simp[convert,run_underlying ht,run_underlying he,markStringish,dh h2]
      have hg:(κ.w.freeze ⟨g,cur.size,none⟩ 1).heap[g]? = some (.cells cur e' (cur.size,cur.size+1)):=by
       simp only[World.freeze,if_neg (by omega:¬ 1=0),XR,if_true,h2,WZ]
       rfl
      obtain⟨k1,k2⟩:=TJ hS (r0:=q) (b0:=g) (d0:=.own (.slice (some ⟨g,0,none⟩) n cap)) (w':=κ.w.freeze ⟨g,cur.size,none⟩ 1) new
       (by simp[World.freeze]) (by simp[World.freeze]) (by simp[World.freeze]) (by simp[World.freeze])
       (fun b hb=>by simp only[World.freeze,if_neg (by omega:¬ 1=0)];rw[XR];simp[Ne.symm hb])
       (fun o v hv=>by simp only[World.cell?,h2] at hv;simp only[World.cell?,hg];exact hv) (by rw[hσ];simp) hn rfl
      exact⟨_,_,hrun,.pv _ _ (PRel.ext k1.ext hp),k1,k2⟩
  ·cases hr
 ·cases hr
theorem MQ {s d e:TypeId}{new:Nat}{x v:AV}{u:Value}{δ:List (Nat×Blk)}(hS:SRel c κ σ)(hw:c.w0.heap.size<=κ.w.heap.size)(hn:κ.nm new=none)(hs:P.underlying s=some .string)(hd:P.underlying d=some (.slice e))(he:P.underlying e=some (.int .u8))(hx:ARel κ x u)(hr:mf new x=some (v,δ)) :
  ∃ z κ',(convert s d u).run P κ.w = .ok z κ'.w/\ARel κ' v z/\Done c κ κ' new/\SRel c κ' (σ.upd δ):=by
 unfold mf at hr
 split at hr
 ·rename_i k
  split at hr
  ·rename_i hk
   cases hr
   obtain⟨s',rfl,rfl,hm⟩:=fm hx
   have hsz:s'.size<=maxLen:=hm
   have hge:=grownCap_ge κ.w s'.size 0 e
   have hle:=grownCap_le_maxLen κ.w s'.size 0 e hsz
   obtain⟨cs,hcs⟩:∃ cs:Array Value,cs=(s'.data.map fun b=>Value.int .u8 b.toNat)++Array.replicate (grownCap κ.w s'.size 0 e - s'.size) (Value.int .u8 0):=⟨_,rfl⟩
   have hrun:(convert s d (.string s')).run P κ.w = .ok (.slice (some ⟨κ.w.heap.size,0,none⟩) s'.size (grownCap κ.w s'.size 0 e)) (κ.w.drew.alloc (.cells cs e (cs.size,cs.size+1))):=by
    rw[<- sM κ.w.drew cs e cs.size]
    have hsh:(κ.w.drew.alloc (.cells cs e)).shape? κ.w.heap.size=some (e,cs.size):=dh (heap_alloc_new κ.w.drew _)
    simp[convert,run_underlying hs,run_underlying hd,run_underlying he,Conv.stringToBytes,Question.forced,newRow,markStringish]
    rw[<- grownCap,<- hcs,hsh]
    rfl
   obtain⟨h1,h2⟩:=Rq hS hw hn (.cells cs e (cs.size,cs.size+1)) (.blk κ.w.heap.size cs.size) .none (fun _=>True) rfl κ.w.drew rfl rfl rfl rfl
   refine⟨_,_,hrun,?_,h1,h2 trivial⟩
   have hh:(κ.w.drew.alloc (.cells cs e (cs.size,cs.size+1))).heap[κ.w.heap.size]? = some (.cells cs e (cs.size,cs.size+1)):=heap_alloc_new κ.w.drew _
   have hget:∀ (i:Nat) (b:UInt8),s'.data.toList[i]? = some b->cs[i]? = some (Value.int .u8 (b.toNat:Int)):=by
    intro i b hb
    have hi:i<s'.data.size:=by
     have:=(WH.1 hb).1
     simpa using this
    rw[hcs,Array.getElem?_append_left (by simpa using hi)]
    simp at hb
    simp[hb]
   have key:=PRel.list (w:=κ.w.drew.alloc (.cells cs e (cs.size,cs.size+1))) (imm:=fun b j=>κ.imm b j\/(b=κ.w.heap.size/\True)) (aD s'.data.toList) κ.w.heap.size 0 (grownCap κ.w s'.size 0 e) 1
    (fun i _=>cs.getD i Go.undef) (by simp[aD];exact hge) hle (fun i x hi=>by
     simp only[aD,WW,WI] at hi
     obtain⟨b,_,rfl⟩:=hi;rfl) (fun i x j y hi hj=>by
     simp only[aD,WW,WI] at hi
     obtain⟨b,hb,rfl⟩:=hi
     have hj0:j=0:=by
      cases j with
      | zero=>rfl
      | succ j=>simp[PV.cells] at hj
     subst hj0
     have hg:=hget i b hb
     refine⟨.inr ⟨rfl,trivial⟩,?_,?_⟩
     ·rw[cell_of_row _ κ.w.heap.size _ cs e _ hh]
      simp[WM,hg]
     ·simp[WM,hg,Value.oneCell']) (fun i x j y hi hj=>by
     simp only[aD,WW,WI] at hi
     obtain⟨b,hb,rfl⟩:=hi
     have hj0:j=0/\y = .int .u8 (b.toNat:Int):=by
      cases j with
      | zero=>simp[PV.cells] at hj;exact⟨rfl,hj.symm⟩
      | succ j=>simp[PV.cells] at hj
     obtain⟨rfl,rfl⟩:=hj0
     have hg:=hget i b hb
     have e:cs.getD i Go.undef=Value.int .u8 (b.toNat:Int):=by simp[WM,hg]
     rw[e];exact .int _ _)
   refine .pv _ _ ?_
   have hl:(aD s'.data.toList).length=s'.size:=by simp[aD]
   rw[hl] at key
   exact key
  ·cases hr
 ·cases hr
theorem JQ {fn:Func}(h1:fn.name=kf)(h2:(Extern.allNextRows.lookup fn.origin).isNone=true):Extern.find fn=some Extern.AbiNoEscape.same/\Extern.findNext fn=none:=by
 have a1:Extern.allGenericRows.lookup kf=none:=by kernel_rfl
 have a2:Extern.allTypedRows.lookup kf=none:=by kernel_rfl
 have a3:Extern.allRows.lookup kf=some Extern.AbiNoEscape.same:=by kernel_rfl
 have a4:Extern.allNextRows.lookup kf=none:=by kernel_rfl
 have a5:Extern.allNextRows.lookup fn.origin=none:=by simpa using h2
 refine⟨?_,?_⟩
 ·simp[Extern.find,h1,a1,a2,a3]
 ·simp[Extern.findNext,h1,a4,a5]
theorem Ji {fn:Func}(h1:fn.name=j5)(h2:(Extern.allNextRows.lookup fn.origin).isNone=true):Extern.find fn=some Extern.BytealgIndexByte.indexByte/\Extern.findNext fn=none:=by
 have a1:Extern.allGenericRows.lookup j5=none:=by kernel_rfl
 have a2:Extern.allTypedRows.lookup j5=none:=by kernel_rfl
 have a3:Extern.allRows.lookup j5=some Extern.BytealgIndexByte.indexByte:=by kernel_rfl
 have a4:Extern.allNextRows.lookup j5=none:=by kernel_rfl
 have a5:Extern.allNextRows.lookup fn.origin=none:=by simpa using h2
 refine⟨?_,?_⟩
 ·simp[Extern.find,h1,a1,a2,a3]
 ·simp[Extern.findNext,h1,a4,a5]
theorem QC {x y v:AV}{ux uy:Value}(hx:ARel κ x ux)(hy:ARel κ y uy)(hr:tL x y=some v) :
  ∃ z,(Extern.BytealgIndexByte.indexByte #[ux,uy]).run P κ.w = .ok z κ.w/\ARel κ v z:=by
 unfold tL at hr
 split at hr
 ·rename_i s n
  cases hr
  obtain⟨s',rfl,rfl,hm⟩:=fm hx
  obtain rfl:=bw hy
  refine⟨_,run_indexByte_string s' n κ.w,?_⟩
  rw[Ot]
  exact .pv _ _ (.int _ _)
 ·cases hr
theorem KZ {m:XOp}{t:TypeId}{x k y:Operand}{v:AV}{new:Nat}{δ:List (Nat×Blk)}(hS:SRel c κ σ)(hc:Tg P t x k y=some m)
  (hE:∀ i,i∈m.slots->ARel κ (E i) (a.tmps.getD i Go.undef)) (hr:m.run new E σ=some (v,δ)) :
  ∃ w' δ',(Instr.mapUpdate t (a.eval x) (a.eval k) (a.eval y)).run P κ.w = .ok () w'/\ARel ⟨w',κ.nm,κ.imm⟩ v Go.undef/\δ'=δ/\Done c κ ⟨w',κ.nm,κ.imm⟩ new/\SRel c ⟨w',κ.nm,κ.imm⟩ (σ.upd δ):=by
 unfold Tg at hc
 split at hc
 ·rename_i kt et ht
  split at hc
  ·rename_i d ax ak ay hd hx hk hy
   simp only[WI] at hc
   obtain⟨kd,hkd,rfl⟩:=hc
   simp only[XOp.run,WI,WR] at hr
   obtain⟨δ',hv',rfl,rfl⟩:=hr
   obtain⟨w',h1,h2,h3⟩:=QA (P:=P) (new:=new) hS ht hd hkd (aH hx (fun i hi=>hE i (by simp[XOp.slots,hi]))) (aH hk (fun i hi=>hE i (by simp[XOp.slots,hi]))) (aH hy (fun i hi=>hE i (by simp[XOp.slots,hi]))) hv'
   exact⟨w',_,h1,.pv _ _ .undef,rfl,h2,h3⟩
  ·cases hc
 ·cases hc
theorem Bu {o:Oper}{m:XOp}{mu:Bool}{v:AV}{new:Nat}{δ:List (Nat×Blk)}(hc:UN P mu o.op=some m)(hS:SRel c κ σ)(hw:c.w0.heap.size<=κ.w.heap.size)(hn:m.makes=true->κ.nm new=none)
  (hE:∀ i,i∈m.slots->ARel κ (E i) (a.tmps.getD i Go.undef)) (hr:m.run new E σ=some (v,δ)) :
  ∃ x u κ',(execOp a.eval o).run P κ.w = .ok x κ'.w/\(x = .value u\/(x = .skip/\u=Go.undef))/\ARel κ' v u/\Done c κ κ' new/\SRel c κ' (σ.upd δ)/\(m.makes=false->κ'.nm=κ.nm):=by
 obtain⟨dst,op,type,pos,after,guard⟩:=o
 simp only at hc
 unfold UN at hc
 split at hc
 ·rename_i args argTypes
  split at hc
  ·rename_i x y t t' hargs hat
   obtain rfl:args = #[x,y]:=by cases args;simp_all
   obtain rfl:argTypes = #[t,t']:=by cases argTypes;simp_all
   split at hc
   ·rename_i e hu hun
    split at hc
    ·rename_i e' b ax ay hbr hx hy
     split at hc
     ·rename_i hmu
      cases hc
      simp only[XOp.run] at hr
      obtain⟨u,κ',h1,h2,h3,h4⟩:=QH (P:=P) (ty:=type) hS hw (hn rfl) hbr (by assumption) (aH hx (fun i hi=>hE i (by simp[XOp.slots,hi]))) (aH hy (fun i hi=>hE i (by simp[XOp.slots,hi]))) hr
      exact⟨_,u,κ',by simp[execOp,resolve,invoke,builtin,h1],.inl rfl,h2,h3,h4,fun h=>by cases h⟩
     ·cases hc
    ·cases hc
   ·cases hc
  ·cases hc
 ·rename_i f args argTypes
  split at hc
  ·rename_i x y hargs
   obtain rfl:args = #[x,y]:=by cases args;simp_all
   split at hc
   ·rename_i ax ay hes hx hy
    cases hc
    unfold V3 at hes
    split at hes
    ·rename_i fn hfn
     simp only[WT,beq_iff_eq] at hes
     obtain⟨⟨hb,hname⟩,horg⟩:=hes
     simp only[XOp.run,WI,WR] at hr
     obtain⟨v',hv',rfl,rfl⟩:=hr
     obtain⟨z,h1,h2⟩:=QC (P:=P) (aH hx (fun i hi=>hE i (by simp[XOp.slots,hi]))) (aH hy (fun i hi=>hE i (by simp[XOp.slots,hi]))) hv'
     obtain⟨f1,f2⟩:=Ji hname horg
     have hnum:(fn.name == "runtime.NumGoroutine")=false:=by rw[hname];kernel_rfl
     refine⟨.value z,z,κ,?_,.inl rfl,h2,Done.same c κ new,hS,fun _=>rfl⟩
     have h4:=run_callFunc_extern (P:=P) hfn hnum hb f2 f1 #[a.eval x,a.eval y] κ.w
     rw[h1] at h4
     have he:a.eval (.func f) = .func (.func f) #[] #[]:=rfl
     simp[execOp,resolve,Deferred.ofValue,invoke,he,h4]
    ·cases hes
   ·cases hc
  ·rename_i x hargs
   obtain rfl:args = #[x]:=by cases args;simp_all
   split at hc
   ·rename_i ax hes hx
    cases hc
    unfold V4 at hes
    split at hes
    ·rename_i fn hfn
     simp only[WT,beq_iff_eq] at hes
     obtain⟨⟨hb,hname⟩,horg⟩:=hes
     simp only[XOp.run,WJ,WR] at hr
     obtain⟨rfl,rfl⟩:=hr
     obtain⟨f1,f2⟩:=JQ hname horg
     have hnum:(fn.name == "runtime.NumGoroutine")=false:=by rw[hname];kernel_rfl
     refine⟨.value (a.eval x),a.eval x,κ,?_,.inl rfl,aH hx hE,Done.same c κ new,hS,fun _=>rfl⟩
     have h4:=run_callFunc_extern (P:=P) hfn hnum hb f2 f1 #[a.eval x] κ.w
     rw[Lib.run_noEscape] at h4
     have he:a.eval (.func f) = .func (.func f) #[] #[]:=rfl
     simp[execOp,resolve,Deferred.ofValue,invoke,he,h4]
    ·cases hes
   ·cases hc
  ·cases hc
 ·rename_i s d x
  split at hc
  ·rename_i t hs hd
   split at hc
   ·rename_i n ax hn' hx
    split at hc
    ·rename_i h0
     cases hc
     simp only[XOp.run,WI,WR] at hr
     obtain⟨v',hv',rfl,rfl⟩:=hr
     obtain⟨h1,h2⟩:=yT (P:=P) hS hs hd hn' h0 (aH hx hE) hv'
     exact⟨.value (a.eval x),a.eval x,κ,by simp[execOp,h1],.inl rfl,h2,Done.same c κ new,hS,fun _=>rfl⟩
    ·cases hc
   ·cases hc
  ·rename_i u hs hd
   split at hc
   ·rename_i n ax hn' hx
    split at hc
    ·rename_i hl
     cases hc
     simp only[XOp.run,WI,WR] at hr
     obtain⟨v',hv',rfl,rfl⟩:=hr
     obtain⟨h1,h2⟩:=qQ (P:=P) hS hs hd hn' hl (aH hx hE) hv'
     exact⟨.value (a.eval x),a.eval x,κ,by simp[execOp,h1],.inl rfl,h2,Done.same c κ new,hS,fun _=>rfl⟩
    ·cases hc
   ·cases hc
  ·rename_i e hs hd
   split at hc
   ·rename_i ax he hx
    cases hc
    simp only[XOp.run] at hr
    obtain⟨z,κ',h1,h2,h3,h4⟩:=MQ (P:=P) hS hw (hn rfl) hs hd he (aH hx hE) hr
    exact⟨.value z,z,κ',by simp[execOp,h1],.inl rfl,h2,h3,h4,fun h=>by cases h⟩
   ·cases hc
  ·rename_i e e' hs hd
   split at hc
   ·rename_i ax he hx
    split at hc
    ·rename_i hsd
     subst hsd
     cases hc
     simp only[XOp.run] at hr
     obtain⟨z,w',h1,h2,h3,h4⟩:=Qx (P:=P) (new:=new) hS hs he (aH hx hE) hr
     exact⟨.value z,z,⟨w',κ.nm,κ.imm⟩,by simp[execOp,h1],.inl rfl,h2,h3,h4,fun _=>rfl⟩
    ·cases hc
   ·cases hc
  ·cases hc
 ·rename_i t x y yt
  split at hc
  ·rename_i te ht
   split at hc
   ·rename_i i ax ay hi hx hy
    cases hc
    simp only[XOp.run,WI,WR] at hr
    obtain⟨v',hv',rfl,rfl⟩:=hr
    obtain⟨z,h1,h2⟩:=Qz (P:=P) (X:=x) (Y:=y) (.inl ⟨rfl,rfl⟩) ht hi (aH hx (fun i hi=>hE i (by simp[XOp.slots,hi]))) (aH hy (fun i hi=>hE i (by simp[XOp.slots,hi]))) hv'
    exact⟨.value z,z,κ,by simp only[execOp];rw[Sem.run_bind,h1];rfl,.inl rfl,h2,Done.same c κ new,hS,fun _=>rfl⟩
   ·cases hc
  ·rename_i ms ht
   split at hc
   ·rename_i cv ax ay hx hy
    cases hc
    simp only[XOp.run,WI,WR] at hr
    obtain⟨v',hv',rfl,rfl⟩:=hr
    obtain⟨z,h1,h2⟩:=K0 (P:=P) (X:=x) (cv:=cv) (.inl ⟨rfl,rfl⟩) ht (aH hx (fun i hi=>hE i (by simp[XOp.slots,hi]))) (aH hy (fun i hi=>hE i (by simp[XOp.slots,hi]))) hv'
    exact⟨.value z,z,κ,by simp only[execOp];rw[Sem.run_bind,h1];rfl,.inl rfl,h2,Done.same c κ new,hS,fun _=>rfl⟩
   ·cases hc
  ·cases hc
 ·rename_i t x y yt
  split at hc
  ·rename_i te ht
   split at hc
   ·rename_i i ax ay hi hx hy
    cases hc
    simp only[XOp.run,WI,WR] at hr
    obtain⟨v',hv',rfl,rfl⟩:=hr
    obtain⟨z,h1,h2⟩:=Qz (P:=P) (X:=x) (Y:=y) (.inr ⟨rfl,rfl⟩) ht hi (aH hx (fun i hi=>hE i (by simp[XOp.slots,hi]))) (aH hy (fun i hi=>hE i (by simp[XOp.slots,hi]))) hv'
    exact⟨.value z,z,κ,by simp only[execOp];rw[Sem.run_bind,h1];rfl,.inl rfl,h2,Done.same c κ new,hS,fun _=>rfl⟩
   ·cases hc
  ·rename_i ms ht
   split at hc
   ·rename_i cv ax ay hx hy
    cases hc
    simp only[XOp.run,WI,WR] at hr
    obtain⟨v',hv',rfl,rfl⟩:=hr
    obtain⟨z,h1,h2⟩:=K0 (P:=P) (X:=x) (cv:=cv) (.inr ⟨rfl,rfl⟩) ht (aH hx (fun i hi=>hE i (by simp[XOp.slots,hi]))) (aH hy (fun i hi=>hE i (by simp[XOp.slots,hi]))) hv'
    exact⟨.value z,z,κ,by simp only[execOp];rw[Sem.run_bind,h1];rfl,.inl rfl,h2,Done.same c κ new,hS,fun _=>rfl⟩
   ·cases hc
  ·cases hc
 ·rename_i args argTypes
  split at hc
  ·rename_i x hargs
   obtain rfl:args = #[x]:=by cases args;simp_all
   simp only[WI] at hc
   obtain⟨ax,hx,rfl⟩:=hc
   simp only[XOp.run,WI,WR] at hr
   obtain⟨v',hv',rfl,rfl⟩:=hr
   obtain⟨z,h1,h2⟩:=MP (P:=P) (ts:=argTypes) (ty:=type) (κ:=κ) (aH hx hE) hv'
   exact⟨_,z,κ,by simp[execOp,resolve,invoke,builtin,h1],.inl rfl,h2,Done.same c κ new,hS,fun _=>rfl⟩
  ·cases hc
 ·rename_i args argTypes
  split at hc
  ·rename_i x y pt it hargs hat
   obtain rfl:args = #[x,y]:=by cases args;simp_all
   obtain rfl:argTypes = #[pt,it]:=by cases argTypes;simp_all
   split at hc
   ·rename_i e hp
    split at hc
    ·rename_i ax ay hx hy
     split at hc
     ·rename_i hce
      cases hc
      simp only[XOp.run] at hr
      obtain⟨z,w',h1,h2,h3,h4⟩:=Qw (P:=P) (it:=it) (ty:=type) (new:=new) hS hp hce (aH hx (fun i hi=>hE i (by simp[XOp.slots,hi]))) (aH hy (fun i hi=>hE i (by simp[XOp.slots,hi]))) hr
      exact⟨_,z,_,by simp[execOp,resolve,invoke,builtin,h1],.inl rfl,h2,h3,h4,fun _=>rfl⟩
     ·cases hc
    ·cases hc
   ·cases hc
  ·cases hc
 ·rename_i t
  cases hc
  simp only[XOp.run,WJ,WR] at hr
  obtain⟨rfl,rfl⟩:=hr
  obtain⟨u,κ',h1,h2,h3,h4⟩:=MS (P:=P) (t:=t) hS hw (hn rfl)
  exact⟨.value u,u,κ',by simp[execOp,h1],.inl rfl,h2,h3,h4,fun h=>by cases h⟩
 ·rename_i t x k co
  split at hc
  ·rename_i kt et ht
   split at hc
   ·rename_i d i ax ak hd hi hx hk
    split at hc
    ·rename_i kd z hkd hz
     simp only[WI] at hc
     obtain⟨p,hp,rfl⟩:=hc
     simp only[XOp.run,WI,WR] at hr
     obtain⟨v',hv',rfl,rfl⟩:=hr
     obtain⟨u,h1,h2⟩:=MR (P:=P) hS ht hd hkd hi hz hp (aH hx (fun i hi=>hE i (by simp[XOp.slots,hi]))) (aH hk (fun i hi=>hE i (by simp[XOp.slots,hi]))) hv'
     exact⟨.value u,u,κ,by simp[execOp,h1],.inl rfl,h2,Done.same c κ new,hS,fun _=>rfl⟩
    ·cases hc
   ·cases hc
  ·cases hc
 ·rename_i t x k y
  obtain⟨w',δ',h1,h2,rfl,h3,h4⟩:=KZ (a:=a) (new:=new) hS hc hE hr
  exact⟨.skip,Go.undef,_,by simp[execOp,h1],.inr ⟨rfl,rfl⟩,h2,h3,h4,fun _=>rfl⟩
 ·rename_i t x k y
  obtain⟨w',δ',h1,h2,rfl,h3,h4⟩:=KZ (a:=a) (new:=new) hS hc hE hr
  exact⟨.skip,Go.undef,_,by simp[execOp,h1],.inr ⟨rfl,rfl⟩,h2,h3,h4,fun _=>rfl⟩
 ·cases hc
end
def cM0 (P:Program)(mu:Bool):Op->Option MOp
 | .alloc e=>(nL P e).map (.alloc e)
 | .box e x=>(cX x).map (if mu=true then .cbox e else .box e)
 | .load t x=>match iW P t,nt P t,cX x with
   | some n,some g,some ax=>some (.load g n ax)
   | _,_,_=>none
 | .store t x v=>match iW P t,cX x,cX v with
   | some n,some ax,some av=>some (.store n ax av)
   | _,_,_=>none
 | .buildSlice t len parts=>match P.underlying t with
   | some (.slice e)=>match iW P e,nL P e,cXs (parts.toList.map (·.2)) with
     | some n,some _,some xs=>if len*n<=2 ^ 24/\parts.toList.map (·.1)=Xq len then some (.bslice mu e n len xs) else none
     | _,_,_=>none
   | _=>none
 | .call { callee:=.builtin .append,args,argTypes }=>match args.toList,argTypes.toList with
   | [x,y],[t,t']=>if t=t' then match P.underlying t with
     | some (.slice e)=>match P.info? e with
       | some i=>match i.zero,cX x,cX y with
         | some z,some ax,some ay=>if z.cells.size=i.size then some (.append mu e i.size i.bytes ax ay) else none
         | _,_,_=>none
       | none=>none
     | _=>none
     else none
   | _,_=>none
 | .slice t x lo hi none=>match P.underlying t with
   | some (.array n e)=>match iW P e,cX x,cO lo,cO hi with
     | some s,some ax,some al,some ah=>some (.sliceA n s ax al ah)
     | _,_,_,_=>none
   | _=>none
 | .convert s d x=>match P.underlying s,P.underlying d with
   | some (.slice e),some .string=>match P.underlying e with
     | some (.int .u8)=>(cX x).map .toStr
     | _=>none
   | _,_=>none
 | .makeSlice t x y=>match P.underlying t with
   | some (.slice e)=>match P.info? e with
     | some i=>match i.zero with
       | some z=>match cV z,cX x,cX y with
         | some p,some ax,some ay=>if p.cells.length=i.size then some (.mk mu e i.size i.bytes p.cells ax ay) else none
         | _,_,_=>none
       | none=>none
     | none=>none
   | _=>none
 | _=>none
def cM (P:Program)(mu:Bool)(op:Op):Option MOp:=
 match cM0 P mu op with
 | some m=>some m
 | none=>(UN P mu op).map .xop
section
variable {P:Program}{c:Ctx}{κ:Kap}{σ:aE}{E:Nat->AV}{a:Act}
theorem ip (sz:Nat)(zs:List PV)(hz:zs.length=sz):∀ (n j:Nat) (x:PV),(Xt n zs).flatten[j]? = some x->j<n*sz/\zs[j % sz]? = some x
 | 0,j,x,h=>by simp at h
 | n+1,j,x,h=>by
   rw[List.replicate_succ,List.flatten_cons] at h
   by_cases hj:j<sz
   ·rw[Xe (by omega)] at h
    refine⟨by rw[Nat.succ_mul];omega,?_⟩
    rw[Nat.mod_eq_of_lt hj];exact h
   ·rw[Xg (by omega),hz] at h
    obtain⟨h1,h2⟩:=ip sz zs hz n (j - sz) x h
    refine⟨by rw[Nat.succ_mul];omega,?_⟩
    have:j % sz=(j - sz) % sz:=by rw[Nat.mod_eq_sub_mod (by omega)]
    rw[this];exact h2
theorem Wc {mu:Bool}{t e new:Nat}{i:TypeInfo}{z:Value}{p:PV}{x y v:AV}{ux uy:Value}{δ:List (Nat×Blk)}(hS:SRel c κ σ)(hw:c.w0.heap.size<=κ.w.heap.size)(hn:κ.nm new=none)
  (hu:P.underlying t=some (.slice e)) (hi:P.info? e=some i) (hz:i.zero=some z) (hp:cV z=some p) (hsz:p.cells.length=i.size) (hx:ARel κ x ux) (hy:ARel κ y uy) (hr:rMk mu e i.size i.bytes p.cells new x y=some (v,δ)) :
  ∃ u κ',(Instr.makeSlice t ux uy).run P κ.w = .ok u κ'.w/\ARel κ' v u/\Done c κ κ' new/\SRel c κ' (σ.upd δ):=by
 unfold rMk at hr
 split at hr
 ·rename_i kl l kc cc
  obtain rfl:=bw hx
  obtain rfl:=bw hy
  split at hr
  ·rename_i hh
   obtain⟨h0,hlc,hby,h63⟩:=hh
   have hrun:=run_make (P:=P) κ.w t e i z hu hi hz kl kc l cc h0 hlc hby h63
   have hmax:cc.toNat<=maxLen:=by unfold maxLen;omega
   have hle:l.toNat<=cc.toNat:=by omega
   obtain⟨k1,k2⟩:=(ARel.pv (κ:=κ) p z (nk hp)).cellsOf rfl
   split at hr
   ·split at hr
    ·rename_i hl0
     cases hr
     obtain⟨κ',e1,e2,e3,e4⟩:=mr (e:=e) (sz:=i.size) (n:=0) (cap:=cc.toNat) (l:=[]) (xs:=[]) hS hw hn (by exact⟨by simp,by simp,by simp⟩) rfl (Xr _) hmax (size_madeCells z.cells (cc.toNat*i.size)) (by simp) κ.w rfl rfl rfl rfl
     refine⟨_,κ',by rw[hrun,e1],?_,e3,e4⟩
     rw[hl0]
     exact e2
    ·cases hr
   ·cases hr
    have hlen:((Xt l.toNat p.cells).flatten.map AV.pv).length=l.toNat*i.size:=by simp[hsz]
    have hmul:l.toNat*i.size<=cc.toNat*i.size:=Xa _ hle
    obtain⟨κ',e1,e2,e3,e4⟩:=cC (T:=e) (f:=false) (cs:=madeCells z.cells (cc.toNat*i.size)) (l:=(Xt l.toNat p.cells).flatten.map AV.pv) hS hw hn (by rw[hlen,size_madeCells];exact hmul) (fun h=>by cases h) (fun j x hx=>by
     simp only[WW,WI] at hx
     obtain⟨q,hq,rfl⟩:=hx
     obtain⟨h1,h2⟩:=ip i.size p.cells hsz l.toNat j q hq
     have h3:=k2 (j % i.size) (.pv q) (by simp[AV.cells,h2])
     have hzs:z.cells.size=i.size:=by rw[k1];simp[AV.cells,hsz]
     have e:(madeCells z.cells (cc.toNat*i.size)).getD j Go.undef=z.cells.getD (j % i.size) Go.undef:=by
      have hj:j<cc.toNat*i.size:=by omega
      have hm:j % i.size<i.size:=Nat.mod_lt _ (by
       rcases Nat.eq_zero_or_pos i.size with h | h
       ·rw[h] at h1;simp at h1
       ·exact h)
      have hm2:j % z.cells.size<z.cells.size:=by rw[hzs];exact hm
      simp[madeCells,WM,hj,hzs,hm]
     rw[e];exact h3) κ.w rfl rfl rfl rfl
    refine⟨_,κ',by rw[hrun,e1],?_,e3,e4⟩
    rw[size_madeCells] at e2
    exact .row _ _ _ _ _ _ cc.toNat e2 (by omega) (fun _=>rfl) hle hmax
  ·cases hr
 ·cases hr
theorem vI:∀ {ys:List PV} {l:List UInt8},u8s ys=some l->∃ ns:List Int,ys=ns.map (PV.int .u8)/\l=ns.map fun n=>UInt8.ofNat n.toNat
 | [],l,h=>by simp only[u8s,WJ] at h;subst h;exact⟨[],rfl,rfl⟩
 | y::r,l,h=>by
   unfold u8s at h
   split at h
   ·cases ‹_::_=[]›
   ·rename_i n r' he
    cases he
    split at h
    ·rename_i k hk
     cases h
     obtain⟨ns,h1,h2⟩:=vI hk
     exact⟨n::ns,by rw[h1];rfl,by rw[h2];rfl⟩
    ·cases h
   ·cases h
theorem mT:∀ (ns:List Int) (s:ByteArray),(ns.foldl (fun r n=>r.push (UInt8.ofNat n.toNat)) s).data.toList=s.data.toList++ns.map fun n=>UInt8.ofNat n.toNat
 | [],s=>by simp
 | n::r,s=>by
   rw[List.foldl_cons,mT r]
   simp[ByteArray.push]
theorem MN {src dst e:TypeId}{x v:AV}{u:Value}(hS:SRel c κ σ)(hs:P.underlying src=some (.slice e))(he:P.underlying e=some (.int .u8))(hd:P.underlying dst=some .string)(hx:ARel κ x u)(hr:i8 σ x=some v) :
  ∃ u',(convert src dst u).run P κ.w = .ok u' κ.w/\ARel κ v u':=by
 unfold i8 at hr
 split at hr
 ·rename_i ys hys
  split at hr
  ·rename_i l hl
   cases hr
   have hlen:=Fh hx hys hS
   obtain⟨A,m,cc,xs,rfl,hm,hrow,_,hcell⟩:=m5 hS hx hys
   obtain⟨ns,rfl,rfl⟩:=vI hl
   obtain⟨h1,h2,h3⟩:=hrow
   have hxs:xs=ns.map (Value.int .u8):=by
    refine List.ext_getElem? fun i=>?_
    rw[WW]
    cases hn:ns[i]? with
    | none=>
      have:ns.length<=i:=by simpa using hn
      rw[Xu (by rw[h1];simp;omega)];rfl
    | some n=>
      have hi:i<ns.length:=(WH.1 hn).1
      have h4:=(h3 i (.int .u8 n) 0 (.int .u8 n) (by rw[WW,hn];rfl) rfl).1
      rw[Nat.mul_one,Nat.add_zero] at h4
      have h5:i<xs.length:=by rw[h1];simp;omega
      rw[WE h5]
      rw[WN,WE h5] at h4
      simp only[XK] at h4
      generalize xs[i]=y at h4
      cases h4;rfl
   subst hxs
   rw[run_convert_bytes_string κ.w src dst e A m cc hs he hd]
   cases A with
   | none=>
     rcases hcell with h0 | ⟨a,ha,_⟩
     ·have:ns=[]:=WY (by rw[h0] at hm;simpa using hm.symm)
      subst this
      exact⟨.string .empty,by simp[Conv.bytesToString],.pv _ _ (.str .empty (by simp[maxLen]))⟩
     ·cases ha
   | some a=>
     have hload:(loadCells a m).run P κ.w = .ok (ns.map (Value.int .u8)).toArray κ.w:=by
      have hml:m=(ns.map (Value.int .u8)).length:=by rw[hm];simp
      rw[hml]
      refine run_loadCells_list κ.w a _ fun j v hj=>?_
      rcases hcell with h0 | ⟨a',ha,hc⟩
      ·have:j<(ns.map (Value.int .u8)).length:=(WH.1 hj).1
       omega
      ·cases ha;exact hc j v hj
     refine⟨_,run_bytesToString κ.w a m cc ns hload,B1 ?_ (by simpa using hlen)⟩
     rw[mT];simp
  ·cases hr
 ·cases hr
theorem z7 {o:Oper}{m:MOp}{mu:Bool}{v:AV}{new:Nat}{δ:List (Nat×Blk)}(hc:cM0 P mu o.op=some m)(hS:SRel c κ σ)(hw:c.w0.heap.size<=κ.w.heap.size)(hn:m.makes=true->κ.nm new=none)
  (hE:∀ i,i∈m.slots->ARel κ (E i) (a.tmps.getD i Go.undef)) (hr:m.run c.G new E σ=some (v,δ)) :
  ∃ x u κ',(execOp a.eval o).run P κ.w = .ok x κ'.w/\(x = .value u\/(x = .skip/\u=Go.undef))/\ARel κ' v u/\Done c κ κ' new/\SRel c κ' (σ.upd δ)/\(m.makes=false->κ'.nm=κ.nm):=by
 obtain⟨dst,op,type,pos,after,guard⟩:=o
 simp only at hc
 unfold cM0 at hc
 split at hc
 ·rename_i e
  simp only[WI] at hc
  obtain⟨zs,hz,rfl⟩:=hc
  simp only[MOp.run,WJ,WR] at hr
  obtain⟨rfl,rfl⟩:=hr
  obtain⟨u,κ',h1,h2,h3,h4⟩:=MX (P:=P) hS hw (hn rfl) hz (.tuple #[])
  exact⟨_,u,κ',by simp[execOp,h1],.inl rfl,h2,h3,h4,fun h=>by cases h⟩
 ·rename_i e x
  simp only[WI] at hc
  obtain⟨ax,hx,rfl⟩:=hc
  by_cases hmu:mu=true
  ·simp only[hmu,if_true] at hn hE hr ⊢
   simp only[MOp.run] at hr
   split at hr
   ·rename_i p hp
    split at hr
    ·rename_i ho
     simp only[WJ,WR] at hr
     obtain⟨rfl,rfl⟩:=hr
     obtain⟨u,κ',h1,h2,h3,h4⟩:=QF (P:=P) (T:=e) hS hw (hn rfl) hp ho (aH hx hE)
     exact⟨_,u,κ',by simp[execOp,h1],.inl rfl,h2,h3,h4,fun h=>by cases h⟩
    ·cases hr
   ·cases hr
  rw[if_neg hmu] at hn hE hr ⊢
  simp only[MOp.run] at hr
  split at hr
  ·rename_i hk
   simp only[WJ,WR] at hr
   obtain⟨rfl,rfl⟩:=hr
   obtain⟨u,κ',h1,h2,h3,h4⟩:=TU (P:=P) (T:=e) hS hw (hn rfl) hk (aH hx hE)
   exact⟨_,u,κ',by simp[execOp,h1],.inl rfl,h2,h3,h4,fun h=>by cases h⟩
  ·cases hr
 ·rename_i t x
  split at hc
  ·rename_i n g ax hsz hg hx
   cases hc
   simp only[MOp.run,WI,WR] at hr
   obtain⟨v',hv',rfl,rfl⟩:=hr
   obtain⟨u,h1,h2⟩:=Ci (P:=P) hS hg hsz (aH hx hE) hv'
   exact⟨_,u,κ,by simp[execOp,h1],.inl rfl,h2,Done.same c κ new,hS,fun _=>rfl⟩
  ·cases hc
 ·rename_i t x y
  split at hc
  ·rename_i n ax ay hsz hx hy
   cases hc
   simp only[MOp.run,WI,WR] at hr
   obtain⟨d,hd,rfl,rfl⟩:=hr
   obtain⟨w',h1,h2,h3⟩:=MO (P:=P) (new:=new) hS hsz (aH hx (fun i hi=>hE i (by simp[MOp.slots,hi]))) (aH hy (fun i hi=>hE i (by simp[MOp.slots,hi]))) hd
   exact⟨_,Go.undef,_,by simp[execOp,h1],.inr ⟨rfl,rfl⟩,.pv _ _ .undef,h2,h3,fun _=>rfl⟩
  ·cases hc
 ·rename_i t len parts
  split at hc
  ·rename_i e hu
   split at hc
   ·rename_i n zs xs hsz hz hxs
    split at hc
    ·rename_i hh
     cases hc
     obtain⟨z,p,hz1,_,_⟩:=pg (P:=P) (w:=κ.w) hz
     obtain⟨_,hrel⟩:=iI (κ:=κ) (E:=E) (a:=a) hxs hE
     simp only[MOp.run] at hr
     obtain⟨u,κ',h1,h2,h3,h4⟩:=HH (P:=P) (t:=t) (parts:=parts.map fun p=>(p.1,a.eval p.2)) (z:=z) hS hw (hn rfl) hu hsz hz1 hh.1
      (by rw[<- hh.2];simp[Function.comp_def]) (fun i v hv=>by
       have:=hrel i v hv
       simpa[Function.comp_def] using this) hr
     exact⟨_,u,κ',by simp[execOp,h1],.inl rfl,h2,h3,h4,fun h=>by cases h⟩
    ·cases hc
   ·cases hc
  ·cases hc
 ·rename_i args argTypes
  split at hc
  ·rename_i x y t t' hargs hat
   obtain rfl:args = #[x,y]:=by cases args;simp_all
   obtain rfl:argTypes = #[t,t']:=by cases argTypes;simp_all
   split at hc
   ·rename_i htt
    subst htt
    split at hc
    ·rename_i e hu
     split at hc
     ·rename_i i hi
      split at hc
      ·rename_i z ax ay hz hx hy
       split at hc
       ·rename_i hzs
        cases hc
        simp only[MOp.run] at hr
        have hI:ElemInfo P t e i.size i.bytes:=⟨hu,i,z,hi,hz,rfl,rfl,hzs⟩
        have hx':=aH (κ:=κ) (E:=E) (a:=a) hx (fun i hi=>hE i (by simp[MOp.slots,hi]))
        have hy':=aH (κ:=κ) (E:=E) (a:=a) hy (fun i hi=>hE i (by simp[MOp.slots,hi]))
        cases mu with
        | false=>
          obtain⟨u,κ',h1,h2,h3,h4⟩:=HI (P:=P) (ty:=type) hS hw (hn rfl) hI hx' hy' hr
          exact⟨_,u,κ',by simp[execOp,resolve,invoke,builtin,h1],.inl rfl,h2,h3,h4,fun h=>by cases h⟩
        | true=>
          obtain⟨u,κ',h1,h2,h3,h4⟩:=Ck (P:=P) (ty:=type) hS hw (hn rfl) hI hx' hy' hr
          exact⟨_,u,κ',by simp[execOp,resolve,invoke,builtin,h1],.inl rfl,h2,h3,h4,fun h=>by cases h⟩
       ·cases hc
      ·cases hc
     ·cases hc
    ·cases hc
   ·cases hc
  ·cases hc
 ·rename_i t x lo hi
  split at hc
  ·rename_i n e hu
   split at hc
   ·rename_i s ax al ah hsz hx hl hh
    cases hc
    simp only[MOp.run] at hr
    obtain⟨l1,l2⟩:=oP (κ:=κ) (E:=E) (a:=a) hl (fun i hi=>hE i (by simp[MOp.slots,hi]))
    obtain⟨h1,h2⟩:=oP (κ:=κ) (E:=E) (a:=a) hh (fun i hi=>hE i (by simp[MOp.slots,hi]))
    have hx':=aH (κ:=κ) (E:=E) (a:=a) hx (fun i hi=>hE i (by simp[MOp.slots,hi]))
    split at hr
    ·rename_i r o hxe
     rw[hxe] at hx'
     obtain⟨b,N,hux,hnm⟩:∃ b N,a.eval x = .pointer (some ⟨b,o,none⟩)/\κ.nm r=some (.blk b N):=by
      generalize a.eval x=ux at hx'
      cases hx' with
      | ptr _ _ b N h=>exact⟨b,N,rfl,h⟩
     split at hr
     ·rename_i T f l hσ
      split at hr
      ·rename_i hg
       obtain⟨hf,hle,h0,hmax⟩:=hg
       simp only[WI,WR] at hr
       obtain⟨v',hv',rfl,rfl⟩:=hr
       obtain⟨cs,_,hcs,hln,hfn,_,_,_⟩:=dt hS hσ hnm
       have hN:=hfn hf
       have hrow:ARel κ (.row r s o n) (.slice (some ⟨b,o,none⟩) n n):=.row r s o n b N n hnm (by omega) (fun h=>by rw[h0 h,hN]) (WX _) (by unfold maxLen;omega)
       obtain⟨A,m',c',p,q,e1,hb,hv⟩:=vZ (P:=P) hrow l1 l2 h1 h2 hv'
       cases e1
       refine⟨.value _,_,κ,?_,.inl rfl,hv,Done.same c κ new,hS,fun _=>rfl⟩
       have hb:=hb false
       simp only[execOp,Instr.sliceAt,Sem.run_bind,run_underlying hu,Result.andThen_ok,hux,Instr.sureAddr,Sem.run_pure,Option.map_none,hb,cf hsz]
       congr 4
       split<;>rfl
      ·cases hr
     ·cases hr
    ·cases hr
   ·cases hc
  ·cases hc
 ·rename_i s d x
  split at hc
  ·rename_i e hs hd
   split at hc
   ·rename_i he
    simp only[WI] at hc
    obtain⟨ax,hx,rfl⟩:=hc
    simp only[MOp.run,WI,WR] at hr
    obtain⟨v',hv',rfl,rfl⟩:=hr
    obtain⟨u,h1,h2⟩:=MN (P:=P) hS hs he hd (aH hx hE) hv'
    exact⟨_,u,κ,by simp[execOp,h1],.inl rfl,h2,Done.same c κ new,hS,fun _=>rfl⟩
   ·cases hc
  ·cases hc
 ·rename_i t x y
  split at hc
  ·rename_i e hu
   split at hc
   ·rename_i i hi
    split at hc
    ·rename_i z hz
     split at hc
     ·rename_i p ax ay hp hx hy
      split at hc
      ·rename_i hsz
       cases hc
       simp only[MOp.run] at hr
       have hx':=aH (κ:=κ) (E:=E) (a:=a) hx (fun i hi=>hE i (by simp[MOp.slots,hi]))
       have hy':=aH (κ:=κ) (E:=E) (a:=a) hy (fun i hi=>hE i (by simp[MOp.slots,hi]))
       obtain⟨u,κ',h1,h2,h3,h4⟩:=Wc (P:=P) hS hw (hn rfl) hu hi hz hp hsz hx' hy' hr
       exact⟨_,u,κ',by simp[execOp,h1],.inl rfl,h2,h3,h4,fun h=>by cases h⟩
      ·cases hc
     ·cases hc
    ·cases hc
   ·cases hc
  ·cases hc
 ·cases hc
theorem DP {o:Oper}{m:MOp}{mu:Bool}{v:AV}{new:Nat}{δ:List (Nat×Blk)}(hc:cM P mu o.op=some m)(hS:SRel c κ σ)(hw:c.w0.heap.size<=κ.w.heap.size)(hn:m.makes=true->κ.nm new=none)
  (hE:∀ i,i∈m.slots->ARel κ (E i) (a.tmps.getD i Go.undef)) (hr:m.run c.G new E σ=some (v,δ)) :
  ∃ x u κ',(execOp a.eval o).run P κ.w = .ok x κ'.w/\(x = .value u\/(x = .skip/\u=Go.undef))/\ARel κ' v u/\Done c κ κ' new/\SRel c κ' (σ.upd δ)/\(m.makes=false->κ'.nm=κ.nm):=by
 unfold cM at hc
 split at hc
 ·rename_i m' hm
  cases hc
  exact z7 hm hS hw hn hE hr
 ·simp only[WI] at hc
  obtain⟨x,hx,rfl⟩:=hc
  exact Bu hx hS hw hn hE hr
def cBf (P:Program):Op->Option MOp
 | .buildSlice t len parts=>match P.underlying t with
   | some (.slice e)=>match iW P e,nL P e,cXs (parts.toList.map (·.2)) with
     | some n,some _,some xs=>if len*n<=2 ^ 24/\parts.toList.map (·.1)=Xq len then some (.xop (.bslf n len xs)) else none
     | _,_,_=>none
   | _=>none
 | _=>none
def cMm (P:Program)(mu:Bool×Bool)(op:Op):Option MOp:=
 match mu.2 with
 | true=>cBf P op
 | false=>cM P mu.1 op
theorem oo {o:Oper}{m:MOp}{mu:Bool×Bool}{v:AV}{new:Nat}{δ:List (Nat×Blk)}(hc:cMm P mu o.op=some m)(hS:SRel c κ σ)(hw:c.w0.heap.size<=κ.w.heap.size)(hn:m.makes=true->κ.nm new=none)
  (hE:∀ i,i∈m.slots->ARel κ (E i) (a.tmps.getD i Go.undef)) (hr:m.run c.G new E σ=some (v,δ)) :
  ∃ x u κ',(execOp a.eval o).run P κ.w = .ok x κ'.w/\(x = .value u\/(x = .skip/\u=Go.undef))/\ARel κ' v u/\Done c κ κ' new/\SRel c κ' (σ.upd δ)/\(m.makes=false->κ'.nm=κ.nm):=by
 obtain⟨mu,fz⟩:=mu
 cases fz with
 | false=>exact DP hc hS hw hn hE hr
 | true=>
   obtain⟨dst,op,type,pos,after,guard⟩:=o
   simp only[cMm] at hc
   unfold cBf at hc
   split at hc
   ·rename_i op t len parts
    split at hc
    ·rename_i e hu
     split at hc
     ·rename_i n zs xs hn' hz hxs
      split at hc
      ·rename_i hh
       cases hc
       simp only[MOp.run,XOp.run,kM] at hr
       split at hr
       ·rename_i hl
        split at hr
        ·rename_i ps hps
         split at hr
         ·rename_i hall
          cases hr
          obtain⟨z,p,hz1,_,_⟩:=pg (P:=P) (w:=κ.w) hz
          have hE':∀ i,i∈xs.flatMap AX.slots->ARel κ (E i) (a.tmps.getD i Go.undef):=fun i hi=>hE i (by simpa[MOp.slots,XOp.slots] using hi)
          obtain⟨_,hrel⟩:=iI (κ:=κ) (E:=E) (a:=a) hxs hE'
          obtain⟨us,r1,r2,r3⟩:=oR (P:=P) (t:=t) (parts:=parts.map fun p=>(p.1,a.eval p.2)) (z:=z) hu hn' hz1 hh.1 (by rw[<- hh.2];simp[Function.comp_def]) (fun i v hv=>by
           have:=hrel i v hv
           simpa[Function.comp_def] using this) hl hps hall
          obtain⟨h1,h2⟩:=T6 hS hw (.cells us e) (fun j=>j<len*n) new
          have hh2:(κ.w.alloc (.cells us e)).heap[κ.w.heap.size]? = some (.cells us e (0,0)):=heap_alloc_new κ.w _
          have hmax:len<=maxLen:=by have:=hl.2;unfold maxLen;omega
          exact⟨_,_,_,by simp[execOp,r1],.inl rfl,.pv _ _ ((r3.ext h1.ext).list (by rw[cz hps,hl.1]) (WX _) hmax (nj hh2 (show us.toList.take (len*n)=us.toList from Xm (by simp;omega))) (fun j hj=>.inr ⟨rfl,hj⟩)),h1,h2,fun _=>rfl⟩
         ·cases hr
        ·cases hr
       ·cases hr
      ·cases hc
     ·cases hc
    ·cases hc
   ·cases hc
end
def km (sz:Nat):Nat->List PV->List PV
 | 0,_=>[]
 | n+1,l=>(if sz=1 then l.headD .undef else .agg (l.take sz))::km sz n (l.drop sz)
def RJ (sz len r:Nat):Blk->Option (PV×List Nat)
 | .cells _ _ l=>if 0<sz/\len*sz<=l.length/\(l.take (len*sz)).all AV.one=true then (pvs (l.take (len*sz))).map fun ps=>(.list (km sz len ps),[r]) else none
 | _=>none
def Oz (σ:aE):AV->Option (PV×List Nat)
 | .pv p=>some (p,[])
 | .olist _ _ l=>some (.list l,[])
 | .row r sz 0 len=>RJ sz len r (σ r)
 | _=>none
def Ti:Option (PV×List Nat)->Option (List PV×List Nat)->Option (List PV×List Nat)
 | some p,some q=>some (p.1::q.1,p.2++q.2)
 | _,_=>none
def JA (σ:aE):List AV->Option (List PV×List Nat)
 | []=>some ([],[])
 | x::r=>Ti (Oz σ x) (JA σ r)
def Jy (σ:aE):AV->Option (PV×List Nat)
 | .agg cs=>(JA σ cs).map fun p=>(.agg p.1,p.2)
 | x=>Oz σ x
def Ox (p:PV×List Nat):AV×List (Nat×Blk):=(.pv p.1,p.2.map fun r=>(r,.none))
def OF (G:Nat->List PV)(σ:aE):Option (Bool×Nat)->AV->Option (AV×List (Nat×Blk))
 | none,v=>(Jy σ v).map Ox
 | some (g,sz),v=>match fV G g sz σ v with
   | some v=>(Jy σ v).map Ox
   | none=>none
section
variable {P:Program}{c:Ctx}{κ:Kap}{σ:aE}
theorem oY:∀ (rs:List Nat) (σ:aE) (r:Nat),aE.upd σ (rs.map fun r=>(r,Blk.none)) r=if r∈rs then .none else σ r
 | [],σ,r=>by simp[aE.upd]
 | x::q,σ,r=>by
   rw[WP,aE.upd,oY q]
   by_cases h:r∈q
   ·simp[h]
   ·by_cases hx:r=x
    ·subst hx;simp[aE.set]
    ·simp[h,hx,aE.set]
def JB (κ:Kap)(σ:aE)(rs:List Nat):Kap:=
 ⟨κ.w,κ.nm,fun b o=>κ.imm b o\/∃ r∈rs,∃ n,κ.nm r=some (.blk b n)/\∃ T f l,σ r = .cells T f l/\o<l.length⟩
theorem xu (hS:SRel c κ σ)(rs:List Nat)(hrs:∀ r∈rs,σ r≠.none)(new:Nat):Done c κ (JB κ σ rs) new/\SRel c (JB κ σ rs) (σ.upd (rs.map fun r=>(r,.none))):=by
 have he:Ext κ (JB κ σ rs):=⟨fun _ _ h=>.inl h,fun _ _ _ _ h=>h,fun _ _ h=>h,fun _ _ h _=>h⟩
 refine⟨⟨he,fun imm0 hL=>⟨hL.os,hL.tape,hL.output,hL.size,hL.block,fun b o hi=>?_⟩,WX _,fun _ _ h=>h⟩,?_⟩
 ·rcases hi with hi | ⟨r,hr,n,hn,_⟩
  ·exact hL.imm b o hi
  ·exact .inr (hS.mine r _ b (hrs r hr) hn rfl)
 ·have hz:∀ r,(σ.upd (rs.map fun r=>(r,Blk.none))) r≠.none->r∉rs/\σ r≠.none:=by
   intro r h
   rw[oY] at h
   by_cases hm:r∈rs
   ·simp[hm] at h
   ·simp[hm] at h;exact⟨hm,h⟩
  refine⟨fun r=>?_,fun r r' d d' b h1 h2=>hS.apart r r' d d' b (hz r h1).2 (hz r' h2).2,fun r d b h1=>hS.mine r d b (hz r h1).2,fun b o hi=>?_,Wr he hS.glob fun _ _ _=>rfl⟩
  ·rw[oY]
   by_cases hm:r∈rs
   ·simp[hm,fM]
   ·simp only[hm,if_false]
    refine (hS.blk r).keep he fun hnz d b hd hb=>⟨rfl,fun o ho=>?_⟩
    rcases ho with ho | ⟨r',hr',n,hn,_⟩
    ·exact ho
    ·exact absurd rfl (hS.apart r r' d _ b hnz (hrs r' hr') (fun e=>hm (e▸hr')) hd hn hb)
  ·rcases hi with hi | ⟨r,hr,n,hn,_⟩
   ·exact hS.immLt b o hi
   ·exact (hS.blk r).lt (hrs r hr) hn rfl
theorem Dk {x:AV}{p:PV}(h:x.toPV=some p)(h1:x.one=true):p.cells=[p]:=by
 cases x with
 | pv q=>
   simp only[AV.toPV,WJ] at h
   subst h
   cases q<;>first | rfl | simp[AV.one,PV.one] at h1
 | olist a b l=>
   simp only[AV.toPV,WJ] at h
   subst h;rfl
 | _=>simp[AV.toPV] at h
theorem nc (sz:Nat):∀ (n:Nat) (l:List PV),(km sz n l).length=n
 | 0,l=>rfl
 | n+1,l=>by simp[km,nc sz n]
theorem nh {sz:Nat}(hsz:0<sz):∀ (n:Nat) (l:List PV) (i:Nat) (x:PV),n*sz<=l.length->(∀ p∈l,p.cells=[p])->(km sz n l)[i]? = some x->i<n/\x.cells=(l.drop (i*sz)).take sz
 | 0,l,i,x,_,_,h=>by simp[km] at h
 | n+1,l,i,x,hl,h1,h=>by
   rw[Nat.succ_mul] at hl
   cases i with
   | zero=>
     simp only[km,Xb,WJ] at h
     refine⟨by omega,?_⟩
     subst h
     by_cases hs:sz=1
     ·subst hs
      cases l with
      | nil=>simp at hl
      | cons y q=>
        simp only[if_true,List.headD_cons,Nat.zero_mul,List.drop_zero,List.take_succ_cons,List.take_zero]
        exact h1 y (by simp)
     ·rw[if_neg hs];simp[PV.cells]
   | succ i=>
     simp only[km,List.getElem?_cons_succ] at h
     obtain⟨h2,h3⟩:=nh hsz n (l.drop sz) i x (by simp;omega) (fun p hp=>h1 p (List.mem_of_mem_drop hp)) h
     refine⟨by omega,?_⟩
     rw[h3,List.drop_drop,Nat.succ_mul,Nat.add_comm]
theorem xy (hS:SRel c κ σ){x:AV}{u:Value}{p:PV}{rs:List Nat}(hx:ARel κ x u)(h:Oz σ x=some (p,rs)) :
  (∀ r∈rs,σ r≠.none)/\∀ rs',(∀ r∈rs,r∈rs')->PRel κ.w (JB κ σ rs').imm p u:=by
 unfold Oz at h
 split at h
 ·cases h
  exact⟨by simp,fun rs' _=>(aT hx).mono (fun _ _ h=>.inl h) (fun _ _ _ _ h=>h)⟩
 ·cases h
  refine⟨by simp,fun rs' _=>?_⟩
  cases hx with
  | olist _ _ _ _ hn hp _=>exact hp.mono (fun _ _ h=>.inl h) (fun _ _ _ _ h=>h)
 ·rename_i r sz len
  unfold RJ at h
  split at h
  ·rename_i T f l hσ
   split at h
   ·rename_i hh
    obtain⟨hsz,hle,hone⟩:=hh
    simp only[WI,WR] at h
    obtain⟨ps,hps,rfl,rfl⟩:=h
    refine⟨by simp[hσ],fun rs' hrs=>?_⟩
    cases hx with
    | row0=>exact .lnil _ _ (Xr _)
    | row _ _ _ _ b n cap hnm k1 k0 k2 k3=>
      obtain⟨cs,hg,hcs,hln,_,himm,hrel,hcell⟩:=dt hS hσ hnm
      have hpl:ps.length=len*sz:=by rw[cz hps];simp;omega
      have hget:∀ (i:Nat) (q:PV),ps[i]? = some q->∃ y,l[i]? = some y/\y.toPV=some q/\y.one=true:=by
       intro i q hq
       obtain⟨y,hy,hyq⟩:=dj hps i q hq
       have h1:=(W8.1 hone) y (WK hy)
       rw[Xl] at hy
       split at hy
       ·exact⟨y,hy,hyq,h1⟩
       ·cases hy
      have hpone:∀ q∈ps,q.cells=[q]:=by
       intro q hq
       obtain⟨i,hi⟩:=XO hq
       obtain⟨y,_,h2,h3⟩:=hget i q hi
       exact Dk h2 h3
      have hc:∀ (i:Nat) (y:PV),(km sz len ps)[i]? = some y->y.cells.length=sz:=by
       intro i y hy
       obtain⟨hi,hyc⟩:=nh hsz len ps i y (by omega) hpone hy
       have:(i+1)*sz<=len*sz:=Xa _ hi
       rw[Nat.succ_mul] at this
       rw[hyc];simp;omega
      have hcc:∀ (i:Nat) (y:PV) (j:Nat) (z:PV),(km sz len ps)[i]? = some y->y.cells[j]? = some z->ps[i*sz+j]? = some z/\i*sz+j<len*sz:=by
       intro i y j z hy hz
       obtain⟨hi,hyc⟩:=nh hsz len ps i y (by omega) hpone hy
       rw[hyc,Xl] at hz
       split at hz
       ·rename_i hj
        rw[List.getElem?_drop] at hz
        exact⟨hz,xh hi hj⟩
       ·cases hz
      have key:=PRel.list (w:=κ.w) (imm:=(JB κ σ rs').imm) (km sz len ps) b 0 cap sz (fun i j=>cs.getD (i*sz+j) Go.undef) (by rw[nc];exact k2) k3 hc (fun i y j z hy hz=>by
        obtain⟨h1,h2⟩:=hcc i y j z hy hz
        obtain⟨q,h3,h4,h5⟩:=hget _ z h1
        rw[W4]
        refine⟨.inr ⟨r,hrs r (by simp),n,hnm,T,f,l,hσ,by omega⟩,?_,(hrel _ q h3).oneCell h5⟩
        have hlt:i*sz+j<cs.size:=by omega
        rw[cell_of_row κ.w b _ cs T (0,0) hg]
        simp[WM,hlt]) (fun i y j z hy hz=>by
        obtain⟨h1,h2⟩:=hcc i y j z hy hz
        obtain⟨q,h3,h4,h5⟩:=hget _ z h1
        exact (cr h4 (hrel _ q h3)).mono (fun _ _ h=>.inl h) (fun _ _ _ _ h=>h))
      rw[nc] at key
      exact key
   ·cases h
  ·cases h
 ·cases h
theorem xx (hS:SRel c κ σ):∀ (xs:List AV) (vs:List Value) (ps:List PV) (rs:List Nat),(∀ (i:Nat) (x:AV),xs[i]? = some x->ARel κ x (vs.getD i Go.undef))->JA σ xs=some (ps,rs) ->
  ps.length=xs.length/\(∀ r∈rs,σ r≠.none)/\∀ rs',(∀ r∈rs,r∈rs')->∀ (i:Nat) (p:PV),ps[i]? = some p->PRel κ.w (JB κ σ rs').imm p (vs.getD i Go.undef)
 | [],vs,ps,rs,hx,h=>by
   simp only[JA,WJ,WR] at h
   obtain⟨rfl,rfl⟩:=h
   exact⟨rfl,by simp,fun _ _ i p hp=>by simp at hp⟩
 | x::q,vs,ps,rs,hx,h=>by
   simp only[JA] at h
   unfold Ti at h
   split at h
   ·rename_i p1 q1 h1 h2
    cases h
    obtain⟨a1,a2⟩:=xy hS (hx 0 x (by simp)) h1
    obtain⟨b0,b1,b2⟩:=xx hS q (vs.drop 1) q1.1 q1.2 (fun i y hy=>by
     have:=hx (i+1) y (by simpa using hy)
     simpa[WN,Nat.add_comm] using this) h2
    refine⟨by simp[b0],fun r hr=>(Xk.1 hr).elim (a1 r) (b1 r),fun rs' hrs i p hp=>?_⟩
    cases i with
    | zero=>
      simp only[Xb,WJ] at hp
      subst hp
      exact a2 rs' fun r hr=>hrs r (Xk.2 (.inl hr))
    | succ i=>
      have:=b2 rs' (fun r hr=>hrs r (Xk.2 (.inr hr))) i p (by simpa using hp)
      simpa[WN,Nat.add_comm] using this
   ·cases h
theorem xw (hS:SRel c κ σ){x:AV}{u:Value}{p:PV}{rs:List Nat}(hx:ARel κ x u)(h:Jy σ x=some (p,rs)) :
  (∀ r∈rs,σ r≠.none)/\PRel κ.w (JB κ σ rs).imm p u:=by
 unfold Jy at h
 split at h
 ·rename_i cs
  simp only[WI,WR] at h
  obtain⟨q,hq,rfl,rfl⟩:=h
  cases hx with
  | agg _ vs hl hc=>
    obtain⟨h0,h1,h2⟩:=xx hS cs vs.toList q.1 q.2 (fun i x hx=>by rw[<- aL];exact hc i x hx) hq
    refine⟨h1,.agg _ _ (by rw[hl,h0]) fun i p hp=>?_⟩
    rw[aL]
    exact h2 q.2 (fun _ h=>h) i p hp
 ·obtain⟨h1,h2⟩:=xy hS hx h
  exact⟨h1,h2 rs fun _ h=>h⟩
theorem QD (hS:SRel c κ σ){x v:AV}{u:Value}{δ:List (Nat×Blk)}(new:Nat)(hx:ARel κ x u)(h:(Jy σ x).map Ox=some (v,δ)) :
  ∃ κ',κ'.w=κ.w/\ARel κ' v u/\Done c κ κ' new/\SRel c κ' (σ.upd δ):=by
 simp only[WI] at h
 obtain⟨q,hq,h⟩:=h
 unfold Ox at h
 simp only[WR] at h
 obtain⟨rfl,rfl⟩:=h
 obtain⟨h1,h2⟩:=xw hS hx hq
 obtain⟨h3,h4⟩:=xu hS q.2 h1 new
 exact⟨JB κ σ q.2,rfl,.pv _ _ h2,h3,h4⟩
def VQ (P:Program)(g:Option (Bool×Nat))(ax:AX)(op:Op):Prop:=
 match g with
 | none=>∃ x,op = .move x/\cX x=some ax
 | some (g,n)=>∃ t x,op = .load t x/\iW P t=some n/\nt P t=some g/\cX x=some ax
theorem E1 {E:Nat->AV}{a:Act}{o:Oper}{g:Option (Bool×Nat)}{ax:AX}{v:AV}{new:Nat}{δ:List (Nat×Blk)}(hc:VQ P g ax o.op)(hS:SRel c κ σ)
  (hE:∀ i,i∈ax.slots->ARel κ (E i) (a.tmps.getD i Go.undef)) (hr:OF c.G σ g (ax.ev E)=some (v,δ)) :
  ∃ u κ',(execOp a.eval o).run P κ.w = .ok (.value u) κ'.w/\ARel κ' v u/\Done c κ κ' new/\SRel c κ' (σ.upd δ):=by
 obtain⟨dst,op,type,pos,after,guard⟩:=o
 cases g with
 | none=>
   obtain⟨x,rfl,hx⟩:=hc
   obtain⟨κ',h1,h2,h3,h4⟩:=QD hS new (aH (κ:=κ) (E:=E) (a:=a) hx hE) hr
   exact⟨_,κ',by simp[execOp,h1],h2,h3,h4⟩
 | some p=>
   obtain⟨g,n⟩:=p
   obtain⟨t,x,rfl,hn,hg,hx⟩:=hc
   simp only[OF] at hr
   split at hr
   ·rename_i v' hv'
    obtain⟨u,h1,h2⟩:=Ci (P:=P) hS hg hn (aH (κ:=κ) (E:=E) (a:=a) hx hE) hv'
    obtain⟨κ',k1,k2,k3,k4⟩:=QD hS new h2 hr
    exact⟨u,κ',by simp[execOp,h1,k1],k2,k3,k4⟩
   ·cases hr
end
inductive AOp where
 | t (o:TOp)
 | m (o:MOp)
 | call (f:AX) (args:List AX)
 | fz (g:Option (Bool×Nat)) (x:AX)
structure AOper where
 dst:Option Nat
 op:AOp
 guard:Option (Nat×Bool)
structure St where
 env:List (Nat×AV)
 sto:List (Nat×Blk)
 next:Nat
def look (i:Nat):List (Nat×AV)->AV
 | []=>.any
 | p::r=>if p.1=i then p.2 else look i r
def lookB (i:Nat):List (Nat×Blk)->Blk
 | []=>.none
 | p::r=>if p.1=i then p.2 else lookB i r
def St.E (s:St)(i:Nat):AV:=look i s.env
def St.σ (s:St)(r:Nat):Blk:=lookB r s.sto
def St.put (s:St)(d:Option Nat)(v:AV):St:=
 match d with
 | some d=>⟨(d,v)::s.env,s.sto,s.next⟩
 | none=>s
def nw (l:List (Nat×Blk)):List (Nat×Blk)->List (Nat×Blk)
 | []=>l
 | p::r=>nw (p::l) r
def St.mem (s:St)(δ:List (Nat×Blk)):St:=⟨s.env,nw s.sto δ,s.next+1⟩
theorem jj:∀ (δ l:List (Nat×Blk)) (r:Nat),lookB r (nw l δ)=aE.upd (fun r=>lookB r l) δ r
 | [],l,r=>rfl
 | p::q,l,r=>by
   rw[nw,aE.upd,jj q (p::l) r]
   congr 1
   funext x
   simp only[lookB,aE.set]
   by_cases h:p.1=x
   ·simp[h]
   ·rw[if_neg h,if_neg (fun e=>h e.symm)]
def Ll (D:Nat):Deferred:={ target:=.collected D,args:=#[] }
def ee (c:Ctx)(κ:Kap)(ds:List Deferred):Prop:=c.rnd=true\/∃ Ds:List Nat,ds=Ds.map Ll/\Ds.Nodup/\∀ D∈Ds,c.w0.heap.size<=D/\κ.w.heap[D]? = some (.deferred (some []))
theorem ee.ext {c:Ctx}{κ κ':Kap}{ds:List Deferred}(h:ee c κ ds)(he:Ext κ κ'):ee c κ' ds:=by
 rcases h with h | ⟨Ds,h1,h2,h3⟩
 ·exact .inl h
 ·exact .inr ⟨Ds,h1,h2,fun D hD=>⟨(h3 D hD).1,he.obj D _ (h3 D hD).2 rfl⟩⟩
theorem ee.nil (c:Ctx)(κ:Kap):ee c κ []:=.inr ⟨[],rfl,List.nodup_nil,fun D hD=>by simp at hD⟩
structure Rel (c:Ctx)(κ0:Kap)(N:Nat)(s:St)(a:Act)(w:World)(κ:Kap):Prop where
 w_eq:κ.w=w
 ext0:Ext κ0 κ
 rel:SRel c κ s.σ
 left:Left c κ0.imm κ
 env:∀ i,ARel κ (s.E i) (a.tmps.getD i Go.undef)
 size:a.tmps.size=N
 defers:ee c κ a.defers
 fresh:∀ r,s.next<=r->κ.nm r=none
def Wx (s s':St):Prop:=∀ (c:Ctx) (κ0 κ:Kap) (N:Nat) (a:Act) (w:World),Rel c κ0 N s a w κ->∃ κ',Ext κ κ'/\Rel c κ0 N s' a w κ'
def Wk (m0:Nat)(s s':St):Prop:=∀ (c:Ctx) (κ0 κ:Kap) (N:Nat) (a:Act) (w:World),(∀ r,m0<=r->κ0.nm r=none)->Rel c κ0 N s a w κ->∃ κ',Rel c κ0 N s' a w κ'
def WkC (s:St)(args:List AV)(s':St)(args':List AV):Prop:=args'.length=args.length/\s'.env=s.env/\∀ (c:Ctx) (κ0 κ:Kap) (N:Nat) (a:Act) (w:World) (vals:Array Value),Rel c κ0 N s a w κ ->
 (∀ (i:Nat) (x:AV),args[i]? = some x->ARel κ x (vals.getD i Go.undef))->∃ κ',Rel c κ0 N s' a w κ'/\∀ (i:Nat) (x:AV),args'[i]? = some x->ARel κ' x (vals.getD i Go.undef)
theorem Wx.refl (s:St):Wx s s:=fun c κ0 κ N a w h=>⟨κ,Ext.refl κ,h⟩
theorem Wx.trans {s t u:St}(h:Wx s t)(k:Wx t u):Wx s u:=fun c κ0 κ N a w hr=>by
 obtain⟨κ1,e1,h1⟩:=h c κ0 κ N a w hr
 obtain⟨κ2,e2,h2⟩:=k c κ0 κ1 N a w h1
 exact⟨κ2,e1.trans e2,h2⟩
theorem Wk.of {s t:St}(h:Wx s t)(m0:Nat):Wk m0 s t:=fun c κ0 κ N a w _ hr=>by
 obtain⟨κ1,_,h1⟩:=h c κ0 κ N a w hr
 exact⟨κ1,h1⟩
theorem Wk.trans {m0:Nat}{s t u:St}(h:Wk m0 s t)(k:Wk m0 t u):Wk m0 s u:=fun c κ0 κ N a w h0 hr=>by
 obtain⟨κ1,h1⟩:=h c κ0 κ N a w h0 hr
 exact k c κ0 κ1 N a w h0 h1
theorem WkC.refl (s:St)(args:List AV):WkC s args s args:=⟨rfl,rfl,fun c κ0 κ N a w vals h g=>⟨κ,h,g⟩⟩
def cx (P:Program)(f:Nat):Bool:=
 match P.funcs[f]? with
 | some fn=>fn.body.isSome&&!(fn.name == "runtime.NumGoroutine")
 | none=>false
def dd (G:Nat->List PV)(w:World)(imm:Nat->Nat->Prop):Prop:=
 (∀ g o p,(G g)[o]? = some p->imm g o/\∃ v,w.cell? ⟨g,o,none⟩=some v/\v.oneCell'=true/\PRel w imm p v) /\
 ∀ g,G g≠[]->∃ cs T fz,w.heap[g]? = some (.cells cs T fz)/\cs.size=(G g).length
theorem kW.ok {c:Ctx}{κ:Kap}(h:kW c κ):dd c.G κ.w κ.imm:=⟨h.1,fun g hg=>(h.2 g hg).2.2⟩
def am (P:Program)(G:Nat->List PV)(f:Nat)(args:List PV)(r:PV):Prop:=
 cx P f=true/\∀ (w:World) (imm:Nat->Nat->Prop) (vals:Array Value),dd G w imm->(∀ b o,imm b o->b<w.heap.size)->vals.size=args.length ->
  (∀ (i:Nat) (x:PV),args[i]? = some x->PRel w imm x (vals.getD i Go.undef)) ->
  Calls P f vals w fun e w'=>∃ u imm',e = .returned u/\Below w.heap.size w w'/\(∀ b o,imm b o->imm' b o)/\(∀ b o,imm' b o->imm b o\/w.heap.size<=b)/\(∀ b o,imm' b o->b<w'.heap.size)/\PRel w' imm' r u
def cQ (κ:Kap)(σ:aE)(G:Nat->List PV):Ctx:=⟨κ.w,fun b=>∃ r d,σ r≠.none/\κ.nm r=some d/\d.block=some b,G,false⟩
theorem kW.lend {c:Ctx}{κ:Kap}{σ:aE}(h:kW c κ)(hm:∀ b,(cQ κ σ c.G).lent b->c.mine b):kW (cQ κ σ c.G) κ:=
 ⟨h.1,fun g hg=>by
  obtain⟨h1,h2,cs,T,fz,h3,h4⟩:=h.2 g hg
  exact⟨(WU.1 h3).1,fun hl=>fy h1 h2 (hm g hl),cs,T,fz,h3,h4⟩⟩
theorem kW.back {c:Ctx}{κ κ':Kap}{σ:aE}(h:kW c κ)(hm:∀ b,(cQ κ σ c.G).lent b->c.mine b)(h':kW (cQ κ σ c.G) κ')
  (hb:∀ b,b<κ.w.heap.size->¬ (cQ κ σ c.G).lent b->κ'.w.heap[b]? = κ.w.heap[b]?):kW c κ':=
 ⟨h'.1,fun g hg=>by
  obtain⟨h1,h2,cs,T,fz,h3,h4⟩:=h.2 g hg
  exact⟨h1,h2,cs,T,fz,(hb g (WU.1 h3).1 fun hl=>fy h1 h2 (hm g hl)).trans h3,h4⟩⟩
def da (P:Program)(G:Nat->List PV)(f:Nat)(args:List AV)(sto:List (Nat×Blk))(next:Nat)(Q:AV->List (Nat×Blk)->Nat->Prop):Prop:=
 cx P f=true/\∀ (κ:Kap) (vals:Array Value),SRel (cQ κ (fun r=>lookB r sto) G) κ (fun r=>lookB r sto)->(∀ r,next<=r->κ.nm r=none)->vals.size=args.length ->
  (∀ (i:Nat) (x:AV),args[i]? = some x->ARel κ x (vals.getD i Go.undef)) ->
  Calls P f vals κ.w fun e w'=>∃ u v κ' sto' next',e = .returned u/\κ'.w=w'/\Ext κ κ'/\Left (cQ κ (fun r=>lookB r sto) G) κ.imm κ'/\ARel κ' v u /\
   SRel (cQ κ (fun r=>lookB r sto) G) κ' (fun r=>lookB r sto')/\(∀ r,next'<=r->κ'.nm r=none)/\Q v sto' next'
def ae (P:Program)(G:Nat->List PV)(f:Nat)(args:List AV)(s:St)(K:AV->St->Prop):Prop:=
 ∃ s' args',WkC s args s' args'/\((∃ ps r,pvs args'=some ps/\am P G f ps r/\K (.pv r) s') \/
 (∃ Q,da P G f args' s'.sto s'.next Q/\∀ v sto' next',Q v sto' next'->K v ⟨s.env,sto',next'⟩))
def ed:AV->Option (Nat×List AV×List AV)
 | .pv (.clo f fs cs)=>some (f,fs.map .pv,cs.map .pv)
 | .clo f fs cs=>some (f,fs,cs)
 | _=>none
def aV {α:Type}(x:Option α)(k:α->Prop):Prop:=
 match x with
 | some a=>k a
 | none=>False
def cH (s:St):Option (Nat×Bool)->Option Bool
 | none=>some true
 | some (i,b)=>match s.E i with
   | .pv (.bool x)=>some (x == b)
   | .pv .undef=>some false
   | _=>none
def NR (F:St->Prop)(s:St)(d:Option Nat)(v:AV):Prop:=F (s.put d v)
def nextM (F:St->Prop)(s:St)(d:Option Nat)(p:AV×List (Nat×Blk)):Prop:=F ((s.mem p.2).put d p.1)
def NS (F:St->Prop)(d:Option Nat)(v:AV)(s:St):Prop:=F (s.put d v)
def FQ (P:Program)(G:Nat->List PV)(args:List AV)(s:St)(K:AV->St->Prop)(p:Nat×List AV×List AV):Prop:=ae P G p.1 (p.2.1++args++p.2.2) s K
def Rk (E:Nat->AV):TOp->Bool
 | .beq 2 _ x (.c .nils)=>match x.ev E with
   | .pv (.list [])=>true
   | _=>false
 | _=>false
def jY (x:Option AV)(k:AV->Prop)(nb:Bool):Prop:=
 match x with
 | some v=>k v
 | none=>nb=true/\∀ b:Bool,k (.pv (.bool b))
def nA (P:Program)(G:Nat->List PV)(F:St->Prop)(s:St)(d:Option Nat):AOp->Prop
 | .t o=>jY (o.run s.E) (NR F s d) (Rk s.E o)
 | .m o=>aV (o.run G s.next s.E s.σ) (nextM F s d)
 | .call f xs=>aV (ed (f.ev s.E)) (FQ P G (xs.map (·.ev s.E)) s (NS F d))
 | .fz g x=>aV (OF G s.σ g (x.ev s.E)) (nextM F s d)
def OW (P:Program)(G:Nat->List PV)(F:St->Prop)(s:St)(d:Option Nat)(o:AOp)(b:Bool):Prop:=
 match b with
 | true=>nA P G F s d o
 | false=>F (s.put d (.pv .undef))
def ef (P:Program)(G:Nat->List PV):List AOper->(St->Prop)->St->Prop
 | [],F,s=>F s
 | o::r,F,s=>aV (cH s o.guard) (OW P G (ef P G r F) s o.dst o.op)
def FU (ops:Array Oper):Option (Nat×Bool)->Option (Option (Nat×Bool))
 | none=>some none
 | some (j,b)=>match (ops[j]?).bind (·.dst) with
   | some d=>some (some (d,b))
   | none=>none
def cF (P:Program):Op->Option AOp
 | .move x=>(cX x).map (.fz none)
 | .load t x=>match iW P t,nt P t,cX x with
   | some n,some g,some ax=>some (.fz (some (g,n)) ax)
   | _,_,_=>none
 | _=>none
def kV:AOp:=.call (.c .undef) []
def Wf:Op->Bool
 | .slice _ _ _ _ _=>true
 | .binOp .eql _ _ _ _ | .binOp .neq _ _ _ _=>true
 | _=>false
def cT1 (P:Program)(mu:Bool)(op:Op):Option TOp:=
 match mu&&Wf op with
 | true=>none
 | false=>cT P op
theorem xZ {P:Program}{mu:Bool}{op:Op}{t:TOp}(h:cT1 P mu op=some t):cT P op=some t:=by
 unfold cT1 at h
 split at h
 ·cases h
 ·exact h
def Rm (d:Option TypeDesc):Option Method->Option Nat
 | some m=>match m.path.toList,m.func,d with
   | [],some (f,true),some (.pointer _)=>some f
   | [],some (_,false),some (.pointer _)=>none
   | [],some (f,false),some _=>some f
   | _,_,_=>none
 | none=>none
def T4 (P:Program)(m:String)(T:Nat):Option Nat:=
 match P.info? T with
 | some i=>Rm (P.underlying T) (i.methods.find? (·.name == m))
 | none=>none
def zW (P:Program)(m:String):List Nat->List (Nat×Nat)
 | []=>[]
 | T::r=>match T4 P m T with
   | some f=>(T,f)::zW P m r
   | none=>zW P m r
def T3 (P:Program)(m:String):List (Nat×Nat):=zW P m (Xq P.types.size)
theorem j1 {P:Program}{m:String}{T f:Nat}:∀ {l:List Nat},rV T (zW P m l)=some f->T4 P m T=some f
 | [],h=>by simp[zW,rV] at h
 | t::r,h=>by
   simp only[zW] at h
   split at h
   ·rename_i g hg
    simp only[rV] at h
    split at h
    ·rename_i he
     cases h
     rw[<- he];exact hg
    ·exact j1 h
   ·exact j1 h
theorem zX {P:Program}{m:String}{T f:Nat}(h:rV T (T3 P m)=some f)(k:Nat)(v:Value)(w:World):(method (k+1) T v m).run P w = .ok (f,v) w:=by
 have h:=j1 h
 unfold T4 at h
 split at h
 ·rename_i i hi
  generalize hd:P.underlying T=d at h
  generalize hm:i.methods.find? (·.name == m)=o at h
  unfold Rm at h
  split at h
  ·rename_i row
   split at h
   ·rename_i f' te hp hf
    cases h
    simp[method,typeInfo,hi,hm,hp,hf,follow,receiverAt,run_underlying hd,Place.get]
   ·cases h
   ·rename_i f' td hnp hp hf
    cases h
    cases td with
    | pointer e=>exact absurd rfl (hnp e)
    | _=>simp[method,typeInfo,hi,hm,hp,hf,follow,receiverAt,run_underlying hd,Place.get]
   ·cases h
  ·cases h
 ·cases h
def FV (P:Program):Op->AOp
 | .call { callee:=.value f,args,argTypes:=_ }=>match cX f,cXs args.toList with
   | some af,some xs=>.call af xs
   | _,_=>kV
 | .call { callee:=.invoke (.tmp r) m,args,argTypes:=_ }=>match cXs args.toList with
   | some xs=>.call (.m r (T3 P m)) xs
   | none=>kV
 | _=>kV
def Mf (P:Program)(o:Op)(af:AX)(xs:List AX):Prop:=
 (∃ f args ts,o = .call { callee:=.value f,args:=args,argTypes:=ts }/\cX f=some af/\cXs args.toList=some xs) \/
 ∃ r m args ts,o = .call { callee:=.invoke (.tmp r) m,args:=args,argTypes:=ts }/\af = .m r (T3 P m)/\cXs args.toList=some xs
theorem sF (P:Program)(o:Op):FV P o=kV\/∃ af xs,FV P o = .call af xs/\Mf P o af xs:=by
 unfold FV
 split
 ·split
  ·exact .inr ⟨_,_,rfl,.inl ⟨_,_,_,rfl,‹_›,‹_›⟩⟩
  ·exact .inl rfl
 ·split
  ·exact .inr ⟨_,_,rfl,.inr ⟨_,_,_,_,rfl,rfl,‹_›⟩⟩
  ·exact .inl rfl
 ·exact .inl rfl
def cA0 (P:Program)(mu:Bool)(op:Op):Option AOp:=
 match cT1 P mu op with
 | some t=>some (.t t)
 | none=>match cM P mu op with
   | some m=>some (.m m)
   | none=>some (FV P op)
def cA (P:Program)(mu:Bool×Bool)(op:Op):Option AOp:=
 match mu.2 with
 | true=>match cF P op with
   | some a=>some a
   | none=>(cBf P op).map .m
 | false=>cA0 P mu.1 op
theorem UR {P:Program}{o:Op}{op:AOp}(h:cF P o=some op):∃ g x,op = .fz g x/\VQ P g x o:=by
 unfold cF at h
 split at h
 ·simp only[WI] at h
  obtain⟨ax,hx,rfl⟩:=h
  exact⟨none,ax,rfl,_,rfl,hx⟩
 ·split at h
  ·rename_i n g ax h1 h2 h3
   cases h
   exact⟨some (g,n),ax,rfl,_,_,rfl,h1,h2,h3⟩
  ·cases h
 ·cases h
theorem LW {P:Program}{mu:Bool×Bool}{o:Op}{op:AOp}(h:cA P mu o=some op) :
  (∃ g x,op = .fz g x/\VQ P g x o)\/(∃ t,op = .t t/\cT1 P mu.1 o=some t)\/(∃ m,op = .m m/\cMm P mu o=some m)\/op=FV P o:=by
 obtain⟨mu,fz⟩:=mu
 cases fz with
 | true=>
   simp only[cA] at h
   split at h
   ·rename_i a ha
    cases h
    exact .inl (UR ha)
   ·simp only[WI] at h
    obtain⟨m,hm,rfl⟩:=h
    exact .inr (.inr (.inl ⟨m,rfl,hm⟩))
 | false=>
   simp only[cA] at h
   unfold cA0 at h
   split at h
   ·rename_i t ht
    cases h
    exact .inr (.inl ⟨t,rfl,ht⟩)
   ·split at h
    ·rename_i m hm
     cases h
     exact .inr (.inr (.inl ⟨m,rfl,hm⟩))
    ·cases h
     exact .inr (.inr (.inr rfl))
def VY (muts:List Nat):Option Nat->Bool×Bool
 | some d=>(muts.contains d,muts.contains (d+1000000))
 | none=>(false,false)
def AD (d:Option Nat)(N:Nat):Bool:=
 match d with
 | some d=>decide (d<N)
 | none=>true
def A2 (P:Program)(muts:List Nat)(N:Nat)(ops:Array Oper)(o:Oper):Option AOper:=
 match FU ops o.guard,cA P (VY muts o.dst) o.op with
 | some g,some op=>if AD o.dst N=true then some ⟨o.dst,op,g⟩ else none
 | _,_=>none
def GB (P:Program)(muts:List Nat)(N:Nat)(ops:Array Oper):List Oper->Option (List AOper)
 | []=>some []
 | o::r=>match A2 P muts N ops o,GB P muts N ops r with
   | some a,some b=>some (a::b)
   | _,_=>none
theorem Nu {κ:Kap}{s:St}{a:Act}{d:Option Nat}{v:AV}{u:Value}{N:Nat}(h:∀ i,ARel κ (s.E i) (a.tmps.getD i Go.undef))(hN:a.tmps.size=N)
  (hd:AD d N=true) (hv:ARel κ v u):(∀ i,ARel κ ((s.put d v).E i) ((a.put d u).tmps.getD i Go.undef))/\(a.put d u).tmps.size=N/\(a.put d u).defers=a.defers:=by
 cases d with
 | none=>exact⟨h,hN,rfl⟩
 | some d=>
   simp only[AD,decide_eq_true_eq] at hd
   refine⟨fun i=>?_,by simp[Act.put,hN],rfl⟩
   simp only[St.put,St.E,look,Act.put]
   by_cases hi:d=i
   ·subst hi
    rw[if_pos rfl]
    have:(a.tmps.setIfInBounds d u).getD d Go.undef=u:=by simp[WM,hN,hd]
    rw[this];exact hv
   ·rw[if_neg hi]
    have:(a.tmps.setIfInBounds d u).getD i Go.undef=a.tmps.getD i Go.undef:=by
     simp only[WM,Array.getElem?_setIfInBounds]
     rw[if_neg hi]
    rw[this];exact h i
theorem Rel.put {c:Ctx}{κ0 κ κ':Kap}{N:Nat}{s:St}{a:Act}{w w':World}(h:Rel c κ0 N s a w κ){d:Option Nat}{v:AV}{u:Value}(hd:AD d N=true)(hv:ARel κ v u) :
  Rel c κ0 N (s.put d v) (a.put d u) w κ:=by
 obtain⟨h1,h2,h3⟩:=Nu h.env h.size hd hv
 have e1:(s.put d v).σ=s.σ:=by cases d<;>rfl
 have e2:(s.put d v).next=s.next:=by cases d<;>rfl
 exact⟨h.w_eq,h.ext0,by rw[e1];exact h.rel,h.left,h1,h2,by rw[h3];exact h.defers,by rw[e2];exact h.fresh⟩
theorem Rel.size_le {c:Ctx}{κ0 κ:Kap}{N:Nat}{s:St}{a:Act}{w:World}(h:Rel c κ0 N s a w κ):c.w0.heap.size<=κ.w.heap.size:=h.left.size
theorem Rel.step {c:Ctx}{κ0 κ κ':Kap}{N:Nat}{s:St}{a:Act}{w:World}{δ:List (Nat×Blk)}(h:Rel c κ0 N s a w κ)(hd:Done c κ κ' s.next)(hS:SRel c κ' (aE.upd s.σ δ)):Rel c κ0 N (s.mem δ) a κ'.w κ':=by
 refine⟨rfl,h.ext0.trans hd.ext,?_,hd.left _ h.left,fun i=>(h.env i).ext hd.ext,h.size,h.defers.ext hd.ext,fun r hr=>?_⟩
 ·have:(s.mem δ).σ=aE.upd s.σ δ:=by funext r;exact jj δ s.sto r
  rw[this];exact hS
 ·have hr':s.next+1<=r:=hr
  exact hd.fresh r (by omega) (h.fresh r (by omega))

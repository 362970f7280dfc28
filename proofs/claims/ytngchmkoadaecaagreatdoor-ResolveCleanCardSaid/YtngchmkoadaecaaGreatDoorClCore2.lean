/- A program logic over the model: part 2 (a proof is built on it; nothing of the statement is said here). -/
import Derived.MapKept
import Derived.Lib.Overlaps
import Derived.Lib.AppendZerosOnto
import Derived.Lib.Builder
import Derived.Lib.Bytealg
import Derived.Lib.UnsafeStr
import Derived.Lib.AppendStr
import Derived.KernelRfl
import Derived.Test.YtngchmkoadaecaaGreatDoorClCore1
set_option linter.unusedVariables false
set_option linter.unusedSimpArgs false
open List renaming length_append->Uy,size_toArray->VB,append_assoc->UB,eq_nil_of_length_eq_zero->UG,nil_append->UV,getElem?_take->UL,getElem?_of_mem->Vs,all_eq_true->UD,mem_of_getElem?->Us,getElem?_drop->Vl,getElem?_eq_some_iff->Ur,getD_eq_getElem?_getD->Uv,getElem?_eq_getElem->Uq,length_cons->UC,getElem?_eq_none->Vp,length_take->UJ,mem_map->UO,getElem?_map->UE,getElem?_append_left->US,getElem?_append_right->UT,replicate->Vm,map_cons->UQ,range->U1
open Nat renaming zero_add->UN,mul_le_mul_right->UA,le_refl->UI,add_zero->VA,zero_le->Vn,succ_mul->Vo
open Option.some renaming injEq->Uu
open Array renaming getD_eq_getD_getElem?->Uw,getElem?_eq_getElem->Vq
open Bool renaming and_eq_true->UK
open Option renaming map_eq_some_iff->Ut,map_some->UM,getD_some->Vb,bind_eq_some_iff->VG
open Prod.mk renaming injEq->Uz
namespace Go.Ab
open Go Go.RowKit
section
variable {P:Program}{c:Ctx}{κ:Kap}{σ:aq}
theorem aS (w:World)(t ty e:TypeId)(i:TypeInfo)(z:Value)(size bytes:Nat)(ht:P.underlying t=some (.slice e))(hi:P.info? e=some i)(hz:i.zero=some z)
  (hsize:i.size=size) (hby:i.bytes=bytes) (hzs:z.cells.size=size)
  (v:Value) (n:Nat) (xs:List Value) (hown:w.ownsRow 0 e size v n xs)
  (A:Option Addr) (m c:Nat) (news:List Value) (hl:news.length=m*size) (hnews:m=0\/∃ a,A=some a/\∀ (j:Nat) (u:Value),news[j]? = some u->w.cell? (a.add j)=some u) (h1:∀ u∈news,u.oneCell'=true)
  (h63:n+m<=maxLen) (hbytes:(n+m)*bytes<=140737488355328) :
  ∃ v' w',(Builtin.append_ #[t,t] ty #[v,.slice A m c]).run P w = .ok v' w' /\
    ((m=0/\v'=v/\w'=w) \/
     (0 < m/\∃ g cap cur,v = .slice (some ⟨g,0,none⟩) n cap/\w.heap[g]? = some (.cells cur e (0,0))/\n+m<=cap/\cap<=maxLen/\cur.size=cap*size/\cur.toList.take (n*size)=xs /\
        v' = .slice (some ⟨g,0,none⟩) (n+m) cap/\w'=w.setRow g (cur.toList.take (n*size)++news++cur.toList.drop (n*size+news.length)).toArray) \/
     (0<m/\∃ cs cap,v' = .slice (some ⟨w.heap.size,0,none⟩) (n+m) cap/\w'=w.drew.alloc (.cells cs e)/\n+m<=cap/\cap<=maxLen/\cs.size=cap*size/\cs.toList.take ((n+m)*size)=xs++news)):=by
 subst hsize
 subst hby
 have hlen:(xs++news).length=(n+m)*i.size:=by rw[Uy,hown.1,hl,Nat.add_mul]
 have hsmall:n+m<=9223372036854775807:=by simp only[maxLen] at h63;omega
 have grown:∀ (old:Nat),old<n+m ->
   n+m<=grownCap w (n+m) old e/\grownCap w (n+m) old e<=maxLen /\
   (xs.toArray++news.toArray++Builtin.zeroCells z.cells (grownCap w (n+m) old e - (n+m))).size=grownCap w (n+m) old e*i.size /\
   (xs.toArray++news.toArray++Builtin.zeroCells z.cells (grownCap w (n+m) old e - (n+m))).toList.take ((n+m)*i.size)=xs++news:=by
  intro old ho
  have hge:=grownCap_ge w (n+m) old e
  refine⟨hge,grownCap_le_maxLen w (n+m) old e h63,?_,?_⟩
  ·simp only[Array.size_append,VB,size_zeroCells,hzs,hown.1,hl,<- Nat.add_mul]
   congr 1
   omega
  ·simp only[Array.toList_append,UB]
   rw[<- UB,<- hlen]
   exact List.take_left
 by_cases hm:m=0
 ·subst hm
  have hn:news=[]:=UG (by simpa using hl)
  refine⟨v,w,?_,.inl ⟨rfl,rfl,rfl⟩⟩
  rcases hown.2 with ⟨rfl,rfl⟩ | ⟨g,cap,cur,rfl,hbg,hg,hnc,hcm,hcs,htake⟩
  ·cases A<;>simp[Builtin.append_,run_underlying ht,sizeOf,typeInfo,hi,Builtin.lenOf,Builtin.firstCells,loadCells,loadCellsFrom,storeCells]
  ·cases A<;>simp[Builtin.append_,run_underlying ht,sizeOf,typeInfo,hi,Builtin.lenOf,Builtin.firstCells,loadCells,loadCellsFrom,storeCells,hnc]
 ·obtain⟨a,rfl,hnews'⟩:=hnews.resolve_left hm
  rcases hown.2 with ⟨rfl,rfl⟩ | ⟨g,cap,cur,rfl,hbg,hg,hnc,hcm,hcs,htake⟩
  ·have hx:xs=[]:=UG (by simpa using hown.1)
   subst hx
   have hr:=run_append_nil (P:=P) w t ty e i z ht hi hz a m c news hl hnews' (by omega) (by omega) (by have hb:=hbytes;simp only[UN] at hb;omega)
   have hgr:=grown 0 (by omega)
   simp only[UN,UV,Array.empty_append] at hgr ⊢
   exact⟨_,_,hr,.inr (.inr ⟨by omega,_,_,rfl,rfl,hgr.1,hgr.2.1,hgr.2.2.1,hgr.2.2.2⟩)⟩
  ·by_cases hroom:n+m<=cap
   ·have hfit:n*i.size+news.length<=cur.size:=by rw[hl,hcs,<- Nat.add_mul];exact UA _ hroom
    have hr:=run_append_room (P:=P) w t ty e i ht hi g n cap cur hg a m c news hl hnews' h1 hroom hfit
    exact⟨_,_,hr,.inr (.inl ⟨by omega,g,cap,cur,rfl,hg,hroom,hcm,hcs,htake,rfl,rfl⟩)⟩
   ·have holds:∀ j u,xs[j]? = some u->w.cell? ((⟨g,0,none⟩:Addr).add j)=some u:=hown.cells (g:=g) rfl
    have hr:=run_append_grow (P:=P) w t ty e i z ht hi hz ⟨g,0,none⟩ n cap xs hown.1 holds a m c news hl hnews' (by omega) (by omega) (growslice_fits (by omega) hbytes)
    have hgr:=grown cap (by omega)
    exact⟨_,_,hr,.inr (.inr ⟨by omega,_,_,rfl,rfl,hgr.1,hgr.2.1,hgr.2.2.1,hgr.2.2.2⟩)⟩
theorem ka {w:World}{g n:Nat}{cur:Array Value}{e:TypeId}{xs:List Value}(hg:w.heap[g]? = some (.cells cur e (0,0)))(h:cur.toList.take n=xs) :
  ∀ (j:Nat) (u:Value),xs[j]? = some u->w.cell? ⟨g,j,none⟩=some u:=by
 intro j u hu
 rw[cell_of_row w g j cur e (0,0) hg]
 subst h
 rw[UL] at hu
 split at hu
 ·simpa using hu
 ·cases hu
theorem jz (hS:SRel c κ σ)(hw:c.w0.heap.size<=κ.w.heap.size){new e sz n cap:Nat}(hn:κ.nm new=none){cs:Array Value}{l:List PV}{xs:List Value}(hr:eO κ sz l xs)(hl:n=l.length)
  (hnc:n<=cap) (hm:cap<=maxLen) (hcs:cs.size=cap*sz) (ht:cs.toList.take (n*sz)=xs) (w1:World) (e1:w1.heap=κ.w.heap) (e2:w1.os=κ.w.os) (e3:w1.tape=κ.w.tape) (e4:w1.output=κ.w.output) :
  ∃ κ':Kap,κ'.w=w1.alloc (.cells cs e)/\ARel κ' (.olist new sz l) (.slice (some ⟨κ.w.heap.size,0,none⟩) n cap)/\Done c κ κ' new/\SRel c κ' (σ.set new (.tok e sz)):=by
 obtain⟨h1,h2⟩:=OS hS hw hn (.cells cs e) (.own (.slice (some ⟨κ.w.heap.size,0,none⟩) n cap)) (.tok e sz) (fun j=>j<n*sz) rfl w1 e1 e2 e3 e4
 have hh:(w1.alloc (.cells cs e)).heap[κ.w.heap.size]? = some (.cells cs e (0,0)):=by rw[<- e1];exact heap_alloc_new w1 _
 refine⟨_,rfl,.olist _ _ _ _ (by simp) ((hr.ext h1.ext).list hl hnc hm (ka hh ht) (fun j hj=>.inr ⟨rfl,hj⟩)) (fun x hx=>?_),h1,h2 (.inr ⟨κ.w.heap.size,n,cap,cs,by simp,hh,hnc,hm,hcs,?_⟩)⟩
 ·obtain⟨i,hi⟩:=Vs hx
  exact hr.2.1 i x hi
 ·intro o ho
  rintro (h | ⟨_,h⟩)
  ·have:=hS.immLt _ _ h;omega
  ·omega
theorem Bf (hS:SRel c κ σ){new:Nat}(hn:κ.nm new=none)(Bn:Blk) :
  let κ':Kap:=⟨κ.w,fun r=>if r=new then some (.own (.slice none 0 0)) else κ.nm r,κ.imm⟩
  Done c κ κ' new/\(eP κ' new Bn->SRel c κ' (σ.set new Bn)):=by
 intro κ'
 have he:Ext κ κ':=by
  refine⟨fun _ _ h=>h,fun _ _ _ _ h=>h,fun r d h=>?_,fun _ _ h _=>h⟩
  have:r≠new:=by rintro rfl;rw[hn] at h;cases h
  simp[κ',this,h]
 refine⟨⟨he,fun imm0 hL=>⟨hL.os,hL.tape,hL.output,hL.size,hL.block,hL.imm⟩,UI _,fun r hr h=>by simp[κ',hr,h]⟩,
  fun hB=>⟨fun r=>?_,fun r r' d d' b h1 h2 hne hd hd' hb=>?_,fun r d b h1 hd hb=>?_,hS.immLt,T9 he hS.glob fun _ _ _=>rfl⟩⟩
 ·by_cases hr:r=new
  ·subst hr
   simp only[aq.set,if_true]
   exact hB
  ·simp only[aq.set,hr,if_false]
   exact (hS.blk r).keep he fun _ _ _ _ _=>⟨rfl,fun _ h=>h⟩
 ·simp only[aq.set] at h1 h2
  simp only[κ'] at hd hd'
  by_cases hr:r=new
  ·simp only[hr,if_true,Uu] at hd
   subst hd;cases hb
  ·by_cases hr':r'=new
   ·simp only[hr',if_true,Uu] at hd'
    subst hd'
    intro h;cases h
   ·simp only[hr,hr',if_false] at hd hd' h1 h2
    exact hS.apart r r' d d' b h1 h2 hne hd hd' hb
 ·simp only[aq.set] at h1
  simp only[κ'] at hd
  by_cases hr:r=new
  ·simp only[hr,if_true,Uu] at hd
   subst hd;cases hb
  ·simp only[hr,if_false] at hd h1
   exact hS.mine r d b h1 hd hb
theorem DQ (hS:SRel c κ σ){new:Nat}(hn:κ.nm new=none)(e sz:Nat) :
  Done c κ ⟨κ.w,fun r=>if r=new then some (.own (.slice none 0 0)) else κ.nm r,κ.imm⟩ new /\
  SRel c ⟨κ.w,fun r=>if r=new then some (.own (.slice none 0 0)) else κ.nm r,κ.imm⟩ (σ.set new (.tok e sz)) /\
  ARel ⟨κ.w,fun r=>if r=new then some (.own (.slice none 0 0)) else κ.nm r,κ.imm⟩ (.olist new sz []) (.slice none 0 0):=by
 obtain⟨h1,h2⟩:=Bf hS hn (.tok e sz)
 exact⟨h1,h2 (.inl (by simp)),.olist _ _ _ _ (by simp) (.lnil _ _ (by simp)) (by simp)⟩
theorem mT (hS:SRel c κ σ){new:Nat}(hn:κ.nm new=none)(e sz:Nat) :
  Done c κ ⟨κ.w,fun r=>if r=new then some (.own (.slice none 0 0)) else κ.nm r,κ.imm⟩ new /\
  SRel c ⟨κ.w,fun r=>if r=new then some (.own (.slice none 0 0)) else κ.nm r,κ.imm⟩ (σ.set new (.cells e false [])) /\
  ARel ⟨κ.w,fun r=>if r=new then some (.own (.slice none 0 0)) else κ.nm r,κ.imm⟩ (.row new sz 0 0) (.slice none 0 0):=by
 obtain⟨h1,h2⟩:=Bf hS hn (.cells e false [])
 exact⟨h1,h2 (.inl ⟨rfl,rfl,by simp⟩),.row0 _ _ (by simp)⟩
theorem CP {sz:Nat}{y:AV}{v:Value}{ys:List PV}(hy:ARel κ y v)(h:be σ sz y=some ys)(hS:SRel c κ σ):ys.length<=maxLen:=by
 have main:∀ l,PRel κ.w κ.imm (.list l) v->l.length<=maxLen:=by
  intro l hp
  cases hp with
  | lnil=>simp
  | list _ b off c sz g h1 h2 h3 h4 h5=>omega
 unfold be at h
 split at h
 ·cases h;simp
 ·split at h
  ·cases h;exact main _ (aG hy)
  ·cases h
 ·split at h
  ·cases h
   cases hy with
   | olist _ _ _ _ hn hp hsz=>exact main _ hp
  ·cases h
 ·split at h
  ·split at h
   ·rename_i hh
    have hl:=bT h
    cases hy with
    | row0=>rw[hl];simp
    | row _ _ _ _ b n cap hnm k1 k0 k2 k3=>rw[hl];simp;omega
   ·cases h
  ·cases h
 ·cases h
theorem gE {sz:Nat}{y:AV}{v:Value}{ys:List PV}(hS:SRel c κ σ)(hy:ARel κ y v)(h:be σ sz y=some ys) :
  ∃ A m cc xs,v = .slice A m cc/\m=ys.length/\eO κ sz ys xs/\(∀ u∈xs,u.oneCell'=true)/\(m=0\/∃ a,A=some a/\∀ (j:Nat) (u:Value),xs[j]? = some u->κ.w.cell? (a.add j)=some u):=by
 have main:∀ l,PRel κ.w κ.imm (.list l) v->l.all (fun y=>y.cells.length == sz)=true->∃ A m cc xs,v = .slice A m cc/\m=l.length/\eO κ sz l xs/\(∀ u∈xs,u.oneCell'=true)/\(m=0\/∃ a,A=some a/\∀ (j:Nat) (u:Value),xs[j]? = some u->κ.w.cell? (a.add j)=some u):=by
  intro l hp hall
  obtain⟨A,m,cc,rfl⟩:∃ A m cc,v = .slice A m cc:=by cases hp<;>exact⟨_,_,_,rfl⟩
  obtain⟨h1,xs,h2,h3,h4⟩:=sK hp hall
  exact⟨A,m,cc,xs,rfl,h1,h2,h3,h4⟩
 unfold be at h
 split at h
 ·cases h
  cases aG hy
  exact⟨none,0,0,[],rfl,rfl,⟨by simp,by simp,by simp⟩,by simp,.inl rfl⟩
 ·split at h
  ·rename_i hall
   cases h
   exact main _ (aG hy) hall
  ·cases h
 ·split at h
  ·rename_i hs
   cases h
   cases hy with
   | olist _ _ _ _ hn hp hsz=>exact main _ hp (UD.2 fun x hx=>by simpa[hs] using hsz x hx)
  ·cases h
 ·rename_i r s off len
  split at h
  ·rename_i T f l hσ
   split at h
   ·rename_i hh
    obtain⟨rfl,rfl,hle,hone⟩:=hh
    cases hy with
    | row0=>
      simp only[VA,List.take_zero,pvs,Uu] at h
      subst h
      exact⟨none,0,0,[],rfl,rfl,⟨by simp,by simp,by simp⟩,by simp,.inl rfl⟩
    | row _ _ _ _ b n cap hnm k1 k0 k2 k3=>
      obtain⟨cs,hg,hcs,hln,_,himm,hrel,hcell⟩:=bJ hS hσ hnm
      have hlen:=bT h
      have hlen':ys.length=len:=by rw[hlen];simp;omega
      have hget:∀ (i:Nat) (p:PV),ys[i]? = some p->∃ x,l[off+i]? = some x/\x.toPV=some p/\x.one=true:=by
       intro i p hp
       obtain⟨x,hx,hxp⟩:=cB h i p hp
       have h1:=(UD.1 hone) x (Us hx)
       rw[UL] at hx
       split at hx
       ·rw[Vl] at hx;exact⟨x,hx,hxp,h1⟩
       ·cases hx
      have hpone:∀ (i:Nat) (p:PV),ys[i]? = some p->p.cells=[p]:=by
       intro i p hp
       obtain⟨x,hx,hxp,h1⟩:=hget i p hp
       cases x with
       | pv q=>
         simp only[AV.toPV,Uu] at hxp
         subst hxp
         cases q<;>first | rfl | simp[AV.one,PV.one] at h1
       | olist a b l=>
         simp only[AV.toPV,Uu] at hxp
         subst hxp;rfl
       | _=>simp[AV.toPV] at hxp
      refine⟨_,len,cap,(cs.toList.drop off).take len,rfl,hlen'.symm,⟨by simp;omega,fun i p hp=>by rw[hpone i p hp];rfl,fun i p j y hp hy=>?_⟩,fun u hu=>?_,?_⟩
      ·rw[hpone i p hp] at hy
       have hj:j=0:=by
        rcases j with _ | j
        ·rfl
        ·simp at hy
       subst hj
       simp at hy;subst hy
       obtain⟨x,hx,hxp,h1⟩:=hget i p hp
       have hr:=hrel _ x hx
       have hi:i<len:=by rw[<- hlen'];exact (Ur.1 hp).1
       have e:((cs.toList.drop off).take len).getD (i*1+0) Go.undef=cs.getD (off+i) Go.undef:=by
        rw[aA]
        simp[Uv,UL,hi]
       rw[e]
       exact⟨bI hxp hr,hr.oneCell h1⟩
      ·obtain⟨i,hi,rfl⟩:=List.getElem_of_mem hu
       have hi':i<len:=by simp at hi;omega
       have hp:=Uq (show i<ys.length by omega)
       obtain⟨x,hx,hxp,h1⟩:=hget i _ hp
       have:=(hrel _ x hx).oneCell h1
       have hb:off+i<cs.size:=by omega
       simpa[Uw,hb] using this
      ·by_cases h0:len=0
       ·exact .inl h0
       ·refine .inr ⟨⟨b,off,none⟩,rfl,fun j u hj=>?_⟩
        rw[UL] at hj
        split at hj
        ·rw[Vl] at hj
         rw[Addr.add_lit,cell_of_row κ.w b (off+j) cs T (0,0) hg]
         simpa using hj
        ·cases hj
   ·cases h
  ·cases h
 ·cases h
end
section
variable {P:Program}{c:Ctx}{κ:Kap}{σ:aq}
structure ElemInfo (P:Program)(t e sz by_:Nat):Prop where
 under:P.underlying t=some (.slice e)
 info:∃ i z,P.info? e=some i/\i.zero=some z/\i.size=sz/\i.bytes=by_/\z.cells.size=sz
theorem fT {n m by_:Nat}(h:kY n m by_=true):n+m<=maxLen/\(n+m)*by_<=140737488355328:=by
 simp only[kY,UK,decide_eq_true_eq] at h
 exact⟨by unfold maxLen;omega,h.2⟩
theorem lV (cur:List Value)(k m:Nat)(news xs:List Value)(hk:cur.take k=xs)(hl:k+news.length<=cur.length) :
  (cur.take k++news++cur.drop (k+news.length)).take (k+news.length)=xs++news:=by
 rw[hk]
 have:(xs++news).length=k+news.length:=by subst hk;simp;omega
 rw[<- this]
 exact List.take_left
theorem E2 {t ty e sz by_ new:Nat}{x y v:AV}{ux uy:Value}{δ:List (Nat×Blk)}(hS:SRel c κ σ)(hw:c.w0.heap.size<=κ.w.heap.size)(hn:κ.nm new=none)(hI:ElemInfo P t e sz by_)
  (hx:ARel κ x ux) (hy:ARel κ y uy) (hr:dE false e sz by_ new σ x y=some (v,δ)) :
  ∃ u κ',(Builtin.append_ #[t,t] ty #[ux,uy]).run P κ.w = .ok u κ'.w/\ARel κ' v u/\Done c κ κ' new/\SRel c κ' (σ.upd δ):=by
 obtain⟨hu,i,z,hi,hz,hsz,hby,hzs⟩:=hI
 unfold dE at hr
 split at hr
 ·rename_i ys hys
  obtain⟨A,m,cc,news,rfl,hm,hrow,hone,hat⟩:=gE hS hy hys
  split at hr
  ·-- onto nil
   have hux:ux = .slice none 0 0:=by cases aG hx;rfl
   subst hux
   split at hr
   ·cases hr
    obtain⟨v',w',h1,h2⟩:=aS (P:=P) κ.w t ty e i z sz by_ hu hi hz hsz hby hzs (.slice none 0 0) 0 [] (World.ownsRow_nil _ _ _ _) A m cc news (by rw[hrow.1,hm]) hat hone (by rw[hm];simp) (by rw[hm];simp)
    rcases h2 with ⟨_,rfl,rfl⟩ | ⟨h0,_⟩ | ⟨h0,_⟩
    ·exact⟨_,κ,h1,.pv _ _ .nils,Done.same c κ new,by simpa[pN] using hS⟩
    ·simp at hm;omega
    ·simp at hm;omega
   ·rename_i y0 r
    split at hr
    ·rename_i hroom
     cases hr
     obtain⟨k1,k2⟩:=fT hroom
     simp only[UC] at hm
     subst hm
     obtain⟨v',w',h1,h2⟩:=aS (P:=P) κ.w t ty e i z sz by_ hu hi hz hsz hby hzs (.slice none 0 0) 0 [] (World.ownsRow_nil _ _ _ _) A (r.length+1) cc news (by rw[hrow.1];rfl) hat hone k1 k2
     rcases h2 with ⟨h0,_⟩ | ⟨_,g,cap,cur,h0,_⟩ | ⟨_,cs,cap,rfl,rfl,q1,q2,q3,q4⟩
     ·omega
     ·cases h0
     ·simp only[UN,UV] at q1 q4
      obtain⟨κ',e1,e2,e3,e4⟩:=jz (e:=e) hS hw hn hrow (n:=r.length+1) rfl q1 q2 q3 q4 κ.w.drew rfl rfl rfl rfl
      exact⟨_,κ',by rw[h1,e1],by simpa using e2,e3,e4⟩
    ·cases hr
  ·-- onto a list of the call's own
   rename_i q s l _
   split at hr
   ·rename_i e' sz' hσ
    split at hr
    ·rename_i hh
     obtain⟨rfl,rfl,rfl,hroom⟩:=hh
     cases hr
     obtain⟨k1,k2⟩:=fT hroom
     cases hx with
     | olist _ _ _ _ hnm hp hls=>
       have hB:=hS.blk q
       rw[hσ] at hB
       rcases hB with hq | ⟨g,n,cap,cur,hq,hg,hnc,hcm,hcs,hfree⟩
       ·-- the nil slice
        rw[hnm] at hq
        simp only[Uu,Den.own.injEq] at hq
        subst hq
        have hl0:l=[]:=by cases hp;rfl
        subst hl0
        subst hm
        obtain⟨v',w',h1,h2⟩:=aS (P:=P) κ.w t ty e' i z s by_ hu hi hz hsz hby hzs (.slice none 0 0) 0 [] (World.ownsRow_nil _ _ _ _) A ys.length cc news (by rw[hrow.1]) hat hone (by simpa using k1) (by simpa using k2)
        rcases h2 with ⟨h0,rfl,rfl⟩ | ⟨_,g,cap,cur,h0,_⟩ | ⟨_,cs,cap,rfl,rfl,q1,q2,q3,q4⟩
        ·have hys0:ys=[]:=UG h0
         subst hys0
         obtain⟨a1,a2,a3⟩:=DQ (hS.drop q) hn e' s
         exact⟨_,(⟨κ.w,fun r=>if r=new then some (.own (.slice none 0 0)) else κ.nm r,κ.imm⟩:Kap),h1,a3,⟨a1.ext,a1.left,a1.size,a1.fresh⟩,a2⟩
        ·cases h0
        ·simp only[UN,UV] at q1 q4
         obtain⟨κ',e1,e2,e3,e4⟩:=jz (e:=e') (hS.drop q) hw hn hrow (n:=ys.length) rfl q1 q2 q3 q4 κ.w.drew rfl rfl rfl rfl
         exact⟨_,κ',by rw[h1,e1],by simpa using e2,e3,e4⟩
       rw[hnm] at hq
       simp only[Uu,Den.own.injEq] at hq
       subst hq
       obtain⟨hnl,xs,hxrow,hxone,hxat⟩:=sK hp (UD.2 fun x hx=>by simpa using hls x hx)
       have hxs:cur.toList.take (n*s)=xs:=by
        have hnsz:n*s<=cur.size:=by rw[hcs];exact UA _ hnc
        apply List.ext_getElem?
        intro j
        by_cases hj:j<n*s
        ·have hjx:j<xs.length:=by rw[hxrow.1,<- hnl];exact hj
         have hjc:j<cur.size:=by omega
         rcases hxat with h0 | ⟨a,ha,hc⟩
         ·subst h0;simp at hj
         ·cases ha
          have h3:=hc j _ (Uq hjx)
          rw[Addr.add_lit,cell_of_row κ.w g (0+j) cur e' (0,0) hg] at h3
          rw[UL,if_pos hj,Uq hjx,<- h3]
          simp
        ·rw[Vp (by simp;omega),Vp (by rw[hxrow.1,<- hnl];omega)]
       have hown:κ.w.ownsRow 0 e' s (.slice (some ⟨g,0,none⟩) n cap) n xs:=⟨by rw[hxrow.1,hnl],.inr ⟨g,cap,cur,rfl,Vn _,hg,hnc,hcm,hcs,hxs⟩⟩
       subst hnl
       subst hm
       obtain⟨v',w',h1,h2⟩:=aS (P:=P) κ.w t ty e' i z s by_ hu hi hz hsz hby hzs _ _ xs hown A ys.length cc news (by rw[hrow.1]) hat hone k1 k2
       have hb0:∀ b,some g=some b->σ q≠.none/\∃ d,κ.nm q=some d/\d.block=some b:=fun b hb=>⟨by rw[hσ];simp,_,hnm,hb⟩
       have hls':∀ x∈l++ys,x.cells.length=s:=by
        intro x hx
        rcases List.mem_append.1 hx with h | h
        ·exact hls x h
        ·obtain⟨i,hi⟩:=Vs h
         exact hrow.2.1 i x hi
       rcases h2 with ⟨h0,rfl,rfl⟩ | ⟨_,g',cap',cur',h0,hg',q1,q2,q3,q4,rfl,rfl⟩ | ⟨_,cs,cap',rfl,rfl,q1,q2,q3,q4⟩
       ·-- nothing to add
        have hys0:ys=[]:=UG h0
        subst hys0
        obtain⟨h3,h4⟩:=uw (d:=.own (.slice (some ⟨g,0,none⟩) l.length cap)) (Bn:=.tok e' s) (q:=fun _ _=>False) (b':=g) (b0:=some g) (r0:=q) hS hw ⟨rfl,rfl,rfl,UI _,fun _ _ _=>rfl⟩ hn rfl (.inl rfl) (fun _ _ h=>h.elim) (fun _ _ _ h=>h) (fun _ _ _ _ _ h=>h) hb0
        refine⟨_,(⟨κ.w,fun r=>if r=new then some (Den.own (.slice (some ⟨g,0,none⟩) l.length cap)) else κ.nm r,fun b o=>κ.imm b o\/False⟩:Kap),h1,.olist _ _ _ _ (by simp) ?_ hls',h3,h4 (.inr ⟨g,l.length,cap,cur,by simp,hg,hnc,hcm,hcs,fun o ho hi=>hi.elim (hfree o ho) id⟩)⟩
        rw[List.append_nil]
        exact hp.ext h3.ext
       ·-- there is kY
        cases h0
        rw[hg] at hg';cases hg'
        have hnl2:news.length=ys.length*s:=hrow.1
        have hfit:l.length*s+news.length<=cur.toList.length:=by
         have hcl:cur.toList.length=cur.size:=by simp
         rw[hnl2,hcl,hcs,<- Nat.add_mul];exact UA _ q1
        have hgrow:κ.w.grownBy (κ.w.setRow g (cur.toList.take (l.length*s)++news++cur.toList.drop (l.length*s+news.length)).toArray) (some g):=
         ⟨rfl,rfl,rfl,by simp,fun k _ hk=>setRow_other κ.w g k _ (fun h=>hk (by rw[h]))⟩
        have hnewrow:=setRow_heap κ.w g cur (cur.toList.take (l.length*s)++news++cur.toList.drop (l.length*s+news.length)).toArray e' (0,0) hg
        have hkeep:∀ (o:Nat) (u:Value),κ.imm g o->κ.w.cell? ⟨g,o,none⟩=some u ->
          (κ.w.setRow g (cur.toList.take (l.length*s)++news++cur.toList.drop (l.length*s+news.length)).toArray).cell? ⟨g,o,none⟩=some u:=by
         intro o u ho hc
         have hlt:o<l.length*s:=by
          rcases Nat.lt_or_ge o (l.length*s) with h | h
          ·exact h
          ·exact absurd ho (hfree o h)
         rw[cell_of_row κ.w g o cur e' (0,0) hg] at hc
         rw[cell_of_row _ g o _ e' (0,0) hnewrow]
         simp only[List.getElem?_toArray]
         rw[bO cur.toList news (l.length*s) o hfit,if_neg (by omega)]
         simpa using hc
        have htk:=lV cur.toList (l.length*s) 0 news xs hxs hfit
        have hmul:l.length*s+news.length=(l++ys).length*s:=by rw[hnl2,Uy,Nat.add_mul]
        obtain⟨h3,h4⟩:=uw (d:=.own (.slice (some ⟨g,0,none⟩) (l.length+ys.length) cap)) (Bn:=.tok e' s) (q:=fun b o=>b=g/\o<(l++ys).length*s) (b':=g) (b0:=some g) (r0:=q) hS hw hgrow hn rfl (.inl rfl)
         (fun _ _ h=>h.1) hkeep (fun b o u hb ho hc=>by cases hb;exact hkeep o u ho hc) hb0
        have hrow2:=(hxrow.append hrow).ext h3.ext
        refine⟨_,_,h1,.olist _ _ _ _ (by simp) (hrow2.list (by simp) q1 hcm (ka hnewrow (n:=l.length*s+news.length) htk) (fun j hj=>.inr ⟨rfl,by simpa using hj⟩)) hls',h3,
         h4 (.inr ⟨g,l.length+ys.length,cap,_,by simp,hnewrow,q1,hcm,?_,?_⟩)⟩
        ·simp only[VB,Uy,UJ,List.length_drop]
         rw[<- hcs];simp only[Array.length_toList] at hfit ⊢;omega
        ·rintro o ho (h | ⟨_,h⟩)
         ·exact hfree o (Nat.le_trans (UA _ (by omega)) ho) h
         ·simp only[Uy] at h;omega
       ·-- a new block
        obtain⟨κ',e1,e2,e3,e4⟩:=jz (e:=e') (hS.drop q) hw hn (hxrow.append hrow) (n:=l.length+ys.length) (by simp) q1 q2 q3 q4 κ.w.drew rfl rfl rfl rfl
        exact⟨_,κ',by rw[h1,e1],by simpa using e2,e3,e4⟩
    ·cases hr
   ·cases hr
  ·simp_all
  ·simp_all
  ·cases hr
 ·cases hr
end
section
variable {P:Program}{c:Ctx}{κ:Kap}{σ:aq}
theorem mA {sz:Nat}{ys:List PV}{xs:List Value}(h:eO κ sz ys xs):(cn ys).length=xs.length/\∀ (i:Nat) (x:AV),(cn ys)[i]? = some x->ARel κ x (xs.getD i Go.undef):=by
 have hall:∀ l∈ys.map PV.cells,l.length=sz:=by
  intro l hl
  obtain⟨y,hy,rfl⟩:=UO.1 hl
  obtain⟨i,hi⟩:=Vs hy
  exact h.2.1 i y hi
 have e:ys.flatMap PV.cells=(ys.map PV.cells).flatten:=by rw[List.flatMap_def]
 have hlen:(ys.flatMap PV.cells).length=ys.length*sz:=by rw[e,gB _ hall];simp
 refine⟨by simp[cn,hlen,h.1],fun i x hx=>?_⟩
 simp only[cn,UE,Ut] at hx
 obtain⟨p,hp,rfl⟩:=hx
 have hi:i<ys.length*sz:=by rw[<- hlen];exact (Ur.1 hp).1
 have hsz:0<sz:=by
  rcases Nat.eq_zero_or_pos sz with h0 | h0
  ·subst h0;simp at hi
  ·exact h0
 have hd:=Nat.div_add_mod i sz
 have hm:=Nat.mod_lt i hsz
 rw[e,show i=i / sz*sz+i % sz by rw[Nat.mul_comm];omega,i1 hm _ _ hall] at hp
 simp only[UE] at hp
 cases hy:ys[i / sz]? with
 | none=>simp[hy] at hp
 | some y=>
   simp only[hy,UM,Option.bind_some] at hp
   have:=(h.2.2 (i / sz) y (i % sz) p hy hp).1
   rw[show i / sz*sz+i % sz=i by rw[Nat.mul_comm];omega] at this
   exact .pv _ _ this
theorem fp {l k:List AV}{xs zs:List Value}(hl:l.length=xs.length)(h:∀ (i:Nat) (x:AV),l[i]? = some x->ARel κ x (xs.getD i Go.undef))(g:∀ (i:Nat) (x:AV),k[i]? = some x->ARel κ x (zs.getD i Go.undef)) :
  ∀ (i:Nat) (x:AV),(l++k)[i]? = some x->ARel κ x ((xs++zs).getD i Go.undef):=by
 intro i x hx
 rw[Uv]
 by_cases hi:i<l.length
 ·rw[US hi] at hx
  rw[US (by omega),<- Uv]
  exact h i x hx
 ·rw[UT (by omega)] at hx
  rw[UT (by omega),<- hl,<- Uv]
  exact g _ x hx
theorem dy {l:List AV}{cs:Array Value}{n:Nat}{xs:List Value}(ht:cs.toList.take n=xs)(hl:l.length<=n)(h:∀ (i:Nat) (x:AV),l[i]? = some x->ARel κ x (xs.getD i Go.undef)) :
  ∀ (i:Nat) (x:AV),l[i]? = some x->ARel κ x (cs.getD i Go.undef):=by
 intro i x hx
 have hi:i<l.length:=(Ur.1 hx).1
 have:=h i x hx
 rw[aA]
 rw[<- ht,Uv,UL,if_pos (by omega),<- Uv] at this
 exact this
theorem zz {t ty e sz by_ new:Nat}{x y v:AV}{ux uy:Value}{δ:List (Nat×Blk)}(hS:SRel c κ σ)(hw:c.w0.heap.size<=κ.w.heap.size)(hn:κ.nm new=none)(hI:ElemInfo P t e sz by_)
  (hx:ARel κ x ux) (hy:ARel κ y uy) (hr:dE true e sz by_ new σ x y=some (v,δ)) :
  ∃ u κ',(Builtin.append_ #[t,t] ty #[ux,uy]).run P κ.w = .ok u κ'.w/\ARel κ' v u/\Done c κ κ' new/\SRel c κ' (σ.upd δ):=by
 obtain⟨hu,i,z,hi,hz,hsz,hby,hzs⟩:=hI
 unfold dE at hr
 split at hr
 ·rename_i ys hys
  obtain⟨A,m,cc,news,rfl,hm,hrow,hone,hat⟩:=gE hS hy hys
  obtain⟨hfl,hfr⟩:=mA hrow
  split at hr
  ·simp_all
  ·simp_all
  ·-- onto nil
   have hux:ux = .slice none 0 0:=by cases aG hx;rfl
   subst hux
   split at hr
   ·cases hr
    obtain⟨v',w',h1,h2⟩:=aS (P:=P) κ.w t ty e i z sz by_ hu hi hz hsz hby hzs (.slice none 0 0) 0 [] (World.ownsRow_nil _ _ _ _) A m cc news (by rw[hrow.1,hm]) hat hone (by rw[hm];simp) (by rw[hm];simp)
    rcases h2 with ⟨_,rfl,rfl⟩ | ⟨h0,_⟩ | ⟨h0,_⟩
    ·exact⟨_,κ,h1,.pv _ _ .nils,Done.same c κ new,by simpa[pN] using hS⟩
    ·simp at hm;omega
    ·simp at hm;omega
   ·rename_i y0 r
    split at hr
    ·rename_i hroom
     cases hr
     obtain⟨k1,k2⟩:=fT hroom
     simp only[UC] at hm
     subst hm
     obtain⟨v',w',h1,h2⟩:=aS (P:=P) κ.w t ty e i z sz by_ hu hi hz hsz hby hzs (.slice none 0 0) 0 [] (World.ownsRow_nil _ _ _ _) A (r.length+1) cc news (by rw[hrow.1];rfl) hat hone k1 k2
     rcases h2 with ⟨h0,_⟩ | ⟨_,g,cap,cur,h0,_⟩ | ⟨_,cs,cap,rfl,rfl,q1,q2,q3,q4⟩
     ·omega
     ·cases h0
     ·simp only[UN,UV] at q1 q4
      have hnl:news.length=(r.length+1)*sz:=hrow.1
      have hle:(r.length+1)*sz<=cap*sz:=UA _ q1
      obtain⟨κ',e1,e2,e3,e4⟩:=bM (T:=e) (f:=false) (l:=cn (y0::r)) hS hw hn (by omega) (fun h=>by cases h) (dy q4 (by omega) hfr) κ.w.drew rfl rfl rfl rfl
      refine⟨_,κ',by rw[h1,e1],?_,e3,e4⟩
      simp only[UN]
      exact .row _ _ _ _ _ _ cap e2 (by omega) (fun _=>q3.symm) q1 q2
    ·cases hr
  ·-- onto a row of the call's own
   rename_i q s off len _
   split at hr
   ·rename_i e' f lw hσ
    split at hr
    ·rename_i hh
     obtain⟨rfl,rfl,rfl,hllw,hroom⟩:=hh
     cases hr
     obtain⟨k1,k2⟩:=fT hroom
     subst hm
     cases hx with
     | row0 _ _ hnm=>
       have hB:=hS.blk q
       rw[hσ] at hB
       obtain⟨rfl,rfl⟩:f=false/\lw=[]:=by
        rcases hB with ⟨h1,h2,_⟩ | ⟨_,_,_,h1,_⟩
        ·exact⟨h1,h2⟩
        ·rw[hnm] at h1;cases h1
       obtain⟨v',w',h1,h2⟩:=aS (P:=P) κ.w t ty e' i z s by_ hu hi hz hsz hby hzs (.slice none 0 0) 0 [] (World.ownsRow_nil _ _ _ _) A ys.length cc news (by rw[hrow.1]) hat hone k1 k2
       rw[List.take_nil,UV,UN]
       rcases h2 with ⟨h0,rfl,rfl⟩ | ⟨_,g,cap,cur,h0,_⟩ | ⟨_,cs,cap,rfl,rfl,q1,q2,q3,q4⟩
       ·have hys0:ys=[]:=UG h0
        subst hys0
        obtain⟨h3,h4,h5⟩:=mT (hS.drop q) hn e' s
        exact⟨_,⟨κ.w,fun r=>if r=new then some (.own (.slice none 0 0)) else κ.nm r,κ.imm⟩,h1,h5,h3,h4⟩
       ·exact absurd h0 (by simp)
       ·simp only[UN,UV] at q1 q4
        have hnl:news.length=ys.length*s:=hrow.1
        have hle:ys.length*s<=cap*s:=UA _ q1
        obtain⟨κ',e1,e2,e3,e4⟩:=bM (T:=e') (f:=false) (l:=cn ys) (hS.drop q) hw hn (by omega) (fun h=>by cases h) (dy q4 (by omega) hfr) κ.w.drew rfl rfl rfl rfl
        refine⟨_,κ',by rw[h1,e1],?_,e3,e4⟩
        rw[UN]
        exact .row _ _ _ _ _ _ cap e2 (by omega) (fun _=>q3.symm) q1 q2
     | row _ _ _ _ b N cap hnm h5 h6 h7 h8=>
       obtain⟨cur,hg,hcs,hlnw,hf,himm,hrelw,hcell⟩:=bJ hS hσ hnm
       obtain⟨l,hl0,hll,hln,hrel⟩:∃ l,lw.take (len*s)=l/\l.length=len*s/\l.length<=N/\∀ (i:Nat) (x:AV),l[i]? = some x->ARel κ x (cur.getD i Go.undef):=by
        refine⟨_,rfl,by simp;omega,by simp;omega,fun i x hx=>?_⟩
        rw[UL] at hx
        split at hx
        ·exact hrelw i x hx
        ·cases hx
       rw[hl0]
       have hcap:=h6 rfl
       have hown:κ.w.ownsRow 0 e' s (.slice (some ⟨b,0,none⟩) len cap) len (cur.toList.take (len*s)):=by
        refine⟨?_,.inr ⟨b,cap,cur,rfl,Vn _,hg,h7,h8,by omega,rfl⟩⟩
        simp;rw[hcs,<- hcap];exact Nat.min_eq_left (UA _ h7)
       have hxl:(cur.toList.take (len*s)).length=len*s:=hown.1
       have hlrel:∀ (i:Nat) (x:AV),l[i]? = some x->ARel κ x ((cur.toList.take (len*s)).getD i Go.undef):=by
        intro i x hx
        have hi:i<l.length:=(Ur.1 hx).1
        have:=hrel i x hx
        rw[aA] at this
        rw[Uv,UL,if_pos (by omega),<- Uv]
        exact this
       have hall:=fp (κ:=κ) (by omega) hlrel hfr
       have hlen2:(l++cn ys).length=(len+ys.length)*s:=by
        have:news.length=ys.length*s:=hrow.1
        rw[Uy,hfl,this,hll,Nat.add_mul]
       have hlen3:(l++cn ys).length=len*s+news.length:=by rw[Uy,hfl,hll]
       obtain⟨v',w',h1,h2⟩:=aS (P:=P) κ.w t ty e' i z s by_ hu hi hz hsz hby hzs _ _ _ hown A ys.length cc news (by rw[hrow.1]) hat hone k1 k2
       have hb0:∀ b',some b=some b'->σ q≠.none/\∃ d,κ.nm q=some d/\d.block=some b':=fun b' hb=>⟨by rw[hσ];simp,_,hnm,hb⟩
       rcases h2 with ⟨h0,rfl,rfl⟩ | ⟨_,g',cap',cur',h0,hg',q1,q2,q3,q4,rfl,rfl⟩ | ⟨_,cs,cap',rfl,rfl,q1,q2,q3,q4⟩
       ·have hys0:ys=[]:=UG h0
        subst hys0
        obtain⟨h3,h4⟩:=uw (d:=.blk b N) (Bn:=.cells e' false (l++cn [])) (q:=fun _ _=>False) (b':=b) (b0:=some b) (r0:=q) hS hw ⟨rfl,rfl,rfl,UI _,fun _ _ _=>rfl⟩ hn rfl (.inl rfl) (fun _ _ h=>h.elim) (fun _ _ _ h=>h) (fun _ _ _ _ _ h=>h) hb0
        refine⟨_,(⟨κ.w,fun r=>if r=new then some (Den.blk b N) else κ.nm r,fun b o=>κ.imm b o\/False⟩:Kap),h1,?_,h3,h4 (.inr ⟨b,N,cur,by simp,hg,hcs,?_,fun h=>(by cases h),fun i x hx=>?_,fun o hi=>hi.elim (himm o) id⟩)⟩
        ·exact .row _ _ _ _ b N cap (by simp) h5 h6 (by simpa using h7) h8
        ·simp[cn];omega
        ·have hx':l[i]? = some x:=by simpa[cn] using hx
         exact (hrel i x hx').ext h3.ext
       ·cases h0
        rw[hg] at hg';cases hg'
        have hnl2:news.length=ys.length*s:=hrow.1
        have hcl:cur.toList.length=cur.size:=by simp
        have hfit:len*s+news.length<=cur.toList.length:=by
         rw[hnl2,hcl,q3,<- Nat.add_mul];exact UA _ q1
        have hgrow:κ.w.grownBy (κ.w.setRow b (cur.toList.take (len*s)++news++cur.toList.drop (len*s+news.length)).toArray) (some b):=
         ⟨rfl,rfl,rfl,by simp,fun k _ hk=>setRow_other κ.w b k _ (fun h=>hk (by rw[h]))⟩
        have hnewrow:=setRow_heap κ.w b cur (cur.toList.take (len*s)++news++cur.toList.drop (len*s+news.length)).toArray e' (0,0) hg
        have htk:=lV cur.toList (len*s) 0 news _ rfl hfit
        obtain⟨h3,h4⟩:=uw (d:=.blk b N) (Bn:=.cells e' false (l++cn ys)) (q:=fun _ _=>False) (b':=b) (b0:=some b) (r0:=q) hS hw hgrow hn rfl (.inl rfl)
         (fun _ _ h=>h.elim) (fun o _ ho=>absurd ho (himm o)) (fun b' o _ hb ho=>by cases hb;exact absurd ho (himm o)) hb0
        refine⟨_,_,h1,.row _ _ _ _ b N cap (by simp) h5 h6 q1 h8,h3,h4 (.inr ⟨b,N,_,by simp,hnewrow,?_,?_,fun h=>(by cases h),?_,fun o hi=>hi.elim (himm o) id⟩)⟩
        ·simp only[VB,Uy,UJ,List.length_drop];omega
        ·rw[hlen2,<- hcap];exact UA _ q1
        ·have hz:=dy (κ:=κ) (l:=l++cn ys) (cs:=(cur.toList.take (len*s)++news++cur.toList.drop (len*s+news.length)).toArray) (n:=len*s+news.length) (by simpa using htk) (by rw[hlen3];exact UI _) hall
         exact fun i x hx=>(hz i x hx).ext h3.ext
       ·obtain⟨κ',e1,e2,e3,e4⟩:=bM (T:=e') (f:=false) (l:=l++cn ys) (hS.drop q) hw hn (by rw[hlen2,q3];exact UA _ q1) (fun h=>by cases h) (dy q4 (by omega) hall) κ.w.drew rfl rfl rfl rfl
        exact⟨_,κ',by rw[h1,e1],.row _ _ _ _ _ _ cap' e2 (by omega) (fun _=>q3.symm) q1 q2,e3,e4⟩
    ·cases hr
   ·cases hr
  ·cases hr
 ·cases hr
end
section
variable {P:Program}{c:Ctx}{κ:Kap}{σ:aq}
theorem sZ {sz:Nat}:∀ (vs:List AV) (pre:List AV) (i:Nat),pre.length=i*sz->(∀ v∈vs,v.known=true/\v.cells.length=sz) ->
  fX (pre++Vm (vs.length*sz) AV.any) ((vs.zipIdx i).map fun p=>(p.2*sz,sz,p.1))=some (pre++vs.flatMap AV.cells)
 | [],pre,i,_,_=>by simp[fX]
 | v::r,pre,i,hp,h=>by
   obtain⟨hk,hs⟩:=h v (by simp)
   simp only[List.zipIdx_cons,UQ,fX]
   rw[if_pos ⟨hk,hs,by simp only[Uy,List.length_replicate,UC,hp,Vo];omega⟩]
   have e:(pre++Vm ((r.length+1)*sz) AV.any).take (i*sz)++v.cells++(pre++Vm ((r.length+1)*sz) AV.any).drop (i*sz+sz)=(pre++v.cells)++Vm (r.length*sz) AV.any:=by
    rw[<- hp,List.take_left,List.drop_append]
    rw[List.drop_eq_nil_of_le (by omega)]
    simp only[UV,List.drop_replicate]
    congr 2
    rw[Vo];omega
   simp only[UC]
   rw[e,sZ r (pre++v.cells) (i+1) (by rw[Uy,hp,hs,Vo]) (fun v hv=>h v (by simp[hv]))]
   simp
theorem kX {t e sz len:Nat}{z:Value}{parts:Array (Nat×Value)}{vs:List AV}{w:World}(hu:P.underlying t=some (.slice e))(hn:eR P e=some sz)(hz:(zeroValue e).run P w = .ok z w)
  (hbig:len*sz<=2 ^ 24) (hidx:parts.toList.map (·.1)=U1 len) (hrel:∀ (i:Nat) (v:AV),vs[i]? = some v->ARel κ v ((parts.toList.map (·.2)).getD i Go.undef)) (hlen:vs.length=len)
  (hok:∀ v∈vs,v.known=true/\v.cells.length=sz) :
  ∃ us:Array Value,(Instr.buildSlice t len parts).run P w = .ok (.slice (some ⟨w.heap.size,0,none⟩) len len) (w.alloc (.cells us e))/\us.size=len*sz /\
    ∀ (i:Nat) (x:AV),(vs.flatMap AV.cells)[i]? = some x->ARel κ x (us.getD i Go.undef):=by
 have hfl:(vs.flatMap AV.cells).length=len*sz:=by
  rw[List.flatMap_def,gB (sz:=sz)]
  ·simp[hlen]
  ·intro l hl
   obtain⟨y,hy,rfl⟩:=UO.1 hl
   exact (hok y hy).2
 have hplen:parts.toList.length=len:=by
  have:=congrArg List.length hidx;simpa using this
 let qs:List (Nat×Nat×Nat×AV×Value):=(U1 len).map fun i=>(i,i*sz,sz,vs.getD i .any,(parts.toList.map (·.2)).getD i Go.undef)
 have hq1:qs.map (fun q=>(q.2.1,q.2.2.1,q.2.2.2.1))=(vs.zipIdx 0).map fun p=>(p.2*sz,sz,p.1):=by
  apply List.ext_getElem?
  intro i
  simp only[qs,List.map_map,UE,List.getElem?_zipIdx,UN]
  by_cases hi:i<len
  ·rw[List.getElem?_range hi,Uq (show i<vs.length by omega)]
   simp[Uv,show i<vs.length by omega]
  ·rw[Vp (by simp;omega),Vp (by omega)]
   rfl
 have hq2:qs.map (fun q=>(q.1,q.2.2.2.2))=parts.toList:=by
  apply List.ext_getElem?
  intro i
  simp only[qs,List.map_map,UE]
  by_cases hi:i<len
  ·rw[List.getElem?_range hi,Uq (show i<parts.toList.length by omega)]
   have h1:(parts.toList.map (·.1))[i]? = some i:=by rw[hidx,List.getElem?_range hi]
   rw[UE,Uq (show i<parts.toList.length by omega)] at h1
   simp only[UM,Uu] at h1
   simp only[UM,Function.comp,Uv,UE,Uq (show i<parts.toList.length by omega),Vb]
   congr 1
   exact Prod.ext h1.symm rfl
  ·rw[Vp (by simp;omega),Vp (by omega)]
   rfl
 let zero:Array Value:=if len*sz=0 then #[] else z.cells
 obtain⟨us,h1,h2,h3⟩:=zy (κ:=κ) (fun i=>some (i*sz,sz)) qs (Vm (len*sz) .any) ((Array.range (len*sz)).map (zero[· % zero.size]!)) (vs.flatMap AV.cells) (by simp) (fun i x hx=>by
   have:x = .any:=by
    have:=Us hx
    exact (List.mem_replicate.1 this).2
   subst this;exact .any _) (by
   intro q hq
   simp only[qs,UO,List.mem_range] at hq
   obtain⟨i,hi,rfl⟩:=hq
   refine⟨rfl,?_⟩
   have hv:=Uq (show i<vs.length by omega)
   have:=hrel i _ hv
   simpa[Uv,show i<vs.length by omega] using this) (by
   rw[hq1]
   have:=sZ vs [] 0 (by simp) hok
   simpa[hlen] using this)
 rw[hq2] at h1
 refine⟨us,?_,by rw[h2,hfl],h3⟩
 simp only[Instr.buildSlice,Sem.run_bind,run_underlying hu,Result.andThen_ok,aZ hn]
 rw[if_neg (by omega)]
 by_cases h0:len*sz=0
 ·have hz0:zero = #[]:=by simp[zero,h0]
  rw[hz0] at h1
  rw[if_pos h0]
  simp only[Sem.run_bind,Sem.run_pure,Result.andThen_ok]
  rw[h1]
  simp[newRow,World.alloc_eq]
 ·have hz0:zero=z.cells:=by simp[zero,h0]
  rw[hz0] at h1
  rw[if_neg h0]
  simp only[Sem.run_bind,hz,Sem.run_pure,Result.andThen_ok]
  rw[h1]
  simp[newRow,World.alloc_eq]
theorem lP {t e sz len:Nat}{z:Value}{parts:Array (Nat×Value)}{vs:List AV}{ps:List PV}
  (hu:P.underlying t=some (.slice e)) (hn:eR P e=some sz) (hz:(zeroValue e).run P κ.w = .ok z κ.w)
  (hbig:len*sz<=2 ^ 24) (hidx:parts.toList.map (·.1)=U1 len) (hrel:∀ (i:Nat) (v:AV),vs[i]? = some v->ARel κ v ((parts.toList.map (·.2)).getD i Go.undef))
  (hl:vs.length=len/\len<=9223372036854775807) (hps:pvs vs=some ps) (hall:ps.all (fun p=>p.cells.length == sz&&p.cells.all PV.one)=true) :
  ∃ us:Array Value,(Instr.buildSlice t len parts).run P κ.w = .ok (.slice (some ⟨κ.w.heap.size,0,none⟩) len len) (κ.w.alloc (.cells us e))/\us.size=len*sz/\eO κ sz ps us.toList:=by
 have hps':∀ (i:Nat) (p:PV),ps[i]? = some p->p.cells.length=sz/\∀ y∈p.cells,y.one=true:=by
  intro i p hp
  have:=(UD.1 hall) p (Us hp)
  simp only[UK,beq_iff_eq,UD] at this
  exact this
 have hvp:∀ x∈vs,x.known=true/\x.cells.length=sz:=by
  intro x hx
  obtain⟨i,hi⟩:=Vs hx
  have hil:i<ps.length:=by rw[bT hps];exact (Ur.1 hi).1
  obtain⟨x',hx',hxp⟩:=cB hps i _ (Uq hil)
  rw[hi] at hx';cases hx'
  have h1:=(hps' i _ (Uq hil)).1
  cases x with
  | pv q=>simp only[AV.toPV,Uu] at hxp;subst hxp;exact⟨rfl,by simpa[AV.cells] using h1⟩
  | olist a b l=>simp only[AV.toPV,Uu] at hxp;rw[<- hxp] at h1;exact⟨rfl,by simpa[AV.cells,PV.cells] using h1⟩
  | _=>simp[AV.toPV] at hxp
 obtain⟨us,h1,h2,h3⟩:=kX (P:=P) (κ:=κ) (w:=κ.w) hu hn hz hbig hidx hrel hl.1 hvp
 have hrow:eO κ sz ps us.toList:=by
  refine⟨by simp only[Array.length_toList];rw[h2,bT hps,hl.1],fun i x hx=>(hps' i x hx).1,fun i x j y hx hy=>?_⟩
  have hj:j<sz:=by rw[<- (hps' i x hx).1];exact (Ur.1 hy).1
  obtain⟨x',hx',hxp⟩:=cB hps i x hx
  have hflat:(vs.flatMap AV.cells)[i*sz+j]? = some (x'.cells.getD j .any):=by
   rw[List.flatMap_def,i1 hj _ _ (by
    intro l hl
    obtain⟨y,hy,rfl⟩:=UO.1 hl
    exact (hvp y hy).2)]
   rw[UE,hx']
   have:j<x'.cells.length:=by rw[(hvp x' (Us hx')).2];exact hj
   simp[Uv,this]
  have hr3:=h3 _ _ hflat
  have hc:∃ q,x'.cells.getD j .any=q/\q.toPV=some y/\q.one=true:=by
   have hy1:=(hps' i x hx).2 y (Us hy)
   cases x' with
   | pv q=>
     simp only[AV.toPV,Uu] at hxp;subst hxp
     refine⟨.pv y,?_,rfl,hy1⟩
     simp[AV.cells,Uv,hy]
   | olist a b l=>
     simp only[AV.toPV,Uu] at hxp;subst hxp
     simp only[PV.cells] at hy
     rcases j with _ | j
     ·simp at hy;subst hy
      exact⟨_,rfl,rfl,rfl⟩
     ·simp at hy
   | _=>simp[AV.toPV] at hxp
  obtain⟨q,hq,hqp,hq1⟩:=hc
  rw[hq] at hr3
  rw[<- aA]
  exact⟨bI hqp hr3,hr3.oneCell hq1⟩
 exact⟨us,h1,h2,hrow⟩
theorem E1 {mu:Bool}{t e sz len new:Nat}{z:Value}{parts:Array (Nat×Value)}{vs:List AV}{v:AV}{δ:List (Nat×Blk)}(hS:SRel c κ σ)(hw:c.w0.heap.size<=κ.w.heap.size)(hnew:κ.nm new=none)
  (hu:P.underlying t=some (.slice e)) (hn:eR P e=some sz) (hz:(zeroValue e).run P κ.w = .ok z κ.w)
  (hbig:len*sz<=2 ^ 24) (hidx:parts.toList.map (·.1)=U1 len) (hrel:∀ (i:Nat) (v:AV),vs[i]? = some v->ARel κ v ((parts.toList.map (·.2)).getD i Go.undef))
  (hr:de mu e sz len new vs=some (v,δ)) :
  ∃ u κ',(Instr.buildSlice t len parts).run P κ.w = .ok u κ'.w/\ARel κ' v u/\Done c κ κ' new/\SRel c κ' (σ.upd δ):=by
 unfold de at hr
 split at hr
 ·rename_i hl
  have hmax:len<=maxLen:=by unfold maxLen;omega
  split at hr
  ·split at hr
   ·rename_i ps hps
    split at hr
    ·rename_i hall
     cases hr
     obtain⟨us,h1,h2,hrow⟩:=lP (P:=P) hu hn hz hbig hidx hrel hl hps hall
     obtain⟨κ',e1,e2,e3,e4⟩:=jz (e:=e) hS hw hnew hrow (n:=len) (cap:=len) (by rw[bT hps,hl.1]) (UI _) hmax h2 (List.take_of_length_le (by simp;omega)) κ.w rfl rfl rfl rfl
     exact⟨_,κ',by rw[h1,e1],e2,e3,e4⟩
    ·cases hr
   ·cases hr
  ·split at hr
   ·rename_i hall
    cases hr
    have hvp:∀ x∈vs,x.known=true/\x.cells.length=sz:=by
     intro x hx
     have:=(UD.1 hall) x hx
     simp only[UK,beq_iff_eq] at this
     exact this.1
    obtain⟨us,h1,h2,h3⟩:=kX (P:=P) (κ:=κ) (w:=κ.w) hu hn hz hbig hidx hrel hl.1 hvp
    have hfl:(vs.flatMap AV.cells).length=us.size:=by
     rw[List.flatMap_def,gB (sz:=sz)]
     ·simp[hl.1,h2]
     ·intro l hl
      obtain⟨y,hy,rfl⟩:=UO.1 hl
      exact (hvp y hy).2
    obtain⟨κ',e1,e2,e3,e4⟩:=bM (T:=e) (f:=true) hS hw hnew (Nat.le_of_eq hfl) (fun _=>hfl) h3 κ.w rfl rfl rfl rfl
    exact⟨_,κ',by rw[h1,e1],.row _ _ _ _ _ _ len e2 (by omega) (fun _=>h2.symm) (UI _) hmax,e3,e4⟩
   ·cases hr
 ·cases hr
end
section
variable {P:Program}{c:Ctx}{κ:Kap}{σ:aq}
theorem O3 {w:World}{imm:Nat->Nat->Prop}{d:TypeDesc}{kd:Option IntKind}{k q:PV}{u v:Value}{b:Bool}(hd:di d=some kd)(hk:PRel w imm k u)(hkd:wq kd k=true)(hq:PRel w imm q v)(h:keq k q=some b) :
  Instr.sameNow d u v=some b/\(b=true->v=u):=by
 unfold keq at h
 split at h
 ·rename_i x y
  cases hk with
  | str s hs=>
    cases hq with
    | str s' hs'=>
      have hkd':kd=none:=by cases kd<;>simp_all [wq]
      subst hkd'
      have hd':d = .string:=by cases d<;>simp_all [di]
      subst hd'
      have e:(s == s')=(s.data.toList == s'.data.toList):=by
       by_cases h:s=s'
       ·subst h;rw[(MapKept.bytes_beq s s).2 rfl];simp
       ·have h1:(s == s')=false:=by
         cases hb:s == s' with
         | false=>rfl
         | true=>exact absurd ((MapKept.bytes_beq s s').1 hb) h
        have h2:s.data.toList≠s'.data.toList:=fun e=>h (by
         obtain⟨a⟩:=s;obtain⟨b⟩:=s'
         simp only at e
         rw[Array.toList_inj.1 e])
        rw[h1];simpa using h2
      cases h
      refine⟨by simp[Instr.sameNow,e],fun hb=>?_⟩
      rw[<- e] at hb
      rw[(MapKept.bytes_beq s s').1 hb]
 ·rename_i j x j' y
  split at h
  ·rename_i hj
   subst hj
   cases hk with
   | int _ _=>
     cases hq with
     | int _ _=>
       cases h
       obtain⟨kk,rfl⟩:∃ kk,kd=some kk:=by cases kd<;>simp_all [wq]
       have hd':d = .int kk:=by cases d<;>simp_all [di]
       subst hd'
       refine⟨by simp[Instr.sameNow],fun hb=>?_⟩
       simp only[beq_iff_eq] at hb
       rw[hb]
  ·cases h
 ·cases h
theorem jV {w:World}{imm:Nat->Nat->Prop}{d:TypeDesc}{kd:Option IntKind}{k:PV}{u:Value}(hd:di d=some kd)(hk:PRel w imm k u)(hkd:wq kd k=true) :
  ∀ (es:List MapEntry) (l:List (PV×PV)) (i:Nat),es.length=l.length->(∀ (j:Nat) (e:MapEntry),es[j]? = some e->∃ p,l[j]? = some p/\PRel w imm p.1 e.key/\PRel w imm p.2 e.val) ->
    ∀ r,fC k l i=some r->(r=none/\Instr.findNow d u es i=some none) \/
      ∃ j p e,r=some (i+j,p.2)/\l[j]? = some p/\es[j]? = some e/\Instr.findNow d u es i=some (some (i+j,e.val))/\PRel w imm p.2 e.val/\e.key=u
 | [],[],i,_,_,r,h=>by cases h;exact .inl ⟨rfl,rfl⟩
 | [],_::_,_,hl,_,_,_=>by simp at hl
 | _::_,[],_,hl,_,_,_=>by simp at hl
 | e::es,p::l,i,hl,hr,r,h=>by
   obtain⟨p',hp',h1,h2⟩:=hr 0 e rfl
   cases hp'
   unfold fC at h
   cases hq:keq k p.1 with
   | none=>rw[hq] at h;cases h
   | some b=>
     rw[hq] at h
     obtain⟨s1,s2⟩:=O3 hd hk hkd h1 hq
     cases b with
     | true=>
       cases h
       exact .inr ⟨0,p,e,rfl,rfl,rfl,by simp[Instr.findNow,s1],h2,s2 rfl⟩
     | false=>
       rcases jV hd hk hkd es l (i+1) (by simpa using hl) (fun j e' he=>hr (j+1) e' (by simpa using he)) r h with ⟨q1,q2⟩ | ⟨j,p',e',q1,q2,q3,q4,q5,q6⟩
       ·exact .inl ⟨q1,by simp[Instr.findNow,s1,q2]⟩
       ·refine .inr ⟨j+1,p',e',?_,by simpa using q2,by simpa using q3,?_,q5,q6⟩
        ·rw[q1,Nat.add_assoc,Nat.add_comm 1 j]
        ·simp only[Instr.findNow,s1,q4]
         rw[Nat.add_assoc,Nat.add_comm 1 j]
theorem IK {w:World}{imm:Nat->Nat->Prop}{d:TypeDesc}{kd:Option IntKind}{k:PV}{u:Value}(hd:di d=some kd)(hk:PRel w imm k u)(hkd:wq kd k=true):MapKept.IsKey d u:=by
 cases kd with
 | none=>
   have hd':d = .string:=by cases d<;>simp_all [di]
   subst hd'
   cases k<;>simp[wq] at hkd
   cases hk
   trivial
 | some kk=>
   have hd':d = .int kk:=by cases d<;>simp_all [di]
   subst hd'
   cases k<;>simp[wq] at hkd
   cases hk
   exact hkd.symm
theorem JZ {t:TypeId}{new:Nat}(hS:SRel c κ σ)(hw:c.w0.heap.size<=κ.w.heap.size)(hn:κ.nm new=none) :
  ∃ u κ',(Instr.makeMap t none).run P κ.w = .ok u κ'.w/\ARel κ' (.mp new) u/\Done c κ κ' new/\SRel c κ' (σ.upd [(new,.mp [])]):=by
 obtain⟨h1,h2⟩:=OS hS hw hn (.map #[] 0) (.mp κ.w.heap.size) (.mp []) (fun _=>False) rfl κ.w rfl rfl rfl rfl
 refine⟨.map (some κ.w.heap.size),_,rfl,.mp _ _ (by simp),h1,h2 ⟨κ.w.heap.size,#[],0,by simp,(MapKept.heap_alloc κ.w _).1,by simp,rfl,?_⟩⟩
 rintro o (hi | ⟨_,hi⟩)
 ·have:=hS.immLt _ _ hi;omega
 ·exact hi
theorem Bx (hS:SRel c κ σ){r b:Nat}{l:List (PV×PV)}(h:σ r = .mp l)(hb:κ.nm r=some (.mp b)) :
  ∃ es ck,κ.w.heap[b]? = some (.map es ck)/\(∀ (i:Nat) (e:MapEntry),es[i]? = some e->∃ p,l[i]? = some p/\PRel κ.w κ.imm p.1 e.key/\PRel κ.w κ.imm p.2 e.val)/\es.size=l.length/\∀ o,¬ κ.imm b o:=by
 have hB:=hS.blk r
 rw[h] at hB
 obtain⟨b',es,ck,h1,h2,h3,h4,h5⟩:=hB
 rw[hb] at h1;cases h1
 exact⟨es,ck,h2,h3,h4,h5⟩
theorem NQ {t ty kt et:TypeId}{x v:AV}{u:Value}(hS:SRel c κ σ)(ht:P.underlying t=some (.map kt et))(hx:ARel κ x u)(hr:l9 σ x=some v) :
  ∃ z,(Builtin.len_ #[t] ty #[u]).run P κ.w = .ok z κ.w/\ARel κ v z:=by
 unfold l9 at hr
 split at hr
 ·rename_i r
  split at hr
  ·rename_i l hσ
   cases hr
   cases hx with
   | mp _ b hnm=>
     obtain⟨es,ck,g1,g2,g3,g4⟩:=Bx hS hσ hnm
     refine⟨.int .i64 l.length,by simp[Builtin.len_,run_underlying ht,MapKept.run_getObj_map g1,goInt,g3],.pv _ _ (.int _ _)⟩
  ·cases hr
 ·cases hr
theorem JY {t kt et:TypeId}{d:TypeDesc}{kd:Option IntKind}{co:Bool}{i:TypeInfo}{z:Value}{p:PV}{x k v:AV}{ux uk:Value}(hS:SRel c κ σ)(ht:P.underlying t=some (.map kt et))(hdk:P.underlying kt=some d)
  (hd:di d=some kd) (hi:P.info? et=some i) (hz:i.zero=some z) (hp:cV z=some p) (hx:ARel κ x ux) (hk:ARel κ k uk) (hr:ma kd co p σ x k=some v) :
  ∃ u,(Instr.lookup t ux uk co).run P κ.w = .ok u κ.w/\ARel κ v u:=by
 unfold ma at hr
 split at hr
 ·rename_i r kp
  split at hr
  ·rename_i l hσ
   split at hr
   ·rename_i hkd
    cases hx with
    | mp _ b hnm=>
      obtain⟨es,ck,g1,g2,g3,g4⟩:=Bx hS hσ hnm
      have hkr:=aG hk
      have hkey:=IK hd hkr hkd
      have hzr:(zeroValue et).run P κ.w = .ok z κ.w:=by simp[zeroValue,typeInfo,hi,hz]
      have hg2:∀ (j:Nat) (e:MapEntry),es.toList[j]? = some e->∃ p,l[j]? = some p/\PRel κ.w κ.imm p.1 e.key/\PRel κ.w κ.imm p.2 e.val:=fun j e he=>g2 j e (by simpa using he)
      split at hr
      ·rename_i n q hf
       rcases jV hd hkr hkd es.toList l 0 (by simpa using g3) hg2 _ hf with ⟨q1,_⟩ | ⟨j,p',e,q1,q2,q3,q4,q5,q6⟩
       ·cases q1
       cases q1
       cases co with
       | true=>
         cases hr
         refine⟨.tuple #[e.val,.bool true],by simp[Instr.lookup,run_underlying ht,MapKept.run_getObj_map g1,MapKept.run_checkKey hdk hkey,MapKept.run_findKey hdk q4],.pv _ _ (.tup _ _ rfl fun j x hx=>?_)⟩
         match j with
         | 0=>simp at hx;subst hx;simpa using q5
         | 1=>simp at hx;subst hx;simpa using PRel.bool true
         | j+2=>simp at hx
       | false=>
         cases hr
         exact⟨e.val,by simp[Instr.lookup,run_underlying ht,MapKept.run_getObj_map g1,MapKept.run_checkKey hdk hkey,MapKept.run_findKey hdk q4],.pv _ _ q5⟩
      ·rename_i hf
       rcases jV hd hkr hkd es.toList l 0 (by simpa using g3) hg2 _ hf with ⟨_,q4⟩ | ⟨j,p',e,q1,_⟩
       rotate_left
       ·cases q1
       cases co with
       | true=>
         cases hr
         refine⟨.tuple #[z,.bool false],by simp[Instr.lookup,run_underlying ht,MapKept.run_getObj_map g1,MapKept.run_checkKey hdk hkey,MapKept.run_findKey hdk q4,hzr],.pv _ _ (.tup _ _ rfl fun j x hx=>?_)⟩
         match j with
         | 0=>simp at hx;subst hx;simpa using fK hp
         | 1=>simp at hx;subst hx;simpa using PRel.bool false
         | j+2=>simp at hx
       | false=>
         cases hr
         exact⟨z,by simp[Instr.lookup,run_underlying ht,MapKept.run_getObj_map g1,MapKept.run_checkKey hdk hkey,MapKept.run_findKey hdk q4,hzr],.pv _ _ (fK hp)⟩
      ·cases hr
   ·cases hr
  ·cases hr
 ·cases hr
theorem NP {t kt et:TypeId}{d:TypeDesc}{kd:Option IntKind}{new:Nat}{x k v:AV}{ux uk uv:Value}{δ:List (Nat×Blk)}(hS:SRel c κ σ)(ht:P.underlying t=some (.map kt et))(hdk:P.underlying kt=some d)
  (hd:di d=some kd) (hx:ARel κ x ux) (hk:ARel κ k uk) (hv:ARel κ v uv) (hr:l8 kd σ x k v=some δ) :
  ∃ w',(Instr.mapUpdate t ux uk uv).run P κ.w = .ok () w'/\Done c κ ⟨w',κ.nm,κ.imm⟩ new/\SRel c ⟨w',κ.nm,κ.imm⟩ (σ.upd δ):=by
 unfold l8 at hr
 split at hr
 ·rename_i r kp
  split at hr
  ·rename_i l q hσ hq
   split at hr
   ·rename_i hkd
    cases hx with
    | mp _ b hnm=>
      obtain⟨es,ck,g1,g2,g3,g4⟩:=Bx hS hσ hnm
      have hkr:=aG hk
      have hkey:=IK hd hkr hkd
      have hqv:PRel κ.w κ.imm q uv:=bI hq hv
      have hg2:∀ (j:Nat) (e:MapEntry),es.toList[j]? = some e->∃ p,l[j]? = some p/\PRel κ.w κ.imm p.1 e.key/\PRel κ.w κ.imm p.2 e.val:=fun j e he=>g2 j e (by simpa using he)
      have step:∀ (es':Array MapEntry) (ck':Nat) (l':List (PV×PV)),(∀ (i:Nat) (e:MapEntry),es'[i]? = some e->∃ p,l'[i]? = some p/\PRel κ.w κ.imm p.1 e.key/\PRel κ.w κ.imm p.2 e.val)->es'.size=l'.length ->
        Done c κ ⟨{ κ.w with heap:=κ.w.heap.setIfInBounds b (.map es' ck') },κ.nm,κ.imm⟩ new/\SRel c ⟨{ κ.w with heap:=κ.w.heap.setIfInBounds b (.map es' ck') },κ.nm,κ.imm⟩ (σ.upd [(r,.mp l')]):=by
       intro es' ck' l' k1 k2
       obtain⟨h1,h2⟩:=uu hS (r0:=r) (b0:=b) (d0:=.mp b) (Bo:=.mp l') (w':={ κ.w with heap:=κ.w.heap.setIfInBounds b (.map es' ck') }) new
        rfl rfl rfl (by simp) (fun b' hb'=>(MapKept.heap_set g1).2 b' hb') g4 (by rw[hσ];simp) hnm rfl
       refine⟨h1,h2 ⟨b,es',ck',hnm,(MapKept.heap_set g1).1,fun i e he=>?_,k2,g4⟩⟩
       obtain⟨p,e1,e2,e3⟩:=k1 i e he
       exact⟨p,e1,e2.ext h1.ext,e3.ext h1.ext⟩
      split at hr
      ·rename_i n q' hf
       cases hr
       rcases jV hd hkr hkd es.toList l 0 (by simpa using g3) hg2 _ hf with ⟨q1,_⟩ | ⟨j,p',e,q1,q2,q3,q4,q5,q6⟩
       ·cases q1
       cases q1
       rw[UN] at q4 ⊢
       have he:es[j]? = some e:=by simpa using q3
       obtain⟨h1,h2⟩:=step (es.modify j fun e=>{ e with key:=uk,val:=uv }) ck (l.set j (kp,q)) (fun i e' he'=>by
        rw[Array.getElem?_modify] at he'
        rw[List.getElem?_set]
        by_cases hij:j=i
        ·subst hij
         rw[if_pos rfl,he] at he'
         cases he'
         have hlt:j<l.length:=(Ur.1 q2).1
         exact⟨(kp,q),by simp[hlt],hkr,hqv⟩
        ·rw[if_neg hij] at he'
         rw[if_neg hij]
         exact g2 i e' he') (by simpa using g3)
       refine⟨_,?_,h1,h2⟩
       have hke:e.key=uk:=q6
       simp[Instr.mapUpdate,run_underlying ht,MapKept.run_getObj_map g1,MapKept.run_checkKey hdk hkey,MapKept.run_findKey hdk q4,he,hke,MapKept.run_keyThatStays hkey,MapKept.run_setObj_map _ g1]
      ·rename_i hf
       cases hr
       rcases jV hd hkr hkd es.toList l 0 (by simpa using g3) hg2 _ hf with ⟨_,q4⟩ | ⟨j,p',e,q1,_⟩
       rotate_left
       ·cases q1
       obtain⟨h1,h2⟩:=step (es.push { key:=uk,val:=uv,born:=ck }) (ck+1) (l++[(kp,q)]) (fun i e' he'=>by
        rw[Array.getElem?_push] at he'
        split at he'
        ·rename_i hi
         cases he'
         subst hi
         exact⟨(kp,q),by simp[g3],hkr,hqv⟩
        ·have hlt:i<l.length:=by have:=(Array.getElem?_eq_some_iff.1 he').1;omega
         obtain⟨p,e1,e2⟩:=g2 i e' he'
         exact⟨p,by rw[US hlt];exact e1,e2⟩) (by simp[g3])
       refine⟨_,?_,h1,h2⟩
       simp[Instr.mapUpdate,run_underlying ht,MapKept.run_getObj_map g1,MapKept.run_checkKey hdk hkey,MapKept.run_findKey hdk q4,MapKept.run_setObj_map _ g1]
      ·cases hr
   ·cases hr
  ·cases hr
 ·cases hr
end
def g7:String:= "slices.overlaps[manifold/api.Field]"
def e5:String:= "slices.overlaps"
def lH (P:Program)(t:TypeId):Option (TypeId×Nat):=
 match P.underlying t with
 | some (.slice e)=>match eR P e with
   | some n=>some (e,n)
   | none=>none
 | _=>none
def Tp (P:Program)(f:Nat):Bool:=
 match P.funcs[f]? with
 | some fn=>fn.body.isNone&&(fn.name == g7)&&(fn.origin == e5)&&(match fn.params[0]?,fn.params[1]? with
   | some t,some t'=>t == t'&&(lH P t).isSome
   | _,_=>false)
 | none=>false
def ig:String:= "internal/abi.NoEscape"
def Ts (P:Program)(f:Nat):Bool:=
 match P.funcs[f]? with
 | some fn=>fn.body.isNone&&(fn.name == ig)&&(Extern.allNextRows.lookup fn.origin).isNone
 | none=>false
def ia:String:= "internal/bytealg.IndexByteString"
def Tq (P:Program)(f:Nat):Bool:=
 match P.funcs[f]? with
 | some fn=>fn.body.isNone&&(fn.name == ia)&&(Extern.allNextRows.lookup fn.origin).isNone
 | none=>false
def rL (P:Program)(t:TypeId):Option (TypeId×Nat):=
 match P.underlying t with
 | some (.slice e)=>match P.info? e with
   | some i=>match i.zero with
     | some (.int .u8 z)=>if z=0/\i.size=1 then some (e,i.bytes) else none
     | _=>none
   | none=>none
 | _=>none
def Q8 (P:Program)(t:TypeId)(x k v:Operand):Option XOp:=
 match P.underlying t with
 | some (.map kt _)=>match P.underlying kt,cX x,cX k,cX v with
   | some d,some ax,some ak,some av=>(di d).map fun kd=>.mset kd ax ak av
   | _,_,_,_=>none
 | _=>none
def Si (P:Program)(mu:Bool):Op->Option XOp
 | .call { callee:=.builtin .len,args,argTypes }=>match args.toList,argTypes.toList with
   | [x],[t]=>match P.underlying t,cX x with
     | some (.map _ _),some ax=>some (.mlen ax)
     | _,_=>none
   | _,_=>none
 | .call { callee:=.builtin .cap,args,argTypes }=>match args.toList,argTypes.toList with
   | [x],[t]=>match lH P t,cX x with
     | some (_,n),some ax=>some (.cap n ax)
     | _,_=>none
   | _,_=>none
 | .slice t x none (some h) none=>match mu,lH P t with
   | true,some (_,n)=>match cX x,cX h with
     | some ax,some ah=>some (.resl n ax ah)
     | _,_=>none
   | _,_=>none
 | .call { callee:=.builtin .copy,args,argTypes }=>match args.toList,argTypes.toList with
   | [x,y],[t,_]=>match lH P t,cX x,cX y with
     | some (_,n),some ax,some ay=>some (.copy n ax ay)
     | _,_,_=>none
   | _,_=>none
 | .call { callee:=.builtin .append,args,argTypes }=>match args.toList,argTypes.toList with
   | [x,y],[t,t']=>match P.underlying t,P.underlying t' with
     | some (.slice e),some (.int _)=>match P.info? e with
       | some i=>match i.zero with
         | some z=>match cV z,cX x,cX y with
           | some p,some ax,some ay=>if p.cells.length=i.size then some (.appz e i.size i.bytes p.cells ax ay) else none
           | _,_,_=>none
         | none=>none
       | none=>none
     | some (.slice _),some .string=>match rL P t,cX x,cX y with
       | some (e,b),some ax,some ay=>if mu=true then some (.apps e b ax ay) else none
       | _,_,_=>none
     | _,_=>none
   | _,_=>none
 | .call { callee:=.value (.func f),args,argTypes:=_ }=>match args.toList with
   | [x,y]=>match Tp P f,Tq P f,cX x,cX y with
     | true,_,some ax,some ay=>some (.apart ax ay)
     | false,true,some ax,some ay=>some (.idxb ax ay)
     | _,_,_,_=>none
   | [x]=>match Ts P f,cX x with
     | true,some ax=>some (.noesc ax)
     | _,_=>none
   | _=>none
 | .convert s d x=>match P.underlying s,P.underlying d with
   | some (.pointer t),some .unsafePointer=>match eR P t,cX x with
     | some n,some ax=>if n≠0 then some (.ucast 0 0 false ax) else none
     | _,_=>none
   | some .unsafePointer,some (.pointer u)=>match eR P u,cX x with
     | some n,some ax=>if liesAt P P.depth u (n / P.cellsOf u) 0 u 1=true then some (.ucast u n true ax) else none
     | _,_=>none
   | some .string,some (.slice e)=>match P.underlying e,cX x with
     | some (.int .u8),some ax=>some (.ofStr ax)
     | _,_=>none
   | some (.slice e),some (.slice _)=>match P.underlying e,cX x with
     | some (.int .u8),some ax=>if s=d then some (.same ax) else none
     | _,_=>none
   | _,_=>none
 | .binOp .eql t x y _=>match mu,P.underlying t with
   | true,some (.pointer te)=>match P.info? te,cX x,cX y with
     | some _,some ax,some ay=>some (.peq false ax ay)
     | _,_,_=>none
   | true,some (.func _ _ _)=>match cX x,cX y with
     | some ax,some ay=>some (.fnil false ax ay)
     | _,_=>none
   | true,some (.interface _)=>match y,cX x,cX y with
     | .const _,some ax,some ay=>some (.inil false ax ay)
     | _,_,_=>none
   | _,_=>none
 | .binOp .neq t x y _=>match mu,P.underlying t with
   | true,some (.pointer te)=>match P.info? te,cX x,cX y with
     | some _,some ax,some ay=>some (.peq true ax ay)
     | _,_,_=>none
   | true,some (.func _ _ _)=>match cX x,cX y with
     | some ax,some ay=>some (.fnil true ax ay)
     | _,_=>none
   | true,some (.interface _)=>match y,cX x,cX y with
     | .const _,some ax,some ay=>some (.inil true ax ay)
     | _,_,_=>none
   | _,_=>none
 | .makeInterface T x=>match P.underlying T with
   | some (.interface _)=>none
   | some _=>(cX x).map (.mki T)
   | none=>none
 | .move (.const _)=>some .anyc
 | .assign (.const _)=>some .anyc
 | .call { callee:=.builtin .unsafeSliceData,args,argTypes:=_ }=>match args.toList with
   | [x]=>(cX x).map .sdata
   | _=>none
 | .call { callee:=.builtin .unsafeString,args,argTypes }=>match args.toList,argTypes.toList with
   | [x,y],[pt,_]=>match P.underlying pt with
     | some (.pointer e)=>match cX x,cX y with
       | some ax,some ay=>if P.cellsOf e=1 then some (.ustr e ax ay) else none
       | _,_=>none
     | _=>none
   | _,_=>none
 | .makeMap _ none=>some .mkmap
 | .lookup t x k co=>match P.underlying t with
   | some (.map kt et)=>match P.underlying kt,P.info? et,cX x,cX k with
     | some d,some i,some ax,some ak=>match di d,i.zero with
       | some kd,some z=>(cV z).map fun p=>.mlook kd co p ax ak
       | _,_=>none
     | _,_,_,_=>none
   | _=>none
 | .mapUpdate t x k v=>Q8 P t x k v
 | .insert t x k v=>Q8 P t x k v
 | _=>none
section
variable {P:Program}{c:Ctx}{κ:Kap}{σ:aq}{E:Nat->AV}{a:Act}
theorem eA {t e:TypeId}{n:Nat}(h:lH P t=some (e,n)):P.underlying t=some (.slice e)/\eR P e=some n:=by
 unfold lH at h
 split at h
 ·rename_i e' hu
  split at h
  ·rename_i m hm
   cases h
   exact⟨hu,hm⟩
  ·cases h
 ·cases h
theorem iV (hS:SRel c κ σ){r sz off len T:Nat}{l:List AV}{u:Value}(hx:ARel κ (.row r sz off len) u)(h:σ r = .cells T true l) :
  ∃ b n cap cs,u = .slice (some ⟨b,off,none⟩) len cap/\κ.nm r=some (.blk b n)/\off+cap*sz<=n/\(off=0->cap*sz=n)/\len<=cap/\cap<=maxLen /\
    κ.w.heap[b]? = some (.cells cs T (0,0))/\cs.size=n/\l.length=n/\(∀ o,¬ κ.imm b o)/\∀ (j:Nat) (y:AV),l[j]? = some y->ARel κ y (cs.getD j Go.undef):=by
 cases hx with
 | row0 _ _ hn=>
   have hB:=hS.blk r
   rw[h] at hB
   rcases hB with ⟨h1,_⟩ | ⟨_,_,_,h1,_⟩
   ·cases h1
   ·rw[hn] at h1;cases h1
 | row _ _ _ _ b n cap hn h1 h0 h2 h3=>
   obtain⟨cs,hg,hcs,hln,hf,himm,hrel,_⟩:=bJ hS h hn
   exact⟨b,n,cap,cs,rfl,hn,h1,h0,h2,h3,hg,hcs,hf rfl,himm,hrel⟩
theorem RA {t ty e:TypeId}{sz:Nat}{x v:AV}{u:Value}(hS:SRel c κ σ)(hu:P.underlying t=some (.slice e))(hx:ARel κ x u)(hr:Fx sz σ x=some v) :
  ∃ z,(Builtin.cap_ #[t] ty #[u]).run P κ.w = .ok z κ.w/\ARel κ v z:=by
 unfold Fx at hr
 split at hr
 ·rename_i r s off len
  split at hr
  ·rename_i T f l hσ
   split at hr
   ·rename_i hh
    obtain⟨rfl,rfl,hs,rfl⟩:=hh
    cases hr
    obtain⟨b,n,cap,cs,rfl,_,_,h0,_,_,_,_,hl,_,_⟩:=iV hS hx hσ
    refine⟨.int .i64 cap,by simp[Builtin.cap_,run_underlying hu,goInt],?_⟩
    rw[hl,<- h0 rfl,Nat.mul_div_cancel _ hs]
    exact .pv _ _ (.int _ _)
   ·cases hr
  ·cases hr
 ·cases hr
theorem NM {t e:TypeId}{sz:Nat}{x y v:AV}{u uy:Value}(hS:SRel c κ σ)(hu:P.underlying t=some (.slice e))(hs:eR P e=some sz)(hx:ARel κ x u)(hy:ARel κ y uy)(hr:l7 sz σ x y=some v) :
  ∃ z,(Instr.slice t u none (some uy) none).run P κ.w = .ok z κ.w/\ARel κ v z:=by
 unfold l7 at hr
 split at hr
 ·rename_i r s off len k h
  split at hr
  ·rename_i T f l hσ
   split at hr
   ·rename_i hh
    obtain⟨rfl,rfl,hs0,rfl,hh0,hle⟩:=hh
    cases hr
    obtain⟨b,n,cap,cs,rfl,hn,h1,h0,h2,h3,_,_,hl,_,_⟩:=iV hS hx hσ
    obtain rfl:=aV hy
    have hhc:h.toNat<=cap:=by
     have h4:=h0 rfl
     rw[hl,<- h4] at hle
     exact Nat.le_of_mul_le_mul_right hle hs0
    have hbd:∀ code,(Instr.sliceBound (.int k h) cap code).run P κ.w = .ok h.toNat κ.w:=fun code=>run_sliceBound κ.w k h cap code hh0 (by omega)
    refine⟨.slice (some ⟨b,0,none⟩) h.toNat cap,?_,.row r s 0 h.toNat b n cap hn h1 h0 hhc h3⟩
    have e0:(if cap=0 then some (⟨b,0,none⟩:Addr) else Option.map (fun x:Addr=>x.add (0*s)) (some ⟨b,0,none⟩))=some ⟨b,0,none⟩:=by
     split<;>simp[Addr.add]
    simp[Instr.slice,Instr.sliceBounds,run_underlying hu,aZ hs,hbd]
    intro _;simp[Addr.add]
   ·cases hr
  ·cases hr
 ·cases hr
theorem JO (hS:SRel c κ σ){sz m:Nat}{y:AV}{cs:List AV}{uy:Value}(hy:ARel κ y uy)(h:xN sz σ y=some (m,cs)) :
  ∃ (A:Option Addr) (cc:Nat) (xs:List Value),uy = .slice A m cc/\xs.length=m*sz/\cs.length=m*sz/\(∀ (i:Nat) (x:AV),cs[i]? = some x->ARel κ x (xs.getD i Go.undef)) /\
    (∀ a,A=some a->∀ (j:Nat) (u:Value),xs[j]? = some u->κ.w.cell? (a.add j)=some u)/\(A=none->m=0):=by
 unfold xN at h
 split at h
 ·rename_i r s off len
  split at h
  ·rename_i T f l hσ
   split at h
   ·rename_i hh
    obtain⟨rfl,hle⟩:=hh
    cases h
    cases hy with
    | row0 _ _ hn=>exact⟨none,0,[],rfl,by simp,by simp,by simp,by simp,fun _=>rfl⟩
    | row _ _ _ _ b n cap hn h1 h0 h2 h3=>
      obtain⟨cs,hg,hcs,hln,hf,himm,hrel,hcell⟩:=bJ hS hσ hn
      refine⟨_,cap,(cs.toList.drop off).take (m*s),rfl,?_,?_,fun i x hx=>?_,fun a ha j u hj=>?_,fun h=>by cases h⟩
      ·simp;omega
      ·simp;omega
      ·rw[UL] at hx
       split at hx
       ·rename_i hi
        rw[Vl] at hx
        have:=hrel _ x hx
        rw[aA] at this
        rw[Uv,UL,if_pos hi,Vl,<- Uv]
        exact this
       ·cases hx
      ·cases ha
       rw[UL] at hj
       split at hj
       ·rename_i hi
        rw[Vl] at hj
        rw[Addr.add_lit,cell_of_row κ.w b (off+j) cs T (0,0) hg]
        simpa using hj
       ·cases hj
   ·cases h
  ·cases h
 ·simp only[Ut,Uz] at h
  obtain⟨ys,hys,rfl,rfl⟩:=h
  obtain⟨A,m,cc,xs,rfl,rfl,hrow,hone,hat⟩:=gE hS hy hys
  obtain⟨hfl,hfr⟩:=mA hrow
  refine⟨A,cc,xs,rfl,hrow.1,by rw[hfl,hrow.1],hfr,fun a ha j u hj=>?_,fun hA=>?_⟩
  ·rcases hat with h0 | ⟨a',ha',hat⟩
   ·have:=(Ur.1 hj).1
    rw[hrow.1,h0,Nat.zero_mul] at this;omega
   ·rw[ha] at ha';cases ha'
    exact hat j u hj
  ·rcases hat with h0 | ⟨a',ha',_⟩
   ·exact h0
   ·rw[hA] at ha';cases ha'
theorem p5 (w:World)(dT sT ty elem:TypeId)(g o dLen dCap size:Nat)(A:Option Addr)(sLen sCap:Nat)(cur:Array Value)(t:TypeId)(cs:List Value)
  (hu:P.underlying dT=some (.slice elem)) (hs:eR P elem=some size)
  (hg:w.heap[g]? = some (.cells cur t (0,0))) (hn:cs.length=min sLen dLen*size) (hA:A=none->sLen=0)
  (hsrc:∀ a,A=some a->∀ j v,cs[j]? = some v->w.cell? (a.add j)=some v) (hfit:o+cs.length<=cur.size) (h1:∀ v∈cs,v.oneCell'=true) :
  (Builtin.copy_ #[dT,sT] ty #[.slice (some ⟨g,o,none⟩) dLen dCap,.slice A sLen sCap]).run P w =
   .ok (goInt (min sLen dLen:Nat)) (w.setRow g (cur.toList.take o++cs++cur.toList.drop (o+cs.length)).toArray):=by
 have hst:=run_storeCells_at P g o t cs 0 cur w hg (by simpa using hfit) h1
 simp only[VA] at hst
 have hf:(Builtin.firstCells size (min sLen dLen) (.slice A sLen sCap)).run P w = .ok cs.toArray w:=by
  cases A with
  | none=>
    have h0:=hA rfl
    subst h0
    have:cs=[]:=UG (by simpa using hn)
    subst this
    simp[Builtin.firstCells]
  | some a=>
    have hl:=run_loadCells_list (P:=P) w a cs (hsrc a rfl)
    rw[hn] at hl
    simpa[Builtin.firstCells] using hl
 have hmin:Nat.min sLen dLen=min sLen dLen:=rfl
 simp only[Builtin.copy_,List.getElem?_toArray,List.getElem?_cons_zero,List.getElem?_cons_succ,Sem.run_bind,run_underlying hu,Result.andThen_ok,Builtin.lenOf,Sem.run_pure,aZ hs,hmin,hf,List.toList_toArray,hst]
theorem NW {t t' ty e:TypeId}{sz new:Nat}{x y v:AV}{ux uy:Value}{δ:List (Nat×Blk)}(hS:SRel c κ σ)(hu:P.underlying t=some (.slice e))(hs:eR P e=some sz)(hx:ARel κ x ux)(hy:ARel κ y uy)
  (hr:nI sz σ x y=some (v,δ)) :
  ∃ u w',(Builtin.copy_ #[t,t'] ty #[ux,uy]).run P κ.w = .ok u w'/\ARel ⟨w',κ.nm,κ.imm⟩ v u/\Done c κ ⟨w',κ.nm,κ.imm⟩ new/\SRel c ⟨w',κ.nm,κ.imm⟩ (σ.upd δ):=by
 unfold nI at hr
 split at hr
 ·rename_i r s off len
  split at hr
  ·rename_i T f l hσ
   split at hr
   ·rename_i hss
    subst hss
    simp only[VG] at hr
    obtain⟨⟨m,cs⟩,hsrc,hr⟩:=hr
    obtain⟨A,cc,xs,rfl,hxl,hcl,hrel,hcell,hnil⟩:=JO hS hy hsrc
    simp only[Mo] at hr
    split at hr
    ·rename_i hh
     obtain⟨hle,hone⟩:=hh
     cases hr
     have hml:min m len*s<=m*s:=UA _ (Nat.min_le_left _ _)
     cases hx with
     | row0 _ _ hn=>
       have e0:min m 0=0:=Nat.min_zero _
       refine⟨goInt 0,κ.w,?_,by rw[e0];exact .pv _ _ (.int _ _),Done.same c κ new,?_⟩
       ·have hm0:Nat.min m 0=0:=Nat.min_zero _
        cases A<;>simp[Builtin.copy_,run_underlying hu,Builtin.lenOf,aZ hs,hm0,Builtin.firstCells,loadCells,loadCellsFrom]
       ·have e1:(σ.upd [(r,Blk.cells T f (l.take 0++cs.take (min m 0*s)++l.drop (0+min m 0*s)))])=σ:=by
         funext q
         simp only[Jw,aq.set]
         split
         ·rename_i hq
          subst hq
          rw[hσ,e0];simp
         ·rfl
        rw[e1];exact hS
     | row _ _ _ _ b n cap hnm h1 h0 h2 h3=>
       obtain⟨cur,hg,hcs,hln,hf,himm,hrl,_⟩:=bJ hS hσ hnm
       have hlen:(xs.take (min m len*s)).length=min m len*s:=by simp;omega
       have hlen':(cs.take (min m len*s)).length=min m len*s:=by simp;omega
       have hrel':∀ (i:Nat) (x:AV),(cs.take (min m len*s))[i]? = some x->ARel κ x ((xs.take (min m len*s)).getD i Go.undef):=by
        intro i x hx
        rw[UL] at hx
        split at hx
        ·rename_i hi
         rw[Uv,UL,if_pos hi,<- Uv]
         exact hrel i x hx
        ·cases hx
       have hone':∀ u∈xs.take (min m len*s),u.oneCell'=true:=by
        intro u hu
        obtain⟨i,hi,rfl⟩:=List.getElem_of_mem hu
        have hi':i<(cs.take (min m len*s)).length:=by omega
        have h4:=hrel' i _ (Uq hi')
        have h5:AV.one (cs.take (min m len*s))[i]=true:=(UD.1 hone) _ (List.getElem_mem hi')
        have:=h4.oneCell h5
        rw[Uv,Uq hi,Vb] at this
        exact this
       have hst:=p5 (P:=P) κ.w t t' ty e b off len cap s A m cc cur T (xs.take (min m len*s)) hu hs hg hlen hnil (fun a ha j v hj=>by
        rw[UL] at hj
        split at hj
        ·exact hcell a ha j v hj
        ·cases hj) (by rw[hlen];omega) hone'
       refine⟨_,_,hst,.pv _ _ (.int _ _),?_⟩
       have hh:=setRow_heap κ.w b cur (cur.toList.take off++xs.take (min m len*s)++cur.toList.drop (off+(xs.take (min m len*s)).length)).toArray T (0,0) hg
       obtain⟨k1,k2⟩:=uu hS (r0:=r) (b0:=b) (d0:=.blk b n) (Bo:=.cells T f (l.take off++cs.take (min m len*s)++l.drop (off+min m len*s)))
        (w':=κ.w.setRow b (cur.toList.take off++xs.take (min m len*s)++cur.toList.drop (off+(xs.take (min m len*s)).length)).toArray) new
        rfl rfl rfl (setRow_size ..) (fun b' hb'=>setRow_other κ.w b b' _ hb') himm (by rw[hσ];simp) hnm rfl
       refine⟨k1,k2 (.inr ⟨b,n,_,hnm,hh,?_,?_,?_,fun i y hy=>?_,himm⟩)⟩
       ·simp;omega
       ·simp;omega
       ·intro hft;have:=hf hft;simp;omega
       ·rw[aA]
        simp only
        rw[Uv]
        have hmm:=bO l (cs.take (min m len*s)) off i (by rw[hlen'];omega)
        rw[hlen'] at hmm
        rw[hmm] at hy
        have hm:=bO cur.toList (xs.take (min m len*s)) off i (by rw[hlen];simp;omega)
        rw[hm]
        by_cases hi:off<=i/\i<off+min m len*s
        ·rw[if_pos hi] at hy
         rw[if_pos (by rw[hlen];exact hi)]
         have:=(hrel' _ y hy).ext k1.ext
         rw[Uv] at this
         exact this
        ·rw[if_neg hi] at hy
         rw[if_neg (by rw[hlen];exact hi)]
         have:=(hrl i y hy).ext k1.ext
         rw[aA,Uv] at this
         exact this
    ·cases hr
   ·cases hr
  ·cases hr
 ·cases hr
theorem bL {w:World}{b:Nat}{cs:Array Value}{T:TypeId}{fr:Nat×Nat}(h:w.heap[b]? = some (.cells cs T fr)):w.shape? b=some (T,cs.size):=by
 simp[World.shape?,h]
theorem iA {w:World}{b o:Nat}{cs:Array Value}{T:TypeId}(h:w.heap[b]? = some (.cells cs T (0,0))):w.frozen? ⟨b,o,none⟩=false:=by
 simp[World.frozen?,h]
theorem J7 {tS tR e:TypeId}{sz:Nat}{x y v:AV}{ux uy:Value}(hS:SRel c κ σ)(hu:P.underlying tS=some (.slice e))(hs:eR P e=some sz)(hx:ARel κ x ux)(hy:ARel κ y uy)(hr:gr σ x y=some v) :
  ∃ z,(Extern.SlicesOverlaps.overlaps #[tS,tS] #[tR] #[ux,uy]).run P κ.w = .ok z κ.w/\ARel κ v z:=by
 unfold gr at hr
 split at hr
 ·rename_i r s l q sz' off len
  split at hr
  ·rename_i e' sz'' T f lq hσr hσq
   split at hr
   ·rename_i hh
    obtain⟨hne,rfl,hpos,hlp⟩:=hh
    cases hr
    refine⟨.bool false,?_,.pv _ _ (.bool _)⟩
    obtain⟨b,n,cap,cs,rfl,hnq,_,_,_,_,hg,hcs,hl,_,_⟩:=iV hS hy hσq
    cases hx with
    | olist _ _ _ _ hnr hp _=>
      have hB:=hS.blk r
      rw[hσr] at hB
      rcases hB with h | ⟨g,n',cap',cur,h1,h2,h3,h4,h5,h6⟩
      ·rw[hnr] at h
       simp only[Uu,Den.own.injEq] at h
       subst h
       cases l with
       | nil=>simp at hlp
       | cons a q=>
         obtain⟨_,_,_,hh⟩:=jJ hp
         cases hh
      ·rw[hnr] at h1
       simp only[Uu,Den.own.injEq] at h1
       subst h1
       have hap:g≠b:=by
        intro h
        subst h
        exact hS.apart r q _ _ g (by rw[hσr];simp) (by rw[hσq];simp) hne hnr hnq rfl rfl
       exact Lib.run_overlaps_apart κ.w tS tR e hu sz (fun w=>aZ hs) ⟨g,0,none⟩ ⟨b,off,none⟩ n' cap' len cap hap e' T cur.size cs.size (bL h2) (bL hg)
        (by omega) (iA h2) (iA h2)
   ·cases hr
  ·cases hr
 ·cases hr
theorem sX (sz:Nat)(zs:List PV)(hz:zs.length=sz):∀ (n j:Nat) (x:PV),(Vm n zs).flatten[j]? = some x->j<n*sz/\zs[j % sz]? = some x
 | 0,j,x,h=>by simp at h
 | n+1,j,x,h=>by
   rw[List.replicate_succ,List.flatten_cons] at h
   by_cases hj:j<sz
   ·rw[US (by omega)] at h
    refine⟨by rw[Vo];omega,?_⟩
    rw[Nat.mod_eq_of_lt hj];exact h
   ·rw[UT (by omega),hz] at h
    obtain⟨h1,h2⟩:=sX sz zs hz n (j - sz) x h
    refine⟨by rw[Vo];omega,?_⟩
    have:j % sz=(j - sz) % sz:=by rw[Nat.mod_eq_sub_mod (by omega)]
    rw[this];exact h2
theorem D8 {z:Value}{p:PV}{n j:Nat}{q:PV}(hp:cV z=some p)(h:(Vm n p.cells).flatten[j]? = some q):ARel κ (.pv q) ((Builtin.zeroCells z.cells n).getD j Go.undef):=by
 obtain⟨k1,k2⟩:=(ARel.pv (κ:=κ) p z (fK hp)).cellsOf rfl
 have hz:z.cells.size=p.cells.length:=by rw[k1];simp[AV.cells]
 obtain⟨h1,h2⟩:=sX p.cells.length p.cells rfl n j q h
 have h3:=k2 (j % p.cells.length) (.pv q) (by simp[AV.cells,h2])
 have e:(Builtin.zeroCells z.cells n).getD j Go.undef=z.cells.getD (j % p.cells.length) Go.undef:=by
  have hm:j % p.cells.length<p.cells.length:=Nat.mod_lt _ (by
   rcases Nat.eq_zero_or_pos p.cells.length with h | h
   ·rw[h] at h1;simp at h1
   ·exact h)
  simp[Builtin.zeroCells,Uw,hz,h1,hm]
 rw[e];exact h3
theorem N3 {t tn ty e new:TypeId}{i:TypeInfo}{z:Value}{p:PV}{kn:IntKind}{x y v:AV}{ux uy:Value}{δ:List (Nat×Blk)}(hS:SRel c κ σ)(hw:c.w0.heap.size<=κ.w.heap.size)(hn:κ.nm new=none)
  (hu:P.underlying t=some (.slice e)) (hun:P.underlying tn=some (.int kn)) (hi:P.info? e=some i) (hz:i.zero=some z) (hp:cV z=some p) (hsz:p.cells.length=i.size) (hx:ARel κ x ux) (hy:ARel κ y uy)
  (hr:nK e i.size i.bytes p.cells new σ x y=some (v,δ)) :
  ∃ u κ',(Builtin.append_ #[t,tn] ty #[ux,uy]).run P κ.w = .ok u κ'.w/\ARel κ' v u/\Done c κ κ' new/\SRel c κ' (σ.upd δ):=by
 unfold nK at hr
 split at hr
 ·rename_i r s off len kk k
  split at hr
  ·rename_i T f l hσ
   split at hr
   ·rename_i hh
    obtain⟨rfl,rfl,hs0,rfl,hk0,hgt,_,_,hroom⟩:=hh
    cases hr
    obtain⟨k1,k2⟩:=fT hroom
    obtain⟨b,n,cap,cs,rfl,hnm,_,h0,h2,h3,hg,hcs,hl,himm,hrel⟩:=iV hS hx hσ
    obtain rfl:=aV hy
    have hcap:=h0 rfl
    have hlc:len*i.size<=cap*i.size:=UA _ h2
    have hgrow:cap<len+k.toNat:=by
     rw[hl,<- hcap] at hgt
     exact Nat.lt_of_mul_lt_mul_right hgt
    have holdl:(cs.toList.take (len*i.size)).length=len*i.size:=by simp;omega
    have hold:(Builtin.firstCells i.size len (.slice (some ⟨b,0,none⟩) len cap)).run P κ.w.drew = .ok (cs.toList.take (len*i.size)).toArray κ.w.drew:=by
     have hh:=run_loadCells_list (P:=P) κ.w.drew ⟨b,0,none⟩ (cs.toList.take (len*i.size)) (fun j u hj=>by
      rw[UL] at hj
      split at hj
      ·rw[Addr.add_lit,UN]
       exact (cell_of_row κ.w b j cs T (0,0) hg).trans (by simpa using hj)
      ·cases hj)
     rw[holdl] at hh
     simpa[Builtin.firstCells] using hh
    have hkn:(k.toNat:Int)=k:=Int.toNat_of_nonneg (by omega)
    have hkb:k.toNat*i.bytes<=(len+k.toNat)*i.bytes:=UA _ (by omega)
    have hrun:=Lib.run_append_grow_zeros (P:=P) κ.w t tn ty e i z kk kn hu hun hi hz (some ⟨b,0,none⟩) len cap (cs.toList.take (len*i.size)) hold k.toNat (by omega) hs0 hgrow
     (by simp only[maxLen] at k1;omega) (by omega) (growslice_fits hgrow k2)
    rw[hkn] at hrun
    have hz2:z.cells.size=i.size:=by
     obtain⟨q1,_⟩:=(ARel.pv (κ:=κ) p z (fK hp)).cellsOf rfl
     rw[q1];simp[AV.cells,hsz]
    have hge:=grownCap_ge κ.w (len+k.toNat) cap e
    have hrl:((Vm k.toNat p.cells).flatten.map AV.pv).length=k.toNat*i.size:=by simp[hsz]
    have htl:(l.take (len*i.size)).length=len*i.size:=by simp;omega
    have htot:((cs.toList.take (len*i.size)).toArray++Builtin.zeroCells z.cells k.toNat++Builtin.zeroCells z.cells (grownCap κ.w (len+k.toNat) cap e - (len+k.toNat))).size=grownCap κ.w (len+k.toNat) cap e*i.size:=by
     simp only[Array.size_append,VB,holdl,size_zeroCells,hz2,<- Nat.add_mul]
     congr 1
     omega
    obtain⟨κ',e1,e2,e3,e4⟩:=bM (T:=e) (f:=false) (cs:=(cs.toList.take (len*i.size)).toArray++Builtin.zeroCells z.cells k.toNat++Builtin.zeroCells z.cells (grownCap κ.w (len+k.toNat) cap e - (len+k.toNat)))
     (l:=l.take (len*i.size)++(Vm k.toNat p.cells).flatten.map .pv) hS hw hn (by
      rw[htot,Uy,htl,hrl,<- Nat.add_mul]
      exact UA _ hge) (fun h=>by cases h) (fun j x hx=>by
      rw[aA]
      simp only[Array.toList_append]
      rw[UB]
      refine fp (by rw[htl,List.toList_toArray,holdl]) (fun j x hx=>?_) (fun j x hx=>?_) j x hx
      ·rw[UL] at hx
       split at hx
       ·rename_i hj
        have:=hrel j x hx
        rw[aA] at this
        rw[Uv,List.toList_toArray,UL,if_pos hj,<- Uv]
        exact this
       ·cases hx
      ·simp only[UE,Ut] at hx
       obtain⟨q,hq,rfl⟩:=hx
       have:=D8 (κ:=κ) hp hq
       have hj:j<k.toNat*i.size:=by
        have:=(Ur.1 hq).1
        simpa[hsz] using this
       rw[aA] at this
       rw[Uv,US (by simp[size_zeroCells,hz2,hj]),<- Uv]
       exact this) κ.w.drew rfl rfl rfl rfl
    refine⟨_,κ',by rw[hrun,e1],?_,e3,e4⟩
    rw[htot] at e2
    exact .row _ _ _ _ _ _ _ e2 (by omega) (fun _=>rfl) hge (grownCap_le_maxLen κ.w (len+k.toNat) cap e k1)
   ·cases hr
  ·cases hr
 ·cases hr
theorem uE {s d t:TypeId}{n u m:Nat}{x v:AV}{ux:Value}(hS:SRel c κ σ)(hs:P.underlying s=some (.pointer t))(hd:P.underlying d=some .unsafePointer)(hn:eR P t=some n)(h0:n≠0)(hx:ARel κ x ux)(hr:eY u m false σ x=some v) :
  (convert s d ux).run P κ.w = .ok ux κ.w/\ARel κ v ux:=by
 unfold eY at hr
 split at hr
 ·rename_i r o
  split at hr
  ·rename_i T f l hσ
   simp only at hr
   split at hr
   ·rename_i ho
    cases hr
    cases hx with
    | ptr _ _ b N hnm=>
      obtain⟨cs,hg,hcs,hln,_,_,_,_⟩:=bJ hS hσ hnm
      obtain⟨j,hj,hjn⟩:∃ j,P.info? t=some j/\j.size=n:=by
       unfold eR at hn
       simpa[Ut] using hn
      exact⟨Lib.run_to_unsafe κ.w ⟨b,o,none⟩ hs hd hj (by omega) (bL hg) (by show o<cs.size;omega),.ptr _ _ b N hnm⟩
   ·cases hr
  ·cases hr
 ·cases hr
theorem nv {s d u:TypeId}{n:Nat}{x v:AV}{ux:Value}(hS:SRel c κ σ)(hs:P.underlying s=some .unsafePointer)(hd:P.underlying d=some (.pointer u))(hn:eR P u=some n)(hl:liesAt P P.depth u (n / P.cellsOf u) 0 u 1=true)(hx:ARel κ x ux)(hr:eY u n true σ x=some v) :
  (convert s d ux).run P κ.w = .ok ux κ.w/\ARel κ v ux:=by
 unfold eY at hr
 split at hr
 ·rename_i r o
  split at hr
  ·rename_i T f l hσ
   simp only at hr
   split at hr
   ·rename_i hh
    obtain⟨rfl,rfl,rfl,hlen⟩:=hh
    cases hr
    cases hx with
    | ptr _ _ b N hnm=>
      obtain⟨cs,hg,hcs,hln,hf,_,_,_⟩:=bJ hS hσ hnm
      obtain⟨j,hj,hjn⟩:∃ j,P.info? T=some j/\j.size=n:=by
       unfold eR at hn
       simpa[Ut] using hn
      have hsz:cs.size=n:=by rw[hcs,<- hf rfl,hlen]
      refine⟨Lib.run_from_unsafe κ.w ⟨b,0,none⟩ hs hd hj (bL hg) ?_,.ptr _ _ b N hnm⟩
      show liesAt P P.depth T (cs.size / P.cellsOf T) 0 T 1=true
      rw[hsz];exact hl
   ·cases hr
  ·cases hr
 ·cases hr
theorem NO {t te:TypeId}{i:TypeInfo}{op:BinOp}{X Y:Operand}{x y v:AV}{ux uy:Value}{ng:Bool}(hop:(op = .eql/\ng=false)\/(op = .neq/\ng=true))(ht:P.underlying t=some (.pointer te))(hi:P.info? te=some i)(hx:ARel κ x ux)(hy:ARel κ y uy)(hr:K2 ng x y=some v) :
  ∃ z,(do eqGuard op t X Y ux uy;binOp op t ux uy:Sem Value).run P κ.w = .ok z κ.w/\ARel κ v z:=by
 unfold K2 at hr
 split at hr
 ·rename_i r o r' o'
  split at hr
  ·rename_i hh
   obtain⟨rfl,rfl⟩:=hh
   cases hr
   cases hx with
   | ptr _ _ b n h1=>
     cases hy with
     | ptr _ _ b' n' h2=>
       rw[h1] at h2;cases h2
       rcases hop with ⟨rfl,rfl⟩ | ⟨rfl,rfl⟩
       ·exact⟨.bool true,by simpa[eqGuard_at_pointer] using run_eql_ptr_same κ.w ⟨b,o,none⟩ ht hi,.pv _ _ (.bool _)⟩
       ·exact⟨.bool false,by simpa[eqGuard_at_pointer] using Lib.run_neq_ptr_same κ.w ⟨b,o,none⟩ ht hi,.pv _ _ (.bool _)⟩
  ·cases hr
 ·cases hr
theorem oH {w:World}(d:Nat){t:TypeId}{ps rs:Array TypeId}{vr:Bool}(hu:P.underlying t=some (.func ps rs vr))(f:Fn)(a b:Array Value):(Op.equalIn (d+1) t (.func f a b) .nilFunc).run P w = .ok false w:=by
 simp[Op.equalIn,run_underlying hu]
theorem oG {w:World}(d:Nat){t:TypeId}{ps rs:Array TypeId}{vr:Bool}(hu:P.underlying t=some (.func ps rs vr)):(Op.equalIn (d+1) t .nilFunc .nilFunc).run P w = .ok true w:=by
 simp[Op.equalIn,run_underlying hu]
theorem Iv {t:TypeId}{ps rs:Array TypeId}{vr:Bool}{op:BinOp}{X Y:Operand}{x y v:AV}{ux uy:Value}{ng:Bool}(hop:(op = .eql/\ng=false)\/(op = .neq/\ng=true))(ht:P.underlying t=some (.func ps rs vr))(hx:ARel κ x ux)(hy:ARel κ y uy)(hr:nF ng x y=some v) :
  ∃ z,(do eqGuard op t X Y ux uy;binOp op t ux uy:Sem Value).run P κ.w = .ok z κ.w/\ARel κ v z:=by
 have he:∀ b,(Op.equalIn (9999+1) t ux uy).run P κ.w = .ok b κ.w->((do pure (.bool (<- Op.equal t ux uy))):Sem Value).run P κ.w = .ok (.bool b) κ.w/\((do pure (.bool (!(<- Op.equal t ux uy)))):Sem Value).run P κ.w = .ok (.bool (!b)) κ.w:=by
  intro b h
  have hq:Op.equal t ux uy=Op.equalIn (9999+1) t ux uy:=rfl
  rw[hq];simp[h]
 unfold nF at hr
 split at hr
 ·cases hr
  obtain⟨f,vs,us,rfl⟩:∃ f vs us,ux = .func f vs us:=by cases aG hx;exact⟨_,_,_,rfl⟩
  cases aG hy
  obtain⟨h1,h2⟩:=he false (oH 9999 ht _ _ _)
  rcases hop with ⟨rfl,rfl⟩ | ⟨rfl,rfl⟩
  ·exact⟨.bool false,by simpa[eqGuard_at_func,binOp] using h1,.pv _ _ (.bool _)⟩
  ·exact⟨.bool true,by simpa[eqGuard_at_func,binOp] using h2,.pv _ _ (.bool _)⟩
 ·cases hr
  obtain⟨f,vs,us,rfl⟩:∃ f vs us,ux = .func f vs us:=by cases hx;exact⟨_,_,_,rfl⟩
  cases aG hy
  obtain⟨h1,h2⟩:=he false (oH 9999 ht _ _ _)
  rcases hop with ⟨rfl,rfl⟩ | ⟨rfl,rfl⟩
  ·exact⟨.bool false,by simpa[eqGuard_at_func,binOp] using h1,.pv _ _ (.bool _)⟩
  ·exact⟨.bool true,by simpa[eqGuard_at_func,binOp] using h2,.pv _ _ (.bool _)⟩
 ·cases hr
  cases aG hx
  cases aG hy
  obtain⟨h1,h2⟩:=he true (oG 9999 ht)
  rcases hop with ⟨rfl,rfl⟩ | ⟨rfl,rfl⟩
  ·exact⟨.bool true,by simpa[eqGuard_at_nilFunc,binOp] using h1,.pv _ _ (.bool _)⟩
  ·exact⟨.bool false,by simpa[eqGuard_at_nilFunc,binOp] using h2,.pv _ _ (.bool _)⟩
 ·cases hr
theorem mC {w:World}(d:Nat){t:TypeId}{ms:Array (String×TypeId)}(hu:P.underlying t=some (.interface ms)):(Op.equalIn (d+1) t .nilIface .nilIface).run P w = .ok true w:=by
 simp[Op.equalIn,run_underlying hu]
theorem wI {w:World}(d:Nat){t T:TypeId}{v:Value}{ms:Array (String×TypeId)}(hu:P.underlying t=some (.interface ms)):(Op.equalIn (d+1) t (.iface T v) .nilIface).run P w = .ok false w:=by
 simp[Op.equalIn,run_underlying hu]
theorem Rv {T:TypeId}{d:TypeDesc}{x v:AV}{u:Value}(ht:P.underlying T=some d)(hd:∀ ms,d≠.interface ms)(hx:ARel κ x u)(hr:Q2 T x=some v) :
  ∃ z,(Instr.makeInterface T u).run P κ.w = .ok z κ.w/\ARel κ v z:=by
 simp only[Q2,Ut] at hr
 obtain⟨p,hp,rfl⟩:=hr
 refine⟨.iface T u,?_,.pv _ _ (.iface _ _ _ (bI hp hx))⟩
 simp only[Instr.makeInterface,Sem.run_bind,run_underlying ht]
 cases d with
 | interface ms=>exact absurd rfl (hd ms)
 | _=>rfl
theorem Iu {t:TypeId}{ms:Array (String×TypeId)}{op:BinOp}{X:Operand}{cv:Value}{x y v:AV}{ux uy:Value}{ng:Bool}(hop:(op = .eql/\ng=false)\/(op = .neq/\ng=true))(ht:P.underlying t=some (.interface ms))(hx:ARel κ x ux)(hy:ARel κ y uy)(hr:Fv ng x y=some v) :
  ∃ z,(do eqGuard op t X (.const cv) ux uy;binOp op t ux uy:Sem Value).run P κ.w = .ok z κ.w/\ARel κ v z:=by
 have he:∀ b,(Op.equalIn (9999+1) t ux uy).run P κ.w = .ok b κ.w->((do pure (.bool (<- Op.equal t ux uy))):Sem Value).run P κ.w = .ok (.bool b) κ.w/\((do pure (.bool (!(<- Op.equal t ux uy)))):Sem Value).run P κ.w = .ok (.bool (!b)) κ.w:=by
  intro b h
  have hq:Op.equal t ux uy=Op.equalIn (9999+1) t ux uy:=rfl
  rw[hq];simp[h]
 unfold Fv at hr
 split at hr
 ·cases hr
  cases aG hx
  cases aG hy
  obtain⟨h1,h2⟩:=he true (mC 9999 ht)
  rcases hop with ⟨rfl,rfl⟩ | ⟨rfl,rfl⟩
  ·refine⟨.bool true,?_,.pv _ _ (.bool _)⟩
   have hg:eqGuard .eql t X (.const cv) .nilIface .nilIface=pure ():=by simp[eqGuard]
   rw[hg];simpa[binOp] using h1
  ·refine⟨.bool false,?_,.pv _ _ (.bool _)⟩
   have hg:eqGuard .neq t X (.const cv) .nilIface .nilIface=pure ():=by simp[eqGuard]
   rw[hg];simpa[binOp] using h2
 ·cases hr
  obtain⟨T,w,rfl⟩:∃ T w,ux = .iface T w:=by cases aG hx;exact⟨_,_,rfl⟩
  cases aG hy
  obtain⟨h1,h2⟩:=he false (wI 9999 ht)
  rcases hop with ⟨rfl,rfl⟩ | ⟨rfl,rfl⟩
  ·refine⟨.bool false,?_,.pv _ _ (.bool _)⟩
   have hg:eqGuard .eql t X (.const cv) (.iface T w) .nilIface=pure ():=by simp[eqGuard]
   rw[hg];simpa[binOp] using h1
  ·refine⟨.bool true,?_,.pv _ _ (.bool _)⟩
   have hg:eqGuard .neq t X (.const cv) (.iface T w) .nilIface=pure ():=by simp[eqGuard]
   rw[hg];simpa[binOp] using h2
 ·cases hr
theorem lz (c:UInt8):∀ (l:List UInt8) (k:Nat),Ng c l k=(match (U1 l.length).find? fun i=>l.getD i 0 == c with
  | some i=>((i+k:Nat):Int)
  | none=>-1)
 | [],k=>rfl
 | b::r,k=>by
   have ih:=lz c r (k+1)
   rw[UC,Lib.find_range_succ]
   simp only[Ng,List.getD_cons_zero,List.getD_cons_succ]
   by_cases h:(b == c)=true
   ·simp[h]
   ·rw[if_neg h,if_neg h,ih]
    cases (U1 r.length).find? fun i=>r.getD i 0 == c with
    | none=>rfl
    | some i=>simp only[UM];congr 1;omega
theorem L2 (c:UInt8)(s:ByteArray):firstIdx s c=Ng c s.data.toList 0:=by
 rw[lz]
 have hl:s.data.toList.length=s.size:=by simp
 have hp:∀ i,i∈U1 s.size->(s[i]! == c)=(s.data.toList.getD i 0 == c):=by
  intro i hi
  have hi':i<s.size:=List.mem_range.1 hi
  have:s[i]! = s.data.toList.getD i 0:=by
   have h2:i<s.data.size:=hi'
   rw[getElem!_pos s i hi']
   simp only[Uv,Array.getElem?_toList]
   rw[Vq h2]
   rfl
  rw[this]
 unfold firstIdx
 rw[hl]
 have:(U1 s.size).find? (fun i=>s[i]! == c)=(U1 s.size).find? (fun i=>s.data.toList.getD i 0 == c):=by
  clear hl
  generalize U1 s.size=R at hp
  induction R with
  | nil=>rfl
  | cons a r ih=>
    rw[List.find?_cons,List.find?_cons,hp a (by simp),ih (fun i hi=>hp i (by simp[hi]))]
 rw[this]
 cases (U1 s.size).find? fun i=>s.data.toList.getD i 0 == c<;>rfl
theorem JW {ts:Array TypeId}{ty:TypeId}{x v:AV}{u:Value}(hx:ARel κ x u)(hr:gl x=some v) :
  ∃ z,(Builtin.unsafeSliceData_ ts ty #[u]).run P κ.w = .ok z κ.w/\ARel κ v z:=by
 unfold gl at hr
 split at hr
 ·cases hr
  cases aG hx
  exact⟨.pointer none,rfl,.pv _ _ .nilp⟩
 ·split at hr
  ·rename_i r s off len h
   cases hr
   cases hx with
   | row0=>omega
   | row _ _ _ _ b n cap hn h1 h0 h2 h3=>
     have hc:cap≠0:=by omega
     refine⟨.pointer (some ⟨b,off,none⟩),?_,.ptr _ _ b n hn⟩
     have e:∀ y:Sem Value,(if cap≠0 then (pure (Value.pointer (some ⟨b,off,none⟩)):Sem Value) else y)=pure (Value.pointer (some ⟨b,off,none⟩)):=fun y=>if_pos hc
     exact (congrArg (fun q:Sem Value=>Sem.run P q κ.w) (e _)).trans rfl
  ·cases hr
 ·cases hr
theorem yJ:∀ {ps:List PV} {l:List UInt8},u8x ps=some l->ps=aX l
 | [],l,h=>by simp[u8x] at h;subst h;rfl
 | p::r,l,h=>by
   cases p with
   | int k n=>
     cases k<;>simp only[u8x] at h<;>first | cases h | skip
     split at h
     ·rename_i hn
      split at h
      ·rename_i q hq
       cases h
       have ih:=yJ hq
       simp only[aX,UQ]
       rw[<- aX,<- ih]
       congr 2
       simp only[UInt8.toNat_ofNat']
       omega
      ·cases h
     ·cases h
   | _=>simp[u8x] at h
theorem lA (w:World)(b:Nat)(cs:Array Value)(T:Nat)(fz:Nat×Nat)(n:Nat)(h:w.heap[b]? = some (.cells cs T fz)):∃ fz',(w.freeze ⟨b,0,none⟩ n).heap[b]? = some (.cells cs T fz'):=by
 unfold World.freeze
 by_cases hn:n=0
 ·rw[if_pos hn];exact⟨_,h⟩
 ·rw[if_neg hn]
  obtain⟨lo,hi⟩:=fz
  simp only[Array.getElem?_modify,if_true,h,UM]
  exact⟨_,rfl⟩
theorem ow {w:World}{b j:Nat}{cs:Array Value}{T:Nat}{fz:Nat×Nat}{v:Value}(hg:w.heap[b]? = some (.cells cs T fz))(h:w.cell? ⟨b,j,none⟩=some v):cs.getD j Go.undef=v:=by
 simp only[World.cell?,hg] at h
 rw[Uw]
 simp at h
 simp[h]
theorem NK {pt it ty e:TypeId}{x y v:AV}{ux uy:Value}{δ:List (Nat×Blk)}{new:Nat}(hS:SRel c κ σ)(hp:P.underlying pt=some (.pointer e))(hc:P.cellsOf e=1)(hx:ARel κ x ux)(hy:ARel κ y uy)(hr:nC e σ x y=some (v,δ)) :
  ∃ z w',(Builtin.unsafeString_ #[pt,it] ty #[ux,uy]).run P κ.w = .ok z w'/\ARel ⟨w',κ.nm,κ.imm⟩ v z/\Done c κ ⟨w',κ.nm,κ.imm⟩ new/\SRel c ⟨w',κ.nm,κ.imm⟩ (σ.upd δ):=by
 unfold nC at hr
 split at hr
 ·rename_i r o k
  unfold Jt at hr
  split at hr
  ·rename_i T f l hσ
   split at hr
   ·rename_i hh
    obtain⟨rfl,rfl,hk0,hkl,hkm⟩:=hh
    unfold A9 at hr
    split at hr
    ·rename_i bs hbs
     cases hr
     rw[VG] at hbs
     obtain⟨ps,hps,hbs⟩:=hbs
     have hpb:=yJ hbs
     have hpl:=bT hps
     obtain rfl:=aV hy
     cases hx with
     | ptr _ _ b n hnm=>
       obtain⟨cs,hg,hcs,hln,_,himm,hrel,hcell⟩:=bJ hS hσ hnm
       have hlen:bs.length=k.toNat:=by
        have:ps.length=bs.length:=by rw[hpb];simp[aX]
        rw[<- this,hpl];simp;omega
       have hkk:k=(bs.length:Int):=by omega
       have hrd:∀ j x,bs[j]? = some x->κ.w.cell? ((⟨b,0,none⟩:Addr).add j)=some (.int .u8 x.toNat):=by
        intro j x hj
        have h1:ps[j]? = some (.int .u8 (x.toNat:Int)):=by rw[hpb];simp[aX,hj]
        obtain⟨y,hy1,hy2⟩:=cB hps j _ h1
        have hjk:j<k.toNat:=by rw[<- hlen];exact (Ur.1 hj).1
        rw[UL,if_pos hjk] at hy1
        obtain⟨u,hu1,hu2⟩:=hcell j y hy1
        have hpv:=bI hy2 hu2
        rw[Addr.add_lit,UN,hu1]
        cases hpv
        rfl
       have hrun:=Lib.run_unsafeString_row (P:=P) κ.w pt it ty T hp hc b cs.size (bL hg) bs (by intro h;rw[h] at hlen;simp at hlen;omega) (by omega) (by omega) hrd
       rw[<- hkk] at hrun
       have hne:bs.length≠0:=by omega
       have hheap:∀ b',b'≠b->(κ.w.freeze ⟨b,0,none⟩ bs.length).heap[b']? = κ.w.heap[b']?:=by
        intro b' hb'
        simp only[World.freeze,if_neg hne]
        rw[Array.getElem?_modify]
        simp[Ne.symm hb']
       obtain⟨k1,k2⟩:=uu hS (r0:=r) (b0:=b) (d0:=.blk b n) (Bo:=.bts T bs) (w':=κ.w.freeze ⟨b,0,none⟩ bs.length) new
        (by simp[World.freeze,hne]) (by simp[World.freeze,hne]) (by simp[World.freeze,hne]) (by simp[World.freeze,hne]) hheap himm (by rw[hσ];simp) hnm rfl
       obtain⟨fz',hfz⟩:=lA (κ.w) b cs T (0,0) bs.length hg
       refine⟨_,_,hrun,?_,k1,k2 ⟨b,n,cs,fz',hnm,hfz,hcs,by rw[<- hlen] at hkl;omega,fun j x hj=>?_,himm⟩⟩
       ·have hsz:(⟨bs.toArray⟩:ByteArray).size<=maxLen:=by
         show bs.toArray.size<=maxLen
         simp only[VB,maxLen];omega
        have:=PRel.str (w:=κ.w.freeze ⟨b,0,none⟩ bs.length) (imm:=κ.imm) ⟨bs.toArray⟩ hsz
        simpa using ARel.pv (κ:=⟨κ.w.freeze ⟨b,0,none⟩ bs.length,κ.nm,κ.imm⟩) _ _ this
       ·exact ow hg (by have:=hrd j x hj;rwa [Addr.add_lit,UN] at this)
    ·cases hr
   ·cases hr
  ·rename_i T l hσ
   split at hr
   ·rename_i hh
    obtain⟨rfl,rfl,hk0,hkl,hkm⟩:=hh
    cases hr
    obtain rfl:=aV hy
    cases hx with
    | ptr _ _ b n hnm=>
      have hB:=hS.blk r
      rw[hσ] at hB
      obtain⟨b',n',cs,fz,h1,hg,hcs,hln,hcell,himm⟩:=hB
      rw[hnm] at h1;cases h1
      have hrd:∀ j x,l[j]? = some x->κ.w.cell? ((⟨b,0,none⟩:Addr).add j)=some (.int .u8 x.toNat):=by
       intro j x hj
       rw[Addr.add_lit,UN]
       have hj':j<cs.size:=by rw[hcs];exact Nat.lt_of_lt_of_le (Ur.1 hj).1 hln
       have:=hcell j x hj
       rw[Uw,Vq hj'] at this
       simp only[Vb] at this
       simp[World.cell?,hg,hj',this]
      have hrun:=Lib.run_unsafeString_row (P:=P) κ.w pt it ty T hp hc b cs.size (bL hg) l (by intro h;rw[h] at hkl;simp at hkl;omega) (by omega) (by omega) hrd
      rw[<- hkl] at hrun
      have hne:l.length≠0:=by omega
      have hheap:∀ b',b'≠b->(κ.w.freeze ⟨b,0,none⟩ l.length).heap[b']? = κ.w.heap[b']?:=by
       intro b' hb'
       simp only[World.freeze,if_neg hne]
       rw[Array.getElem?_modify]
       simp[Ne.symm hb']
      obtain⟨k1,k2⟩:=uu hS (r0:=r) (b0:=b) (d0:=.blk b n) (Bo:=.bts T l) (w':=κ.w.freeze ⟨b,0,none⟩ l.length) new
       (by simp[World.freeze,hne]) (by simp[World.freeze,hne]) (by simp[World.freeze,hne]) (by simp[World.freeze,hne]) hheap himm (by rw[hσ];simp) hnm rfl
      obtain⟨fz',hfz⟩:=lA (κ.w) b cs T fz l.length hg
      refine⟨_,_,hrun,?_,k1,k2 ⟨b,n,cs,fz',hnm,hfz,hcs,hln,hcell,himm⟩⟩
      have hsz:(⟨l.toArray⟩:ByteArray).size<=maxLen:=by
       show l.toArray.size<=maxLen
       simp only[VB,maxLen];omega
      have:=PRel.str (w:=κ.w.freeze ⟨b,0,none⟩ l.length) (imm:=κ.imm) ⟨l.toArray⟩ hsz
      simpa using ARel.pv (κ:=⟨κ.w.freeze ⟨b,0,none⟩ l.length,κ.nm,κ.imm⟩) _ _ this
   ·cases hr
  ·cases hr
 ·rename_i k
  split at hr
  ·rename_i hk
   subst hk
   cases hr
   cases aG hx
   obtain rfl:=aV hy
   refine⟨_,κ.w,Lib.run_unsafeString_none κ.w pt it ty none,?_,Done.same c κ new,hS⟩
   exact .pv _ _ (.str .empty (by simp[maxLen]))
  ·cases hr
 ·cases hr
theorem Dw (s:ByteArray):eO κ 1 (aX s.data.toList) (Lib.strCells s):=by
 refine⟨by simp[Lib.strCells,aX],fun i x hx=>?_,fun i x j y hx hy=>?_⟩
 ·simp only[aX,UE,Ut] at hx
  obtain⟨b,_,rfl⟩:=hx
  rfl
 ·simp only[aX,UE,Ut] at hx
  obtain⟨b,hb,rfl⟩:=hx
  have hj:j=0/\y = .int .u8 (b.toNat:Int):=by
   cases j with
   | zero=>simp[PV.cells] at hy;exact⟨rfl,hy.symm⟩
   | succ j=>simp[PV.cells] at hy
  obtain⟨rfl,rfl⟩:=hj
  have e:(Lib.strCells s).getD (i*1+0) Go.undef = .int .u8 (b.toNat:Int):=by
   simp[Lib.strCells,Uv,hb]
  rw[e]
  exact⟨.int _ _,rfl⟩
theorem iH (w:World)(t u ty e:TypeId)(i:TypeInfo)(bytes:Nat)(ht:P.underlying t=some (.slice e))(hu:P.underlying u=some .string)(hi:P.info? e=some i)(hz:i.zero=some (.int .u8 0))
  (hsize:i.size=1) (hby:i.bytes=bytes) (v:Value) (n:Nat) (xs:List Value) (hown:w.ownsRow 0 e 1 v n xs) (s:ByteArray) (h63:n+s.size<=maxLen) (hbytes:(n+s.size)*bytes<=140737488355328) :
  ∃ v' w',(Builtin.append_ #[t,u] ty #[v,.string s]).run P w = .ok v' w' /\
    ((s.size=0/\v'=v/\w'=w) \/
     (0 < s.size/\∃ g cap cur,v = .slice (some ⟨g,0,none⟩) n cap/\w.heap[g]? = some (.cells cur e (0,0))/\n+s.size<=cap/\cap<=maxLen/\cur.size=cap*1/\cur.toList.take (n*1)=xs /\
        v' = .slice (some ⟨g,0,none⟩) (n+s.size) cap/\w'=w.setRow g (cur.toList.take (n*1)++Lib.strCells s++cur.toList.drop (n*1+(Lib.strCells s).length)).toArray) \/
     (0<s.size/\∃ cs cap,v' = .slice (some ⟨w.heap.size,0,none⟩) (n+s.size) cap/\w'=w.drew.alloc (.cells cs e)/\n+s.size<=cap/\cap<=maxLen/\cs.size=cap*1/\cs.toList.take ((n+s.size)*1)=xs++Lib.strCells s)):=by
 subst hby
 have hxl:xs.length=n:=by simpa using hown.1
 have hlen:(xs++Lib.strCells s).length=(n+s.size)*1:=by rw[Uy,hxl,Lib.strCells_length,Nat.mul_one]
 have hsmall:n+s.size<=9223372036854775807:=by simp only[maxLen] at h63;omega
 have grown:∀ (old:Nat),old<n+s.size ->
   n+s.size<=grownCap w (n+s.size) old e/\grownCap w (n+s.size) old e<=maxLen /\
   (xs.toArray++(Lib.strCells s).toArray++Builtin.zeroCells (Value.int .u8 0).cells (grownCap w (n+s.size) old e - (n+s.size))).size=grownCap w (n+s.size) old e*1 /\
   (xs.toArray++(Lib.strCells s).toArray++Builtin.zeroCells (Value.int .u8 0).cells (grownCap w (n+s.size) old e - (n+s.size))).toList.take ((n+s.size)*1)=xs++Lib.strCells s:=by
  intro old ho
  have hge:=grownCap_ge w (n+s.size) old e
  refine⟨hge,grownCap_le_maxLen w (n+s.size) old e h63,?_,?_⟩
  ·have hz1:(Value.int IntKind.u8 0).cells.size=1:=rfl
   simp only[Array.size_append,VB,size_zeroCells,hz1,hxl,Lib.strCells_length]
   omega
  ·simp only[Array.toList_append,UB]
   rw[<- UB,<- hlen]
   exact List.take_left
 by_cases hm:s.size=0
 ·have hn:Lib.strCells s=[]:=UG (by rw[Lib.strCells_length];exact hm)
  have hf:=Lib.run_firstCells_string (P:=P) w 1 s
  rw[hm,hn] at hf
  refine⟨v,w,?_,.inl ⟨hm,rfl,rfl⟩⟩
  rcases hown.2 with ⟨rfl,rfl⟩ | ⟨g,cap,cur,rfl,hbg,hg,hnc,hcm,hcs,htake⟩
  ·simp[Builtin.append_,run_underlying ht,run_underlying hu,sizeOf,typeInfo,hi,hsize,Builtin.lenOf,hm,hf]
  ·simp[Builtin.append_,run_underlying ht,run_underlying hu,sizeOf,typeInfo,hi,hsize,Builtin.lenOf,hm,hf,hnc,storeCells]
 ·rcases hown.2 with ⟨rfl,rfl⟩ | ⟨g,cap,cur,rfl,hbg,hg,hnc,hcm,hcs,htake⟩
  ·have hx:xs=[]:=UG hxl
   subst hx
   have hr:=run_append_nil_string (P:=P) w t u ty e i (.int .u8 0) ht hu hi hz s (by omega) (by omega) (by have hb:=hbytes;simp only[UN] at hb;omega)
   have hgr:=grown 0 (by omega)
   simp only[UN,UV,Array.empty_append] at hgr ⊢
   have e1:(s.data.map fun b=>Value.int .u8 b.toNat)=(Lib.strCells s).toArray:=by
    apply Array.ext'
    simp[Lib.strCells]
   rw[e1] at hr
   exact⟨_,_,hr,.inr (.inr ⟨by omega,_,_,rfl,rfl,hgr.1,hgr.2.1,hgr.2.2.1,hgr.2.2.2⟩)⟩
  ·by_cases hroom:n+s.size<=cap
   ·have hcs':cur.size=cap:=by simpa using hcs
    have hr:=Lib.run_append_room_string (P:=P) w t u ty e i ht hu hi hsize g n cap cur hg s hroom (by omega)
    refine⟨_,_,hr,.inr (.inl ⟨by omega,g,cap,cur,rfl,hg,hroom,hcm,hcs,htake,rfl,?_⟩)⟩
    rw[Nat.mul_one,Lib.strCells_length]
   ·have holds:∀ j x,xs[j]? = some x->w.cell? ((⟨g,0,none⟩:Addr).add j)=some x:=hown.cells (g:=g) rfl
    have hr:=Lib.run_append_grow_string (P:=P) w t u ty e i (.int .u8 0) ht hu hi hz ⟨g,0,none⟩ n cap xs (by rw[hsize];omega) holds s (by omega) (by omega) (growslice_fits (by omega) hbytes)
    have hgr:=grown cap (by omega)
    exact⟨_,_,hr,.inr (.inr ⟨by omega,_,_,rfl,rfl,hgr.1,hgr.2.1,hgr.2.2.1,hgr.2.2.2⟩)⟩
theorem N5 {e sz by_ new m:Nat}{x v:AV}{ux:Value}{ys:List PV}{news:List Value}{δ:List (Nat×Blk)}(A:Value->Sem Value)(hS:SRel c κ σ)(hw:c.w0.heap.size<=κ.w.heap.size)(hn:κ.nm new=none)
  (hm:m=ys.length) (hrow:eO κ sz ys news)
  (hA:∀ (v:Value) (n:Nat) (xs:List Value),κ.w.ownsRow 0 e sz v n xs->n+m<=maxLen->(n+m)*by_<=140737488355328->∃ v' w',(A v).run P κ.w = .ok v' w' /\
   ((m=0/\v'=v/\w'=κ.w) \/
    (0 < m/\∃ g cap cur,v = .slice (some ⟨g,0,none⟩) n cap/\κ.w.heap[g]? = some (.cells cur e (0,0))/\n+m<=cap/\cap<=maxLen/\cur.size=cap*sz/\cur.toList.take (n*sz)=xs /\
       v' = .slice (some ⟨g,0,none⟩) (n+m) cap/\w'=κ.w.setRow g (cur.toList.take (n*sz)++news++cur.toList.drop (n*sz+news.length)).toArray) \/
    (0<m/\∃ cs cap,v' = .slice (some ⟨κ.w.heap.size,0,none⟩) (n+m) cap/\w'=κ.w.drew.alloc (.cells cs e)/\n+m<=cap/\cap<=maxLen/\cs.size=cap*sz/\cs.toList.take ((n+m)*sz)=xs++news)))
  (hx:ARel κ x ux) (hr:I5 e sz by_ new σ x ys=some (v,δ)) :
  ∃ u κ',(A ux).run P κ.w = .ok u κ'.w/\ARel κ' v u/\Done c κ κ' new/\SRel c κ' (σ.upd δ):=by
 obtain⟨hfl,hfr⟩:=mA hrow
 unfold I5 at hr
 split at hr
 ·-- onto nil
  have hux:ux = .slice none 0 0:=by cases aG hx;rfl
  subst hux
  split at hr
  ·cases hr
   obtain⟨v',w',h1,h2⟩:=hA (.slice none 0 0) 0 [] (World.ownsRow_nil _ _ _ _) (by rw[hm];simp) (by rw[hm];simp)
   rcases h2 with ⟨_,rfl,rfl⟩ | ⟨h0,_⟩ | ⟨h0,_⟩
   ·exact⟨_,κ,h1,.pv _ _ .nils,Done.same c κ new,by simpa[pN] using hS⟩
   ·simp at hm;omega
   ·simp at hm;omega
  ·rename_i y0 r
   split at hr
   ·rename_i hroom
    cases hr
    obtain⟨k1,k2⟩:=fT hroom
    simp only[UC] at hm
    subst hm
    obtain⟨v',w',h1,h2⟩:=hA (.slice none 0 0) 0 [] (World.ownsRow_nil _ _ _ _) k1 k2
    rcases h2 with ⟨h0,_⟩ | ⟨_,g,cap,cur,h0,_⟩ | ⟨_,cs,cap,rfl,rfl,q1,q2,q3,q4⟩
    ·omega
    ·cases h0
    ·simp only[UN,UV] at q1 q4
     have hnl:news.length=(r.length+1)*sz:=hrow.1
     have hle:(r.length+1)*sz<=cap*sz:=UA _ q1
     obtain⟨κ',e1,e2,e3,e4⟩:=bM (T:=e) (f:=false) (l:=cn (y0::r)) hS hw hn (by omega) (fun h=>by cases h) (dy q4 (by omega) hfr) κ.w.drew rfl rfl rfl rfl
     refine⟨_,κ',by rw[h1,e1],?_,e3,e4⟩
     simp only[UN]
     exact .row _ _ _ _ _ _ cap e2 (by omega) (fun _=>q3.symm) q1 q2
   ·cases hr
 ·-- onto a row of the call's own
  rename_i q s off len
  split at hr
  ·rename_i e' f lw hσ
   split at hr
   ·rename_i hh
    obtain⟨rfl,rfl,rfl,hllw,hroom⟩:=hh
    cases hr
    obtain⟨k1,k2⟩:=fT hroom
    subst hm
    cases hx with
    | row0 _ _ hnm=>
      have hB:=hS.blk q
      rw[hσ] at hB
      obtain⟨rfl,rfl⟩:f=false/\lw=[]:=by
       rcases hB with ⟨h1,h2,_⟩ | ⟨_,_,_,h1,_⟩
       ·exact⟨h1,h2⟩
       ·rw[hnm] at h1;cases h1
      obtain⟨v',w',h1,h2⟩:=hA (.slice none 0 0) 0 [] (World.ownsRow_nil _ _ _ _) k1 k2
      rw[List.take_nil,UV,UN]
      rcases h2 with ⟨h0,rfl,rfl⟩ | ⟨_,g,cap,cur,h0,_⟩ | ⟨_,cs,cap,rfl,rfl,q1,q2,q3,q4⟩
      ·have hys0:ys=[]:=UG h0
       subst hys0
       obtain⟨h3,h4,h5⟩:=mT (hS.drop q) hn e' s
       exact⟨_,⟨κ.w,fun r=>if r=new then some (.own (.slice none 0 0)) else κ.nm r,κ.imm⟩,h1,h5,h3,h4⟩
      ·exact absurd h0 (by simp)
      ·simp only[UN,UV] at q1 q4
       have hnl:news.length=ys.length*s:=hrow.1
       have hle:ys.length*s<=cap*s:=UA _ q1
       obtain⟨κ',e1,e2,e3,e4⟩:=bM (T:=e') (f:=false) (l:=cn ys) (hS.drop q) hw hn (by omega) (fun h=>by cases h) (dy q4 (by omega) hfr) κ.w.drew rfl rfl rfl rfl
       refine⟨_,κ',by rw[h1,e1],?_,e3,e4⟩
       rw[UN]
       exact .row _ _ _ _ _ _ cap e2 (by omega) (fun _=>q3.symm) q1 q2
    | row _ _ _ _ b N cap hnm h5 h6 h7 h8=>
      obtain⟨cur,hg,hcs,hlnw,hf,himm,hrelw,hcell⟩:=bJ hS hσ hnm
      obtain⟨l,hl0,hll,hln,hrel⟩:∃ l,lw.take (len*s)=l/\l.length=len*s/\l.length<=N/\∀ (i:Nat) (x:AV),l[i]? = some x->ARel κ x (cur.getD i Go.undef):=by
       refine⟨_,rfl,by simp;omega,by simp;omega,fun i x hx=>?_⟩
       rw[UL] at hx
       split at hx
       ·exact hrelw i x hx
       ·cases hx
      rw[hl0]
      have hcap:=h6 rfl
      have hown:κ.w.ownsRow 0 e' s (.slice (some ⟨b,0,none⟩) len cap) len (cur.toList.take (len*s)):=by
       refine⟨?_,.inr ⟨b,cap,cur,rfl,Vn _,hg,h7,h8,by omega,rfl⟩⟩
       simp;rw[hcs,<- hcap];exact Nat.min_eq_left (UA _ h7)
      have hxl:(cur.toList.take (len*s)).length=len*s:=hown.1
      have hlrel:∀ (i:Nat) (x:AV),l[i]? = some x->ARel κ x ((cur.toList.take (len*s)).getD i Go.undef):=by
       intro i x hx
       have hi:i<l.length:=(Ur.1 hx).1
       have:=hrel i x hx
       rw[aA] at this
       rw[Uv,UL,if_pos (by omega),<- Uv]
       exact this
      have hall:=fp (κ:=κ) (by omega) hlrel hfr
      have hlen2:(l++cn ys).length=(len+ys.length)*s:=by
       have:news.length=ys.length*s:=hrow.1
       rw[Uy,hfl,this,hll,Nat.add_mul]
      have hlen3:(l++cn ys).length=len*s+news.length:=by rw[Uy,hfl,hll]
      obtain⟨v',w',h1,h2⟩:=hA _ _ _ hown k1 k2
      have hb0:∀ b',some b=some b'->σ q≠.none/\∃ d,κ.nm q=some d/\d.block=some b':=fun b' hb=>⟨by rw[hσ];simp,_,hnm,hb⟩
      rcases h2 with ⟨h0,rfl,rfl⟩ | ⟨_,g',cap',cur',h0,hg',q1,q2,q3,q4,rfl,rfl⟩ | ⟨_,cs,cap',rfl,rfl,q1,q2,q3,q4⟩
      ·have hys0:ys=[]:=UG h0
       subst hys0
       obtain⟨h3,h4⟩:=uw (d:=.blk b N) (Bn:=.cells e' false (l++cn [])) (q:=fun _ _=>False) (b':=b) (b0:=some b) (r0:=q) hS hw ⟨rfl,rfl,rfl,UI _,fun _ _ _=>rfl⟩ hn rfl (.inl rfl) (fun _ _ h=>h.elim) (fun _ _ _ h=>h) (fun _ _ _ _ _ h=>h) hb0
       refine⟨_,(⟨κ.w,fun r=>if r=new then some (Den.blk b N) else κ.nm r,fun b o=>κ.imm b o\/False⟩:Kap),h1,?_,h3,h4 (.inr ⟨b,N,cur,by simp,hg,hcs,?_,fun h=>(by cases h),fun i x hx=>?_,fun o hi=>hi.elim (himm o) id⟩)⟩
       ·exact .row _ _ _ _ b N cap (by simp) h5 h6 (by simpa using h7) h8
       ·simp[cn];omega
       ·have hx':l[i]? = some x:=by simpa[cn] using hx
        exact (hrel i x hx').ext h3.ext
      ·cases h0
       rw[hg] at hg';cases hg'
       have hnl2:news.length=ys.length*s:=hrow.1
       have hcl:cur.toList.length=cur.size:=by simp
       have hfit:len*s+news.length<=cur.toList.length:=by
        rw[hnl2,hcl,q3,<- Nat.add_mul];exact UA _ q1
       have hgrow:κ.w.grownBy (κ.w.setRow b (cur.toList.take (len*s)++news++cur.toList.drop (len*s+news.length)).toArray) (some b):=
        ⟨rfl,rfl,rfl,by simp,fun k _ hk=>setRow_other κ.w b k _ (fun h=>hk (by rw[h]))⟩
       have hnewrow:=setRow_heap κ.w b cur (cur.toList.take (len*s)++news++cur.toList.drop (len*s+news.length)).toArray e' (0,0) hg
       have htk:=lV cur.toList (len*s) 0 news _ rfl hfit
       obtain⟨h3,h4⟩:=uw (d:=.blk b N) (Bn:=.cells e' false (l++cn ys)) (q:=fun _ _=>False) (b':=b) (b0:=some b) (r0:=q) hS hw hgrow hn rfl (.inl rfl)
        (fun _ _ h=>h.elim) (fun o _ ho=>absurd ho (himm o)) (fun b' o _ hb ho=>by cases hb;exact absurd ho (himm o)) hb0
       refine⟨_,_,h1,.row _ _ _ _ b N cap (by simp) h5 h6 q1 h8,h3,h4 (.inr ⟨b,N,_,by simp,hnewrow,?_,?_,fun h=>(by cases h),?_,fun o hi=>hi.elim (himm o) id⟩)⟩
       ·simp only[VB,Uy,UJ,List.length_drop];omega
       ·rw[hlen2,<- hcap];exact UA _ q1
       ·have hz:=dy (κ:=κ) (l:=l++cn ys) (cs:=(cur.toList.take (len*s)++news++cur.toList.drop (len*s+news.length)).toArray) (n:=len*s+news.length) (by simpa using htk) (by rw[hlen3];exact UI _) hall
        exact fun i x hx=>(hz i x hx).ext h3.ext
      ·obtain⟨κ',e1,e2,e3,e4⟩:=bM (T:=e') (f:=false) (l:=l++cn ys) (hS.drop q) hw hn (by rw[hlen2,q3];exact UA _ q1) (fun h=>by cases h) (dy q4 (by omega) hall) κ.w.drew rfl rfl rfl rfl
       exact⟨_,κ',by rw[h1,e1],.row _ _ _ _ _ _ cap' e2 (by omega) (fun _=>q3.symm) q1 q2,e3,e4⟩
   ·cases hr
  ·cases hr
 ·cases hr
theorem N4 {t tu ty e by_ new:Nat}{x y v:AV}{ux uy:Value}{δ:List (Nat×Blk)}(hS:SRel c κ σ)(hw:c.w0.heap.size<=κ.w.heap.size)(hn:κ.nm new=none)(hbr:rL P t=some (e,by_))(htu:P.underlying tu=some .string)
  (hx:ARel κ x ux) (hy:ARel κ y uy) (hr:kw e by_ new σ x y=some (v,δ)) :
  ∃ u κ',(Builtin.append_ #[t,tu] ty #[ux,uy]).run P κ.w = .ok u κ'.w/\ARel κ' v u/\Done c κ κ' new/\SRel c κ' (σ.upd δ):=by
 obtain⟨hu,i,hi,hz,hsz,hby⟩:P.underlying t=some (.slice e)/\∃ i,P.info? e=some i/\i.zero=some (.int .u8 0)/\i.size=1/\i.bytes=by_:=by
  unfold rL at hbr
  split at hbr
  ·rename_i e' hu
   split at hbr
   ·rename_i i hi
    split at hbr
    ·rename_i z hz
     split at hbr
     ·rename_i hh
      cases hbr
      exact⟨hu,i,hi,by rw[hz,hh.1],hh.2,rfl⟩
     ·cases hbr
    ·cases hbr
   ·cases hbr
  ·cases hbr
 unfold kw at hr
 split at hr
 ·rename_i k
  obtain⟨s,rfl,rfl,hm⟩:=d9 hy
  exact N5 (m:=s.size) (fun v=>Builtin.append_ #[t,tu] ty #[v,.string s]) hS hw hn (by simp[aX]) (Dw s)
   (fun v n xs hown h63 hb=>iH κ.w t tu ty e i by_ hu htu hi hz hsz hby v n xs hown s h63 hb) hx hr
 ·cases hr
theorem pi (w:World)(cs:Array Value)(e:TypeId)(n:Nat):(w.alloc (.cells cs e)).freeze ⟨w.heap.size,n,none⟩ 1=w.alloc (.cells cs e (n,n+1)):=by
 simp only[World.freeze,World.alloc,if_neg (by omega:¬ 1=0)]
 congr 1
 apply Array.ext
 ·simp
 ·intro i h1 h2
  simp only[Array.getElem_modify,Array.getElem_push]
  by_cases hi:i<w.heap.size
  ·have:¬ w.heap.size=i:=by omega
   simp[hi,this]
  ·have:w.heap.size=i:=by simp at h2;omega
   simp[this]
theorem Ro (hS:SRel c κ σ){r0 b0:Nat}{d0:Den}{w':World}(new:Nat)
  (hos:w'.os=κ.w.os) (htape:w'.tape=κ.w.tape) (hout:w'.output=κ.w.output) (hsize:w'.heap.size=κ.w.heap.size)
  (hblock:∀ b,b≠b0->w'.heap[b]? = κ.w.heap[b]?) (hkeep:∀ o v,κ.w.cell? ⟨b0,o,none⟩=some v->w'.cell? ⟨b0,o,none⟩=some v)
  (h0:σ r0≠.none) (hd0:κ.nm r0=some d0) (hb0:d0.block=some b0) :
  Done c κ ⟨w',κ.nm,κ.imm⟩ new/\SRel c ⟨w',κ.nm,κ.imm⟩ (σ.set r0 .none):=by
 have he:Ext κ ⟨w',κ.nm,κ.imm⟩:=by
  refine⟨fun _ _ h=>h,fun b o v hi hc=>?_,fun _ _ h=>h,fun b o ho hc=>(hblock b fun e=>?_).trans ho⟩
  rotate_left
  ·have:=(hS.blk r0).isCells h0 hd0 hb0 (e▸ho);rw[hc] at this;cases this
  by_cases hne:b=b0
  ·subst hne;exact hkeep o v hc
  ·have hb:=hblock b hne
   simpa[World.cell?,hb] using hc
 have hm:=hS.mine r0 d0 b0 h0 hd0 hb0
 refine⟨⟨he,fun imm0 hL=>⟨hos.trans hL.os,htape.trans hL.tape,hout.trans hL.output,by rw[hsize];exact hL.size,fun b hb hl=>?_,fun b o hi=>hL.imm b o hi⟩,by rw[hsize];exact UI _,fun r _ h=>h⟩,?_⟩
 ·refine (hblock b fun e=>?_).trans (hL.block b hb hl)
  subst e
  rcases hm with h | h
  ·omega
  ·exact hl h
 ·have hz:∀ r,aq.set σ r0 .none r≠.none->σ r≠.none/\r≠r0:=by
   intro r h
   by_cases hr:r=r0
   ·subst hr;simp[aq.set] at h
   ·exact⟨by simpa[aq.set,hr] using h,hr⟩
  refine⟨fun r=>?_,fun r r' d d' b h1 h2 hne hd hd' hb=>?_,fun r d b h1 hd hb=>?_,fun b o hi=>by rw[hsize];exact hS.immLt b o hi,T9 he hS.glob fun g h1 h2=>hblock g fun e=>en h1 h2 (e▸hm)⟩
  ·by_cases hr:r=r0
   ·subst hr;simp[aq.set,eP]
   ·simp only[aq.set,hr,if_false]
    refine (hS.blk r).keep he fun hz d b hd hb=>⟨hblock b ?_,fun o ho=>ho⟩
    rintro rfl
    exact hS.apart r r0 d d0 b hz h0 hr hd hd0 hb hb0
  ·exact hS.apart r r' d d' b (hz r h1).1 (hz r' h2).1 hne hd hd' hb
  ·exact hS.mine r d b (hz r h1).1 hd hb
theorem NL {t e:TypeId}{new:Nat}{x v:AV}{u:Value}{δ:List (Nat×Blk)}(hS:SRel c κ σ)(ht:P.underlying t=some (.slice e))(he:P.underlying e=some (.int .u8))(hx:ARel κ x u)(hr:qc σ x=some (v,δ)) :
  ∃ z w',(convert t t u).run P κ.w = .ok z w'/\ARel ⟨w',κ.nm,κ.imm⟩ v z/\Done c κ ⟨w',κ.nm,κ.imm⟩ new/\SRel c ⟨w',κ.nm,κ.imm⟩ (σ.upd δ):=by
 unfold qc at hr
 split at hr
 ·rename_i q s y l
  unfold EW at hr
  split at hr
  ·rename_i e' sz' hσ
   cases hr
   cases hx with
   | olist _ _ _ _ hn hp hs=>
     have hB:=hS.blk q
     rw[hσ] at hB
     rcases hB with h | ⟨g,n,cap,cur,h1,h2,h3,h4,h5,h6⟩
     ·rw[hn] at h;cases h;cases hp
     ·rw[hn] at h1;cases h1
      have hrun:(convert t t (.slice (some ⟨g,0,none⟩) n cap)).run P κ.w = .ok (.slice (some ⟨g,0,none⟩) n cap) (κ.w.freeze ⟨g,cur.size,none⟩ 1):=by
       simp[convert,run_underlying ht,run_underlying he,markStringish,bL h2]
      have hg:(κ.w.freeze ⟨g,cur.size,none⟩ 1).heap[g]? = some (.cells cur e' (cur.size,cur.size+1)):=by
       simp only[World.freeze,if_neg (by omega:¬ 1=0),Array.getElem?_modify,if_true,h2,UM]
       rfl
      obtain⟨k1,k2⟩:=Ro hS (r0:=q) (b0:=g) (d0:=.own (.slice (some ⟨g,0,none⟩) n cap)) (w':=κ.w.freeze ⟨g,cur.size,none⟩ 1) new
       (by simp[World.freeze]) (by simp[World.freeze]) (by simp[World.freeze]) (by simp[World.freeze])
       (fun b hb=>by simp only[World.freeze,if_neg (by omega:¬ 1=0)];rw[Array.getElem?_modify];simp[Ne.symm hb])
       (fun o v hv=>by simp only[World.cell?,h2] at hv;simp only[World.cell?,hg];exact hv) (by rw[hσ];simp) hn rfl
      exact⟨_,_,hrun,.pv _ _ (PRel.ext k1.ext hp),k1,k2⟩
  ·cases hr
 ·cases hr
theorem JX {s d e:TypeId}{new:Nat}{x v:AV}{u:Value}{δ:List (Nat×Blk)}(hS:SRel c κ σ)(hw:c.w0.heap.size<=κ.w.heap.size)(hn:κ.nm new=none)(hs:P.underlying s=some .string)(hd:P.underlying d=some (.slice e))(he:P.underlying e=some (.int .u8))(hx:ARel κ x u)(hr:ju new x=some (v,δ)) :
  ∃ z κ',(convert s d u).run P κ.w = .ok z κ'.w/\ARel κ' v z/\Done c κ κ' new/\SRel c κ' (σ.upd δ):=by
 unfold ju at hr
 split at hr
 ·rename_i k
  split at hr
  ·rename_i hk
   cases hr
   obtain⟨s',rfl,rfl,hm⟩:=d9 hx
   have hsz:s'.size<=maxLen:=hm
   have hge:=grownCap_ge κ.w s'.size 0 e
   have hle:=grownCap_le_maxLen κ.w s'.size 0 e hsz
   obtain⟨cs,hcs⟩:∃ cs:Array Value,cs=(s'.data.map fun b=>Value.int .u8 b.toNat)++Array.replicate (grownCap κ.w s'.size 0 e - s'.size) (Value.int .u8 0):=⟨_,rfl⟩
   have hrun:(convert s d (.string s')).run P κ.w = .ok (.slice (some ⟨κ.w.heap.size,0,none⟩) s'.size (grownCap κ.w s'.size 0 e)) (κ.w.drew.alloc (.cells cs e (cs.size,cs.size+1))):=by
    rw[<- pi κ.w.drew cs e cs.size]
    have hsh:(κ.w.drew.alloc (.cells cs e)).shape? κ.w.heap.size=some (e,cs.size):=bL (heap_alloc_new κ.w.drew _)
    simp[convert,run_underlying hs,run_underlying hd,run_underlying he,Conv.stringToBytes,Question.forced,newRow,markStringish]
    rw[<- grownCap,<- hcs,hsh]
    rfl
   obtain⟨h1,h2⟩:=OS hS hw hn (.cells cs e (cs.size,cs.size+1)) (.blk κ.w.heap.size cs.size) .none (fun _=>True) rfl κ.w.drew rfl rfl rfl rfl
   refine⟨_,_,hrun,?_,h1,h2 trivial⟩
   have hh:(κ.w.drew.alloc (.cells cs e (cs.size,cs.size+1))).heap[κ.w.heap.size]? = some (.cells cs e (cs.size,cs.size+1)):=heap_alloc_new κ.w.drew _
   have hget:∀ (i:Nat) (b:UInt8),s'.data.toList[i]? = some b->cs[i]? = some (Value.int .u8 (b.toNat:Int)):=by
    intro i b hb
    have hi:i<s'.data.size:=by
     have:=(Ur.1 hb).1
     simpa using this
    rw[hcs,Array.getElem?_append_left (by simpa using hi)]
    simp at hb
    simp[hb]
   have key:=PRel.list (w:=κ.w.drew.alloc (.cells cs e (cs.size,cs.size+1))) (imm:=fun b j=>κ.imm b j\/(b=κ.w.heap.size/\True)) (aX s'.data.toList) κ.w.heap.size 0 (grownCap κ.w s'.size 0 e) 1
    (fun i _=>cs.getD i Go.undef) (by simp[aX];exact hge) hle (fun i x hi=>by
     simp only[aX,UE,Ut] at hi
     obtain⟨b,_,rfl⟩:=hi;rfl) (fun i x j y hi hj=>by
     simp only[aX,UE,Ut] at hi
     obtain⟨b,hb,rfl⟩:=hi
     have hj0:j=0:=by
      cases j with
      | zero=>rfl
      | succ j=>simp[PV.cells] at hj
     subst hj0
     have hg:=hget i b hb
     refine⟨.inr ⟨rfl,trivial⟩,?_,?_⟩
     ·rw[cell_of_row _ κ.w.heap.size _ cs e _ hh]
      simp[Uw,hg]
     ·simp[Uw,hg,Value.oneCell']) (fun i x j y hi hj=>by
     simp only[aX,UE,Ut] at hi
     obtain⟨b,hb,rfl⟩:=hi
     have hj0:j=0/\y = .int .u8 (b.toNat:Int):=by
      cases j with
      | zero=>simp[PV.cells] at hj;exact⟨rfl,hj.symm⟩
      | succ j=>simp[PV.cells] at hj
     obtain⟨rfl,rfl⟩:=hj0
     have hg:=hget i b hb
     have e:cs.getD i Go.undef=Value.int .u8 (b.toNat:Int):=by simp[Uw,hg]
     rw[e];exact .int _ _)
   refine .pv _ _ ?_
   have hl:(aX s'.data.toList).length=s'.size:=by simp[aX]
   rw[hl] at key
   exact key
  ·cases hr
 ·cases hr
theorem Hw {fn:Func}(h1:fn.name=ig)(h2:(Extern.allNextRows.lookup fn.origin).isNone=true):Extern.find fn=some Extern.AbiNoEscape.same/\Extern.findNext fn=none:=by
 have a1:Extern.allGenericRows.lookup ig=none:=by kernel_rfl
 have a2:Extern.allTypedRows.lookup ig=none:=by kernel_rfl
 have a3:Extern.allRows.lookup ig=some Extern.AbiNoEscape.same:=by kernel_rfl
 have a4:Extern.allNextRows.lookup ig=none:=by kernel_rfl
 have a5:Extern.allNextRows.lookup fn.origin=none:=by simpa using h2
 refine⟨?_,?_⟩
 ·simp[Extern.find,h1,a1,a2,a3]
 ·simp[Extern.findNext,h1,a4,a5]
theorem GW {fn:Func}(h1:fn.name=ia)(h2:(Extern.allNextRows.lookup fn.origin).isNone=true):Extern.find fn=some Extern.BytealgIndexByte.indexByte/\Extern.findNext fn=none:=by
 have a1:Extern.allGenericRows.lookup ia=none:=by kernel_rfl
 have a2:Extern.allTypedRows.lookup ia=none:=by kernel_rfl
 have a3:Extern.allRows.lookup ia=some Extern.BytealgIndexByte.indexByte:=by kernel_rfl
 have a4:Extern.allNextRows.lookup ia=none:=by kernel_rfl
 have a5:Extern.allNextRows.lookup fn.origin=none:=by simpa using h2
 refine⟨?_,?_⟩
 ·simp[Extern.find,h1,a1,a2,a3]
 ·simp[Extern.findNext,h1,a4,a5]
theorem NT {x y v:AV}{ux uy:Value}(hx:ARel κ x ux)(hy:ARel κ y uy)(hr:qh x y=some v) :
  ∃ z,(Extern.BytealgIndexByte.indexByte #[ux,uy]).run P κ.w = .ok z κ.w/\ARel κ v z:=by
 unfold qh at hr
 split at hr
 ·rename_i s n
  cases hr
  obtain⟨s',rfl,rfl,hm⟩:=d9 hx
  obtain rfl:=aV hy
  refine⟨_,run_indexByte_string s' n κ.w,?_⟩
  rw[L2]
  exact .pv _ _ (.int _ _)
 ·cases hr
theorem vq {ps ts us:Array TypeId}{t:TypeId}(h:ps[0]? = some t)(xs:Array Value):Extern.SlicesOverlaps.overlaps ps ts xs=Extern.SlicesOverlaps.overlaps #[t,t] us xs:=by
 delta Extern.SlicesOverlaps.overlaps
 rw[h]
 rfl
theorem FY {fn:Func}(h1:fn.name=g7)(h2:fn.origin=e5):Extern.find fn=some (Extern.SlicesOverlaps.overlaps fn.params fn.resultTypes)/\Extern.findNext fn=none:=by
 have a1:Extern.allGenericRows.lookup g7=none:=by kernel_rfl
 have a2:Extern.allTypedRows.lookup g7=none:=by kernel_rfl
 have a3:Extern.allRows.lookup g7=none:=by kernel_rfl
 have a4:Extern.allNextRows.lookup g7=none:=by kernel_rfl
 have b1:Extern.allGenericRows.lookup e5=none:=by kernel_rfl
 have b2:Extern.allTypedRows.lookup e5=some Extern.SlicesOverlaps.overlaps:=by kernel_rfl
 have b4:Extern.allNextRows.lookup e5=none:=by kernel_rfl
 refine⟨?_,?_⟩
 ·simp[Extern.find,h1,h2,a1,a2,a3,b1,b2]
 ·simp[Extern.findNext,h1,h2,a4,b4]
theorem It {m:XOp}{t:TypeId}{x k y:Operand}{v:AV}{new:Nat}{δ:List (Nat×Blk)}(hS:SRel c κ σ)(hc:Q8 P t x k y=some m)
  (hE:∀ i,i∈m.slots->ARel κ (E i) (a.tmps.getD i Go.undef)) (hr:m.run new E σ=some (v,δ)) :
  ∃ w' δ',(Instr.mapUpdate t (a.eval x) (a.eval k) (a.eval y)).run P κ.w = .ok () w'/\ARel ⟨w',κ.nm,κ.imm⟩ v Go.undef/\δ'=δ/\Done c κ ⟨w',κ.nm,κ.imm⟩ new/\SRel c ⟨w',κ.nm,κ.imm⟩ (σ.upd δ):=by
 unfold Q8 at hc
 split at hc
 ·rename_i kt et ht
  split at hc
  ·rename_i d ax ak ay hd hx hk hy
   simp only[Ut] at hc
   obtain⟨kd,hkd,rfl⟩:=hc
   simp only[XOp.run,Ut,Uz] at hr
   obtain⟨δ',hv',rfl,rfl⟩:=hr
   obtain⟨w',h1,h2,h3⟩:=NP (P:=P) (new:=new) hS ht hd hkd (az hx (fun i hi=>hE i (by simp[XOp.slots,hi]))) (az hk (fun i hi=>hE i (by simp[XOp.slots,hi]))) (az hy (fun i hi=>hE i (by simp[XOp.slots,hi]))) hv'
   exact⟨w',_,h1,.pv _ _ .undef,rfl,h2,h3⟩
  ·cases hc
 ·cases hc
theorem yr {o:Oper}{m:XOp}{mu:Bool}{v:AV}{new:Nat}{δ:List (Nat×Blk)}(hc:Si P mu o.op=some m)(hS:SRel c κ σ)(hw:c.w0.heap.size<=κ.w.heap.size)(hn:m.makes=true->κ.nm new=none)
  (hE:∀ i,i∈m.slots->ARel κ (E i) (a.tmps.getD i Go.undef)) (hr:m.run new E σ=some (v,δ)) :
  ∃ x u κ',(execOp a.eval o).run P κ.w = .ok x κ'.w/\(x = .value u\/(x = .skip/\u=Go.undef))/\ARel κ' v u/\Done c κ κ' new/\SRel c κ' (σ.upd δ)/\(m.makes=false->κ'.nm=κ.nm):=by
 obtain⟨dst,op,type,pos,after,guard⟩:=o
 simp only at hc
 unfold Si at hc
 split at hc
 ·rename_i args argTypes
  split at hc
  ·rename_i x t hargs hat
   obtain rfl:args = #[x]:=by cases args;simp_all
   obtain rfl:argTypes = #[t]:=by cases argTypes;simp_all
   split at hc
   ·rename_i kt et ax ht hx
    cases hc
    simp only[XOp.run,Ut,Uz] at hr
    obtain⟨v',hv',rfl,rfl⟩:=hr
    obtain⟨z,h1,h2⟩:=NQ (P:=P) (ty:=type) hS ht (az hx hE) hv'
    exact⟨_,z,κ,by simp[execOp,resolve,invoke,builtin,h1],.inl rfl,h2,Done.same c κ new,hS,fun _=>rfl⟩
   ·cases hc
  ·cases hc
 ·rename_i args argTypes
  split at hc
  ·rename_i x t hargs hat
   obtain rfl:args = #[x]:=by cases args;simp_all
   obtain rfl:argTypes = #[t]:=by cases argTypes;simp_all
   split at hc
   ·rename_i e n ax he hx
    cases hc
    obtain⟨hu,hs⟩:=eA he
    simp only[XOp.run,Ut,Uz] at hr
    obtain⟨v',hv',rfl,rfl⟩:=hr
    obtain⟨z,h1,h2⟩:=RA (P:=P) (ty:=type) hS hu (az hx hE) hv'
    exact⟨_,z,κ,by simp[execOp,resolve,invoke,builtin,h1],.inl rfl,h2,Done.same c κ new,hS,fun _=>rfl⟩
   ·cases hc
  ·cases hc
 ·rename_i t x h
  split at hc
  ·rename_i e n he
   split at hc
   ·rename_i ax ah hx hh
    cases hc
    obtain⟨hu,hs⟩:=eA he
    simp only[XOp.run,Ut,Uz] at hr
    obtain⟨v',hv',rfl,rfl⟩:=hr
    obtain⟨z,h1,h2⟩:=NM (P:=P) hS hu hs (az hx (fun i hi=>hE i (by simp[XOp.slots,hi]))) (az hh (fun i hi=>hE i (by simp[XOp.slots,hi]))) hv'
    refine⟨.value z,z,κ,?_,.inl rfl,h2,Done.same c κ new,hS,fun _=>rfl⟩
    simp[execOp,Instr.sliceAt,run_underlying hu,h1]
   ·cases hc
  ·cases hc
 ·rename_i args argTypes
  split at hc
  ·rename_i x y t t' hargs hat
   obtain rfl:args = #[x,y]:=by cases args;simp_all
   obtain rfl:argTypes = #[t,t']:=by cases argTypes;simp_all
   split at hc
   ·rename_i e n ax ay he hx hy
    cases hc
    obtain⟨hu,hs⟩:=eA he
    simp only[XOp.run] at hr
    obtain⟨u,w',h1,h2,h3,h4⟩:=NW (P:=P) (t':=t') (ty:=type) (new:=new) hS hu hs (az hx (fun i hi=>hE i (by simp[XOp.slots,hi]))) (az hy (fun i hi=>hE i (by simp[XOp.slots,hi]))) hr
    exact⟨_,u,_,by simp[execOp,resolve,invoke,builtin,h1],.inl rfl,h2,h3,h4,fun _=>rfl⟩
   ·cases hc
  ·cases hc
 ·rename_i args argTypes
  split at hc
  ·rename_i x y t t' hargs hat
   obtain rfl:args = #[x,y]:=by cases args;simp_all
   obtain rfl:argTypes = #[t,t']:=by cases argTypes;simp_all
   split at hc
   ·rename_i e kn hu hun
    split at hc
    ·rename_i i hi
     split at hc
     ·rename_i z hz
      split at hc
      ·rename_i p ax ay hp hx hy
       split at hc
       ·rename_i hsz
        cases hc
        simp only[XOp.run] at hr
        obtain⟨u,κ',h1,h2,h3,h4⟩:=N3 (P:=P) (ty:=type) hS hw (hn rfl) hu hun hi hz hp hsz (az hx (fun i hi=>hE i (by simp[XOp.slots,hi]))) (az hy (fun i hi=>hE i (by simp[XOp.slots,hi]))) hr
        exact⟨_,u,κ',by simp[execOp,resolve,invoke,builtin,h1],.inl rfl,h2,h3,h4,fun h=>by cases h⟩
       ·cases hc
      ·cases hc
     ·cases hc
    ·cases hc
   ·rename_i e htu hu hun
    split at hc
    ·rename_i e' b ax ay hbr hx hy
     split at hc
     ·rename_i hmu
      cases hc
      simp only[XOp.run] at hr
      obtain⟨u,κ',h1,h2,h3,h4⟩:=N4 (P:=P) (ty:=type) hS hw (hn rfl) hbr (by assumption) (az hx (fun i hi=>hE i (by simp[XOp.slots,hi]))) (az hy (fun i hi=>hE i (by simp[XOp.slots,hi]))) hr
      exact⟨_,u,κ',by simp[execOp,resolve,invoke,builtin,h1],.inl rfl,h2,h3,h4,fun h=>by cases h⟩
     ·cases hc
    ·cases hc
   ·cases hc
  ·cases hc
 ·rename_i f args argTypes
  split at hc
  ·rename_i x y hargs
   obtain rfl:args = #[x,y]:=by cases args;simp_all
   split at hc
   ·rename_i ax ay hov hx hy
    cases hc
    unfold Tp at hov
    split at hov
    ·rename_i fn hfn
     simp only[UK,beq_iff_eq] at hov
     obtain⟨⟨⟨hb,hname⟩,horg⟩,hp⟩:=hov
     split at hp
     ·rename_i t t' hp0 hp1
      simp only[UK,beq_iff_eq,Option.isSome_iff_exists] at hp
      obtain⟨rfl,⟨e,n⟩,he⟩:=hp
      obtain⟨hu,hs⟩:=eA he
      simp only[XOp.run,Ut,Uz] at hr
      obtain⟨v',hv',rfl,rfl⟩:=hr
      obtain⟨z,h1,h2⟩:=J7 (P:=P) (tR:=t) hS hu hs (az hx (fun i hi=>hE i (by simp[XOp.slots,hi]))) (az hy (fun i hi=>hE i (by simp[XOp.slots,hi]))) hv'
      obtain⟨f1,f2⟩:=FY hname horg
      have hnum:(fn.name == "runtime.NumGoroutine")=false:=by rw[hname];kernel_rfl
      have h3:(Extern.SlicesOverlaps.overlaps fn.params fn.resultTypes #[a.eval x,a.eval y]).run P κ.w = .ok z κ.w:=by
       rw[<- h1,vq (ts:=fn.resultTypes) (us:=#[t]) hp0]
      refine⟨.value z,z,κ,?_,.inl rfl,h2,Done.same c κ new,hS,fun _=>rfl⟩
      have h4:=run_callFunc_extern (P:=P) hfn hnum hb f2 f1 #[a.eval x,a.eval y] κ.w
      rw[h3] at h4
      have he:a.eval (.func f) = .func (.func f) #[] #[]:=rfl
      simp[execOp,resolve,Deferred.ofValue,invoke,he,h4]
     ·cases hp
    ·cases hov
   ·rename_i ax ay hov hes hx hy
    cases hc
    unfold Tq at hes
    split at hes
    ·rename_i fn hfn
     simp only[UK,beq_iff_eq] at hes
     obtain⟨⟨hb,hname⟩,horg⟩:=hes
     simp only[XOp.run,Ut,Uz] at hr
     obtain⟨v',hv',rfl,rfl⟩:=hr
     obtain⟨z,h1,h2⟩:=NT (P:=P) (az hx (fun i hi=>hE i (by simp[XOp.slots,hi]))) (az hy (fun i hi=>hE i (by simp[XOp.slots,hi]))) hv'
     obtain⟨f1,f2⟩:=GW hname horg
     have hnum:(fn.name == "runtime.NumGoroutine")=false:=by rw[hname];kernel_rfl
     refine⟨.value z,z,κ,?_,.inl rfl,h2,Done.same c κ new,hS,fun _=>rfl⟩
     have h4:=run_callFunc_extern (P:=P) hfn hnum hb f2 f1 #[a.eval x,a.eval y] κ.w
     rw[h1] at h4
     have he:a.eval (.func f) = .func (.func f) #[] #[]:=rfl
     simp[execOp,resolve,Deferred.ofValue,invoke,he,h4]
    ·cases hes
   ·cases hc
  ·rename_i x hargs
   obtain rfl:args = #[x]:=by cases args;simp_all
   split at hc
   ·rename_i ax hes hx
    cases hc
    unfold Ts at hes
    split at hes
    ·rename_i fn hfn
     simp only[UK,beq_iff_eq] at hes
     obtain⟨⟨hb,hname⟩,horg⟩:=hes
     simp only[XOp.run,Uu,Uz] at hr
     obtain⟨rfl,rfl⟩:=hr
     obtain⟨f1,f2⟩:=Hw hname horg
     have hnum:(fn.name == "runtime.NumGoroutine")=false:=by rw[hname];kernel_rfl
     refine⟨.value (a.eval x),a.eval x,κ,?_,.inl rfl,az hx hE,Done.same c κ new,hS,fun _=>rfl⟩
     have h4:=run_callFunc_extern (P:=P) hfn hnum hb f2 f1 #[a.eval x] κ.w
     rw[Lib.run_noEscape] at h4
     have he:a.eval (.func f) = .func (.func f) #[] #[]:=rfl
     simp[execOp,resolve,Deferred.ofValue,invoke,he,h4]
    ·cases hes
   ·cases hc
  ·cases hc
 ·rename_i s d x
  split at hc
  ·rename_i t hs hd
   split at hc
   ·rename_i n ax hn' hx
    split at hc
    ·rename_i h0
     cases hc
     simp only[XOp.run,Ut,Uz] at hr
     obtain⟨v',hv',rfl,rfl⟩:=hr
     obtain⟨h1,h2⟩:=uE (P:=P) hS hs hd hn' h0 (az hx hE) hv'
     exact⟨.value (a.eval x),a.eval x,κ,by simp[execOp,h1],.inl rfl,h2,Done.same c κ new,hS,fun _=>rfl⟩
    ·cases hc
   ·cases hc
  ·rename_i u hs hd
   split at hc
   ·rename_i n ax hn' hx
    split at hc
    ·rename_i hl
     cases hc
     simp only[XOp.run,Ut,Uz] at hr
     obtain⟨v',hv',rfl,rfl⟩:=hr
     obtain⟨h1,h2⟩:=nv (P:=P) hS hs hd hn' hl (az hx hE) hv'
     exact⟨.value (a.eval x),a.eval x,κ,by simp[execOp,h1],.inl rfl,h2,Done.same c κ new,hS,fun _=>rfl⟩
    ·cases hc
   ·cases hc
  ·rename_i e hs hd
   split at hc
   ·rename_i ax he hx
    cases hc
    simp only[XOp.run] at hr
    obtain⟨z,κ',h1,h2,h3,h4⟩:=JX (P:=P) hS hw (hn rfl) hs hd he (az hx hE) hr
    exact⟨.value z,z,κ',by simp[execOp,h1],.inl rfl,h2,h3,h4,fun h=>by cases h⟩
   ·cases hc
  ·rename_i e e' hs hd
   split at hc
   ·rename_i ax he hx
    split at hc
    ·rename_i hsd
     subst hsd
     cases hc
     simp only[XOp.run] at hr
     obtain⟨z,w',h1,h2,h3,h4⟩:=NL (P:=P) (new:=new) hS hs he (az hx hE) hr
     exact⟨.value z,z,⟨w',κ.nm,κ.imm⟩,by simp[execOp,h1],.inl rfl,h2,h3,h4,fun _=>rfl⟩
    ·cases hc
   ·cases hc
  ·cases hc
 ·rename_i t x y yt
  split at hc
  ·rename_i te ht
   split at hc
   ·rename_i i ax ay hi hx hy
    cases hc
    simp only[XOp.run,Ut,Uz] at hr
    obtain⟨v',hv',rfl,rfl⟩:=hr
    obtain⟨z,h1,h2⟩:=NO (P:=P) (X:=x) (Y:=y) (.inl ⟨rfl,rfl⟩) ht hi (az hx (fun i hi=>hE i (by simp[XOp.slots,hi]))) (az hy (fun i hi=>hE i (by simp[XOp.slots,hi]))) hv'
    exact⟨.value z,z,κ,by simp only[execOp];rw[Sem.run_bind,h1];rfl,.inl rfl,h2,Done.same c κ new,hS,fun _=>rfl⟩
   ·cases hc
  ·rename_i ps rs vr ht
   split at hc
   ·rename_i ax ay hx hy
    cases hc
    simp only[XOp.run,Ut,Uz] at hr
    obtain⟨v',hv',rfl,rfl⟩:=hr
    obtain⟨z,h1,h2⟩:=Iv (P:=P) (X:=x) (Y:=y) (.inl ⟨rfl,rfl⟩) ht (az hx (fun i hi=>hE i (by simp[XOp.slots,hi]))) (az hy (fun i hi=>hE i (by simp[XOp.slots,hi]))) hv'
    exact⟨.value z,z,κ,by simp only[execOp];rw[Sem.run_bind,h1];rfl,.inl rfl,h2,Done.same c κ new,hS,fun _=>rfl⟩
   ·cases hc
  ·rename_i ms ht
   split at hc
   ·rename_i cv ax ay hx hy
    cases hc
    simp only[XOp.run,Ut,Uz] at hr
    obtain⟨v',hv',rfl,rfl⟩:=hr
    obtain⟨z,h1,h2⟩:=Iu (P:=P) (X:=x) (cv:=cv) (.inl ⟨rfl,rfl⟩) ht (az hx (fun i hi=>hE i (by simp[XOp.slots,hi]))) (az hy (fun i hi=>hE i (by simp[XOp.slots,hi]))) hv'
    exact⟨.value z,z,κ,by simp only[execOp];rw[Sem.run_bind,h1];rfl,.inl rfl,h2,Done.same c κ new,hS,fun _=>rfl⟩
   ·cases hc
  ·cases hc
 ·rename_i t x y yt
  split at hc
  ·rename_i te ht
   split at hc
   ·rename_i i ax ay hi hx hy
    cases hc
    simp only[XOp.run,Ut,Uz] at hr
    obtain⟨v',hv',rfl,rfl⟩:=hr
    obtain⟨z,h1,h2⟩:=NO (P:=P) (X:=x) (Y:=y) (.inr ⟨rfl,rfl⟩) ht hi (az hx (fun i hi=>hE i (by simp[XOp.slots,hi]))) (az hy (fun i hi=>hE i (by simp[XOp.slots,hi]))) hv'
    exact⟨.value z,z,κ,by simp only[execOp];rw[Sem.run_bind,h1];rfl,.inl rfl,h2,Done.same c κ new,hS,fun _=>rfl⟩
   ·cases hc
  ·rename_i ps rs vr ht
   split at hc
   ·rename_i ax ay hx hy
    cases hc
    simp only[XOp.run,Ut,Uz] at hr
    obtain⟨v',hv',rfl,rfl⟩:=hr
    obtain⟨z,h1,h2⟩:=Iv (P:=P) (X:=x) (Y:=y) (.inr ⟨rfl,rfl⟩) ht (az hx (fun i hi=>hE i (by simp[XOp.slots,hi]))) (az hy (fun i hi=>hE i (by simp[XOp.slots,hi]))) hv'
    exact⟨.value z,z,κ,by simp only[execOp];rw[Sem.run_bind,h1];rfl,.inl rfl,h2,Done.same c κ new,hS,fun _=>rfl⟩
   ·cases hc
  ·rename_i ms ht
   split at hc
   ·rename_i cv ax ay hx hy
    cases hc
    simp only[XOp.run,Ut,Uz] at hr
    obtain⟨v',hv',rfl,rfl⟩:=hr
    obtain⟨z,h1,h2⟩:=Iu (P:=P) (X:=x) (cv:=cv) (.inr ⟨rfl,rfl⟩) ht (az hx (fun i hi=>hE i (by simp[XOp.slots,hi]))) (az hy (fun i hi=>hE i (by simp[XOp.slots,hi]))) hv'
    exact⟨.value z,z,κ,by simp only[execOp];rw[Sem.run_bind,h1];rfl,.inl rfl,h2,Done.same c κ new,hS,fun _=>rfl⟩
   ·cases hc
  ·cases hc
 ·rename_i T x
  split at hc
  ·cases hc
  ·rename_i d hnd ht
   simp only[Ut] at hc
   obtain⟨ax,hx,rfl⟩:=hc
   simp only[XOp.run,Ut,Uz] at hr
   obtain⟨v',hv',rfl,rfl⟩:=hr
   obtain⟨z,h1,h2⟩:=Rv (P:=P) ht (fun ms h=>hnd ms h) (az hx hE) hv'
   exact⟨.value z,z,κ,by simp[execOp,h1],.inl rfl,h2,Done.same c κ new,hS,fun _=>rfl⟩
  ·cases hc
 ·rename_i cv
  cases hc
  simp only[XOp.run,Uu,Uz] at hr
  obtain⟨rfl,rfl⟩:=hr
  exact⟨.value (a.eval (.const cv)),_,κ,by simp[execOp],.inl rfl,.any _,Done.same c κ new,hS,fun _=>rfl⟩
 ·rename_i cv
  cases hc
  simp only[XOp.run,Uu,Uz] at hr
  obtain⟨rfl,rfl⟩:=hr
  exact⟨.value (a.eval (.const cv)),_,κ,by simp[execOp],.inl rfl,.any _,Done.same c κ new,hS,fun _=>rfl⟩
 ·rename_i args argTypes
  split at hc
  ·rename_i x hargs
   obtain rfl:args = #[x]:=by cases args;simp_all
   simp only[Ut] at hc
   obtain⟨ax,hx,rfl⟩:=hc
   simp only[XOp.run,Ut,Uz] at hr
   obtain⟨v',hv',rfl,rfl⟩:=hr
   obtain⟨z,h1,h2⟩:=JW (P:=P) (ts:=argTypes) (ty:=type) (κ:=κ) (az hx hE) hv'
   exact⟨_,z,κ,by simp[execOp,resolve,invoke,builtin,h1],.inl rfl,h2,Done.same c κ new,hS,fun _=>rfl⟩
  ·cases hc
 ·rename_i args argTypes
  split at hc
  ·rename_i x y pt it hargs hat
   obtain rfl:args = #[x,y]:=by cases args;simp_all
   obtain rfl:argTypes = #[pt,it]:=by cases argTypes;simp_all
   split at hc
   ·rename_i e hp
    split at hc
    ·rename_i ax ay hx hy
     split at hc
     ·rename_i hce
      cases hc
      simp only[XOp.run] at hr
      obtain⟨z,w',h1,h2,h3,h4⟩:=NK (P:=P) (it:=it) (ty:=type) (new:=new) hS hp hce (az hx (fun i hi=>hE i (by simp[XOp.slots,hi]))) (az hy (fun i hi=>hE i (by simp[XOp.slots,hi]))) hr
      exact⟨_,z,_,by simp[execOp,resolve,invoke,builtin,h1],.inl rfl,h2,h3,h4,fun _=>rfl⟩
     ·cases hc
    ·cases hc
   ·cases hc
  ·cases hc
 ·rename_i t
  cases hc
  simp only[XOp.run,Uu,Uz] at hr
  obtain⟨rfl,rfl⟩:=hr
  obtain⟨u,κ',h1,h2,h3,h4⟩:=JZ (P:=P) (t:=t) hS hw (hn rfl)
  exact⟨.value u,u,κ',by simp[execOp,h1],.inl rfl,h2,h3,h4,fun h=>by cases h⟩
 ·rename_i t x k co
  split at hc
  ·rename_i kt et ht
   split at hc
   ·rename_i d i ax ak hd hi hx hk
    split at hc
    ·rename_i kd z hkd hz
     simp only[Ut] at hc
     obtain⟨p,hp,rfl⟩:=hc
     simp only[XOp.run,Ut,Uz] at hr
     obtain⟨v',hv',rfl,rfl⟩:=hr
     obtain⟨u,h1,h2⟩:=JY (P:=P) hS ht hd hkd hi hz hp (az hx (fun i hi=>hE i (by simp[XOp.slots,hi]))) (az hk (fun i hi=>hE i (by simp[XOp.slots,hi]))) hv'
     exact⟨.value u,u,κ,by simp[execOp,h1],.inl rfl,h2,Done.same c κ new,hS,fun _=>rfl⟩
    ·cases hc
   ·cases hc
  ·cases hc
 ·rename_i t x k y
  obtain⟨w',δ',h1,h2,rfl,h3,h4⟩:=It (a:=a) (new:=new) hS hc hE hr
  exact⟨.skip,Go.undef,_,by simp[execOp,h1],.inr ⟨rfl,rfl⟩,h2,h3,h4,fun _=>rfl⟩
 ·rename_i t x k y
  obtain⟨w',δ',h1,h2,rfl,h3,h4⟩:=It (a:=a) (new:=new) hS hc hE hr
  exact⟨.skip,Go.undef,_,by simp[execOp,h1],.inr ⟨rfl,rfl⟩,h2,h3,h4,fun _=>rfl⟩
 ·cases hc
end

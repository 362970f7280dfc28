/- A program logic over the model: part 2 (a proof is built on it; nothing of the statement is said here). -/
import Derived.MapKept
import Derived.Lib.Overlaps
import Derived.Lib.AppendZerosOnto
import Derived.Lib.Builder
import Derived.Lib.Bytealg
import Derived.Lib.UnsafeStr
import Derived.Lib.AppendStr
import Derived.KernelRfl
import Derived.Laws.BytesString
import Derived.Laws.Cells
import Derived.Laws.MakeOwn
import Derived.Test.YtamoeblcphjbaaaGreatDoorBlCore1
set_option linter.unusedVariables false
set_option linter.unusedSimpArgs false
open List renaming length_append->Us,size_toArray->Vu,append_assoc->U3,eq_nil_of_length_eq_zero->UH,nil_append->UK,getElem?_take->UT,all_eq_true->UP,mem_of_getElem?->Uw,getElem?_drop->U7,getElem?_eq_some_iff->Up,getD_eq_getElem?_getD->Uv,getElem?_eq_getElem->Uo,length_cons->Ut,getElem?_eq_none->UN,length_take->UM,length_drop->UC,mem_map->U9,getElem?_map->UB,getElem?_append_left->UO,getElem?_append_right->UR,replicate->U4,map_cons->UE,range->UZ,take_of_length_le->UW
open Nat renaming zero_add->UI,mul_le_mul_right->UQ,le_refl->UA,zero_le->U8,mul_comm->Vm
open Option.some renaming injEq->Ur
open Array renaming getD_eq_getD_getElem?->Uu,length_toList->VA,getElem?_modify->Vw,getElem?_eq_getElem->Va
open Bool renaming and_eq_true->UF
open Option renaming map_eq_some_iff->Uq,map_some->UD,getD_some->Vg
open Prod.mk renaming injEq->Uy
namespace Go.Ab
open Go Go.RowKit
section
variable {P:Program}{c:Ctx}{κ:Kap}{σ:aD}
theorem bf (w:World)(t ty e:TypeId)(i:TypeInfo)(z:Value)(size bytes:Nat)(ht:P.underlying t=some (.slice e))(hi:P.info? e=some i)(hz:i.zero=some z)
  (hsize:i.size=size) (hby:i.bytes=bytes) (hzs:z.cells.size=size)
  (v:Value) (n:Nat) (xs:List Value) (hown:w.ownsRow 0 e size v n xs)
  (A:Option Addr) (m c:Nat) (news:List Value) (hl:news.length=m*size) (hnews:m=0\/∃ a,A=some a/\∀ (j:Nat) (u:Value),news[j]? = some u->w.cell? (a.add j)=some u) (h1:∀ u∈news,u.oneCell'=true)
  (h63:n+m<=maxLen) (hbytes:(n+m)*bytes<=140737488355328) :
  ∃ v' w',(Builtin.append_ #[t,t] ty #[v,.slice A m c]).run P w = .ok v' w' /\
    ((m=0/\v'=v/\w'=w) \/
     (0 < m/\∃ g cap cur,v = .slice (some ⟨g,0,none⟩) n cap/\w.heap[g]? = some (.cells cur e (0,0))/\n+m<=cap/\cap<=maxLen/\cur.size=cap*size/\cur.toList.take (n*size)=xs /\
        v' = .slice (some ⟨g,0,none⟩) (n+m) cap/\w'=w.setRow g (cur.toList.take (n*size)++news++cur.toList.drop (n*size+news.length)).toArray) \/
     (0<m/\∃ cs cap,v' = .slice (some ⟨w.heap.size,0,none⟩) (n+m) cap/\w'=w.drew.alloc (.cells cs e)/\n+m<=cap/\cap<=maxLen/\cs.size=cap*size/\cs.toList.take ((n+m)*size)=xs++news)):=by
 subst hsize
 subst hby
 have hlen:(xs++news).length=(n+m)*i.size:=by rw[Us,hown.1,hl,Nat.add_mul]
 have hsmall:n+m<=9223372036854775807:=by simp only[maxLen] at h63;omega
 have grown:∀ (old:Nat),old<n+m ->
   n+m<=grownCap w (n+m) old e/\grownCap w (n+m) old e<=maxLen /\
   (xs.toArray++news.toArray++Builtin.zeroCells z.cells (grownCap w (n+m) old e - (n+m))).size=grownCap w (n+m) old e*i.size /\
   (xs.toArray++news.toArray++Builtin.zeroCells z.cells (grownCap w (n+m) old e - (n+m))).toList.take ((n+m)*i.size)=xs++news:=by
  intro old ho
  have hge:=grownCap_ge w (n+m) old e
  refine⟨hge,grownCap_le_maxLen w (n+m) old e h63,?_,?_⟩
  ·simp only[Array.size_append,Vu,size_zeroCells,hzs,hown.1,hl,<- Nat.add_mul]
   congr 1
   omega
  ·simp only[Array.toList_append,U3]
   rw[<- U3,<- hlen]
   exact List.take_left
 by_cases hm:m=0
 ·subst hm
  have hn:news=[]:=UH (by simpa using hl)
  refine⟨v,w,?_,.inl ⟨rfl,rfl,rfl⟩⟩
  rcases hown.2 with ⟨rfl,rfl⟩ | ⟨g,cap,cur,rfl,hbg,hg,hnc,hcm,hcs,htake⟩
  ·cases A<;>simp[Builtin.append_,run_underlying ht,sizeOf,typeInfo,hi,Builtin.lenOf,Builtin.firstCells,loadCells,loadCellsFrom,storeCells]
  ·cases A<;>simp[Builtin.append_,run_underlying ht,sizeOf,typeInfo,hi,Builtin.lenOf,Builtin.firstCells,loadCells,loadCellsFrom,storeCells,hnc]
 ·obtain⟨a,rfl,hnews'⟩:=hnews.resolve_left hm
  rcases hown.2 with ⟨rfl,rfl⟩ | ⟨g,cap,cur,rfl,hbg,hg,hnc,hcm,hcs,htake⟩
  ·have hx:xs=[]:=UH (by simpa using hown.1)
   subst hx
   have hr:=run_append_nil (P:=P) w t ty e i z ht hi hz a m c news hl hnews' (by omega) (by omega) (by have hb:=hbytes;simp only[UI] at hb;omega)
   have hgr:=grown 0 (by omega)
   simp only[UI,UK,Array.empty_append] at hgr ⊢
   exact⟨_,_,hr,.inr (.inr ⟨by omega,_,_,rfl,rfl,hgr.1,hgr.2.1,hgr.2.2.1,hgr.2.2.2⟩)⟩
  ·by_cases hroom:n+m<=cap
   ·have hfit:n*i.size+news.length<=cur.size:=by rw[hl,hcs,<- Nat.add_mul];exact UQ _ hroom
    have hr:=run_append_room (P:=P) w t ty e i ht hi g n cap cur hg a m c news hl hnews' h1 hroom hfit
    exact⟨_,_,hr,.inr (.inl ⟨by omega,g,cap,cur,rfl,hg,hroom,hcm,hcs,htake,rfl,rfl⟩)⟩
   ·have holds:∀ j u,xs[j]? = some u->w.cell? ((⟨g,0,none⟩:Addr).add j)=some u:=hown.cells (g:=g) rfl
    have hr:=run_append_grow (P:=P) w t ty e i z ht hi hz ⟨g,0,none⟩ n cap xs hown.1 holds a m c news hl hnews' (by omega) (by omega) (growslice_fits (by omega) hbytes)
    have hgr:=grown cap (by omega)
    exact⟨_,_,hr,.inr (.inr ⟨by omega,_,_,rfl,rfl,hgr.1,hgr.2.1,hgr.2.2.1,hgr.2.2.2⟩)⟩
theorem my {w:World}{g n:Nat}{cur:Array Value}{e:TypeId}{xs:List Value}(hg:w.heap[g]? = some (.cells cur e (0,0)))(h:cur.toList.take n=xs) :
  ∀ (j:Nat) (u:Value),xs[j]? = some u->w.cell? ⟨g,j,none⟩=some u:=by
 intro j u hu
 rw[cell_of_row w g j cur e (0,0) hg]
 subst h
 rw[UT] at hu
 split at hu
 ·simpa using hu
 ·cases hu
theorem lq (hS:SRel c κ σ)(hw:c.w0.heap.size<=κ.w.heap.size){new e sz n cap:Nat}(hn:κ.nm new=none){cs:Array Value}{l:List PV}{xs:List Value}(hr:fC κ sz l xs)(hl:n=l.length)
  (hnc:n<=cap) (hm:cap<=maxLen) (hcs:cs.size=cap*sz) (ht:cs.toList.take (n*sz)=xs) (w1:World) (e1:w1.heap=κ.w.heap) (e2:w1.os=κ.w.os) (e3:w1.tape=κ.w.tape) (e4:w1.output=κ.w.output) :
  ∃ κ':Kap,κ'.w=w1.alloc (.cells cs e)/\ARel κ' (.olist new sz l) (.slice (some ⟨κ.w.heap.size,0,none⟩) n cap)/\Done c κ κ' new/\SRel c κ' (σ.set new (.tok e sz)):=by
 obtain⟨h1,h2⟩:=Pl hS hw hn (.cells cs e) (.own (.slice (some ⟨κ.w.heap.size,0,none⟩) n cap)) (.tok e sz) (fun j=>j<n*sz) rfl w1 e1 e2 e3 e4
 have hh:(w1.alloc (.cells cs e)).heap[κ.w.heap.size]? = some (.cells cs e (0,0)):=by rw[<- e1];exact heap_alloc_new w1 _
 refine⟨_,rfl,.olist _ _ _ _ (by simp) ((hr.ext h1.ext).list hl hnc hm (my hh ht) (fun j hj=>.inr ⟨rfl,hj⟩)) (fun x hx=>?_),h1,h2 (.inr ⟨κ.w.heap.size,n,cap,cs,by simp,hh,hnc,hm,hcs,?_⟩)⟩
 ·obtain⟨i,hi⟩:=List.getElem?_of_mem hx
  exact hr.2.1 i x hi
 ·intro o ho
  rintro (h | ⟨_,h⟩)
  ·have:=hS.immLt _ _ h;omega
  ·omega
theorem Ci (hS:SRel c κ σ){new:Nat}(hn:κ.nm new=none)(Bn:Blk) :
  let κ':Kap:=⟨κ.w,fun r=>if r=new then some (.own (.slice none 0 0)) else κ.nm r,κ.imm⟩
  Done c κ κ' new/\(ff κ' new Bn->SRel c κ' (σ.set new Bn)):=by
 intro κ'
 have he:Ext κ κ':=by
  refine⟨fun _ _ h=>h,fun _ _ _ _ h=>h,fun r d h=>?_,fun _ _ h _=>h⟩
  have:r≠new:=by rintro rfl;rw[hn] at h;cases h
  simp[κ',this,h]
 refine⟨⟨he,fun imm0 hL=>⟨hL.os,hL.tape,hL.output,hL.size,hL.block,hL.imm⟩,UA _,fun r hr h=>by simp[κ',hr,h]⟩,
  fun hB=>⟨fun r=>?_,fun r r' d d' b h1 h2 hne hd hd' hb=>?_,fun r d b h1 hd hb=>?_,hS.immLt,Uc he hS.glob fun _ _ _=>rfl⟩⟩
 ·by_cases hr:r=new
  ·subst hr
   simp only[aD.set,if_true]
   exact hB
  ·simp only[aD.set,hr,if_false]
   exact (hS.blk r).keep he fun _ _ _ _ _=>⟨rfl,fun _ h=>h⟩
 ·simp only[aD.set] at h1 h2
  simp only[κ'] at hd hd'
  by_cases hr:r=new
  ·simp only[hr,if_true,Ur] at hd
   subst hd;cases hb
  ·by_cases hr':r'=new
   ·simp only[hr',if_true,Ur] at hd'
    subst hd'
    intro h;cases h
   ·simp only[hr,hr',if_false] at hd hd' h1 h2
    exact hS.apart r r' d d' b h1 h2 hne hd hd' hb
 ·simp only[aD.set] at h1
  simp only[κ'] at hd
  by_cases hr:r=new
  ·simp only[hr,if_true,Ur] at hd
   subst hd;cases hb
  ·simp only[hr,if_false] at hd h1
   exact hS.mine r d b h1 hd hb
theorem EG (hS:SRel c κ σ){new:Nat}(hn:κ.nm new=none)(e sz:Nat) :
  Done c κ ⟨κ.w,fun r=>if r=new then some (.own (.slice none 0 0)) else κ.nm r,κ.imm⟩ new /\
  SRel c ⟨κ.w,fun r=>if r=new then some (.own (.slice none 0 0)) else κ.nm r,κ.imm⟩ (σ.set new (.tok e sz)) /\
  ARel ⟨κ.w,fun r=>if r=new then some (.own (.slice none 0 0)) else κ.nm r,κ.imm⟩ (.olist new sz []) (.slice none 0 0):=by
 obtain⟨h1,h2⟩:=Ci hS hn (.tok e sz)
 exact⟨h1,h2 (.inl (by simp)),.olist _ _ _ _ (by simp) (.lnil _ _ (by simp)) (by simp)⟩
theorem pd (hS:SRel c κ σ){new:Nat}(hn:κ.nm new=none)(e sz:Nat) :
  Done c κ ⟨κ.w,fun r=>if r=new then some (.own (.slice none 0 0)) else κ.nm r,κ.imm⟩ new /\
  SRel c ⟨κ.w,fun r=>if r=new then some (.own (.slice none 0 0)) else κ.nm r,κ.imm⟩ (σ.set new (.cells e false [])) /\
  ARel ⟨κ.w,fun r=>if r=new then some (.own (.slice none 0 0)) else κ.nm r,κ.imm⟩ (.row new sz 0 0) (.slice none 0 0):=by
 obtain⟨h1,h2⟩:=Ci hS hn (.cells e false [])
 exact⟨h1,h2 (.inl ⟨rfl,rfl,by simp⟩),.row0 _ _ (by simp)⟩
theorem DI {sz:Nat}{y:AV}{v:Value}{ys:List PV}(hy:ARel κ y v)(h:bW σ sz y=some ys)(hS:SRel c κ σ):ys.length<=maxLen:=by
 have main:∀ l,PRel κ.w κ.imm (.list l) v->l.length<=maxLen:=by
  intro l hp
  cases hp with
  | lnil=>simp
  | list _ b off c sz g h1 h2 h3 h4 h5=>omega
 unfold bW at h
 split at h
 ·cases h;simp
 ·split at h
  ·cases h;exact main _ (aS hy)
  ·cases h
 ·split at h
  ·cases h
   cases hy with
   | olist _ _ _ _ hn hp hsz=>exact main _ hp
  ·cases h
 ·split at h
  ·split at h
   ·rename_i hh
    have hl:=ci h
    cases hy with
    | row0=>rw[hl];simp
    | row _ _ _ _ b n cap hnm k1 k0 k2 k3=>rw[hl];simp;omega
   ·cases h
  ·cases h
 ·cases h
theorem mh {sz:Nat}{y:AV}{v:Value}{ys:List PV}(hS:SRel c κ σ)(hy:ARel κ y v)(h:bW σ sz y=some ys) :
  ∃ A m cc xs,v = .slice A m cc/\m=ys.length/\fC κ sz ys xs/\(∀ u∈xs,u.oneCell'=true)/\(m=0\/∃ a,A=some a/\∀ (j:Nat) (u:Value),xs[j]? = some u->κ.w.cell? (a.add j)=some u):=by
 have main:∀ l,PRel κ.w κ.imm (.list l) v->l.all (fun y=>y.cells.length == sz)=true->∃ A m cc xs,v = .slice A m cc/\m=l.length/\fC κ sz l xs/\(∀ u∈xs,u.oneCell'=true)/\(m=0\/∃ a,A=some a/\∀ (j:Nat) (u:Value),xs[j]? = some u->κ.w.cell? (a.add j)=some u):=by
  intro l hp hall
  obtain⟨A,m,cc,rfl⟩:∃ A m cc,v = .slice A m cc:=by cases hp<;>exact⟨_,_,_,rfl⟩
  obtain⟨h1,xs,h2,h3,h4⟩:=u9 hp hall
  exact⟨A,m,cc,xs,rfl,h1,h2,h3,h4⟩
 unfold bW at h
 split at h
 ·cases h
  cases aS hy
  exact⟨none,0,0,[],rfl,rfl,⟨by simp,by simp,by simp⟩,by simp,.inl rfl⟩
 ·split at h
  ·rename_i hall
   cases h
   exact main _ (aS hy) hall
  ·cases h
 ·split at h
  ·rename_i hs
   cases h
   cases hy with
   | olist _ _ _ _ hn hp hsz=>exact main _ hp (UP.2 fun x hx=>by simpa[hs] using hsz x hx)
  ·cases h
 ·rename_i r s off len
  split at h
  ·rename_i T f l hσ
   split at h
   ·rename_i hh
    obtain⟨rfl,rfl,hle,hone⟩:=hh
    cases hy with
    | row0=>
      simp only[Nat.add_zero,List.take_zero,pvs,Ur] at h
      subst h
      exact⟨none,0,0,[],rfl,rfl,⟨by simp,by simp,by simp⟩,by simp,.inl rfl⟩
    | row _ _ _ _ b n cap hnm k1 k0 k2 k3=>
      obtain⟨cs,hg,hcs,hln,_,himm,hrel,hcell⟩:=cR hS hσ hnm
      have hlen:=ci h
      have hlen':ys.length=len:=by rw[hlen];simp;omega
      have hget:∀ (i:Nat) (p:PV),ys[i]? = some p->∃ x,l[off+i]? = some x/\x.toPV=some p/\x.one=true:=by
       intro i p hp
       obtain⟨x,hx,hxp⟩:=c8 h i p hp
       have h1:=(UP.1 hone) x (Uw hx)
       rw[UT] at hx
       split at hx
       ·rw[U7] at hx;exact⟨x,hx,hxp,h1⟩
       ·cases hx
      have hpone:∀ (i:Nat) (p:PV),ys[i]? = some p->p.cells=[p]:=by
       intro i p hp
       obtain⟨x,hx,hxp,h1⟩:=hget i p hp
       cases x with
       | pv q=>
         simp only[AV.toPV,Ur] at hxp
         subst hxp
         cases q<;>first | rfl | simp[AV.one,PV.one] at h1
       | olist a b l=>
         simp only[AV.toPV,Ur] at hxp
         subst hxp;rfl
       | _=>simp[AV.toPV] at hxp
      refine⟨_,len,cap,(cs.toList.drop off).take len,rfl,hlen'.symm,⟨by simp;omega,fun i p hp=>by rw[hpone i p hp];rfl,fun i p j y hp hy=>?_⟩,fun u hu=>?_,?_⟩
      ·rw[hpone i p hp] at hy
       have hj:j=0:=by
        rcases j with _ | j
        ·rfl
        ·simp at hy
       subst hj
       simp at hy;subst hy
       obtain⟨x,hx,hxp,h1⟩:=hget i p hp
       have hr:=hrel _ x hx
       have hi:i<len:=by rw[<- hlen'];exact (Up.1 hp).1
       have e:((cs.toList.drop off).take len).getD (i*1+0) Go.undef=cs.getD (off+i) Go.undef:=by
        rw[aF]
        simp[Uv,UT,hi]
       rw[e]
       exact⟨bZ hxp hr,hr.oneCell h1⟩
      ·obtain⟨i,hi,rfl⟩:=List.getElem_of_mem hu
       have hi':i<len:=by simp at hi;omega
       have hp:=Uo (show i<ys.length by omega)
       obtain⟨x,hx,hxp,h1⟩:=hget i _ hp
       have:=(hrel _ x hx).oneCell h1
       have hb:off+i<cs.size:=by omega
       simpa[Uu,hb] using this
      ·by_cases h0:len=0
       ·exact .inl h0
       ·refine .inr ⟨⟨b,off,none⟩,rfl,fun j u hj=>?_⟩
        rw[UT] at hj
        split at hj
        ·rw[U7] at hj
         rw[Addr.add_lit,cell_of_row κ.w b (off+j) cs T (0,0) hg]
         simpa using hj
        ·cases hj
   ·cases h
  ·cases h
 ·cases h
end
section
variable {P:Program}{c:Ctx}{κ:Kap}{σ:aD}
structure ElemInfo (P:Program)(t e sz by_:Nat):Prop where
 under:P.underlying t=some (.slice e)
 info:∃ i z,P.info? e=some i/\i.zero=some z/\i.size=sz/\i.bytes=by_/\z.cells.size=sz
theorem je {n m by_:Nat}(h:pj n m by_=true):n+m<=maxLen/\(n+m)*by_<=140737488355328:=by
 simp only[pj,UF,decide_eq_true_eq] at h
 exact⟨by unfold maxLen;omega,h.2⟩
theorem n8 (cur:List Value)(k m:Nat)(news xs:List Value)(hk:cur.take k=xs)(hl:k+news.length<=cur.length) :
  (cur.take k++news++cur.drop (k+news.length)).take (k+news.length)=xs++news:=by
 rw[hk]
 have:(xs++news).length=k+news.length:=by subst hk;simp;omega
 rw[<- this]
 exact List.take_left
theorem FJ {t ty e sz by_ new:Nat}{x y v:AV}{ux uy:Value}{δ:List (Nat×Blk)}(hS:SRel c κ σ)(hw:c.w0.heap.size<=κ.w.heap.size)(hn:κ.nm new=none)(hI:ElemInfo P t e sz by_)
  (hx:ARel κ x ux) (hy:ARel κ y uy) (hr:ef false e sz by_ new σ x y=some (v,δ)) :
  ∃ u κ',(Builtin.append_ #[t,t] ty #[ux,uy]).run P κ.w = .ok u κ'.w/\ARel κ' v u/\Done c κ κ' new/\SRel c κ' (σ.upd δ):=by
 obtain⟨hu,i,z,hi,hz,hsz,hby,hzs⟩:=hI
 unfold ef at hr
 split at hr
 ·rename_i ys hys
  obtain⟨A,m,cc,news,rfl,hm,hrow,hone,hat⟩:=mh hS hy hys
  split at hr
  ·-- onto nil
   have hux:ux = .slice none 0 0:=by cases aS hx;rfl
   subst hux
   split at hr
   ·cases hr
    obtain⟨v',w',h1,h2⟩:=bf (P:=P) κ.w t ty e i z sz by_ hu hi hz hsz hby hzs (.slice none 0 0) 0 [] (World.ownsRow_nil _ _ _ _) A m cc news (by rw[hrow.1,hm]) hat hone (by rw[hm];simp) (by rw[hm];simp)
    rcases h2 with ⟨_,rfl,rfl⟩ | ⟨h0,_⟩ | ⟨h0,_⟩
    ·exact⟨_,κ,h1,.pv _ _ .nils,Done.same c κ new,by simpa[rQ] using hS⟩
    ·simp at hm;omega
    ·simp at hm;omega
   ·rename_i y0 r
    split at hr
    ·rename_i hroom
     cases hr
     obtain⟨k1,k2⟩:=je hroom
     simp only[Ut] at hm
     subst hm
     obtain⟨v',w',h1,h2⟩:=bf (P:=P) κ.w t ty e i z sz by_ hu hi hz hsz hby hzs (.slice none 0 0) 0 [] (World.ownsRow_nil _ _ _ _) A (r.length+1) cc news (by rw[hrow.1];rfl) hat hone k1 k2
     rcases h2 with ⟨h0,_⟩ | ⟨_,g,cap,cur,h0,_⟩ | ⟨_,cs,cap,rfl,rfl,q1,q2,q3,q4⟩
     ·omega
     ·cases h0
     ·simp only[UI,UK] at q1 q4
      obtain⟨κ',e1,e2,e3,e4⟩:=lq (e:=e) hS hw hn hrow (n:=r.length+1) rfl q1 q2 q3 q4 κ.w.drew rfl rfl rfl rfl
      exact⟨_,κ',by rw[h1,e1],by simpa using e2,e3,e4⟩
    ·cases hr
  ·-- onto a list of the call's own
   rename_i q s l _
   split at hr
   ·rename_i e' sz' hσ
    split at hr
    ·rename_i hh
     obtain⟨rfl,rfl,rfl,hroom⟩:=hh
     cases hr
     obtain⟨k1,k2⟩:=je hroom
     cases hx with
     | olist _ _ _ _ hnm hp hls=>
       have hB:=hS.blk q
       rw[hσ] at hB
       rcases hB with hq | ⟨g,n,cap,cur,hq,hg,hnc,hcm,hcs,hfree⟩
       ·-- the nil slice
        rw[hnm] at hq
        simp only[Ur,Den.own.injEq] at hq
        subst hq
        have hl0:l=[]:=by cases hp;rfl
        subst hl0
        subst hm
        obtain⟨v',w',h1,h2⟩:=bf (P:=P) κ.w t ty e' i z s by_ hu hi hz hsz hby hzs (.slice none 0 0) 0 [] (World.ownsRow_nil _ _ _ _) A ys.length cc news (by rw[hrow.1]) hat hone (by simpa using k1) (by simpa using k2)
        rcases h2 with ⟨h0,rfl,rfl⟩ | ⟨_,g,cap,cur,h0,_⟩ | ⟨_,cs,cap,rfl,rfl,q1,q2,q3,q4⟩
        ·have hys0:ys=[]:=UH h0
         subst hys0
         obtain⟨a1,a2,a3⟩:=EG (hS.drop q) hn e' s
         exact⟨_,(⟨κ.w,fun r=>if r=new then some (.own (.slice none 0 0)) else κ.nm r,κ.imm⟩:Kap),h1,a3,⟨a1.ext,a1.left,a1.size,a1.fresh⟩,a2⟩
        ·cases h0
        ·simp only[UI,UK] at q1 q4
         obtain⟨κ',e1,e2,e3,e4⟩:=lq (e:=e') (hS.drop q) hw hn hrow (n:=ys.length) rfl q1 q2 q3 q4 κ.w.drew rfl rfl rfl rfl
         exact⟨_,κ',by rw[h1,e1],by simpa using e2,e3,e4⟩
       rw[hnm] at hq
       simp only[Ur,Den.own.injEq] at hq
       subst hq
       obtain⟨hnl,xs,hxrow,hxone,hxat⟩:=u9 hp (UP.2 fun x hx=>by simpa using hls x hx)
       have hxs:cur.toList.take (n*s)=xs:=by
        have hnsz:n*s<=cur.size:=by rw[hcs];exact UQ _ hnc
        apply List.ext_getElem?
        intro j
        by_cases hj:j<n*s
        ·have hjx:j<xs.length:=by rw[hxrow.1,<- hnl];exact hj
         have hjc:j<cur.size:=by omega
         rcases hxat with h0 | ⟨a,ha,hc⟩
         ·subst h0;simp at hj
         ·cases ha
          have h3:=hc j _ (Uo hjx)
          rw[Addr.add_lit,cell_of_row κ.w g (0+j) cur e' (0,0) hg] at h3
          rw[UT,if_pos hj,Uo hjx,<- h3]
          simp
        ·rw[UN (by simp;omega),UN (by rw[hxrow.1,<- hnl];omega)]
       have hown:κ.w.ownsRow 0 e' s (.slice (some ⟨g,0,none⟩) n cap) n xs:=⟨by rw[hxrow.1,hnl],.inr ⟨g,cap,cur,rfl,U8 _,hg,hnc,hcm,hcs,hxs⟩⟩
       subst hnl
       subst hm
       obtain⟨v',w',h1,h2⟩:=bf (P:=P) κ.w t ty e' i z s by_ hu hi hz hsz hby hzs _ _ xs hown A ys.length cc news (by rw[hrow.1]) hat hone k1 k2
       have hb0:∀ b,some g=some b->σ q≠.none/\∃ d,κ.nm q=some d/\d.block=some b:=fun b hb=>⟨by rw[hσ];simp,_,hnm,hb⟩
       have hls':∀ x∈l++ys,x.cells.length=s:=by
        intro x hx
        rcases List.mem_append.1 hx with h | h
        ·exact hls x h
        ·obtain⟨i,hi⟩:=List.getElem?_of_mem h
         exact hrow.2.1 i x hi
       rcases h2 with ⟨h0,rfl,rfl⟩ | ⟨_,g',cap',cur',h0,hg',q1,q2,q3,q4,rfl,rfl⟩ | ⟨_,cs,cap',rfl,rfl,q1,q2,q3,q4⟩
       ·-- nothing to add
        have hys0:ys=[]:=UH h0
        subst hys0
        obtain⟨h3,h4⟩:=wS (d:=.own (.slice (some ⟨g,0,none⟩) l.length cap)) (Bn:=.tok e' s) (q:=fun _ _=>False) (b':=g) (b0:=some g) (r0:=q) hS hw ⟨rfl,rfl,rfl,UA _,fun _ _ _=>rfl⟩ hn rfl (.inl rfl) (fun _ _ h=>h.elim) (fun _ _ _ h=>h) (fun _ _ _ _ _ h=>h) hb0
        refine⟨_,(⟨κ.w,fun r=>if r=new then some (Den.own (.slice (some ⟨g,0,none⟩) l.length cap)) else κ.nm r,fun b o=>κ.imm b o\/False⟩:Kap),h1,.olist _ _ _ _ (by simp) ?_ hls',h3,h4 (.inr ⟨g,l.length,cap,cur,by simp,hg,hnc,hcm,hcs,fun o ho hi=>hi.elim (hfree o ho) id⟩)⟩
        rw[List.append_nil]
        exact hp.ext h3.ext
       ·-- there is pj
        cases h0
        rw[hg] at hg';cases hg'
        have hnl2:news.length=ys.length*s:=hrow.1
        have hfit:l.length*s+news.length<=cur.toList.length:=by
         have hcl:cur.toList.length=cur.size:=by simp
         rw[hnl2,hcl,hcs,<- Nat.add_mul];exact UQ _ q1
        have hgrow:κ.w.grownBy (κ.w.setRow g (cur.toList.take (l.length*s)++news++cur.toList.drop (l.length*s+news.length)).toArray) (some g):=
         ⟨rfl,rfl,rfl,by simp,fun k _ hk=>setRow_other κ.w g k _ (fun h=>hk (by rw[h]))⟩
        have hnewrow:=setRow_heap κ.w g cur (cur.toList.take (l.length*s)++news++cur.toList.drop (l.length*s+news.length)).toArray e' (0,0) hg
        have hkeep:∀ (o:Nat) (u:Value),κ.imm g o->κ.w.cell? ⟨g,o,none⟩=some u ->
          (κ.w.setRow g (cur.toList.take (l.length*s)++news++cur.toList.drop (l.length*s+news.length)).toArray).cell? ⟨g,o,none⟩=some u:=by
         intro o u ho hc
         have hlt:o<l.length*s:=by
          rcases Nat.lt_or_ge o (l.length*s) with h | h
          ·exact h
          ·exact absurd ho (hfree o h)
         rw[cell_of_row κ.w g o cur e' (0,0) hg] at hc
         rw[cell_of_row _ g o _ e' (0,0) hnewrow]
         simp only[List.getElem?_toArray]
         rw[dn cur.toList news (l.length*s) o hfit,if_neg (by omega)]
         simpa using hc
        have htk:=n8 cur.toList (l.length*s) 0 news xs hxs hfit
        have hmul:l.length*s+news.length=(l++ys).length*s:=by rw[hnl2,Us,Nat.add_mul]
        obtain⟨h3,h4⟩:=wS (d:=.own (.slice (some ⟨g,0,none⟩) (l.length+ys.length) cap)) (Bn:=.tok e' s) (q:=fun b o=>b=g/\o<(l++ys).length*s) (b':=g) (b0:=some g) (r0:=q) hS hw hgrow hn rfl (.inl rfl)
         (fun _ _ h=>h.1) hkeep (fun b o u hb ho hc=>by cases hb;exact hkeep o u ho hc) hb0
        have hrow2:=(hxrow.append hrow).ext h3.ext
        refine⟨_,_,h1,.olist _ _ _ _ (by simp) (hrow2.list (by simp) q1 hcm (my hnewrow (n:=l.length*s+news.length) htk) (fun j hj=>.inr ⟨rfl,by simpa using hj⟩)) hls',h3,
         h4 (.inr ⟨g,l.length+ys.length,cap,_,by simp,hnewrow,q1,hcm,?_,?_⟩)⟩
        ·simp only[Vu,Us,UM,UC]
         rw[<- hcs];simp only[VA] at hfit ⊢;omega
        ·rintro o ho (h | ⟨_,h⟩)
         ·exact hfree o (Nat.le_trans (UQ _ (by omega)) ho) h
         ·simp only[Us] at h;omega
       ·-- a new block
        obtain⟨κ',e1,e2,e3,e4⟩:=lq (e:=e') (hS.drop q) hw hn (hxrow.append hrow) (n:=l.length+ys.length) (by simp) q1 q2 q3 q4 κ.w.drew rfl rfl rfl rfl
        exact⟨_,κ',by rw[h1,e1],by simpa using e2,e3,e4⟩
    ·cases hr
   ·cases hr
  ·simp_all
  ·simp_all
  ·cases hr
 ·cases hr
end
section
variable {P:Program}{c:Ctx}{κ:Kap}{σ:aD}
theorem vN {sz:Nat}{ys:List PV}{xs:List Value}(h:fC κ sz ys xs):(bD ys).length=xs.length/\∀ (i:Nat) (x:AV),(bD ys)[i]? = some x->ARel κ x (xs.getD i Go.undef):=by
 have hall:∀ l∈ys.map PV.cells,l.length=sz:=by
  intro l hl
  obtain⟨y,hy,rfl⟩:=U9.1 hl
  obtain⟨i,hi⟩:=List.getElem?_of_mem hy
  exact h.2.1 i y hi
 have e:ys.flatMap PV.cells=(ys.map PV.cells).flatten:=by rw[List.flatMap_def]
 have hlen:(ys.flatMap PV.cells).length=ys.length*sz:=by rw[e,iL _ hall];simp
 refine⟨by simp[bD,hlen,h.1],fun i x hx=>?_⟩
 simp only[bD,UB,Uq] at hx
 obtain⟨p,hp,rfl⟩:=hx
 have hi:i<ys.length*sz:=by rw[<- hlen];exact (Up.1 hp).1
 have hsz:0<sz:=by
  rcases Nat.eq_zero_or_pos sz with h0 | h0
  ·subst h0;simp at hi
  ·exact h0
 have hd:=Nat.div_add_mod i sz
 have hm:=Nat.mod_lt i hsz
 rw[e,show i=i / sz*sz+i % sz by rw[Vm];omega,oQ hm _ _ hall] at hp
 simp only[UB] at hp
 cases hy:ys[i / sz]? with
 | none=>simp[hy] at hp
 | some y=>
   simp only[hy,UD,Option.bind_some] at hp
   have:=(h.2.2 (i / sz) y (i % sz) p hy hp).1
   rw[show i / sz*sz+i % sz=i by rw[Vm];omega] at this
   exact .pv _ _ this
theorem jg {l k:List AV}{xs zs:List Value}(hl:l.length=xs.length)(h:∀ (i:Nat) (x:AV),l[i]? = some x->ARel κ x (xs.getD i Go.undef))(g:∀ (i:Nat) (x:AV),k[i]? = some x->ARel κ x (zs.getD i Go.undef)) :
  ∀ (i:Nat) (x:AV),(l++k)[i]? = some x->ARel κ x ((xs++zs).getD i Go.undef):=by
 intro i x hx
 rw[Uv]
 by_cases hi:i<l.length
 ·rw[UO hi] at hx
  rw[UO (by omega),<- Uv]
  exact h i x hx
 ·rw[UR (by omega)] at hx
  rw[UR (by omega),<- hl,<- Uv]
  exact g _ x hx
theorem d8 {l:List AV}{cs:Array Value}{n:Nat}{xs:List Value}(ht:cs.toList.take n=xs)(hl:l.length<=n)(h:∀ (i:Nat) (x:AV),l[i]? = some x->ARel κ x (xs.getD i Go.undef)) :
  ∀ (i:Nat) (x:AV),l[i]? = some x->ARel κ x (cs.getD i Go.undef):=by
 intro i x hx
 have hi:i<l.length:=(Up.1 hx).1
 have:=h i x hx
 rw[aF]
 rw[<- ht,Uv,UT,if_pos (by omega),<- Uv] at this
 exact this
theorem A1 {t ty e sz by_ new:Nat}{x y v:AV}{ux uy:Value}{δ:List (Nat×Blk)}(hS:SRel c κ σ)(hw:c.w0.heap.size<=κ.w.heap.size)(hn:κ.nm new=none)(hI:ElemInfo P t e sz by_)
  (hx:ARel κ x ux) (hy:ARel κ y uy) (hr:ef true e sz by_ new σ x y=some (v,δ)) :
  ∃ u κ',(Builtin.append_ #[t,t] ty #[ux,uy]).run P κ.w = .ok u κ'.w/\ARel κ' v u/\Done c κ κ' new/\SRel c κ' (σ.upd δ):=by
 obtain⟨hu,i,z,hi,hz,hsz,hby,hzs⟩:=hI
 unfold ef at hr
 split at hr
 ·rename_i ys hys
  obtain⟨A,m,cc,news,rfl,hm,hrow,hone,hat⟩:=mh hS hy hys
  obtain⟨hfl,hfr⟩:=vN hrow
  split at hr
  ·simp_all
  ·simp_all
  ·-- onto nil
   have hux:ux = .slice none 0 0:=by cases aS hx;rfl
   subst hux
   split at hr
   ·cases hr
    obtain⟨v',w',h1,h2⟩:=bf (P:=P) κ.w t ty e i z sz by_ hu hi hz hsz hby hzs (.slice none 0 0) 0 [] (World.ownsRow_nil _ _ _ _) A m cc news (by rw[hrow.1,hm]) hat hone (by rw[hm];simp) (by rw[hm];simp)
    rcases h2 with ⟨_,rfl,rfl⟩ | ⟨h0,_⟩ | ⟨h0,_⟩
    ·exact⟨_,κ,h1,.pv _ _ .nils,Done.same c κ new,by simpa[rQ] using hS⟩
    ·simp at hm;omega
    ·simp at hm;omega
   ·rename_i y0 r
    split at hr
    ·rename_i hroom
     cases hr
     obtain⟨k1,k2⟩:=je hroom
     simp only[Ut] at hm
     subst hm
     obtain⟨v',w',h1,h2⟩:=bf (P:=P) κ.w t ty e i z sz by_ hu hi hz hsz hby hzs (.slice none 0 0) 0 [] (World.ownsRow_nil _ _ _ _) A (r.length+1) cc news (by rw[hrow.1];rfl) hat hone k1 k2
     rcases h2 with ⟨h0,_⟩ | ⟨_,g,cap,cur,h0,_⟩ | ⟨_,cs,cap,rfl,rfl,q1,q2,q3,q4⟩
     ·omega
     ·cases h0
     ·simp only[UI,UK] at q1 q4
      have hnl:news.length=(r.length+1)*sz:=hrow.1
      have hle:(r.length+1)*sz<=cap*sz:=UQ _ q1
      obtain⟨κ',e1,e2,e3,e4⟩:=cr (T:=e) (f:=false) (l:=bD (y0::r)) hS hw hn (by omega) (fun h=>by cases h) (d8 q4 (by omega) hfr) κ.w.drew rfl rfl rfl rfl
      refine⟨_,κ',by rw[h1,e1],?_,e3,e4⟩
      simp only[UI]
      exact .row _ _ _ _ _ _ cap e2 (by omega) (fun _=>q3.symm) q1 q2
    ·cases hr
  ·-- onto a row of the call's own
   rename_i q s off len _
   split at hr
   ·rename_i e' f lw hσ
    split at hr
    ·rename_i hh
     obtain⟨rfl,rfl,rfl,hllw,hroom⟩:=hh
     cases hr
     obtain⟨k1,k2⟩:=je hroom
     subst hm
     cases hx with
     | row0 _ _ hnm=>
       have hB:=hS.blk q
       rw[hσ] at hB
       obtain⟨rfl,rfl⟩:f=false/\lw=[]:=by
        rcases hB with ⟨h1,h2,_⟩ | ⟨_,_,_,h1,_⟩
        ·exact⟨h1,h2⟩
        ·rw[hnm] at h1;cases h1
       obtain⟨v',w',h1,h2⟩:=bf (P:=P) κ.w t ty e' i z s by_ hu hi hz hsz hby hzs (.slice none 0 0) 0 [] (World.ownsRow_nil _ _ _ _) A ys.length cc news (by rw[hrow.1]) hat hone k1 k2
       rw[List.take_nil,UK,UI]
       rcases h2 with ⟨h0,rfl,rfl⟩ | ⟨_,g,cap,cur,h0,_⟩ | ⟨_,cs,cap,rfl,rfl,q1,q2,q3,q4⟩
       ·have hys0:ys=[]:=UH h0
        subst hys0
        obtain⟨h3,h4,h5⟩:=pd (hS.drop q) hn e' s
        exact⟨_,⟨κ.w,fun r=>if r=new then some (.own (.slice none 0 0)) else κ.nm r,κ.imm⟩,h1,h5,h3,h4⟩
       ·exact absurd h0 (by simp)
       ·simp only[UI,UK] at q1 q4
        have hnl:news.length=ys.length*s:=hrow.1
        have hle:ys.length*s<=cap*s:=UQ _ q1
        obtain⟨κ',e1,e2,e3,e4⟩:=cr (T:=e') (f:=false) (l:=bD ys) (hS.drop q) hw hn (by omega) (fun h=>by cases h) (d8 q4 (by omega) hfr) κ.w.drew rfl rfl rfl rfl
        refine⟨_,κ',by rw[h1,e1],?_,e3,e4⟩
        rw[UI]
        exact .row _ _ _ _ _ _ cap e2 (by omega) (fun _=>q3.symm) q1 q2
     | row _ _ _ _ b N cap hnm h5 h6 h7 h8=>
       obtain⟨cur,hg,hcs,hlnw,hf,himm,hrelw,hcell⟩:=cR hS hσ hnm
       obtain⟨l,hl0,hll,hln,hrel⟩:∃ l,lw.take (len*s)=l/\l.length=len*s/\l.length<=N/\∀ (i:Nat) (x:AV),l[i]? = some x->ARel κ x (cur.getD i Go.undef):=by
        refine⟨_,rfl,by simp;omega,by simp;omega,fun i x hx=>?_⟩
        rw[UT] at hx
        split at hx
        ·exact hrelw i x hx
        ·cases hx
       rw[hl0]
       have hcap:=h6 rfl
       have hown:κ.w.ownsRow 0 e' s (.slice (some ⟨b,0,none⟩) len cap) len (cur.toList.take (len*s)):=by
        refine⟨?_,.inr ⟨b,cap,cur,rfl,U8 _,hg,h7,h8,by omega,rfl⟩⟩
        simp;rw[hcs,<- hcap];exact Nat.min_eq_left (UQ _ h7)
       have hxl:(cur.toList.take (len*s)).length=len*s:=hown.1
       have hlrel:∀ (i:Nat) (x:AV),l[i]? = some x->ARel κ x ((cur.toList.take (len*s)).getD i Go.undef):=by
        intro i x hx
        have hi:i<l.length:=(Up.1 hx).1
        have:=hrel i x hx
        rw[aF] at this
        rw[Uv,UT,if_pos (by omega),<- Uv]
        exact this
       have hall:=jg (κ:=κ) (by omega) hlrel hfr
       have hlen2:(l++bD ys).length=(len+ys.length)*s:=by
        have:news.length=ys.length*s:=hrow.1
        rw[Us,hfl,this,hll,Nat.add_mul]
       have hlen3:(l++bD ys).length=len*s+news.length:=by rw[Us,hfl,hll]
       obtain⟨v',w',h1,h2⟩:=bf (P:=P) κ.w t ty e' i z s by_ hu hi hz hsz hby hzs _ _ _ hown A ys.length cc news (by rw[hrow.1]) hat hone k1 k2
       have hb0:∀ b',some b=some b'->σ q≠.none/\∃ d,κ.nm q=some d/\d.block=some b':=fun b' hb=>⟨by rw[hσ];simp,_,hnm,hb⟩
       rcases h2 with ⟨h0,rfl,rfl⟩ | ⟨_,g',cap',cur',h0,hg',q1,q2,q3,q4,rfl,rfl⟩ | ⟨_,cs,cap',rfl,rfl,q1,q2,q3,q4⟩
       ·have hys0:ys=[]:=UH h0
        subst hys0
        obtain⟨h3,h4⟩:=wS (d:=.blk b N) (Bn:=.cells e' false (l++bD [])) (q:=fun _ _=>False) (b':=b) (b0:=some b) (r0:=q) hS hw ⟨rfl,rfl,rfl,UA _,fun _ _ _=>rfl⟩ hn rfl (.inl rfl) (fun _ _ h=>h.elim) (fun _ _ _ h=>h) (fun _ _ _ _ _ h=>h) hb0
        refine⟨_,(⟨κ.w,fun r=>if r=new then some (Den.blk b N) else κ.nm r,fun b o=>κ.imm b o\/False⟩:Kap),h1,?_,h3,h4 (.inr ⟨b,N,cur,by simp,hg,hcs,?_,fun h=>(by cases h),fun i x hx=>?_,fun o hi=>hi.elim (himm o) id⟩)⟩
        ·exact .row _ _ _ _ b N cap (by simp) h5 h6 (by simpa using h7) h8
        ·simp[bD];omega
        ·have hx':l[i]? = some x:=by simpa[bD] using hx
         exact (hrel i x hx').ext h3.ext
       ·cases h0
        rw[hg] at hg';cases hg'
        have hnl2:news.length=ys.length*s:=hrow.1
        have hcl:cur.toList.length=cur.size:=by simp
        have hfit:len*s+news.length<=cur.toList.length:=by
         rw[hnl2,hcl,q3,<- Nat.add_mul];exact UQ _ q1
        have hgrow:κ.w.grownBy (κ.w.setRow b (cur.toList.take (len*s)++news++cur.toList.drop (len*s+news.length)).toArray) (some b):=
         ⟨rfl,rfl,rfl,by simp,fun k _ hk=>setRow_other κ.w b k _ (fun h=>hk (by rw[h]))⟩
        have hnewrow:=setRow_heap κ.w b cur (cur.toList.take (len*s)++news++cur.toList.drop (len*s+news.length)).toArray e' (0,0) hg
        have htk:=n8 cur.toList (len*s) 0 news _ rfl hfit
        obtain⟨h3,h4⟩:=wS (d:=.blk b N) (Bn:=.cells e' false (l++bD ys)) (q:=fun _ _=>False) (b':=b) (b0:=some b) (r0:=q) hS hw hgrow hn rfl (.inl rfl)
         (fun _ _ h=>h.elim) (fun o _ ho=>absurd ho (himm o)) (fun b' o _ hb ho=>by cases hb;exact absurd ho (himm o)) hb0
        refine⟨_,_,h1,.row _ _ _ _ b N cap (by simp) h5 h6 q1 h8,h3,h4 (.inr ⟨b,N,_,by simp,hnewrow,?_,?_,fun h=>(by cases h),?_,fun o hi=>hi.elim (himm o) id⟩)⟩
        ·simp only[Vu,Us,UM,UC];omega
        ·rw[hlen2,<- hcap];exact UQ _ q1
        ·have hz:=d8 (κ:=κ) (l:=l++bD ys) (cs:=(cur.toList.take (len*s)++news++cur.toList.drop (len*s+news.length)).toArray) (n:=len*s+news.length) (by simpa using htk) (by rw[hlen3];exact UA _) hall
         exact fun i x hx=>(hz i x hx).ext h3.ext
       ·obtain⟨κ',e1,e2,e3,e4⟩:=cr (T:=e') (f:=false) (l:=l++bD ys) (hS.drop q) hw hn (by rw[hlen2,q3];exact UQ _ q1) (fun h=>by cases h) (d8 q4 (by omega) hall) κ.w.drew rfl rfl rfl rfl
        exact⟨_,κ',by rw[h1,e1],.row _ _ _ _ _ _ cap' e2 (by omega) (fun _=>q3.symm) q1 q2,e3,e4⟩
    ·cases hr
   ·cases hr
  ·cases hr
 ·cases hr
end
section
variable {P:Program}{c:Ctx}{κ:Kap}{σ:aD}
theorem vP {sz:Nat}:∀ (vs:List AV) (pre:List AV) (i:Nat),pre.length=i*sz->(∀ v∈vs,v.known=true/\v.cells.length=sz) ->
  gV (pre++U4 (vs.length*sz) AV.any) ((vs.zipIdx i).map fun p=>(p.2*sz,sz,p.1))=some (pre++vs.flatMap AV.cells)
 | [],pre,i,_,_=>by simp[gV]
 | v::r,pre,i,hp,h=>by
   obtain⟨hk,hs⟩:=h v (by simp)
   simp only[List.zipIdx_cons,UE,gV]
   rw[if_pos ⟨hk,hs,by simp only[Us,List.length_replicate,Ut,hp,Nat.succ_mul];omega⟩]
   have e:(pre++U4 ((r.length+1)*sz) AV.any).take (i*sz)++v.cells++(pre++U4 ((r.length+1)*sz) AV.any).drop (i*sz+sz)=(pre++v.cells)++U4 (r.length*sz) AV.any:=by
    rw[<- hp,List.take_left,List.drop_append]
    rw[List.drop_eq_nil_of_le (by omega)]
    simp only[UK,List.drop_replicate]
    congr 2
    rw[Nat.succ_mul];omega
   simp only[Ut]
   rw[e,vP r (pre++v.cells) (i+1) (by rw[Us,hp,hs,Nat.succ_mul]) (fun v hv=>h v (by simp[hv]))]
   simp
theorem na {t e sz len:Nat}{z:Value}{parts:Array (Nat×Value)}{vs:List AV}{w:World}(hu:P.underlying t=some (.slice e))(hn:g9 P e=some sz)(hz:(zeroValue e).run P w = .ok z w)
  (hbig:len*sz<=2 ^ 24) (hidx:parts.toList.map (·.1)=UZ len) (hrel:∀ (i:Nat) (v:AV),vs[i]? = some v->ARel κ v ((parts.toList.map (·.2)).getD i Go.undef)) (hlen:vs.length=len)
  (hok:∀ v∈vs,v.known=true/\v.cells.length=sz) :
  ∃ us:Array Value,(Instr.buildSlice t len parts).run P w = .ok (.slice (some ⟨w.heap.size,0,none⟩) len len) (w.alloc (.cells us e))/\us.size=len*sz /\
    ∀ (i:Nat) (x:AV),(vs.flatMap AV.cells)[i]? = some x->ARel κ x (us.getD i Go.undef):=by
 have hfl:(vs.flatMap AV.cells).length=len*sz:=by
  rw[List.flatMap_def,iL (sz:=sz)]
  ·simp[hlen]
  ·intro l hl
   obtain⟨y,hy,rfl⟩:=U9.1 hl
   exact (hok y hy).2
 have hplen:parts.toList.length=len:=by
  have:=congrArg List.length hidx;simpa using this
 let qs:List (Nat×Nat×Nat×AV×Value):=(UZ len).map fun i=>(i,i*sz,sz,vs.getD i .any,(parts.toList.map (·.2)).getD i Go.undef)
 have hq1:qs.map (fun q=>(q.2.1,q.2.2.1,q.2.2.2.1))=(vs.zipIdx 0).map fun p=>(p.2*sz,sz,p.1):=by
  apply List.ext_getElem?
  intro i
  simp only[qs,List.map_map,UB,List.getElem?_zipIdx,UI]
  by_cases hi:i<len
  ·rw[List.getElem?_range hi,Uo (show i<vs.length by omega)]
   simp[Uv,show i<vs.length by omega]
  ·rw[UN (by simp;omega),UN (by omega)]
   rfl
 have hq2:qs.map (fun q=>(q.1,q.2.2.2.2))=parts.toList:=by
  apply List.ext_getElem?
  intro i
  simp only[qs,List.map_map,UB]
  by_cases hi:i<len
  ·rw[List.getElem?_range hi,Uo (show i<parts.toList.length by omega)]
   have h1:(parts.toList.map (·.1))[i]? = some i:=by rw[hidx,List.getElem?_range hi]
   rw[UB,Uo (show i<parts.toList.length by omega)] at h1
   simp only[UD,Ur] at h1
   simp only[UD,Function.comp,Uv,UB,Uo (show i<parts.toList.length by omega),Vg]
   congr 1
   exact Prod.ext h1.symm rfl
  ·rw[UN (by simp;omega),UN (by omega)]
   rfl
 let zero:Array Value:=if len*sz=0 then #[] else z.cells
 obtain⟨us,h1,h2,h3⟩:=A0 (κ:=κ) (fun i=>some (i*sz,sz)) qs (U4 (len*sz) .any) ((Array.range (len*sz)).map (zero[· % zero.size]!)) (vs.flatMap AV.cells) (by simp) (fun i x hx=>by
   have:x = .any:=by
    have:=Uw hx
    exact (List.mem_replicate.1 this).2
   subst this;exact .any _) (by
   intro q hq
   simp only[qs,U9,List.mem_range] at hq
   obtain⟨i,hi,rfl⟩:=hq
   refine⟨rfl,?_⟩
   have hv:=Uo (show i<vs.length by omega)
   have:=hrel i _ hv
   simpa[Uv,show i<vs.length by omega] using this) (by
   rw[hq1]
   have:=vP vs [] 0 (by simp) hok
   simpa[hlen] using this)
 rw[hq2] at h1
 refine⟨us,?_,by rw[h2,hfl],h3⟩
 simp only[Instr.buildSlice,Sem.run_bind,run_underlying hu,Result.andThen_ok,bP hn]
 rw[if_neg (by omega)]
 by_cases h0:len*sz=0
 ·have hz0:zero = #[]:=by simp[zero,h0]
  rw[hz0] at h1
  rw[if_pos h0]
  simp only[Sem.run_bind,Sem.run_pure,Result.andThen_ok]
  rw[h1]
  simp[newRow,World.alloc_eq]
 ·have hz0:zero=z.cells:=by simp[zero,h0]
  rw[hz0] at h1
  rw[if_neg h0]
  simp only[Sem.run_bind,hz,Sem.run_pure,Result.andThen_ok]
  rw[h1]
  simp[newRow,World.alloc_eq]
theorem nT {t e sz len:Nat}{z:Value}{parts:Array (Nat×Value)}{vs:List AV}{ps:List PV}
  (hu:P.underlying t=some (.slice e)) (hn:g9 P e=some sz) (hz:(zeroValue e).run P κ.w = .ok z κ.w)
  (hbig:len*sz<=2 ^ 24) (hidx:parts.toList.map (·.1)=UZ len) (hrel:∀ (i:Nat) (v:AV),vs[i]? = some v->ARel κ v ((parts.toList.map (·.2)).getD i Go.undef))
  (hl:vs.length=len/\len<=9223372036854775807) (hps:pvs vs=some ps) (hall:ps.all (fun p=>p.cells.length == sz&&p.cells.all PV.one)=true) :
  ∃ us:Array Value,(Instr.buildSlice t len parts).run P κ.w = .ok (.slice (some ⟨κ.w.heap.size,0,none⟩) len len) (κ.w.alloc (.cells us e))/\us.size=len*sz/\fC κ sz ps us.toList:=by
 have hps':∀ (i:Nat) (p:PV),ps[i]? = some p->p.cells.length=sz/\∀ y∈p.cells,y.one=true:=by
  intro i p hp
  have:=(UP.1 hall) p (Uw hp)
  simp only[UF,beq_iff_eq,UP] at this
  exact this
 have hvp:∀ x∈vs,x.known=true/\x.cells.length=sz:=by
  intro x hx
  obtain⟨i,hi⟩:=List.getElem?_of_mem hx
  have hil:i<ps.length:=by rw[ci hps];exact (Up.1 hi).1
  obtain⟨x',hx',hxp⟩:=c8 hps i _ (Uo hil)
  rw[hi] at hx';cases hx'
  have h1:=(hps' i _ (Uo hil)).1
  cases x with
  | pv q=>simp only[AV.toPV,Ur] at hxp;subst hxp;exact⟨rfl,by simpa[AV.cells] using h1⟩
  | olist a b l=>simp only[AV.toPV,Ur] at hxp;rw[<- hxp] at h1;exact⟨rfl,by simpa[AV.cells,PV.cells] using h1⟩
  | _=>simp[AV.toPV] at hxp
 obtain⟨us,h1,h2,h3⟩:=na (P:=P) (κ:=κ) (w:=κ.w) hu hn hz hbig hidx hrel hl.1 hvp
 have hrow:fC κ sz ps us.toList:=by
  refine⟨by simp only[VA];rw[h2,ci hps,hl.1],fun i x hx=>(hps' i x hx).1,fun i x j y hx hy=>?_⟩
  have hj:j<sz:=by rw[<- (hps' i x hx).1];exact (Up.1 hy).1
  obtain⟨x',hx',hxp⟩:=c8 hps i x hx
  have hflat:(vs.flatMap AV.cells)[i*sz+j]? = some (x'.cells.getD j .any):=by
   rw[List.flatMap_def,oQ hj _ _ (by
    intro l hl
    obtain⟨y,hy,rfl⟩:=U9.1 hl
    exact (hvp y hy).2)]
   rw[UB,hx']
   have:j<x'.cells.length:=by rw[(hvp x' (Uw hx')).2];exact hj
   simp[Uv,this]
  have hr3:=h3 _ _ hflat
  have hc:∃ q,x'.cells.getD j .any=q/\q.toPV=some y/\q.one=true:=by
   have hy1:=(hps' i x hx).2 y (Uw hy)
   cases x' with
   | pv q=>
     simp only[AV.toPV,Ur] at hxp;subst hxp
     refine⟨.pv y,?_,rfl,hy1⟩
     simp[AV.cells,Uv,hy]
   | olist a b l=>
     simp only[AV.toPV,Ur] at hxp;subst hxp
     simp only[PV.cells] at hy
     rcases j with _ | j
     ·simp at hy;subst hy
      exact⟨_,rfl,rfl,rfl⟩
     ·simp at hy
   | _=>simp[AV.toPV] at hxp
  obtain⟨q,hq,hqp,hq1⟩:=hc
  rw[hq] at hr3
  rw[<- aF]
  exact⟨bZ hqp hr3,hr3.oneCell hq1⟩
 exact⟨us,h1,h2,hrow⟩
theorem FI {mu:Bool}{t e sz len new:Nat}{z:Value}{parts:Array (Nat×Value)}{vs:List AV}{v:AV}{δ:List (Nat×Blk)}(hS:SRel c κ σ)(hw:c.w0.heap.size<=κ.w.heap.size)(hnew:κ.nm new=none)
  (hu:P.underlying t=some (.slice e)) (hn:g9 P e=some sz) (hz:(zeroValue e).run P κ.w = .ok z κ.w)
  (hbig:len*sz<=2 ^ 24) (hidx:parts.toList.map (·.1)=UZ len) (hrel:∀ (i:Nat) (v:AV),vs[i]? = some v->ARel κ v ((parts.toList.map (·.2)).getD i Go.undef))
  (hr:gO mu e sz len new vs=some (v,δ)) :
  ∃ u κ',(Instr.buildSlice t len parts).run P κ.w = .ok u κ'.w/\ARel κ' v u/\Done c κ κ' new/\SRel c κ' (σ.upd δ):=by
 unfold gO at hr
 split at hr
 ·rename_i hl
  have hmax:len<=maxLen:=by unfold maxLen;omega
  split at hr
  ·split at hr
   ·rename_i ps hps
    split at hr
    ·rename_i hall
     cases hr
     obtain⟨us,h1,h2,hrow⟩:=nT (P:=P) hu hn hz hbig hidx hrel hl hps hall
     obtain⟨κ',e1,e2,e3,e4⟩:=lq (e:=e) hS hw hnew hrow (n:=len) (cap:=len) (by rw[ci hps,hl.1]) (UA _) hmax h2 (UW (by simp;omega)) κ.w rfl rfl rfl rfl
     exact⟨_,κ',by rw[h1,e1],e2,e3,e4⟩
    ·cases hr
   ·cases hr
  ·split at hr
   ·rename_i hall
    cases hr
    have hvp:∀ x∈vs,x.known=true/\x.cells.length=sz:=by
     intro x hx
     have:=(UP.1 hall) x hx
     simp only[UF,beq_iff_eq] at this
     exact this.1
    obtain⟨us,h1,h2,h3⟩:=na (P:=P) (κ:=κ) (w:=κ.w) hu hn hz hbig hidx hrel hl.1 hvp
    have hfl:(vs.flatMap AV.cells).length=us.size:=by
     rw[List.flatMap_def,iL (sz:=sz)]
     ·simp[hl.1,h2]
     ·intro l hl
      obtain⟨y,hy,rfl⟩:=U9.1 hl
      exact (hvp y hy).2
    obtain⟨κ',e1,e2,e3,e4⟩:=cr (T:=e) (f:=true) hS hw hnew (Nat.le_of_eq hfl) (fun _=>hfl) h3 κ.w rfl rfl rfl rfl
    exact⟨_,κ',by rw[h1,e1],.row _ _ _ _ _ _ len e2 (by omega) (fun _=>h2.symm) (UA _) hmax,e3,e4⟩
   ·cases hr
 ·cases hr
end
section
variable {P:Program}{c:Ctx}{κ:Kap}{σ:aD}
theorem Pw {w:World}{imm:Nat->Nat->Prop}{d:TypeDesc}{kd:Option IntKind}{k q:PV}{u v:Value}{b:Bool}(hd:dO d=some kd)(hk:PRel w imm k u)(hkd:ya kd k=true)(hq:PRel w imm q v)(h:keq k q=some b) :
  Instr.sameNow d u v=some b/\(b=true->v=u):=by
 unfold keq at h
 split at h
 ·rename_i x y
  cases hk with
  | str s hs=>
    cases hq with
    | str s' hs'=>
      have hkd':kd=none:=by cases kd<;>simp_all [ya]
      subst hkd'
      have hd':d = .string:=by cases d<;>simp_all [dO]
      subst hd'
      have e:(s == s')=(s.data.toList == s'.data.toList):=by
       by_cases h:s=s'
       ·subst h;rw[(MapKept.bytes_beq s s).2 rfl];simp
       ·have h1:(s == s')=false:=by
         cases hb:s == s' with
         | false=>rfl
         | true=>exact absurd ((MapKept.bytes_beq s s').1 hb) h
        have h2:s.data.toList≠s'.data.toList:=fun e=>h (by
         obtain⟨a⟩:=s;obtain⟨b⟩:=s'
         simp only at e
         rw[Array.toList_inj.1 e])
        rw[h1];simpa using h2
      cases h
      refine⟨by simp[Instr.sameNow,e],fun hb=>?_⟩
      rw[<- e] at hb
      rw[(MapKept.bytes_beq s s').1 hb]
 ·rename_i j x j' y
  split at h
  ·rename_i hj
   subst hj
   cases hk with
   | int _ _=>
     cases hq with
     | int _ _=>
       cases h
       obtain⟨kk,rfl⟩:∃ kk,kd=some kk:=by cases kd<;>simp_all [ya]
       have hd':d = .int kk:=by cases d<;>simp_all [dO]
       subst hd'
       refine⟨by simp[Instr.sameNow],fun hb=>?_⟩
       simp only[beq_iff_eq] at hb
       rw[hb]
  ·cases h
 ·cases h
theorem l8 {w:World}{imm:Nat->Nat->Prop}{d:TypeDesc}{kd:Option IntKind}{k:PV}{u:Value}(hd:dO d=some kd)(hk:PRel w imm k u)(hkd:ya kd k=true) :
  ∀ (es:List MapEntry) (l:List (PV×PV)) (i:Nat),es.length=l.length->(∀ (j:Nat) (e:MapEntry),es[j]? = some e->∃ p,l[j]? = some p/\PRel w imm p.1 e.key/\PRel w imm p.2 e.val) ->
    ∀ r,jq k l i=some r->(r=none/\Instr.findNow d u es i=some none) \/
      ∃ j p e,r=some (i+j,p.2)/\l[j]? = some p/\es[j]? = some e/\Instr.findNow d u es i=some (some (i+j,e.val))/\PRel w imm p.2 e.val/\e.key=u
 | [],[],i,_,_,r,h=>by cases h;exact .inl ⟨rfl,rfl⟩
 | [],_::_,_,hl,_,_,_=>by simp at hl
 | _::_,[],_,hl,_,_,_=>by simp at hl
 | e::es,p::l,i,hl,hr,r,h=>by
   obtain⟨p',hp',h1,h2⟩:=hr 0 e rfl
   cases hp'
   unfold jq at h
   cases hq:keq k p.1 with
   | none=>rw[hq] at h;cases h
   | some b=>
     rw[hq] at h
     obtain⟨s1,s2⟩:=Pw hd hk hkd h1 hq
     cases b with
     | true=>
       cases h
       exact .inr ⟨0,p,e,rfl,rfl,rfl,by simp[Instr.findNow,s1],h2,s2 rfl⟩
     | false=>
       rcases l8 hd hk hkd es l (i+1) (by simpa using hl) (fun j e' he=>hr (j+1) e' (by simpa using he)) r h with ⟨q1,q2⟩ | ⟨j,p',e',q1,q2,q3,q4,q5,q6⟩
       ·exact .inl ⟨q1,by simp[Instr.findNow,s1,q2]⟩
       ·refine .inr ⟨j+1,p',e',?_,by simpa using q2,by simpa using q3,?_,q5,q6⟩
        ·rw[q1,Nat.add_assoc,Nat.add_comm 1 j]
        ·simp only[Instr.findNow,s1,q4]
         rw[Nat.add_assoc,Nat.add_comm 1 j]
theorem Jk {w:World}{imm:Nat->Nat->Prop}{d:TypeDesc}{kd:Option IntKind}{k:PV}{u:Value}(hd:dO d=some kd)(hk:PRel w imm k u)(hkd:ya kd k=true):MapKept.IsKey d u:=by
 cases kd with
 | none=>
   have hd':d = .string:=by cases d<;>simp_all [dO]
   subst hd'
   cases k<;>simp[ya] at hkd
   cases hk
   trivial
 | some kk=>
   have hd':d = .int kk:=by cases d<;>simp_all [dO]
   subst hd'
   cases k<;>simp[ya] at hkd
   cases hk
   exact hkd.symm
theorem Ku {t:TypeId}{new:Nat}(hS:SRel c κ σ)(hw:c.w0.heap.size<=κ.w.heap.size)(hn:κ.nm new=none) :
  ∃ u κ',(Instr.makeMap t none).run P κ.w = .ok u κ'.w/\ARel κ' (.mp new) u/\Done c κ κ' new/\SRel c κ' (σ.upd [(new,.mp [])]):=by
 obtain⟨h1,h2⟩:=Pl hS hw hn (.map #[] 0) (.mp κ.w.heap.size) (.mp []) (fun _=>False) rfl κ.w rfl rfl rfl rfl
 refine⟨.map (some κ.w.heap.size),_,rfl,.mp _ _ (by simp),h1,h2 ⟨κ.w.heap.size,#[],0,by simp,(MapKept.heap_alloc κ.w _).1,by simp,rfl,?_⟩⟩
 rintro o (hi | ⟨_,hi⟩)
 ·have:=hS.immLt _ _ hi;omega
 ·exact hi
theorem Jh (hS:SRel c κ σ){r b:Nat}{l:List (PV×PV)}(h:σ r = .mp l)(hb:κ.nm r=some (.mp b)) :
  ∃ es ck,κ.w.heap[b]? = some (.map es ck)/\(∀ (i:Nat) (e:MapEntry),es[i]? = some e->∃ p,l[i]? = some p/\PRel κ.w κ.imm p.1 e.key/\PRel κ.w κ.imm p.2 e.val)/\es.size=l.length/\∀ o,¬ κ.imm b o:=by
 have hB:=hS.blk r
 rw[h] at hB
 obtain⟨b',es,ck,h1,h2,h3,h4,h5⟩:=hB
 rw[hb] at h1;cases h1
 exact⟨es,ck,h2,h3,h4,h5⟩
theorem Kt {t kt et:TypeId}{d:TypeDesc}{kd:Option IntKind}{co:Bool}{i:TypeInfo}{z:Value}{p:PV}{x k v:AV}{ux uk:Value}(hS:SRel c κ σ)(ht:P.underlying t=some (.map kt et))(hdk:P.underlying kt=some d)
  (hd:dO d=some kd) (hi:P.info? et=some i) (hz:i.zero=some z) (hp:cV z=some p) (hx:ARel κ x ux) (hk:ARel κ k uk) (hr:oq kd co p σ x k=some v) :
  ∃ u,(Instr.lookup t ux uk co).run P κ.w = .ok u κ.w/\ARel κ v u:=by
 unfold oq at hr
 split at hr
 ·rename_i r kp
  split at hr
  ·rename_i l hσ
   split at hr
   ·rename_i hkd
    cases hx with
    | mp _ b hnm=>
      obtain⟨es,ck,g1,g2,g3,g4⟩:=Jh hS hσ hnm
      have hkr:=aS hk
      have hkey:=Jk hd hkr hkd
      have hzr:(zeroValue et).run P κ.w = .ok z κ.w:=by simp[zeroValue,typeInfo,hi,hz]
      have hg2:∀ (j:Nat) (e:MapEntry),es.toList[j]? = some e->∃ p,l[j]? = some p/\PRel κ.w κ.imm p.1 e.key/\PRel κ.w κ.imm p.2 e.val:=fun j e he=>g2 j e (by simpa using he)
      split at hr
      ·rename_i n q hf
       rcases l8 hd hkr hkd es.toList l 0 (by simpa using g3) hg2 _ hf with ⟨q1,_⟩ | ⟨j,p',e,q1,q2,q3,q4,q5,q6⟩
       ·cases q1
       cases q1
       cases co with
       | true=>
         cases hr
         refine⟨.tuple #[e.val,.bool true],by simp[Instr.lookup,run_underlying ht,MapKept.run_getObj_map g1,MapKept.run_checkKey hdk hkey,MapKept.run_findKey hdk q4],.pv _ _ (.tup _ _ rfl fun j x hx=>?_)⟩
         match j with
         | 0=>simp at hx;subst hx;simpa using q5
         | 1=>simp at hx;subst hx;simpa using PRel.bool true
         | j+2=>simp at hx
       | false=>
         cases hr
         exact⟨e.val,by simp[Instr.lookup,run_underlying ht,MapKept.run_getObj_map g1,MapKept.run_checkKey hdk hkey,MapKept.run_findKey hdk q4],.pv _ _ q5⟩
      ·rename_i hf
       rcases l8 hd hkr hkd es.toList l 0 (by simpa using g3) hg2 _ hf with ⟨_,q4⟩ | ⟨j,p',e,q1,_⟩
       rotate_left
       ·cases q1
       cases co with
       | true=>
         cases hr
         refine⟨.tuple #[z,.bool false],by simp[Instr.lookup,run_underlying ht,MapKept.run_getObj_map g1,MapKept.run_checkKey hdk hkey,MapKept.run_findKey hdk q4,hzr],.pv _ _ (.tup _ _ rfl fun j x hx=>?_)⟩
         match j with
         | 0=>simp at hx;subst hx;simpa using jV hp
         | 1=>simp at hx;subst hx;simpa using PRel.bool false
         | j+2=>simp at hx
       | false=>
         cases hr
         exact⟨z,by simp[Instr.lookup,run_underlying ht,MapKept.run_getObj_map g1,MapKept.run_checkKey hdk hkey,MapKept.run_findKey hdk q4,hzr],.pv _ _ (jV hp)⟩
      ·cases hr
   ·cases hr
  ·cases hr
 ·cases hr
theorem Ou {t kt et:TypeId}{d:TypeDesc}{kd:Option IntKind}{new:Nat}{x k v:AV}{ux uk uv:Value}{δ:List (Nat×Blk)}(hS:SRel c κ σ)(ht:P.underlying t=some (.map kt et))(hdk:P.underlying kt=some d)
  (hd:dO d=some kd) (hx:ARel κ x ux) (hk:ARel κ k uk) (hv:ARel κ v uv) (hr:oo kd σ x k v=some δ) :
  ∃ w',(Instr.mapUpdate t ux uk uv).run P κ.w = .ok () w'/\Done c κ ⟨w',κ.nm,κ.imm⟩ new/\SRel c ⟨w',κ.nm,κ.imm⟩ (σ.upd δ):=by
 unfold oo at hr
 split at hr
 ·rename_i r kp
  split at hr
  ·rename_i l q hσ hq
   split at hr
   ·rename_i hkd
    cases hx with
    | mp _ b hnm=>
      obtain⟨es,ck,g1,g2,g3,g4⟩:=Jh hS hσ hnm
      have hkr:=aS hk
      have hkey:=Jk hd hkr hkd
      have hqv:PRel κ.w κ.imm q uv:=bZ hq hv
      have hg2:∀ (j:Nat) (e:MapEntry),es.toList[j]? = some e->∃ p,l[j]? = some p/\PRel κ.w κ.imm p.1 e.key/\PRel κ.w κ.imm p.2 e.val:=fun j e he=>g2 j e (by simpa using he)
      have step:∀ (es':Array MapEntry) (ck':Nat) (l':List (PV×PV)),(∀ (i:Nat) (e:MapEntry),es'[i]? = some e->∃ p,l'[i]? = some p/\PRel κ.w κ.imm p.1 e.key/\PRel κ.w κ.imm p.2 e.val)->es'.size=l'.length ->
        Done c κ ⟨{ κ.w with heap:=κ.w.heap.setIfInBounds b (.map es' ck') },κ.nm,κ.imm⟩ new/\SRel c ⟨{ κ.w with heap:=κ.w.heap.setIfInBounds b (.map es' ck') },κ.nm,κ.imm⟩ (σ.upd [(r,.mp l')]):=by
       intro es' ck' l' k1 k2
       obtain⟨h1,h2⟩:=wR hS (r0:=r) (b0:=b) (d0:=.mp b) (Bo:=.mp l') (w':={ κ.w with heap:=κ.w.heap.setIfInBounds b (.map es' ck') }) new
        rfl rfl rfl (by simp) (fun b' hb'=>(MapKept.heap_set g1).2 b' hb') g4 (by rw[hσ];simp) hnm rfl
       refine⟨h1,h2 ⟨b,es',ck',hnm,(MapKept.heap_set g1).1,fun i e he=>?_,k2,g4⟩⟩
       obtain⟨p,e1,e2,e3⟩:=k1 i e he
       exact⟨p,e1,e2.ext h1.ext,e3.ext h1.ext⟩
      split at hr
      ·rename_i n q' hf
       cases hr
       rcases l8 hd hkr hkd es.toList l 0 (by simpa using g3) hg2 _ hf with ⟨q1,_⟩ | ⟨j,p',e,q1,q2,q3,q4,q5,q6⟩
       ·cases q1
       cases q1
       rw[UI] at q4 ⊢
       have he:es[j]? = some e:=by simpa using q3
       obtain⟨h1,h2⟩:=step (es.modify j fun e=>{ e with key:=uk,val:=uv }) ck (l.set j (kp,q)) (fun i e' he'=>by
        rw[Vw] at he'
        rw[List.getElem?_set]
        by_cases hij:j=i
        ·subst hij
         rw[if_pos rfl,he] at he'
         cases he'
         have hlt:j<l.length:=(Up.1 q2).1
         exact⟨(kp,q),by simp[hlt],hkr,hqv⟩
        ·rw[if_neg hij] at he'
         rw[if_neg hij]
         exact g2 i e' he') (by simpa using g3)
       refine⟨_,?_,h1,h2⟩
       have hke:e.key=uk:=q6
       simp[Instr.mapUpdate,run_underlying ht,MapKept.run_getObj_map g1,MapKept.run_checkKey hdk hkey,MapKept.run_findKey hdk q4,he,hke,MapKept.run_keyThatStays hkey,MapKept.run_setObj_map _ g1]
      ·rename_i hf
       cases hr
       rcases l8 hd hkr hkd es.toList l 0 (by simpa using g3) hg2 _ hf with ⟨_,q4⟩ | ⟨j,p',e,q1,_⟩
       rotate_left
       ·cases q1
       obtain⟨h1,h2⟩:=step (es.push { key:=uk,val:=uv,born:=ck }) (ck+1) (l++[(kp,q)]) (fun i e' he'=>by
        rw[Array.getElem?_push] at he'
        split at he'
        ·rename_i hi
         cases he'
         subst hi
         exact⟨(kp,q),by simp[g3],hkr,hqv⟩
        ·have hlt:i<l.length:=by have:=(Array.getElem?_eq_some_iff.1 he').1;omega
         obtain⟨p,e1,e2⟩:=g2 i e' he'
         exact⟨p,by rw[UO hlt];exact e1,e2⟩) (by simp[g3])
       refine⟨_,?_,h1,h2⟩
       simp[Instr.mapUpdate,run_underlying ht,MapKept.run_getObj_map g1,MapKept.run_checkKey hdk hkey,MapKept.run_findKey hdk q4,MapKept.run_setObj_map _ g1]
      ·cases hr
   ·cases hr
  ·cases hr
 ·cases hr
end
def jy:String:= "internal/abi.NoEscape"
def TQ (P:Program)(f:Nat):Bool:=
 match P.funcs[f]? with
 | some fn=>fn.body.isNone&&(fn.name == jy)&&(Extern.allNextRows.lookup fn.origin).isNone
 | none=>false
def ju:String:= "internal/bytealg.IndexByteString"
def TP (P:Program)(f:Nat):Bool:=
 match P.funcs[f]? with
 | some fn=>fn.body.isNone&&(fn.name == ju)&&(Extern.allNextRows.lookup fn.origin).isNone
 | none=>false
def tG (P:Program)(t:TypeId):Option (TypeId×Nat):=
 match P.underlying t with
 | some (.slice e)=>match P.info? e with
   | some i=>match i.zero with
     | some (.int .u8 z)=>if z=0/\i.size=1 then some (e,i.bytes) else none
     | _=>none
   | none=>none
 | _=>none
def Q5 (P:Program)(t:TypeId)(x k v:Operand):Option XOp:=
 match P.underlying t with
 | some (.map kt _)=>match P.underlying kt,cX x,cX k,cX v with
   | some d,some ax,some ak,some av=>(dO d).map fun kd=>.mset kd ax ak av
   | _,_,_,_=>none
 | _=>none
def SG (P:Program)(mu:Bool):Op->Option XOp
 | .call { callee:=.builtin .append,args,argTypes }=>match args.toList,argTypes.toList with
   | [x,y],[t,t']=>match P.underlying t,P.underlying t' with
     | some (.slice _),some .string=>match tG P t,cX x,cX y with
       | some (e,b),some ax,some ay=>if mu=true then some (.apps e b ax ay) else none
       | _,_,_=>none
     | _,_=>none
   | _,_=>none
 | .call { callee:=.value (.func f),args,argTypes:=_ }=>match args.toList with
   | [x,y]=>match TP P f,cX x,cX y with
     | true,some ax,some ay=>some (.idxb ax ay)
     | _,_,_=>none
   | [x]=>match TQ P f,cX x with
     | true,some ax=>some (.noesc ax)
     | _,_=>none
   | _=>none
 | .convert s d x=>match P.underlying s,P.underlying d with
   | some (.pointer t),some .unsafePointer=>match g9 P t,cX x with
     | some n,some ax=>if n≠0 then some (.ucast 0 0 false ax) else none
     | _,_=>none
   | some .unsafePointer,some (.pointer u)=>match g9 P u,cX x with
     | some n,some ax=>if liesAt P P.depth u (n / P.cellsOf u) 0 u 1=true then some (.ucast u n true ax) else none
     | _,_=>none
   | some .string,some (.slice e)=>match P.underlying e,cX x with
     | some (.int .u8),some ax=>some (.ofStr ax)
     | _,_=>none
   | some (.slice e),some (.slice _)=>match P.underlying e,cX x with
     | some (.int .u8),some ax=>if s=d then some (.same ax) else none
     | _,_=>none
   | _,_=>none
 | .binOp .eql t x y _=>match mu,P.underlying t with
   | true,some (.pointer te)=>match P.info? te,cX x,cX y with
     | some _,some ax,some ay=>some (.peq false ax ay)
     | _,_,_=>none
   | true,some (.interface _)=>match y,cX x,cX y with
     | .const _,some ax,some ay=>some (.inil false ax ay)
     | _,_,_=>none
   | _,_=>none
 | .binOp .neq t x y _=>match mu,P.underlying t with
   | true,some (.pointer te)=>match P.info? te,cX x,cX y with
     | some _,some ax,some ay=>some (.peq true ax ay)
     | _,_,_=>none
   | true,some (.interface _)=>match y,cX x,cX y with
     | .const _,some ax,some ay=>some (.inil true ax ay)
     | _,_,_=>none
   | _,_=>none
 | .call { callee:=.builtin .unsafeSliceData,args,argTypes:=_ }=>match args.toList with
   | [x]=>(cX x).map .sdata
   | _=>none
 | .call { callee:=.builtin .unsafeString,args,argTypes }=>match args.toList,argTypes.toList with
   | [x,y],[pt,_]=>match P.underlying pt with
     | some (.pointer e)=>match cX x,cX y with
       | some ax,some ay=>if P.cellsOf e=1 then some (.ustr e ax ay) else none
       | _,_=>none
     | _=>none
   | _,_=>none
 | .makeMap _ none=>some .mkmap
 | .lookup t x k co=>match P.underlying t with
   | some (.map kt et)=>match P.underlying kt,P.info? et,cX x,cX k with
     | some d,some i,some ax,some ak=>match dO d,i.zero with
       | some kd,some z=>(cV z).map fun p=>.mlook kd co p ax ak
       | _,_=>none
     | _,_,_,_=>none
   | _=>none
 | .mapUpdate t x k v=>Q5 P t x k v
 | .insert t x k v=>Q5 P t x k v
 | _=>none
section
variable {P:Program}{c:Ctx}{κ:Kap}{σ:aD}{E:Nat->AV}{a:Act}
theorem c7 {w:World}{b:Nat}{cs:Array Value}{T:TypeId}{fr:Nat×Nat}(h:w.heap[b]? = some (.cells cs T fr)):w.shape? b=some (T,cs.size):=by
 simp[World.shape?,h]
theorem wW {s d t:TypeId}{n u m:Nat}{x v:AV}{ux:Value}(hS:SRel c κ σ)(hs:P.underlying s=some (.pointer t))(hd:P.underlying d=some .unsafePointer)(hn:g9 P t=some n)(h0:n≠0)(hx:ARel κ x ux)(hr:fQ u m false σ x=some v) :
  (convert s d ux).run P κ.w = .ok ux κ.w/\ARel κ v ux:=by
 unfold fQ at hr
 split at hr
 ·rename_i r o
  split at hr
  ·rename_i T f l hσ
   simp only at hr
   split at hr
   ·rename_i ho
    cases hr
    cases hx with
    | ptr _ _ b N hnm=>
      obtain⟨cs,hg,hcs,hln,_,_,_,_⟩:=cR hS hσ hnm
      obtain⟨j,hj,hjn⟩:∃ j,P.info? t=some j/\j.size=n:=by
       unfold g9 at hn
       simpa[Uq] using hn
      exact⟨Lib.run_to_unsafe κ.w ⟨b,o,none⟩ hs hd hj (by omega) (c7 hg) (by show o<cs.size;omega),.ptr _ _ b N hnm⟩
   ·cases hr
  ·cases hr
 ·cases hr
theorem pF {s d u:TypeId}{n:Nat}{x v:AV}{ux:Value}(hS:SRel c κ σ)(hs:P.underlying s=some .unsafePointer)(hd:P.underlying d=some (.pointer u))(hn:g9 P u=some n)(hl:liesAt P P.depth u (n / P.cellsOf u) 0 u 1=true)(hx:ARel κ x ux)(hr:fQ u n true σ x=some v) :
  (convert s d ux).run P κ.w = .ok ux κ.w/\ARel κ v ux:=by
 unfold fQ at hr
 split at hr
 ·rename_i r o
  split at hr
  ·rename_i T f l hσ
   simp only at hr
   split at hr
   ·rename_i hh
    obtain⟨rfl,rfl,rfl,hlen⟩:=hh
    cases hr
    cases hx with
    | ptr _ _ b N hnm=>
      obtain⟨cs,hg,hcs,hln,hf,_,_,_⟩:=cR hS hσ hnm
      obtain⟨j,hj,hjn⟩:∃ j,P.info? T=some j/\j.size=n:=by
       unfold g9 at hn
       simpa[Uq] using hn
      have hsz:cs.size=n:=by rw[hcs,<- hf rfl,hlen]
      refine⟨Lib.run_from_unsafe κ.w ⟨b,0,none⟩ hs hd hj (c7 hg) ?_,.ptr _ _ b N hnm⟩
      show liesAt P P.depth T (cs.size / P.cellsOf T) 0 T 1=true
      rw[hsz];exact hl
   ·cases hr
  ·cases hr
 ·cases hr
theorem Ot {t te:TypeId}{i:TypeInfo}{op:BinOp}{X Y:Operand}{x y v:AV}{ux uy:Value}{ng:Bool}(hop:(op = .eql/\ng=false)\/(op = .neq/\ng=true))(ht:P.underlying t=some (.pointer te))(hi:P.info? te=some i)(hx:ARel κ x ux)(hy:ARel κ y uy)(hr:K1 ng x y=some v) :
  ∃ z,(do eqGuard op t X Y ux uy;binOp op t ux uy:Sem Value).run P κ.w = .ok z κ.w/\ARel κ v z:=by
 unfold K1 at hr
 split at hr
 ·rename_i r o r' o'
  split at hr
  ·rename_i hh
   obtain⟨rfl,rfl⟩:=hh
   cases hr
   cases hx with
   | ptr _ _ b n h1=>
     cases hy with
     | ptr _ _ b' n' h2=>
       rw[h1] at h2;cases h2
       rcases hop with ⟨rfl,rfl⟩ | ⟨rfl,rfl⟩
       ·exact⟨.bool true,by simpa[eqGuard_at_pointer] using run_eql_ptr_same κ.w ⟨b,o,none⟩ ht hi,.pv _ _ (.bool _)⟩
       ·exact⟨.bool false,by simpa[eqGuard_at_pointer] using Lib.run_neq_ptr_same κ.w ⟨b,o,none⟩ ht hi,.pv _ _ (.bool _)⟩
  ·cases hr
 ·cases hr
theorem oU {w:World}(d:Nat){t:TypeId}{ms:Array (String×TypeId)}(hu:P.underlying t=some (.interface ms)):(Op.equalIn (d+1) t .nilIface .nilIface).run P w = .ok true w:=by
 simp[Op.equalIn,run_underlying hu]
theorem yq {w:World}(d:Nat){t T:TypeId}{v:Value}{ms:Array (String×TypeId)}(hu:P.underlying t=some (.interface ms)):(Op.equalIn (d+1) t (.iface T v) .nilIface).run P w = .ok false w:=by
 simp[Op.equalIn,run_underlying hu]
theorem IV {t:TypeId}{ms:Array (String×TypeId)}{op:BinOp}{X:Operand}{cv:Value}{x y v:AV}{ux uy:Value}{ng:Bool}(hop:(op = .eql/\ng=false)\/(op = .neq/\ng=true))(ht:P.underlying t=some (.interface ms))(hx:ARel κ x ux)(hy:ARel κ y uy)(hr:pR ng x y=some v) :
  ∃ z,(do eqGuard op t X (.const cv) ux uy;binOp op t ux uy:Sem Value).run P κ.w = .ok z κ.w/\ARel κ v z:=by
 have he:∀ b,(Op.equalIn (9999+1) t ux uy).run P κ.w = .ok b κ.w->((do pure (.bool (<- Op.equal t ux uy))):Sem Value).run P κ.w = .ok (.bool b) κ.w/\((do pure (.bool (!(<- Op.equal t ux uy)))):Sem Value).run P κ.w = .ok (.bool (!b)) κ.w:=by
  intro b h
  have hq:Op.equal t ux uy=Op.equalIn (9999+1) t ux uy:=rfl
  rw[hq];simp[h]
 unfold pR at hr
 split at hr
 ·cases hr
  cases aS hx
  cases aS hy
  obtain⟨h1,h2⟩:=he true (oU 9999 ht)
  rcases hop with ⟨rfl,rfl⟩ | ⟨rfl,rfl⟩
  ·refine⟨.bool true,?_,.pv _ _ (.bool _)⟩
   have hg:eqGuard .eql t X (.const cv) .nilIface .nilIface=pure ():=by simp[eqGuard]
   rw[hg];simpa[binOp] using h1
  ·refine⟨.bool false,?_,.pv _ _ (.bool _)⟩
   have hg:eqGuard .neq t X (.const cv) .nilIface .nilIface=pure ():=by simp[eqGuard]
   rw[hg];simpa[binOp] using h2
 ·cases hr
  obtain⟨T,w,rfl⟩:∃ T w,ux = .iface T w:=by cases aS hx;exact⟨_,_,rfl⟩
  cases aS hy
  obtain⟨h1,h2⟩:=he false (yq 9999 ht)
  rcases hop with ⟨rfl,rfl⟩ | ⟨rfl,rfl⟩
  ·refine⟨.bool false,?_,.pv _ _ (.bool _)⟩
   have hg:eqGuard .eql t X (.const cv) (.iface T w) .nilIface=pure ():=by simp[eqGuard]
   rw[hg];simpa[binOp] using h1
  ·refine⟨.bool true,?_,.pv _ _ (.bool _)⟩
   have hg:eqGuard .neq t X (.const cv) (.iface T w) .nilIface=pure ():=by simp[eqGuard]
   rw[hg];simpa[binOp] using h2
 ·cases hr
theorem nA (c:UInt8):∀ (l:List UInt8) (k:Nat),fA c l k=(match (UZ l.length).find? fun i=>l.getD i 0 == c with
  | some i=>((i+k:Nat):Int)
  | none=>-1)
 | [],k=>rfl
 | b::r,k=>by
   have ih:=nA c r (k+1)
   rw[Ut,Lib.find_range_succ]
   simp only[fA,List.getD_cons_zero,List.getD_cons_succ]
   by_cases h:(b == c)=true
   ·simp[h]
   ·rw[if_neg h,if_neg h,ih]
    cases (UZ r.length).find? fun i=>r.getD i 0 == c with
    | none=>rfl
    | some i=>simp only[UD];congr 1;omega
theorem Mi (c:UInt8)(s:ByteArray):firstIdx s c=fA c s.data.toList 0:=by
 rw[nA]
 have hl:s.data.toList.length=s.size:=by simp
 have hp:∀ i,i∈UZ s.size->(s[i]! == c)=(s.data.toList.getD i 0 == c):=by
  intro i hi
  have hi':i<s.size:=List.mem_range.1 hi
  have:s[i]! = s.data.toList.getD i 0:=by
   have h2:i<s.data.size:=hi'
   rw[getElem!_pos s i hi']
   simp only[Uv,Array.getElem?_toList]
   rw[Va h2]
   rfl
  rw[this]
 unfold firstIdx
 rw[hl]
 have:(UZ s.size).find? (fun i=>s[i]! == c)=(UZ s.size).find? (fun i=>s.data.toList.getD i 0 == c):=by
  clear hl
  generalize UZ s.size=R at hp
  induction R with
  | nil=>rfl
  | cons a r ih=>
    rw[List.find?_cons,List.find?_cons,hp a (by simp),ih (fun i hi=>hp i (by simp[hi]))]
 rw[this]
 cases (UZ s.size).find? fun i=>s.data.toList.getD i 0 == c<;>rfl
theorem Kr {ts:Array TypeId}{ty:TypeId}{x v:AV}{u:Value}(hx:ARel κ x u)(hr:iy x=some v) :
  ∃ z,(Builtin.unsafeSliceData_ ts ty #[u]).run P κ.w = .ok z κ.w/\ARel κ v z:=by
 unfold iy at hr
 split at hr
 ·cases hr
  cases aS hx
  exact⟨.pointer none,rfl,.pv _ _ .nilp⟩
 ·split at hr
  ·rename_i r s off len h
   cases hr
   cases hx with
   | row0=>omega
   | row _ _ _ _ b n cap hn h1 h0 h2 h3=>
     have hc:cap≠0:=by omega
     refine⟨.pointer (some ⟨b,off,none⟩),?_,.ptr _ _ b n hn⟩
     have e:∀ y:Sem Value,(if cap≠0 then (pure (Value.pointer (some ⟨b,off,none⟩)):Sem Value) else y)=pure (Value.pointer (some ⟨b,off,none⟩)):=fun y=>if_pos hc
     exact (congrArg (fun q:Sem Value=>Sem.run P q κ.w) (e _)).trans rfl
  ·cases hr
 ·cases hr
theorem An:∀ {ps:List PV} {l:List UInt8},u8x ps=some l->ps=aC l
 | [],l,h=>by simp[u8x] at h;subst h;rfl
 | p::r,l,h=>by
   cases p with
   | int k n=>
     cases k<;>simp only[u8x] at h<;>first | cases h | skip
     split at h
     ·rename_i hn
      split at h
      ·rename_i q hq
       cases h
       have ih:=An hq
       simp only[aC,UE]
       rw[<- aC,<- ih]
       congr 2
       simp only[UInt8.toNat_ofNat']
       omega
      ·cases h
     ·cases h
   | _=>simp[u8x] at h
theorem nB (w:World)(b:Nat)(cs:Array Value)(T:Nat)(fz:Nat×Nat)(n:Nat)(h:w.heap[b]? = some (.cells cs T fz)):∃ fz',(w.freeze ⟨b,0,none⟩ n).heap[b]? = some (.cells cs T fz'):=by
 unfold World.freeze
 by_cases hn:n=0
 ·rw[if_pos hn];exact⟨_,h⟩
 ·rw[if_neg hn]
  obtain⟨lo,hi⟩:=fz
  simp only[Vw,if_true,h,UD]
  exact⟨_,rfl⟩
theorem qM {w:World}{b j:Nat}{cs:Array Value}{T:Nat}{fz:Nat×Nat}{v:Value}(hg:w.heap[b]? = some (.cells cs T fz))(h:w.cell? ⟨b,j,none⟩=some v):cs.getD j Go.undef=v:=by
 simp only[World.cell?,hg] at h
 rw[Uu]
 simp at h
 simp[h]
theorem On {pt it ty e:TypeId}{x y v:AV}{ux uy:Value}{δ:List (Nat×Blk)}{new:Nat}(hS:SRel c κ σ)(hp:P.underlying pt=some (.pointer e))(hc:P.cellsOf e=1)(hx:ARel κ x ux)(hy:ARel κ y uy)(hr:pO e σ x y=some (v,δ)) :
  ∃ z w',(Builtin.unsafeString_ #[pt,it] ty #[ux,uy]).run P κ.w = .ok z w'/\ARel ⟨w',κ.nm,κ.imm⟩ v z/\Done c κ ⟨w',κ.nm,κ.imm⟩ new/\SRel c ⟨w',κ.nm,κ.imm⟩ (σ.upd δ):=by
 unfold pO at hr
 split at hr
 ·rename_i r o k
  unfold rP at hr
  split at hr
  ·rename_i T f l hσ
   split at hr
   ·rename_i hh
    obtain⟨rfl,rfl,hk0,hkl,hkm⟩:=hh
    unfold B5 at hr
    split at hr
    ·rename_i bs hbs
     cases hr
     rw[Option.bind_eq_some_iff] at hbs
     obtain⟨ps,hps,hbs⟩:=hbs
     have hpb:=An hbs
     have hpl:=ci hps
     obtain rfl:=bm hy
     cases hx with
     | ptr _ _ b n hnm=>
       obtain⟨cs,hg,hcs,hln,_,himm,hrel,hcell⟩:=cR hS hσ hnm
       have hlen:bs.length=k.toNat:=by
        have:ps.length=bs.length:=by rw[hpb];simp[aC]
        rw[<- this,hpl];simp;omega
       have hkk:k=(bs.length:Int):=by omega
       have hrd:∀ j x,bs[j]? = some x->κ.w.cell? ((⟨b,0,none⟩:Addr).add j)=some (.int .u8 x.toNat):=by
        intro j x hj
        have h1:ps[j]? = some (.int .u8 (x.toNat:Int)):=by rw[hpb];simp[aC,hj]
        obtain⟨y,hy1,hy2⟩:=c8 hps j _ h1
        have hjk:j<k.toNat:=by rw[<- hlen];exact (Up.1 hj).1
        rw[UT,if_pos hjk] at hy1
        obtain⟨u,hu1,hu2⟩:=hcell j y hy1
        have hpv:=bZ hy2 hu2
        rw[Addr.add_lit,UI,hu1]
        cases hpv
        rfl
       have hrun:=Lib.run_unsafeString_row (P:=P) κ.w pt it ty T hp hc b cs.size (c7 hg) bs (by intro h;rw[h] at hlen;simp at hlen;omega) (by omega) (by omega) hrd
       rw[<- hkk] at hrun
       have hne:bs.length≠0:=by omega
       have hheap:∀ b',b'≠b->(κ.w.freeze ⟨b,0,none⟩ bs.length).heap[b']? = κ.w.heap[b']?:=by
        intro b' hb'
        simp only[World.freeze,if_neg hne]
        rw[Vw]
        simp[Ne.symm hb']
       obtain⟨k1,k2⟩:=wR hS (r0:=r) (b0:=b) (d0:=.blk b n) (Bo:=.bts T bs) (w':=κ.w.freeze ⟨b,0,none⟩ bs.length) new
        (by simp[World.freeze,hne]) (by simp[World.freeze,hne]) (by simp[World.freeze,hne]) (by simp[World.freeze,hne]) hheap himm (by rw[hσ];simp) hnm rfl
       obtain⟨fz',hfz⟩:=nB (κ.w) b cs T (0,0) bs.length hg
       refine⟨_,_,hrun,?_,k1,k2 ⟨b,n,cs,fz',hnm,hfz,hcs,by rw[<- hlen] at hkl;omega,fun j x hj=>?_,himm⟩⟩
       ·have hsz:(⟨bs.toArray⟩:ByteArray).size<=maxLen:=by
         show bs.toArray.size<=maxLen
         simp only[Vu,maxLen];omega
        have:=PRel.str (w:=κ.w.freeze ⟨b,0,none⟩ bs.length) (imm:=κ.imm) ⟨bs.toArray⟩ hsz
        simpa using ARel.pv (κ:=⟨κ.w.freeze ⟨b,0,none⟩ bs.length,κ.nm,κ.imm⟩) _ _ this
       ·exact qM hg (by have:=hrd j x hj;rwa [Addr.add_lit,UI] at this)
    ·cases hr
   ·cases hr
  ·rename_i T l hσ
   split at hr
   ·rename_i hh
    obtain⟨rfl,rfl,hk0,hkl,hkm⟩:=hh
    cases hr
    obtain rfl:=bm hy
    cases hx with
    | ptr _ _ b n hnm=>
      have hB:=hS.blk r
      rw[hσ] at hB
      obtain⟨b',n',cs,fz,h1,hg,hcs,hln,hcell,himm⟩:=hB
      rw[hnm] at h1;cases h1
      have hrd:∀ j x,l[j]? = some x->κ.w.cell? ((⟨b,0,none⟩:Addr).add j)=some (.int .u8 x.toNat):=by
       intro j x hj
       rw[Addr.add_lit,UI]
       have hj':j<cs.size:=by rw[hcs];exact Nat.lt_of_lt_of_le (Up.1 hj).1 hln
       have:=hcell j x hj
       rw[Uu,Va hj'] at this
       simp only[Vg] at this
       simp[World.cell?,hg,hj',this]
      have hrun:=Lib.run_unsafeString_row (P:=P) κ.w pt it ty T hp hc b cs.size (c7 hg) l (by intro h;rw[h] at hkl;simp at hkl;omega) (by omega) (by omega) hrd
      rw[<- hkl] at hrun
      have hne:l.length≠0:=by omega
      have hheap:∀ b',b'≠b->(κ.w.freeze ⟨b,0,none⟩ l.length).heap[b']? = κ.w.heap[b']?:=by
       intro b' hb'
       simp only[World.freeze,if_neg hne]
       rw[Vw]
       simp[Ne.symm hb']
      obtain⟨k1,k2⟩:=wR hS (r0:=r) (b0:=b) (d0:=.blk b n) (Bo:=.bts T l) (w':=κ.w.freeze ⟨b,0,none⟩ l.length) new
       (by simp[World.freeze,hne]) (by simp[World.freeze,hne]) (by simp[World.freeze,hne]) (by simp[World.freeze,hne]) hheap himm (by rw[hσ];simp) hnm rfl
      obtain⟨fz',hfz⟩:=nB (κ.w) b cs T fz l.length hg
      refine⟨_,_,hrun,?_,k1,k2 ⟨b,n,cs,fz',hnm,hfz,hcs,hln,hcell,himm⟩⟩
      have hsz:(⟨l.toArray⟩:ByteArray).size<=maxLen:=by
       show l.toArray.size<=maxLen
       simp only[Vu,maxLen];omega
      have:=PRel.str (w:=κ.w.freeze ⟨b,0,none⟩ l.length) (imm:=κ.imm) ⟨l.toArray⟩ hsz
      simpa using ARel.pv (κ:=⟨κ.w.freeze ⟨b,0,none⟩ l.length,κ.nm,κ.imm⟩) _ _ this
   ·cases hr
  ·cases hr
 ·rename_i k
  split at hr
  ·rename_i hk
   subst hk
   cases hr
   cases aS hx
   obtain rfl:=bm hy
   refine⟨_,κ.w,Lib.run_unsafeString_none κ.w pt it ty none,?_,Done.same c κ new,hS⟩
   exact .pv _ _ (.str .empty (by simp[maxLen]))
  ·cases hr
 ·cases hr
theorem Em (s:ByteArray):fC κ 1 (aC s.data.toList) (Lib.strCells s):=by
 refine⟨by simp[Lib.strCells,aC],fun i x hx=>?_,fun i x j y hx hy=>?_⟩
 ·simp only[aC,UB,Uq] at hx
  obtain⟨b,_,rfl⟩:=hx
  rfl
 ·simp only[aC,UB,Uq] at hx
  obtain⟨b,hb,rfl⟩:=hx
  have hj:j=0/\y = .int .u8 (b.toNat:Int):=by
   cases j with
   | zero=>simp[PV.cells] at hy;exact⟨rfl,hy.symm⟩
   | succ j=>simp[PV.cells] at hy
  obtain⟨rfl,rfl⟩:=hj
  have e:(Lib.strCells s).getD (i*1+0) Go.undef = .int .u8 (b.toNat:Int):=by
   simp[Lib.strCells,Uv,hb]
  rw[e]
  exact⟨.int _ _,rfl⟩
theorem jZ (w:World)(t u ty e:TypeId)(i:TypeInfo)(bytes:Nat)(ht:P.underlying t=some (.slice e))(hu:P.underlying u=some .string)(hi:P.info? e=some i)(hz:i.zero=some (.int .u8 0))
  (hsize:i.size=1) (hby:i.bytes=bytes) (v:Value) (n:Nat) (xs:List Value) (hown:w.ownsRow 0 e 1 v n xs) (s:ByteArray) (h63:n+s.size<=maxLen) (hbytes:(n+s.size)*bytes<=140737488355328) :
  ∃ v' w',(Builtin.append_ #[t,u] ty #[v,.string s]).run P w = .ok v' w' /\
    ((s.size=0/\v'=v/\w'=w) \/
     (0 < s.size/\∃ g cap cur,v = .slice (some ⟨g,0,none⟩) n cap/\w.heap[g]? = some (.cells cur e (0,0))/\n+s.size<=cap/\cap<=maxLen/\cur.size=cap*1/\cur.toList.take (n*1)=xs /\
        v' = .slice (some ⟨g,0,none⟩) (n+s.size) cap/\w'=w.setRow g (cur.toList.take (n*1)++Lib.strCells s++cur.toList.drop (n*1+(Lib.strCells s).length)).toArray) \/
     (0<s.size/\∃ cs cap,v' = .slice (some ⟨w.heap.size,0,none⟩) (n+s.size) cap/\w'=w.drew.alloc (.cells cs e)/\n+s.size<=cap/\cap<=maxLen/\cs.size=cap*1/\cs.toList.take ((n+s.size)*1)=xs++Lib.strCells s)):=by
 subst hby
 have hxl:xs.length=n:=by simpa using hown.1
 have hlen:(xs++Lib.strCells s).length=(n+s.size)*1:=by rw[Us,hxl,Lib.strCells_length,Nat.mul_one]
 have hsmall:n+s.size<=9223372036854775807:=by simp only[maxLen] at h63;omega
 have grown:∀ (old:Nat),old<n+s.size ->
   n+s.size<=grownCap w (n+s.size) old e/\grownCap w (n+s.size) old e<=maxLen /\
   (xs.toArray++(Lib.strCells s).toArray++Builtin.zeroCells (Value.int .u8 0).cells (grownCap w (n+s.size) old e - (n+s.size))).size=grownCap w (n+s.size) old e*1 /\
   (xs.toArray++(Lib.strCells s).toArray++Builtin.zeroCells (Value.int .u8 0).cells (grownCap w (n+s.size) old e - (n+s.size))).toList.take ((n+s.size)*1)=xs++Lib.strCells s:=by
  intro old ho
  have hge:=grownCap_ge w (n+s.size) old e
  refine⟨hge,grownCap_le_maxLen w (n+s.size) old e h63,?_,?_⟩
  ·have hz1:(Value.int IntKind.u8 0).cells.size=1:=rfl
   simp only[Array.size_append,Vu,size_zeroCells,hz1,hxl,Lib.strCells_length]
   omega
  ·simp only[Array.toList_append,U3]
   rw[<- U3,<- hlen]
   exact List.take_left
 by_cases hm:s.size=0
 ·have hn:Lib.strCells s=[]:=UH (by rw[Lib.strCells_length];exact hm)
  have hf:=Lib.run_firstCells_string (P:=P) w 1 s
  rw[hm,hn] at hf
  refine⟨v,w,?_,.inl ⟨hm,rfl,rfl⟩⟩
  rcases hown.2 with ⟨rfl,rfl⟩ | ⟨g,cap,cur,rfl,hbg,hg,hnc,hcm,hcs,htake⟩
  ·simp[Builtin.append_,run_underlying ht,run_underlying hu,sizeOf,typeInfo,hi,hsize,Builtin.lenOf,hm,hf]
  ·simp[Builtin.append_,run_underlying ht,run_underlying hu,sizeOf,typeInfo,hi,hsize,Builtin.lenOf,hm,hf,hnc,storeCells]
 ·rcases hown.2 with ⟨rfl,rfl⟩ | ⟨g,cap,cur,rfl,hbg,hg,hnc,hcm,hcs,htake⟩
  ·have hx:xs=[]:=UH hxl
   subst hx
   have hr:=run_append_nil_string (P:=P) w t u ty e i (.int .u8 0) ht hu hi hz s (by omega) (by omega) (by have hb:=hbytes;simp only[UI] at hb;omega)
   have hgr:=grown 0 (by omega)
   simp only[UI,UK,Array.empty_append] at hgr ⊢
   have e1:(s.data.map fun b=>Value.int .u8 b.toNat)=(Lib.strCells s).toArray:=by
    apply Array.ext'
    simp[Lib.strCells]
   rw[e1] at hr
   exact⟨_,_,hr,.inr (.inr ⟨by omega,_,_,rfl,rfl,hgr.1,hgr.2.1,hgr.2.2.1,hgr.2.2.2⟩)⟩
  ·by_cases hroom:n+s.size<=cap
   ·have hcs':cur.size=cap:=by simpa using hcs
    have hr:=Lib.run_append_room_string (P:=P) w t u ty e i ht hu hi hsize g n cap cur hg s hroom (by omega)
    refine⟨_,_,hr,.inr (.inl ⟨by omega,g,cap,cur,rfl,hg,hroom,hcm,hcs,htake,rfl,?_⟩)⟩
    rw[Nat.mul_one,Lib.strCells_length]
   ·have holds:∀ j x,xs[j]? = some x->w.cell? ((⟨g,0,none⟩:Addr).add j)=some x:=hown.cells (g:=g) rfl
    have hr:=Lib.run_append_grow_string (P:=P) w t u ty e i (.int .u8 0) ht hu hi hz ⟨g,0,none⟩ n cap xs (by rw[hsize];omega) holds s (by omega) (by omega) (growslice_fits (by omega) hbytes)
    have hgr:=grown cap (by omega)
    exact⟨_,_,hr,.inr (.inr ⟨by omega,_,_,rfl,rfl,hgr.1,hgr.2.1,hgr.2.2.1,hgr.2.2.2⟩)⟩
theorem OC {e sz by_ new m:Nat}{x v:AV}{ux:Value}{ys:List PV}{news:List Value}{δ:List (Nat×Blk)}(A:Value->Sem Value)(hS:SRel c κ σ)(hw:c.w0.heap.size<=κ.w.heap.size)(hn:κ.nm new=none)
  (hm:m=ys.length) (hrow:fC κ sz ys news)
  (hA:∀ (v:Value) (n:Nat) (xs:List Value),κ.w.ownsRow 0 e sz v n xs->n+m<=maxLen->(n+m)*by_<=140737488355328->∃ v' w',(A v).run P κ.w = .ok v' w' /\
   ((m=0/\v'=v/\w'=κ.w) \/
    (0 < m/\∃ g cap cur,v = .slice (some ⟨g,0,none⟩) n cap/\κ.w.heap[g]? = some (.cells cur e (0,0))/\n+m<=cap/\cap<=maxLen/\cur.size=cap*sz/\cur.toList.take (n*sz)=xs /\
       v' = .slice (some ⟨g,0,none⟩) (n+m) cap/\w'=κ.w.setRow g (cur.toList.take (n*sz)++news++cur.toList.drop (n*sz+news.length)).toArray) \/
    (0<m/\∃ cs cap,v' = .slice (some ⟨κ.w.heap.size,0,none⟩) (n+m) cap/\w'=κ.w.drew.alloc (.cells cs e)/\n+m<=cap/\cap<=maxLen/\cs.size=cap*sz/\cs.toList.take ((n+m)*sz)=xs++news)))
  (hx:ARel κ x ux) (hr:JG e sz by_ new σ x ys=some (v,δ)) :
  ∃ u κ',(A ux).run P κ.w = .ok u κ'.w/\ARel κ' v u/\Done c κ κ' new/\SRel c κ' (σ.upd δ):=by
 obtain⟨hfl,hfr⟩:=vN hrow
 unfold JG at hr
 split at hr
 ·-- onto nil
  have hux:ux = .slice none 0 0:=by cases aS hx;rfl
  subst hux
  split at hr
  ·cases hr
   obtain⟨v',w',h1,h2⟩:=hA (.slice none 0 0) 0 [] (World.ownsRow_nil _ _ _ _) (by rw[hm];simp) (by rw[hm];simp)
   rcases h2 with ⟨_,rfl,rfl⟩ | ⟨h0,_⟩ | ⟨h0,_⟩
   ·exact⟨_,κ,h1,.pv _ _ .nils,Done.same c κ new,by simpa[rQ] using hS⟩
   ·simp at hm;omega
   ·simp at hm;omega
  ·rename_i y0 r
   split at hr
   ·rename_i hroom
    cases hr
    obtain⟨k1,k2⟩:=je hroom
    simp only[Ut] at hm
    subst hm
    obtain⟨v',w',h1,h2⟩:=hA (.slice none 0 0) 0 [] (World.ownsRow_nil _ _ _ _) k1 k2
    rcases h2 with ⟨h0,_⟩ | ⟨_,g,cap,cur,h0,_⟩ | ⟨_,cs,cap,rfl,rfl,q1,q2,q3,q4⟩
    ·omega
    ·cases h0
    ·simp only[UI,UK] at q1 q4
     have hnl:news.length=(r.length+1)*sz:=hrow.1
     have hle:(r.length+1)*sz<=cap*sz:=UQ _ q1
     obtain⟨κ',e1,e2,e3,e4⟩:=cr (T:=e) (f:=false) (l:=bD (y0::r)) hS hw hn (by omega) (fun h=>by cases h) (d8 q4 (by omega) hfr) κ.w.drew rfl rfl rfl rfl
     refine⟨_,κ',by rw[h1,e1],?_,e3,e4⟩
     simp only[UI]
     exact .row _ _ _ _ _ _ cap e2 (by omega) (fun _=>q3.symm) q1 q2
   ·cases hr
 ·-- onto a row of the call's own
  rename_i q s off len
  split at hr
  ·rename_i e' f lw hσ
   split at hr
   ·rename_i hh
    obtain⟨rfl,rfl,rfl,hllw,hroom⟩:=hh
    cases hr
    obtain⟨k1,k2⟩:=je hroom
    subst hm
    cases hx with
    | row0 _ _ hnm=>
      have hB:=hS.blk q
      rw[hσ] at hB
      obtain⟨rfl,rfl⟩:f=false/\lw=[]:=by
       rcases hB with ⟨h1,h2,_⟩ | ⟨_,_,_,h1,_⟩
       ·exact⟨h1,h2⟩
       ·rw[hnm] at h1;cases h1
      obtain⟨v',w',h1,h2⟩:=hA (.slice none 0 0) 0 [] (World.ownsRow_nil _ _ _ _) k1 k2
      rw[List.take_nil,UK,UI]
      rcases h2 with ⟨h0,rfl,rfl⟩ | ⟨_,g,cap,cur,h0,_⟩ | ⟨_,cs,cap,rfl,rfl,q1,q2,q3,q4⟩
      ·have hys0:ys=[]:=UH h0
       subst hys0
       obtain⟨h3,h4,h5⟩:=pd (hS.drop q) hn e' s
       exact⟨_,⟨κ.w,fun r=>if r=new then some (.own (.slice none 0 0)) else κ.nm r,κ.imm⟩,h1,h5,h3,h4⟩
      ·exact absurd h0 (by simp)
      ·simp only[UI,UK] at q1 q4
       have hnl:news.length=ys.length*s:=hrow.1
       have hle:ys.length*s<=cap*s:=UQ _ q1
       obtain⟨κ',e1,e2,e3,e4⟩:=cr (T:=e') (f:=false) (l:=bD ys) (hS.drop q) hw hn (by omega) (fun h=>by cases h) (d8 q4 (by omega) hfr) κ.w.drew rfl rfl rfl rfl
       refine⟨_,κ',by rw[h1,e1],?_,e3,e4⟩
       rw[UI]
       exact .row _ _ _ _ _ _ cap e2 (by omega) (fun _=>q3.symm) q1 q2
    | row _ _ _ _ b N cap hnm h5 h6 h7 h8=>
      obtain⟨cur,hg,hcs,hlnw,hf,himm,hrelw,hcell⟩:=cR hS hσ hnm
      obtain⟨l,hl0,hll,hln,hrel⟩:∃ l,lw.take (len*s)=l/\l.length=len*s/\l.length<=N/\∀ (i:Nat) (x:AV),l[i]? = some x->ARel κ x (cur.getD i Go.undef):=by
       refine⟨_,rfl,by simp;omega,by simp;omega,fun i x hx=>?_⟩
       rw[UT] at hx
       split at hx
       ·exact hrelw i x hx
       ·cases hx
      rw[hl0]
      have hcap:=h6 rfl
      have hown:κ.w.ownsRow 0 e' s (.slice (some ⟨b,0,none⟩) len cap) len (cur.toList.take (len*s)):=by
       refine⟨?_,.inr ⟨b,cap,cur,rfl,U8 _,hg,h7,h8,by omega,rfl⟩⟩
       simp;rw[hcs,<- hcap];exact Nat.min_eq_left (UQ _ h7)
      have hxl:(cur.toList.take (len*s)).length=len*s:=hown.1
      have hlrel:∀ (i:Nat) (x:AV),l[i]? = some x->ARel κ x ((cur.toList.take (len*s)).getD i Go.undef):=by
       intro i x hx
       have hi:i<l.length:=(Up.1 hx).1
       have:=hrel i x hx
       rw[aF] at this
       rw[Uv,UT,if_pos (by omega),<- Uv]
       exact this
      have hall:=jg (κ:=κ) (by omega) hlrel hfr
      have hlen2:(l++bD ys).length=(len+ys.length)*s:=by
       have:news.length=ys.length*s:=hrow.1
       rw[Us,hfl,this,hll,Nat.add_mul]
      have hlen3:(l++bD ys).length=len*s+news.length:=by rw[Us,hfl,hll]
      obtain⟨v',w',h1,h2⟩:=hA _ _ _ hown k1 k2
      have hb0:∀ b',some b=some b'->σ q≠.none/\∃ d,κ.nm q=some d/\d.block=some b':=fun b' hb=>⟨by rw[hσ];simp,_,hnm,hb⟩
      rcases h2 with ⟨h0,rfl,rfl⟩ | ⟨_,g',cap',cur',h0,hg',q1,q2,q3,q4,rfl,rfl⟩ | ⟨_,cs,cap',rfl,rfl,q1,q2,q3,q4⟩
      ·have hys0:ys=[]:=UH h0
       subst hys0
       obtain⟨h3,h4⟩:=wS (d:=.blk b N) (Bn:=.cells e' false (l++bD [])) (q:=fun _ _=>False) (b':=b) (b0:=some b) (r0:=q) hS hw ⟨rfl,rfl,rfl,UA _,fun _ _ _=>rfl⟩ hn rfl (.inl rfl) (fun _ _ h=>h.elim) (fun _ _ _ h=>h) (fun _ _ _ _ _ h=>h) hb0
       refine⟨_,(⟨κ.w,fun r=>if r=new then some (Den.blk b N) else κ.nm r,fun b o=>κ.imm b o\/False⟩:Kap),h1,?_,h3,h4 (.inr ⟨b,N,cur,by simp,hg,hcs,?_,fun h=>(by cases h),fun i x hx=>?_,fun o hi=>hi.elim (himm o) id⟩)⟩
       ·exact .row _ _ _ _ b N cap (by simp) h5 h6 (by simpa using h7) h8
       ·simp[bD];omega
       ·have hx':l[i]? = some x:=by simpa[bD] using hx
        exact (hrel i x hx').ext h3.ext
      ·cases h0
       rw[hg] at hg';cases hg'
       have hnl2:news.length=ys.length*s:=hrow.1
       have hcl:cur.toList.length=cur.size:=by simp
       have hfit:len*s+news.length<=cur.toList.length:=by
        rw[hnl2,hcl,q3,<- Nat.add_mul];exact UQ _ q1
       have hgrow:κ.w.grownBy (κ.w.setRow b (cur.toList.take (len*s)++news++cur.toList.drop (len*s+news.length)).toArray) (some b):=
        ⟨rfl,rfl,rfl,by simp,fun k _ hk=>setRow_other κ.w b k _ (fun h=>hk (by rw[h]))⟩
       have hnewrow:=setRow_heap κ.w b cur (cur.toList.take (len*s)++news++cur.toList.drop (len*s+news.length)).toArray e' (0,0) hg
       have htk:=n8 cur.toList (len*s) 0 news _ rfl hfit
       obtain⟨h3,h4⟩:=wS (d:=.blk b N) (Bn:=.cells e' false (l++bD ys)) (q:=fun _ _=>False) (b':=b) (b0:=some b) (r0:=q) hS hw hgrow hn rfl (.inl rfl)
        (fun _ _ h=>h.elim) (fun o _ ho=>absurd ho (himm o)) (fun b' o _ hb ho=>by cases hb;exact absurd ho (himm o)) hb0
       refine⟨_,_,h1,.row _ _ _ _ b N cap (by simp) h5 h6 q1 h8,h3,h4 (.inr ⟨b,N,_,by simp,hnewrow,?_,?_,fun h=>(by cases h),?_,fun o hi=>hi.elim (himm o) id⟩)⟩
       ·simp only[Vu,Us,UM,UC];omega
       ·rw[hlen2,<- hcap];exact UQ _ q1
       ·have hz:=d8 (κ:=κ) (l:=l++bD ys) (cs:=(cur.toList.take (len*s)++news++cur.toList.drop (len*s+news.length)).toArray) (n:=len*s+news.length) (by simpa using htk) (by rw[hlen3];exact UA _) hall
        exact fun i x hx=>(hz i x hx).ext h3.ext
      ·obtain⟨κ',e1,e2,e3,e4⟩:=cr (T:=e') (f:=false) (l:=l++bD ys) (hS.drop q) hw hn (by rw[hlen2,q3];exact UQ _ q1) (fun h=>by cases h) (d8 q4 (by omega) hall) κ.w.drew rfl rfl rfl rfl
       exact⟨_,κ',by rw[h1,e1],.row _ _ _ _ _ _ cap' e2 (by omega) (fun _=>q3.symm) q1 q2,e3,e4⟩
   ·cases hr
  ·cases hr
 ·cases hr
theorem OB {t tu ty e by_ new:Nat}{x y v:AV}{ux uy:Value}{δ:List (Nat×Blk)}(hS:SRel c κ σ)(hw:c.w0.heap.size<=κ.w.heap.size)(hn:κ.nm new=none)(hbr:tG P t=some (e,by_))(htu:P.underlying tu=some .string)
  (hx:ARel κ x ux) (hy:ARel κ y uy) (hr:mK e by_ new σ x y=some (v,δ)) :
  ∃ u κ',(Builtin.append_ #[t,tu] ty #[ux,uy]).run P κ.w = .ok u κ'.w/\ARel κ' v u/\Done c κ κ' new/\SRel c κ' (σ.upd δ):=by
 obtain⟨hu,i,hi,hz,hsz,hby⟩:P.underlying t=some (.slice e)/\∃ i,P.info? e=some i/\i.zero=some (.int .u8 0)/\i.size=1/\i.bytes=by_:=by
  unfold tG at hbr
  split at hbr
  ·rename_i e' hu
   split at hbr
   ·rename_i i hi
    split at hbr
    ·rename_i z hz
     split at hbr
     ·rename_i hh
      cases hbr
      exact⟨hu,i,hi,by rw[hz,hh.1],hh.2,rfl⟩
     ·cases hbr
    ·cases hbr
   ·cases hbr
  ·cases hbr
 unfold mK at hr
 split at hr
 ·rename_i k
  obtain⟨s,rfl,rfl,hm⟩:=ee hy
  exact OC (m:=s.size) (fun v=>Builtin.append_ #[t,tu] ty #[v,.string s]) hS hw hn (by simp[aC]) (Em s)
   (fun v n xs hown h63 hb=>jZ κ.w t tu ty e i by_ hu htu hi hz hsz hby v n xs hown s h63 hb) hx hr
 ·cases hr
theorem rA (w:World)(cs:Array Value)(e:TypeId)(n:Nat):(w.alloc (.cells cs e)).freeze ⟨w.heap.size,n,none⟩ 1=w.alloc (.cells cs e (n,n+1)):=by
 simp only[World.freeze,World.alloc,if_neg (by omega:¬ 1=0)]
 congr 1
 apply Array.ext
 ·simp
 ·intro i h1 h2
  simp only[Array.getElem_modify,Array.getElem_push]
  by_cases hi:i<w.heap.size
  ·have:¬ w.heap.size=i:=by omega
   simp[hi,this]
  ·have:w.heap.size=i:=by simp at h2;omega
   simp[this]
theorem RD (hS:SRel c κ σ){r0 b0:Nat}{d0:Den}{w':World}(new:Nat)
  (hos:w'.os=κ.w.os) (htape:w'.tape=κ.w.tape) (hout:w'.output=κ.w.output) (hsize:w'.heap.size=κ.w.heap.size)
  (hblock:∀ b,b≠b0->w'.heap[b]? = κ.w.heap[b]?) (hkeep:∀ o v,κ.w.cell? ⟨b0,o,none⟩=some v->w'.cell? ⟨b0,o,none⟩=some v)
  (h0:σ r0≠.none) (hd0:κ.nm r0=some d0) (hb0:d0.block=some b0) :
  Done c κ ⟨w',κ.nm,κ.imm⟩ new/\SRel c ⟨w',κ.nm,κ.imm⟩ (σ.set r0 .none):=by
 have he:Ext κ ⟨w',κ.nm,κ.imm⟩:=by
  refine⟨fun _ _ h=>h,fun b o v hi hc=>?_,fun _ _ h=>h,fun b o ho hc=>(hblock b fun e=>?_).trans ho⟩
  rotate_left
  ·have:=(hS.blk r0).isCells h0 hd0 hb0 (e▸ho);rw[hc] at this;cases this
  by_cases hne:b=b0
  ·subst hne;exact hkeep o v hc
  ·have hb:=hblock b hne
   simpa[World.cell?,hb] using hc
 have hm:=hS.mine r0 d0 b0 h0 hd0 hb0
 refine⟨⟨he,fun imm0 hL=>⟨hos.trans hL.os,htape.trans hL.tape,hout.trans hL.output,by rw[hsize];exact hL.size,fun b hb hl=>?_,fun b o hi=>hL.imm b o hi⟩,by rw[hsize];exact UA _,fun r _ h=>h⟩,?_⟩
 ·refine (hblock b fun e=>?_).trans (hL.block b hb hl)
  subst e
  rcases hm with h | h
  ·omega
  ·exact hl h
 ·have hz:∀ r,aD.set σ r0 .none r≠.none->σ r≠.none/\r≠r0:=by
   intro r h
   by_cases hr:r=r0
   ·subst hr;simp[aD.set] at h
   ·exact⟨by simpa[aD.set,hr] using h,hr⟩
  refine⟨fun r=>?_,fun r r' d d' b h1 h2 hne hd hd' hb=>?_,fun r d b h1 hd hb=>?_,fun b o hi=>by rw[hsize];exact hS.immLt b o hi,Uc he hS.glob fun g h1 h2=>hblock g fun e=>e6 h1 h2 (e▸hm)⟩
  ·by_cases hr:r=r0
   ·subst hr;simp[aD.set,ff]
   ·simp only[aD.set,hr,if_false]
    refine (hS.blk r).keep he fun hz d b hd hb=>⟨hblock b ?_,fun o ho=>ho⟩
    rintro rfl
    exact hS.apart r r0 d d0 b hz h0 hr hd hd0 hb hb0
  ·exact hS.apart r r' d d' b (hz r h1).1 (hz r' h2).1 hne hd hd' hb
  ·exact hS.mine r d b (hz r h1).1 hd hb
theorem Oo {t e:TypeId}{new:Nat}{x v:AV}{u:Value}{δ:List (Nat×Blk)}(hS:SRel c κ σ)(ht:P.underlying t=some (.slice e))(he:P.underlying e=some (.int .u8))(hx:ARel κ x u)(hr:sk σ x=some (v,δ)) :
  ∃ z w',(convert t t u).run P κ.w = .ok z w'/\ARel ⟨w',κ.nm,κ.imm⟩ v z/\Done c κ ⟨w',κ.nm,κ.imm⟩ new/\SRel c ⟨w',κ.nm,κ.imm⟩ (σ.upd δ):=by
 unfold sk at hr
 split at hr
 ·rename_i q s y l
  unfold FD at hr
  split at hr
  ·rename_i e' sz' hσ
   cases hr
   cases hx with
   | olist _ _ _ _ hn hp hs=>
     have hB:=hS.blk q
     rw[hσ] at hB
     rcases hB with h | ⟨g,n,cap,cur,h1,h2,h3,h4,h5,h6⟩
     ·rw[hn] at h;cases h;cases hp
     ·rw[hn] at h1;cases h1
      have hrun:(convert t t (.slice (some ⟨g,0,none⟩) n cap)).run P κ.w = .ok (.slice (some ⟨g,0,none⟩) n cap) (κ.w.freeze ⟨g,cur.size,none⟩ 1):=by
       simp[convert,run_underlying ht,run_underlying he,markStringish,c7 h2]
      have hg:(κ.w.freeze ⟨g,cur.size,none⟩ 1).heap[g]? = some (.cells cur e' (cur.size,cur.size+1)):=by
       simp only[World.freeze,if_neg (by omega:¬ 1=0),Vw,if_true,h2,UD]
       rfl
      obtain⟨k1,k2⟩:=RD hS (r0:=q) (b0:=g) (d0:=.own (.slice (some ⟨g,0,none⟩) n cap)) (w':=κ.w.freeze ⟨g,cur.size,none⟩ 1) new
       (by simp[World.freeze]) (by simp[World.freeze]) (by simp[World.freeze]) (by simp[World.freeze])
       (fun b hb=>by simp only[World.freeze,if_neg (by omega:¬ 1=0)];rw[Vw];simp[Ne.symm hb])
       (fun o v hv=>by simp only[World.cell?,h2] at hv;simp only[World.cell?,hg];exact hv) (by rw[hσ];simp) hn rfl
      exact⟨_,_,hrun,.pv _ _ (PRel.ext k1.ext hp),k1,k2⟩
  ·cases hr
 ·cases hr
theorem Ks {s d e:TypeId}{new:Nat}{x v:AV}{u:Value}{δ:List (Nat×Blk)}(hS:SRel c κ σ)(hw:c.w0.heap.size<=κ.w.heap.size)(hn:κ.nm new=none)(hs:P.underlying s=some .string)(hd:P.underlying d=some (.slice e))(he:P.underlying e=some (.int .u8))(hx:ARel κ x u)(hr:lh new x=some (v,δ)) :
  ∃ z κ',(convert s d u).run P κ.w = .ok z κ'.w/\ARel κ' v z/\Done c κ κ' new/\SRel c κ' (σ.upd δ):=by
 unfold lh at hr
 split at hr
 ·rename_i k
  split at hr
  ·rename_i hk
   cases hr
   obtain⟨s',rfl,rfl,hm⟩:=ee hx
   have hsz:s'.size<=maxLen:=hm
   have hge:=grownCap_ge κ.w s'.size 0 e
   have hle:=grownCap_le_maxLen κ.w s'.size 0 e hsz
   obtain⟨cs,hcs⟩:∃ cs:Array Value,cs=(s'.data.map fun b=>Value.int .u8 b.toNat)++Array.replicate (grownCap κ.w s'.size 0 e - s'.size) (Value.int .u8 0):=⟨_,rfl⟩
   have hrun:(convert s d (.string s')).run P κ.w = .ok (.slice (some ⟨κ.w.heap.size,0,none⟩) s'.size (grownCap κ.w s'.size 0 e)) (κ.w.drew.alloc (.cells cs e (cs.size,cs.size+1))):=by
    rw[<- rA κ.w.drew cs e cs.size]
    have hsh:(κ.w.drew.alloc (.cells cs e)).shape? κ.w.heap.size=some (e,cs.size):=c7 (heap_alloc_new κ.w.drew _)
    simp[convert,run_underlying hs,run_underlying hd,run_underlying he,Conv.stringToBytes,Question.forced,newRow,markStringish]
    rw[<- grownCap,<- hcs,hsh]
    rfl
   obtain⟨h1,h2⟩:=Pl hS hw hn (.cells cs e (cs.size,cs.size+1)) (.blk κ.w.heap.size cs.size) .none (fun _=>True) rfl κ.w.drew rfl rfl rfl rfl
   refine⟨_,_,hrun,?_,h1,h2 trivial⟩
   have hh:(κ.w.drew.alloc (.cells cs e (cs.size,cs.size+1))).heap[κ.w.heap.size]? = some (.cells cs e (cs.size,cs.size+1)):=heap_alloc_new κ.w.drew _
   have hget:∀ (i:Nat) (b:UInt8),s'.data.toList[i]? = some b->cs[i]? = some (Value.int .u8 (b.toNat:Int)):=by
    intro i b hb
    have hi:i<s'.data.size:=by
     have:=(Up.1 hb).1
     simpa using this
    rw[hcs,Array.getElem?_append_left (by simpa using hi)]
    simp at hb
    simp[hb]
   have key:=PRel.list (w:=κ.w.drew.alloc (.cells cs e (cs.size,cs.size+1))) (imm:=fun b j=>κ.imm b j\/(b=κ.w.heap.size/\True)) (aC s'.data.toList) κ.w.heap.size 0 (grownCap κ.w s'.size 0 e) 1
    (fun i _=>cs.getD i Go.undef) (by simp[aC];exact hge) hle (fun i x hi=>by
     simp only[aC,UB,Uq] at hi
     obtain⟨b,_,rfl⟩:=hi;rfl) (fun i x j y hi hj=>by
     simp only[aC,UB,Uq] at hi
     obtain⟨b,hb,rfl⟩:=hi
     have hj0:j=0:=by
      cases j with
      | zero=>rfl
      | succ j=>simp[PV.cells] at hj
     subst hj0
     have hg:=hget i b hb
     refine⟨.inr ⟨rfl,trivial⟩,?_,?_⟩
     ·rw[cell_of_row _ κ.w.heap.size _ cs e _ hh]
      simp[Uu,hg]
     ·simp[Uu,hg,Value.oneCell']) (fun i x j y hi hj=>by
     simp only[aC,UB,Uq] at hi
     obtain⟨b,hb,rfl⟩:=hi
     have hj0:j=0/\y = .int .u8 (b.toNat:Int):=by
      cases j with
      | zero=>simp[PV.cells] at hj;exact⟨rfl,hj.symm⟩
      | succ j=>simp[PV.cells] at hj
     obtain⟨rfl,rfl⟩:=hj0
     have hg:=hget i b hb
     have e:cs.getD i Go.undef=Value.int .u8 (b.toNat:Int):=by simp[Uu,hg]
     rw[e];exact .int _ _)
   refine .pv _ _ ?_
   have hl:(aC s'.data.toList).length=s'.size:=by simp[aC]
   rw[hl] at key
   exact key
  ·cases hr
 ·cases hr
theorem HK {fn:Func}(h1:fn.name=jy)(h2:(Extern.allNextRows.lookup fn.origin).isNone=true):Extern.find fn=some Extern.AbiNoEscape.same/\Extern.findNext fn=none:=by
 have a1:Extern.allGenericRows.lookup jy=none:=by kernel_rfl
 have a2:Extern.allTypedRows.lookup jy=none:=by kernel_rfl
 have a3:Extern.allRows.lookup jy=some Extern.AbiNoEscape.same:=by kernel_rfl
 have a4:Extern.allNextRows.lookup jy=none:=by kernel_rfl
 have a5:Extern.allNextRows.lookup fn.origin=none:=by simpa using h2
 refine⟨?_,?_⟩
 ·simp[Extern.find,h1,a1,a2,a3]
 ·simp[Extern.findNext,h1,a4,a5]
theorem Hg {fn:Func}(h1:fn.name=ju)(h2:(Extern.allNextRows.lookup fn.origin).isNone=true):Extern.find fn=some Extern.BytealgIndexByte.indexByte/\Extern.findNext fn=none:=by
 have a1:Extern.allGenericRows.lookup ju=none:=by kernel_rfl
 have a2:Extern.allTypedRows.lookup ju=none:=by kernel_rfl
 have a3:Extern.allRows.lookup ju=some Extern.BytealgIndexByte.indexByte:=by kernel_rfl
 have a4:Extern.allNextRows.lookup ju=none:=by kernel_rfl
 have a5:Extern.allNextRows.lookup fn.origin=none:=by simpa using h2
 refine⟨?_,?_⟩
 ·simp[Extern.find,h1,a1,a2,a3]
 ·simp[Extern.findNext,h1,a4,a5]
theorem Ow {x y v:AV}{ux uy:Value}(hx:ARel κ x ux)(hy:ARel κ y uy)(hr:sr x y=some v) :
  ∃ z,(Extern.BytealgIndexByte.indexByte #[ux,uy]).run P κ.w = .ok z κ.w/\ARel κ v z:=by
 unfold sr at hr
 split at hr
 ·rename_i s n
  cases hr
  obtain⟨s',rfl,rfl,hm⟩:=ee hx
  obtain rfl:=bm hy
  refine⟨_,run_indexByte_string s' n κ.w,?_⟩
  rw[Mi]
  exact .pv _ _ (.int _ _)
 ·cases hr
theorem IU {m:XOp}{t:TypeId}{x k y:Operand}{v:AV}{new:Nat}{δ:List (Nat×Blk)}(hS:SRel c κ σ)(hc:Q5 P t x k y=some m)
  (hE:∀ i,i∈m.slots->ARel κ (E i) (a.tmps.getD i Go.undef)) (hr:m.run new E σ=some (v,δ)) :
  ∃ w' δ',(Instr.mapUpdate t (a.eval x) (a.eval k) (a.eval y)).run P κ.w = .ok () w'/\ARel ⟨w',κ.nm,κ.imm⟩ v Go.undef/\δ'=δ/\Done c κ ⟨w',κ.nm,κ.imm⟩ new/\SRel c ⟨w',κ.nm,κ.imm⟩ (σ.upd δ):=by
 unfold Q5 at hc
 split at hc
 ·rename_i kt et ht
  split at hc
  ·rename_i d ax ak ay hd hx hk hy
   simp only[Uq] at hc
   obtain⟨kd,hkd,rfl⟩:=hc
   simp only[XOp.run,Uq,Uy] at hr
   obtain⟨δ',hv',rfl,rfl⟩:=hr
   obtain⟨w',h1,h2,h3⟩:=Ou (P:=P) (new:=new) hS ht hd hkd (aE hx (fun i hi=>hE i (by simp[XOp.slots,hi]))) (aE hk (fun i hi=>hE i (by simp[XOp.slots,hi]))) (aE hy (fun i hi=>hE i (by simp[XOp.slots,hi]))) hv'
   exact⟨w',_,h1,.pv _ _ .undef,rfl,h2,h3⟩
  ·cases hc
 ·cases hc
theorem zZ {o:Oper}{m:XOp}{mu:Bool}{v:AV}{new:Nat}{δ:List (Nat×Blk)}(hc:SG P mu o.op=some m)(hS:SRel c κ σ)(hw:c.w0.heap.size<=κ.w.heap.size)(hn:m.makes=true->κ.nm new=none)
  (hE:∀ i,i∈m.slots->ARel κ (E i) (a.tmps.getD i Go.undef)) (hr:m.run new E σ=some (v,δ)) :
  ∃ x u κ',(execOp a.eval o).run P κ.w = .ok x κ'.w/\(x = .value u\/(x = .skip/\u=Go.undef))/\ARel κ' v u/\Done c κ κ' new/\SRel c κ' (σ.upd δ)/\(m.makes=false->κ'.nm=κ.nm):=by
 obtain⟨dst,op,type,pos,after,guard⟩:=o
 simp only at hc
 unfold SG at hc
 split at hc
 ·rename_i args argTypes
  split at hc
  ·rename_i x y t t' hargs hat
   obtain rfl:args = #[x,y]:=by cases args;simp_all
   obtain rfl:argTypes = #[t,t']:=by cases argTypes;simp_all
   split at hc
   ·rename_i e hu hun
    split at hc
    ·rename_i e' b ax ay hbr hx hy
     split at hc
     ·rename_i hmu
      cases hc
      simp only[XOp.run] at hr
      obtain⟨u,κ',h1,h2,h3,h4⟩:=OB (P:=P) (ty:=type) hS hw (hn rfl) hbr (by assumption) (aE hx (fun i hi=>hE i (by simp[XOp.slots,hi]))) (aE hy (fun i hi=>hE i (by simp[XOp.slots,hi]))) hr
      exact⟨_,u,κ',by simp[execOp,resolve,invoke,builtin,h1],.inl rfl,h2,h3,h4,fun h=>by cases h⟩
     ·cases hc
    ·cases hc
   ·cases hc
  ·cases hc
 ·rename_i f args argTypes
  split at hc
  ·rename_i x y hargs
   obtain rfl:args = #[x,y]:=by cases args;simp_all
   split at hc
   ·rename_i ax ay hes hx hy
    cases hc
    unfold TP at hes
    split at hes
    ·rename_i fn hfn
     simp only[UF,beq_iff_eq] at hes
     obtain⟨⟨hb,hname⟩,horg⟩:=hes
     simp only[XOp.run,Uq,Uy] at hr
     obtain⟨v',hv',rfl,rfl⟩:=hr
     obtain⟨z,h1,h2⟩:=Ow (P:=P) (aE hx (fun i hi=>hE i (by simp[XOp.slots,hi]))) (aE hy (fun i hi=>hE i (by simp[XOp.slots,hi]))) hv'
     obtain⟨f1,f2⟩:=Hg hname horg
     have hnum:(fn.name == "runtime.NumGoroutine")=false:=by rw[hname];kernel_rfl
     refine⟨.value z,z,κ,?_,.inl rfl,h2,Done.same c κ new,hS,fun _=>rfl⟩
     have h4:=run_callFunc_extern (P:=P) hfn hnum hb f2 f1 #[a.eval x,a.eval y] κ.w
     rw[h1] at h4
     have he:a.eval (.func f) = .func (.func f) #[] #[]:=rfl
     simp[execOp,resolve,Deferred.ofValue,invoke,he,h4]
    ·cases hes
   ·cases hc
  ·rename_i x hargs
   obtain rfl:args = #[x]:=by cases args;simp_all
   split at hc
   ·rename_i ax hes hx
    cases hc
    unfold TQ at hes
    split at hes
    ·rename_i fn hfn
     simp only[UF,beq_iff_eq] at hes
     obtain⟨⟨hb,hname⟩,horg⟩:=hes
     simp only[XOp.run,Ur,Uy] at hr
     obtain⟨rfl,rfl⟩:=hr
     obtain⟨f1,f2⟩:=HK hname horg
     have hnum:(fn.name == "runtime.NumGoroutine")=false:=by rw[hname];kernel_rfl
     refine⟨.value (a.eval x),a.eval x,κ,?_,.inl rfl,aE hx hE,Done.same c κ new,hS,fun _=>rfl⟩
     have h4:=run_callFunc_extern (P:=P) hfn hnum hb f2 f1 #[a.eval x] κ.w
     rw[Lib.run_noEscape] at h4
     have he:a.eval (.func f) = .func (.func f) #[] #[]:=rfl
     simp[execOp,resolve,Deferred.ofValue,invoke,he,h4]
    ·cases hes
   ·cases hc
  ·cases hc
 ·rename_i s d x
  split at hc
  ·rename_i t hs hd
   split at hc
   ·rename_i n ax hn' hx
    split at hc
    ·rename_i h0
     cases hc
     simp only[XOp.run,Uq,Uy] at hr
     obtain⟨v',hv',rfl,rfl⟩:=hr
     obtain⟨h1,h2⟩:=wW (P:=P) hS hs hd hn' h0 (aE hx hE) hv'
     exact⟨.value (a.eval x),a.eval x,κ,by simp[execOp,h1],.inl rfl,h2,Done.same c κ new,hS,fun _=>rfl⟩
    ·cases hc
   ·cases hc
  ·rename_i u hs hd
   split at hc
   ·rename_i n ax hn' hx
    split at hc
    ·rename_i hl
     cases hc
     simp only[XOp.run,Uq,Uy] at hr
     obtain⟨v',hv',rfl,rfl⟩:=hr
     obtain⟨h1,h2⟩:=pF (P:=P) hS hs hd hn' hl (aE hx hE) hv'
     exact⟨.value (a.eval x),a.eval x,κ,by simp[execOp,h1],.inl rfl,h2,Done.same c κ new,hS,fun _=>rfl⟩
    ·cases hc
   ·cases hc
  ·rename_i e hs hd
   split at hc
   ·rename_i ax he hx
    cases hc
    simp only[XOp.run] at hr
    obtain⟨z,κ',h1,h2,h3,h4⟩:=Ks (P:=P) hS hw (hn rfl) hs hd he (aE hx hE) hr
    exact⟨.value z,z,κ',by simp[execOp,h1],.inl rfl,h2,h3,h4,fun h=>by cases h⟩
   ·cases hc
  ·rename_i e e' hs hd
   split at hc
   ·rename_i ax he hx
    split at hc
    ·rename_i hsd
     subst hsd
     cases hc
     simp only[XOp.run] at hr
     obtain⟨z,w',h1,h2,h3,h4⟩:=Oo (P:=P) (new:=new) hS hs he (aE hx hE) hr
     exact⟨.value z,z,⟨w',κ.nm,κ.imm⟩,by simp[execOp,h1],.inl rfl,h2,h3,h4,fun _=>rfl⟩
    ·cases hc
   ·cases hc
  ·cases hc
 ·rename_i t x y yt
  split at hc
  ·rename_i te ht
   split at hc
   ·rename_i i ax ay hi hx hy
    cases hc
    simp only[XOp.run,Uq,Uy] at hr
    obtain⟨v',hv',rfl,rfl⟩:=hr
    obtain⟨z,h1,h2⟩:=Ot (P:=P) (X:=x) (Y:=y) (.inl ⟨rfl,rfl⟩) ht hi (aE hx (fun i hi=>hE i (by simp[XOp.slots,hi]))) (aE hy (fun i hi=>hE i (by simp[XOp.slots,hi]))) hv'
    exact⟨.value z,z,κ,by simp only[execOp];rw[Sem.run_bind,h1];rfl,.inl rfl,h2,Done.same c κ new,hS,fun _=>rfl⟩
   ·cases hc
  ·rename_i ms ht
   split at hc
   ·rename_i cv ax ay hx hy
    cases hc
    simp only[XOp.run,Uq,Uy] at hr
    obtain⟨v',hv',rfl,rfl⟩:=hr
    obtain⟨z,h1,h2⟩:=IV (P:=P) (X:=x) (cv:=cv) (.inl ⟨rfl,rfl⟩) ht (aE hx (fun i hi=>hE i (by simp[XOp.slots,hi]))) (aE hy (fun i hi=>hE i (by simp[XOp.slots,hi]))) hv'
    exact⟨.value z,z,κ,by simp only[execOp];rw[Sem.run_bind,h1];rfl,.inl rfl,h2,Done.same c κ new,hS,fun _=>rfl⟩
   ·cases hc
  ·cases hc
 ·rename_i t x y yt
  split at hc
  ·rename_i te ht
   split at hc
   ·rename_i i ax ay hi hx hy
    cases hc
    simp only[XOp.run,Uq,Uy] at hr
    obtain⟨v',hv',rfl,rfl⟩:=hr
    obtain⟨z,h1,h2⟩:=Ot (P:=P) (X:=x) (Y:=y) (.inr ⟨rfl,rfl⟩) ht hi (aE hx (fun i hi=>hE i (by simp[XOp.slots,hi]))) (aE hy (fun i hi=>hE i (by simp[XOp.slots,hi]))) hv'
    exact⟨.value z,z,κ,by simp only[execOp];rw[Sem.run_bind,h1];rfl,.inl rfl,h2,Done.same c κ new,hS,fun _=>rfl⟩
   ·cases hc
  ·rename_i ms ht
   split at hc
   ·rename_i cv ax ay hx hy
    cases hc
    simp only[XOp.run,Uq,Uy] at hr
    obtain⟨v',hv',rfl,rfl⟩:=hr
    obtain⟨z,h1,h2⟩:=IV (P:=P) (X:=x) (cv:=cv) (.inr ⟨rfl,rfl⟩) ht (aE hx (fun i hi=>hE i (by simp[XOp.slots,hi]))) (aE hy (fun i hi=>hE i (by simp[XOp.slots,hi]))) hv'
    exact⟨.value z,z,κ,by simp only[execOp];rw[Sem.run_bind,h1];rfl,.inl rfl,h2,Done.same c κ new,hS,fun _=>rfl⟩
   ·cases hc
  ·cases hc
 ·rename_i args argTypes
  split at hc
  ·rename_i x hargs
   obtain rfl:args = #[x]:=by cases args;simp_all
   simp only[Uq] at hc
   obtain⟨ax,hx,rfl⟩:=hc
   simp only[XOp.run,Uq,Uy] at hr
   obtain⟨v',hv',rfl,rfl⟩:=hr
   obtain⟨z,h1,h2⟩:=Kr (P:=P) (ts:=argTypes) (ty:=type) (κ:=κ) (aE hx hE) hv'
   exact⟨_,z,κ,by simp[execOp,resolve,invoke,builtin,h1],.inl rfl,h2,Done.same c κ new,hS,fun _=>rfl⟩
  ·cases hc
 ·rename_i args argTypes
  split at hc
  ·rename_i x y pt it hargs hat
   obtain rfl:args = #[x,y]:=by cases args;simp_all
   obtain rfl:argTypes = #[pt,it]:=by cases argTypes;simp_all
   split at hc
   ·rename_i e hp
    split at hc
    ·rename_i ax ay hx hy
     split at hc
     ·rename_i hce
      cases hc
      simp only[XOp.run] at hr
      obtain⟨z,w',h1,h2,h3,h4⟩:=On (P:=P) (it:=it) (ty:=type) (new:=new) hS hp hce (aE hx (fun i hi=>hE i (by simp[XOp.slots,hi]))) (aE hy (fun i hi=>hE i (by simp[XOp.slots,hi]))) hr
      exact⟨_,z,_,by simp[execOp,resolve,invoke,builtin,h1],.inl rfl,h2,h3,h4,fun _=>rfl⟩
     ·cases hc
    ·cases hc
   ·cases hc
  ·cases hc
 ·rename_i t
  cases hc
  simp only[XOp.run,Ur,Uy] at hr
  obtain⟨rfl,rfl⟩:=hr
  obtain⟨u,κ',h1,h2,h3,h4⟩:=Ku (P:=P) (t:=t) hS hw (hn rfl)
  exact⟨.value u,u,κ',by simp[execOp,h1],.inl rfl,h2,h3,h4,fun h=>by cases h⟩
 ·rename_i t x k co
  split at hc
  ·rename_i kt et ht
   split at hc
   ·rename_i d i ax ak hd hi hx hk
    split at hc
    ·rename_i kd z hkd hz
     simp only[Uq] at hc
     obtain⟨p,hp,rfl⟩:=hc
     simp only[XOp.run,Uq,Uy] at hr
     obtain⟨v',hv',rfl,rfl⟩:=hr
     obtain⟨u,h1,h2⟩:=Kt (P:=P) hS ht hd hkd hi hz hp (aE hx (fun i hi=>hE i (by simp[XOp.slots,hi]))) (aE hk (fun i hi=>hE i (by simp[XOp.slots,hi]))) hv'
     exact⟨.value u,u,κ,by simp[execOp,h1],.inl rfl,h2,Done.same c κ new,hS,fun _=>rfl⟩
    ·cases hc
   ·cases hc
  ·cases hc
 ·rename_i t x k y
  obtain⟨w',δ',h1,h2,rfl,h3,h4⟩:=IU (a:=a) (new:=new) hS hc hE hr
  exact⟨.skip,Go.undef,_,by simp[execOp,h1],.inr ⟨rfl,rfl⟩,h2,h3,h4,fun _=>rfl⟩
 ·rename_i t x k y
  obtain⟨w',δ',h1,h2,rfl,h3,h4⟩:=IU (a:=a) (new:=new) hS hc hE hr
  exact⟨.skip,Go.undef,_,by simp[execOp,h1],.inr ⟨rfl,rfl⟩,h2,h3,h4,fun _=>rfl⟩
 ·cases hc
end
def cM0 (P:Program)(mu:Bool):Op->Option MOp
 | .alloc e=>(jE P e).map (.alloc e)
 | .box e x=>(cX x).map (if mu=true then .cbox e else .box e)
 | .load t x=>match g9 P t,j5 P t,cX x with
   | some n,some g,some ax=>some (.load g n ax)
   | _,_,_=>none
 | .store t x v=>match g9 P t,cX x,cX v with
   | some n,some ax,some av=>some (.store n ax av)
   | _,_,_=>none
 | .buildSlice t len parts=>match P.underlying t with
   | some (.slice e)=>match g9 P e,jE P e,cXs (parts.toList.map (·.2)) with
     | some n,some _,some xs=>if len*n<=2 ^ 24/\parts.toList.map (·.1)=UZ len then some (.bslice mu e n len xs) else none
     | _,_,_=>none
   | _=>none
 | .call { callee:=.builtin .append,args,argTypes }=>match args.toList,argTypes.toList with
   | [x,y],[t,t']=>if t=t' then match P.underlying t with
     | some (.slice e)=>match P.info? e with
       | some i=>match i.zero,cX x,cX y with
         | some z,some ax,some ay=>if z.cells.size=i.size then some (.append mu e i.size i.bytes ax ay) else none
         | _,_,_=>none
       | none=>none
     | _=>none
     else none
   | _,_=>none
 | .call { callee:=.builtin .clear,args,argTypes }=>match args.toList,argTypes.toList with
   | [x],[t]=>match P.underlying t with
     | some (.slice e)=>match jE P e,cX x with
       | some zs,some ax=>some (.clear zs.length zs ax)
       | _,_=>none
     | _=>none
   | _,_=>none
 | .slice t x lo hi none=>match P.underlying t with
   | some (.array n e)=>match g9 P e,cX x,cO lo,cO hi with
     | some s,some ax,some al,some ah=>some (.sliceA n s ax al ah)
     | _,_,_,_=>none
   | _=>none
 | .convert s d x=>match P.underlying s,P.underlying d with
   | some (.slice e),some .string=>match P.underlying e with
     | some (.int .u8)=>(cX x).map .toStr
     | _=>none
   | _,_=>none
 | .makeSlice t x y=>match P.underlying t with
   | some (.slice e)=>match P.info? e with
     | some i=>match i.zero with
       | some z=>match cV z,cX x,cX y with
         | some p,some ax,some ay=>if p.cells.length=i.size then some (.mk mu e i.size i.bytes p.cells ax ay) else none
         | _,_,_=>none
       | none=>none
     | none=>none
   | _=>none
 | _=>none
def cM (P:Program)(mu:Bool)(op:Op):Option MOp:=
 match cM0 P mu op with
 | some m=>some m
 | none=>(SG P mu op).map .xop
section
variable {P:Program}{c:Ctx}{κ:Kap}{σ:aD}{E:Nat->AV}{a:Act}
theorem eq (sz:Nat)(zs:List PV)(hz:zs.length=sz):∀ (n j:Nat) (x:PV),(U4 n zs).flatten[j]? = some x->j<n*sz/\zs[j % sz]? = some x
 | 0,j,x,h=>by simp at h
 | n+1,j,x,h=>by
   rw[List.replicate_succ,List.flatten_cons] at h
   by_cases hj:j<sz
   ·rw[UO (by omega)] at h
    refine⟨by rw[Nat.succ_mul];omega,?_⟩
    rw[Nat.mod_eq_of_lt hj];exact h
   ·rw[UR (by omega),hz] at h
    obtain⟨h1,h2⟩:=eq sz zs hz n (j - sz) x h
    refine⟨by rw[Nat.succ_mul];omega,?_⟩
    have:j % sz=(j - sz) % sz:=by rw[Nat.mod_eq_sub_mod (by omega)]
    rw[this];exact h2
theorem TY {mu:Bool}{t e new:Nat}{i:TypeInfo}{z:Value}{p:PV}{x y v:AV}{ux uy:Value}{δ:List (Nat×Blk)}(hS:SRel c κ σ)(hw:c.w0.heap.size<=κ.w.heap.size)(hn:κ.nm new=none)
  (hu:P.underlying t=some (.slice e)) (hi:P.info? e=some i) (hz:i.zero=some z) (hp:cV z=some p) (hsz:p.cells.length=i.size) (hx:ARel κ x ux) (hy:ARel κ y uy) (hr:rMk mu e i.size i.bytes p.cells new x y=some (v,δ)) :
  ∃ u κ',(Instr.makeSlice t ux uy).run P κ.w = .ok u κ'.w/\ARel κ' v u/\Done c κ κ' new/\SRel c κ' (σ.upd δ):=by
 unfold rMk at hr
 split at hr
 ·rename_i kl l kc cc
  obtain rfl:=bm hx
  obtain rfl:=bm hy
  split at hr
  ·rename_i hh
   obtain⟨h0,hlc,hby,h63⟩:=hh
   have hrun:=run_make (P:=P) κ.w t e i z hu hi hz kl kc l cc h0 hlc hby h63
   have hmax:cc.toNat<=maxLen:=by unfold maxLen;omega
   have hle:l.toNat<=cc.toNat:=by omega
   obtain⟨k1,k2⟩:=(ARel.pv (κ:=κ) p z (jV hp)).cellsOf rfl
   split at hr
   ·split at hr
    ·rename_i hl0
     cases hr
     obtain⟨κ',e1,e2,e3,e4⟩:=lq (e:=e) (sz:=i.size) (n:=0) (cap:=cc.toNat) (l:=[]) (xs:=[]) hS hw hn (by exact⟨by simp,by simp,by simp⟩) rfl (U8 _) hmax (size_madeCells z.cells (cc.toNat*i.size)) (by simp) κ.w rfl rfl rfl rfl
     refine⟨_,κ',by rw[hrun,e1],?_,e3,e4⟩
     rw[hl0]
     exact e2
    ·cases hr
   ·cases hr
    have hlen:((U4 l.toNat p.cells).flatten.map AV.pv).length=l.toNat*i.size:=by simp[hsz]
    have hmul:l.toNat*i.size<=cc.toNat*i.size:=UQ _ hle
    obtain⟨κ',e1,e2,e3,e4⟩:=cr (T:=e) (f:=false) (cs:=madeCells z.cells (cc.toNat*i.size)) (l:=(U4 l.toNat p.cells).flatten.map AV.pv) hS hw hn (by rw[hlen,size_madeCells];exact hmul) (fun h=>by cases h) (fun j x hx=>by
     simp only[UB,Uq] at hx
     obtain⟨q,hq,rfl⟩:=hx
     obtain⟨h1,h2⟩:=eq i.size p.cells hsz l.toNat j q hq
     have h3:=k2 (j % i.size) (.pv q) (by simp[AV.cells,h2])
     have hzs:z.cells.size=i.size:=by rw[k1];simp[AV.cells,hsz]
     have e:(madeCells z.cells (cc.toNat*i.size)).getD j Go.undef=z.cells.getD (j % i.size) Go.undef:=by
      have hj:j<cc.toNat*i.size:=by omega
      have hm:j % i.size<i.size:=Nat.mod_lt _ (by
       rcases Nat.eq_zero_or_pos i.size with h | h
       ·rw[h] at h1;simp at h1
       ·exact h)
      have hm2:j % z.cells.size<z.cells.size:=by rw[hzs];exact hm
      simp[madeCells,Uu,hj,hzs,hm]
     rw[e];exact h3) κ.w rfl rfl rfl rfl
    refine⟨_,κ',by rw[hrun,e1],?_,e3,e4⟩
    rw[size_madeCells] at e2
    exact .row _ _ _ _ _ _ cc.toNat e2 (by omega) (fun _=>rfl) hle hmax
  ·cases hr
 ·cases hr
theorem KB {t e ty new:Nat}{zs:List PV}{x:AV}{u:Value}{δ:List (Nat×Blk)}(hS:SRel c κ σ)(hu:P.underlying t=some (.slice e))(hz:jE P e=some zs)(hx:ARel κ x u)(hr:pU zs.length zs σ x=some δ) :
  ∃ w',(Builtin.clear_ #[t] ty #[u]).run P κ.w = .ok (.tuple #[]) w'/\Done c κ ⟨w',κ.nm,κ.imm⟩ new/\SRel c ⟨w',κ.nm,κ.imm⟩ (σ.upd δ):=by
 unfold pU at hr
 split at hr
 ·rename_i r s off len
  split at hr
  ·rename_i T f l hσ
   split at hr
   ·rename_i hh
    obtain⟨rfl,h0,_,hle,hone⟩:=hh
    cases hr
    cases hx with
    | row0=>omega
    | row _ _ _ _ b n cap hnm _ _ _ _=>
      obtain⟨cs,hg,hcs,hln,hf,himm,hrel,_⟩:=cR hS hσ hnm
      obtain⟨z,p,hz1,hp,rfl⟩:=kb (P:=P) (w:=κ.w) hz
      obtain⟨q1,q2⟩:=(ARel.pv (κ:=κ) p z (jV hp)).cellsOf rfl
      have hzs:z.cells.size=p.cells.length:=by rw[q1];simp[AV.cells]
      have hnl:(Builtin.zeroCells z.cells len).size=len*p.cells.length:=by rw[size_zeroCells,hzs]
      have hget:∀ j,j<len*p.cells.length->∃ y,p.cells[j % p.cells.length]? = some y/\ARel κ (.pv y) ((Builtin.zeroCells z.cells len).getD j Go.undef)/\y.one=true:=by
       intro j hj
       have hpos:0<p.cells.length:=by
        rcases Nat.eq_zero_or_pos p.cells.length with h | h
        ·rw[h] at hj;simp at hj
        ·exact h
       have hm:j % p.cells.length<p.cells.length:=Nat.mod_lt _ hpos
       refine⟨_,Uo hm,?_,(UP.1 hone) _ (List.getElem_mem hm)⟩
       have h3:=q2 (j % p.cells.length) (.pv p.cells[j % p.cells.length]) (by simp[AV.cells,hm])
       have e:(Builtin.zeroCells z.cells len).getD j Go.undef=z.cells.getD (j % p.cells.length) Go.undef:=by
        simp[Builtin.zeroCells,Uu,hj,hzs,hm]
       rw[e];exact h3
      have hone':∀ y∈(Builtin.zeroCells z.cells len).toList,y.oneCell'=true:=by
       intro y hy
       obtain⟨i,hi,rfl⟩:=List.getElem_of_mem hy
       have hi':i<(Builtin.zeroCells z.cells len).size:=by simpa using hi
       obtain⟨y,h1,h2,h3⟩:=hget i (by rw[<- hnl];exact hi')
       have:=h2.oneCell (by simpa[AV.one] using h3)
       simpa[Uu,hi'] using this
      have hst:=run_storeCells_at (P:=P) b off T (Builtin.zeroCells z.cells len).toList 0 cs κ.w hg (by simp;omega) hone'
      simp only[Nat.add_zero,VA] at hst
      obtain⟨X,hX⟩:∃ X,X=(U4 len p.cells).flatten.map AV.pv:=⟨_,rfl⟩
      have hXl:X.length=len*p.cells.length:=by rw[hX];simp
      rw[<- hX]
      refine⟨κ.w.setRow b (cs.toList.take off++(Builtin.zeroCells z.cells len).toList++cs.toList.drop (off+(Builtin.zeroCells z.cells len).size)).toArray,?_,?_⟩
      ·obtain⟨m,rfl⟩:∃ m,len=m+1:=⟨len - 1,by omega⟩
       simp[Builtin.clear_,run_underlying hu,hz1,hst]
      ·have hh:=setRow_heap κ.w b cs (cs.toList.take off++(Builtin.zeroCells z.cells len).toList++cs.toList.drop (off+(Builtin.zeroCells z.cells len).size)).toArray T (0,0) hg
       obtain⟨h1,h2⟩:=wR hS (r0:=r) (b0:=b) (d0:=.blk b n) (Bo:=.cells T f (l.take off++X++l.drop (off+len*p.cells.length)))
        (w':=κ.w.setRow b (cs.toList.take off++(Builtin.zeroCells z.cells len).toList++cs.toList.drop (off+(Builtin.zeroCells z.cells len).size)).toArray) new
        rfl rfl rfl (setRow_size ..) (fun b' hb'=>setRow_other κ.w b b' _ hb') himm (by rw[hσ];simp) hnm rfl
       refine⟨h1,h2 (.inr ⟨b,n,_,hnm,hh,?_,?_,?_,fun i y hy=>?_,himm⟩)⟩
       ·simp;omega
       ·simp;omega
       ·intro hft;have:=hf hft;simp;omega
       ·rw[aF]
        simp only
        rw[Uv]
        rw[<- hXl] at hy hle
        rw[dn l X off i hle] at hy
        have hm:=dn cs.toList (Builtin.zeroCells z.cells len).toList off i (by simp;omega)
        simp only[VA] at hm
        rw[hm]
        by_cases hi:off<=i/\i<off+X.length
        ·rw[if_pos hi] at hy
         rw[if_pos (by omega)]
         obtain⟨y',g1,g2,_⟩:=hget (i - off) (by omega)
         rw[hX] at hy
         simp only[UB,Uq] at hy
         obtain⟨q,hq,rfl⟩:=hy
         obtain⟨_,g3⟩:=eq p.cells.length p.cells rfl len (i - off) q hq
         rw[g3] at g1;cases g1
         have:=g2.ext h1.ext
         rw[aF,Uv] at this
         exact this
        ·rw[if_neg hi] at hy
         rw[if_neg (by omega)]
         have:=(hrel i y hy).ext h1.ext
         rw[aF,Uv] at this
         exact this
   ·cases hr
  ·cases hr
 ·cases hr
theorem ud:∀ {ys:List PV} {l:List UInt8},u8s ys=some l->∃ ns:List Int,ys=ns.map (PV.int .u8)/\l=ns.map fun n=>UInt8.ofNat n.toNat
 | [],l,h=>by simp only[u8s,Ur] at h;subst h;exact⟨[],rfl,rfl⟩
 | y::r,l,h=>by
   unfold u8s at h
   split at h
   ·cases ‹_::_=[]›
   ·rename_i n r' he
    cases he
    split at h
    ·rename_i k hk
     cases h
     obtain⟨ns,h1,h2⟩:=ud hk
     exact⟨n::ns,by rw[h1];rfl,by rw[h2];rfl⟩
    ·cases h
   ·cases h
theorem l6:∀ (ns:List Int) (s:ByteArray),(ns.foldl (fun r n=>r.push (UInt8.ofNat n.toNat)) s).data.toList=s.data.toList++ns.map fun n=>UInt8.ofNat n.toNat
 | [],s=>by simp
 | n::r,s=>by
   rw[List.foldl_cons,l6 r]
   simp[ByteArray.push]
theorem Kp {src dst e:TypeId}{x v:AV}{u:Value}(hS:SRel c κ σ)(hs:P.underlying src=some (.slice e))(he:P.underlying e=some (.int .u8))(hd:P.underlying dst=some .string)(hx:ARel κ x u)(hr:iw σ x=some v) :
  ∃ u',(convert src dst u).run P κ.w = .ok u' κ.w/\ARel κ v u':=by
 unfold iw at hr
 split at hr
 ·rename_i ys hys
  split at hr
  ·rename_i l hl
   cases hr
   have hlen:=DI hx hys hS
   obtain⟨A,m,cc,xs,rfl,hm,hrow,_,hcell⟩:=mh hS hx hys
   obtain⟨ns,rfl,rfl⟩:=ud hl
   obtain⟨h1,h2,h3⟩:=hrow
   have hxs:xs=ns.map (Value.int .u8):=by
    refine List.ext_getElem? fun i=>?_
    rw[UB]
    cases hn:ns[i]? with
    | none=>
      have:ns.length<=i:=by simpa using hn
      rw[UN (by rw[h1];simp;omega)];rfl
    | some n=>
      have hi:i<ns.length:=(Up.1 hn).1
      have h4:=(h3 i (.int .u8 n) 0 (.int .u8 n) (by rw[UB,hn];rfl) rfl).1
      rw[Nat.mul_one,Nat.add_zero] at h4
      have h5:i<xs.length:=by rw[h1];simp;omega
      rw[Uo h5]
      rw[Uv,Uo h5] at h4
      simp only[Vg] at h4
      generalize xs[i]=y at h4
      cases h4;rfl
   subst hxs
   rw[run_convert_bytes_string κ.w src dst e A m cc hs he hd]
   cases A with
   | none=>
     rcases hcell with h0 | ⟨a,ha,_⟩
     ·have:ns=[]:=UH (by rw[h0] at hm;simpa using hm.symm)
      subst this
      exact⟨.string .empty,by simp[Conv.bytesToString],.pv _ _ (.str .empty (by simp[maxLen]))⟩
     ·cases ha
   | some a=>
     have hload:(loadCells a m).run P κ.w = .ok (ns.map (Value.int .u8)).toArray κ.w:=by
      have hml:m=(ns.map (Value.int .u8)).length:=by rw[hm];simp
      rw[hml]
      refine run_loadCells_list κ.w a _ fun j v hj=>?_
      rcases hcell with h0 | ⟨a',ha,hc⟩
      ·have:j<(ns.map (Value.int .u8)).length:=(Up.1 hj).1
       omega
      ·cases ha;exact hc j v hj
     refine⟨_,run_bytesToString κ.w a m cc ns hload,AJ ?_ (by simpa using hlen)⟩
     rw[l6];simp
  ·cases hr
 ·cases hr
theorem xV {o:Oper}{m:MOp}{mu:Bool}{v:AV}{new:Nat}{δ:List (Nat×Blk)}(hc:cM0 P mu o.op=some m)(hS:SRel c κ σ)(hw:c.w0.heap.size<=κ.w.heap.size)(hn:m.makes=true->κ.nm new=none)
  (hE:∀ i,i∈m.slots->ARel κ (E i) (a.tmps.getD i Go.undef)) (hr:m.run c.G new E σ=some (v,δ)) :
  ∃ x u κ',(execOp a.eval o).run P κ.w = .ok x κ'.w/\(x = .value u\/(x = .skip/\u=Go.undef))/\ARel κ' v u/\Done c κ κ' new/\SRel c κ' (σ.upd δ)/\(m.makes=false->κ'.nm=κ.nm):=by
 obtain⟨dst,op,type,pos,after,guard⟩:=o
 simp only at hc
 unfold cM0 at hc
 split at hc
 ·rename_i e
  simp only[Uq] at hc
  obtain⟨zs,hz,rfl⟩:=hc
  simp only[MOp.run,Ur,Uy] at hr
  obtain⟨rfl,rfl⟩:=hr
  obtain⟨u,κ',h1,h2,h3,h4⟩:=KC (P:=P) hS hw (hn rfl) hz (.tuple #[])
  exact⟨_,u,κ',by simp[execOp,h1],.inl rfl,h2,h3,h4,fun h=>by cases h⟩
 ·rename_i e x
  simp only[Uq] at hc
  obtain⟨ax,hx,rfl⟩:=hc
  by_cases hmu:mu=true
  ·simp only[hmu,if_true] at hn hE hr ⊢
   simp only[MOp.run] at hr
   split at hr
   ·rename_i p hp
    split at hr
    ·rename_i ho
     simp only[Ur,Uy] at hr
     obtain⟨rfl,rfl⟩:=hr
     obtain⟨u,κ',h1,h2,h3,h4⟩:=Oz (P:=P) (T:=e) hS hw (hn rfl) hp ho (aE hx hE)
     exact⟨_,u,κ',by simp[execOp,h1],.inl rfl,h2,h3,h4,fun h=>by cases h⟩
    ·cases hr
   ·cases hr
  rw[if_neg hmu] at hn hE hr ⊢
  simp only[MOp.run] at hr
  split at hr
  ·rename_i hk
   simp only[Ur,Uy] at hr
   obtain⟨rfl,rfl⟩:=hr
   obtain⟨u,κ',h1,h2,h3,h4⟩:=RO (P:=P) (T:=e) hS hw (hn rfl) hk (aE hx hE)
   exact⟨_,u,κ',by simp[execOp,h1],.inl rfl,h2,h3,h4,fun h=>by cases h⟩
  ·cases hr
 ·rename_i t x
  split at hc
  ·rename_i n g ax hsz hg hx
   cases hc
   simp only[MOp.run,Uq,Uy] at hr
   obtain⟨v',hv',rfl,rfl⟩:=hr
   obtain⟨u,h1,h2⟩:=AZ (P:=P) hS hg hsz (aE hx hE) hv'
   exact⟨_,u,κ,by simp[execOp,h1],.inl rfl,h2,Done.same c κ new,hS,fun _=>rfl⟩
  ·cases hc
 ·rename_i t x y
  split at hc
  ·rename_i n ax ay hsz hx hy
   cases hc
   simp only[MOp.run,Uq,Uy] at hr
   obtain⟨d,hd,rfl,rfl⟩:=hr
   obtain⟨w',h1,h2,h3⟩:=Kq (P:=P) (new:=new) hS hsz (aE hx (fun i hi=>hE i (by simp[MOp.slots,hi]))) (aE hy (fun i hi=>hE i (by simp[MOp.slots,hi]))) hd
   exact⟨_,Go.undef,_,by simp[execOp,h1],.inr ⟨rfl,rfl⟩,.pv _ _ .undef,h2,h3,fun _=>rfl⟩
  ·cases hc
 ·rename_i t len parts
  split at hc
  ·rename_i e hu
   split at hc
   ·rename_i n zs xs hsz hz hxs
    split at hc
    ·rename_i hh
     cases hc
     obtain⟨z,p,hz1,_,_⟩:=kb (P:=P) (w:=κ.w) hz
     obtain⟨_,hrel⟩:=gY (κ:=κ) (E:=E) (a:=a) hxs hE
     simp only[MOp.run] at hr
     obtain⟨u,κ',h1,h2,h3,h4⟩:=FI (P:=P) (t:=t) (parts:=parts.map fun p=>(p.1,a.eval p.2)) (z:=z) hS hw (hn rfl) hu hsz hz1 hh.1
      (by rw[<- hh.2];simp[Function.comp_def]) (fun i v hv=>by
       have:=hrel i v hv
       simpa[Function.comp_def] using this) hr
     exact⟨_,u,κ',by simp[execOp,h1],.inl rfl,h2,h3,h4,fun h=>by cases h⟩
    ·cases hc
   ·cases hc
  ·cases hc
 ·rename_i args argTypes
  split at hc
  ·rename_i x y t t' hargs hat
   obtain rfl:args = #[x,y]:=by cases args;simp_all
   obtain rfl:argTypes = #[t,t']:=by cases argTypes;simp_all
   split at hc
   ·rename_i htt
    subst htt
    split at hc
    ·rename_i e hu
     split at hc
     ·rename_i i hi
      split at hc
      ·rename_i z ax ay hz hx hy
       split at hc
       ·rename_i hzs
        cases hc
        simp only[MOp.run] at hr
        have hI:ElemInfo P t e i.size i.bytes:=⟨hu,i,z,hi,hz,rfl,rfl,hzs⟩
        have hx':=aE (κ:=κ) (E:=E) (a:=a) hx (fun i hi=>hE i (by simp[MOp.slots,hi]))
        have hy':=aE (κ:=κ) (E:=E) (a:=a) hy (fun i hi=>hE i (by simp[MOp.slots,hi]))
        cases mu with
        | false=>
          obtain⟨u,κ',h1,h2,h3,h4⟩:=FJ (P:=P) (ty:=type) hS hw (hn rfl) hI hx' hy' hr
          exact⟨_,u,κ',by simp[execOp,resolve,invoke,builtin,h1],.inl rfl,h2,h3,h4,fun h=>by cases h⟩
        | true=>
          obtain⟨u,κ',h1,h2,h3,h4⟩:=A1 (P:=P) (ty:=type) hS hw (hn rfl) hI hx' hy' hr
          exact⟨_,u,κ',by simp[execOp,resolve,invoke,builtin,h1],.inl rfl,h2,h3,h4,fun h=>by cases h⟩
       ·cases hc
      ·cases hc
     ·cases hc
    ·cases hc
   ·cases hc
  ·cases hc
 ·rename_i args argTypes
  split at hc
  ·rename_i x t hargs hat
   obtain rfl:args = #[x]:=by cases args;simp_all
   obtain rfl:argTypes = #[t]:=by cases argTypes;simp_all
   split at hc
   ·rename_i e hu
    split at hc
    ·rename_i zs ax hz hx
     cases hc
     simp only[MOp.run,Uq,Uy] at hr
     obtain⟨d,hd,rfl,rfl⟩:=hr
     obtain⟨w',h1,h2,h3⟩:=KB (P:=P) (ty:=type) (new:=new) hS hu hz (aE hx hE) hd
     exact⟨_,.tuple #[],_,by simp[execOp,resolve,invoke,builtin,h1],.inl rfl,.pv _ _ (.tup [] #[] rfl (by simp)),h2,h3,fun _=>rfl⟩
    ·cases hc
   ·cases hc
  ·cases hc
 ·rename_i t x lo hi
  split at hc
  ·rename_i n e hu
   split at hc
   ·rename_i s ax al ah hsz hx hl hh
    cases hc
    simp only[MOp.run] at hr
    obtain⟨l1,l2⟩:=nS (κ:=κ) (E:=E) (a:=a) hl (fun i hi=>hE i (by simp[MOp.slots,hi]))
    obtain⟨h1,h2⟩:=nS (κ:=κ) (E:=E) (a:=a) hh (fun i hi=>hE i (by simp[MOp.slots,hi]))
    have hx':=aE (κ:=κ) (E:=E) (a:=a) hx (fun i hi=>hE i (by simp[MOp.slots,hi]))
    split at hr
    ·rename_i r o hxe
     rw[hxe] at hx'
     obtain⟨b,N,hux,hnm⟩:∃ b N,a.eval x = .pointer (some ⟨b,o,none⟩)/\κ.nm r=some (.blk b N):=by
      generalize a.eval x=ux at hx'
      cases hx' with
      | ptr _ _ b N h=>exact⟨b,N,rfl,h⟩
     split at hr
     ·rename_i T f l hσ
      split at hr
      ·rename_i hg
       obtain⟨hf,hle,h0,hmax⟩:=hg
       simp only[Uq,Uy] at hr
       obtain⟨v',hv',rfl,rfl⟩:=hr
       obtain⟨cs,_,hcs,hln,hfn,_,_,_⟩:=cR hS hσ hnm
       have hN:=hfn hf
       have hrow:ARel κ (.row r s o n) (.slice (some ⟨b,o,none⟩) n n):=.row r s o n b N n hnm (by omega) (fun h=>by rw[h0 h,hN]) (UA _) (by unfold maxLen;omega)
       obtain⟨A,m',c',p,q,e1,hb,hv⟩:=ut (P:=P) hrow l1 l2 h1 h2 hv'
       cases e1
       refine⟨.value _,_,κ,?_,.inl rfl,hv,Done.same c κ new,hS,fun _=>rfl⟩
       have hb:=hb false
       simp only[execOp,Instr.sliceAt,Sem.run_bind,run_underlying hu,Result.andThen_ok,hux,Instr.sureAddr,Sem.run_pure,Option.map_none,hb,bP hsz]
       congr 4
       split<;>rfl
      ·cases hr
     ·cases hr
    ·cases hr
   ·cases hc
  ·cases hc
 ·rename_i s d x
  split at hc
  ·rename_i e hs hd
   split at hc
   ·rename_i he
    simp only[Uq] at hc
    obtain⟨ax,hx,rfl⟩:=hc
    simp only[MOp.run,Uq,Uy] at hr
    obtain⟨v',hv',rfl,rfl⟩:=hr
    obtain⟨u,h1,h2⟩:=Kp (P:=P) hS hs he hd (aE hx hE) hv'
    exact⟨_,u,κ,by simp[execOp,h1],.inl rfl,h2,Done.same c κ new,hS,fun _=>rfl⟩
   ·cases hc
  ·cases hc
 ·rename_i t x y
  split at hc
  ·rename_i e hu
   split at hc
   ·rename_i i hi
    split at hc
    ·rename_i z hz
     split at hc
     ·rename_i p ax ay hp hx hy
      split at hc
      ·rename_i hsz
       cases hc
       simp only[MOp.run] at hr
       have hx':=aE (κ:=κ) (E:=E) (a:=a) hx (fun i hi=>hE i (by simp[MOp.slots,hi]))
       have hy':=aE (κ:=κ) (E:=E) (a:=a) hy (fun i hi=>hE i (by simp[MOp.slots,hi]))
       obtain⟨u,κ',h1,h2,h3,h4⟩:=TY (P:=P) hS hw (hn rfl) hu hi hz hp hsz hx' hy' hr
       exact⟨_,u,κ',by simp[execOp,h1],.inl rfl,h2,h3,h4,fun h=>by cases h⟩
      ·cases hc
     ·cases hc
    ·cases hc
   ·cases hc
  ·cases hc
 ·cases hc
theorem Cx {o:Oper}{m:MOp}{mu:Bool}{v:AV}{new:Nat}{δ:List (Nat×Blk)}(hc:cM P mu o.op=some m)(hS:SRel c κ σ)(hw:c.w0.heap.size<=κ.w.heap.size)(hn:m.makes=true->κ.nm new=none)
  (hE:∀ i,i∈m.slots->ARel κ (E i) (a.tmps.getD i Go.undef)) (hr:m.run c.G new E σ=some (v,δ)) :
  ∃ x u κ',(execOp a.eval o).run P κ.w = .ok x κ'.w/\(x = .value u\/(x = .skip/\u=Go.undef))/\ARel κ' v u/\Done c κ κ' new/\SRel c κ' (σ.upd δ)/\(m.makes=false->κ'.nm=κ.nm):=by
 unfold cM at hc
 split at hc
 ·rename_i m' hm
  cases hc
  exact xV hm hS hw hn hE hr
 ·simp only[Uq] at hc
  obtain⟨x,hx,rfl⟩:=hc
  exact zZ hx hS hw hn hE hr
def cBf (P:Program):Op->Option MOp
 | .buildSlice t len parts=>match P.underlying t with
   | some (.slice e)=>match g9 P e,jE P e,cXs (parts.toList.map (·.2)) with
     | some n,some _,some xs=>if len*n<=2 ^ 24/\parts.toList.map (·.1)=UZ len then some (.xop (.bslf n len xs)) else none
     | _,_,_=>none
   | _=>none
 | _=>none
def cMm (P:Program)(mu:Bool×Bool)(op:Op):Option MOp:=
 match mu.2 with
 | true=>cBf P op
 | false=>cM P mu.1 op
theorem nt {o:Oper}{m:MOp}{mu:Bool×Bool}{v:AV}{new:Nat}{δ:List (Nat×Blk)}(hc:cMm P mu o.op=some m)(hS:SRel c κ σ)(hw:c.w0.heap.size<=κ.w.heap.size)(hn:m.makes=true->κ.nm new=none)
  (hE:∀ i,i∈m.slots->ARel κ (E i) (a.tmps.getD i Go.undef)) (hr:m.run c.G new E σ=some (v,δ)) :
  ∃ x u κ',(execOp a.eval o).run P κ.w = .ok x κ'.w/\(x = .value u\/(x = .skip/\u=Go.undef))/\ARel κ' v u/\Done c κ κ' new/\SRel c κ' (σ.upd δ)/\(m.makes=false->κ'.nm=κ.nm):=by
 obtain⟨mu,fz⟩:=mu
 cases fz with
 | false=>exact Cx hc hS hw hn hE hr
 | true=>
   obtain⟨dst,op,type,pos,after,guard⟩:=o
   simp only[cMm] at hc
   unfold cBf at hc
   split at hc
   ·rename_i op t len parts
    split at hc
    ·rename_i e hu
     split at hc
     ·rename_i n zs xs hn' hz hxs
      split at hc
      ·rename_i hh
       cases hc
       simp only[MOp.run,XOp.run,jk] at hr
       split at hr
       ·rename_i hl
        split at hr
        ·rename_i ps hps
         split at hr
         ·rename_i hall
          cases hr
          obtain⟨z,p,hz1,_,_⟩:=kb (P:=P) (w:=κ.w) hz
          have hE':∀ i,i∈xs.flatMap AX.slots->ARel κ (E i) (a.tmps.getD i Go.undef):=fun i hi=>hE i (by simpa[MOp.slots,XOp.slots] using hi)
          obtain⟨_,hrel⟩:=gY (κ:=κ) (E:=E) (a:=a) hxs hE'
          obtain⟨us,r1,r2,r3⟩:=nT (P:=P) (t:=t) (parts:=parts.map fun p=>(p.1,a.eval p.2)) (z:=z) hu hn' hz1 hh.1 (by rw[<- hh.2];simp[Function.comp_def]) (fun i v hv=>by
           have:=hrel i v hv
           simpa[Function.comp_def] using this) hl hps hall
          obtain⟨h1,h2⟩:=RY hS hw (.cells us e) (fun j=>j<len*n) new
          have hh2:(κ.w.alloc (.cells us e)).heap[κ.w.heap.size]? = some (.cells us e (0,0)):=heap_alloc_new κ.w _
          have hmax:len<=maxLen:=by have:=hl.2;unfold maxLen;omega
          exact⟨_,_,_,by simp[execOp,r1],.inl rfl,.pv _ _ ((r3.ext h1.ext).list (by rw[ci hps,hl.1]) (UA _) hmax (my hh2 (show us.toList.take (len*n)=us.toList from UW (by simp;omega))) (fun j hj=>.inr ⟨rfl,hj⟩)),h1,h2,fun _=>rfl⟩
         ·cases hr
        ·cases hr
       ·cases hr
      ·cases hc
     ·cases hc
    ·cases hc
   ·cases hc
end

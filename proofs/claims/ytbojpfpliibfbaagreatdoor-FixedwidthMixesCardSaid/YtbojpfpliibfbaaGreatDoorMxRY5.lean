/- A part of the proof. -/
import Derived.Test.YtbojpfpliibfbaaGreatDoorMxRE9
set_option maxRecDepth 100000
set_option linter.unusedVariables false
set_option linter.unusedSimpArgs false
namespace Go.Proofs.YtbojpfpliibfbaaGreatDoor
open Go Go.Ab
theorem ug {v:List Nat}:∀ (Z:List (TFd×List UInt8)) (i:Nat),(∀ x∈Z,nW x.1 x.2=0)->kM v Z i=(0,0)
 | [],_,_=>rfl
 | x::r,i,h=>by
   rw[kM,if_pos (h x (List.mem_cons_self ..))]
   exact ug r (i+1) fun y hy=>h y (List.mem_cons_of_mem _ hy)
theorem m4:∀ {a b:List Nat},(a.map fun n:Nat=>(n:Int))=b.map (fun n:Nat=>(n:Int))->a=b
 | [],[],_=>rfl
 | [],_::_,h=>by simp at h
 | _::_,[],h=>by simp at h
 | x::a,y::b,h=>by
   simp only[List.map_cons,List.cons.injEq] at h
   rw[m4 h.2,show x=y by omega]
theorem Sk {T:Nat}{p:PV}(t:Typ)(ht:t.ok)(w:List Int)(line:List UInt8)(hll:line.length<=1000000):∃ (P:PV) (V:Val) (n e:Int),
  ag Tryz.prog (bR T p) 17 [t.pv,.list (db w),.str line] (.tup [P,.int .i64 n,.int .i64 e])/\Nz P V.pv/\V.ok /\
  (P=eP\/∃ L,P=AL L)/\(e=0->n=0/\(∃ L,P=AL L)/\∃ v,DecOk t w line v/\V=jW ((cP t.fields line v).map gT))/\∀ v,DecOk t w line v->e=0/\V=jW ((cP t.fields line v).map gT):=by
 by_cases he:lf t w=0
 ·obtain⟨hb,hlen,h64,h0,hfl⟩:=jn ht he
  have hba:w.any Eh=false:=by
   unfold Id at hb
   rw[Bool.or_eq_false_iff] at hb;exact hb.2
  obtain⟨v,hw,hs,hv⟩:=BY hba
  have hvv:∀ v',DecOk t w line v'->v'=v:=fun v' h=>m4 (by rw[<- hw,<- h.nat])
  have hvl:t.fields.length=v.length:=by rw[<- hlen,hw,List.length_map]
  have hs0:=jL w fun x hx=>dW hba hx
  by_cases hne:line.length=v.sum
  ·have hco:=kX h0 ht hfl
   have h12:=lP t ht w
   have h50:=qE w (by omega)
   rw[hb,if_neg (by decide),if_neg (by decide),hs] at h50
   have hF:kM v (cP t.fields line v) 0=(0,0)->∀ x∈cP t.fields line v,nW x.1 x.2=0:=fun h=>(kL _ 0 (by rw[h])).2
   have hZl:=jk (line:=line) hvl
   have hfs:=fun h=>mq (w:=w) ht h0 hfl hvl hll (hF h)
   have hl65:((cP t.fields line v).map gT).length<=65000:=by rw[List.length_map];omega
   have hr17:kM v (cP t.fields line v) 0=(0,0)->ag Tryz.prog aq 55 [.list ((cP t.fields line v).map fC)] (AL ((jW ((cP t.fields line v).map gT)).fields.map Fld.pv)):=fun h=>by
    obtain⟨f1,f2⟩:=hfs h
    have h55:=FX _ hl65 f1 f2
    unfold jW at h55 ⊢
    rw[Val.pv_mk] at h55
    exact h55.nz (.cons _ _ _ _ (.list _ _ (Jd _)) .nil)
   rw[he,hw,fy] at h12
   rw[hw,fy] at h50
   have hi:db w=cr v:=by rw[hw,fy]
   have hf64:t.fields.length<=64:=by omega
   have h17:ag Tryz.prog (bR T p) 17 [t.pv,.list (cr v),.str line] (.tup [if (kM v (cP t.fields line v) 0).2=0 then AL ((jW ((cP t.fields line v).map gT)).fields.map Fld.pv) else eP,.int .i64 (kM v (cP t.fields line v) 0).1,.int .i64 (kM v (cP t.fields line v) 0).2]):=by
    obtain⟨k,m,M,sc,wd,el,f⟩:=t
    exact xB k m M sc wd el f v line _ h12 h50 hne hll hvl hf64 hv hco hr17
   rw[<- hi] at h17
   by_cases hz:(kM v (cP t.fields line v) 0).2=0
   ·rw[if_pos hz] at h17
    obtain⟨e1,e2⟩:=kL _ 0 hz
    obtain⟨f1,f2⟩:=hfs e1
    have hVo:(jW ((cP t.fields line v).map gT)).ok:=by
     unfold jW
     rw[Val.ok_mk]
     refine⟨⟨by omega,by omega⟩,⟨by omega,by omega⟩,⟨by omega,by omega⟩,by simp,by simp,by simp,?_,fun x hx=>f1 x (List.mem_filter.1 ((mM _).mem_iff.1 hx)).1⟩
     have h5:((cP t.fields line v).map gT).length<=64:=by rw[List.length_map];omega
     have:=List.length_filter_le dm ((cP t.fields line v).map gT)
     rw[d9];omega
    refine⟨_,jW ((cP t.fields line v).map gT),_,_,h17,?_,hVo,.inr ⟨_,rfl⟩,fun _=>⟨by rw[e1],⟨_,rfl⟩,v,⟨he,hw,hne,hvl,hv,e2⟩,rfl⟩,fun v' h=>⟨hz,by rw[hvv v' h]⟩⟩
    unfold jW AL
    rw[Val.pv_mk]
    exact .refl _
   ·rw[if_neg hz] at h17
    refine⟨eP,eM,_,_,h17,fP,jB,.inl rfl,fun h=>absurd h hz,fun v' h=>absurd ?_ hz⟩
    have hc:=h.cel
    rw[hvv v' h] at hc
    rw[ug _ 0 hc]
  ·have h17:=xA (T:=T) (p:=p) t ht w line he hb h64 hs0.1 hll (by omega)
   exact⟨eP,eM,_,_,h17,fP,jB,.inl rfl,fun h=>absurd h (uc (by omega)),fun v' h=>absurd (hvv v' h▸h.sum) hne⟩
 ·exact⟨eP,eM,0,lf t w,xC t ht w line he,fP,jB,.inl rfl,fun h=>absurd h he,fun v' h=>absurd h.rep he⟩
theorem Pv (t:Typ)(ht:t.ok)(w:List Int)(v:Val)(hv:v.ok):∃ (s:List UInt8) (e:Int),ag Tryz.prog aq 14 [t.pv,.list (db w),v.pv] (.tup [.str s,.int .i64 e])/\(e=0->lf t w=0/\nU t v=true/\∃ T:TFd->List UInt8,(∀ g∈t.fields,FTb v g (T g))/\lC T t.fields w/\(gH T t.fields w []).2=0/\s=(gH T t.fields w []).1):=by
 by_cases he:lf t w=0
 ·cases hfit:nU t v with
  | false=>exact⟨[],18,yu t ht w v hv he hfit,fun h=>absurd h (by decide)⟩
  | true=>
    obtain⟨hfe,hlen,hrl⟩:=eY he
    obtain⟨h0,hfl⟩:=iB hfe
    obtain⟨T,hT,hTl⟩:=zP h0 ht hfl hfit
    have hTl:=OZ (go t.fields w 0 hlen.symm hrl) hTl
    exact⟨_,_,yw t ht w v hv he hfit T (fun g hg=>TC (hT g hg)) hTl,fun h=>⟨he,rfl,T,hT,hTl,h,rfl⟩⟩
 ·exact⟨[],lf t w,yx t ht w v he,fun h=>absurd h he⟩
attribute [local irreducible] vc
theorem LW {f:List TFd}(h:(f.map TFd.name).Nodup){i j:Nat}{g:TFd}(hi:f[i]? = some g)(hj:f[j]? = some g):i=j:=by
 obtain⟨h1,e1⟩:=List.getElem?_eq_some_iff.1 hi
 obtain⟨h2,e2⟩:=List.getElem?_eq_some_iff.1 hj
 have hp:=List.pairwise_iff_getElem.1 h
 rcases Nat.lt_trichotomy i j with c | c | c
 ·have:=hp i j (by simpa using h1) (by simpa using h2) c
  simp only[List.getElem_map] at this
  exact absurd (by rw[e1,e2]) this
 ·exact c
 ·have:=hp j i (by simpa using h2) (by simpa using h1) c
  simp only[List.getElem_map] at this
  exact absurd (by rw[e1,e2]) this
theorem JL {v v':Val}{g:TFd}{tx:List UInt8}(e:v'.fields.find? (aF g.name)=v.fields.find? (aF g.name))(h:FTb v g tx):FTb v' g tx:=by
 unfold FTb at *
 rw[e];exact h
theorem w9 {t:Typ}{v:Val}(h9:t.kind=9)(hf:nU t v=true):∀ g∈t.fields,eI (bL 1) v.fields [] g=[]:=fun g hg=>by
 have hm:bL 2 t v []=[]:=List.isEmpty_iff.1 hf
 rw[bz] at hm
 by_cases a:t.kind<1\/10<t.kind\/¬ v.kind=t.kind
 ·rw[bM a] at hm;cases hm
 ·cases b:aL v with
  | false=>rw[fc a b] at hm;cases hm
  | true=>
    rw[e8 a b h9,AN] at hm
    exact List.flatMap_eq_nil_iff.1 (List.append_eq_nil_iff.1 hm).1 g hg
theorem Ph {t:Typ}{F:List Fld}(h9:t.kind=9)(hp:F.Pairwise ltF)(h1:∀ g∈t.fields,∃ u,nU t u=true/\F.find? (aF g.name)=u.fields.find? (aF g.name))(h2:∀ y∈F,∃ g∈t.fields,g.name=y.name):nU t (.mk 9 0 0 [] [] F)=true:=by
 unfold nU
 rw[List.isEmpty_iff,bz]
 have a:¬ (t.kind<1\/10<t.kind\/¬ (Val.mk 9 0 0 [] [] F).kind=t.kind):=fun q=>q.elim (by omega) fun q=>q.elim (by omega) fun q=>q (by rw[h9];rfl)
 have hfm:aL (Val.mk 9 0 0 [] [] F)=true:=by simp[aL,NT hp]
 rw[e8 a hfm h9,AN,List.append_eq_nil_iff]
 refine⟨List.flatMap_eq_nil_iff.2 fun g hg=>?_,List.flatMap_eq_nil_iff.2 fun y hy=>?_⟩
 ·obtain⟨u,hu,e⟩:=h1 g hg
  have:=w9 h9 hu g hg
  unfold eI at this ⊢
  simp only[Val.fields]
  rw[e];exact this
 ·simp only[Val.fields] at hy
  obtain⟨g,hg,e⟩:=h2 y hy
  cases hfd:t.fields.find? (named y.name) with
  | some z=>exact j6 hfd
  | none=>
    have:=List.find?_eq_none.1 hfd g hg
    exact absurd (decide_eq_true e:named y.name g=true) this
def lg (nm:List UInt8):List Fld->List Fld
 | []=>[]
 | x::r=>if x.name=nm then r else x::lg nm r
theorem ov {nm:List UInt8}:∀ {l:List Fld},l.find? (aF nm)=none->lg nm l=l
 | [],_=>rfl
 | x::r,h=>by
   have hx:=List.find?_eq_none.1 h x (List.mem_cons_self ..)
   have hn:¬ x.name=nm:=fun e=>hx (decide_eq_true e)
   rw[lg,if_neg hn,ov (List.find?_eq_none.2 fun y hy=>List.find?_eq_none.1 h y (List.mem_cons_of_mem _ hy))]
theorem AJ {nm:List UInt8}:∀ {l:List Fld} {k:Nat} {y:Fld},ey l->l[k]? = some y->y.name=nm->lg nm l=l.take k++l.drop (k+1)
 | [],k,y,_,h,_=>by simp at h
 | x::r,0,y,_,h,e=>by
   simp at h;subst h
   rw[lg,if_pos e];rfl
 | x::r,k+1,y,hd,h,e=>by
   unfold ey at hd
   rw[List.map_cons,List.nodup_cons] at hd
   have hy:r[k]? = some y:=by simpa using h
   have hn:¬ x.name=nm:=fun e2=>hd.1 (by rw[e2,<- e];exact List.mem_map_of_mem (List.mem_of_getElem? hy))
   rw[lg,if_neg hn,AJ hd.2 hy e];rfl
theorem mQ (nm:List UInt8):∀ l:List Fld,(lg nm l).Sublist l
 | []=>List.Sublist.slnil
 | x::r=>by
   rw[lg]
   split
   ·exact List.sublist_cons_self x r
   ·exact (mQ nm r).cons_cons x
theorem eZ {nm:List UInt8}:∀ {l:List Fld},ey l->∀ m,(lg nm l).find? (aF m)=if m=nm then none else l.find? (aF m)
 | [],_,m=>by simp[lg]
 | x::r,hd,m=>by
   have hd':=hd
   unfold ey at hd
   rw[List.map_cons,List.nodup_cons] at hd
   have hr:ey r:=hd.2
   rw[lg]
   by_cases hx:x.name=nm
   ·rw[if_pos hx]
    by_cases hm:m=nm
    ·rw[if_pos hm,List.find?_eq_none]
     intro y hy e
     have e:y.name=m:=of_decide_eq_true e
     exact hd.1 (by rw[hx,<- hm,<- e];exact List.mem_map_of_mem hy)
    ·rw[if_neg hm,List.find?_cons,show aF m x=false from decide_eq_false (fun e=>hm (e.symm.trans hx))]
   ·rw[if_neg hx,List.find?_cons,eZ hr m,List.find?_cons]
    by_cases hm:m=nm
    ·rw[if_pos hm,if_pos hm,show aF m x=false from decide_eq_false (fun e=>hx (e.trans hm))]
    ·rw[if_neg hm,if_neg hm]
theorem pp {x:Fld}:∀ {l:List Fld},(∀ y∈l,y.name≠x.name)->∀ m,(lj x l).find? (aF m)=if m=x.name then some x else l.find? (aF m)
 | [],_,m=>by
   rw[lj,List.find?_cons]
   by_cases hm:m=x.name
   ·rw[if_pos hm,show aF m x=true from decide_eq_true hm.symm]
   ·rw[if_neg hm,show aF m x=false from decide_eq_false (fun e=>hm e.symm)]
 | y::r,h,m=>by
   have hy:=h y (List.mem_cons_self ..)
   have ih:=pp (x:=x) (l:=r) (fun z hz=>h z (List.mem_cons_of_mem _ hz)) m
   rw[lj]
   split
   ·rw[List.find?_cons,ih,List.find?_cons]
    by_cases hm:m=x.name
    ·rw[if_pos hm,if_pos hm,show aF m y=false from decide_eq_false (fun e=>hy (e.trans hm))]
    ·rw[if_neg hm,if_neg hm]
   ·rw[List.find?_cons]
    by_cases hm:m=x.name
    ·rw[if_pos hm,show aF m x=true from decide_eq_true hm.symm]
    ·rw[if_neg hm,show aF m x=false from decide_eq_false (fun e=>hm e.symm)]
def yG (a b:List Fld)(nm:List UInt8):List Fld:=match b.find? (aF nm) with
 | some y=>lj y (lg nm a)
 | none=>lg nm a
theorem Ca {a b:List Fld}(ha:ey a)(nm m:List UInt8):(yG a b nm).find? (aF m)=if m=nm then b.find? (aF nm) else a.find? (aF m):=by
 unfold yG
 cases hb:b.find? (aF nm) with
 | none=>exact eZ ha m
 | some y=>
   have hy:y.name=nm:=by have q:=List.find?_some hb;exact of_decide_eq_true q
   have hn:∀ z∈lg nm a,z.name≠y.name:=fun z hz e=>by
    have:=eZ (nm:=nm) ha nm
    rw[if_pos rfl] at this
    exact List.find?_eq_none.1 this z hz (decide_eq_true (e.trans hy))
   rw[pp hn m,hy]
   by_cases hm:m=nm
   ·rw[if_pos hm,if_pos hm]
   ·rw[if_neg hm,if_neg hm,eZ ha m,if_neg hm]
theorem l6 {a b:List Fld}(ha:ey a)(nm:List UInt8):∀ z∈lg nm a,z.name≠nm:=fun z hz e=>by
 have:=eZ (nm:=nm) ha nm
 rw[if_pos rfl] at this
 exact List.find?_eq_none.1 this z hz (decide_eq_true e)
theorem G4 {a b:List Fld}(ha:a.Pairwise ltF)(nm:List UInt8):(yG a b nm).Pairwise ltF:=by
 have hr:(lg nm a).Pairwise ltF:=ha.sublist (mQ nm a)
 unfold yG
 cases hb:b.find? (aF nm) with
 | none=>exact hr
 | some y=>
   have hy:y.name=nm:=by have q:=List.find?_some hb;exact of_decide_eq_true q
   exact kw y _ hr fun z hz=>by rw[hy];exact l6 (b:=b) (cQ ha) nm z hz
theorem jK:∀ (L:List (List UInt8)) (i:Nat),i<=L.length->L.flatten.take (bQ (L.map List.length) i)=(L.take i).flatten/\L.flatten.drop (bQ (L.map List.length) i)=(L.drop i).flatten
 | [],i,_=>by simp
 | a::r,0,_=>by simp[bQ]
 | a::r,i+1,h=>by
   obtain⟨h1,h2⟩:=jK r i (by simpa using h)
   unfold bQ at h1 h2 ⊢
   rw[List.map_cons,List.take_succ_cons,List.sum_cons,List.flatten_cons]
   refine⟨?_,?_⟩
   ·rw[List.take_succ_cons,List.flatten_cons,List.take_append,List.take_of_length_le (by omega),Nat.add_sub_cancel_left,h1]
   ·rw[List.drop_succ_cons,List.drop_append,List.drop_of_length_le (by omega),List.nil_append,Nat.add_sub_cancel_left,h2]
theorem G3 {t:Typ}{w:List Int}{vn:List Nat}{Ta Tb Tc:TFd->List UInt8}(hlen:t.fields.length=w.length)(hv:w=vn.map fun n:Nat=>(n:Int))(hla:lC Ta t.fields w)(hlb:lC Tb t.fields w){i:Nat}{g:TFd}{n:Nat}(hg:t.fields[i]? = some g)(hn:vn[i]? = some n)(hc1:Tc g=Tb g)(hc2:∀ (j:Nat) (g':TFd),t.fields[j]? = some g'->¬ j=i->Tc g'=Ta g') :
  (br Tc t.fields w).flatten=(br Ta t.fields w).flatten.take (bQ vn i)++((br Tb t.fields w).flatten.take (bQ vn i+n)).drop (bQ vn i)++(br Ta t.fields w).flatten.drop (bQ vn i+n):=by
 have lens:∀ T:TFd->List UInt8,lC T t.fields w->(br T t.fields w).map List.length=vn:=fun T hT=>by
  refine List.ext_getElem? fun j=>?_
  rw[List.getElem?_map]
  by_cases hj:j<t.fields.length
  ·have hgj:=List.getElem?_eq_getElem hj
   have hwj:=List.getElem?_eq_getElem (show j<w.length by omega)
   have hp:=mV t.fields[j].typ.kind (T t.fields[j]) w[j] (hT j _ _ hgj hwj)
   rw[dg hgj hwj,Option.map_some]
   have hwk:(vn.map fun n:Nat=>(n:Int))[j]? = some w[j]:=by rw[<- hv];exact hwj
   rw[List.getElem?_map,Option.map_eq_some_iff] at hwk
   obtain⟨m,hm,e⟩:=hwk
   rw[hm];congr 1;omega
  ·rw[List.getElem?_eq_none (by rw[cf hlen];omega),List.getElem?_eq_none (by have:=congrArg List.length hv;rw[List.length_map] at this;omega)];rfl
 have hwn:w[i]? = some (n:Int):=by rw[hv,List.getElem?_map,hn];rfl
 have hst:=j2 hn
 have hi:i<t.fields.length:=(List.getElem?_eq_some_iff.1 hg).1
 have ea:=lens Ta hla
 have eb:=lens Tb hlb
 have hbi:=dg (T:=Tb) hg hwn
 have hcell:=pR _ _ _ hbi
 unfold ew at hcell
 rw[eb,hst] at hcell
 rw[hcell]
 have ha1:=(jK (br Ta t.fields w) i (by rw[cf hlen];omega)).1
 have ha2:=(jK (br Ta t.fields w) (i+1) (by rw[cf hlen];omega)).2
 rw[ea] at ha1 ha2
 rw[hst] at ha2
 rw[ha1,ha2]
 have hl:br Tc t.fields w=(br Ta t.fields w).take i++([nS g.typ.kind (Tb g) (n:Int)]++(br Ta t.fields w).drop (i+1)):=by
  have e1:br Tc t.fields w=(br Tc t.fields w).take i++([nS g.typ.kind (Tb g) (n:Int)]++(br Tc t.fields w).drop (i+1)):=by
   have hci:=dg (T:=Tc) hg hwn
   rw[hc1] at hci
   rw[List.singleton_append,<- b9 hci,List.take_append_drop]
  have hj:∀ j,¬ j=i->(br Tc t.fields w)[j]? = (br Ta t.fields w)[j]?:=fun j hji=>by
   by_cases hj:j<t.fields.length
   ·have hgj:=List.getElem?_eq_getElem hj
    have hwj:=List.getElem?_eq_getElem (show j<w.length by omega)
    rw[dg hgj hwj,dg hgj hwj,hc2 j _ hgj hji]
   ·rw[List.getElem?_eq_none (by rw[cf hlen];omega),List.getElem?_eq_none (by rw[cf hlen];omega)]
  rw[e1]
  congr 1
  ·refine List.ext_getElem? fun j=>?_
   rw[List.getElem?_take,List.getElem?_take]
   split
   ·exact hj j (by omega)
   ·rfl
  ·congr 1
   refine List.ext_getElem? fun j=>?_
   rw[List.getElem?_drop,List.getElem?_drop]
   exact hj _ (by omega)
 rw[hl,List.flatten_append,List.flatten_append,List.append_assoc]
 simp
theorem OS {t:Typ}{a b:Val}{w:List Int}{Ta Tb:TFd->List UInt8}(ht:t.ok)(hrep:lf t w=0)(hfa:nU t a=true)(hfb:nU t b=true)(hTa:∀ g∈t.fields,FTb a g (Ta g))(hTb:∀ g∈t.fields,FTb b g (Tb g))(hla:lC Ta t.fields w)(hlb:lC Tb t.fields w)(za:(gH Ta t.fields w []).2=0)(zb:(gH Tb t.fields w []).2=0){vn:List Nat}(hv:w=vn.map fun n:Nat=>(n:Int)){i n:Nat}{g:TFd}(hg:t.fields[i]? = some g)(hn:vn[i]? = some n){line:List UInt8}
  (hline:line=(gH Ta t.fields w []).1.take (bQ vn i)++((gH Tb t.fields w []).1.take (bQ vn i+n)).drop (bQ vn i)++(gH Ta t.fields w []).1.drop (bQ vn i+n)) :
  ∃ vn',DecOk t w line vn'/\jW ((cP t.fields line vn').map gT) = .mk 9 0 0 [] [] (yG a.fields b.fields g.name)/\line.length<=1000000/\(yG a.fields b.fields g.name).length<=64:=by
 obtain⟨_,hlen,h64,h0,hfl⟩:=jn ht hrep
 obtain⟨h9,_,_⟩:=cj hfl
 have hnm:=px h0
 obtain⟨ea,pa,na⟩:=fg h9 hfa
 obtain⟨eb,pb,nb⟩:=fg h9 hfb
 have hgm:=List.mem_of_getElem? hg
 obtain⟨F,hF⟩:∃ F,F=yG a.fields b.fields g.name:=⟨_,rfl⟩
 have hfind:∀ m,F.find? (aF m)=if m=g.name then b.fields.find? (aF g.name) else a.fields.find? (aF m):=fun m=>by rw[hF];exact Ca (cQ pa) _ m
 have hsrt:F.Pairwise ltF:=by rw[hF];exact G4 pa _
 have hnF:∀ y∈F,∃ g'∈t.fields,g'.name=y.name:=fun y hy=>by
  have h1:=ud (cQ hsrt) hy
  rw[hfind] at h1
  by_cases c:y.name=g.name
  ·exact⟨g,hgm,c.symm⟩
  ·rw[if_neg c] at h1
   exact na y (List.mem_of_find?_eq_some h1)
 rw[<- hF]
 obtain⟨Tc,hTc⟩:∃ Tc:TFd->List UInt8,∀ g',Tc g'=if g'.name=g.name then Tb g' else Ta g':=⟨_,fun _=>rfl⟩
 have hcase:∀ g'∈t.fields,(g'=g/\Tc g'=Tb g')\/(¬ g'.name=g.name/\Tc g'=Ta g'):=fun g' hg'=>by
  by_cases c:g'.name=g.name
  ·exact .inl ⟨B3 hnm hg' hgm c,by rw[hTc,if_pos c]⟩
  ·exact .inr ⟨c,by rw[hTc,if_neg c]⟩
 have hfit:nU t (.mk 9 0 0 [] [] F)=true:=Ph h9 hsrt (fun g' hg'=>by
  by_cases c:g'.name=g.name
  ·exact⟨b,hfb,by rw[hfind,if_pos c,c]⟩
  ·exact⟨a,hfa,by rw[hfind,if_neg c]⟩) hnF
 have hT:∀ g'∈t.fields,FTb (.mk 9 0 0 [] [] F) g' (Tc g'):=fun g' hg'=>by
  rcases hcase g' hg' with ⟨c,e⟩ | ⟨c,e⟩
  ·rw[e]
   refine JL ?_ (hTb g' hg')
   show F.find? _=_
   rw[hfind,c,if_pos rfl]
  ·rw[e]
   refine JL ?_ (hTa g' hg')
   show F.find? _=_
   rw[hfind,if_neg c]
 have hTl:lC Tc t.fields w:=fun j g' m h1 h2=>by
  rcases hcase g' (List.mem_of_getElem? h1) with ⟨_,e⟩ | ⟨_,e⟩
  ·rw[e];exact hlb j g' m h1 h2
  ·rw[e];exact hla j g' m h1 h2
 obtain⟨ca,wa⟩:=dU t.fields w [] hlen.symm za
 obtain⟨cb,wb⟩:=dU t.fields w [] hlen.symm zb
 have zc:(gH Tc t.fields w []).2=0:=Dp _ _ _ fun g' hg' h4=>by
  rcases hcase g' hg' with ⟨_,e⟩ | ⟨_,e⟩
  ·rw[e];exact wb g' hg' h4
  ·rw[e];exact wa g' hg' h4
 obtain⟨cc,_⟩:=dU t.fields w [] hlen.symm zc
 rw[List.nil_append] at ca cb cc
 have hml:=G3 (Tc:=Tc) hlen.symm hv hla hlb hg hn (by rw[hTc,if_pos rfl]) (fun j g' hj hji=>by
  rcases hcase g' (List.mem_of_getElem? hj) with ⟨e,_⟩ | ⟨_,e⟩
  ·rw[e] at hj;exact absurd (LW hnm hj hg) hji
  ·exact e)
 rw[<- ca,<- cb,<- cc,<- hline] at hml
 obtain⟨vn',q1,q2,q3⟩:=kt ht hrep hfit hT hTl zc
 rw[hml] at q1 q2 q3
 refine⟨vn',q1,q2,q3,?_⟩
 have h1:=congrArg (fun v=>v.fields.length) q2
 have h2:(jW ((cP t.fields line vn').map gT)).fields.length<=((cP t.fields line vn').map gT).length:=by
  show (srt _).length<=_
  rw[d9];exact List.length_filter_le _ _
 rw[List.length_map,jk q1.len,<- q1.len] at h2
 simp only[Val.fields] at h1
 have h1':(jW ((cP t.fields line vn').map gT)).fields.length=F.length:=h1
 omega
end Go.Proofs.YtbojpfpliibfbaaGreatDoor

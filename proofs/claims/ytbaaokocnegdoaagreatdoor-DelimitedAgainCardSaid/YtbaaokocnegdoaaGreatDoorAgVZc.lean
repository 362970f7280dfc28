/- A part of the proof. -/
import Derived.Test.YtbaaokocnegdoaaGreatDoorAgVZ8
set_option linter.unusedVariables false
set_option linter.unusedSimpArgs false
set_option maxRecDepth 100000
namespace Go.Proofs.YtbaaokocnegdoaaGreatDoor
open Go Go.Ab
attribute [local irreducible] vc
theorem JV {L:List UInt8}{sep:UInt8}:∀ (k a:Nat) (C:List Cel) (Pl:List Nat),L.length - a<k->a<=L.length->C.length=Pl.length->(∀ c∈C,c.1.length<=L.length) ->
  (∀ o e,Ab.runN L sep a C Pl = .err o e->¬ e=0)/\∀ C' Pl',Ab.runN L sep a C Pl = .ok C' Pl'->C'.length=Pl'.length/\0<C'.length/\∀ c∈C',c.1.length<=L.length
 | 0,a,C,Pl,h,_,_,_=>absurd h (by omega)
 | k+1,a,C,Pl,hk,ha,hl,hc=>by
   rw[runN_eq ha]
   by_cases h64:C.length=64
   ·rw[if_pos h64]
    exact⟨fun o e h=>by cases h;decide,fun C' Pl' h=>by cases h⟩
   rw[if_neg h64]
   cases hx:mp L sep a with
   | err o e=>
     refine⟨fun o' e' h=>?_,fun C' Pl' h=>by cases h⟩
     simp only[lR] at h
     cases h
     unfold mp at hx
     split at hx
     ·unfold f9 at hx
      cases hq:(bD (L.drop (a+1))).map (rr [] (a+1)) with
      | none=>rw[hq] at hx;simp only[bG] at hx;cases hx;decide
      | some q=>
        rw[hq] at hx
        simp only[bG] at hx
        split at hx
        ·split at hx
         ·cases hx
         ·cases hx;decide
        ·cases hx
     ·unfold bP at hx
      split at hx
      ·cases hx;decide
      ·cases hx
   | ok c a'=>
     obtain⟨h1,h2,h3⟩:=vX ha hx
     simp only[lR,Nj]
     have hc2:∀ d∈C++[c],d.1.length<=L.length:=fun d hd=>by
      rcases List.mem_append.1 hd with hd | hd
      ·exact hc d hd
      ·rw[List.mem_singleton.1 hd];exact h3
     by_cases he:L.length<=a'
     ·rw[if_pos he]
      exact⟨fun o e h=>(by cases h),fun C' Pl' h=>by cases h;exact⟨by simp[hl],by simp,hc2⟩⟩
     ·rw[if_neg he]
      exact JV k (a'+1) _ _ (by omega) (by omega) (by simp[hl]) hc2
theorem nE (L:List UInt8)(n:Int):(∀ o e,dJ L n = .err o e->¬ e=0)/\∀ C Pl,dJ L n = .ok C Pl->C.length=Pl.length/\0<C.length/\∀ c∈C,c.1.length<=L.length:=by
 unfold dJ
 by_cases h1:jx n=true
 ·rw[if_pos h1]
  by_cases h2:65536<L.length
  ·rw[if_pos h2]
   exact⟨fun o e h=>by cases h;decide,fun C Pl h=>by cases h⟩
  ·rw[if_neg h2]
   exact JV (L.length+1) 0 [] [] (by omega) (by omega) rfl (fun c hc=>by cases hc)
 ·rw[if_neg h1]
  exact⟨fun o e h=>by cases h;decide,fun C Pl h=>by cases h⟩
section
variable {m:Int}{T:Nat}{p:PV}
theorem zw (t:Typ)(n z:Int)(line:List UInt8)(h17:ae Tryz.prog au 17 [t.pv,.int .i64 n] (.int .i64 z))(hz:¬ z=0):ae Tryz.prog (jc m T p) 22 [t.pv,.int .i64 n,.str line] (.tup [mc,.int .i64 0,.int .i64 z]):=by
 have h17:=xG (m:=m) (T:=T) (p:=p) h17
 obtain⟨k,a,b,c,w,e,f⟩:=t
 simp only[Typ.pv_mk,mc] at h17 ⊢
 refine ae.intro Q22.2 (by simp[Q22]) ?_
 simp(disch:=try exact dI) only[Q22,push_cast,seval]
 refine ab.pure h17 rfl ?_
 simp(disch:=try exact dI) only[hz,push_cast,seval]
theorem zr (t:Typ)(n:Int)(line:List UInt8)(o:Nat)(z:Int)(h17:ae Tryz.prog au 17 [t.pv,.int .i64 n] (.int .i64 0))(h57:ae Tryz.prog au 57 [.str line,.int .i64 n] (.tup [.nils,.nils,.int .i64 (o:Int),.int .i64 z]))(hz:¬ z=0):ae Tryz.prog (jc m T p) 22 [t.pv,.int .i64 n,.str line] (.tup [mc,.int .i64 (o:Int),.int .i64 z]):=by
 have h17:=xG (m:=m) (T:=T) (p:=p) h17
 have h57:=xG (m:=m) (T:=T) (p:=p) h57
 obtain⟨k,a,b,c,w,e,f⟩:=t
 simp only[Typ.pv_mk,mc] at h17 ⊢
 refine ae.intro Q22.2 (by simp[Q22]) ?_
 simp(disch:=try exact dI) only[Q22,push_cast,seval]
 refine ab.pure h17 rfl ?_
 refine zgZ ?_
 refine ab.pure h57 rfl ?_
 simp(disch:=try exact dI) only[hz,push_cast,seval]
theorem zu (t:Typ)(n:Int)(line:List UInt8)(C:List Cel)(Pl:List Nat)(hcp:C.length=Pl.length)(h17:ae Tryz.prog au 17 [t.pv,.int .i64 n] (.int .i64 0))(h57:ae Tryz.prog au 57 [.str line,.int .i64 n] (.tup [.list (C.map g9),.list (Pl.map oJ),.int .i64 0,.int .i64 0]))(hne:¬ C.length=t.fields.length) :
  ae Tryz.prog (jc m T p) 22 [t.pv,.int .i64 n,.str line] (.tup [mc,.int .i64 (if C.length<t.fields.length then (line.length:Int) else (Pl.getD t.fields.length 0:Int)),.int .i64 (if C.length<t.fields.length then 4 else 21)]):=by
 have h17:=xG (m:=m) (T:=T) (p:=p) h17
 have h57:=xG (m:=m) (T:=T) (p:=p) h57
 obtain⟨k,a,b,c,w,e,f⟩:=t
 by_cases h1:C.length<(Typ.mk k a b c w e f).fields.length
 ·rw[if_pos h1,if_pos h1]
  simp only[Typ.fields] at h1 hne
  simp only[Typ.pv_mk,mc] at h17 ⊢
  have h1I:(C.length:Int)<(f.length:Int):=by omega
  refine ae.intro Q22.2 (by simp[Q22]) ?_
  simp(disch:=try exact dI) only[Q22,push_cast,seval]
  refine ab.pure h17 rfl ?_
  refine zgZ ?_
  refine ab.pure h57 rfl ?_
  simp(disch:=try exact dI) only[List.length_map,h1I,push_cast,seval]
 ·rw[if_neg h1,if_neg h1]
  simp only[Typ.fields] at h1 hne ⊢
  simp only[Typ.pv_mk,mc] at h17 ⊢
  have h1I:¬ (C.length:Int)<(f.length:Int):=by omega
  have h2I:(f.length:Int)<(C.length:Int):=by omega
  have hq:Pl[f.length]? = some (Pl.getD f.length 0):=by rw[List.getD_eq_getElem?_getD,List.getElem?_eq_getElem (by omega)];rfl
  have hqp:=pC hq
  generalize Pl.getD f.length 0=q at *
  refine ae.intro Q22.2 (by simp[Q22]) ?_
  simp(disch:=try exact dI) only[Q22,push_cast,seval]
  refine ab.pure h17 rfl ?_
  refine zgZ ?_
  refine ab.pure h57 rfl ?_
  simp(disch:=try exact dI) only[List.length_map,h1I,h2I,hqp,push_cast,seval]
end
theorem A5 {t:Typ}{s:List UInt8}(hk:1<=t.kind/\t.kind<=7)(hl:s.length<=5000)(h:(j9 t s).2=0):(j9 t s).1=bh t.kind (rdQ t.kind s).1/\(rdQ t.kind s).2=true/\FitS t (j9 t s).1:=by
 unfold j9 at h ⊢
 rw[Bz hk,if_neg (by decide)] at h ⊢
 by_cases h1:(rdQ t.kind s).2=false
 ·rw[if_pos h1] at h;cases h
 rw[if_neg h1] at h ⊢
 by_cases h2:(aK 1 t (bh t.kind (rdQ t.kind s).1) []).isEmpty=true
 ·rw[if_pos h2]
  exact⟨rfl,by simpa using h1,uY (n:=0) hk (List.isEmpty_iff.1 h2)⟩
 ·rw[if_neg h2] at h;cases h
structure DOk (t:Typ)(n:Int)(line:List UInt8)(C:List Cel):Prop where
 rep:wW t n=0
 spl:∃ Pl,dJ line n = .ok C Pl
 len:t.fields.length=C.length
 txt:∀ c∈C,c.1.length<=line.length
 cel:∀ x∈t.fields.zip C,ni x.1 x.2=0
theorem mr {f:List TFd}{C:List Cel}(h:f.length=C.length):((f.zip C).map fDV).map Fld.name=f.map TFd.name:=by
 have h1:((f.zip C).map fDV).map Fld.name=((f.zip C).map Prod.fst).map TFd.name:=by
  rw[List.map_map,List.map_map];rfl
 rw[h1]
 congr 1
 exact List.map_fst_zip (by omega)
theorem oq {g:TFd}{c:Cel}(hc:CellT g)(hl:c.1.length<=5000)(h:ni g c=0):(mm g c).ok/\((mm g c=aJ/\g.need=2\/mm g c=aJ/\¬ g.need=1/\¬ g.need=3)\/FitS g.typ (mm g c)):=by
 unfold ni at h
 unfold mm
 by_cases hf:jD c=true
 ·rw[if_pos hf] at h ⊢
  obtain⟨h1,h2,h3⟩:=A5 hc.kd hl h
  refine⟨?_,.inr h3⟩
  rw[h1]
  exact rG (Bz hc.kd) (BT (Bz hc.kd) hl h2)
 ·rw[if_neg hf] at h ⊢
  by_cases h3:g.need=3
  ·rw[if_pos h3]
   obtain⟨x,r,hx,hx1,hx2⟩:=hc.dft h3
   rw[(Eu hx).2]
   exact⟨hx2,.inr hx1⟩
  ·rw[if_neg h3] at h ⊢
   by_cases h1:g.need=1
   ·rw[if_pos h1] at h;cases h
   ·refine⟨?_,.inl (.inr ⟨rfl,h1,h3⟩)⟩
    unfold aJ
    rw[Val.ok_mk]
    exact⟨⟨by omega,by omega⟩,⟨by omega,by omega⟩,⟨by omega,by omega⟩,by simp,by simp,by simp,by simp,by simp⟩
theorem ko {rec:Val->Val}(hr:∀ x,x.ok->(rec x).ok)(on:Bool)(v:Val)(hv:v.ok):(cf rec on v).ok:=by
 obtain⟨k,i,s,t,l,f⟩:=v
 rw[Val.ok_mk] at hv
 obtain⟨h1,h2,h3,h4,h5,h7,h6,h8⟩:=hv
 show (Val.mk k i s (t.take 40) (if on=true then (l.take 6).map rec else []) (if on=true then (f.take 6).map (jg rec) else [])).ok
 rw[Val.ok_mk]
 cases on with
 | false=>exact⟨h1,h2,h3,by rw[List.length_take];omega,by simp,by simp,by simp,by simp⟩
 | true=>
   rw[if_pos rfl,if_pos rfl]
   refine⟨h1,h2,h3,by rw[List.length_take];omega,by rw[List.length_map,List.length_take];omega,fun x hx=>?_,by rw[List.length_map,List.length_take];omega,fun x hx=>?_⟩
   ·obtain⟨y,hy,rfl⟩:=List.mem_map.1 hx
    exact hr y (h7 y (List.mem_of_mem_take hy))
   ·obtain⟨y,hy,rfl⟩:=List.mem_map.1 hx
    have hy:=h8 y (List.mem_of_mem_take hy)
    obtain⟨nm,w⟩:=y
    rw[Fld.ok_mk] at hy
    show (Fld.mk (nm.take 40) (rec w)).ok
    rw[Fld.ok_mk]
    exact⟨by rw[List.length_take];omega,hr w hy.2⟩
theorem mF:∀ (n:Nat) (v:Val),v.ok->(aN n v).ok
 | 0,v,h=>ko (fun x hx=>hx) false v h
 | n+1,v,h=>ko (mF n) _ v h
theorem rT (n:Nat)(v:Val):(aN n v).text.length<=40:=by
 obtain⟨k,i,s,t,l,f⟩:=v
 have h:(t.take 40).length<=40:=by rw[List.length_take];omega
 cases n<;>exact h
theorem mG {rec:Typ->Typ}(hr:∀ x,x.ok->(rec x).ok)(on:Bool)(t:Typ)(ht:t.ok):(cR rec on t).ok:=by
 obtain⟨k,a,b,c,w,e,f⟩:=t
 rw[Typ.ok_mk] at ht
 obtain⟨h1,h2,h3,h4,h5,h6,h7,h8,h9,h10⟩:=ht
 show (Typ.mk k a b c ((w.take 6).map (List.take 40)) (if on=true then (e.take 2).map rec else []) (if on=true then (f.take 6).map (cg rec) else [])).ok
 rw[Typ.ok_mk]
 have hw:((w.take 6).map (List.take 40)).length*16<=140737488351232:=by rw[List.length_map,List.length_take];omega
 have hw2:∀ x∈(w.take 6).map (List.take 40),x.length<=140737488351232:=fun x hx=>by
  obtain⟨y,_,rfl⟩:=List.mem_map.1 hx
  rw[List.length_take];omega
 cases on with
 | false=>exact⟨h1,h2,h3,h4,hw,hw2,by simp,by simp,by simp,by simp⟩
 | true=>
   rw[if_pos rfl,if_pos rfl]
   refine⟨h1,h2,h3,h4,hw,hw2,by rw[List.length_map,List.length_take];omega,fun x hx=>?_,by rw[List.length_map,List.length_take];omega,fun x hx=>?_⟩
   ·obtain⟨y,hy,rfl⟩:=List.mem_map.1 hx
    exact hr y (h8 y (List.mem_of_mem_take hy))
   ·obtain⟨y,hy,rfl⟩:=List.mem_map.1 hx
    have hy:=h10 y (List.mem_of_mem_take hy)
    obtain⟨a',nm,nd,ty,d⟩:=y
    rw[TFd.ok_mk] at hy
    obtain⟨g1,g2,g3,g4,g5,g6⟩:=hy
    show (TFd.mk a' (nm.take 40) nd (rec ty) ((d.take 2).map (aN 3))).ok
    rw[TFd.ok_mk]
    refine⟨g1,by rw[List.length_take];omega,g3,hr ty g4,by rw[List.length_map,List.length_take];omega,fun x hx=>?_⟩
    obtain⟨z,hz,rfl⟩:=List.mem_map.1 hx
    exact mF 3 z (g6 z (List.mem_of_mem_take hz))
theorem pb:∀ (n:Nat) (t:Typ),t.ok->(aZ n t).ok
 | 0,t,h=>mG (fun x hx=>hx) false t h
 | n+1,t,h=>mG (pb n) _ t h
theorem OG (t:Typ)(ht:t.ok):TOk (aZ 3 t):=by
 obtain⟨htd,hnw⟩:=kr 3 t ht
 refine⟨pb 3 t ht,htd,hnw,kq 2 t,fun g hg x hx=>?_⟩
 rw[eh,if_pos (by decide)] at hg
 obtain⟨y,_,rfl⟩:=List.mem_map.1 hg
 obtain⟨a',nm,nd,ty,d⟩:=y
 obtain⟨z,_,rfl⟩:=List.mem_map.1 (show x∈(d.take 2).map (aN 3) from hx)
 have:=rT 3 z;omega
theorem j0:∀ (n:Nat) (v:Val),dep n v->dep (n+1) v
 | 0,_,h=>h.elim
 | n+1,v,h=>⟨h.1,h.2.1,h.2.2.1,fun x hx=>j0 n x (h.2.2.2.1 x hx),fun f hf=>⟨(h.2.2.2.2 f hf).1,j0 n _ (h.2.2.2.2 f hf).2⟩⟩
theorem FJ:aJ.ok:=by
 unfold aJ
 rw[Val.ok_mk]
 exact⟨⟨by omega,by omega⟩,⟨by omega,by omega⟩,⟨by omega,by omega⟩,by simp,by simp,by simp,by simp,by simp⟩
theorem LW {k:Int}{s:List UInt8}(hk:1<=k/\k<=7):(rdQ k s).1.2.2.length<=s.length:=by
 have e:k=1\/k=2\/k=3\/k=4\/k=5\/k=6\/k=7:=by omega
 rcases e with rfl | rfl | rfl | rfl | rfl | rfl | rfl
 ·rw[GP];simp
 ·rw[BY];simp
 ·rw[BX];simp
 ·rw[GO];exact Nat.le_refl _
 ·rw[BW]
  cases h:yI s with
  | none=>simp
  | some b=>simpa using jW h
 ·rw[BV];simp
 ·rw[BU];simp
theorem vO {g:TFd}{c:Cel}(hc:CellT g)(hdt:∀ x∈g.dflt,x.text.length<=2000)(hl:c.1.length<=5000)(h:ni g c=0):dep 2 (mm g c)/\(c.1.length<=2000->(mm g c).text.length<=2000):=by
 unfold ni at h
 unfold mm
 by_cases hf:jD c=true
 ·rw[if_pos hf] at h ⊢
  obtain⟨h1,h2,h3⟩:=A5 hc.kd hl h
  have ht:=LW (s:=c.1) hc.kd
  rw[h1]
  exact⟨j0 1 _ (jL (by omega)),fun h=>by show (rdQ g.typ.kind c.1).1.2.2.length<=2000;omega⟩
 ·rw[if_neg hf] at h ⊢
  by_cases h3:g.need=3
  ·rw[if_pos h3]
   obtain⟨x,r,hx,hx1,hx2⟩:=hc.dft h3
   have hxt:=hdt x (by rw[hx];simp)
   rw[(Eu hx).2]
   exact⟨j0 1 _ (M7 hc.kd hx1 hxt),fun _=>hxt⟩
  ·rw[if_neg h3]
   exact⟨oL 1,fun _=>by show ([]:List UInt8).length<=2000;simp⟩
theorem BR {f:List TFd}{C:List Cel}(h6:f.length<=64)(hcell:∀ g∈f,CellT g)(hdt:∀ g∈f,∀ x∈g.dflt,x.text.length<=2000)(hl:∀ c∈C,c.1.length<=5000)(h:∀ x∈f.zip C,ni x.1 x.2=0) :
  dep 3 (me ((f.zip C).map fDV))/\(me ((f.zip C).map fDV)).ok/\((∀ c∈C,c.1.length<=2000)->VOk (me ((f.zip C).map fDV))):=by
 have hy:∀ y∈srt (((f.zip C).map fDV).filter bv),∃ g c,g∈f/\c∈C/\y = .mk g.name (mm g c)/\ni g c=0:=fun y hy=>by
  obtain⟨⟨g,c⟩,hx,rfl⟩:=List.mem_map.1 (List.mem_filter.1 ((jP _).mem_iff.1 hy)).1
  obtain⟨m1,m2⟩:=List.of_mem_zip hx
  exact⟨g,c,m1,m2,rfl,h (g,c) hx⟩
 have hlen:(srt (((f.zip C).map fDV).filter bv)).length<=64:=by
  have:=List.length_filter_le bv ((f.zip C).map fDV)
  rw[f0]
  rw[List.length_map,List.length_zip] at this
  omega
 have hd:dep 3 (me ((f.zip C).map fDV)):=by
  refine⟨by simp[me,Val.lst],by show (srt _).length<=_;omega,by simp[me,Val.text],by simp[me,Val.lst],fun y hm=>?_⟩
  obtain⟨g,c,m1,m2,rfl,hz⟩:=hy y hm
  exact⟨(hcell g m1).nml,(vO (hcell g m1) (hdt g m1) (hl c m2) hz).1⟩
 have hok:(me ((f.zip C).map fDV)).ok:=by
  unfold me
  rw[Val.ok_mk]
  refine⟨⟨by omega,by omega⟩,⟨by omega,by omega⟩,⟨by omega,by omega⟩,by simp,by simp,by simp,by omega,fun y hm=>?_⟩
  obtain⟨g,c,m1,m2,rfl,hz⟩:=hy y hm
  rw[Fld.ok_mk]
  have:=(hcell g m1).nml
  exact⟨by omega,(oq (hcell g m1) (hl c m2) hz).1⟩
 refine⟨hd,hok,fun hs=>⟨hok,hd,fun y hm=>?_⟩⟩
 obtain⟨g,c,m1,m2,rfl,hz⟩:=hy y hm
 exact⟨(vO (hcell g m1) (hdt g m1) (hl c m2) hz).2 (hs c m2),(oq (hcell g m1) (hl c m2) hz).1⟩
theorem C3 {f:List TFd}(h:(f.map TFd.name).Nodup){a b:TFd}(ha:a∈f)(hb:b∈f)(e:a.name=b.name):a=b:=by
 obtain⟨i,hi,rfl⟩:=List.getElem_of_mem ha
 obtain⟨j,hj,rfl⟩:=List.getElem_of_mem hb
 have hp:=List.pairwise_iff_getElem.1 h
 rcases Nat.lt_trichotomy i j with c | c | c
 ·have:=hp i j (by simpa using hi) (by simpa using hj) c
  simp only[List.getElem_map] at this
  exact absurd e this
 ·subst c;rfl
 ·have:=hp j i (by simpa using hj) (by simpa using hi) c
  simp only[List.getElem_map] at this
  exact absurd e.symm this
theorem OC {S:List Fld}(h:S.Pairwise ltF):upB S=true:=by
 unfold upB
 rw[fG]
 intro j hj
 unfold upJ
 have h1:j<S.length:=by omega
 have h2:j+1<S.length:=by omega
 rw[List.getElem?_eq_getElem h1,List.getElem?_eq_getElem h2]
 simp only[Option.map_some,Option.getD_some]
 rw[<- EE]
 exact decide_eq_true (List.pairwise_iff_getElem.1 h j (j+1) h1 h2 (by omega))
theorem No {t:Typ}{n:Int}{line:List UInt8}{C:List Cel}(hR:RTy t)(hl:∀ c∈C,c.1.length<=5000)(h:DOk t n line C):aK 3 t (me ((t.fields.zip C).map fDV)) []=[]:=by
 have h9:=hR.k9
 have hnm:=hR.nm
 have hnd:fk ((t.fields.zip C).map fDV):=by
  unfold fk
  rw[mr h.len]
  exact hnm
 have hzm:∀ x∈t.fields.zip C,x.1∈t.fields/\x.2∈C:=fun x hx=>by
  obtain⟨g,c⟩:=x
  exact List.of_mem_zip hx
 have hcf:∀ x∈t.fields.zip C,(bz (mm x.1 x.2)=true/\x.1.need=2)\/(bz (mm x.1 x.2)=false/\FitS x.1.typ (mm x.1 x.2)):=fun x hx=>by
  obtain⟨m1,m2⟩:=hzm x hx
  have hc:=hR.fld x.1 m1
  have hn:=hc.nd
  have zn:bz aJ=true:=rfl
  rcases (oq hc (hl x.2 m2) (h.cel x hx)).2 with (⟨e,h2⟩ | ⟨e,h1,h3⟩) | hf
  ·rw[e];exact .inl ⟨zn,h2⟩
  ·rw[e];exact .inl ⟨zn,by omega⟩
  ·have hk:=hc.kd
   have:=hf.kd
   exact .inr ⟨kR (by omega),hf⟩
 obtain⟨l,hl'⟩:∃ l,l=(t.fields.zip C).map fDV:=⟨_,rfl⟩
 rw[<- hl'] at hnd ⊢
 have hS:(srt (l.filter bv)).Pairwise ltF:=by rw[GN hnd];exact eo l hnd
 have hmem:∀ y,y∈srt (l.filter bv)↔y∈l/\bv y=true:=fun y=>by rw[(jP _).mem_iff,List.mem_filter]
 have hel:∀ y∈l,∃ x∈t.fields.zip C,y=fDV x:=fun y hy=>by
  rw[hl'] at hy
  obtain⟨x,hx,e⟩:=List.mem_map.1 hy
  exact⟨x,hx,e.symm⟩
 unfold me
 rw[aV]
 have a:¬ (t.kind<1\/10<t.kind\/¬ (Val.mk 9 0 0 [] [] (srt (l.filter bv))).kind=t.kind):=fun q=>q.elim (by omega) fun q=>q.elim (by omega) fun q=>q (by rw[h9];rfl)
 have hfm:az (Val.mk 9 0 0 [] [] (srt (l.filter bv)))=true:=by simp[az,OC hS]
 rw[dQ a hfm h9,r5,List.append_eq_nil_iff]
 refine⟨List.flatMap_eq_nil_iff.2 fun g hg=>?_,List.flatMap_eq_nil_iff.2 fun y hy=>?_⟩
 ·simp only[Val.fields]
  cases hfd:(srt (l.filter bv)).find? (aU g.name) with
  | some y=>
    have hy:=(hmem y).1 (List.mem_of_find?_eq_some hfd)
    have hyn:y.name=g.name:=by have q:=List.find?_some hfd;exact of_decide_eq_true q
    obtain⟨x,hx,rfl⟩:=hel y hy.1
    have hxg:x.1=g:=C3 hnm (hzm x hx).1 hg hyn
    rw[bM hfd]
    have hkf:bv (fDV x)=!bz (mm x.1 x.2):=rfl
    rcases hcf x hx with ⟨q,_⟩ | ⟨_,q⟩
    ·rw[hkf,q] at hy;exact absurd hy.2 (by decide)
    ·rw[hxg] at q
     have hv:(fDV x).value=mm g x.2:=by rw[<- hxg];rfl
     rw[hv]
     exact og (hR.fld g hg).kd q _
  | none=>
    obtain⟨i,hi,rfl⟩:=List.getElem_of_mem hg
    have hic:i<C.length:=by rw[<- h.len];exact hi
    have hx:(t.fields[i],C[i])∈t.fields.zip C:=List.mem_of_getElem? (i:=i) (by rw[List.getElem?_zip_eq_some];exact⟨List.getElem?_eq_getElem hi,List.getElem?_eq_getElem hic⟩)
    rcases hcf _ hx with ⟨_,q⟩ | ⟨q,_⟩
    ·exact cL hfd q
    ·have hin:fDV (t.fields[i],C[i])∈srt (l.filter bv):=(hmem _).2 ⟨by rw[hl'];exact List.mem_map_of_mem hx,by
      show (!bz (mm t.fields[i] C[i]))=true
      rw[q];rfl⟩
     have:=List.find?_eq_none.1 hfd _ hin
     exact absurd (decide_eq_true rfl:aU t.fields[i].name (fDV (t.fields[i],C[i]))=true) this
 ·simp only[Val.fields] at hy
  obtain⟨x,hx,rfl⟩:=hel y ((hmem y).1 hy).1
  cases hfd:t.fields.find? (named (fDV x).name) with
  | some z=>exact ga hfd
  | none=>
    have:=List.find?_eq_none.1 hfd x.1 (hzm x hx).1
    exact absurd (decide_eq_true rfl:named (fDV x).name x.1=true) this
end Go.Proofs.YtbaaokocnegdoaaGreatDoor

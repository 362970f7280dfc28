/- A part of the proof. -/
import Derived.Test.YtbaaokocnegdoaaGreatDoorDeVZ7
import Derived.Shelf.Vars
set_option linter.unusedVariables false
set_option linter.unusedSimpArgs false
set_option maxHeartbeats 16000000
set_option maxRecDepth 100000
namespace Go.Proofs.YtbaaokocnegdoaaGreatDoor
open Go Go.Ab
attribute [local irreducible] vc
structure TOk (t:Typ):Prop where
 ok:t.ok
 tid:br 4 t
 nar:aL 4 t
 ty:mE 3 t
 dfl:∀ g∈t.fields,∀ x∈g.dflt,x.text.length<=2000
structure VOk (v:Val):Prop where
 ok:v.ok
 dep:dep 3 v
 fld:∀ y∈v.fields,y.value.text.length<=2000/\y.value.ok
theorem A4 {t:Typ}(h:TOk t):t.fields.length<=1000000:=by
 have:=h.nar
 obtain⟨k,a,b,c,w,e,f⟩:=t
 simp only[aL] at this
 simp only[Typ.fields];omega
theorem Kl {L:List UInt8}{sep:UInt8}:∀ (k a:Nat) (C:List Cel) (Pl:List Nat),L.length - a<k->a<=L.length->C.length=Pl.length->(∀ c∈C,c.1.length<=L.length) ->
  (∀ o e,Ab.runN L sep a C Pl = .err o e->¬ e=0)/\∀ C' Pl',Ab.runN L sep a C Pl = .ok C' Pl'->C'.length=Pl'.length/\0<C'.length/\∀ c∈C',c.1.length<=L.length
 | 0,a,C,Pl,h,_,_,_=>absurd h (by omega)
 | k+1,a,C,Pl,hk,ha,hl,hc=>by
   rw[runN_eq ha]
   by_cases h64:C.length=64
   ·rw[if_pos h64]
    exact⟨fun o e h=>by cases h;decide,fun C' Pl' h=>by cases h⟩
   rw[if_neg h64]
   cases hx:my L sep a with
   | err o e=>
     refine⟨fun o' e' h=>?_,fun C' Pl' h=>by cases h⟩
     simp only[fy] at h
     cases h
     unfold my at hx
     split at hx
     ·unfold gd at hx
      cases hq:(bD (L.drop (a+1))).map (mg [] (a+1)) with
      | none=>rw[hq] at hx;simp only[bx] at hx;cases hx;decide
      | some q=>
        rw[hq] at hx
        simp only[bx] at hx
        split at hx
        ·split at hx
         ·cases hx
         ·cases hx;decide
        ·cases hx
     ·unfold bp at hx
      split at hx
      ·cases hx;decide
      ·cases hx
   | ok c a'=>
     obtain⟨h1,h2,h3⟩:=vQ ha hx
     simp only[fy,FT]
     have hc2:∀ d∈C++[c],d.1.length<=L.length:=fun d hd=>by
      rcases List.mem_append.1 hd with hd | hd
      ·exact hc d hd
      ·rw[List.mem_singleton.1 hd];exact h3
     by_cases he:L.length<=a'
     ·rw[if_pos he]
      exact⟨fun o e h=>(by cases h),fun C' Pl' h=>by cases h;exact⟨by simp[hl],by simp,hc2⟩⟩
     ·rw[if_neg he]
      exact Kl k (a'+1) _ _ (by omega) (by omega) (by simp[hl]) hc2
theorem nJ (L:List UInt8)(n:Int):(∀ o e,fe L n = .err o e->¬ e=0)/\∀ C Pl,fe L n = .ok C Pl->C.length=Pl.length/\0<C.length/\∀ c∈C,c.1.length<=L.length:=by
 unfold fe
 by_cases h1:mc n=true
 ·rw[if_pos h1]
  by_cases h2:65536<L.length
  ·rw[if_pos h2]
   exact⟨fun o e h=>by cases h;decide,fun C Pl h=>by cases h⟩
  ·rw[if_neg h2]
   exact Kl (L.length+1) 0 [] [] (by omega) (by omega) rfl (fun c hc=>by cases hc)
 ·rw[if_neg h1]
  exact⟨fun o e h=>by cases h;decide,fun C Pl h=>by cases h⟩
section
variable {m:Int}{T:Nat}{p:PV}
theorem zf (t:Typ)(n z:Int)(line:List UInt8)(h17:ak Tryz.prog aq 17 [t.pv,.int .i64 n] (.int .i64 z))(hz:¬ z=0):ak Tryz.prog (rx m T p) 22 [t.pv,.int .i64 n,.str line] (.tup [eR,.int .i64 0,.int .i64 z]):=by
 have h17:=xG (m:=m) (T:=T) (p:=p) h17
 obtain⟨k,a,b,c,w,e,f⟩:=t
 simp only[Typ.pv_mk,eR] at h17 ⊢
 refine ak.intro Q22.2 (by simp[Q22]) ?_
 simp(disch:=try exact dI) only[Q22,push_cast,seval]
 refine ab.pure h17 rfl ?_
 simp(disch:=try exact dI) only[hz,push_cast,seval]
theorem za (t:Typ)(n z:Int)(line:List UInt8)(h18:ak Tryz.prog aq 18 [t.pv,.int .i64 n] (.int .i64 z))(hz:¬ z=0):ak Tryz.prog aq 23 [t.pv,.int .i64 n,.str line] (.tup [eR,.int .i64 0,.int .i64 z]):=by
 obtain⟨k,a,b,c,w,e,f⟩:=t
 simp only[Typ.pv_mk,eR] at h18 ⊢
 refine ak.intro Q23.2 (by simp[Q23]) ?_
 simp(disch:=try exact dI) only[Q23,push_cast,seval]
 refine ab.pure h18 rfl ?_
 simp(disch:=try exact dI) only[hz,push_cast,seval]
theorem zc (t:Typ)(n:Int)(line:List UInt8)(o:Nat)(z:Int)(h17:ak Tryz.prog aq 17 [t.pv,.int .i64 n] (.int .i64 0))(h57:ak Tryz.prog aq 57 [.str line,.int .i64 n] (.tup [.nils,.nils,.int .i64 (o:Int),.int .i64 z]))(hz:¬ z=0):ak Tryz.prog (rx m T p) 22 [t.pv,.int .i64 n,.str line] (.tup [eR,.int .i64 (o:Int),.int .i64 z]):=by
 have h17:=xG (m:=m) (T:=T) (p:=p) h17
 have h57:=xG (m:=m) (T:=T) (p:=p) h57
 obtain⟨k,a,b,c,w,e,f⟩:=t
 simp only[Typ.pv_mk,eR] at h17 ⊢
 refine ak.intro Q22.2 (by simp[Q22]) ?_
 simp(disch:=try exact dI) only[Q22,push_cast,seval]
 refine ab.pure h17 rfl ?_
 refine zgZ ?_
 refine ab.pure h57 rfl ?_
 simp(disch:=try exact dI) only[hz,push_cast,seval]
theorem y8 (t:Typ)(n:Int)(line:List UInt8)(o:Nat)(z:Int)(h18:ak Tryz.prog aq 18 [t.pv,.int .i64 n] (.int .i64 0))(h30:ak Tryz.prog aq 30 [.str line,.int .i64 n] (.tup [.nils,.int .i64 (o:Int),.int .i64 z]))(hz:¬ z=0):ak Tryz.prog aq 23 [t.pv,.int .i64 n,.str line] (.tup [eR,.int .i64 (o:Int),.int .i64 z]):=by
 obtain⟨k,a,b,c,w,e,f⟩:=t
 simp only[Typ.pv_mk,eR] at h18 ⊢
 refine ak.intro Q23.2 (by simp[Q23]) ?_
 simp(disch:=try exact dI) only[Q23,push_cast,seval]
 refine ab.pure h18 rfl ?_
 refine zgZ ?_
 refine ab.pure h30 rfl ?_
 simp(disch:=try exact dI) only[hz,push_cast,seval]
theorem ze (t:Typ)(n:Int)(line:List UInt8)(C:List Cel)(Pl:List Nat)(hcp:C.length=Pl.length)(h17:ak Tryz.prog aq 17 [t.pv,.int .i64 n] (.int .i64 0))(h57:ak Tryz.prog aq 57 [.str line,.int .i64 n] (.tup [.list (C.map tI),.list (Pl.map fO),.int .i64 0,.int .i64 0]))(hne:¬ C.length=t.fields.length) :
  ak Tryz.prog (rx m T p) 22 [t.pv,.int .i64 n,.str line] (.tup [eR,.int .i64 (if C.length<t.fields.length then (line.length:Int) else (Pl.getD t.fields.length 0:Int)),.int .i64 (if C.length<t.fields.length then 4 else 21)]):=by
 have h17:=xG (m:=m) (T:=T) (p:=p) h17
 have h57:=xG (m:=m) (T:=T) (p:=p) h57
 obtain⟨k,a,b,c,w,e,f⟩:=t
 by_cases h1:C.length<(Typ.mk k a b c w e f).fields.length
 ·rw[if_pos h1,if_pos h1]
  simp only[Typ.fields] at h1 hne
  simp only[Typ.pv_mk,eR] at h17 ⊢
  have h1I:(C.length:Int)<(f.length:Int):=by omega
  refine ak.intro Q22.2 (by simp[Q22]) ?_
  simp(disch:=try exact dI) only[Q22,push_cast,seval]
  refine ab.pure h17 rfl ?_
  refine zgZ ?_
  refine ab.pure h57 rfl ?_
  simp(disch:=try exact dI) only[List.length_map,h1I,push_cast,seval]
 ·rw[if_neg h1,if_neg h1]
  simp only[Typ.fields] at h1 hne ⊢
  simp only[Typ.pv_mk,eR] at h17 ⊢
  have h1I:¬ (C.length:Int)<(f.length:Int):=by omega
  have h2I:(f.length:Int)<(C.length:Int):=by omega
  have hq:Pl[f.length]? = some (Pl.getD f.length 0):=by rw[List.getD_eq_getElem?_getD,List.getElem?_eq_getElem (by omega)];rfl
  have hqp:=pF hq
  generalize Pl.getD f.length 0=q at *
  refine ak.intro Q22.2 (by simp[Q22]) ?_
  simp(disch:=try exact dI) only[Q22,push_cast,seval]
  refine ab.pure h17 rfl ?_
  refine zgZ ?_
  refine ab.pure h57 rfl ?_
  simp(disch:=try exact dI) only[List.length_map,h1I,h2I,hqp,push_cast,seval]
theorem y9 (t:Typ)(n:Int)(line:List UInt8)(C:List Cel)(Pl:List Nat)(hcp:C.length=Pl.length)(h18:ak Tryz.prog aq 18 [t.pv,.int .i64 n] (.int .i64 0))(h30:ak Tryz.prog aq 30 [.str line,.int .i64 n] (.tup [.list ((C.zip Pl).map zW),.int .i64 0,.int .i64 0]))(hne:¬ C.length=t.fields.length) :
  ak Tryz.prog aq 23 [t.pv,.int .i64 n,.str line] (.tup [eR,.int .i64 (if C.length<t.fields.length then (line.length:Int) else (Pl.getD t.fields.length 0:Int)),.int .i64 (if C.length<t.fields.length then 4 else 21)]):=by
 obtain⟨k,a,b,c,w,e,f⟩:=t
 have hzl:((C.zip Pl).map zW).length=C.length:=by rw[List.length_map,List.length_zip];omega
 have hcel:=fun (i:Nat) (c:Cel) (q:Nat) (h1:C[i]? = some c) (h2:Pl[i]? = some q)=>E1 h1 h2
 generalize (C.zip Pl).map zW=CL at *
 by_cases h1:C.length<(Typ.mk k a b c w e f).fields.length
 ·rw[if_pos h1,if_pos h1]
  simp only[Typ.fields] at h1 hne
  simp only[Typ.pv_mk,eR] at h18 ⊢
  have h1I:(C.length:Int)<(f.length:Int):=by omega
  refine ak.intro Q23.2 (by simp[Q23]) ?_
  simp(disch:=try exact dI) only[Q23,push_cast,seval]
  refine ab.pure h18 rfl ?_
  refine zgZ ?_
  refine ab.pure h30 rfl ?_
  simp(disch:=try exact dI) only[hzl,h1I,push_cast,seval]
 ·rw[if_neg h1,if_neg h1]
  simp only[Typ.fields] at h1 hne ⊢
  simp only[Typ.pv_mk,eR] at h18 ⊢
  have h1I:¬ (C.length:Int)<(f.length:Int):=by omega
  have h2I:(f.length:Int)<(C.length:Int):=by omega
  have hq:Pl[f.length]? = some (Pl.getD f.length 0):=by rw[List.getD_eq_getElem?_getD,List.getElem?_eq_getElem (by omega)];rfl
  obtain⟨c,hc⟩:∃ c,C[f.length]? = some c:=⟨_,List.getElem?_eq_getElem (by omega)⟩
  have hqp:=hcel _ _ _ hc hq
  generalize Pl.getD f.length 0=q at *
  refine ak.intro Q23.2 (by simp[Q23]) ?_
  simp(disch:=try exact dI) only[Q23,push_cast,seval]
  refine ab.pure h18 rfl ?_
  refine zgZ ?_
  refine ab.pure h30 rfl ?_
  simp(disch:=try exact dI) only[hzl,h1I,h2I,hqp,push_cast,seval]
end
theorem rH {t:Typ}{s:List UInt8}(hk:1<=t.kind/\t.kind<=7)(hl:s.length<=5000)(h:(f8 t s).2=0):(f8 t s).1=cn t.kind (rdQ t.kind s).1/\(rdQ t.kind s).2=true/\FitS t (f8 t s).1:=by
 unfold f8 at h ⊢
 rw[LK hk,if_neg (by decide)] at h ⊢
 by_cases h1:(rdQ t.kind s).2=false
 ·rw[if_pos h1] at h;cases h
 rw[if_neg h1] at h ⊢
 by_cases h2:(cx 1 t (cn t.kind (rdQ t.kind s).1) []).isEmpty=true
 ·rw[if_pos h2]
  exact⟨rfl,by simpa using h1,Il (n:=0) hk (List.isEmpty_iff.1 h2)⟩
 ·rw[if_neg h2] at h;cases h
structure DOk (t:Typ)(n:Int)(line:List UInt8)(C:List Cel):Prop where
 rep:FM t n=0
 spl:∃ Pl,fe line n = .ok C Pl
 len:t.fields.length=C.length
 txt:∀ c∈C,c.1.length<=line.length
 cel:∀ x∈t.fields.zip C,oy x.1 x.2=0
theorem wi {f:List TFd}{C:List Cel}(h:f.length=C.length):((f.zip C).map fDV).map Fld.name=f.map TFd.name:=by
 have h1:((f.zip C).map fDV).map Fld.name=((f.zip C).map Prod.fst).map TFd.name:=by
  rw[List.map_map,List.map_map];rfl
 rw[h1]
 congr 1
 exact List.map_fst_zip (by omega)
theorem tC {g:TFd}{c:Cel}(hc:CellT g)(hl:c.1.length<=5000)(h:oy g c=0):(tD g c).ok/\((tD g c=aI/\g.need=2\/tD g c=aI/\¬ g.need=1/\¬ g.need=3)\/FitS g.typ (tD g c)):=by
 unfold oy at h
 unfold tD
 by_cases hf:jI c=true
 ·rw[if_pos hf] at h ⊢
  obtain⟨h1,h2,h3⟩:=rH hc.kd hl h
  refine⟨?_,.inr h3⟩
  rw[h1]
  exact rG (LK hc.kd) (BO (LK hc.kd) hl h2)
 ·rw[if_neg hf] at h ⊢
  by_cases h3:g.need=3
  ·rw[if_pos h3]
   obtain⟨x,r,hx,hx1,hx2⟩:=hc.dft h3
   rw[(vA hx).2]
   exact⟨hx2,.inr hx1⟩
  ·rw[if_neg h3] at h ⊢
   by_cases h1:g.need=1
   ·rw[if_pos h1] at h;cases h
   ·refine⟨?_,.inl (.inr ⟨rfl,h1,h3⟩)⟩
    unfold aI
    rw[Val.ok_mk]
    exact⟨⟨by omega,by omega⟩,⟨by omega,by omega⟩,⟨by omega,by omega⟩,by simp,by simp,by simp,by simp,by simp⟩
theorem ku {rec:Val->Val}(hr:∀ x,x.ok->(rec x).ok)(on:Bool)(v:Val)(hv:v.ok):(cr rec on v).ok:=by
 obtain⟨k,i,s,t,l,f⟩:=v
 rw[Val.ok_mk] at hv
 obtain⟨h1,h2,h3,h4,h5,h7,h6,h8⟩:=hv
 show (Val.mk k i s (t.take 40) (if on=true then (l.take 6).map rec else []) (if on=true then (f.take 6).map (jk rec) else [])).ok
 rw[Val.ok_mk]
 cases on with
 | false=>exact⟨h1,h2,h3,by rw[List.length_take];omega,by simp,by simp,by simp,by simp⟩
 | true=>
   rw[if_pos rfl,if_pos rfl]
   refine⟨h1,h2,h3,by rw[List.length_take];omega,by rw[List.length_map,List.length_take];omega,fun x hx=>?_,by rw[List.length_map,List.length_take];omega,fun x hx=>?_⟩
   ·obtain⟨y,hy,rfl⟩:=List.mem_map.1 hx
    exact hr y (h7 y (List.mem_of_mem_take hy))
   ·obtain⟨y,hy,rfl⟩:=List.mem_map.1 hx
    have hy:=h8 y (List.mem_of_mem_take hy)
    obtain⟨nm,w⟩:=y
    rw[Fld.ok_mk] at hy
    show (Fld.mk (nm.take 40) (rec w)).ok
    rw[Fld.ok_mk]
    exact⟨by rw[List.length_take];omega,hr w hy.2⟩
theorem mM:∀ (n:Nat) (v:Val),v.ok->(aP n v).ok
 | 0,v,h=>ku (fun x hx=>hx) false v h
 | n+1,v,h=>ku (mM n) _ v h
theorem rT (n:Nat)(v:Val):(aP n v).text.length<=40:=by
 obtain⟨k,i,s,t,l,f⟩:=v
 have h:(t.take 40).length<=40:=by rw[List.length_take];omega
 cases n<;>exact h
theorem mN {rec:Typ->Typ}(hr:∀ x,x.ok->(rec x).ok)(on:Bool)(t:Typ)(ht:t.ok):(dm rec on t).ok:=by
 obtain⟨k,a,b,c,w,e,f⟩:=t
 rw[Typ.ok_mk] at ht
 obtain⟨h1,h2,h3,h4,h5,h6,h7,h8,h9,h10⟩:=ht
 show (Typ.mk k a b c ((w.take 6).map (List.take 40)) (if on=true then (e.take 2).map rec else []) (if on=true then (f.take 6).map (ct rec) else [])).ok
 rw[Typ.ok_mk]
 have hw:((w.take 6).map (List.take 40)).length*16<=140737488351232:=by rw[List.length_map,List.length_take];omega
 have hw2:∀ x∈(w.take 6).map (List.take 40),x.length<=140737488351232:=fun x hx=>by
  obtain⟨y,_,rfl⟩:=List.mem_map.1 hx
  rw[List.length_take];omega
 cases on with
 | false=>exact⟨h1,h2,h3,h4,hw,hw2,by simp,by simp,by simp,by simp⟩
 | true=>
   rw[if_pos rfl,if_pos rfl]
   refine⟨h1,h2,h3,h4,hw,hw2,by rw[List.length_map,List.length_take];omega,fun x hx=>?_,by rw[List.length_map,List.length_take];omega,fun x hx=>?_⟩
   ·obtain⟨y,hy,rfl⟩:=List.mem_map.1 hx
    exact hr y (h8 y (List.mem_of_mem_take hy))
   ·obtain⟨y,hy,rfl⟩:=List.mem_map.1 hx
    have hy:=h10 y (List.mem_of_mem_take hy)
    obtain⟨a',nm,nd,ty,d⟩:=y
    rw[TFd.ok_mk] at hy
    obtain⟨g1,g2,g3,g4,g5,g6⟩:=hy
    show (TFd.mk a' (nm.take 40) nd (rec ty) ((d.take 2).map (aP 3))).ok
    rw[TFd.ok_mk]
    refine⟨g1,by rw[List.length_take];omega,g3,hr ty g4,by rw[List.length_map,List.length_take];omega,fun x hx=>?_⟩
    obtain⟨z,hz,rfl⟩:=List.mem_map.1 hx
    exact mM 3 z (g6 z (List.mem_of_mem_take hz))
theorem pg:∀ (n:Nat) (t:Typ),t.ok->(aX n t).ok
 | 0,t,h=>mN (fun x hx=>hx) false t h
 | n+1,t,h=>mN (pg n) _ t h
theorem Ph (t:Typ)(ht:t.ok):TOk (aX 3 t):=by
 obtain⟨htd,hnw⟩:=kw 3 t ht
 refine⟨pg 3 t ht,htd,hnw,kv 2 t,fun g hg x hx=>?_⟩
 rw[eq,if_pos (by decide)] at hg
 obtain⟨y,_,rfl⟩:=List.mem_map.1 hg
 obtain⟨a',nm,nd,ty,d⟩:=y
 obtain⟨z,_,rfl⟩:=List.mem_map.1 (show x∈(d.take 2).map (aP 3) from hx)
 have:=rT 3 z;omega
theorem jZ:∀ (n:Nat) (v:Val),dep n v->dep (n+1) v
 | 0,_,h=>h.elim
 | n+1,v,h=>⟨h.1,h.2.1,h.2.2.1,fun x hx=>jZ n x (h.2.2.2.1 x hx),fun f hf=>⟨(h.2.2.2.2 f hf).1,jZ n _ (h.2.2.2.2 f hf).2⟩⟩
theorem FX:aI.ok:=by
 unfold aI
 rw[Val.ok_mk]
 exact⟨⟨by omega,by omega⟩,⟨by omega,by omega⟩,⟨by omega,by omega⟩,by simp,by simp,by simp,by simp,by simp⟩
theorem Mm {k:Int}{s:List UInt8}(hk:1<=k/\k<=7):(rdQ k s).1.2.2.length<=s.length:=by
 have e:k=1\/k=2\/k=3\/k=4\/k=5\/k=6\/k=7:=by omega
 rcases e with rfl | rfl | rfl | rfl | rfl | rfl | rfl
 ·rw[Mt];simp
 ·rw[Ms];simp
 ·rw[Mr];simp
 ·rw[Mq];exact Nat.le_refl _
 ·rw[Mp]
  cases h:oi s with
  | none=>simp
  | some b=>simpa using oh h
 ·rw[Mo];simp
 ·rw[Mn];simp
theorem vC {g:TFd}{c:Cel}(hc:CellT g)(hdt:∀ x∈g.dflt,x.text.length<=2000)(hl:c.1.length<=5000)(h:oy g c=0):dep 2 (tD g c)/\(c.1.length<=2000->(tD g c).text.length<=2000):=by
 unfold oy at h
 unfold tD
 by_cases hf:jI c=true
 ·rw[if_pos hf] at h ⊢
  obtain⟨h1,h2,h3⟩:=rH hc.kd hl h
  have ht:=Mm (s:=c.1) hc.kd
  rw[h1]
  exact⟨jZ 1 _ (jN (by omega)),fun h=>by show (rdQ g.typ.kind c.1).1.2.2.length<=2000;omega⟩
 ·rw[if_neg hf] at h ⊢
  by_cases h3:g.need=3
  ·rw[if_pos h3]
   obtain⟨x,r,hx,hx1,hx2⟩:=hc.dft h3
   have hxt:=hdt x (by rw[hx];simp)
   rw[(vA hx).2]
   exact⟨jZ 1 _ (NC hc.kd hx1 hxt),fun _=>hxt⟩
  ·rw[if_neg h3]
   exact⟨oN 1,fun _=>by show ([]:List UInt8).length<=2000;simp⟩
theorem Mh {f:List TFd}{C:List Cel}(h6:f.length<=64)(hcell:∀ g∈f,CellT g)(hdt:∀ g∈f,∀ x∈g.dflt,x.text.length<=2000)(hl:∀ c∈C,c.1.length<=5000)(h:∀ x∈f.zip C,oy x.1 x.2=0) :
  dep 3 (oJ ((f.zip C).map fDV))/\(oJ ((f.zip C).map fDV)).ok/\((∀ c∈C,c.1.length<=2000)->VOk (oJ ((f.zip C).map fDV))):=by
 have hy:∀ y∈srt (((f.zip C).map fDV).filter ce),∃ g c,g∈f/\c∈C/\y = .mk g.name (tD g c)/\oy g c=0:=fun y hy=>by
  obtain⟨⟨g,c⟩,hx,rfl⟩:=List.mem_map.1 (List.mem_filter.1 ((fJ _).mem_iff.1 hy)).1
  obtain⟨m1,m2⟩:=List.of_mem_zip hx
  exact⟨g,c,m1,m2,rfl,h (g,c) hx⟩
 have hlen:(srt (((f.zip C).map fDV).filter ce)).length<=64:=by
  have:=List.length_filter_le ce ((f.zip C).map fDV)
  rw[ep]
  rw[List.length_map,List.length_zip] at this
  omega
 have hd:dep 3 (oJ ((f.zip C).map fDV)):=by
  refine⟨by simp[oJ,Val.lst],by show (srt _).length<=_;omega,by simp[oJ,Val.text],by simp[oJ,Val.lst],fun y hm=>?_⟩
  obtain⟨g,c,m1,m2,rfl,hz⟩:=hy y hm
  exact⟨(hcell g m1).nml,(vC (hcell g m1) (hdt g m1) (hl c m2) hz).1⟩
 have hok:(oJ ((f.zip C).map fDV)).ok:=by
  unfold oJ
  rw[Val.ok_mk]
  refine⟨⟨by omega,by omega⟩,⟨by omega,by omega⟩,⟨by omega,by omega⟩,by simp,by simp,by simp,by omega,fun y hm=>?_⟩
  obtain⟨g,c,m1,m2,rfl,hz⟩:=hy y hm
  rw[Fld.ok_mk]
  have:=(hcell g m1).nml
  exact⟨by omega,(tC (hcell g m1) (hl c m2) hz).1⟩
 refine⟨hd,hok,fun hs=>⟨hok,hd,fun y hm=>?_⟩⟩
 obtain⟨g,c,m1,m2,rfl,hz⟩:=hy y hm
 exact⟨(vC (hcell g m1) (hdt g m1) (hl c m2) hz).2 (hs c m2),(tC (hcell g m1) (hl c m2) hz).1⟩
theorem Jo {m:Int}{T:Nat}{p:PV}{t:Typ}(ht:TOk t)(n:Int)(line:List UInt8)(hcl:∀ C Pl,fe line n = .ok C Pl->∀ c∈C,c.1.length<=5000):∃ (P Q:PV) (V:Val) (o e:Int),
  ak Tryz.prog (rx m T p) 22 [t.pv,.int .i64 n,.str line] (.tup [P,.int .i64 o,.int .i64 e])/\ak Tryz.prog aq 23 [t.pv,.int .i64 n,.str line] (.tup [Q,.int .i64 o,.int .i64 e])/\Nz P V.pv/\Nz Q V.pv/\dep 3 V /\
  (P=eR\/P=V.pv)/\(Q=eR\/∃ L,Q = .agg [.int .i64 9,.int .i64 0,.int .i64 0,.str [],.nils,.list L]) /\
  (e=0->o=0/\P=V.pv/\∃ C,DOk t n line C/\V=oJ ((t.fields.zip C).map fDV)) /\
  (FM t n=0->∀ C Pl,fe line n = .ok C Pl->t.fields.length=C.length->(∀ x∈t.fields.zip C,oy x.1 x.2=0)->e=0):=by
 have h17:=PT t n ht.tid ht.nar (A4 ht)
 have h18:=PS t n ht.tid ht.nar (A4 ht)
 have zd:dep 3 aI:=oN 2
 by_cases hz:FM t n=0
 case neg=>exact⟨eR,eR,aI,0,FM t n,zf t n _ line h17 hz,za t n _ line h18 hz,dK,dK,zd,.inl rfl,.inl rfl,fun h=>absurd h hz,fun h=>absurd h hz⟩
 rw[hz] at h17 h18
 obtain⟨hR,hsep⟩:=PH hz ht.ok ht.nar ht.ty
 have h57:=LF line n
 have h30:=LG line n
 cases hs:fe line n with
 | err o e=>
   rw[hs] at h57 h30
   simp only[resV,BE] at h57 h30
   have hne:=(nJ line n).1 o e hs
   exact⟨eR,eR,aI,o,e,zc t n line o e h17 h57 hne,y8 t n line o e h18 h30 hne,dK,dK,zd,.inl rfl,.inl rfl,fun h=>absurd h hne,fun _ C Pl h=>by cases h⟩
 | ok C Pl=>
   rw[hs] at h57 h30
   simp only[resV,BE] at h57 h30
   obtain⟨hcp,hC0,hCt⟩:=(nJ line n).2 C Pl hs
   have hc5:=hcl C Pl hs
   by_cases hlen:C.length=t.fields.length
   case neg=>
    have hne:¬ (if C.length<t.fields.length then (4:Int) else 21)=0:=by split<;>decide
    exact⟨eR,eR,aI,_,_,ze t n line C Pl hcp h17 h57 hlen,y9 t n line C Pl hcp h18 h30 hlen,dK,dK,zd,.inl rfl,.inl rfl,fun h=>absurd h hne,fun _ C' Pl' h hh=>by cases h;exact absurd hh.symm hlen⟩
   have hfl6:=hR.len
   have h12:∀ g∈t.fields,∀ c∈C,ak Tryz.prog (oX T p) 12 [g.typ.pv,.str c.1] (.tup [(f8 g.typ c.1).1.pv,.int .i64 (f8 g.typ c.1).2]):=fun g hg c hc=>AM g.typ c.1 (hc5 c hc) (hR.fld g hg).ty
   have h13:∀ g∈t.fields,∀ c∈C,ak Tryz.prog aq 13 [g.typ.pv,.str c.1] (.tup [(f8 g.typ c.1).1.pv,.int .i64 (f8 g.typ c.1).2]):=fun g hg c hc=>AL g.typ c.1 (hc5 c hc) (hR.fld g hg).ty
   have hnn:∀ g∈t.fields,∀ c∈C,(f8 g.typ c.1).2=0->bf (f8 g.typ c.1).1=false:=fun g hg c hc h=>by
    have hkd:=(hR.fld g hg).kd
    have:=(rH hkd (hc5 c hc) h).2.2.kd
    exact pW (by omega)
   have hdf:∀ g∈t.fields,g.need=3->∃ x r,g.dflt=x::r/\bf x=false:=fun g hg h3=>by
    obtain⟨x,r,hx,hx1,_⟩:=(hR.fld g hg).dft h3
    have hkd:=(hR.fld g hg).kd
    have:=hx1.kd
    exact⟨x,r,hx,pW (by omega)⟩
   have hnd:l7 ((t.fields.zip C).map fDV):=by
    unfold l7
    rw[wi hlen.symm]
    exact hR.nm
   have hok:∀ x∈t.fields.zip C,oy x.1 x.2=0->(fDV x).ok:=fun x hx h=>by
    obtain⟨g,c⟩:=x
    obtain⟨m1,m2⟩:=List.of_mem_zip hx
    unfold fDV
    rw[Fld.ok_mk]
    have:=(hR.fld g m1).nml
    exact⟨by show g.name.length<=_;omega,(tC (hR.fld g m1) (hc5 c m2) h).1⟩
   have hall:=j1 t.fields C Pl hlen.symm hcp
   obtain⟨V,hV⟩:∃ V,V=if (eX t.fields C Pl).2=0 then oJ ((t.fields.zip C).map fDV) else aI:=⟨_,rfl⟩
   have hVd:dep 3 V/\V.ok:=by
    rw[hV]
    by_cases h0:(eX t.fields C Pl).2=0
    ·rw[if_pos h0]
     obtain⟨r1,r2,_⟩:=Mh (by omega) hR.fld ht.dfl hc5 (hall h0).2
     exact⟨r1,r2⟩
    ·rw[if_neg h0];exact⟨zd,FX⟩
   have hrec:eX t.fields C Pl=(0,0)->ak Tryz.prog aq 59 [.list ((t.fields.zip C).map fDP)] V.pv:=fun h=>by
    have h0:(eX t.fields C Pl).2=0:=by rw[h]
    rw[hV,if_pos h0]
    have hz2:=(hall h0).2
    have h55:=G5 ((t.fields.zip C).map fDV) (by rw[List.length_map,List.length_zip];omega) (fun y hy=>by
     obtain⟨x,hx,rfl⟩:=List.mem_map.1 hy
     exact hok x hx (hz2 x hx)) hnd
    exact h55.nz (.cons _ _ _ _ (.list _ _ (Db _)) .nil)
   have h58:=ix _ V (Nat.lt_succ_self _) hVd.2
   have h22:ak Tryz.prog (rx m T p) 22 [t.pv,.int .i64 n,.str line] (.tup [if (eX t.fields C Pl).2=0 then V.pv else eR,.int .i64 (eX t.fields C Pl).1,.int .i64 (eX t.fields C Pl).2]):=by
    obtain⟨k,a,b,e0,w,el,f⟩:=t
    exact zg k a b e0 w el f line n C Pl V h17 h57 hlen.symm hcp (by simp only[Typ.fields] at hfl6;omega) h12 (fun g hg h3=>by obtain⟨x,r,hx,_⟩:=hdf g hg h3;exact⟨x,r,hx⟩) hrec h58
   have h23:∃ Q,ak Tryz.prog aq 23 [t.pv,.int .i64 n,.str line] (.tup [Q,.int .i64 (eX t.fields C Pl).1,.int .i64 (eX t.fields C Pl).2])/\Nz Q V.pv/\(Q=eR\/∃ L,Q = .agg [.int .i64 9,.int .i64 0,.int .i64 0,.str [],.nils,.list L]):=by
    rw[hV]
    obtain⟨k,a,b,e0,w,el,f⟩:=t
    exact zb k a b e0 w el f line n C Pl h18 h30 hlen.symm hcp (by simp only[Typ.fields] at hfl6;omega) h13 hnn hdf hnd hok
   obtain⟨Q,h23,hQ1,hQ2⟩:=h23
   refine⟨_,Q,V,_,_,h22,h23,?_,hQ1,hVd.1,?_,hQ2,fun h=>⟨?_,if_pos h,C,⟨hz,⟨Pl,hs⟩,hlen.symm,hCt,(hall h).2⟩,by rw[hV,if_pos h]⟩,fun _ C' Pl' h _ hx=>?_⟩
   ·by_cases h0:(eX t.fields C Pl).2=0
    ·rw[if_pos h0];exact .refl _
    ·rw[if_neg h0,hV,if_neg h0];exact dK
   ·by_cases h0:(eX t.fields C Pl).2=0
    ·rw[if_pos h0];exact .inr rfl
    ·rw[if_neg h0];exact .inl rfl
   ·rw[(hall h).1]
   ·cases h
    rw[ED _ _ _ hx]
theorem Pu (V:Val){P Q:PV}(hd:dep 3 V)(hP:Nz P V.pv)(hQ:Nz Q V.pv):ak Tryz.prog aq 15 [P,Q] (.bool true):=(uh 3 V hd).nz (.cons _ _ _ _ hP (.cons _ _ _ _ hQ .nil))
theorem UE {m:Int}{T:Nat}{p:PV}(t:Typ)(ht:t.ok)(s0:List UInt8)(hs0:s0.length<=140737488355328)(n:Int):ak Tryz.prog (rx m T p) 6 [t.pv,.str s0,.int .i64 n] (.bool true):=by
 have hk:=xG (m:=m) (T:=T) (p:=p) Iy
 have h11:=xG (m:=m) (T:=T) (p:=p) (LJ t ht)
 have hTk:=Ph t ht
 have hm1:min (s0.length:Int) 300=((min s0.length 300:Nat):Int):=by omega
 have et:(min (s0.length:Int) 300).toNat=min s0.length 300:=by omega
 have hsl:(s0.take (min s0.length 300)).length<=300:=by rw[List.length_take];omega
 generalize hS:s0.take (min s0.length 300)=s at *
 generalize aX 3 t=t' at *
 obtain⟨P,Q,V,o,e,h22,h23,nP,nQ,hd,hP,hQ,_,_⟩:=Jo (m:=m) (T:=T) (p:=p) hTk n s (fun C Pl h c hc=>by
  have:=((nJ s n).2 C Pl h).2.2 c hc
  omega)
 replace h23:=xG (m:=m) (T:=T) (p:=p) h23
 have h15:=xG (m:=m) (T:=T) (p:=p) (Pu V hd nP nQ)
 clear hTk ht nP nQ hd
 obtain⟨k1,a1,b1,c1,w1,e1,f1⟩:=t
 obtain⟨k2,a2,b2,c2,w2,e2,f2⟩:=t'
 obtain⟨k4,a4,b4,c4,l4,f4⟩:=V
 simp only[Typ.pv_mk,Val.pv_mk] at h11 h22 h23 h15 hP ⊢
 refine ak.intro Q6.2 (by simp[Q6]) ?_
 simp(disch:=try exact dI) only[Q6,push_cast,seval]
 refine ae h11 rfl ?_
 simp(disch:=try exact dI) only[et,hS,push_cast,seval]
 refine ab.pure h22 rfl ?_
 rcases hP with rfl | rfl<;>rcases hQ with rfl | ⟨L,rfl⟩
 all_goals
  try simp only[eR] at h23 h15 ⊢
  refine zgZ ?_
  refine ab.pure h23 rfl ?_
  refine zgZ ?_
  refine ab.pure hk rfl ?_
  refine zgZ ?_
  refine ab.pure h15 rfl ?_
  exact qsZ
theorem yZ (m:Int)(q:PV)(p0 p1 p2:PV)(h0:HasT Tryz.prog 26 p0)(h1:HasT Tryz.prog 9 p1)(h2:HasT Tryz.prog 3 p2):ak Tryz.prog (rx m 276 q) 6 [p0,p1,p2] (.bool true):=by
 obtain⟨t,rfl,ht⟩:=IP h0
 obtain⟨s,rfl,hs⟩:=lu h1 Tryz.underlying9
 obtain⟨n,rfl,_⟩:=dP h2 Tryz.underlying3
 exact UE t ht s (by omega) n
open Go.Lib Go.Proofs
theorem u8X:U8Extra Tryz.prog Tryz.lays196_ren:=⟨by kernel_rfl,by kernel_rfl,by kernel_rfl,by kernel_rfl,by kernel_rfl,by kernel_rfl,by kernel_rfl⟩
theorem uZ {W:World}(h1:VarReads Tryz.prog W "unicode/utf8.first" firstData) (h2:VarReads Tryz.prog W "unicode/utf8.acceptRanges" acceptData)
  (h3:VarReads Tryz.prog W "internal/strconv.uint64pow10" (tabData .u64 pow10Tab)):bM aq W (lp W):=by
 have hu:=utf8Tabs_of_readsT (U8Types.of196 Tryz.lays196) u8X h1 h2
 refine D2 fun g hg=>?_
 unfold aq at hg ⊢
 by_cases e3:g=5
 ·subst e3
  exact wE (t:=281) (e:=213) (m:=20) h3 (by kernel_rfl) (by kernel_rfl) (by kernel_rfl) (by kernel_rfl) (by kernel_rfl) (by kernel_rfl) (by kernel_rfl)
 rw[if_neg e3] at hg ⊢
 by_cases e1:g=3
 ·subst e1
  rw[if_pos rfl] at hg ⊢
  refine nH (t:=270) (e:=5) (m:=256) h1 (by kernel_rfl) (by kernel_rfl) (by kernel_rfl) (by kernel_rfl) fun o p hp=>?_
  rw[R4,List.getElem?_map,Option.map_eq_some_iff] at hp
  obtain⟨c,hc,rfl⟩:=hp
  obtain⟨hlt,hcc⟩:=List.getElem?_eq_some_iff.1 hc
  simp at hlt hcc
  subst hcc
  exact⟨_,_,rfl,hu.1 o hlt⟩
 rw[if_neg e1] at hg ⊢
 by_cases e2:g=4
 ·subst e2
  rw[if_pos rfl] at hg ⊢
  refine nH (t:=273) (e:=272) (m:=16) h2 (by kernel_rfl) (by kernel_rfl) (by kernel_rfl) (by kernel_rfl) fun o p hp=>?_
  rw[OF,List.getElem?_map,Option.map_eq_some_iff] at hp
  obtain⟨c,hc,rfl⟩:=hp
  obtain⟨hlt,hcc⟩:=List.getElem?_eq_some_iff.1 hc
  simp at hlt hcc
  subst hcc
  have:=hu.2 (o / 2) (by omega)
  by_cases ho:o % 2=0
  ·rw[if_pos ho]
   refine⟨_,_,rfl,?_⟩
   have:=this.1
   rwa [show 2*(o / 2)=o by omega] at this
  ·rw[if_neg ho]
   refine⟨_,_,rfl,?_⟩
   have:=this.2
   rwa [show 2*(o / 2)+1=o by omega] at this
 rw[if_neg e2] at hg
 exact absurd rfl hg
theorem D0 {W:World}(hS:W.ShapedOpen Tryz.prog)(h1:VarReads Tryz.prog W "unicode/utf8.first" firstData) (h2:VarReads Tryz.prog W "unicode/utf8.acceptRanges" acceptData)
  (h3:VarReads Tryz.prog W "internal/strconv.uint64pow10" (tabData .u64 pow10Tab)):∃ m,bM (OG m) W (lp W):=by
 have h0:((begin Tryz.prog (fun _ _=>0) default).world.heap[0]?).bind Obj.row? = some (#[.int .i64 0],3):=by kernel_rfl
 have hg:0<Tryz.prog.globals.size:=of_decide_eq_true (by kernel_rfl)
 obtain⟨m,hm⟩:=cell_of_shapedOpen_int (P:=Tryz.prog) (g:=0) (t:=3) (zero:=#[.int .i64 0]) hS hg h0 rfl (by kernel_rfl) (by kernel_rfl) Tryz.underlying3
 obtain⟨cs,hh,hs,_⟩:=hS.1 0 #[.int .i64 0] 3 hg h0
 have hG:=uZ h1 h2 h3
 refine⟨m,fun g o p hp=>?_,fun g hg=>?_⟩
 ·unfold OG at hp
  by_cases e0:g=0
  ·subst e0
   rw[if_pos rfl] at hp
   cases o with
   | zero=>cases hp;exact⟨World.block_lt_of_cell? W _ hm,_,hm,rfl,.int _ _⟩
   | succ o=>simp at hp
  ·rw[if_neg e0] at hp
   exact hG.1 g o p hp
 ·unfold OG at hg ⊢
  by_cases e0:g=0
  ·subst e0
   rw[if_pos rfl]
   exact⟨cs,3,_,hh,by rw[hs];rfl⟩
  ·rw[if_neg e0] at hg ⊢
   exact hG.2 g hg
end Go.Proofs.YtbaaokocnegdoaaGreatDoor

/- A part. -/
import Derived.Test.YtbaaokocnegdoaaGreatDoorEnVZ8
import Derived.Shelf.Vars
set_option linter.unusedVariables false
set_option linter.unusedSimpArgs false
set_option maxHeartbeats 16000000
set_option maxRecDepth 100000
open List renaming length_map->Vv,length_take->Vs,mem_map->Vy,mem_of_mem_take->VU,take->Wt,getElem?_map->Vu,getElem?_eq_some_iff->Vh
namespace Go.Proofs.YtbaaokocnegdoaaGreatDoor
open Go Go.Ab
attribute [local irreducible] vc
theorem J3 {L:List UInt8}{sep:UInt8}:∀ (k a:Nat) (C:List Cel) (Pl:List Nat),L.length - a<k->a<=L.length->C.length=Pl.length->(∀ c∈C,c.1.length<=L.length) ->
  (∀ o e,Ab.runN L sep a C Pl = .err o e->¬ e=0)/\∀ C' Pl',Ab.runN L sep a C Pl = .ok C' Pl'->C'.length=Pl'.length/\0<C'.length/\∀ c∈C',c.1.length<=L.length
 | 0,a,C,Pl,h,_,_,_=>absurd h (by omega)
 | k+1,a,C,Pl,hk,ha,hl,hc=>by
   rw[runN_eq ha]
   by_cases h64:C.length=64
   ·rw[if_pos h64]
    exact⟨fun o e h=>by cases h;decide,fun C' Pl' h=>by cases h⟩
   rw[if_neg h64]
   cases hx:nr L sep a with
   | err o e=>
     refine⟨fun o' e' h=>?_,fun C' Pl' h=>by cases h⟩
     simp only[mR] at h
     cases h
     unfold nr at hx
     split at hx
     ·unfold gV at hx
      cases hq:(bQ (L.drop (a+1))).map (sh [] (a+1)) with
      | none=>rw[hq] at hx;simp only[bU] at hx;cases hx;decide
      | some q=>
        rw[hq] at hx
        simp only[bU] at hx
        split at hx
        ·split at hx
         ·cases hx
         ·cases hx;decide
        ·cases hx
     ·unfold cl at hx
      split at hx
      ·cases hx;decide
      ·cases hx
   | ok c a'=>
     obtain⟨h1,h2,h3⟩:=wJ ha hx
     simp only[mR,Ns]
     have hc2:∀ d∈C++[c],d.1.length<=L.length:=fun d hd=>by
      rcases List.mem_append.1 hd with hd | hd
      ·exact hc d hd
      ·rw[List.mem_singleton.1 hd];exact h3
     by_cases he:L.length<=a'
     ·rw[if_pos he]
      exact⟨fun o e h=>(by cases h),fun C' Pl' h=>by cases h;exact⟨by simp[hl],by simp,hc2⟩⟩
     ·rw[if_neg he]
      exact J3 k (a'+1) _ _ (by omega) (by omega) (by simp[hl]) hc2
theorem uT (L:List UInt8)(n:Int):(∀ o e,eo L n = .err o e->¬ e=0)/\∀ C Pl,eo L n = .ok C Pl->C.length=Pl.length/\0<C.length/\∀ c∈C,c.1.length<=L.length:=by
 unfold eo
 by_cases h1:eh n=true
 ·rw[if_pos h1]
  by_cases h2:65536<L.length
  ·rw[if_pos h2]
   exact⟨fun o e h=>by cases h;decide,fun C Pl h=>by cases h⟩
  ·rw[if_neg h2]
   exact J3 (L.length+1) 0 [] [] (by omega) (by omega) rfl (fun c hc=>by cases hc)
 ·rw[if_neg h1]
  exact⟨fun o e h=>by cases h;decide,fun C Pl h=>by cases h⟩
section
variable {m:Int}{T:Nat}{p:PV}
theorem z8 (t:Typ)(n z:Int)(line:List UInt8)(h17:ae Tryz.prog aq 17 [t.pv,.int .i64 n] (.int .i64 z))(hz:¬ z=0):ae Tryz.prog (kv m T p) 22 [t.pv,.int .i64 n,.str line] (.tup [ny,.int .i64 0,.int .i64 z]):=by
 have h17:=xG (m:=m) (T:=T) (p:=p) h17
 obtain⟨k,a,b,c,w,e,f⟩:=t
 simp only[Vd,ny] at h17 ⊢
 refine ae.intro Q22.2 (by simp[Q22]) ?_
 simp(disch:=try exact dI) only[Q22,push_cast,seval]
 refine ab.pure h17 rfl ?_
 simp(disch:=try exact dI) only[hz,push_cast,seval]
theorem zZ (t:Typ)(n:Int)(line:List UInt8)(o:Nat)(z:Int)(h17:ae Tryz.prog aq 17 [t.pv,.int .i64 n] (.int .i64 0))(h57:ae Tryz.prog aq 57 [.str line,.int .i64 n] (.tup [.nils,.nils,.int .i64 (o:Int),.int .i64 z]))(hz:¬ z=0):ae Tryz.prog (kv m T p) 22 [t.pv,.int .i64 n,.str line] (.tup [ny,.int .i64 (o:Int),.int .i64 z]):=by
 have h17:=xG (m:=m) (T:=T) (p:=p) h17
 have h57:=xG (m:=m) (T:=T) (p:=p) h57
 obtain⟨k,a,b,c,w,e,f⟩:=t
 simp only[Vd,ny] at h17 ⊢
 refine ae.intro Q22.2 (by simp[Q22]) ?_
 simp(disch:=try exact dI) only[Q22,push_cast,seval]
 refine ab.pure h17 rfl ?_
 refine zgZ ?_
 refine ab.pure h57 rfl ?_
 simp(disch:=try exact dI) only[hz,push_cast,seval]
theorem z7 (t:Typ)(n:Int)(line:List UInt8)(C:List Cel)(Pl:List Nat)(hcp:C.length=Pl.length)(h17:ae Tryz.prog aq 17 [t.pv,.int .i64 n] (.int .i64 0))(h57:ae Tryz.prog aq 57 [.str line,.int .i64 n] (.tup [.list (C.map iZ),.list (Pl.map gj),.int .i64 0,.int .i64 0]))(hne:¬ C.length=t.fields.length) :
  ae Tryz.prog (kv m T p) 22 [t.pv,.int .i64 n,.str line] (.tup [ny,.int .i64 (if C.length<t.fields.length then (line.length:Int) else (Pl.getD t.fields.length 0:Int)),.int .i64 (if C.length<t.fields.length then 4 else 21)]):=by
 have h17:=xG (m:=m) (T:=T) (p:=p) h17
 have h57:=xG (m:=m) (T:=T) (p:=p) h57
 obtain⟨k,a,b,c,w,e,f⟩:=t
 by_cases h1:C.length<(Typ.mk k a b c w e f).fields.length
 ·rw[if_pos h1,if_pos h1]
  simp only[Typ.fields] at h1 hne
  simp only[Vd,ny] at h17 ⊢
  have h1I:(C.length:Int)<(f.length:Int):=by omega
  refine ae.intro Q22.2 (by simp[Q22]) ?_
  simp(disch:=try exact dI) only[Q22,push_cast,seval]
  refine ab.pure h17 rfl ?_
  refine zgZ ?_
  refine ab.pure h57 rfl ?_
  simp(disch:=try exact dI) only[Vv,h1I,push_cast,seval]
 ·rw[if_neg h1,if_neg h1]
  simp only[Typ.fields] at h1 hne ⊢
  simp only[Vd,ny] at h17 ⊢
  have h1I:¬ (C.length:Int)<(f.length:Int):=by omega
  have h2I:(f.length:Int)<(C.length:Int):=by omega
  have hq:Pl[f.length]? = some (Pl.getD f.length 0):=by rw[List.getD_eq_getElem?_getD,List.getElem?_eq_getElem (by omega)];rfl
  have hqp:=qF hq
  generalize Pl.getD f.length 0=q at *
  refine ae.intro Q22.2 (by simp[Q22]) ?_
  simp(disch:=try exact dI) only[Q22,push_cast,seval]
  refine ab.pure h17 rfl ?_
  refine zgZ ?_
  refine ab.pure h57 rfl ?_
  simp(disch:=try exact dI) only[Vv,h1I,h2I,hqp,push_cast,seval]
end
theorem Bk {t:Typ}{s:List UInt8}(hk:1<=t.kind/\t.kind<=7)(hl:s.length<=5000)(h:(kX t s).2=0):(kX t s).1=bm t.kind (rdQ t.kind s).1/\(rdQ t.kind s).2=true/\FitS t (kX t s).1:=by
 unfold kX at h ⊢
 rw[xP hk,if_neg (by decide)] at h ⊢
 by_cases h1:(rdQ t.kind s).2=false
 ·rw[if_pos h1] at h;cases h
 rw[if_neg h1] at h ⊢
 by_cases h2:(aO 1 t (bm t.kind (rdQ t.kind s).1) []).isEmpty=true
 ·rw[if_pos h2]
  exact⟨rfl,by simpa using h1,vO (n:=0) hk (List.isEmpty_iff.1 h2)⟩
 ·rw[if_neg h2] at h;cases h
structure DOk (t:Typ)(n:Int)(line:List UInt8)(C:List Cel):Prop where
 rep:sL t n=0
 spl:∃ Pl,eo line n = .ok C Pl
 len:t.fields.length=C.length
 txt:∀ c∈C,c.1.length<=line.length
 cel:∀ x∈t.fields.zip C,oi x.1 x.2=0
theorem xb {f:List TFd}{C:List Cel}(h:f.length=C.length):((f.zip C).map fDV).map Fld.name=f.map TFd.name:=by
 have h1:((f.zip C).map fDV).map Fld.name=((f.zip C).map Prod.fst).map TFd.name:=by
  rw[List.map_map,List.map_map];rfl
 rw[h1]
 congr 1
 exact List.map_fst_zip (by omega)
theorem uc {g:TFd}{c:Cel}(hc:CellT g)(hl:c.1.length<=5000)(h:oi g c=0):(ud g c).ok/\((ud g c=aK/\g.need=2\/ud g c=aK/\¬ g.need=1/\¬ g.need=3)\/FitS g.typ (ud g c)):=by
 unfold oi at h
 unfold ud
 by_cases hf:kh c=true
 ·rw[if_pos hf] at h ⊢
  obtain⟨h1,h2,h3⟩:=Bk hc.kd hl h
  refine⟨?_,.inr h3⟩
  rw[h1]
  exact sr (xP hc.kd) (Ch (xP hc.kd) hl h2)
 ·rw[if_neg hf] at h ⊢
  by_cases h3:g.need=3
  ·rw[if_pos h3]
   obtain⟨x,r,hx,hx1,hx2⟩:=hc.dft h3
   rw[(EN hx).2]
   exact⟨hx2,.inr hx1⟩
  ·rw[if_neg h3] at h ⊢
   by_cases h1:g.need=1
   ·rw[if_pos h1] at h;cases h
   ·refine⟨?_,.inl (.inr ⟨rfl,h1,h3⟩)⟩
    unfold aK
    rw[Ve]
    exact⟨⟨by omega,by omega⟩,⟨by omega,by omega⟩,⟨by omega,by omega⟩,by simp,by simp,by simp,by simp,by simp⟩
theorem lp {rec:Val->Val}(hr:∀ x,x.ok->(rec x).ok)(on:Bool)(v:Val)(hv:v.ok):(cE rec on v).ok:=by
 obtain⟨k,i,s,t,l,f⟩:=v
 rw[Ve] at hv
 obtain⟨h1,h2,h3,h4,h5,h7,h6,h8⟩:=hv
 show (Val.mk k i s (t.take 40) (if on=true then (l.take 6).map rec else []) (if on=true then (f.take 6).map (fg rec) else [])).ok
 rw[Ve]
 cases on with
 | false=>exact⟨h1,h2,h3,by rw[Vs];omega,by simp,by simp,by simp,by simp⟩
 | true=>
   rw[if_pos rfl,if_pos rfl]
   refine⟨h1,h2,h3,by rw[Vs];omega,by rw[Vv,Vs];omega,fun x hx=>?_,by rw[Vv,Vs];omega,fun x hx=>?_⟩
   ·obtain⟨y,hy,rfl⟩:=Vy.1 hx
    exact hr y (h7 y (VU hy))
   ·obtain⟨y,hy,rfl⟩:=Vy.1 hx
    have hy:=h8 y (VU hy)
    obtain⟨nm,w⟩:=y
    rw[U2] at hy
    show (Fld.mk (nm.take 40) (rec w)).ok
    rw[U2]
    exact⟨by rw[Vs];omega,hr w hy.2⟩
theorem gd:∀ (n:Nat) (v:Val),v.ok->(aJ n v).ok
 | 0,v,h=>lp (fun x hx=>hx) false v h
 | n+1,v,h=>lp (gd n) _ v h
theorem ll (n:Nat)(v:Val):(aJ n v).text.length<=40:=by
 obtain⟨k,i,s,t,l,f⟩:=v
 have h:(t.take 40).length<=40:=by rw[Vs];omega
 cases n<;>exact h
theorem jo:∀ (n:Nat) (v:Val),dep (n+1) (aJ (n+1) v)
 | 0,.mk k i s t l f=>by
   show dep 1 (Val.mk k i s (t.take 40) [] [])
   refine⟨by simp[Val.lst],by simp[Val.fields],?_,by simp[Val.lst],by simp[Val.fields]⟩
   show (t.take 40).length<=_
   rw[Vs];omega
 | n+1,.mk k i s t l f=>by
   show dep (n+2) (Val.mk k i s (t.take 40) ((l.take 6).map (aJ (n+1))) ((f.take 6).map (fg (aJ (n+1)))))
   refine⟨?_,?_,?_,?_,?_⟩
   ·show ((l.take 6).map (aJ (n+1))).length<=_
    rw[Vv,Vs];omega
   ·show ((f.take 6).map (fg (aJ (n+1)))).length<=_
    rw[Vv,Vs];omega
   ·show (t.take 40).length<=_
    rw[Vs];omega
   ·intro x hx
    obtain⟨y,_,rfl⟩:=Vy.1 (show x∈(l.take 6).map (aJ (n+1)) from hx)
    exact jo n y
   ·intro x hx
    obtain⟨y,_,rfl⟩:=Vy.1 (show x∈(f.take 6).map (fg (aJ (n+1))) from hx)
    obtain⟨nm,w⟩:=y
    exact⟨by show (nm.take 40).length<=_;rw[Vs];omega,jo n w⟩
theorem sH {n:Nat}{v:Val}{y:Fld}(hy:y∈(aJ (n+1) v).fields):∃ w,y.value=aJ n w:=by
 obtain⟨k,i,s,t,l,f⟩:=v
 replace hy:y∈(if decide (0<n)=true then (f.take 6).map (fg (aJ n)) else []):=hy
 by_cases h:decide (0<n)=true
 ·rw[if_pos h] at hy
  obtain⟨⟨nm,w⟩,_,rfl⟩:=Vy.1 hy
  exact⟨w,rfl⟩
 ·rw[if_neg h] at hy;cases hy
theorem OW (v:Val)(hv:v.ok):VOk (aJ 3 v):=by
 refine⟨gd 3 v hv,jo 2 v,fun y hy=>?_⟩
 have hok:=gd 3 v hv
 obtain⟨w,hw⟩:=sH hy
 refine⟨by rw[hw];have:=ll 2 w;omega,?_⟩
 generalize aJ 3 v=u at hok hy
 obtain⟨k,i,s,t,l,f⟩:=u
 rw[Ve] at hok
 have:=hok.2.2.2.2.2.2.2 y hy
 obtain⟨a,b⟩:=y
 rw[U2] at this
 exact this.2
theorem nF {rec:Typ->Typ}(hr:∀ x,x.ok->(rec x).ok)(on:Bool)(t:Typ)(ht:t.ok):(dz rec on t).ok:=by
 obtain⟨k,a,b,c,w,e,f⟩:=t
 rw[Vc] at ht
 obtain⟨h1,h2,h3,h4,h5,h6,h7,h8,h9,h10⟩:=ht
 show (Typ.mk k a b c ((w.take 6).map (Wt 40)) (if on=true then (e.take 2).map rec else []) (if on=true then (f.take 6).map (cG rec) else [])).ok
 rw[Vc]
 have hw:((w.take 6).map (Wt 40)).length*16<=140737488351232:=by rw[Vv,Vs];omega
 have hw2:∀ x∈(w.take 6).map (Wt 40),x.length<=140737488351232:=fun x hx=>by
  obtain⟨y,_,rfl⟩:=Vy.1 hx
  rw[Vs];omega
 cases on with
 | false=>exact⟨h1,h2,h3,h4,hw,hw2,by simp,by simp,by simp,by simp⟩
 | true=>
   rw[if_pos rfl,if_pos rfl]
   refine⟨h1,h2,h3,h4,hw,hw2,by rw[Vv,Vs];omega,fun x hx=>?_,by rw[Vv,Vs];omega,fun x hx=>?_⟩
   ·obtain⟨y,hy,rfl⟩:=Vy.1 hx
    exact hr y (h8 y (VU hy))
   ·obtain⟨y,hy,rfl⟩:=Vy.1 hx
    have hy:=h10 y (VU hy)
    obtain⟨a',nm,nd,ty,d⟩:=y
    rw[U6] at hy
    obtain⟨g1,g2,g3,g4,g5,g6⟩:=hy
    show (TFd.mk a' (nm.take 40) nd (rec ty) ((d.take 2).map (aJ 3))).ok
    rw[U6]
    refine⟨g1,by rw[Vs];omega,g3,hr ty g4,by rw[Vv,Vs];omega,fun x hx=>?_⟩
    obtain⟨z,hz,rfl⟩:=Vy.1 hx
    exact gd 3 z (g6 z (VU hz))
theorem p6:∀ (n:Nat) (t:Typ),t.ok->(a8 n t).ok
 | 0,t,h=>nF (fun x hx=>hx) false t h
 | n+1,t,h=>nF (p6 n) _ t h
theorem O8 (t:Typ)(ht:t.ok):TOk (a8 3 t):=by
 obtain⟨htd,hnw⟩:=lr 3 t ht
 refine⟨p6 3 t ht,htd,hnw,lq 2 t,fun g hg x hx=>?_⟩
 rw[eQ,if_pos (by decide)] at hg
 obtain⟨y,_,rfl⟩:=Vy.1 hg
 obtain⟨a',nm,nd,ty,d⟩:=y
 obtain⟨z,_,rfl⟩:=Vy.1 (show x∈(d.take 2).map (aJ 3) from hx)
 have:=ll 3 z;omega
theorem kL:∀ (n:Nat) (v:Val),dep n v->dep (n+1) v
 | 0,_,h=>h.elim
 | n+1,v,h=>⟨h.1,h.2.1,h.2.2.1,fun x hx=>kL n x (h.2.2.2.1 x hx),fun f hf=>⟨(h.2.2.2.2 f hf).1,kL n _ (h.2.2.2.2 f hf).2⟩⟩
theorem F5:aK.ok:=by
 unfold aK
 rw[Ve]
 exact⟨⟨by omega,by omega⟩,⟨by omega,by omega⟩,⟨by omega,by omega⟩,by simp,by simp,by simp,by simp,by simp⟩
theorem L9 {k:Int}{s:List UInt8}(hk:1<=k/\k<=7):(rdQ k s).1.2.2.length<=s.length:=by
 have e:k=1\/k=2\/k=3\/k=4\/k=5\/k=6\/k=7:=by omega
 rcases e with rfl | rfl | rfl | rfl | rfl | rfl | rfl
 ·rw[G6];simp
 ·rw[Cm];simp
 ·rw[Cl];simp
 ·rw[G5];exact Nat.le_refl _
 ·rw[Ck]
  cases h:zh s with
  | none=>simp
  | some b=>simpa using kG h
 ·rw[Cj];simp
 ·rw[Ci];simp
theorem ww {g:TFd}{c:Cel}(hc:CellT g)(hdt:∀ x∈g.dflt,x.text.length<=2000)(hl:c.1.length<=5000)(h:oi g c=0):dep 2 (ud g c)/\(c.1.length<=2000->(ud g c).text.length<=2000):=by
 unfold oi at h
 unfold ud
 by_cases hf:kh c=true
 ·rw[if_pos hf] at h ⊢
  obtain⟨h1,h2,h3⟩:=Bk hc.kd hl h
  have ht:=L9 (s:=c.1) hc.kd
  rw[h1]
  exact⟨kL 1 _ (kr (by omega)),fun h=>by show (rdQ g.typ.kind c.1).1.2.2.length<=2000;omega⟩
 ·rw[if_neg hf] at h ⊢
  by_cases h3:g.need=3
  ·rw[if_pos h3]
   obtain⟨x,r,hx,hx1,hx2⟩:=hc.dft h3
   have hxt:=hdt x (by rw[hx];simp)
   rw[(EN hx).2]
   exact⟨kL 1 _ (Eo hc.kd hx1 hxt),fun _=>hxt⟩
  ·rw[if_neg h3]
   exact⟨pJ 1,fun _=>by show ([]:List UInt8).length<=2000;simp⟩
theorem L6 {f:List TFd}{C:List Cel}(h6:f.length<=64)(hcell:∀ g∈f,CellT g)(hdt:∀ g∈f,∀ x∈g.dflt,x.text.length<=2000)(hl:∀ c∈C,c.1.length<=5000)(h:∀ x∈f.zip C,oi x.1 x.2=0) :
  dep 3 (oJ ((f.zip C).map fDV))/\(oJ ((f.zip C).map fDV)).ok/\((∀ c∈C,c.1.length<=2000)->VOk (oJ ((f.zip C).map fDV))):=by
 have hy:∀ y∈srt (((f.zip C).map fDV).filter dn),∃ g c,g∈f/\c∈C/\y = .mk g.name (ud g c)/\oi g c=0:=fun y hy=>by
  obtain⟨⟨g,c⟩,hx,rfl⟩:=Vy.1 (List.mem_filter.1 ((oD _).mem_iff.1 hy)).1
  obtain⟨m1,m2⟩:=List.of_mem_zip hx
  exact⟨g,c,m1,m2,rfl,h (g,c) hx⟩
 have hlen:(srt (((f.zip C).map fDV).filter dn)).length<=64:=by
  have:=List.length_filter_le dn ((f.zip C).map fDV)
  rw[gS]
  rw[Vv,List.length_zip] at this
  omega
 have hd:dep 3 (oJ ((f.zip C).map fDV)):=by
  refine⟨by simp[oJ,Val.lst],by show (srt _).length<=_;omega,by simp[oJ,Val.text],by simp[oJ,Val.lst],fun y hm=>?_⟩
  obtain⟨g,c,m1,m2,rfl,hz⟩:=hy y hm
  exact⟨(hcell g m1).nml,(ww (hcell g m1) (hdt g m1) (hl c m2) hz).1⟩
 have hok:(oJ ((f.zip C).map fDV)).ok:=by
  unfold oJ
  rw[Ve]
  refine⟨⟨by omega,by omega⟩,⟨by omega,by omega⟩,⟨by omega,by omega⟩,by simp,by simp,by simp,by omega,fun y hm=>?_⟩
  obtain⟨g,c,m1,m2,rfl,hz⟩:=hy y hm
  rw[U2]
  have:=(hcell g m1).nml
  exact⟨by omega,(uc (hcell g m1) (hl c m2) hz).1⟩
 refine⟨hd,hok,fun hs=>⟨hok,hd,fun y hm=>?_⟩⟩
 obtain⟨g,c,m1,m2,rfl,hz⟩:=hy y hm
 exact⟨(ww (hcell g m1) (hdt g m1) (hl c m2) hz).2 (hs c m2),(uc (hcell g m1) (hl c m2) hz).1⟩
theorem To {m:Int}{T:Nat}{p:PV}{t:Typ}(ht:TOk t)(n:Int)(line:List UInt8)(hcl:∀ C Pl,eo line n = .ok C Pl->∀ c∈C,c.1.length<=5000):∃ (P:PV) (V:Val) (o e:Int),
  ae Tryz.prog (kv m T p) 22 [t.pv,.int .i64 n,.str line] (.tup [P,.int .i64 o,.int .i64 e])/\dep 3 V/\(P=ny\/P=V.pv) /\
  (e=0->o=0/\P=V.pv/\∃ C,DOk t n line C/\V=oJ ((t.fields.zip C).map fDV)) /\
  (sL t n=0->∀ C Pl,eo line n = .ok C Pl->t.fields.length=C.length->(∀ x∈t.fields.zip C,oi x.1 x.2=0)->e=0):=by
 have h17:=J6 t n ht.tid ht.nar (sx ht)
 have zd:dep 3 aK:=pJ 2
 by_cases hz:sL t n=0
 case neg=>exact⟨ny,aK,0,sL t n,z8 t n _ line h17 hz,zd,.inl rfl,fun h=>absurd h hz,fun h=>absurd h hz⟩
 rw[hz] at h17
 obtain⟨hR,hsep⟩:=BZ hz ht.ok ht.nar ht.ty
 have h57:=Lx line n
 cases hs:eo line n with
 | err o e=>
   rw[hs] at h57
   simp only[resV] at h57
   have hne:=(uT line n).1 o e hs
   exact⟨ny,aK,o,e,zZ t n line o e h17 h57 hne,zd,.inl rfl,fun h=>absurd h hne,fun _ C Pl h=>by cases h⟩
 | ok C Pl=>
   rw[hs] at h57
   simp only[resV] at h57
   obtain⟨hcp,hC0,hCt⟩:=(uT line n).2 C Pl hs
   have hc5:=hcl C Pl hs
   by_cases hlen:C.length=t.fields.length
   case neg=>
    have hne:¬ (if C.length<t.fields.length then (4:Int) else 21)=0:=by split<;>decide
    exact⟨ny,aK,_,_,z7 t n line C Pl hcp h17 h57 hlen,zd,.inl rfl,fun h=>absurd h hne,fun _ C' Pl' h hh=>by cases h;exact absurd hh.symm hlen⟩
   have hfl6:=hR.len
   have h12:∀ g∈t.fields,∀ c∈C,ae Tryz.prog (pF T p) 12 [g.typ.pv,.str c.1] (.tup [(kX g.typ c.1).1.pv,.int .i64 (kX g.typ c.1).2]):=fun g hg c hc=>Bg g.typ c.1 (hc5 c hc) (hR.fld g hg).ty
   have hdf:∀ g∈t.fields,g.need=3->∃ x r,g.dflt=x::r/\bw x=false:=fun g hg h3=>by
    obtain⟨x,r,hx,hx1,_⟩:=(hR.fld g hg).dft h3
    have hkd:=(hR.fld g hg).kd
    have:=hx1.kd
    exact⟨x,r,hx,qS (by omega)⟩
   have hnd:kn ((t.fields.zip C).map fDV):=by
    unfold kn
    rw[xb hlen.symm]
    exact hR.nm
   have hok:∀ x∈t.fields.zip C,oi x.1 x.2=0->(fDV x).ok:=fun x hx h=>by
    obtain⟨g,c⟩:=x
    obtain⟨m1,m2⟩:=List.of_mem_zip hx
    unfold fDV
    rw[U2]
    have:=(hR.fld g m1).nml
    exact⟨by show g.name.length<=_;omega,(uc (hR.fld g m1) (hc5 c m2) h).1⟩
   have hall:=pw t.fields C Pl hlen.symm hcp
   obtain⟨V,hV⟩:∃ V,V=if (jf t.fields C Pl).2=0 then oJ ((t.fields.zip C).map fDV) else aK:=⟨_,rfl⟩
   have hVd:dep 3 V/\V.ok:=by
    rw[hV]
    by_cases h0:(jf t.fields C Pl).2=0
    ·rw[if_pos h0]
     obtain⟨r1,r2,_⟩:=L6 (by omega) hR.fld ht.dfl hc5 (hall h0).2
     exact⟨r1,r2⟩
    ·rw[if_neg h0];exact⟨zd,F5⟩
   have hrec:jf t.fields C Pl=(0,0)->ae Tryz.prog aq 59 [.list ((t.fields.zip C).map fDP)] V.pv:=fun h=>by
    have h0:(jf t.fields C Pl).2=0:=by rw[h]
    rw[hV,if_pos h0]
    have hz2:=(hall h0).2
    have h55:=G3 ((t.fields.zip C).map fDV) (by rw[Vv,List.length_zip];omega) (fun y hy=>by
     obtain⟨x,hx,rfl⟩:=Vy.1 hy
     exact hok x hx (hz2 x hx)) hnd
    exact h55.nz (.cons _ _ _ _ (.list _ _ (Dv _)) .nil)
   have h58:=iY _ V (Nat.lt_succ_self _) hVd.2
   have h22:ae Tryz.prog (kv m T p) 22 [t.pv,.int .i64 n,.str line] (.tup [if (jf t.fields C Pl).2=0 then V.pv else ny,.int .i64 (jf t.fields C Pl).1,.int .i64 (jf t.fields C Pl).2]):=by
    obtain⟨k,a,b,e0,w,el,f⟩:=t
    exact Aa k a b e0 w el f line n C Pl V h17 h57 hlen.symm hcp (by simp only[Typ.fields] at hfl6;omega) h12 (fun g hg h3=>by obtain⟨x,r,hx,_⟩:=hdf g hg h3;exact⟨x,r,hx⟩) hrec h58
   refine⟨_,V,_,_,h22,hVd.1,?_,fun h=>⟨?_,if_pos h,C,⟨hz,⟨Pl,hs⟩,hlen.symm,hCt,(hall h).2⟩,by rw[hV,if_pos h]⟩,fun _ C' Pl' h _ hx=>?_⟩
   ·by_cases h0:(jf t.fields C Pl).2=0
    ·rw[if_pos h0];exact .inr rfl
    ·rw[if_neg h0];exact .inl rfl
   ·rw[(hall h).1]
   ·cases h
    rw[ES _ _ _ hx]
theorem Rj {m:Int}{T:Nat}{p:PV}{t:Typ}{v:Val}(ht:TOk t){n:Int}{s:List UInt8}(hr:sL t n=0)(hm:aO 3 t v []=[]){Tx:TFd->List UInt8}(hT:∀ g∈t.fields,FTd v g (Tx g))(hs:eo s n = .ok (t.fields.map (fU Tx n.toNat.toUInt8 v)) (Mn (t.fields.map (fU Tx n.toNat.toUInt8 v)) 0)) :
  ae Tryz.prog (kv m T p) 22 [t.pv,.int .i64 n,.str s] (.tup [v.pv,.int .i64 0,.int .i64 0]):=by
 obtain⟨hR,_⟩:=BZ hr ht.ok ht.nar ht.ty
 obtain⟨b1,b2,_⟩:=ri (n:=2) (sep:=n.toNat.toUInt8) hR hm hT
 obtain⟨P,V,o,e,h22,_,_,hd,hz⟩:=To (m:=m) (T:=T) (p:=p) ht n s (fun C Pl h c hc=>by
  rw[hs] at h;cases h
  obtain⟨g,hg,rfl⟩:=Vy.1 hc
  exact kN (hT g hg))
 have he:=hz hr _ _ hs (by rw[Vv]) b1
 obtain⟨ho,hP,C,hD,hV⟩:=hd he
 obtain⟨Pl,hC⟩:=hD.spl
 rw[hs] at hC
 cases hC
 rw[b2] at hV
 rw[he,ho,hP,hV] at h22
 exact h22
theorem Pj (V:Val){P Q:PV}(hd:dep 3 V)(hP:Nz P V.pv)(hQ:Nz Q V.pv):ae Tryz.prog aq 15 [P,Q] (.bool true):=(uX 3 V hd).nz (.cons _ _ _ _ hP (.cons _ _ _ _ hQ .nil))
theorem SQ {m:Int}{T:Nat}{p:PV}(t:Typ)(ht:t.ok)(v:Val)(hv:v.ok)(n:Int):ae Tryz.prog (kv m T p) 5 [t.pv,v.pv,.int .i64 n] (.bool true):=by
 have hk:=xG (m:=m) (T:=T) (p:=p) Ik
 have h11:=xG (m:=m) (T:=T) (p:=p) (LA t ht)
 have h19:=xG (m:=m) (T:=T) (p:=p) (lm 3 (by omega) v hv)
 have hTk:=O8 t ht
 have hVk:=OW v hv
 generalize a8 3 t=t' at *
 generalize aJ 3 v=v' at *
 obtain⟨s,e,h20,h21,hz,_⟩:=I7 (m:=m) (T:=T) (p:=p) hTk hVk n
 replace h21:=xG (m:=m) (T:=T) (p:=p) h21
 have h22:e=0->ae Tryz.prog (kv m T p) 22 [t'.pv,.int .i64 n,.str s] (.tup [v'.pv,.int .i64 0,.int .i64 0]):=fun h=>by
  obtain⟨hr,hm,Tx,hTx,hs,_⟩:=hz h
  exact Rj hTk hr hm hTx hs
 have h15:=xG (m:=m) (T:=T) (p:=p) (Pj v' hVk.dep (.refl _) (.refl _))
 clear hz hTk hVk ht hv
 obtain⟨k1,a1,b1,c1,w1,e1,f1⟩:=t
 obtain⟨k2,a2,b2,c2,w2,e2,f2⟩:=t'
 obtain⟨k3,a3,b3,c3,l3,f3⟩:=v
 obtain⟨k4,a4,b4,c4,l4,f4⟩:=v'
 simp only[Vd,Vf] at h11 h19 h20 h21 h22 h15 ⊢
 refine ae.intro Q5.2 (by simp[Q5]) ?_
 simp(disch:=try exact dI) only[Q5,push_cast,seval]
 refine ak h11 rfl ?_
 refine zgZ ?_
 refine ab.pure h19 rfl ?_
 refine zgZ ?_
 refine ab.pure h20 rfl ?_
 refine zgZ ?_
 refine ab.pure h21 rfl ?_
 refine zgZ ?_
 refine ab.pure hk rfl ?_
 by_cases he:e=0
 ·simp(disch:=try exact dI) only[he,push_cast,seval]
  refine ab.pure (h22 he) rfl ?_
  refine zgZ ?_
  refine ab.pure h15 rfl ?_
  exact qsZ
 ·simp(disch:=try exact dI) only[he,push_cast,seval]
theorem tY (m:Int)(q:PV)(p0 p1 p2:PV)(h0:HasT Tryz.prog 26 p0)(h1:HasT Tryz.prog 31 p1)(h2:HasT Tryz.prog 3 p2):ae Tryz.prog (kv m 276 q) 5 [p0,p1,p2] (.bool true):=by
 obtain⟨t,rfl,ht⟩:=Iv h0
 obtain⟨v,rfl,hv⟩:=wa h1
 obtain⟨n,rfl,_⟩:=ed h2 Tryz.underlying3
 exact SQ t ht v hv n
open Go.Lib Go.Proofs
theorem u8X:U8Extra Tryz.prog Tryz.lays196_ren:=⟨by kernel_rfl,by kernel_rfl,by kernel_rfl,by kernel_rfl,by kernel_rfl,by kernel_rfl,by kernel_rfl⟩
theorem wb {W:World}(h1:VarReads Tryz.prog W "unicode/utf8.first" firstData) (h2:VarReads Tryz.prog W "unicode/utf8.acceptRanges" acceptData)
  (h3:VarReads Tryz.prog W "internal/strconv.uint64pow10" (tabData .u64 pow10Tab)):bG aq W (ml W):=by
 have hu:=utf8Tabs_of_readsT (U8Types.of196 U9) u8X h1 h2
 refine Eb fun g hg=>?_
 unfold aq at hg ⊢
 by_cases e3:g=5
 ·subst e3
  exact xC (t:=281) (e:=213) (m:=20) h3 (by kernel_rfl) (by kernel_rfl) (by kernel_rfl) (by kernel_rfl) (by kernel_rfl) (by kernel_rfl) (by kernel_rfl)
 rw[if_neg e3] at hg ⊢
 by_cases e1:g=3
 ·subst e1
  rw[if_pos rfl] at hg ⊢
  refine oC (t:=270) (e:=5) (m:=256) h1 (by kernel_rfl) (by kernel_rfl) (by kernel_rfl) (by kernel_rfl) fun o p hp=>?_
  rw[RU,Vu,Option.map_eq_some_iff] at hp
  obtain⟨c,hc,rfl⟩:=hp
  obtain⟨hlt,hcc⟩:=Vh.1 hc
  simp at hlt hcc
  subst hcc
  exact⟨_,_,rfl,hu.1 o hlt⟩
 rw[if_neg e1] at hg ⊢
 by_cases e2:g=4
 ·subst e2
  rw[if_pos rfl] at hg ⊢
  refine oC (t:=273) (e:=272) (m:=16) h2 (by kernel_rfl) (by kernel_rfl) (by kernel_rfl) (by kernel_rfl) fun o p hp=>?_
  rw[Ok,Vu,Option.map_eq_some_iff] at hp
  obtain⟨c,hc,rfl⟩:=hp
  obtain⟨hlt,hcc⟩:=Vh.1 hc
  simp at hlt hcc
  subst hcc
  have:=hu.2 (o / 2) (by omega)
  by_cases ho:o % 2=0
  ·rw[if_pos ho]
   refine⟨_,_,rfl,?_⟩
   have:=this.1
   rwa [show 2*(o / 2)=o by omega] at this
  ·rw[if_neg ho]
   refine⟨_,_,rfl,?_⟩
   have:=this.2
   rwa [show 2*(o / 2)+1=o by omega] at this
 rw[if_neg e2] at hg
 exact absurd rfl hg
theorem D9 {W:World}(hS:W.ShapedOpen Tryz.prog)(h1:VarReads Tryz.prog W "unicode/utf8.first" firstData) (h2:VarReads Tryz.prog W "unicode/utf8.acceptRanges" acceptData)
  (h3:VarReads Tryz.prog W "internal/strconv.uint64pow10" (tabData .u64 pow10Tab)):∃ m,bG (m6 m) W (ml W):=by
 have h0:((begin Tryz.prog (fun _ _=>0) default).world.heap[0]?).bind Obj.row? = some (#[.int .i64 0],3):=by kernel_rfl
 have hg:0<Tryz.prog.globals.size:=of_decide_eq_true (by kernel_rfl)
 obtain⟨m,hm⟩:=cell_of_shapedOpen_int (P:=Tryz.prog) (g:=0) (t:=3) (zero:=#[.int .i64 0]) hS hg h0 rfl (by kernel_rfl) (by kernel_rfl) Tryz.underlying3
 obtain⟨cs,hh,hs,_⟩:=hS.1 0 #[.int .i64 0] 3 hg h0
 have hG:=wb h1 h2 h3
 refine⟨m,fun g o p hp=>?_,fun g hg=>?_⟩
 ·unfold m6 at hp
  by_cases e0:g=0
  ·subst e0
   rw[if_pos rfl] at hp
   cases o with
   | zero=>cases hp;exact⟨World.block_lt_of_cell? W _ hm,_,hm,rfl,.int _ _⟩
   | succ o=>simp at hp
  ·rw[if_neg e0] at hp
   exact hG.1 g o p hp
 ·unfold m6 at hg ⊢
  by_cases e0:g=0
  ·subst e0
   rw[if_pos rfl]
   exact⟨cs,3,_,hh,by rw[hs];rfl⟩
  ·rw[if_neg e0] at hg ⊢
   exact hG.2 g hg

/- A part. -/
import Derived.Test.YtbaaokocnegdoaaGreatDoorEnVSr2
set_option linter.unusedVariables false
set_option linter.unusedSimpArgs false
set_option maxHeartbeats 16000000
set_option maxRecDepth 100000
open List renaming mem_cons->VY,length_map->Vv,getElem?_eq_getElem->Vg,mem_of_getElem?->Vk,map_cons->VG,mem_of_find?_eq_some->WL,mem_map->Vy
open Option renaming map_some->Vl
namespace Go.Proofs.YtbaaokocnegdoaaGreatDoor
open Go Go.Ab
attribute [local irreducible] vc
def ny:PV:=.agg [.int .i64 0,.int .i64 0,.int .i64 0,.str [],.nils,.nils]
theorem A0:Nz ny aK.pv:=by
 unfold ny aK
 rw[Vf]
 repeat' constructor
def QC (g:TFd):PV:=match g.dflt with
 | []=>ny
 | x::_=>x.pv
def R3 (g:TFd):Val:=match g.dflt with
 | []=>aK
 | x::_=>x
def kh (c:Cel):Bool:=c.2||!decide (c.1=[])
def Oz (g:TFd)(c:Cel):PV:=if kh c=true then (kX g.typ c.1).1.pv else if g.need=3 then QC g else ny
def ud (g:TFd)(c:Cel):Val:=if kh c=true then (kX g.typ c.1).1 else if g.need=3 then R3 g else aK
def oi (g:TFd)(c:Cel):Int:=if kh c=true then (kX g.typ c.1).2 else if g.need=3 then 0 else if g.need=1 then 19 else 0
theorem QE (g:TFd)(c:Cel):Nz (Oz g c) (ud g c).pv:=by
 unfold Oz ud
 split
 ·exact .refl _
 ·split
  ·unfold QC R3
   cases g.dflt with
   | nil=>exact A0
   | cons x r=>exact .refl _
  ·exact A0
theorem JP (v:Val):∃ (a b c:Int) (d:List UInt8) (p q:PV),v.pv = .agg [.int .i64 a,.int .i64 b,.int .i64 c,.str d,p,q]/\p.one=true/\q.one=true:=by
 obtain⟨k,n,s,t,l,f⟩:=v
 exact⟨k,n,s,t,.list (l.map Val.pv),.list (f.map Fld.pv),by rw[Vf],rfl,rfl⟩
theorem EU (g:TFd)(c:Cel):∃ (x y z:Int) (d:List UInt8) (p q:PV),Oz g c = .agg [.int .i64 x,.int .i64 y,.int .i64 z,.str d,p,q]/\p.one=true/\q.one=true:=by
 unfold Oz
 split
 ·exact JP _
 ·split
  ·unfold QC
   split
   ·exact⟨0,0,0,[],.nils,.nils,rfl,rfl,rfl⟩
   ·exact JP _
  ·exact⟨0,0,0,[],.nils,.nils,rfl,rfl,rfl⟩
def jf:List TFd->List Cel->List Nat->Int×Int
 | g::f,c::C,p::Pl=>if oi g c=0 then jf f C Pl else ((p:Int),oi g c)
 | _,_,_=>(0,0)
theorem Ny {f:List TFd}{C:List Cel}{Pl:List Nat}{i:Nat}{g:TFd}{c:Cel}{p:Nat}(hg:f[i]? = some g)(hc:C[i]? = some c)(hp:Pl[i]? = some p):jf (f.drop i) (C.drop i) (Pl.drop i)=if oi g c=0 then jf (f.drop (i+1)) (C.drop (i+1)) (Pl.drop (i+1)) else ((p:Int),oi g c):=by
 rw[bD hg,bD hc,bD hp,jf]
theorem pw:∀ (f:List TFd) (C:List Cel) (Pl:List Nat),f.length=C.length->C.length=Pl.length->(jf f C Pl).2=0->jf f C Pl=(0,0)/\∀ x∈f.zip C,oi x.1 x.2=0
 | [],_,_,_,_,_=>⟨by rw[jf];exact fun _ _ _ _ _ _ h=>(by cases h),fun x hx=>by simp at hx⟩
 | _::_,[],_,h,_,_=>by simp at h
 | _::_,_::_,[],_,h,_=>by simp at h
 | g::f,c::C,p::Pl,h1,h2,h=>by
   rw[jf] at h ⊢
   by_cases h0:oi g c=0
   ·rw[if_pos h0] at h ⊢
    obtain⟨i1,i2⟩:=pw f C Pl (by simpa using h1) (by simpa using h2) h
    refine⟨i1,fun x hx=>?_⟩
    rw[List.zip_cons_cons] at hx
    rcases VY.1 hx with rfl | hx
    ·exact h0
    ·exact i2 x hx
   ·rw[if_neg h0] at h;exact absurd h h0
theorem ES:∀ (f:List TFd) (C:List Cel) (Pl:List Nat),(∀ x∈f.zip C,oi x.1 x.2=0)->jf f C Pl=(0,0)
 | [],_,_,_=>by rw[jf];exact fun _ _ _ _ _ _ h=>by cases h
 | _::_,[],_,_=>by rw[jf];exact fun _ _ _ _ _ _ _ h=>by cases h
 | _::_,_::_,[],_=>by rw[jf];exact fun _ _ _ _ _ _ _ _ h=>by cases h
 | g::f,c::C,p::Pl,h=>by
   rw[jf,if_pos (h (g,c) (by simp))]
   exact ES f C Pl fun x hx=>h x (by rw[List.zip_cons_cons];exact List.mem_cons_of_mem _ hx)
def fDP (x:TFd×Cel):PV:=.agg (.str x.1.name::(Oz x.1 x.2).cells)
def fDV (x:TFd×Cel):Fld:=.mk x.1.name (ud x.1 x.2)
theorem Fz {P:PV}{V:Val}(h:Nz P V.pv)(hP:∃ cs,P = .agg cs):NzL P.cells V.pv.cells:=by
 obtain⟨cs,rfl⟩:=hP
 obtain⟨k,n,s,t,l,f⟩:=V
 rw[Vf] at h ⊢
 cases h with
 | refl=>exact NzL.refl _
 | agg _ _ h=>exact h
theorem S9 (x:TFd×Cel):Nz (fDP x) (fDV x).pv:=by
 have h:=Fz (QE x.1 x.2) (by obtain⟨a,b,c,d,p,q,h,_⟩:=EU x.1 x.2;exact⟨_,h⟩)
 unfold fDP fDV
 rw[U3]
 exact .agg _ _ (.cons _ _ _ _ (.refl _) h)
theorem Dv:∀ Z:List (TFd×Cel),NzL (Z.map fDP) ((Z.map fDV).map Fld.pv)
 | []=>.nil
 | x::r=>.cons _ _ _ _ (S9 x) (Dv r)
theorem EN {g:TFd}{x:Val}{r:List Val}(h:g.dflt=x::r):QC g=x.pv/\R3 g=x:=by
 unfold QC R3
 rw[h]
 exact⟨rfl,rfl⟩
theorem zr (c:Cel):(c.2=true/\kh c=true)\/(c.2=false/\¬ c.1=[]/\kh c=true)\/(c.2=false/\c.1=[]/\kh c=false):=by
 obtain⟨s,q⟩:=c
 unfold kh
 cases q with
 | true=>exact .inl ⟨rfl,rfl⟩
 | false=>
   by_cases h:s=[]
   ·exact .inr (.inr ⟨rfl,h,by simp[h]⟩)
   ·exact .inr (.inl ⟨rfl,h,by simp[h]⟩)
theorem qF {Pl:List Nat}{i p:Nat}(h:Pl[i]? = some p):(Pl.map gj)[i]? = some (.int .i64 (p:Int)):=by simp[h,gj]
theorem NI {C:List Cel}{i:Nat}{c:Cel}(h:C[i]? = some c):(C.map iZ)[i]? = some (.agg [.str c.1,.bool c.2]):=by simp[h,iZ]
theorem Aa {m:Int}{T:Nat}{p:PV}(k a b e0:Int)(wd:List (List UInt8))(el:List Typ)(f:List TFd)(line:List UInt8)(n:Int)(C:List Cel)(Pl:List Nat)(V:Val)
  (h17:ae Tryz.prog aq 17 [(Typ.mk k a b e0 wd el f).pv,.int .i64 n] (.int .i64 0))
  (h57:ae Tryz.prog aq 57 [.str line,.int .i64 n] (.tup [.list (C.map iZ),.list (Pl.map gj),.int .i64 0,.int .i64 0]))
  (hfc:f.length=C.length) (hcp:C.length=Pl.length) (hf6:f.length<=64)
  (h12:∀ g∈f,∀ c∈C,ae Tryz.prog (pF T p) 12 [g.typ.pv,.str c.1] (.tup [(kX g.typ c.1).1.pv,.int .i64 (kX g.typ c.1).2]))
  (hdf:∀ g∈f,g.need=3->∃ x r,g.dflt=x::r)
  (hrec:jf f C Pl=(0,0)->ae Tryz.prog aq 59 [.list ((f.zip C).map fDP)] V.pv) (hcl:ae Tryz.prog aq 58 [V.pv] V.pv) :
  ae Tryz.prog (kv m T p) 22 [(Typ.mk k a b e0 wd el f).pv,.int .i64 n,.str line] (.tup [if (jf f C Pl).2=0 then V.pv else ny,.int .i64 (jf f C Pl).1,.int .i64 (jf f C Pl).2]):=by
 have h17:=xG (m:=m) (T:=T) (p:=p) h17
 have h57:=xG (m:=m) (T:=T) (p:=p) h57
 have h58:=xG (m:=m) (T:=T) (p:=p) hcl
 obtain⟨R,hR⟩:∃ R,R=jf f C Pl:=⟨_,rfl⟩
 have hall:=pw f C Pl hfc hcp
 rw[<- hR] at hrec hall ⊢
 obtain⟨Z,hZ⟩:∃ Z,Z=f.zip C:=⟨_,rfl⟩
 have hZl:Z.length=f.length:=by rw[hZ,List.length_zip];omega
 have hZa:∀ (i:Nat) (g:TFd) (c:Cel),f[i]? = some g->C[i]? = some c->Z[i]? = some (g,c):=fun i g c h1 h2=>by rw[hZ,List.getElem?_zip_eq_some];exact⟨h1,h2⟩
 rw[<- hZ] at hrec
 clear hZ
 have hcI:(C.length:Int)=(f.length:Int):=by omega
 simp only[Vd] at h17 ⊢
 refine ae.intro Q22.2 (by simp[Q22]) ?_
 simp(disch:=try exact dI) only[Q22,push_cast,seval]
 refine ab.pure h17 rfl ?_
 refine zgZ ?_
 refine ab.pure h57 rfl ?_
 simp(disch:=try exact dI) only[hcI,Vv,Int.lt_irrefl,push_cast,seval]
 refine ap ([(12,0,83,7)]) (fun i:Nat=>[(12,.olist 1 7 ((Z.take i).map fDP)),(65,.pv (.int .i64 (i:Int)))]) (fun _=>[]) (fun i=>i<=f.length/\R=jf (f.drop i) (C.drop i) (Pl.drop i)) (fun i=>f.length - i) (0) ?_;intro e0 σ0 n0 h0;simp(disch:=try exact dI) only[push_cast,seval] at h0;obtain⟨rfl,rfl,rfl⟩:=h0;refine⟨?_,?_,?_⟩
 ·simp(disch:=try exact dI) only[List.take_zero,List.map_nil,push_cast,seval]
 ·exact⟨by omega,by simpa using hR⟩
 rintro i ⟨hi,hr⟩
 by_cases hlt:i<f.length
 ·have hltI:(i:Int)<(f.length:Int):=by omega
  obtain⟨g,hg⟩:∃ g,f[i]? = some g:=⟨_,Vg hlt⟩
  obtain⟨c,hc⟩:∃ c,C[i]? = some c:=⟨_,Vg (by omega)⟩
  obtain⟨q,hq⟩:∃ q,Pl[i]? = some q:=⟨_,Vg (by omega)⟩
  have hgm:=Vk hg
  have h12g:=xE (m:=m) (h12 g hgm c (Vk hc))
  have hqp:=qF hq
  have hcp':=NI hc
  have hZi:=hZa i g c hg hc
  have hsn:(Z.take (i+1)).map fDP=(Z.take i).map fDP++[fDP (g,c)]:=by rw[aD hZi,List.map_append];rfl
  have hKl:((Z.take i).map fDP).length<=64:=by rw[Vv,List.length_take];omega
  rw[Ny hg hc hq] at hr
  obtain⟨da,db,dc,dd,dp,dq,hdP,hp1,hq1⟩:=EU g c
  have hfD:fDP (g,c) = .agg [.str g.name,.int .i64 da,.int .i64 db,.int .i64 dc,.str dd,dp,dq]:=by unfold fDP;rw[hdP];rfl
  rw[hfD] at hsn
  have hdg:=hdf g hgm
  generalize (Z.take i).map fDP=K at *
  have hfull:=zr c
  unfold Oz at hdP
  unfold oi at hr
  have hdft:=fun x r=>EN (g:=g) (x:=x) (r:=r)
  obtain⟨s,qd⟩:=c
  simp only at h12g hfull hcp'
  rcases hfull with ⟨rfl,hF⟩ | ⟨rfl,hs0,hF⟩ | ⟨rfl,rfl,hF⟩
  case inl | inr.inl=>
   rw[hF,if_pos rfl] at hdP hr
   simp only at hdP hr
   rw[hdP] at h12g
   generalize (kX g.typ s).2=z at *
   clear hdP hdft hdg hF
   obtain⟨n',nm',nd',⟨k',m',M',s',w',e',f'⟩,d'⟩:=g
   simp only[TFd.typ,TFd.name,Vd] at h12g hsn
   first
   | simp(disch:=try exact dI) only[hltI,hg,Vl,U7,Vd,ag,hcp',hqp,hs0,push_cast,seval]
   | simp(disch:=try exact dI) only[hltI,hg,Vl,U7,Vd,ag,hcp',hqp,push_cast,seval]
   refine ak h12g rfl ?_
   by_cases hz:z=0
   ·rw[if_pos hz] at hr
    subst hz
    simp(disch:=try exact dI) only[hp1,hq1,hg,Vl,U7,Vd,ag,push_cast,seval]
    exact⟨i+1,aI (by simp(disch:=try exact dI) only[hsn,push_cast,seval]),⟨by omega,hr⟩,by omega⟩
   ·rw[if_neg hz] at hr
    subst hr
    rw[if_neg hz]
    simp(disch:=try exact dI) only[hz,hqp,hp1,hq1,ny,push_cast,seval]
  case inr.inr=>
   rw[hF,if_neg (show ¬ (false=true) by decide)] at hdP hr
   by_cases h3:g.need=3
   ·rw[if_pos h3] at hdP hr
    rw[if_pos rfl] at hr
    obtain⟨x,xr,hx⟩:=hdg h3
    obtain⟨hx1,_⟩:=hdft x xr hx
    rw[hx1] at hdP
    obtain⟨n',nm',nd',⟨k',m',M',s',w',e',f'⟩,d'⟩:=g
    simp only[TFd.name,TFd.need,TFd.dflt] at h3 hx hsn
    subst h3 hx
    obtain⟨vk,vn,vs,vt,vl,vf⟩:=x
    rw[Vf] at hdP
    simp only[PV.agg.injEq,List.cons.injEq,PV.int.injEq,PV.str.injEq,true_and,and_true] at hdP
    obtain⟨rfl,rfl,rfl,rfl,rfl,rfl⟩:=hdP
    simp(disch:=try exact dI) only[hltI,hg,Vl,U7,Vd,ag,hcp',az,VG,Vf,push_cast,seval]
    exact⟨i+1,aI (by simp(disch:=try exact dI) only[hsn,push_cast,seval]),⟨by omega,hr⟩,by omega⟩
   ·rw[if_neg h3] at hdP hr
    unfold ny at hdP
    simp only[PV.agg.injEq,List.cons.injEq,PV.int.injEq,PV.str.injEq,true_and,and_true] at hdP
    obtain⟨rfl,rfl,rfl,rfl,rfl,rfl⟩:=hdP
    by_cases h1:g.need=1
    ·rw[if_pos h1,if_neg (show ¬ (19:Int)=0 by decide)] at hr
     obtain⟨n',nm',nd',⟨k',m',M',s',w',e',f'⟩,d'⟩:=g
     simp only[TFd.name,TFd.need] at h1 h3
     subst hr
     rw[if_neg (show ¬ (19:Int)=0 by decide)]
     simp(disch:=try exact dI) only[hltI,hg,Vl,U7,Vd,ag,hcp',hqp,h1,h3,ny,push_cast,seval]
    ·rw[if_neg h1,if_pos rfl] at hr
     obtain⟨n',nm',nd',⟨k',m',M',s',w',e',f'⟩,d'⟩:=g
     simp only[TFd.name,TFd.need] at h1 h3 hsn
     simp(disch:=try exact dI) only[hltI,hg,Vl,U7,Vd,ag,hcp',hqp,h1,h3,push_cast,seval]
     exact⟨i+1,aI (by simp(disch:=try exact dI) only[hsn,push_cast,seval]),⟨by omega,hr⟩,by omega⟩
 ·obtain rfl:i=f.length:=by omega
  rw[List.drop_length] at hr
  have hR0:R=(0,0):=by rw[hr,jf];exact fun _ _ _ _ _ _ h=>by cases h
  have h59:=xG (m:=m) (T:=T) (p:=p) (hrec hR0)
  rw[show Z.take f.length=Z from List.take_of_length_le (by omega)]
  subst hR0
  rw[if_pos rfl]
  generalize Z.map fDP=K at *
  obtain⟨vk,vn,vs,vt,vl,vf⟩:=V
  simp only[Vf] at h58 h59 ⊢
  simp(disch:=try exact dI) only[Int.lt_irrefl,push_cast,seval]
  refine ab.pure h59 rfl ?_
  refine zgZ ?_
  refine ab.pure h58 rfl ?_
  exact qsZ
theorem Le {S:List Fld}(h:upB S=true):S.Pairwise ltF:=by
 have step:∀ j (h1:j<S.length) (h2:j+1<S.length),ltF S[j] S[j+1]:=fun j h1 h2=>by
  have hj:=jb.1 h j (by omega)
  unfold upJ at hj
  rw[Vg h1,Vg h2] at hj
  simp only[Vl,Option.getD_some] at hj
  rw[<- KC] at hj
  unfold ltF
  exact of_decide_eq_true hj
 rw[List.pairwise_iff_getElem]
 intro i j hi hj hij
 obtain⟨d,rfl⟩:∃ d,j=i+1+d:=⟨j - i - 1,by omega⟩
 clear hij
 induction d with
 | zero=>exact step i hi hj
 | succ d ih=>exact kO _ _ _ (ih (by omega)) (step (i+1+d) (by omega) hj)
theorem yw {S:List Fld}(h:S.Pairwise ltF):kn S:=by
 unfold kn
 rw[List.nodup_iff_pairwise_ne,List.pairwise_map]
 refine h.imp fun {a b} hab e=>?_
 unfold ltF at hab
 rw[e] at hab
 rw[py] at hab
 exact absurd hab (by decide)
def uk (v:Val)(g:TFd):Val:=match v.fields.find? (aN g.name) with
 | some y=>y.value
 | none=>aK
theorem En {n:Nat}{t:Typ}{v:Val}(h9:t.kind=9)(hm:aO (n+1) t v []=[]):v = .mk 9 0 0 [] [] v.fields/\v.fields.Pairwise ltF/\∀ y∈v.fields,∃ g∈t.fields,g.name=y.name:=by
 rw[ba] at hm
 by_cases a:t.kind<1\/10<t.kind\/¬ v.kind=t.kind
 ·rw[bN a] at hm;cases hm
 ·cases b:aE v with
  | false=>rw[eC a b] at hm;cases hm
  | true=>
    rw[fK a b h9,vm] at hm
    have h2:=List.flatMap_eq_nil_iff.1 (List.append_eq_nil_iff.1 hm).2
    have hk:v.kind=9:=by omega
    obtain⟨k,n,s,tx,l,f⟩:=v
    simp only[Val.kind,Val.fields] at *
    subst hk
    simp[aE] at b
    obtain⟨b1,rfl,rfl,rfl,rfl⟩:=b
    refine⟨rfl,Le b1,fun y hy=>?_⟩
    have hy2:=h2 y hy
    cases hfd:t.fields.find? (named y.name) with
    | none=>rw[gW hfd] at hy2;cases hy2
    | some z=>exact⟨z,WL hfd,by have q:=List.find?_some hfd;exact of_decide_eq_true q⟩
theorem IX {S:List Fld}(h:kn S){y:Fld}(hy:y∈S):S.find? (aN y.name)=some y:=by
 unfold kn at h
 induction S with
 | nil=>cases hy
 | cons x r ih=>
   rw[VG,List.nodup_cons] at h
   rw[List.find?_cons]
   rcases VY.1 hy with rfl | hy
   ·rw[show aN y.name y=true from decide_eq_true rfl]
   ·have hne:¬ x.name=y.name:=fun e=>h.1 (e▸List.mem_map_of_mem hy)
    rw[show aN y.name x=false from decide_eq_false hne]
    exact ih h.2 hy
theorem G4 {n:Nat}{t:Typ}{v:Val}(h9:t.kind=9)(zg:aO (n+1) t v []=[]){l:List Fld}(hl1:∀ y∈l,∃ g∈t.fields,y = .mk g.name (uk v g))(hl2:∀ g∈t.fields,Fld.mk g.name (uk v g)∈l)(hnd:kn l)(hk:∀ g∈t.fields,∀ y,v.fields.find? (aN g.name)=some y->1<=y.value.kind):oJ l=v:=by
 obtain⟨hv,hp,hn⟩:=En h9 zg
 have hvn:=yw hp
 have nd:∀ {S:List Fld},kn S->S.Nodup:=fun {S} h=>by
  unfold kn at h
  exact List.Pairwise.of_map Fld.name (fun a b hab e=>hab (by rw[e])) h
 unfold oJ
 have hs:srt (l.filter dn)=v.fields:=by
  refine Pd hp ((List.perm_ext_iff_of_nodup ((nd hnd).sublist List.filter_sublist) (nd hvn)).2 fun y=>?_)
  rw[List.mem_filter]
  constructor
  ·rintro⟨hy,hky⟩
   obtain⟨g,hg,rfl⟩:=hl1 y hy
   unfold dn at hky
   simp only[Fld.value] at hky
   unfold uk at hky ⊢
   cases hfd:v.fields.find? (aN g.name) with
   | none=>rw[hfd] at hky;exact absurd hky (by decide)
   | some y=>
     have hyn:y.name=g.name:=by have q:=List.find?_some hfd;exact of_decide_eq_true q
     have:Fld.mk g.name y.value=y:=by
      obtain⟨a,b⟩:=y
      simp only[Fld.name] at hyn
      rw[hyn];rfl
     simp only
     rw[this]
     exact WL hfd
  ·intro hy
   obtain⟨g,hg,e⟩:=hn y hy
   have hfd:=IX hvn hy
   rw[<- e] at hfd
   have h1:=hl2 g hg
   unfold uk at h1
   rw[hfd] at h1
   have:Fld.mk g.name y.value=y:=by
    obtain⟨a,b⟩:=y
    simp only[Fld.name] at e
    rw[e];rfl
   simp only at h1
   rw[this] at h1
   refine⟨h1,?_⟩
   unfold dn
   rw[qS (hk g hg y hfd)];rfl
 rw[hs]
 exact hv.symm
theorem Gn {n:Nat}{t:Typ}{v:Val}(hR:RTy t)(hm:aO (n+2) t v []=[])(hs:∀ y∈v.fields,y.value.text.length<=2000/\y.value.ok):∃ T:TFd->List UInt8,∀ g∈t.fields,FTd v g (T g):=by
 classical
 have key:∀ g∈t.fields,∃ tx,FTd v g tx:=fun g hg=>by
  have hfm:dS (aO (n+1)) v.fields [] g=[]:=by
   rw[ba] at hm
   by_cases a:t.kind<1\/10<t.kind\/¬ v.kind=t.kind
   ·rw[bN a] at hm;cases hm
   ·cases b:aE v with
    | false=>rw[eC a b] at hm;cases hm
    | true=>
      rw[fK a b hR.k9,vm] at hm
      exact List.flatMap_eq_nil_iff.1 (List.append_eq_nil_iff.1 hm).1 g hg
  cases hfd:v.fields.find? (aN g.name) with
  | none=>
    refine⟨[],.inl ⟨hfd,rfl,Decidable.byContradiction fun hn=>?_⟩⟩
    rw[cK hfd hn] at hfm;cases hfm
  | some y=>
    rw[cJ hfd] at hfm
    have hc:=hR.fld g hg
    have hfs:=vO hc.kd hfm
    obtain⟨tx,h1⟩:=O5 hc.own hc.kd hfs
    have hy:=hs y (WL hfd)
    exact⟨tx,.inr ⟨y,hfd,hfs,h1,hy.1,hy.2⟩⟩
 exact⟨fun g=>if h:∃ tx,FTd v g tx then h.choose else [],fun g hg=>by
  have h:=key g hg
  simp only[dif_pos h]
  exact h.choose_spec⟩
theorem Ji {v:Val}{g:TFd}{T:TFd->List UInt8}{sep:UInt8}(hc:CellT g)(h:FTd v g (T g)):oi g (fU T sep v g)=0/\ud g (fU T sep v g)=uk v g/\gH sep (fU T sep v g)=false:=by
 unfold oi ud fU uk
 rcases h with ⟨h1,_,h2⟩ | ⟨y,h1,_,h3,h4,_⟩
 ·rw[h1]
  simp only
  have hf:kh ([],false)=false:=rfl
  rw[hf,if_neg (by decide),if_neg (by omega),if_neg (by omega),if_neg (by decide),if_neg (by omega)]
  exact⟨rfl,rfl,rfl⟩
 ·rw[h1]
  simp only
  have hv:=O3 h3 h4 hc.kd
  have hf:kh (T g,decide (T g=[])||spc sep (T g))=true:=by
   unfold kh
   by_cases h0:T g=[]
   ·simp[h0]
   ·simp[h0]
  rw[hf,if_pos rfl,if_pos rfl,hv]
  refine⟨rfl,rfl,?_⟩
  unfold gH
  simp only
  cases spc sep (T g)<;>simp
theorem KW {f:List TFd}(F:TFd->Cel):f.zip (f.map F)=f.map fun g=>(g,F g):=by
 induction f with
 | nil=>rfl
 | cons g r ih=>simp[ih]
theorem ri {n:Nat}{t:Typ}{v:Val}{T:TFd->List UInt8}{sep:UInt8}(hR:RTy t)(hm:aO (n+1) t v []=[])(hT:∀ g∈t.fields,FTd v g (T g)) :
  (∀ x∈t.fields.zip (t.fields.map (fU T sep v)),oi x.1 x.2=0)/\oJ ((t.fields.zip (t.fields.map (fU T sep v))).map fDV)=v/\(t.fields.map (fU T sep v)).any (gH sep)=false:=by
 have hb:=fun (g:TFd) (hg:g∈t.fields)=>Ji (sep:=sep) (hR.fld g hg) (hT g hg)
 rw[KW]
 refine⟨fun x hx=>?_,?_,?_⟩
 ·obtain⟨g,hg,rfl⟩:=Vy.1 hx
  exact (hb g hg).1
 ·rw[List.map_map]
  have he:t.fields.map (fDV∘fun g=>(g,fU T sep v g))=t.fields.map fun g=>Fld.mk g.name (uk v g):=by
   refine List.map_congr_left fun g hg=>?_
   show Fld.mk g.name (ud g (fU T sep v g))=_
   rw[(hb g hg).2.1]
  rw[he]
  refine G4 hR.k9 hm (fun y hy=>?_) (fun g hg=>Vy.2 ⟨g,hg,rfl⟩) ?_ (fun g hg y hy=>?_)
  ·obtain⟨g,hg,rfl⟩:=Vy.1 hy
   exact⟨g,hg,rfl⟩
  ·unfold kn
   rw[List.map_map]
   exact hR.nm
  ·rcases hT g hg with ⟨c,_⟩ | ⟨y',c,c2,_⟩
   ·rw[c] at hy;cases hy
   ·rw[c] at hy;cases hy
    have:=(hR.fld g hg).kd
    rw[c2.kd];exact this.1
 ·rw[List.any_eq_false]
  intro c hc
  obtain⟨g,hg,rfl⟩:=Vy.1 hc
  rw[(hb g hg).2.2];decide
theorem DP {n:Nat}{t:Typ}{v:Val}{T:TFd->List UInt8}{k:Int}(hk:eh k=true)(hR:RTy t)(hm:aO (n+1) t v []=[])(hT:∀ g∈t.fields,FTd v g (T g)) :
  ∃ s,cw true k.toNat.toUInt8 (t.fields.map (fU T k.toNat.toUInt8 v))=(s,0)/\eo s k = .ok (t.fields.map (fU T k.toNat.toUInt8 v)) (Mn (t.fields.map (fU T k.toNat.toUInt8 v)) 0)/\s.length<=65536:=by
 obtain⟨_,h2⟩:=nG hk
 have hsp:=(ri (sep:=k.toNat.toUInt8) hR hm hT).2.2
 have hl:=iK k.toNat.toUInt8 (t.fields.map (fU T k.toNat.toUInt8 v)) 5000 (fun c hc=>by
  obtain⟨g,hg,rfl⟩:=Vy.1 hc
  exact kN (hT g hg))
 have hfl:=hR.len
 have hfp:=hR.pos
 have hCl:(t.fields.map (fU T k.toNat.toUInt8 v)).length=t.fields.length:=Vv ..
 generalize t.fields.map (fU T k.toNat.toUInt8 v)=C at *
 have hle:(bS k.toNat.toUInt8 C).length<=65536:=by
  have:C.length*(2*5000+3)<=6*(2*5000+3):=Nat.mul_le_mul_right _ (by omega)
  omega
 refine⟨bS k.toNat.toUInt8 C,?_,?_,hle⟩
 ·unfold cw
  rw[if_neg (by decide),if_neg (by omega),if_neg (by omega),if_neg (by rw[hsp];decide),if_neg (by omega)]
 ·unfold eo
  rw[hk,if_pos rfl,if_neg (by omega)]
  cases C with
  | nil=>simp at hCl;omega
  | cons c C=>
    have hrun:=ve h2 C c [] [] [] (by simp only[List.length_cons] at hCl;simp;omega) (fun d hd=>by
     have:=List.any_eq_false.1 hsp d hd
     simpa using this)
    simpa using hrun
theorem zN {m:Int}{T:Nat}{p:PV}(t:Typ)(v:Val)(n z:Int)(h17:ae Tryz.prog aq 17 [t.pv,.int .i64 n] (.int .i64 z))(hz:¬ z=0):ae Tryz.prog (kv m T p) 20 [t.pv,.int .i64 n,v.pv] (.tup [.str [],.int .i64 z]):=by
 have h17:=xG (m:=m) (T:=T) (p:=p) h17
 obtain⟨k,a,b,c,w,e,f⟩:=t
 obtain⟨vk,vn,vs,vt,vl,vf⟩:=v
 simp only[Vd,Vf] at h17 ⊢
 refine ae.intro Q20.2 (by simp[Q20]) ?_
 simp(disch:=try exact dI) only[Q20,push_cast,seval]
 refine ab.pure h17 rfl ?_
 simp(disch:=try exact dI) only[hz,push_cast,seval]
theorem zH (t:Typ)(v:Val)(n z:Int)(h18:ae Tryz.prog aq 18 [t.pv,.int .i64 n] (.int .i64 z))(hz:¬ z=0):ae Tryz.prog aq 21 [t.pv,.int .i64 n,v.pv] (.tup [.str [],.int .i64 z]):=by
 obtain⟨k,a,b,c,w,e,f⟩:=t
 obtain⟨vk,vn,vs,vt,vl,vf⟩:=v
 simp only[Vd,Vf] at h18 ⊢
 refine ae.intro Q21.2 (by simp[Q21]) ?_
 simp(disch:=try exact dI) only[Q21,push_cast,seval]
 refine ab.pure h18 rfl ?_
 simp(disch:=try exact dI) only[hz,push_cast,seval]
theorem zI {m:Int}{T:Nat}{p:PV}(t:Typ)(v:Val)(n:Int)(h17:ae Tryz.prog aq 17 [t.pv,.int .i64 n] (.int .i64 0))(h37:ae Tryz.prog aq 37 [t.pv,v.pv] (.bool false)):ae Tryz.prog (kv m T p) 20 [t.pv,.int .i64 n,v.pv] (.tup [.str [],.int .i64 18]):=by
 have h17:=xG (m:=m) (T:=T) (p:=p) h17
 have h37:=xG (m:=m) (T:=T) (p:=p) h37
 obtain⟨k,a,b,c,w,e,f⟩:=t
 obtain⟨vk,vn,vs,vt,vl,vf⟩:=v
 simp only[Vd,Vf] at h17 h37 ⊢
 refine ae.intro Q20.2 (by simp[Q20]) ?_
 simp(disch:=try exact dI) only[Q20,push_cast,seval]
 refine ab.pure h17 rfl ?_
 refine zgZ ?_
 refine ab.pure h37 rfl ?_
 exact qsZ
theorem zF (t:Typ)(v:Val)(n:Int)(L:List PV)(hL:¬ L.length=0)(h18:ae Tryz.prog aq 18 [t.pv,.int .i64 n] (.int .i64 0))(h24:ae Tryz.prog aq 24 [t.pv,v.pv,.str []] (.list L)):ae Tryz.prog aq 21 [t.pv,.int .i64 n,v.pv] (.tup [.str [],.int .i64 18]):=by
 have hI:(0:Int)<(L.length:Int):=by omega
 obtain⟨k,a,b,c,w,e,f⟩:=t
 obtain⟨vk,vn,vs,vt,vl,vf⟩:=v
 simp only[Vd,Vf] at h18 h24 ⊢
 refine ae.intro Q21.2 (by simp[Q21]) ?_
 simp(disch:=try exact dI) only[Q21,push_cast,seval]
 refine ab.pure h18 rfl ?_
 refine zgZ ?_
 refine ab.pure h24 rfl ?_
 simp(disch:=try exact dI) only[hI,push_cast,seval]
structure TOk (t:Typ):Prop where
 ok:t.ok
 tid:bt 4 t
 nar:aP 4 t
 ty:eK 3 t
 dfl:∀ g∈t.fields,∀ x∈g.dflt,x.text.length<=2000
structure VOk (v:Val):Prop where
 ok:v.ok
 dep:dep 3 v
 fld:∀ y∈v.fields,y.value.text.length<=2000/\y.value.ok
theorem sx {t:Typ}(h:TOk t):t.fields.length<=1000000:=by
 have:=h.nar
 obtain⟨k,a,b,c,w,e,f⟩:=t
 simp only[aP] at this
 simp only[Typ.fields];omega
theorem ML {R R':Typ->Val->List UInt8->List Mis}{t:Typ}{v:Val}{p:List UInt8}(hk:t.kind<=7):cu R t v p=cu R' t v p:=by
 unfold cu
 repeat' split
 all_goals first | rfl | (exfalso;omega)
theorem Du {t:Typ}{v:Val}(hR:RTy t):aO 3 t v []=aO 2 t v []:=by
 rw[ba,ba]
 by_cases a:t.kind<1\/10<t.kind\/¬ v.kind=t.kind
 ·rw[bN a,bN a]
 ·cases b:aE v with
  | false=>rw[eC a b,eC a b]
  | true=>
    rw[fK a b hR.k9,fK a b hR.k9,vm,vm]
    congr 1
    rw[List.flatMap_def,List.flatMap_def]
    refine congrArg List.flatten (List.map_congr_left fun g hg=>?_)
    have hk:=(hR.fld g hg).kd
    cases hfd:v.fields.find? (aN g.name) with
    | some y=>rw[cJ hfd,cJ hfd,ba,ba];exact ML hk.2
    | none=>
      by_cases hn:g.need=2
      ·rw[eE hfd hn,eE hfd hn]
      ·rw[cK hfd hn,cK hfd hn]
theorem O4 {t:Typ}(h:eK 3 t):eK 2 t:=⟨h.1,h.2.1,fun e he=>⟨(h.2.2.1 e he).1,(h.2.2.1 e he).2.1,fun _ _=>trivial,fun f hf=>⟨((h.2.2.1 e he).2.2.2 f hf).1,trivial⟩⟩,fun f hf=>⟨(h.2.2.2 f hf).1,(h.2.2.2 f hf).2.1,(h.2.2.2 f hf).2.2.1,fun _ _=>trivial,fun g hg=>⟨((h.2.2.2 f hf).2.2.2.2 g hg).1,trivial⟩⟩⟩
theorem S7 {t:Typ}{v:Val}(ht:TOk t)(hR:RTy t)(hv:VOk v):ae Tryz.prog aq 37 [t.pv,v.pv] (.bool (aO 3 t v []).isEmpty):=by
 rw[Du hR]
 exact Qn t v (jK 2 1 v hv.dep) (O4 ht.ty) hR.k9 (fun g hg=>(hR.fld g hg).kd.2) hv.ok
theorem Rp {t:Typ}{v:Val}(ht:TOk t)(hR:RTy t)(hv:VOk v):ae Tryz.prog aq 24 [t.pv,v.pv,.str []] (.list ((aO 3 t v []).map Mis.pv)):=by
 rw[Du hR]
 exact UZ t v [] (jK 2 1 v hv.dep) (O4 ht.ty) hR.k9 (fun g hg=>(hR.fld g hg).kd.2) (by have:=hR.len;omega) hv.ok (by simp)
theorem I7 {m:Int}{T:Nat}{p:PV}{t:Typ}{v:Val}(ht:TOk t)(hv:VOk v)(n:Int):∃ (s:List UInt8) (e:Int),ae Tryz.prog (kv m T p) 20 [t.pv,.int .i64 n,v.pv] (.tup [.str s,.int .i64 e])/\ae Tryz.prog aq 21 [t.pv,.int .i64 n,v.pv] (.tup [.str s,.int .i64 e]) /\
  (e=0->sL t n=0/\aO 3 t v []=[]/\∃ Tx:TFd->List UInt8,(∀ g∈t.fields,FTd v g (Tx g))/\eo s n = .ok (t.fields.map (fU Tx n.toNat.toUInt8 v)) (Mn (t.fields.map (fU Tx n.toNat.toUInt8 v)) 0)/\s.length<=65536)/\(sL t n=0->aO 3 t v []=[]->e=0):=by
 have h17:=J6 t n ht.tid ht.nar (sx ht)
 have h18:=PH t n ht.tid ht.nar (sx ht)
 by_cases hz:sL t n=0
 ·rw[hz] at h17 h18
  obtain⟨hR,hsep⟩:=BZ hz ht.ok ht.nar ht.ty
  have h37:=S7 ht hR hv
  have h24:=Rp ht hR hv
  cases hm:aO 3 t v [] with
  | nil=>
    rw[hm] at h37 h24
    rw[uU] at hsep
    obtain⟨Tx,hT⟩:=Gn (n:=1) hR hm hv.fld
    obtain⟨s,hj,hs1,hs2⟩:=DP (n:=2) hsep hR hm hT
    have h9:v.kind=9:=by
     by_cases a:t.kind<1\/10<t.kind\/¬ v.kind=t.kind
     ·rw[ba,bN a] at hm;cases hm
     ·have:=hR.k9;omega
    have hvl:v.fields.length<=1000000:=by have:=hv.dep.2.1;omega
    have e20:=zJ (m:=m) (T:=T) (p:=p) t hR v hv.ok h9 n hsep h17 h37 hvl Tx hT
    have e21:=zG t hR v hv.ok h9 n hsep h18 h24 hvl Tx hT
    rw[hj] at e20 e21
    exact⟨s,0,e20,e21,fun _=>⟨hz,rfl,Tx,hT,hs1,hs2⟩,fun _ _=>rfl⟩
  | cons x r=>
    rw[hm] at h37 h24
    exact⟨[],18,zI t v n h17 h37,zF t v n _ (by simp) h18 h24,fun h=>absurd h (by decide),fun _ h=>by cases h⟩
 ·exact⟨[],sL t n,zN t v n _ h17 hz,zH t v n _ h18 hz,fun h=>absurd h hz,fun h=>absurd h hz⟩

/- A part of the proof. -/
import Derived.Test.YtbaaokocnegdoaaGreatDoorAgVZ6
set_option linter.unusedVariables false
set_option linter.unusedSimpArgs false
set_option maxHeartbeats 16000000
set_option maxRecDepth 100000
namespace Go.Proofs.YtbaaokocnegdoaaGreatDoor
open Go Go.Ab
attribute [local irreducible] vc
def mc:PV:=.agg [.int .i64 0,.int .i64 0,.int .i64 0,.str [],.nils,.nils]
theorem AJ:Nz mc aJ.pv:=by
 unfold mc aJ
 rw[Val.pv_mk]
 repeat' constructor
def P8 (g:TFd):PV:=match g.dflt with
 | []=>mc
 | x::_=>x.pv
def RB (g:TFd):Val:=match g.dflt with
 | []=>aJ
 | x::_=>x
def jD (c:Cel):Bool:=c.2||!decide (c.1=[])
def Oh (g:TFd)(c:Cel):PV:=if jD c=true then (j9 g.typ c.1).1.pv else if g.need=3 then P8 g else mc
def mm (g:TFd)(c:Cel):Val:=if jD c=true then (j9 g.typ c.1).1 else if g.need=3 then RB g else aJ
def ni (g:TFd)(c:Cel):Int:=if jD c=true then (j9 g.typ c.1).2 else if g.need=3 then 0 else if g.need=1 then 19 else 0
theorem Qa (g:TFd)(c:Cel):Nz (Oh g c) (mm g c).pv:=by
 unfold Oh mm
 split
 ·exact .refl _
 ·split
  ·unfold P8 RB
   cases g.dflt with
   | nil=>exact AJ
   | cons x r=>exact .refl _
  ·exact AJ
theorem JI (v:Val):∃ (a b c:Int) (d:List UInt8) (p q:PV),v.pv = .agg [.int .i64 a,.int .i64 b,.int .i64 c,.str d,p,q]/\p.one=true/\q.one=true:=by
 obtain⟨k,n,s,t,l,f⟩:=v
 exact⟨k,n,s,t,.list (l.map Val.pv),.list (f.map Fld.pv),by rw[Val.pv_mk],rfl,rfl⟩
theorem Ez (g:TFd)(c:Cel):∃ (x y z:Int) (d:List UInt8) (p q:PV),Oh g c = .agg [.int .i64 x,.int .i64 y,.int .i64 z,.str d,p,q]/\p.one=true/\q.one=true:=by
 unfold Oh
 split
 ·exact JI _
 ·split
  ·unfold P8
   split
   ·exact⟨0,0,0,[],.nils,.nils,rfl,rfl,rfl⟩
   ·exact JI _
  ·exact⟨0,0,0,[],.nils,.nils,rfl,rfl,rfl⟩
def ip:List TFd->List Cel->List Nat->Int×Int
 | g::f,c::C,p::Pl=>if ni g c=0 then ip f C Pl else ((p:Int),ni g c)
 | _,_,_=>(0,0)
theorem Np {f:List TFd}{C:List Cel}{Pl:List Nat}{i:Nat}{g:TFd}{c:Cel}{p:Nat}(hg:f[i]? = some g)(hc:C[i]? = some c)(hp:Pl[i]? = some p):ip (f.drop i) (C.drop i) (Pl.drop i)=if ni g c=0 then ip (f.drop (i+1)) (C.drop (i+1)) (Pl.drop (i+1)) else ((p:Int),ni g c):=by
 rw[bO hg,bO hc,bO hp,ip]
theorem ot:∀ (f:List TFd) (C:List Cel) (Pl:List Nat),f.length=C.length->C.length=Pl.length->(ip f C Pl).2=0->ip f C Pl=(0,0)/\∀ x∈f.zip C,ni x.1 x.2=0
 | [],_,_,_,_,_=>⟨by rw[ip];exact fun _ _ _ _ _ _ h=>(by cases h),fun x hx=>by simp at hx⟩
 | _::_,[],_,h,_,_=>by simp at h
 | _::_,_::_,[],_,h,_=>by simp at h
 | g::f,c::C,p::Pl,h1,h2,h=>by
   rw[ip] at h ⊢
   by_cases h0:ni g c=0
   ·rw[if_pos h0] at h ⊢
    obtain⟨i1,i2⟩:=ot f C Pl (by simpa using h1) (by simpa using h2) h
    refine⟨i1,fun x hx=>?_⟩
    rw[List.zip_cons_cons] at hx
    rcases List.mem_cons.1 hx with rfl | hx
    ·exact h0
    ·exact i2 x hx
   ·rw[if_neg h0] at h;exact absurd h h0
theorem Ey:∀ (f:List TFd) (C:List Cel) (Pl:List Nat),(∀ x∈f.zip C,ni x.1 x.2=0)->ip f C Pl=(0,0)
 | [],_,_,_=>by rw[ip];exact fun _ _ _ _ _ _ h=>by cases h
 | _::_,[],_,_=>by rw[ip];exact fun _ _ _ _ _ _ _ h=>by cases h
 | _::_,_::_,[],_=>by rw[ip];exact fun _ _ _ _ _ _ _ _ h=>by cases h
 | g::f,c::C,p::Pl,h=>by
   rw[ip,if_pos (h (g,c) (by simp))]
   exact Ey f C Pl fun x hx=>h x (by rw[List.zip_cons_cons];exact List.mem_cons_of_mem _ hx)
def fDP (x:TFd×Cel):PV:=.agg (.str x.1.name::(Oh x.1 x.2).cells)
def fDV (x:TFd×Cel):Fld:=.mk x.1.name (mm x.1 x.2)
theorem Fe {P:PV}{V:Val}(h:Nz P V.pv)(hP:∃ cs,P = .agg cs):NzL P.cells V.pv.cells:=by
 obtain⟨cs,rfl⟩:=hP
 obtain⟨k,n,s,t,l,f⟩:=V
 rw[Val.pv_mk] at h ⊢
 cases h with
 | refl=>exact NzL.refl _
 | agg _ _ h=>exact h
theorem Sw (x:TFd×Cel):Nz (fDP x) (fDV x).pv:=by
 have h:=Fe (Qa x.1 x.2) (by obtain⟨a,b,c,d,p,q,h,_⟩:=Ez x.1 x.2;exact⟨_,h⟩)
 unfold fDP fDV
 rw[Fld.pv_mk]
 exact .agg _ _ (.cons _ _ _ _ (.refl _) h)
theorem Dc:∀ Z:List (TFd×Cel),NzL (Z.map fDP) ((Z.map fDV).map Fld.pv)
 | []=>.nil
 | x::r=>.cons _ _ _ _ (Sw x) (Dc r)
theorem Eu {g:TFd}{x:Val}{r:List Val}(h:g.dflt=x::r):P8 g=x.pv/\RB g=x:=by
 unfold P8 RB
 rw[h]
 exact⟨rfl,rfl⟩
theorem yK (c:Cel):(c.2=true/\jD c=true)\/(c.2=false/\¬ c.1=[]/\jD c=true)\/(c.2=false/\c.1=[]/\jD c=false):=by
 obtain⟨s,q⟩:=c
 unfold jD
 cases q with
 | true=>exact .inl ⟨rfl,rfl⟩
 | false=>
   by_cases h:s=[]
   ·exact .inr (.inr ⟨rfl,h,by simp[h]⟩)
   ·exact .inr (.inl ⟨rfl,h,by simp[h]⟩)
theorem pC {Pl:List Nat}{i p:Nat}(h:Pl[i]? = some p):(Pl.map oJ)[i]? = some (.int .i64 (p:Int)):=by simp[h,oJ]
theorem Nx {C:List Cel}{i:Nat}{c:Cel}(h:C[i]? = some c):(C.map g9)[i]? = some (.agg [.str c.1,.bool c.2]):=by simp[h,g9]
theorem zx {m:Int}{T:Nat}{p:PV}(k a b e0:Int)(wd:List (List UInt8))(el:List Typ)(f:List TFd)(line:List UInt8)(n:Int)(C:List Cel)(Pl:List Nat)(V:Val)
  (h17:ae Tryz.prog au 17 [(Typ.mk k a b e0 wd el f).pv,.int .i64 n] (.int .i64 0))
  (h57:ae Tryz.prog au 57 [.str line,.int .i64 n] (.tup [.list (C.map g9),.list (Pl.map oJ),.int .i64 0,.int .i64 0]))
  (hfc:f.length=C.length) (hcp:C.length=Pl.length) (hf6:f.length<=64)
  (h12:∀ g∈f,∀ c∈C,ae Tryz.prog (oF T p) 12 [g.typ.pv,.str c.1] (.tup [(j9 g.typ c.1).1.pv,.int .i64 (j9 g.typ c.1).2]))
  (hdf:∀ g∈f,g.need=3->∃ x r,g.dflt=x::r)
  (hrec:ip f C Pl=(0,0)->ae Tryz.prog au 59 [.list ((f.zip C).map fDP)] V.pv) (hcl:ae Tryz.prog au 58 [V.pv] V.pv) :
  ae Tryz.prog (jc m T p) 22 [(Typ.mk k a b e0 wd el f).pv,.int .i64 n,.str line] (.tup [if (ip f C Pl).2=0 then V.pv else mc,.int .i64 (ip f C Pl).1,.int .i64 (ip f C Pl).2]):=by
 have h17:=xG (m:=m) (T:=T) (p:=p) h17
 have h57:=xG (m:=m) (T:=T) (p:=p) h57
 have h58:=xG (m:=m) (T:=T) (p:=p) hcl
 obtain⟨R,hR⟩:∃ R,R=ip f C Pl:=⟨_,rfl⟩
 have hall:=ot f C Pl hfc hcp
 rw[<- hR] at hrec hall ⊢
 obtain⟨Z,hZ⟩:∃ Z,Z=f.zip C:=⟨_,rfl⟩
 have hZl:Z.length=f.length:=by rw[hZ,List.length_zip];omega
 have hZa:∀ (i:Nat) (g:TFd) (c:Cel),f[i]? = some g->C[i]? = some c->Z[i]? = some (g,c):=fun i g c h1 h2=>by rw[hZ,List.getElem?_zip_eq_some];exact⟨h1,h2⟩
 rw[<- hZ] at hrec
 clear hZ
 have hcI:(C.length:Int)=(f.length:Int):=by omega
 simp only[Typ.pv_mk] at h17 ⊢
 refine ae.intro Q22.2 (by simp[Q22]) ?_
 simp(disch:=try exact dI) only[Q22,push_cast,seval]
 refine ab.pure h17 rfl ?_
 refine zgZ ?_
 refine ab.pure h57 rfl ?_
 simp(disch:=try exact dI) only[hcI,List.length_map,Int.lt_irrefl,push_cast,seval]
 refine aC ([(12,0,83,7)]) (fun i:Nat=>[(12,.olist 1 7 ((Z.take i).map fDP)),(65,.pv (.int .i64 (i:Int)))]) (fun _=>[]) (fun i=>i<=f.length/\R=ip (f.drop i) (C.drop i) (Pl.drop i)) (fun i=>f.length - i) (0) ?_;intro e0 σ0 n0 h0;simp(disch:=try exact dI) only[push_cast,seval] at h0;obtain⟨rfl,rfl,rfl⟩:=h0;refine⟨?_,?_,?_⟩
 ·simp(disch:=try exact dI) only[List.take_zero,List.map_nil,push_cast,seval]
 ·exact⟨by omega,by simpa using hR⟩
 rintro i ⟨hi,hr⟩
 by_cases hlt:i<f.length
 ·have hltI:(i:Int)<(f.length:Int):=by omega
  obtain⟨g,hg⟩:∃ g,f[i]? = some g:=⟨_,List.getElem?_eq_getElem hlt⟩
  obtain⟨c,hc⟩:∃ c,C[i]? = some c:=⟨_,List.getElem?_eq_getElem (by omega)⟩
  obtain⟨q,hq⟩:∃ q,Pl[i]? = some q:=⟨_,List.getElem?_eq_getElem (by omega)⟩
  have hgm:=List.mem_of_getElem? hg
  have h12g:=xE (m:=m) (h12 g hgm c (List.mem_of_getElem? hc))
  have hqp:=pC hq
  have hcp':=Nx hc
  have hZi:=hZa i g c hg hc
  have hsn:(Z.take (i+1)).map fDP=(Z.take i).map fDP++[fDP (g,c)]:=by rw[aG hZi,List.map_append];rfl
  have hKl:((Z.take i).map fDP).length<=64:=by rw[List.length_map,List.length_take];omega
  rw[Np hg hc hq] at hr
  obtain⟨da,db,dc,dd,dp,dq,hdP,hp1,hq1⟩:=Ez g c
  have hfD:fDP (g,c) = .agg [.str g.name,.int .i64 da,.int .i64 db,.int .i64 dc,.str dd,dp,dq]:=by unfold fDP;rw[hdP];rfl
  rw[hfD] at hsn
  have hdg:=hdf g hgm
  generalize (Z.take i).map fDP=K at *
  have hfull:=yK c
  unfold Oh at hdP
  unfold ni at hr
  have hdft:=fun x r=>Eu (g:=g) (x:=x) (r:=r)
  obtain⟨s,qd⟩:=c
  simp only at h12g hfull hcp'
  rcases hfull with ⟨rfl,hF⟩ | ⟨rfl,hs0,hF⟩ | ⟨rfl,rfl,hF⟩
  case inl | inr.inl=>
   rw[hF,if_pos rfl] at hdP hr
   simp only at hdP hr
   rw[hdP] at h12g
   generalize (j9 g.typ s).2=z at *
   clear hdP hdft hdg hF
   obtain⟨n',nm',nd',⟨k',m',M',s',w',e',f'⟩,d'⟩:=g
   simp only[TFd.typ,TFd.name,Typ.pv_mk] at h12g hsn
   first
   | simp(disch:=try exact dI) only[hltI,hg,Option.map_some,TFd.pv_mk,Typ.pv_mk,ak,hcp',hqp,hs0,push_cast,seval]
   | simp(disch:=try exact dI) only[hltI,hg,Option.map_some,TFd.pv_mk,Typ.pv_mk,ak,hcp',hqp,push_cast,seval]
   refine ag h12g rfl ?_
   by_cases hz:z=0
   ·rw[if_pos hz] at hr
    subst hz
    simp(disch:=try exact dI) only[hp1,hq1,hg,Option.map_some,TFd.pv_mk,Typ.pv_mk,ak,push_cast,seval]
    exact⟨i+1,aR (by simp(disch:=try exact dI) only[hsn,push_cast,seval]),⟨by omega,hr⟩,by omega⟩
   ·rw[if_neg hz] at hr
    subst hr
    rw[if_neg hz]
    simp(disch:=try exact dI) only[hz,hqp,hp1,hq1,mc,push_cast,seval]
  case inr.inr=>
   rw[hF,if_neg (show ¬ (false=true) by decide)] at hdP hr
   by_cases h3:g.need=3
   ·rw[if_pos h3] at hdP hr
    rw[if_pos rfl] at hr
    obtain⟨x,xr,hx⟩:=hdg h3
    obtain⟨hx1,_⟩:=hdft x xr hx
    rw[hx1] at hdP
    obtain⟨n',nm',nd',⟨k',m',M',s',w',e',f'⟩,d'⟩:=g
    simp only[TFd.name,TFd.need,TFd.dflt] at h3 hx hsn
    subst h3 hx
    obtain⟨vk,vn,vs,vt,vl,vf⟩:=x
    rw[Val.pv_mk] at hdP
    simp only[PV.agg.injEq,List.cons.injEq,PV.int.injEq,PV.str.injEq,true_and,and_true] at hdP
    obtain⟨rfl,rfl,rfl,rfl,rfl,rfl⟩:=hdP
    simp(disch:=try exact dI) only[hltI,hg,Option.map_some,TFd.pv_mk,Typ.pv_mk,ak,hcp',aE,List.map_cons,Val.pv_mk,push_cast,seval]
    exact⟨i+1,aR (by simp(disch:=try exact dI) only[hsn,push_cast,seval]),⟨by omega,hr⟩,by omega⟩
   ·rw[if_neg h3] at hdP hr
    unfold mc at hdP
    simp only[PV.agg.injEq,List.cons.injEq,PV.int.injEq,PV.str.injEq,true_and,and_true] at hdP
    obtain⟨rfl,rfl,rfl,rfl,rfl,rfl⟩:=hdP
    by_cases h1:g.need=1
    ·rw[if_pos h1,if_neg (show ¬ (19:Int)=0 by decide)] at hr
     obtain⟨n',nm',nd',⟨k',m',M',s',w',e',f'⟩,d'⟩:=g
     simp only[TFd.name,TFd.need] at h1 h3
     subst hr
     rw[if_neg (show ¬ (19:Int)=0 by decide)]
     simp(disch:=try exact dI) only[hltI,hg,Option.map_some,TFd.pv_mk,Typ.pv_mk,ak,hcp',hqp,h1,h3,mc,push_cast,seval]
    ·rw[if_neg h1,if_pos rfl] at hr
     obtain⟨n',nm',nd',⟨k',m',M',s',w',e',f'⟩,d'⟩:=g
     simp only[TFd.name,TFd.need] at h1 h3 hsn
     simp(disch:=try exact dI) only[hltI,hg,Option.map_some,TFd.pv_mk,Typ.pv_mk,ak,hcp',hqp,h1,h3,push_cast,seval]
     exact⟨i+1,aR (by simp(disch:=try exact dI) only[hsn,push_cast,seval]),⟨by omega,hr⟩,by omega⟩
 ·obtain rfl:i=f.length:=by omega
  rw[List.drop_length] at hr
  have hR0:R=(0,0):=by rw[hr,ip];exact fun _ _ _ _ _ _ h=>by cases h
  have h59:=xG (m:=m) (T:=T) (p:=p) (hrec hR0)
  rw[show Z.take f.length=Z from List.take_of_length_le (by omega)]
  subst hR0
  rw[if_pos rfl]
  generalize Z.map fDP=K at *
  obtain⟨vk,vn,vs,vt,vl,vf⟩:=V
  simp only[Val.pv_mk] at h58 h59 ⊢
  simp(disch:=try exact dI) only[Int.lt_irrefl,push_cast,seval]
  refine ab.pure h59 rfl ?_
  refine zgZ ?_
  refine ab.pure h58 rfl ?_
  exact qsZ
theorem K4 {S:List Fld}(h:upB S=true):S.Pairwise ltF:=by
 have step:∀ j (h1:j<S.length) (h2:j+1<S.length),ltF S[j] S[j+1]:=fun j h1 h2=>by
  have hj:=fG.1 h j (by omega)
  unfold upJ at hj
  rw[List.getElem?_eq_getElem h1,List.getElem?_eq_getElem h2] at hj
  simp only[Option.map_some,Option.getD_some] at hj
  rw[<- EE] at hj
  unfold ltF
  exact of_decide_eq_true hj
 rw[List.pairwise_iff_getElem]
 intro i j hi hj hij
 obtain⟨d,rfl⟩:∃ d,j=i+1+d:=⟨j - i - 1,by omega⟩
 clear hij
 induction d with
 | zero=>exact step i hi hj
 | succ d ih=>exact ia _ _ _ (ih (by omega)) (step (i+1+d) (by omega) hj)
theorem xH {S:List Fld}(h:S.Pairwise ltF):fk S:=by
 unfold fk
 rw[List.nodup_iff_pairwise_ne,List.pairwise_map]
 refine h.imp fun {a b} hab e=>?_
 unfold ltF at hab
 rw[e] at hab
 rw[oy] at hab
 exact absurd hab (by decide)
def tS (v:Val)(g:TFd):Val:=match v.fields.find? (aU g.name) with
 | some y=>y.value
 | none=>aJ
theorem D6 {n:Nat}{t:Typ}{v:Val}(h9:t.kind=9)(hm:aK (n+1) t v []=[]):v = .mk 9 0 0 [] [] v.fields/\v.fields.Pairwise ltF/\∀ y∈v.fields,∃ g∈t.fields,g.name=y.name:=by
 rw[aV] at hm
 by_cases a:t.kind<1\/10<t.kind\/¬ v.kind=t.kind
 ·rw[bA a] at hm;cases hm
 ·cases b:az v with
  | false=>rw[dR a b] at hm;cases hm
  | true=>
    rw[dQ a b h9,r5] at hm
    have h2:=List.flatMap_eq_nil_iff.1 (List.append_eq_nil_iff.1 hm).2
    have hk:v.kind=9:=by omega
    obtain⟨k,n,s,tx,l,f⟩:=v
    simp only[Val.kind,Val.fields] at *
    subst hk
    simp[az] at b
    obtain⟨b1,rfl,rfl,rfl,rfl⟩:=b
    refine⟨rfl,K4 b1,fun y hy=>?_⟩
    have hy2:=h2 y hy
    cases hfd:t.fields.find? (named y.name) with
    | none=>rw[gd hfd] at hy2;cases hy2
    | some z=>exact⟨z,List.mem_of_find?_eq_some hfd,by have q:=List.find?_some hfd;exact of_decide_eq_true q⟩
theorem IL {S:List Fld}(h:fk S){y:Fld}(hy:y∈S):S.find? (aU y.name)=some y:=by
 unfold fk at h
 induction S with
 | nil=>cases hy
 | cons x r ih=>
   rw[List.map_cons,List.nodup_cons] at h
   rw[List.find?_cons]
   rcases List.mem_cons.1 hy with rfl | hy
   ·rw[show aU y.name y=true from decide_eq_true rfl]
   ·have hne:¬ x.name=y.name:=fun e=>h.1 (e▸List.mem_map_of_mem hy)
    rw[show aU y.name x=false from decide_eq_false hne]
    exact ih h.2 hy
theorem GM {n:Nat}{t:Typ}{v:Val}(h9:t.kind=9)(qt:aK (n+1) t v []=[]){l:List Fld}(hl1:∀ y∈l,∃ g∈t.fields,y = .mk g.name (tS v g))(hl2:∀ g∈t.fields,Fld.mk g.name (tS v g)∈l)(hnd:fk l)(hk:∀ g∈t.fields,∀ y,v.fields.find? (aU g.name)=some y->1<=y.value.kind):me l=v:=by
 obtain⟨hv,hp,hn⟩:=D6 h9 qt
 have hvn:=xH hp
 have nd:∀ {S:List Fld},fk S->S.Nodup:=fun {S} h=>by
  unfold fk at h
  exact List.Pairwise.of_map Fld.name (fun a b hab e=>hab (by rw[e])) h
 unfold me
 have hs:srt (l.filter bv)=v.fields:=by
  refine JQ hp ((List.perm_ext_iff_of_nodup ((nd hnd).sublist List.filter_sublist) (nd hvn)).2 fun y=>?_)
  rw[List.mem_filter]
  constructor
  ·rintro⟨hy,hky⟩
   obtain⟨g,hg,rfl⟩:=hl1 y hy
   unfold bv at hky
   simp only[Fld.value] at hky
   unfold tS at hky ⊢
   cases hfd:v.fields.find? (aU g.name) with
   | none=>rw[hfd] at hky;exact absurd hky (by decide)
   | some y=>
     have hyn:y.name=g.name:=by have q:=List.find?_some hfd;exact of_decide_eq_true q
     have:Fld.mk g.name y.value=y:=by
      obtain⟨a,b⟩:=y
      simp only[Fld.name] at hyn
      rw[hyn];rfl
     simp only
     rw[this]
     exact List.mem_of_find?_eq_some hfd
  ·intro hy
   obtain⟨g,hg,e⟩:=hn y hy
   have hfd:=IL hvn hy
   rw[<- e] at hfd
   have h1:=hl2 g hg
   unfold tS at h1
   rw[hfd] at h1
   have:Fld.mk g.name y.value=y:=by
    obtain⟨a,b⟩:=y
    simp only[Fld.name] at e
    rw[e];rfl
   simp only at h1
   rw[this] at h1
   refine⟨h1,?_⟩
   unfold bv
   rw[kR (hk g hg y hfd)];rfl
 rw[hs]
 exact hv.symm
theorem Ga {n:Nat}{t:Typ}{v:Val}(hR:RTy t)(hm:aK (n+2) t v []=[])(hs:∀ y∈v.fields,y.value.text.length<=2000/\y.value.ok):∃ T:TFd->List UInt8,∀ g∈t.fields,FTd v g (T g):=by
 classical
 have key:∀ g∈t.fields,∃ tx,FTd v g tx:=fun g hg=>by
  have hfm:dt (aK (n+1)) v.fields [] g=[]:=by
   rw[aV] at hm
   by_cases a:t.kind<1\/10<t.kind\/¬ v.kind=t.kind
   ·rw[bA a] at hm;cases hm
   ·cases b:az v with
    | false=>rw[dR a b] at hm;cases hm
    | true=>
      rw[dQ a b hR.k9,r5] at hm
      exact List.flatMap_eq_nil_iff.1 (List.append_eq_nil_iff.1 hm).1 g hg
  cases hfd:v.fields.find? (aU g.name) with
  | none=>
    refine⟨[],.inl ⟨hfd,rfl,Decidable.byContradiction fun hn=>?_⟩⟩
    rw[cl hfd hn] at hfm;cases hfm
  | some y=>
    rw[bM hfd] at hfm
    have hc:=hR.fld g hg
    have hfs:=uY hc.kd hfm
    obtain⟨tx,h1⟩:=OE hc.own hc.kd hfs
    have hy:=hs y (List.mem_of_find?_eq_some hfd)
    exact⟨tx,.inr ⟨y,hfd,hfs,h1,hy.1,hy.2⟩⟩
 exact⟨fun g=>if h:∃ tx,FTd v g tx then h.choose else [],fun g hg=>by
  have h:=key g hg
  simp only[dif_pos h]
  exact h.choose_spec⟩
theorem I5 {v:Val}{g:TFd}{T:TFd->List UInt8}{sep:UInt8}(hc:CellT g)(h:FTd v g (T g)):ni g (iq T sep v g)=0/\mm g (iq T sep v g)=tS v g/\jd sep (iq T sep v g)=false:=by
 unfold ni mm iq tS
 rcases h with ⟨h1,_,h2⟩ | ⟨y,h1,_,h3,h4,_⟩
 ·rw[h1]
  simp only
  have hf:jD ([],false)=false:=rfl
  rw[hf,if_neg (by decide),if_neg (by omega),if_neg (by omega),if_neg (by decide),if_neg (by omega)]
  exact⟨rfl,rfl,rfl⟩
 ·rw[h1]
  simp only
  have hv:=OB h3 h4 hc.kd
  have hf:jD (T g,decide (T g=[])||spc sep (T g))=true:=by
   unfold jD
   by_cases h0:T g=[]
   ·simp[h0]
   ·simp[h0]
  rw[hf,if_pos rfl,if_pos rfl,hv]
  refine⟨rfl,rfl,?_⟩
  unfold jd
  simp only
  cases spc sep (T g)<;>simp
theorem KO {f:List TFd}(F:TFd->Cel):f.zip (f.map F)=f.map fun g=>(g,F g):=by
 induction f with
 | nil=>rfl
 | cons g r ih=>simp[ih]
theorem qn {n:Nat}{t:Typ}{v:Val}{T:TFd->List UInt8}{sep:UInt8}(hR:RTy t)(hm:aK (n+1) t v []=[])(hT:∀ g∈t.fields,FTd v g (T g)) :
  (∀ x∈t.fields.zip (t.fields.map (iq T sep v)),ni x.1 x.2=0)/\me ((t.fields.zip (t.fields.map (iq T sep v))).map fDV)=v/\(t.fields.map (iq T sep v)).any (jd sep)=false:=by
 have hb:=fun (g:TFd) (hg:g∈t.fields)=>I5 (sep:=sep) (hR.fld g hg) (hT g hg)
 rw[KO]
 refine⟨fun x hx=>?_,?_,?_⟩
 ·obtain⟨g,hg,rfl⟩:=List.mem_map.1 hx
  exact (hb g hg).1
 ·rw[List.map_map]
  have he:t.fields.map (fDV∘fun g=>(g,iq T sep v g))=t.fields.map fun g=>Fld.mk g.name (tS v g):=by
   refine List.map_congr_left fun g hg=>?_
   show Fld.mk g.name (mm g (iq T sep v g))=_
   rw[(hb g hg).2.1]
  rw[he]
  refine GM hR.k9 hm (fun y hy=>?_) (fun g hg=>List.mem_map.2 ⟨g,hg,rfl⟩) ?_ (fun g hg y hy=>?_)
  ·obtain⟨g,hg,rfl⟩:=List.mem_map.1 hy
   exact⟨g,hg,rfl⟩
  ·unfold fk
   rw[List.map_map]
   exact hR.nm
  ·rcases hT g hg with ⟨c,_⟩ | ⟨y',c,c2,_⟩
   ·rw[c] at hy;cases hy
   ·rw[c] at hy;cases hy
    have:=(hR.fld g hg).kd
    rw[c2.kd];exact this.1
 ·rw[List.any_eq_false]
  intro c hc
  obtain⟨g,hg,rfl⟩:=List.mem_map.1 hc
  rw[(hb g hg).2.2];decide
theorem DA {n:Nat}{t:Typ}{v:Val}{T:TFd->List UInt8}{k:Int}(hk:jx k=true)(hR:RTy t)(hm:aK (n+1) t v []=[])(hT:∀ g∈t.fields,FTd v g (T g)) :
  ∃ s,fK true k.toNat.toUInt8 (t.fields.map (iq T k.toNat.toUInt8 v))=(s,0)/\dJ s k = .ok (t.fields.map (iq T k.toNat.toUInt8 v)) (Mc (t.fields.map (iq T k.toNat.toUInt8 v)) 0)/\s.length<=65536:=by
 obtain⟨_,h2⟩:=ut hk
 have hsp:=(qn (sep:=k.toNat.toUInt8) hR hm hT).2.2
 have hl:=lf k.toNat.toUInt8 (t.fields.map (iq T k.toNat.toUInt8 v)) 5000 (fun c hc=>by
  obtain⟨g,hg,rfl⟩:=List.mem_map.1 hc
  exact ox (hT g hg))
 have hfl:=hR.len
 have hfp:=hR.pos
 have hCl:(t.fields.map (iq T k.toNat.toUInt8 v)).length=t.fields.length:=List.length_map ..
 generalize t.fields.map (iq T k.toNat.toUInt8 v)=C at *
 have hle:(bY k.toNat.toUInt8 C).length<=65536:=by
  have:C.length*(2*5000+3)<=6*(2*5000+3):=Nat.mul_le_mul_right _ (by omega)
  omega
 refine⟨bY k.toNat.toUInt8 C,?_,?_,hle⟩
 ·unfold fK
  rw[if_neg (by decide),if_neg (by omega),if_neg (by omega),if_neg (by rw[hsp];decide),if_neg (by omega)]
 ·unfold dJ
  rw[hk,if_pos rfl,if_neg (by omega)]
  cases C with
  | nil=>simp at hCl;omega
  | cons c C=>
    have hrun:=uD h2 C c [] [] [] (by simp only[List.length_cons] at hCl;simp;omega) (fun d hd=>by
     have:=List.any_eq_false.1 hsp d hd
     simpa using this)
    simpa using hrun
theorem y9 {m:Int}{T:Nat}{p:PV}(t:Typ)(v:Val)(n z:Int)(h17:ae Tryz.prog au 17 [t.pv,.int .i64 n] (.int .i64 z))(hz:¬ z=0):ae Tryz.prog (jc m T p) 20 [t.pv,.int .i64 n,v.pv] (.tup [.str [],.int .i64 z]):=by
 have h17:=xG (m:=m) (T:=T) (p:=p) h17
 obtain⟨k,a,b,c,w,e,f⟩:=t
 obtain⟨vk,vn,vs,vt,vl,vf⟩:=v
 simp only[Typ.pv_mk,Val.pv_mk] at h17 ⊢
 refine ae.intro Q20.2 (by simp[Q20]) ?_
 simp(disch:=try exact dI) only[Q20,push_cast,seval]
 refine ab.pure h17 rfl ?_
 simp(disch:=try exact dI) only[hz,push_cast,seval]
theorem yZ {m:Int}{T:Nat}{p:PV}(t:Typ)(v:Val)(n:Int)(h17:ae Tryz.prog au 17 [t.pv,.int .i64 n] (.int .i64 0))(h37:ae Tryz.prog au 37 [t.pv,v.pv] (.bool false)):ae Tryz.prog (jc m T p) 20 [t.pv,.int .i64 n,v.pv] (.tup [.str [],.int .i64 18]):=by
 have h17:=xG (m:=m) (T:=T) (p:=p) h17
 have h37:=xG (m:=m) (T:=T) (p:=p) h37
 obtain⟨k,a,b,c,w,e,f⟩:=t
 obtain⟨vk,vn,vs,vt,vl,vf⟩:=v
 simp only[Typ.pv_mk,Val.pv_mk] at h17 h37 ⊢
 refine ae.intro Q20.2 (by simp[Q20]) ?_
 simp(disch:=try exact dI) only[Q20,push_cast,seval]
 refine ab.pure h17 rfl ?_
 refine zgZ ?_
 refine ab.pure h37 rfl ?_
 exact qsZ
structure TOk (t:Typ):Prop where
 ok:t.ok
 tid:cp 4 t
 nar:aX 4 t
 ty:eI 3 t
 dfl:∀ g∈t.fields,∀ x∈g.dflt,x.text.length<=2000
structure VOk (v:Val):Prop where
 ok:v.ok
 dep:dep 3 v
 fld:∀ y∈v.fields,y.value.text.length<=2000/\y.value.ok
theorem Bb {t:Typ}(h:TOk t):t.fields.length<=1000000:=by
 have:=h.nar
 obtain⟨k,a,b,c,w,e,f⟩:=t
 simp only[aX] at this
 simp only[Typ.fields];omega
theorem My {R R':Typ->Val->List UInt8->List Mis}{t:Typ}{v:Val}{p:List UInt8}(hk:t.kind<=7):bW R t v p=bW R' t v p:=by
 unfold bW
 repeat' split
 all_goals first | rfl | (exfalso;omega)
theorem Db {t:Typ}{v:Val}(hR:RTy t):aK 3 t v []=aK 2 t v []:=by
 rw[aV,aV]
 by_cases a:t.kind<1\/10<t.kind\/¬ v.kind=t.kind
 ·rw[bA a,bA a]
 ·cases b:az v with
  | false=>rw[dR a b,dR a b]
  | true=>
    rw[dQ a b hR.k9,dQ a b hR.k9,r5,r5]
    congr 1
    rw[List.flatMap_def,List.flatMap_def]
    refine congrArg List.flatten (List.map_congr_left fun g hg=>?_)
    have hk:=(hR.fld g hg).kd
    cases hfd:v.fields.find? (aU g.name) with
    | some y=>rw[bM hfd,bM hfd,aV,aV];exact My hk.2
    | none=>
      by_cases hn:g.need=2
      ·rw[cL hfd hn,cL hfd hn]
      ·rw[cl hfd hn,cl hfd hn]
theorem OD {t:Typ}(h:eI 3 t):eI 2 t:=⟨h.1,h.2.1,fun e he=>⟨(h.2.2.1 e he).1,(h.2.2.1 e he).2.1,fun _ _=>trivial,fun f hf=>⟨((h.2.2.1 e he).2.2.2 f hf).1,trivial⟩⟩,fun f hf=>⟨(h.2.2.2 f hf).1,(h.2.2.2 f hf).2.1,(h.2.2.2 f hf).2.2.1,fun _ _=>trivial,fun g hg=>⟨((h.2.2.2 f hf).2.2.2.2 g hg).1,trivial⟩⟩⟩
theorem Su {t:Typ}{v:Val}(ht:TOk t)(hR:RTy t)(hv:VOk v):ae Tryz.prog au 37 [t.pv,v.pv] (.bool (aK 3 t v []).isEmpty):=by
 rw[Db hR]
 exact PS t v (lK 2 1 v hv.dep) (OD ht.ty) hR.k9 (fun g hg=>(hR.fld g hg).kd.2) hv.ok
theorem QY {t:Typ}{v:Val}(ht:TOk t)(hR:RTy t)(hv:VOk v):ae Tryz.prog au 24 [t.pv,v.pv,.str []] (.list ((aK 3 t v []).map Mis.pv)):=by
 rw[Db hR]
 exact T6 t v [] (lK 2 1 v hv.dep) (OD ht.ty) hR.k9 (fun g hg=>(hR.fld g hg).kd.2) (by have:=hR.len;omega) hv.ok (by simp)
end Go.Proofs.YtbaaokocnegdoaaGreatDoor

/- A part of the proof. -/
import Derived.Test.YtbojpfpliibfbaaGreatDoorMxRX19
set_option maxRecDepth 100000
set_option linter.unusedVariables false
set_option linter.unusedSimpArgs false
namespace Go.Proofs.YtbojpfpliibfbaaGreatDoor
open Go Go.Ab
theorem fg {t:Typ}{v:Val}(h9:t.kind=9)(hf:nU t v=true):v = .mk 9 0 0 [] [] v.fields/\v.fields.Pairwise ltF/\∀ y∈v.fields,∃ g∈t.fields,g.name=y.name:=by
 have hm:bL 2 t v []=[]:=List.isEmpty_iff.1 hf
 rw[bz] at hm
 by_cases a:t.kind<1\/10<t.kind\/¬ v.kind=t.kind
 ·rw[bM a] at hm;cases hm
 ·cases b:aL v with
  | false=>rw[fc a b] at hm;cases hm
  | true=>
    rw[e8 a b h9,AN] at hm
    have h2:=List.flatMap_eq_nil_iff.1 (List.append_eq_nil_iff.1 hm).2
    have hk:v.kind=9:=by omega
    obtain⟨k,n,s,tx,l,f⟩:=v
    simp only[Val.kind,Val.fields] at *
    subst hk
    simp[aL] at b
    obtain⟨b1,rfl,rfl,rfl,rfl⟩:=b
    refine⟨rfl,J2 b1,fun y hy=>?_⟩
    have hy2:=h2 y hy
    cases hfd:t.fields.find? (named y.name) with
    | none=>rw[j7 hfd] at hy2;cases hy2
    | some z=>exact⟨z,List.mem_of_find?_eq_some hfd,by have q:=List.find?_some hfd;exact of_decide_eq_true q⟩
theorem ud {S:List Fld}(h:ey S){y:Fld}(hy:y∈S):S.find? (aF y.name)=some y:=by
 unfold ey at h
 induction S with
 | nil=>cases hy
 | cons x r ih=>
   rw[List.map_cons,List.nodup_cons] at h
   rw[List.find?_cons]
   rcases List.mem_cons.1 hy with rfl | hy
   ·rw[show aF y.name y=true from decide_eq_true rfl]
   ·have hne:¬ x.name=y.name:=fun e=>h.1 (e▸List.mem_map_of_mem hy)
    rw[show aF y.name x=false from decide_eq_false hne]
    exact ih h.2 hy
theorem FY {t:Typ}{v:Val}(h0:lM t=0)(hfl:ff t=true)(hfit:nU t v=true){l:List Fld}(hl1:∀ y∈l,∃ g∈t.fields,y = .mk g.name (x7 v g))(hl2:∀ g∈t.fields,Fld.mk g.name (x7 v g)∈l)(hnd:ey l)(hk:∀ g∈t.fields,∀ y,v.fields.find? (aF g.name)=some y->1<=y.value.kind):jW l=v:=by
 obtain⟨h9,_,_⟩:=cj hfl
 obtain⟨hv,hp,hn⟩:=fg h9 hfit
 have hvn:=cQ hp
 have nd:∀ {S:List Fld},ey S->S.Nodup:=fun {S} h=>by
  unfold ey at h
  exact List.Pairwise.of_map Fld.name (fun a b hab e=>hab (by rw[e])) h
 unfold jW
 have hs:srt (l.filter dm)=v.fields:=by
  refine N1 hp ((List.perm_ext_iff_of_nodup ((nd hnd).sublist List.filter_sublist) (nd hvn)).2 fun y=>?_)
  rw[List.mem_filter]
  constructor
  ·rintro⟨hy,hky⟩
   obtain⟨g,hg,rfl⟩:=hl1 y hy
   unfold dm at hky
   simp only[Fld.value] at hky
   unfold x7 at hky ⊢
   cases hfd:v.fields.find? (aF g.name) with
   | none=>rw[hfd] at hky;exact absurd hky (by decide)
   | some y=>
     have hyn:y.name=g.name:=by have q:=List.find?_some hfd;exact of_decide_eq_true q
     have:Fld.mk g.name y.value=y:=by
      obtain⟨a,b⟩:=y
      simp only[Fld.name] at hyn
      rw[hyn];rfl
     simp only
     rw[this]
     exact List.mem_of_find?_eq_some hfd
  ·intro hy
   obtain⟨g,hg,e⟩:=hn y hy
   have hfd:=ud hvn hy
   rw[<- e] at hfd
   have h1:=hl2 g hg
   unfold x7 at h1
   rw[hfd] at h1
   have:Fld.mk g.name y.value=y:=by
    obtain⟨a,b⟩:=y
    simp only[Fld.name] at e
    rw[e];rfl
   simp only at h1
   rw[this] at h1
   refine⟨h1,?_⟩
   unfold dm
   rw[oT (hk g hg y hfd)];rfl
 rw[hs]
 exact hv.symm
theorem kt {t:Typ}{v:Val}{T:TFd->List UInt8}{w:List Int}(ht:t.ok)(hrep:lf t w=0)(hfit:nU t v=true)(hT:∀ g∈t.fields,FTb v g (T g))(hTl:lC T t.fields w)(he:(gH T t.fields w []).2=0) :
  ∃ vn,DecOk t w (gH T t.fields w []).1 vn/\jW ((cP t.fields (gH T t.fields w []).1 vn).map gT)=v/\(gH T t.fields w []).1.length<=1000000:=by
 obtain⟨hfe,hlen,hrl⟩:=eY hrep
 obtain⟨hb,_,h64,h0,hfl⟩:=jn ht hrep
 have hco:=kX h0 ht hfl
 have hst:=go t.fields w 0 hlen.symm hrl
 obtain⟨h1,hw⟩:=dU t.fields w [] hlen.symm he
 rw[List.nil_append] at h1
 rw[h1]
 have hcl:=cf (T:=T) hlen.symm
 obtain⟨L,hL⟩:∃ L,L=br T t.fields w:=⟨_,rfl⟩
 have hat:∀ (i:Nat) (g:TFd) (n:Int),t.fields[i]? = some g->w[i]? = some n->L[i]? = some (nS g.typ.kind (T g) n):=fun i g n a b=>by rw[hL];exact dg a b
 rw[<- hL] at hcl ⊢
 have hpl:∀ (i:Nat) (g:TFd) (n:Int),t.fields[i]? = some g->w[i]? = some n->((nS g.typ.kind (T g) n).length:Int)=n/\1<=n/\n<=4096:=fun i g n a b=>by
  obtain⟨s1,s2,s3⟩:=fp (hst i g n a b)
  exact⟨mV _ _ _ (hTl i g n a b),s1,s2⟩
 have hwv:w=(L.map List.length).map fun n:Nat=>(n:Int):=by
  refine List.ext_getElem? fun i=>?_
  rw[List.getElem?_map,List.getElem?_map]
  by_cases hi:i<w.length
  ·have hwi:=List.getElem?_eq_getElem hi
   have hgi:=List.getElem?_eq_getElem (show i<t.fields.length by omega)
   have:=(hpl i _ _ hgi hwi).1
   rw[hat i _ _ hgi hwi,hwi,Option.map_some,Option.map_some,this]
  ·rw[List.getElem?_eq_none (by omega),List.getElem?_eq_none (by omega)];rfl
 have hlv:t.fields.length=(L.map List.length).length:=by rw[List.length_map,hcl]
 have hsum:L.flatten.length=(L.map List.length).sum:=List.length_flatten
 have hz:=EP t.fields L
 have hzm:∀ x∈t.fields.zip L,∃ g∈t.fields,∃ n:Int,fS g n=0/\x=(g,nS g.typ.kind (T g) n):=fun x hx=>by
  obtain⟨i,hi,rfl⟩:=List.getElem_of_mem hx
  rw[List.length_zip] at hi
  have hgi:=List.getElem?_eq_getElem (show i<t.fields.length by omega)
  have hwi:=List.getElem?_eq_getElem (show i<w.length by omega)
  have hLi:=hat i _ _ hgi hwi
  refine⟨_,List.mem_of_getElem? hgi,_,hst i _ _ hgi hwi,?_⟩
  rw[List.getElem_zip]
  have:=(List.getElem?_eq_some_iff.1 hLi).2
  rw[this]
 have hbk:=fun (g:TFd) (hg:g∈t.fields) (n:Int) (hs:fS g n=0)=>DZ (hco g hg) (hT g hg) hs (hw g hg)
 have hD:DecOk t w L.flatten (L.map List.length):=by
  refine⟨hrep,hwv,hsum,hlv,fun x hx=>?_,fun x hx=>?_⟩
  ·obtain⟨i,hi,rfl⟩:=List.getElem_of_mem hx
   rw[List.length_map] at hi
   have hgi:=List.getElem?_eq_getElem (show i<t.fields.length by omega)
   have hwi:=List.getElem?_eq_getElem (show i<w.length by omega)
   have hLi:=(List.getElem?_eq_some_iff.1 (hat i _ _ hgi hwi)).2
   have:=hpl i _ _ hgi hwi
   rw[List.getElem_map,hLi]
   omega
  ·rw[hz] at hx
   obtain⟨g,hg,n,hs,rfl⟩:=hzm x hx
   exact (hbk g hg n hs).1
 have hnat:L.flatten.length<=1000000:=by
  have hba:w.any Eh=false:=by
   unfold Id at hb
   rw[Bool.or_eq_false_iff] at hb;exact hb.2
  have hs0:=jL w fun x hx=>dW hba hx
  obtain⟨v',hw',hs',_⟩:=BY hba
  have:∀ l:List Nat,ja (l.map fun n:Nat=>(n:Int))=(l.sum:Nat):=fun l=>by
   induction l with
   | nil=>rfl
   | cons a r ih=>unfold ja at ih ⊢;rw[List.map_cons,List.sum_cons,List.sum_cons,ih];omega
  have h2:=this (L.map List.length)
  rw[<- hwv] at h2
  omega
 refine⟨_,hD,?_,hnat⟩
 obtain⟨_,hnd⟩:=mq (w:=w) ht h0 hfl hlv hnat hD.cel
 rw[hz] at hnd ⊢
 refine FY h0 hfl hfit (fun y hy=>?_) (fun g hg=>?_) hnd (fun g hg y hy=>?_)
 ·obtain⟨x,hx,rfl⟩:=List.mem_map.1 hy
  obtain⟨g,hg,n,hs,rfl⟩:=hzm x hx
  exact⟨g,hg,by unfold gT;rw[(hbk g hg n hs).2]⟩
 ·obtain⟨i,hi,rfl⟩:=List.getElem_of_mem hg
  have hgi:=List.getElem?_eq_getElem hi
  have hwi:=List.getElem?_eq_getElem (show i<w.length by omega)
  have hLi:=hat i _ _ hgi hwi
  refine List.mem_map.2 ⟨(t.fields[i],nS t.fields[i].typ.kind (T t.fields[i]) w[i]),?_,by unfold gT;rw[(hbk _ hg _ (hst i _ _ hgi hwi)).2]⟩
  refine List.mem_of_getElem? (i:=i) ?_
  rw[List.getElem?_zip_eq_some]
  exact⟨hgi,hLi⟩
 ·rcases hT g hg with ⟨a,_⟩ | ⟨y',a,b,_⟩
  ·rw[a] at hy;cases hy
  ·rw[a] at hy;cases hy
   have:=(hco g hg).kd
   rw[b.kd];exact this.1
attribute [local irreducible] vc
def aB:Bool->AV
 | true=>.ptr 0 0
 | false=>.pv .nilp
def bB (t:Bool):List UInt8->List Blk
 | []=>[.cells 76 true [aB t,.pv .nils]]
 | b::r=>[.cells 76 true [aB t,.row 1 1 0 (r.length+1)],.cells 5 false ((aw (b::r)).map .pv)]
theorem Sq (t:Bool)(l:List UInt8):bO Tryz.prog aq 1 97 [.ptr 0 0] (bB t l) (.pv (.tup [])) (bB true l):=by
 refine bO.intro QV (by simp[F97]) ?_
 cases l with
 | nil=>
   cases t with
   | true=>
     simp(disch:=try exact dI) only[F97,bB,aB,push_cast,seval]
     exact aM [] qsZ
   | false=>
     simp(disch:=try exact dI) only[F97,bB,aB,push_cast,seval]
     exact aM [] qsZ
 | cons b r=>
   cases t with
   | true=>
     simp(disch:=try exact dI) only[F97,bB,aB,push_cast,seval]
     exact aM [] qsZ
   | false=>
     simp(disch:=try exact dI) only[F97,bB,aB,push_cast,seval]
     exact aM [] qsZ
theorem NI (t:Bool)(l k:List UInt8)(hl:l.length<=100000000)(hk:k.length<=100000000):bO Tryz.prog aq 1 46 [.ptr 0 0,.pv (.str k)] (bB t l) (.pv (.tup [.int .i64 (k.length:Int),.nili])) (bB true (l++k)):=by
 have hC:=Sq t l
 refine bO.intro Q46.2 (by simp[Q46]) ?_
 cases l with
 | nil=>
   cases k with
   | nil=>
     cases t<;>(
     try simp only[bB,aB] at hC
     simp(disch:=try exact dI) only[Q46,bB,aB,push_cast,seval]
     refine ab.lentK hC [0] rfl qsZ qsZ ?_
     simp(disch:=try exact dI) only[bB,aB,push_cast,seval]
     exact aM [] qsZ)
   | cons c k=>
     simp only[List.length_cons] at hk
     cases t<;>(
     try simp only[bB,aB] at hC
     simp(disch:=try exact dI) only[Q46,bB,aB,push_cast,seval]
     refine ab.lentK hC [0] rfl qsZ qsZ ?_
     simp(disch:=try exact dI) only[bB,aB,push_cast,seval]
     exact aM [] qsZ)
 | cons b r=>
   have e2:(r++k).length+1=r.length+1+k.length:=by simp;omega
   have hA:=fun new q=>Ik (t:=5) (q:=q) (new:=new) (f:=false) (l:=b::r) (k:=k) (len:=r.length+1) rfl (by simp at hl ⊢;omega)
   cases t<;>(
   try simp only[bB,aB] at hC
   simp(disch:=try exact dI) only[Q46,bB,aB,push_cast,seval]
   refine ab.lentK hC [0,1] rfl qsZ qsZ ?_
   simp(disch:=try exact dI) only[bB,aB,hA,push_cast,seval]
   exact aM [] (by simp(disch:=try exact dI) only[e2,push_cast,seval]))
def stB:List UInt8->List Blk
 | []=>[.none]
 | _::_=>[.none,.none]
theorem Ki (t:Bool)(l:List UInt8)(hl:l.length<=100000000):bO Tryz.prog aq 1 47 [.ptr 0 0] (bB t l) (.pv (.str l)) (stB l):=by
 refine bO.intro Q47.2 (by simp[Q47]) ?_
 cases l with
 | nil=>
   cases t<;>(
   try simp only[bB,aB] at hC
   simp(disch:=try exact dI) only[Q47,bB,aB,push_cast,seval]
   exact aM [] (by simp(disch:=try exact dI) only[stB,push_cast,seval]))
 | cons b r=>
   have hA:=fun (k:Int) (q:Nat) (hk:k=((b::r).length:Int))=>E3 (t:=5) (r:=q) (f:=false) (l:=b::r) hk (by simp) (by simp at hl ⊢;omega)
   cases t<;>(
   try simp only[bB,aB] at hC
   simp(disch:=try exact dI) only[Q47,bB,aB,hA,push_cast,seval]
   exact aM [] (by simp(disch:=try exact dI) only[stB,push_cast,seval]))
end Go.Proofs.YtbojpfpliibfbaaGreatDoor

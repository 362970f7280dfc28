/- A part of the proof. -/
import Derived.Test.YtbojpfpliibfbaaGreatDoorEnRE4
set_option maxHeartbeats 16000000
set_option maxRecDepth 100000
set_option linter.unusedVariables false
set_option linter.unusedSimpArgs false
-- many steps
namespace Go.Proofs.YtbojpfpliibfbaaGreatDoor
open Go Go.Ab
attribute [local irreducible] vc
theorem LV (v:Val)(hv:v.ok)(h9:v.kind=9)(name:List UInt8):(v.fields.find? (bc name)=none/\am Tryz.prog az 25 [v.pv,.str name] (.int .i64 (-1)))\/∃ (k:Nat) (y:Fld),v.fields[k]? = some y/\v.fields.find? (bc name)=some y/\am Tryz.prog az 25 [v.pv,.str name] (.int .i64 (k:Int)):=by
 obtain⟨vk,vn,vs,vt,vl,vf⟩:=v
 simp only[Val.kind] at h9
 subst h9
 rw[Val.ok_mk] at hv
 have h:=AI vn vs vt vl vf name (by omega)
 simp only[Val.fields]
 rcases bx (p:=bc name) vf 0 with ⟨h1,h2⟩ | ⟨k,x,h1,h2,h3⟩
 ·rw[h2] at h;exact .inl ⟨h1,h⟩
 ·rw[h3,Nat.zero_add] at h;exact .inr ⟨k,x,h1,h2,h⟩
theorem v7 (t:Typ)(ht:t.ok)(w:List Int)(v:Val)(hv:v.ok)(he:nk t w=0)(hfit:wi t v=true)(T:TFd->List UInt8)(hT:∀ g∈t.fields,FTx v g (T g)):am Tryz.prog az 15 [t.pv,.list (cn w),v.pv] (.tup [.str (np T t.fields w []).1,.int .i64 (np T t.fields w []).2]):=by
 have h13:=B1 t ht w
 obtain⟨hfe,hlen,hrl⟩:=fi he
 obtain⟨h0,hfl⟩:=eG hfe
 obtain⟨l,h20,hl0⟩:=Nd h0 ht hfl v hv
 have hll:(l.map Mis.pv).length=0:=by rw[List.length_map];exact hl0.2 hfit
 have h9:=(dP hfl).1
 have hv9:=Aw h9 hfit
 have h25:=fun name=>LV v hv hv9 name
 have hst:=jn t.fields w 0 hlen.symm hrl
 have hf64:t.fields.length<=64:=by
  have ho:=lh (ln h0)
  obtain⟨k,m,M,s,wd,e,f⟩:=t
  exact rJ ho
 rw[he] at h13
 clear he hfe hrl h0 hfl hl0 hfit h9 ht
 obtain⟨k,m,M,s,wd,e,f⟩:=t
 obtain⟨vk,vn,vs,vt,vl,vf⟩:=v
 simp only[Typ.fields,Val.fields,Val.kind] at *
 subst hv9
 obtain⟨R,hR⟩:∃ R,R=np T f w []:=⟨_,rfl⟩
 rw[<- hR]
 have hwl:=a8 w
 generalize l.map Mis.pv=L at *
 simp only[Typ.pv_mk,Val.pv_mk] at h13 h20 h25 ⊢
 refine am.intro Q15.2 (by simp[Q15]) ?_
 simp(disch:=try exact dI) only[Q15,push_cast,seval]
 refine ab.pure h13 rfl ?_
 refine zgZ ?_
 refine ab.pure h20 rfl ?_
 simp(disch:=try exact dI) only[hll,Int.lt_irrefl,push_cast,seval]
 refine au ([]) (fun x:Nat×List UInt8=>[(9,.pv (.str x.2)),(10,.pv (.int .i64 (x.1:Int)))]) (fun _=>[]) (fun x=>x.1<=f.length/\R=np T (f.drop x.1) (w.drop x.1) x.2/\x.2.length<=4096*x.1) (fun x=>f.length - x.1) ((0,[])) ?_;intro e0 σ0 n0 h0;simp(disch:=try exact dI) only[push_cast,seval] at h0;obtain⟨rfl,rfl,rfl⟩:=h0;refine⟨?_,?_,?_⟩
 ·exact qsZ
 ·exact⟨by simp,by simpa using hR,by simp⟩
 rintro⟨i,acc⟩ ⟨hi,hr,hacc⟩
 simp only at hi hr hacc
 by_cases hlt:i<f.length
 ·have hltI:(i:Int)<(f.length:Int):=by omega
  obtain⟨g,hg⟩:∃ g,f[i]? = some g:=⟨_,List.getElem?_eq_getElem hlt⟩
  obtain⟨n,hn⟩:∃ n,w[i]? = some n:=⟨_,List.getElem?_eq_getElem (by omega)⟩
  have hnp:=eE hn
  obtain⟨hn1,hn2,hn3⟩:=fD (hst i g n hg hn)
  rw[oD hg hn] at hr
  have hTx:=hT g (List.mem_of_getElem? hg)
  have htl:=qZ hTx hn1 hn3
  have hcell:=Mr g.typ.kind (T g) n (by omega) (by omega)
  have hpl:=mA g.typ.kind (T g) n htl
  have hwr:=jA (T g) (by omega)
  have h25g:=h25 g.name
  unfold FTx at hTx
  simp only[Val.fields] at hTx
  generalize T g=tx at *
  generalize hkd:g.typ.kind=kd at *
  generalize yI kd tx n=C at *
  generalize hWB:wrB tx=B at *
  have hCl:C.length<=4096:=by omega
  have hsrc:(am Tryz.prog az 25 [.agg [.int .i64 9,.int .i64 vn,.int .i64 vs,.str vt,.list (vl.map Val.pv),.list (vf.map Fld.pv)],.str g.name] (.int .i64 (-1))/\tx=[])\/∃ (kk:Nat) (y:Fld),vf[kk]? = some y/\am Tryz.prog az 25 [.agg [.int .i64 9,.int .i64 vn,.int .i64 vs,.str vt,.list (vl.map Val.pv),.list (vf.map Fld.pv)],.str g.name] (.int .i64 (kk:Int))/\am Tryz.prog az 48 [g.typ.pv,y.value.pv] (.str tx):=by
   rcases hTx with ⟨q1,q2⟩ | ⟨y,q1,q2,_⟩
   ·rcases h25g with ⟨_,p2⟩ | ⟨kk,y,p1,p2,p3⟩
    ·exact .inl ⟨p2,q2⟩
    ·rw[q1] at p2;cases p2
   ·rcases h25g with ⟨p1,_⟩ | ⟨kk,y',p1,p2,p3⟩
    ·rw[q1] at p1;cases p1
    ·rw[q1] at p2;cases p2
     exact .inr ⟨kk,y,p1,p3,q2.2.1⟩
  clear hTx h25g h25 hst hT
  obtain⟨n',nm',nd',⟨k',m',M',s',w',e',f'⟩,d'⟩:=g
  simp only[TFd.name,TFd.typ,Typ.kind] at hsrc hkd
  subst kd
  by_cases c1:k'=4/\B=false
  ·obtain⟨rfl,rfl⟩:=c1
   rw[if_pos ⟨rfl,rfl⟩] at hr
   subst hr
   rcases hsrc with ⟨h1,rfl⟩ | ⟨kk,⟨yn,⟨yk,yi,ys,yt,yl,yf⟩⟩,h1,h2,h3⟩
   ·simp(disch:=try exact dI) only[hg,Option.map_some,TFd.pv_mk,Typ.pv_mk,ag,push_cast,seval]
    refine ab.pure h1 rfl ?_
    refine zgZ ?_
    refine ab.pure hwr rfl ?_
    exact qsZ
   ·have hkk:(kk:Int)<(vf.length:Int):=by have:=(List.getElem?_eq_some_iff.1 h1).1;omega
    simp only[Fld.value,Typ.pv_mk,Val.pv_mk] at h3
    simp(disch:=try exact dI) only[hg,Option.map_some,TFd.pv_mk,Typ.pv_mk,ag,push_cast,seval]
    refine ab.pure h2 rfl ?_
    simp(disch:=try exact dI) only[h1,hkk,Fld.pv_mk,Val.pv_mk,Option.map_some,ag,push_cast,seval]
    refine ab.pure h3 rfl ?_
    refine zgZ ?_
    refine ab.pure hwr rfl ?_
    exact qsZ
  rw[if_neg c1] at hr
  have hacc2:(acc++C).length<=4096*(i+1):=by rw[List.length_append];omega
  rcases hsrc with ⟨h1,rfl⟩ | ⟨kk,⟨yn,⟨yk,yi,ys,yt,yl,yf⟩⟩,h1,h2,h3⟩
  ·simp(disch:=try exact dI) only[hg,Option.map_some,TFd.pv_mk,Typ.pv_mk,ag,push_cast,seval]
   refine ab.pure h1 rfl ?_
   by_cases c4:k'=4
   ·subst c4
    obtain rfl:B=true:=by cases B with
     | true=>rfl
     | false=>exact absurd ⟨rfl,rfl⟩ c1
    refine zgZ ?_
    refine ab.pure hwr rfl ?_
    simp(disch:=try exact dI) only[hnp,push_cast,seval]
    refine ap hcell rfl ?_
    refine zgZ ?_
    exact⟨(i+1,acc++C),aM qsZ,⟨by simp only;omega,hr,hacc2⟩,by simp only;omega⟩
   ·simp(disch:=try exact dI) only[c4,hnp,push_cast,seval]
    refine ap hcell rfl ?_
    refine zgZ ?_
    exact⟨(i+1,acc++C),aM qsZ,⟨by simp only;omega,hr,hacc2⟩,by simp only;omega⟩
  ·have hkk:(kk:Int)<(vf.length:Int):=by have:=(List.getElem?_eq_some_iff.1 h1).1;omega
   simp only[Fld.value,Typ.pv_mk,Val.pv_mk] at h3
   simp(disch:=try exact dI) only[hg,Option.map_some,TFd.pv_mk,Typ.pv_mk,ag,push_cast,seval]
   refine ab.pure h2 rfl ?_
   by_cases c4:k'=4
   ·subst c4
    obtain rfl:B=true:=by cases B with
     | true=>rfl
     | false=>exact absurd ⟨rfl,rfl⟩ c1
    simp(disch:=try exact dI) only[h1,hkk,Fld.pv_mk,Val.pv_mk,Option.map_some,ag,push_cast,seval]
    refine ab.pure h3 rfl ?_
    refine zgZ ?_
    refine ab.pure hwr rfl ?_
    simp(disch:=try exact dI) only[hnp,push_cast,seval]
    refine ap hcell rfl ?_
    refine zgZ ?_
    exact⟨(i+1,acc++C),aM qsZ,⟨by simp only;omega,hr,hacc2⟩,by simp only;omega⟩
   ·simp(disch:=try exact dI) only[h1,hkk,Fld.pv_mk,Val.pv_mk,Option.map_some,ag,push_cast,seval]
    refine ab.pure h3 rfl ?_
    simp(disch:=try exact dI) only[c4,hnp,push_cast,seval]
    refine ap hcell rfl ?_
    refine zgZ ?_
    exact⟨(i+1,acc++C),aM qsZ,⟨by simp only;omega,hr,hacc2⟩,by simp only;omega⟩
 ·obtain rfl:i=f.length:=by omega
  rw[List.drop_length,np] at hr
  subst hr
  simp(disch:=try exact dI) only[Int.lt_irrefl,push_cast,seval]
def aB:Bool->AV
 | true=>.ptr 0 0
 | false=>.pv .nilp
def bB (t:Bool):List UInt8->List Blk
 | []=>[.cells 76 true [aB t,.pv .nils]]
 | b::r=>[.cells 76 true [aB t,.row 1 1 0 (r.length+1)],.cells 5 false ((aI (b::r)).map .pv)]
theorem ON (t:Bool)(l:List UInt8):bn Tryz.prog az 1 97 [.ptr 0 0] (bB t l) (.pv (.tup [])) (bB true l):=by
 refine bn.intro Nc (by simp[F97]) ?_
 cases l with
 | nil=>
   cases t with
   | true=>
     simp(disch:=try exact dI) only[F97,bB,aB,push_cast,seval]
     exact aL [] qsZ
   | false=>
     simp(disch:=try exact dI) only[F97,bB,aB,push_cast,seval]
     exact aL [] qsZ
 | cons b r=>
   cases t with
   | true=>
     simp(disch:=try exact dI) only[F97,bB,aB,push_cast,seval]
     exact aL [] qsZ
   | false=>
     simp(disch:=try exact dI) only[F97,bB,aB,push_cast,seval]
     exact aL [] qsZ
theorem KE (t:Bool)(l k:List UInt8)(hl:l.length<=100000000)(hk:k.length<=100000000):bn Tryz.prog az 1 46 [.ptr 0 0,.pv (.str k)] (bB t l) (.pv (.tup [.int .i64 (k.length:Int),.nili])) (bB true (l++k)):=by
 have hC:=ON t l
 refine bn.intro Q46.2 (by simp[Q46]) ?_
 cases l with
 | nil=>
   cases k with
   | nil=>
     cases t<;>(
     try simp only[bB,aB] at hC
     simp(disch:=try exact dI) only[Q46,bB,aB,push_cast,seval]
     refine ab.lentK hC [0] rfl qsZ qsZ ?_
     simp(disch:=try exact dI) only[bB,aB,push_cast,seval]
     exact aL [] qsZ)
   | cons c k=>
     simp only[List.length_cons] at hk
     cases t<;>(
     try simp only[bB,aB] at hC
     simp(disch:=try exact dI) only[Q46,bB,aB,push_cast,seval]
     refine ab.lentK hC [0] rfl qsZ qsZ ?_
     simp(disch:=try exact dI) only[bB,aB,push_cast,seval]
     exact aL [] qsZ)
 | cons b r=>
   have e2:(r++k).length+1=r.length+1+k.length:=by simp;omega
   have hA:=fun new q=>Fq (t:=5) (q:=q) (new:=new) (f:=false) (l:=b::r) (k:=k) (len:=r.length+1) rfl (by simp at hl ⊢;omega)
   cases t<;>(
   try simp only[bB,aB] at hC
   simp(disch:=try exact dI) only[Q46,bB,aB,push_cast,seval]
   refine ab.lentK hC [0,1] rfl qsZ qsZ ?_
   simp(disch:=try exact dI) only[bB,aB,hA,push_cast,seval]
   exact aL [] (by simp(disch:=try exact dI) only[e2,push_cast,seval]))
def stB:List UInt8->List Blk
 | []=>[.none]
 | _::_=>[.none,.none]
theorem Hp (t:Bool)(l:List UInt8)(hl:l.length<=100000000):bn Tryz.prog az 1 47 [.ptr 0 0] (bB t l) (.pv (.str l)) (stB l):=by
 refine bn.intro Q47.2 (by simp[Q47]) ?_
 cases l with
 | nil=>
   cases t<;>(
   try simp only[bB,aB] at hC
   simp(disch:=try exact dI) only[Q47,bB,aB,push_cast,seval]
   exact aL [] (by simp(disch:=try exact dI) only[stB,push_cast,seval]))
 | cons b r=>
   have hA:=fun (k:Int) (q:Nat) (hk:k=((b::r).length:Int))=>Ci (t:=5) (r:=q) (f:=false) (l:=b::r) hk (by simp) (by simp at hl ⊢;omega)
   cases t<;>(
   try simp only[bB,aB] at hC
   simp(disch:=try exact dI) only[Q47,bB,aB,hA,push_cast,seval]
   exact aL [] (by simp(disch:=try exact dI) only[stB,push_cast,seval]))
end Go.Proofs.YtbojpfpliibfbaaGreatDoor

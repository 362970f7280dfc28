/- A part of the proof. -/
import Derived.Test.YtbaaokocnegdoaaGreatDoorAgWU2
set_option linter.unusedVariables false
set_option linter.unusedSimpArgs false
set_option maxHeartbeats 16000000
set_option maxRecDepth 100000
namespace Go.Proofs.YtbaaokocnegdoaaGreatDoor
open Go Go.Ab
attribute [local irreducible] vc
section
variable {R:Typ->Val->List UInt8->List Mis}{t:Typ}{v:Val}{p:List UInt8}
theorem bA (h:t.kind<1\/10<t.kind\/¬ v.kind=t.kind):bW R t v p=[.mk p 1]:=if_pos h
theorem dR (h:¬ (t.kind<1\/10<t.kind\/¬ v.kind=t.kind))(hf:az v=false):bW R t v p=[.mk p 8]:=by
 unfold bW;rw[if_neg h,if_pos hf]
theorem fc (h:¬ (t.kind<1\/10<t.kind\/¬ v.kind=t.kind))(hf:az v=true)(hk:t.kind=2\/t.kind=6\/t.kind=7):bW R t v p=jS t.min t.max p v.num:=by
 unfold bW;rw[if_neg h,if_neg (by rw[hf];simp),if_pos hk]
theorem kZ (h:¬ (t.kind<1\/10<t.kind\/¬ v.kind=t.kind))(hf:az v=true)(hk:t.kind=3)(hs:v.scale=t.scale):bW R t v p=jS t.min t.max p v.num:=by
 unfold bW;rw[if_neg h,if_neg (by rw[hf];simp),if_neg (by omega),if_pos hk,if_pos hs]
theorem kY (h:¬ (t.kind<1\/10<t.kind\/¬ v.kind=t.kind))(hf:az v=true)(hk:t.kind=3)(hs:¬ v.scale=t.scale):bW R t v p=[.mk p 3]:=by
 unfold bW;rw[if_neg h,if_neg (by rw[hf];simp),if_neg (by omega),if_pos hk,if_neg hs]
theorem mT (h:¬ (t.kind<1\/10<t.kind\/¬ v.kind=t.kind))(hf:az v=true)(hk:t.kind=4)(hw:0<t.words.length)(ha:(t.words.any fun x=>decide (x=v.text))=true):bW R t v p=[]:=by
 unfold bW;rw[if_neg h,if_neg (by rw[hf];simp),if_neg (by omega),if_neg (by omega),if_pos (.inl hk),if_pos ⟨hk,hw⟩,if_pos ha]
theorem jm (h:¬ (t.kind<1\/10<t.kind\/¬ v.kind=t.kind))(hf:az v=true)(hk:t.kind=4)(hw:0<t.words.length)(ha:(t.words.any fun x=>decide (x=v.text))=false):bW R t v p=[.mk p 4]:=by
 unfold bW;rw[if_neg h,if_neg (by rw[hf];simp),if_neg (by omega),if_neg (by omega),if_pos (.inl hk),if_pos ⟨hk,hw⟩,if_neg (by rw[ha];simp)]
theorem dP (h:¬ (t.kind<1\/10<t.kind\/¬ v.kind=t.kind))(hf:az v=true)(hk:t.kind=4\/t.kind=5)(hw:t.kind=4->t.words.length=0):bW R t v p=jS t.min t.max p v.text.length:=by
 unfold bW;rw[if_neg h,if_neg (by rw[hf];simp),if_neg (by omega),if_neg (by omega),if_pos hk,if_neg (by intro hh;have:=hw hh.1;omega)]
theorem dQ (h:¬ (t.kind<1\/10<t.kind\/¬ v.kind=t.kind))(hf:az v=true)(hk:t.kind=9):bW R t v p=r5 R t v p:=by
 unfold bW;rw[if_neg h,if_neg (by rw[hf];simp),if_neg (by omega),if_neg (by omega),if_neg (by omega),if_neg (by omega),if_pos hk]
theorem mU (h:¬ (t.kind<1\/10<t.kind\/¬ v.kind=t.kind))(hf:az v=true)(hk:t.kind=1):bW R t v p=[]:=by
 unfold bW;rw[if_neg h,if_neg (by rw[hf];simp),if_neg (by omega),if_neg (by omega),if_neg (by omega),if_neg (by omega),if_neg (by omega),if_neg (by omega)]
end
theorem aV (n:Nat)(t:Typ)(v:Val)(p:List UInt8):aK (n+1) t v p=bW (aK n) t v p:=rfl
theorem Da (Q:Typ->Val->List UInt8->List Mis)(t:Typ)(v:Val)(p:List UInt8)(hk:t.kind<=7\/t.kind=9){F A:Bool}(hF:az v=F)(hA:(t.words.any fun x=>decide (x=v.text))=A){X:List Mis}(hX:bW Q t v p=X) :
  (t.kind<1/\X=[.mk p 1])\/(¬ t.kind<1/\10<t.kind/\X=[.mk p 1])\/(¬ t.kind<1/\¬ 10<t.kind/\¬ v.kind=t.kind/\X=[.mk p 1]) \/
  (¬ t.kind<1/\¬ 10<t.kind/\v.kind=t.kind/\F=false/\X=[.mk p 8]) \/
  (t.kind=1/\v.kind=1/\F=true/\X=[]) \/
  (t.kind=2/\v.kind=2/\F=true/\X=jS t.min t.max p v.num)\/(t.kind=6/\v.kind=6/\F=true/\X=jS t.min t.max p v.num)\/(t.kind=7/\v.kind=7/\F=true/\X=jS t.min t.max p v.num) \/
  (t.kind=3/\v.kind=3/\F=true/\v.scale=t.scale/\X=jS t.min t.max p v.num)\/(t.kind=3/\v.kind=3/\F=true/\¬ v.scale=t.scale/\X=[.mk p 3]) \/
  (t.kind=5/\v.kind=5/\F=true/\X=jS t.min t.max p v.text.length)\/(t.kind=4/\v.kind=4/\F=true/\¬ (0:Int)<t.words.length/\X=jS t.min t.max p v.text.length) \/
  (t.kind=4/\v.kind=4/\F=true/\(0:Int)<t.words.length/\A=true/\X=[])\/(t.kind=4/\v.kind=4/\F=true/\(0:Int)<t.words.length/\A=false/\X=[.mk p 4]) \/
  (t.kind=9/\v.kind=9/\F=true/\X=r5 Q t v p):=by
 subst hX
 by_cases a:t.kind<1
 ·exact .inl ⟨a,bA (.inl a)⟩
 refine .inr ?_
 by_cases b:10<t.kind
 ·exact .inl ⟨a,b,bA (.inr (.inl b))⟩
 refine .inr ?_
 by_cases c:v.kind=t.kind
 case neg=>exact .inl ⟨a,b,c,bA (.inr (.inr c))⟩
 refine .inr ?_
 have h:¬ (t.kind<1\/10<t.kind\/¬ v.kind=t.kind):=by omega
 cases F
 ·exact .inl ⟨a,b,c,rfl,dR h hF⟩
 refine .inr ?_
 by_cases k:t.kind=1
 ·exact .inl ⟨k,c.trans k,rfl,mU h hF k⟩
 refine .inr ?_
 by_cases k:t.kind=2
 ·exact .inl ⟨k,c.trans k,rfl,fc h hF (by omega)⟩
 refine .inr ?_
 by_cases k:t.kind=6
 ·exact .inl ⟨k,c.trans k,rfl,fc h hF (by omega)⟩
 refine .inr ?_
 by_cases k:t.kind=7
 ·exact .inl ⟨k,c.trans k,rfl,fc h hF (by omega)⟩
 refine .inr ?_
 by_cases k:t.kind=3
 ·by_cases s:v.scale=t.scale
  ·exact .inl ⟨k,c.trans k,rfl,s,kZ h hF k s⟩
  ·exact .inr (.inl ⟨k,c.trans k,rfl,s,kY h hF k s⟩)
 refine .inr (.inr ?_)
 by_cases k:t.kind=5
 ·exact .inl ⟨k,c.trans k,rfl,dP h hF (.inr k) (by omega)⟩
 refine .inr ?_
 by_cases k:t.kind=4
 ·by_cases w:(0:Int)<t.words.length
  ·cases A
   ·exact .inr (.inr (.inl ⟨k,c.trans k,rfl,w,rfl,jm h hF k (by omega) hA⟩))
   ·exact .inr (.inl ⟨k,c.trans k,rfl,w,rfl,mT h hF k (by omega) hA⟩)
  ·exact .inl ⟨k,c.trans k,rfl,w,dP h hF (.inl k) (by omega)⟩
 have k:t.kind=9:=by omega
 exact .inr (.inr (.inr ⟨k,c.trans k,rfl,dQ h hF k⟩))
def qM:Nat->Val->Prop
 | 0,_=>True
 | n+1,v=>v.lst.length<=300/\v.fields.length<=300/\v.text.length<=5000/\(∀ x∈v.lst,qM n x)/\∀ f∈v.fields,f.name.length<=100/\qM n f.value
theorem lK:∀ (n k:Nat) (v:Val),dep (n+k) v->qM n v
 | 0,_,_,_=>trivial
 | n+1,k,v,h=>by
   rw[show n+1+k=(n+k)+1 by omega] at h
   exact⟨h.1,h.2.1,h.2.2.1,fun x hx=>lK n k x (h.2.2.2.1 x hx),fun f hf=>⟨(h.2.2.2.2 f hf).1,lK n k _ (h.2.2.2.2 f hf).2⟩⟩
def iy:Bool->List Mis->Mis->Bool×List Mis
 | true,l,_=>(true,l)
 | false,l,m=>(true,l++[m])
def fH:Bool->List Mis->List Mis->Bool×List Mis
 | d,l,[]=>(d,l)
 | d,l,m::r=>fH (iy d l m).1 (iy d l m).2 r
def jF (d:Bool)(l:List Mis):List Blk:=[.cells 133 true [.clo 79 [] [.ptr 1 0],.pv (.bool d)],.cells 4 true [.pv (.bool (!d))]]
theorem T4 (d:Bool)(m:Mis):bk Tryz.prog au 1 79 [.pv m.pv,.ptr 0 0] [.cells 4 true [.pv (.bool d)]] (.pv (.bool false)) [.cells 4 true [.pv (.bool false)]]:=by
 obtain⟨p,c⟩:=m
 refine bk.intro Q79.2 (by simp[Q79]) ?_
 simp(disch:=try exact dI) only[Q79,Mis.pv_mk,push_cast,seval]
 exact aA [] qsZ
theorem wl (d:Bool)(l:List Mis)(p:List UInt8)(c:Int)(hl:l.length<=100000):bk Tryz.prog au 2 129 [.ptr 0 0,.pv (.str p),.pv (.int .i64 c)] (jF d l) (.pv (.tup [])) (jF (iy d l (.mk p c)).1 (iy d l (.mk p c)).2):=by
 have h63:=T4 true (.mk p c)
 rw[Mis.pv_mk] at h63
 refine bk.intro RI.2 (by simp[RI]) ?_
 cases d with
 | true=>
   rw[iy]
   simp(disch:=try exact dI) only[RI,jF,push_cast,seval]
   exact aA [] qsZ
 | false=>
   rw[iy]
   simp(disch:=try exact dI) only[RI,jF,push_cast,seval]
   refine ab.lentK h63 [1] rfl qsZ qsZ ?_
   refine zgZ ?_
   exact aA [] qsZ
theorem ij (d:Bool)(l:List Mis)(m:Mis):fH d l [m]=iy d l m:=rfl
theorem j2 (d:Bool)(l:List Mis):fH d l []=(d,l):=rfl
theorem j3:∀ (a b:List Mis) (d:Bool) (l:List Mis),fH d l (a++b)=fH (fH d l a).1 (fH d l a).2 b
 | [],b,d,l=>rfl
 | m::r,b,d,l=>by rw[List.cons_append,fH,j3 r b,fH]
theorem l6:∀ (a:List Mis) (l:List Mis),fH true l a=(true,l)
 | [],l=>rfl
 | m::r,l=>by rw[fH,iy];exact l6 r l
theorem Pr (d:Bool)(l:List Mis)(t:Typ)(p:List UInt8)(n:Int)(hl:l.length<=100000)(R:Bool×List Mis)(hR:R=fH d l (jS t.min t.max p n)) :
  bk Tryz.prog au 2 131 [.ptr 0 0,.pv t.pv,.pv (.str p),.pv (.int .i64 n)] (jF d l) (.pv (.tup [])) (jF R.1 R.2):=by
 have h83:=wl d l p 2 hl
 obtain⟨k,m,M,s,w,e,f⟩:=t
 simp only[Typ.min,Typ.max] at hR
 refine bk.intro NY.2 (by simp[NY]) ?_
 unfold jF at h83 ⊢
 by_cases h1:n<m
 ·rw[uQ (.inl h1),ij] at hR
  rw[<- hR] at h83
  simp(disch:=try exact dI) only[NY,Typ.pv_mk,push_cast,seval]
  refine ab.lentK h83 [0,1] rfl qsZ qsZ ?_
  refine zgZ ?_
  exact aA [] qsZ
 ·by_cases h2:M<n
  ·rw[uQ (.inr h2),ij] at hR
   rw[<- hR] at h83
   simp(disch:=try exact dI) only[NY,Typ.pv_mk,push_cast,seval]
   refine ab.lentK h83 [0,1] rfl qsZ qsZ ?_
   refine zgZ ?_
   exact aA [] qsZ
  ·rw[J7 (fun h=>h.elim h1 h2),j2] at hR
   subst hR
   simp(disch:=try exact dI) only[NY,Typ.pv_mk,push_cast,seval]
   exact aA [] qsZ
theorem yE {d:Bool}{l:List Mis}(h:Sg d l)(m:Mis):Sg (iy d l m).1 (iy d l m).2:=by
 cases d with
 | true=>exact h
 | false=>
   have:=h.2 rfl
   exact⟨by simp[iy];omega,fun hh=>by simp[iy] at hh⟩
def Oe:=Sg
theorem jV:∀ (a:List Mis) {d:Bool} {l:List Mis},Oe d l->Oe (fH d l a).1 (fH d l a).2
 | [],d,l,h=>h
 | m::r,d,l,h=>jV r (yE h m)
def Rq:Prop:=∀ (t:Typ) (v:Val) (p:List UInt8) (d:Bool) (l:List Mis) (R:Bool×List Mis),qM 1 v->eI 1 t->t.kind<=7->v.ok->p.length<=2000->Oe d l->R=fH d l (aK 1 t v p) ->
 bk Tryz.prog au 2 80 [.ptr 0 0,.pv t.pv,.pv v.pv,.pv (.str p)] (jF d l) (.pv (.tup [])) (jF R.1 R.2)
theorem BQ (ih:Rq)(t:Typ)(v:Val)(p:List UInt8)(d:Bool)(l:List Mis)(R:Bool×List Mis)(hd:qM 2 v)(ht:eI 2 t)(hsc:∀ g∈t.fields,g.typ.kind<=7)(hv:v.ok)(hk:v.kind=9)(hp:p.length<=1000)(hi:Oe d l)(hR:R=fH d l (r5 (aK 1) t v p)) :
  bk Tryz.prog au 2 133 [.ptr 0 0,.pv t.pv,.pv v.pv,.pv (.str p)] (jF d l) (.pv (.tup [])) (jF R.1 R.2):=by
 have h113:=fun name=>oh v name hv hk
 have h89:=fun name=>rI t name
 obtain⟨k,m,M,s,w,e,fs⟩:=t
 obtain⟨vk,vi,vs,vt,vl,vf⟩:=v
 simp only[qM,eI,Val.lst,Val.fields,Val.text,Typ.fields,Typ.words,Typ.elem,r5] at hd ht hR h113 h89 hsc
 obtain⟨d1,d2,d3,d4,d5⟩:=hd
 obtain⟨t1,t2,t3,t4⟩:=ht
 rw[Val.ok_mk] at hv
 refine bk.intro Rk.2 (by simp[Rk]) ?_
 rw[Typ.pv_mk,Val.pv_mk] at *
 generalize hF1:dt (aK 1) vf p=F1 at hR
 generalize hF2:eO fs p=F2 at hR
 simp(disch:=try exact dI) only[Rk,jF,push_cast,seval]
 refine aC ([]) (fun i:Nat=>[(19,.pv (.int .i64 (i:Int)))]) (fun i=>[(0,.cells 133 true [.clo 79 [] [.ptr 1 0],.pv (.bool (fH d l ((fs.take i).flatMap F1)).1)]),(1,.cells 4 true [.pv (.bool (!(fH d l ((fs.take i).flatMap F1)).1))])]) (fun i=>i<=fs.length) (fun i=>fs.length - i) (0) ?_;intro e0 σ0 n0 h0;simp(disch:=try exact dI) only[push_cast,seval] at h0;obtain⟨rfl,rfl,rfl⟩:=h0;refine⟨?_,?_,?_⟩
 ·simp(disch:=try exact dI) only[fH,List.flatMap_nil,push_cast,seval]
 ·omega
 ·intro i hi2
  by_cases hlt:i<fs.length
  ·have hltI:(i:Int)<fs.length:=by omega
   obtain⟨x,hx⟩:∃ x,fs[i]? = some x:=⟨_,List.getElem?_eq_getElem hlt⟩
   have hsn:=gS F1 hx
   have hinv:=jV ((fs.take i).flatMap F1) hi
   have happ:=j3 ((fs.take i).flatMap F1) (F1 x) d l
   rw[<- hsn] at happ
   generalize fH d l ((fs.take i).flatMap F1)=S at *
   obtain⟨Sd,Sl⟩:=S
   simp only at hinv happ
   obtain⟨hxn,hxt⟩:=t4 x (List.mem_of_getElem? hx)
   have hxk:=hsc x (List.mem_of_getElem? hx)
   have hF1x:F1 x=dt (aK 1) vf p x:=by rw[hF1]
   obtain⟨x1,x2,x3,⟨y1,y2,y3,y4,y5,y6,y7⟩,x5⟩:=x
   simp only[TFd.name,TFd.typ] at hxn hxt hxk
   have hc:=h113 x2 (by omega)
   have hul:=ft p x2
   have hu:=ul p x2 (by omega) (by omega)
   cases hfd:vf.find? (aU x2) with
   | some y=>
     rw[hfd] at hc
     rw[bM (by exact hfd)] at hF1x
     have hym:=List.mem_of_find?_eq_some hfd
     have hyd:=(d5 y hym).2
     have hyo:=hv.2.2.2.2.2.2.2 y hym
     obtain⟨yn,yv⟩:=y
     rw[Fld.ok_mk] at hyo
     simp only[Fld.value,TFd.typ,TFd.name] at hyd hF1x
     have hih:=ih (.mk y1 y2 y3 y4 y5 y6 y7) yv (bZ p x2) Sd Sl _ hyd hxt hxk hyo.2 (by omega) hinv rfl
     rw[<- hF1x,<- happ] at hih
     obtain⟨z1,z2,z3,z4,z5,z6⟩:=yv
     simp only[vlR,Option.map_some,Option.getD_some,Option.isSome_some,Fld.value,Val.pv_mk] at hc
     simp only[jF,Typ.pv_mk,Val.pv_mk] at hih
     simp(disch:=try exact dI) only[hx,TFd.pv_mk,Typ.pv_mk,push_cast,seval]
     refine ab.pure hc rfl ?_
     simp(disch:=try exact dI) only[TFd.pv_mk,Typ.pv_mk,push_cast,seval]
     refine ag hu rfl ?_
     refine zgZ ?_
     refine ab.lentK hih [0,1] rfl qsZ qsZ ?_
     refine zgZ ?_
     exact⟨i+1,aR qsZ,by omega,by omega⟩
   | none=>
     rw[hfd] at hc
     simp only[vlR,Option.map_none,Option.getD_none,Option.isSome_none,aJ,Val.pv_mk,List.map_nil] at hc
     by_cases hn:x3=2
     ·rw[cL (by exact hfd) (by exact hn)] at hF1x
      rw[hF1x,j2] at happ
      simp(disch:=try exact dI) only[hx,TFd.pv_mk,Typ.pv_mk,hn,push_cast,seval]
      refine ab.pure hc rfl ?_
      simp(disch:=try exact dI) only[TFd.pv_mk,Typ.pv_mk,push_cast,seval]
      exact⟨i+1,aR (by simp(disch:=try exact dI) only[happ,push_cast,seval]),by omega,by omega⟩
     ·rw[cl (by exact hfd) (by exact hn)] at hF1x
      simp only[TFd.name] at hF1x
      rw[hF1x,ij] at happ
      have h83:=wl Sd Sl (bZ p x2) 5 (by have:=hinv.1;omega)
      rw[<- happ] at h83
      simp only[jF] at h83
      simp(disch:=try exact dI) only[hx,TFd.pv_mk,Typ.pv_mk,push_cast,seval]
      refine ab.pure hc rfl ?_
      simp(disch:=try exact dI) only[TFd.pv_mk,Typ.pv_mk,push_cast,seval]
      refine ab.pure hu rfl ?_
      refine zgZ ?_
      refine ab.lentK h83 [0,1] rfl qsZ qsZ ?_
      refine zgZ ?_
      exact⟨i+1,aR qsZ,by omega,by omega⟩
  ·have hltI:¬ (i:Int)<fs.length:=by omega
   have hinv:=jV (fs.flatMap F1) hi
   rw[j3] at hR
   rw[jO hlt]
   generalize fH d l (fs.flatMap F1)=S at *
   obtain⟨Sd,Sl⟩:=S
   simp only at hinv hR
   refine zgZ ?_
   refine aC ([]) (fun i:Nat=>[(53,.pv (.int .i64 (i:Int)))]) (fun i=>[(0,.cells 133 true [.clo 79 [] [.ptr 1 0],.pv (.bool (fH Sd Sl ((vf.take i).flatMap F2)).1)]),(1,.cells 4 true [.pv (.bool (!(fH Sd Sl ((vf.take i).flatMap F2)).1))])]) (fun i=>i<=vf.length) (fun i=>vf.length - i) (0) ?_;intro e0 σ0 n0 h0;simp(disch:=try exact dI) only[push_cast,seval] at h0;obtain⟨rfl,rfl,rfl⟩:=h0;refine⟨?_,?_,?_⟩
   ·simp(disch:=try exact dI) only[fH,List.flatMap_nil,push_cast,seval]
   ·omega
   ·intro i hi2
    by_cases hlt:i<vf.length
    ·have hltI:(i:Int)<vf.length:=by omega
     obtain⟨x,hx⟩:∃ x,vf[i]? = some x:=⟨_,List.getElem?_eq_getElem hlt⟩
     have hsn:=gS F2 hx
     have hinv2:=jV ((vf.take i).flatMap F2) hinv
     have happ:=j3 ((vf.take i).flatMap F2) (F2 x) Sd Sl
     rw[<- hsn] at happ
     generalize fH Sd Sl ((vf.take i).flatMap F2)=T at *
     obtain⟨Td,Tl⟩:=T
     simp only at hinv2 happ
     have hxn:=(d5 x (List.mem_of_getElem? hx)).1
     have hF2x:F2 x=eO fs p x:=by rw[hF2]
     obtain⟨x1,⟨y1,y2,y3,y4,y5,y6⟩⟩:=x
     simp only[Fld.name] at hxn
     have hc:=h89 x1 (by omega)
     have hul:=ft p x1
     have hu:=ul p x1 (by omega) (by omega)
     cases hfd:fs.find? (named x1) with
     | some z=>
       rw[hfd] at hc
       rw[ga (by exact hfd)] at hF2x
       rw[hF2x,j2] at happ
       obtain⟨z1,z2,z3,⟨w1,w2,w3,w4,w5,w6,w7⟩,z5⟩:=z
       simp only[tfR,Option.getD_some,Option.isSome_some,TFd.pv_mk,Typ.pv_mk] at hc
       simp(disch:=try exact dI) only[hx,Fld.pv_mk,Val.pv_mk,push_cast,seval]
       refine ab.pure hc rfl ?_
       refine zgZ ?_
       exact⟨i+1,aR (by simp(disch:=try exact dI) only[happ,push_cast,seval]),by omega,by omega⟩
     | none=>
       rw[hfd] at hc
       rw[gd (by exact hfd)] at hF2x
       simp only[Fld.name] at hF2x
       rw[hF2x,ij] at happ
       have h83:=wl Td Tl (bZ p x1) 6 (by have:=hinv2.1;omega)
       rw[<- happ] at h83
       simp only[jF] at h83
       simp only[tfR,Option.getD_none,Option.isSome_none,fO,TFd.pv_mk,Typ.pv_mk,List.map_nil] at hc
       simp(disch:=try exact dI) only[hx,Fld.pv_mk,Val.pv_mk,push_cast,seval]
       refine ab.pure hc rfl ?_
       refine zgZ ?_
       refine ab.pure hu rfl ?_
       refine zgZ ?_
       refine ab.lentK h83 [0,1] rfl qsZ qsZ ?_
       refine zgZ ?_
       exact⟨i+1,aR qsZ,by omega,by omega⟩
    ·have hltI:¬ (i:Int)<vf.length:=by omega
     rw[jO hlt]
     rw[<- hR]
     refine zgZ ?_
     exact aA [] qsZ
theorem D9 (n:Nat)(t:Typ)(v:Val)(p:List UInt8)(l:List Mis)(hd:qM (n+1) v)(ht:eI (n+1) t)(hp:p.length<=2000)(hi:Oe false l)(hk:t.kind<=7\/t.kind=9)
  (h88:t.kind=9->v.kind=9->bk Tryz.prog au 2 133 [.ptr 0 0,.pv t.pv,.pv v.pv,.pv (.str p)] (jF false l) (.pv (.tup [])) (jF (fH false l (r5 (aK n) t v p)).1 (fH false l (r5 (aK n) t v p)).2)) :
  bk Tryz.prog au 2 80 [.ptr 0 0,.pv t.pv,.pv v.pv,.pv (.str p)] (jF false l) (.pv (.tup [])) (jF (fH false l (aK (n+1) t v p)).1 (fH false l (aK (n+1) t v p)).2):=by
 simp only[qM] at hd
 simp only[eI] at ht
 have h84:=IH v (by omega) (by omega) (by omega)
 have h83:=fun c=>wl false l p c (by have:=hi.1;omega)
 have h85:=fun k=>Pr false l t p k (by have:=hi.1;omega) _ rfl
 have h86:=nl t.words v.text (by omega)
 rw[aV]
 have hc:=Da (aK n) t v p hk rfl rfl rfl
 clear hd ht hi hp hk
 generalize az v=F at h84 hc
 generalize (t.words.any fun x=>decide (x=v.text))=A at h86 hc
 generalize bW (aK n) t v p=X at hc ⊢
 rcases hc with ⟨a,e⟩ | ⟨a,b,e⟩ | ⟨a,b,c,e⟩ | ⟨a,b,c,rfl,e⟩ | ⟨hk,c,rfl,e⟩ | ⟨hk,c,rfl,e⟩ | ⟨hk,c,rfl,e⟩ | ⟨hk,c,rfl,e⟩ | ⟨hk,c,rfl,hs,e⟩ | ⟨hk,c,rfl,hs,e⟩ | ⟨hk,c,rfl,e⟩ | ⟨hk,c,rfl,hz,e⟩ | ⟨hk,c,rfl,hz,rfl,e⟩ | ⟨hk,c,rfl,hz,rfl,e⟩ | ⟨hk,c,rfl,e⟩
 all_goals
  first
   | (have e1:X=[.mk p 1]:=e;clear e1;have hL:=h83 1)
   | (have e1:X=[.mk p 8]:=e;clear e1;have hL:=h83 8)
   | (have e1:X=[.mk p 3]:=e;clear e1;have hL:=h83 3)
   | (have e1:X=[.mk p 4]:=e;clear e1;have hL:=h83 4)
   | (have e1:X=jS t.min t.max p v.num:=e;clear e1;have hL:=h85 v.num)
   | (have e1:X=jS t.min t.max p v.text.length:=e;clear e1;have hL:=h85 v.text.length)
   | have hL:=h88 hk c
   | skip
  subst e
  clear h83 h85 h88
  obtain⟨k,m,M,s,w,e,fs⟩:=t
  obtain⟨vk,vi,vs,vt,vl,vf⟩:=v
  simp only[Val.text,Typ.words,Typ.kind,Val.kind,Typ.min,Typ.max,Typ.scale,Val.num,Val.scale] at *
  try subst hk
  try subst c
  try subst hs
  simp only[jF,Typ.pv_mk,Val.pv_mk,ij,j2] at *
  refine bk.intro Q80.2 (by simp[Q80]) ?_
  simp(disch:=try exact dI) only[Q80, *,push_cast,seval]
  try
   refine ab.pure h84 rfl ?_
   simp(disch:=try exact dI) only[*,push_cast,seval]
  try
   refine ab.pure h86 rfl ?_
   refine zgZ ?_
   skip
  try
   refine ab.lentK hL [0,1] rfl qsZ qsZ ?_
   refine zgZ ?_
   skip
  exact aA [] qsZ
theorem D8:Rq:=by
 intro t v p d l R hd ht h7 hv hp hi hR
 cases d with
 | true=>
   rw[l6] at hR;subst hR
   obtain⟨k,m,M,s,w,e,fs⟩:=t
   obtain⟨vk,vi,vs,vt,vl,vf⟩:=v
   refine bk.intro Q80.2 (by simp[Q80]) ?_
   simp(disch:=try exact dI) only[Q80,jF,Typ.pv_mk,Val.pv_mk,push_cast,seval]
   exact aA [] qsZ
 | false=>
   subst hR
   exact D9 0 t v p l hd ht hp hi (.inl h7) (fun h=>absurd h (by omega))
theorem M9 (t:Typ)(v:Val)(R:Bool×List Mis)(hd:qM 2 v)(ht:eI 2 t)(h9:t.kind=9)(hsc:∀ g∈t.fields,g.typ.kind<=7)(hv:v.ok)(hR:R=fH false [] (aK 2 t v [])) :
  bk Tryz.prog au 2 80 [.ptr 0 0,.pv t.pv,.pv v.pv,.pv (.str [])] (jF false []) (.pv (.tup [])) (jF R.1 R.2):=by
 have hi:Oe false []:=⟨by simp,by simp⟩
 subst hR
 exact D9 1 t v [] [] hd ht (by simp) hi (.inr h9) fun _ h=>BQ D8 t v [] false [] _ hd ht hsc hv h (by simp) hi rfl
theorem Fi (a l:List Mis):(fH false l a).1=!a.isEmpty:=by
 cases a with
 | nil=>rfl
 | cons m r=>rw[fH,iy,l6];rfl
theorem PS (t:Typ)(v:Val)(hd:qM 2 v)(ht:eI 2 t)(h9:t.kind=9)(hsc:∀ g∈t.fields,g.typ.kind<=7)(hv:v.ok):ae Tryz.prog au 37 [t.pv,v.pv] (.bool (aK 2 t v []).isEmpty):=by
 have h56:=M9 t v _ hd ht h9 hsc hv rfl
 have e:=Fi (aK 2 t v []) []
 generalize fH false [] (aK 2 t v [])=S at *
 obtain⟨Sd,Sl⟩:=S
 simp only at e
 have e2:(aK 2 t v []).isEmpty=!Sd:=by rw[e,Bool.not_not]
 rw[e2]
 obtain⟨k,m,M,s,w,e,fs⟩:=t
 obtain⟨vk,vi,vs,vt,vl,vf⟩:=v
 simp only[jF,Typ.pv_mk,Val.pv_mk,List.map_nil] at h56
 refine ae.intro Q37.2 (by simp[Q37]) ?_
 simp(disch:=try exact dI) only[Q37,Typ.pv_mk,Val.pv_mk,push_cast,seval]
 refine ab.lentK h56 [4,2] rfl qsZ qsZ ?_
 exact qsZ
theorem D2 {α β:Type}(F:α->List β)(B:Nat):∀ (l:List α),(∀ x∈l,(F x).length<=B)->(l.flatMap F).length<=l.length*B
 | [],_=>by simp
 | x::r,h=>by
   have h1:=h x (by simp)
   have h2:=D2 F B r (fun y hy=>h y (by simp[hy]))
   rw[List.flatMap_cons,List.length_append,List.length_cons,Nat.succ_mul];omega
theorem Ht (a b:Int)(p:List UInt8)(n:Int):(jS a b p n).length<=1:=by unfold jS;split<;>simp
theorem xL (ts:List TFd)(p:List UInt8)(x:Fld):(eO ts p x).length<=1:=by
 unfold eO;split<;>simp
theorem oL:∀ n,dep (n+1) aJ:=by
 intro n
 simp[dep,aJ,Val.lst,Val.fields,Val.text]
theorem HZ {t:Typ}(v:Val)(p:List UInt8)(hk:t.kind<=7):(aK 1 t v p).length<=1:=by
 rw[aV,bW]
 have ho:=fun k=>Ht t.min t.max p k
 repeat' split
 all_goals first | exact ho _ | (exfalso;omega) | (simp;done)
theorem na {fs:List Fld}{p:List UInt8}{x:TFd}(hx:x.typ.kind<=7):(dt (aK 1) fs p x).length<=1:=by
 cases h:fs.find? (aU x.name) with
 | some y=>rw[bM h];exact HZ _ _ hx
 | none=>
   by_cases hn:x.need=2
   ·rw[cL h hn];simp
   ·rw[cl h hn];simp
theorem Kb:∀ l:List Mis,((l.map Mis.pv).all fun y=>y.cells.length == 2)=true
 | []=>rfl
 | x::r=>by rw[List.map_cons,List.all_cons,Kb r,Mis.cells_len];rfl
theorem DZ {α β:Type}(F:α->List β){l:List α}(h:∀ x∈l,(F x).length<=1)(m:Nat):((l.take m).flatMap F).length<=l.length:=by
 have h1:=D2 F 1 (l.take m) (fun x hx=>h x (List.mem_of_mem_take hx))
 rw[List.length_take] at h1;omega
def TN:Prop:=∀ (t:Typ) (v:Val) (p:List UInt8),qM 1 v->eI 1 t->t.kind<=7->v.ok->p.length<=2000->ae Tryz.prog au 24 [t.pv,v.pv,.str p] (.list ((aK 1 t v p).map Mis.pv))
end Go.Proofs.YtbaaokocnegdoaaGreatDoor

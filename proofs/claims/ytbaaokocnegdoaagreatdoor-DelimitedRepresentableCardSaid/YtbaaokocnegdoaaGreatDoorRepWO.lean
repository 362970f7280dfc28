/- A part of the proof for DelimitedRepresentableCardSaid. -/
import Derived.Test.YtbaaokocnegdoaaGreatDoorRepWN
import Derived.Test.YtbaaokocnegdoaaGreatDoorRepVC21
import Derived.Test.YtbaaokocnegdoaaGreatDoorRepW9
import Derived.Test.YtbaaokocnegdoaaGreatDoorRepWTy
import Derived.Test.YtbaaokocnegdoaaGreatDoorRepVUh
import Derived.Test.YtbaaokocnegdoaaGreatDoorRepF
import Derived.Test.YtbaaokocnegdoaaGreatDoorRepVSh
set_option maxRecDepth 100000
set_option linter.unusedVariables false
set_option linter.unusedSimpArgs false
namespace Go.Proofs.YtbaaokocnegdoaaGreatDoor
open Go Go.Ab
attribute [local irreducible] vc
def bnd:Nat→Nat
 | 0=>1
 | n+1=>600*bnd n
theorem Aa {α β:Type}(F:α→List β)(B:Nat):∀ (l:List α),(∀ x∈l,(F x).length≤B)→(l.flatMap F).length≤l.length*B
 | [],_=>by simp
 | x::r,h=>by
   have h1:=h x (by simp)
   have h2:=Aa F B r (fun y hy=>h y (by simp[hy]))
   rw[List.flatMap_cons,List.length_append,List.length_cons,Nat.succ_mul];omega
theorem flat_len {α β:Type}(F:α→List β)(B:Nat){l:List α}(h:∀ x∈l,(F x).length≤B)(hl:l.length≤300)(m:Nat):((l.take m).flatMap F).length≤300*B:=by
 have h1:=Aa F B (l.take m) (fun x hx=>h x (List.mem_of_mem_take hx))
 have h2:(l.take m).length≤300:=by rw[List.length_take];omega
 have h3:=Nat.mul_le_mul_right B h2
 omega
section
variable {n:Nat}(ih:∀ t v p,dep n v→fh n t→(cW n t v p).length≤bnd n)
include ih
end
end Go.Proofs.YtbaaokocnegdoaaGreatDoor
set_option maxRecDepth 100000
set_option linter.unusedVariables false
set_option linter.unusedSimpArgs false
namespace Go.Proofs.YtbaaokocnegdoaaGreatDoor
open Go Go.Ab
attribute [local irreducible] vc
end Go.Proofs.YtbaaokocnegdoaaGreatDoor
set_option maxRecDepth 100000
set_option linter.unusedVariables false
set_option linter.unusedSimpArgs false
namespace Go.Proofs.YtbaaokocnegdoaaGreatDoor
open Go Go.Ab
attribute [local irreducible] vc
end Go.Proofs.YtbaaokocnegdoaaGreatDoor
set_option maxRecDepth 100000
set_option linter.unusedVariables false
set_option linter.unusedSimpArgs false
namespace Go.Proofs.YtbaaokocnegdoaaGreatDoor
open Go Go.Ab
attribute [local irreducible] vc
theorem eq:gO 0:=fun t v p d l R hd=>hd.elim
theorem I4 (t:Typ)(v:Val)(p:List UInt8)(d:Bool)(l:List Mis)(R:Bool×List Mis)(hsc:1≤t.kind∧t.kind≤7)(hd:dep 1 v)(ht:fh 1 t)(hv:v.ok)(hp:p.length+200*1≤100000)(hi:q7 false l)(hR:R=jR false l (cW 1 t v p)) :
  bM Tryz.prog aE 2 80 [.ptr 0 0,.pv t.pv,.pv v.pv,.pv (.str p)] (cP false l) (.pv (.tup [])) (cP R.1 R.2):=by
 by_cases h:t.kind<1∨10<t.kind∨¬ v.kind=t.kind
 ·exact nk 0 eq t v p l R hd ht hv hp hi hR h
 ·by_cases hf:ae v=false
  ·exact pO 0 eq t v p l R hd ht hv hp hi hR h hf
  ·have hf:ae v=true:=by simpa using hf
   have hk:t.kind=1∨t.kind=2∨t.kind=3∨t.kind=4∨t.kind=5∨t.kind=6∨t.kind=7:=by omega
   rcases hk with hk | hk | hk | hk | hk | hk | hk
   ·exact Al 0 eq t v p l R hd ht hv hp hi hR h hf hk
   ·exact Ak 0 eq t v p l R hd ht hv hp hi hR h hf hk
   ·by_cases hs:v.scale=t.scale
    ·exact uo 0 eq t v p l R hd ht hv hp hi hR h hf hk hs
    ·exact Aj 0 eq t v p l R hd ht hv hp hi hR h hf hk hs
   ·by_cases hw:t.words.length=0
    ·exact Ai 0 eq t v p l R hd ht hv hp hi hR h hf hk hw
    ·cases ha:(t.words.any fun x=>decide (x=v.text)) with
     | true=>exact um 0 eq t v p l R hd ht hv hp hi hR h hf hk (by omega) ha
     | false=>exact un 0 eq t v p l R hd ht hv hp hi hR h hf hk (by omega) ha
   ·exact Ah 0 eq t v p l R hd ht hv hp hi hR h hf hk
   ·exact Ag 0 eq t v p l R hd ht hv hp hi hR h hf hk
   ·exact Af 0 eq t v p l R hd ht hv hp hi hR h hf hk
theorem I3 (t:Typ)(v:Val)(hsc:1≤t.kind∧t.kind≤7)(hd:dep 1 v)(ht:fh 1 t)(hv:v.ok):am Tryz.prog aE 37 [t.pv,v.pv] (.bool (cW 1 t v []).isEmpty):=by
 have h56:=I4 t v [] false [] _ hsc hd ht hv (by simp) ⟨by simp,by simp⟩ rfl
 have e:=JG (cW 1 t v []) []
 generalize jR false [] (cW 1 t v [])=S at *
 obtain⟨Sd,Sl⟩:=S
 simp only at e
 have e2:(cW 1 t v []).isEmpty=!Sd:=by rw[e,Bool.not_not]
 rw[e2]
 obtain⟨k,m,M,s,w,e,fs⟩:=t
 obtain⟨vk,vi,vs,vt,vl,vf⟩:=v
 simp only[cP,Typ.pv_mk,Val.pv_mk,List.map_nil] at h56
 refine am.intro GQ (by simp[F37]) ?_
 simp(disch:=first|exact dI|fail) only[F37,Typ.pv_mk,Val.pv_mk,push_cast,seval]
 refine ab.lentK h56 [4,2] rfl (by simp(disch:=first|exact dI|fail) only[push_cast,seval]) (by simp(disch:=first|exact dI|fail) only[push_cast,seval]) ?_
 simp(disch:=first|exact dI|fail) only[push_cast,seval]
end Go.Proofs.YtbaaokocnegdoaaGreatDoor
set_option maxRecDepth 100000
set_option linter.unusedVariables false
set_option linter.unusedSimpArgs false
-- many steps
namespace Go.Proofs.YtbaaokocnegdoaaGreatDoor
open Go Go.Ab
attribute [local irreducible] vc
def F6 (k:Int)(q:Int×Int×List UInt8):Val:=.mk k q.1 q.2.1 q.2.2 [] []
theorem B9 {k:Int}{q:Int×Int×List UInt8}(h:q.2.2.length≤100):dep 1 (F6 k q):=by
 simp[dep,F6,Val.lst,Val.fields,Val.text,h]
theorem G7 {k:Int}{q:Int×Int×List UInt8}(hk:EC k=true)(h:I64 q.1∧I64 q.2.1∧q.2.2.length≤100):(F6 k q).ok:=by
 rw[q0] at hk
 unfold F6
 rw[Val.ok_mk]
 exact⟨⟨by omega,by omega⟩,h.1,h.2.1,by have:=h.2.2;omega,by simp,by simp,by simp,by simp⟩
theorem G8 (k:Int)(q:Int×Int×List UInt8):Nz (vN k q.1 q.2.1 q.2.2) (F6 k q).pv:=by
 unfold F6 vN
 rw[Val.pv_mk]
 repeat' constructor
end Go.Proofs.YtbaaokocnegdoaaGreatDoor
set_option maxRecDepth 100000
set_option linter.unusedVariables false
set_option linter.unusedSimpArgs false
namespace Go.Proofs.YtbaaokocnegdoaaGreatDoor
open Go Go.Ab
theorem Hk {rec:Val→Val}{on:Bool}(hr:∀ v:Val,v.ok→(rec v).ok):∀ v:Val,v.ok→(cx rec on v).ok
 | .mk k i s t l f,h=>by
   rw[Val.ok_mk] at h
   obtain⟨h1,h2,h3,h4,h5,h6,h7,h8⟩:=h
   simp only[cx,Val.ok_mk]
   have ht:(t.take 40).length≤140737488351232:=by rw[List.length_take];omega
   cases on with
   | false=>simp only[Bool.false_eq_true,if_false];exact⟨h1,h2,h3,ht,by simp,by simp,by simp,by simp⟩
   | true=>
     simp only[if_true]
     refine⟨h1,h2,h3,ht,by rw[List.length_map,List.length_take];omega,fun x hx=>?_,by rw[List.length_map,List.length_take];omega,fun x hx=>?_⟩
     ·obtain⟨y,hy,rfl⟩:=List.mem_map.1 hx
      exact hr y (h6 y (List.mem_of_mem_take hy))
     ·obtain⟨y,hy,rfl⟩:=List.mem_map.1 hx
      have:=h8 y (List.mem_of_mem_take hy)
      obtain⟨n,v⟩:=y
      rw[Fld.ok_mk] at this
      simp only[iW,Fld.ok_mk]
      exact⟨by rw[List.length_take];omega,hr v this.2⟩
theorem l8:∀ (n:Nat) (v:Val),v.ok→(aW n v).ok
 | 0=>Hk (fun _ h=>h)
 | n+1=>Hk (l8 n)
theorem dW {rec:Val→Val}{on:Bool}(v:Val):(cx rec on v).lst.length≤6∧(cx rec on v).fields.length≤6∧(∀ x∈(cx rec on v).lst,on=true∧∃ y∈v.lst,x=rec y)∧∀ x∈(cx rec on v).fields,on=true∧∃ y∈v.fields,x.value=rec y.value:=by
 obtain⟨k,i,s,t,l,f⟩:=v
 simp only[cx,Val.lst,Val.fields]
 cases on with
 | false=>simp
 | true=>
   simp only[if_true]
   refine⟨by rw[List.length_map,List.length_take];omega,by rw[List.length_map,List.length_take];omega,fun x hx=>?_,fun x hx=>?_⟩
   ·obtain⟨y,hy,rfl⟩:=List.mem_map.1 hx
    exact⟨by trivial,y,List.mem_of_mem_take hy,rfl⟩
   ·obtain⟨y,hy,rfl⟩:=List.mem_map.1 hx
    obtain⟨n,v⟩:=y
    exact⟨by trivial,_,List.mem_of_mem_take hy,rfl⟩
theorem mz {v x:Val}(h:x∈aX v):x∈v.lst∨∃ f∈v.fields,x=f.value:=by
 unfold aX at h
 split at h
 ·exact .inl h
 ·split at h
  ·obtain⟨f,hf,rfl⟩:=List.mem_map.1 h
   exact .inr ⟨f,hf,rfl⟩
  ·cases h
theorem mA (v:Val)(h1:v.lst.length≤6)(h2:v.fields.length≤6):(aX v).length≤6:=by
 unfold aX
 split
 ·exact h1
 ·split
  ·rw[List.length_map];exact h2
  ·simp
theorem gR {n:Nat}{v x:Val}(h:x∈aX (aW (n+1) v)):∃ y,x=aW n y:=by
 obtain⟨_,_,h3,h4⟩:=dW (rec:=aW n) (on:=decide (0<n)) v
 rcases mz h with h | ⟨f,hf,rfl⟩
 ·obtain⟨_,y,_,e⟩:=h3 x h;exact⟨y,e⟩
 ·obtain⟨_,y,_,e⟩:=h4 f hf;exact⟨y.value,e⟩
theorem fG (v:Val):aX (aW 0 v)=[]:=by
 obtain⟨_,_,h3,h4⟩:=dW (rec:=id) (on:=false) v
 refine List.eq_nil_iff_forall_not_mem.2 fun x h=>?_
 rcases mz h with h | ⟨f,hf,rfl⟩
 ·exact absurd (h3 x h).1 (by decide)
 ·exact absurd (h4 f hf).1 (by decide)
theorem oH:∀ (n:Nat) (v:Val),(aX (aW n v)).length≤6
 | 0,v=>mA _ (dW (rec:=id) (on:=false) v).1 (dW (rec:=id) (on:=false) v).2.1
 | n+1,v=>mA _ (dW (rec:=aW n) (on:=decide (0<n)) v).1 (dW (rec:=aW n) (on:=decide (0<n)) v).2.1
theorem iU:∀ (n:Nat) (v:Val),cm (n+1) (aW n v)
 | 0,v=>by intro x hx;rw[fG] at hx;cases hx
 | n+1,v=>by
   intro x hx
   obtain⟨y,rfl⟩:=gR hx
   exact iU n y
def KV:Nat→Nat
 | 0=>1
 | n+1=>1+6*KV n
theorem j9 {c:Nat}:∀ (l:List Nat),(∀ x∈l,x≤c)→l.sum≤l.length*c
 | [],_=>by simp
 | x::r,h=>by
   have h1:=h x (List.mem_cons_self ..)
   have h2:=j9 r fun y hy=>h y (List.mem_cons_of_mem _ hy)
   rw[List.sum_cons,List.length_cons,Nat.add_mul,Nat.one_mul]
   omega
theorem l7:∀ (n m:Nat) (v:Val),szN m (aW n v)≤KV n
 | _,0,_=>by rw[szN];exact Nat.zero_le _
 | 0,m+1,v=>by rw[szN,fG];simp[KV]
 | n+1,m+1,v=>by
   rw[szN,KV]
   have h1:=j9 (c:=KV n) ((aX (aW (n+1) v)).map (szN m)) fun x hx=>by
    obtain⟨y,hy,rfl⟩:=List.mem_map.1 hx
    obtain⟨z,rfl⟩:=gR hy
    exact l7 n m z
   have h2:=oH (n+1) v
   rw[List.length_map] at h1
   have h3:=Nat.mul_le_mul_right (KV n) h2
   omega
theorem wD {n:Nat}{rec:Val→Val}{on:Bool}(hr:∀ v:Val,v.ok→(rec v).ok)(ht:on=true→∀ v:Val,v.ok→iO n (rec v))(v:Val)(hv:v.ok):iO (n+1) (cx rec on v):=by
 obtain⟨h1,h2,h3,h4⟩:=dW (rec:=rec) (on:=on) v
 refine⟨Hk hr v hv,by omega,by omega,fun x hx=>?_,fun x hx=>?_⟩
 ·obtain⟨ho,y,hy,rfl⟩:=h3 x hx
  obtain⟨k,i,s,t,l,f⟩:=v
  rw[Val.ok_mk] at hv
  exact ht ho y (hv.2.2.2.2.2.1 y hy)
 ·obtain⟨ho,y,hy,e⟩:=h4 x hx
  rw[e]
  obtain⟨k,i,s,t,l,f⟩:=v
  rw[Val.ok_mk] at hv
  have:=hv.2.2.2.2.2.2.2 y hy
  obtain⟨n',v'⟩:=y
  rw[Fld.ok_mk] at this
  exact ht ho v' this.2
theorem iT:∀ (n:Nat) (v:Val),v.ok→iO (n+1) (aW n v)
 | 0=>wD (fun _ h=>h) (fun h=>absurd h (by decide))
 | n+1=>wD (l8 n) (fun _=>iT n)
theorem dV:∀ (n:Nat) (v:Val),iO n v→iO (n+1) v
 | 0,_,h=>h.elim
 | n+1,v,h=>⟨h.1,h.2.1,h.2.2.1,fun x hx=>dV n x (h.2.2.2.1 x hx),fun x hx=>dV n x.value (h.2.2.2.2 x hx)⟩
theorem Lc (v:Val)(hv:v.ok):iO 9 (aW 3 v)∧cm 9 (aW 3 v)∧(cf 9 1 (aW 3 v)).length≤1000000000000:=by
 refine⟨dV _ _ (dV _ _ (dV _ _ (dV _ _ (dV _ _ (iT 3 v hv))))),ef _ _ (ef _ _ (ef _ _ (ef _ _ (ef _ _ (iU 3 v))))),?_⟩
 rw[lc]
 exact Nat.le_trans (l7 3 9 v) (by decide)
theorem wJ {n:Nat}{rec:Typ→Typ}{on:Bool}(hr:on=true→∀ t:Typ,t.ok→bt n (rec t)∧aS n (rec t)):∀ t:Typ,t.ok→bt (n+1) (dZ rec on t)∧aS (n+1) (dZ rec on t)
 | .mk k m M s w e f,h=>by
   rw[Typ.ok_mk] at h
   obtain⟨h1,h2,h3,h4,h5,h6,h7,h8,h9,h10⟩:=h
   have hw1:((w.take 6).map (List.take 40)).length≤1000000:=by rw[List.length_map,List.length_take];omega
   have hw2:∀ x∈(w.take 6).map (List.take 40),x.length≤1000000:=fun x hx=>by
    obtain⟨y,hy,rfl⟩:=List.mem_map.1 hx
    rw[List.length_take];omega
   simp only[dZ,bt,aS]
   cases on with
   | false=>simp only[Bool.false_eq_true,if_false];exact⟨⟨hw1,hw2,by simp,by simp,by simp,by simp⟩,by simp,by simp,by simp,by simp⟩
   | true=>
     simp only[if_true]
     have hel:((e.take 2).map rec).length≤2:=by rw[List.length_map,List.length_take];omega
     have hfl:((f.take 6).map (dY rec)).length≤6:=by rw[List.length_map,List.length_take];omega
     have he:∀ x∈(e.take 2).map rec,bt n x∧aS n x:=fun x hx=>by
      obtain⟨y,hy,rfl⟩:=List.mem_map.1 hx
      exact hr rfl y (h8 y (List.mem_of_mem_take hy))
     have hf:∀ g∈(f.take 6).map (dY rec),(g.dflt.length≤1000000∧(∀ v∈g.dflt,iO 9 v∧cm 9 v∧(cf 9 1 v).length≤1000000000000)∧bt n g.typ)∧aS n g.typ:=fun x hx=>by
      obtain⟨y,hy,rfl⟩:=List.mem_map.1 hx
      have hy':=h10 y (List.mem_of_mem_take hy)
      obtain⟨a,b,c,t,d⟩:=y
      rw[TFd.ok_mk] at hy'
      obtain⟨_,_,_,q4,_,q6⟩:=hy'
      have hh:=hr rfl t q4
      simp only[dY,TFd.dflt,TFd.typ]
      refine⟨⟨by rw[List.length_map,List.length_take];omega,fun v hv=>?_,hh.1⟩,hh.2⟩
      obtain⟨z,hz,rfl⟩:=List.mem_map.1 hv
      exact Lc z (q6 z (List.mem_of_mem_take hz))
     exact⟨⟨hw1,hw2,by omega,by omega,fun x hx=>(he x hx).1,fun g hg=>(hf g hg).1⟩,by omega,by omega,fun x hx=>(he x hx).2,fun g hg=>(hf g hg).2⟩
theorem iV:∀ (n:Nat) (t:Typ),t.ok→bt (n+1) (bl n t)∧aS (n+1) (bl n t)
 | 0=>wJ (fun h=>absurd h (by decide))
 | n+1=>wJ (fun _=>iV n)
end Go.Proofs.YtbaaokocnegdoaaGreatDoor
set_option maxRecDepth 100000
set_option linter.unusedVariables false
set_option linter.unusedSimpArgs false
-- many steps
namespace Go.Proofs.YtbaaokocnegdoaaGreatDoor
open Go Go.Ab
attribute [local irreducible] vc
theorem vF {T:Nat}{p:PV}{t:Typ}{q:Int×Int×List UInt8}(hk:EC t.kind=true)(ht:fh 1 t)(hq:I64 q.1∧I64 q.2.1∧q.2.2.length≤100) :
  am Tryz.prog (K9 T p) 37 [t.pv,vN t.kind q.1 q.2.1 q.2.2] (.bool (cW 1 t (F6 t.kind q) []).isEmpty):=
 toE ((I3 t (F6 t.kind q) ((q0 _).1 hk) (B9 hq.2.2) ht (G7 hk hq)).nz (.cons _ _ _ _ (.refl _) (.cons _ _ _ _ (G8 _ _) .nil)))
end Go.Proofs.YtbaaokocnegdoaaGreatDoor
set_option maxRecDepth 100000
set_option linter.unusedVariables false
set_option linter.unusedSimpArgs false
-- many steps
namespace Go.Proofs.YtbaaokocnegdoaaGreatDoor
open Go Go.Ab
attribute [local irreducible] vc
def hx (k:Nat):UInt8:=P5.getD k 0
end Go.Proofs.YtbaaokocnegdoaaGreatDoor
set_option maxRecDepth 100000
set_option linter.unusedVariables false
set_option linter.unusedSimpArgs false
-- many steps
namespace Go.Proofs.YtbaaokocnegdoaaGreatDoor
open Go Go.Ab
attribute [local irreducible] vc
def exC:List UInt8→St
 | []=>⟨[(7,.pv (.int .i64 0)),(8,.ptr 0 0)],[(0,.cells 89 true [.pv .nilp,.pv .nils])],1⟩
 | b::r=>⟨[(7,.pv (.int .i64 0)),(8,.ptr 0 0)],[(0,.cells 89 true [.ptr 0 0,.row 1 1 0 (r.length+1)]),(1,.cells 5 false ((aR (b::r)).map .pv))],2⟩
end Go.Proofs.YtbaaokocnegdoaaGreatDoor
set_option maxRecDepth 100000
set_option linter.unusedVariables false
set_option linter.unusedSimpArgs false
namespace Go.Proofs.YtbaaokocnegdoaaGreatDoor
open Go Go.Ab
attribute [local irreducible] vc
variable {n:Nat}{fs:List TFd}{x:Fld}
end Go.Proofs.YtbaaokocnegdoaaGreatDoor
set_option maxRecDepth 100000
set_option linter.unusedVariables false
set_option linter.unusedSimpArgs false
-- many steps
namespace Go.Proofs.YtbaaokocnegdoaaGreatDoor
open Go Go.Ab
attribute [local irreducible] vc
theorem Hs (t:Typ)(ht:t.ok):am Tryz.prog aE 11 [t.pv] (bl 3 t).pv:=by
 have h:=oI 3 (by omega) t ht
 rw[show ((3:Nat):Int)=3 from rfl] at h
 generalize bl 3 t=u at *
 obtain⟨k1,a1,b1,c1,w1,e1,f1⟩:=t
 obtain⟨k2,a2,b2,c2,w2,e2,f2⟩:=u
 simp only[Typ.pv_mk] at h ⊢
 refine am.intro NV (by simp[F11]) ?_
 simp(maxSteps:=9^7) (disch:=first|exact dI|fail) only[F11,push_cast,seval]
 refine ab.pure h rfl ?_
 simp(maxSteps:=9^7) (disch:=first|exact dI|fail) only[push_cast,seval]
end Go.Proofs.YtbaaokocnegdoaaGreatDoor

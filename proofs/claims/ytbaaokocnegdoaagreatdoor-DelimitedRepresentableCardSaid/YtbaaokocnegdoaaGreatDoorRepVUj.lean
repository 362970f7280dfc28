/- A part of the proof for DelimitedRepresentableCardSaid. -/
import Derived.Test.YtbaaokocnegdoaaGreatDoorRepVUh
import Derived.Test.YtbaaokocnegdoaaGreatDoorRepWTy
import Derived.Test.YtbaaokocnegdoaaGreatDoorRepVSh
import Derived.Test.YtbaaokocnegdoaaGreatDoorCore6
import Derived.Test.YtbaaokocnegdoaaGreatDoorRepW9
set_option maxRecDepth 100000
set_option linter.unusedVariables false
set_option linter.unusedSimpArgs false
namespace Go.Proofs.YtbaaokocnegdoaaGreatDoor
open Go Go.Ab
theorem F0 {rec:Val→Val}{on:Bool}(hr:∀ v:Val,v.ok→(rec v).ok):∀ v:Val,v.ok→(cm rec on v).ok
 | .mk k i s t l f,h=>by
   rw[Val.ok_mk] at h
   obtain⟨h1,h2,h3,h4,h5,h6,h7,h8⟩:=h
   simp only[cm,Val.ok_mk]
   have ht:(t.take 40).length≤140737488351232:=by rw[List.length_take];omega
   cases on with
   | false=>simp only[Bool.false_eq_true,if_false];exact⟨h1,h2,h3,ht,by simp,by simp,by simp,by simp⟩
   | true=>
     simp only[if_true]
     refine⟨h1,h2,h3,ht,by rw[List.length_map,List.length_take];omega,fun x hx=>?_,by rw[List.length_map,List.length_take];omega,fun x hx=>?_⟩
     ·obtain⟨y,hy,rfl⟩:=List.mem_map.1 hx
      exact hr y (h6 y (List.mem_of_mem_take hy))
     ·obtain⟨y,hy,rfl⟩:=List.mem_map.1 hx
      have:=h8 y (List.mem_of_mem_take hy)
      obtain⟨n,v⟩:=y
      rw[Fld.ok_mk] at this
      simp only[iz,Fld.ok_mk]
      exact⟨by rw[List.length_take];omega,hr v this.2⟩
theorem lA:∀ (n:Nat) (v:Val),v.ok→(aS n v).ok
 | 0=>F0 (fun _ h=>h)
 | n+1=>F0 (lA n)
theorem dG {rec:Val→Val}{on:Bool}(v:Val):(cm rec on v).lst.length≤6∧(cm rec on v).fields.length≤6∧(∀ x∈(cm rec on v).lst,on=true∧∃ y∈v.lst,x=rec y)∧∀ x∈(cm rec on v).fields,on=true∧∃ y∈v.fields,x.value=rec y.value:=by
 obtain⟨k,i,s,t,l,f⟩:=v
 simp only[cm,Val.lst,Val.fields]
 cases on with
 | false=>simp
 | true=>
   simp only[if_true]
   refine⟨by rw[List.length_map,List.length_take];omega,by rw[List.length_map,List.length_take];omega,fun x hx=>?_,fun x hx=>?_⟩
   ·obtain⟨y,hy,rfl⟩:=List.mem_map.1 hx
    exact⟨by trivial,y,List.mem_of_mem_take hy,rfl⟩
   ·obtain⟨y,hy,rfl⟩:=List.mem_map.1 hx
    obtain⟨n,v⟩:=y
    exact⟨by trivial,_,List.mem_of_mem_take hy,rfl⟩
theorem lS {v x:Val}(h:x∈aT v):x∈v.lst∨∃ f∈v.fields,x=f.value:=by
 unfold aT at h
 split at h
 ·exact .inl h
 ·split at h
  ·obtain⟨f,hf,rfl⟩:=List.mem_map.1 h
   exact .inr ⟨f,hf,rfl⟩
  ·cases h
theorem lT (v:Val)(h1:v.lst.length≤6)(h2:v.fields.length≤6):(aT v).length≤6:=by
 unfold aT
 split
 ·exact h1
 ·split
  ·rw[List.length_map];exact h2
  ·simp
theorem gv {n:Nat}{v x:Val}(h:x∈aT (aS (n+1) v)):∃ y,x=aS n y:=by
 obtain⟨_,_,h3,h4⟩:=dG (rec:=aS n) (on:=decide (0<n)) v
 rcases lS h with h | ⟨f,hf,rfl⟩
 ·obtain⟨_,y,_,e⟩:=h3 x h;exact⟨y,e⟩
 ·obtain⟨_,y,_,e⟩:=h4 f hf;exact⟨y.value,e⟩
theorem fk (v:Val):aT (aS 0 v)=[]:=by
 obtain⟨_,_,h3,h4⟩:=dG (rec:=id) (on:=false) v
 refine List.eq_nil_iff_forall_not_mem.2 fun x h=>?_
 rcases lS h with h | ⟨f,hf,rfl⟩
 ·exact absurd (h3 x h).1 (by decide)
 ·exact absurd (h4 f hf).1 (by decide)
theorem nT:∀ (n:Nat) (v:Val),(aT (aS n v)).length≤6
 | 0,v=>lT _ (dG (rec:=id) (on:=false) v).1 (dG (rec:=id) (on:=false) v).2.1
 | n+1,v=>lT _ (dG (rec:=aS n) (on:=decide (0<n)) v).1 (dG (rec:=aS n) (on:=decide (0<n)) v).2.1
theorem ix:∀ (n:Nat) (v:Val),ce (n+1) (aS n v)
 | 0,v=>by intro x hx;rw[fk] at hx;cases hx
 | n+1,v=>by
   intro x hx
   obtain⟨y,rfl⟩:=gv hx
   exact ix n y
def Ju:Nat→Nat
 | 0=>1
 | n+1=>1+6*Ju n
theorem jJ {c:Nat}:∀ (l:List Nat),(∀ x∈l,x≤c)→l.sum≤l.length*c
 | [],_=>by simp
 | x::r,h=>by
   have h1:=h x (List.mem_cons_self ..)
   have h2:=jJ r fun y hy=>h y (List.mem_cons_of_mem _ hy)
   rw[List.sum_cons,List.length_cons,Nat.add_mul,Nat.one_mul]
   omega
theorem lz:∀ (n m:Nat) (v:Val),szN m (aS n v)≤Ju n
 | _,0,_=>by rw[szN];exact Nat.zero_le _
 | 0,m+1,v=>by rw[szN,fk];simp[Ju]
 | n+1,m+1,v=>by
   rw[szN,Ju]
   have h1:=jJ (c:=Ju n) ((aT (aS (n+1) v)).map (szN m)) fun x hx=>by
    obtain⟨y,hy,rfl⟩:=List.mem_map.1 hx
    obtain⟨z,rfl⟩:=gv hy
    exact lz n m z
   have h2:=nT (n+1) v
   rw[List.length_map] at h1
   have h3:=Nat.mul_le_mul_right (Ju n) h2
   omega
theorem vq {n:Nat}{rec:Val→Val}{on:Bool}(hr:∀ v:Val,v.ok→(rec v).ok)(ht:on=true→∀ v:Val,v.ok→ip n (rec v))(v:Val)(hv:v.ok):ip (n+1) (cm rec on v):=by
 obtain⟨h1,h2,h3,h4⟩:=dG (rec:=rec) (on:=on) v
 refine⟨F0 hr v hv,by omega,by omega,fun x hx=>?_,fun x hx=>?_⟩
 ·obtain⟨ho,y,hy,rfl⟩:=h3 x hx
  obtain⟨k,i,s,t,l,f⟩:=v
  rw[Val.ok_mk] at hv
  exact ht ho y (hv.2.2.2.2.2.1 y hy)
 ·obtain⟨ho,y,hy,e⟩:=h4 x hx
  rw[e]
  obtain⟨k,i,s,t,l,f⟩:=v
  rw[Val.ok_mk] at hv
  have:=hv.2.2.2.2.2.2.2 y hy
  obtain⟨n',v'⟩:=y
  rw[Fld.ok_mk] at this
  exact ht ho v' this.2
theorem iw:∀ (n:Nat) (v:Val),v.ok→ip (n+1) (aS n v)
 | 0=>vq (fun _ h=>h) (fun h=>absurd h (by decide))
 | n+1=>vq (lA n) (fun _=>iw n)
theorem dF:∀ (n:Nat) (v:Val),ip n v→ip (n+1) v
 | 0,_,h=>h.elim
 | n+1,v,h=>⟨h.1,h.2.1,h.2.2.1,fun x hx=>dF n x (h.2.2.2.1 x hx),fun x hx=>dF n x.value (h.2.2.2.2 x hx)⟩
theorem JK (v:Val)(hv:v.ok):ip 9 (aS 3 v)∧ce 9 (aS 3 v)∧(bX 9 1 (aS 3 v)).length≤1000000000000:=by
 refine⟨dF _ _ (dF _ _ (dF _ _ (dF _ _ (dF _ _ (iw 3 v hv))))),dU _ _ (dU _ _ (dU _ _ (dU _ _ (dU _ _ (ix 3 v))))),?_⟩
 rw[kv]
 exact Nat.le_trans (lz 3 9 v) (by decide)
theorem vD {n:Nat}{rec:Typ→Typ}{on:Bool}(hr:on=true→∀ t:Typ,t.ok→bm n (rec t)∧aN n (rec t)):∀ t:Typ,t.ok→bm (n+1) (dK rec on t)∧aN (n+1) (dK rec on t)
 | .mk k m M s w e f,h=>by
   rw[Typ.ok_mk] at h
   obtain⟨h1,h2,h3,h4,h5,h6,h7,h8,h9,h10⟩:=h
   have hw1:((w.take 6).map (List.take 40)).length≤1000000:=by rw[List.length_map,List.length_take];omega
   have hw2:∀ x∈(w.take 6).map (List.take 40),x.length≤1000000:=fun x hx=>by
    obtain⟨y,hy,rfl⟩:=List.mem_map.1 hx
    rw[List.length_take];omega
   simp only[dK,bm,aN]
   cases on with
   | false=>simp only[Bool.false_eq_true,if_false];exact⟨⟨hw1,hw2,by simp,by simp,by simp,by simp⟩,by simp,by simp,by simp,by simp⟩
   | true=>
     simp only[if_true]
     have hel:((e.take 2).map rec).length≤2:=by rw[List.length_map,List.length_take];omega
     have hfl:((f.take 6).map (dJ rec)).length≤6:=by rw[List.length_map,List.length_take];omega
     have he:∀ x∈(e.take 2).map rec,bm n x∧aN n x:=fun x hx=>by
      obtain⟨y,hy,rfl⟩:=List.mem_map.1 hx
      exact hr rfl y (h8 y (List.mem_of_mem_take hy))
     have hf:∀ g∈(f.take 6).map (dJ rec),(g.dflt.length≤1000000∧(∀ v∈g.dflt,ip 9 v∧ce 9 v∧(bX 9 1 v).length≤1000000000000)∧bm n g.typ)∧aN n g.typ:=fun x hx=>by
      obtain⟨y,hy,rfl⟩:=List.mem_map.1 hx
      have hy':=h10 y (List.mem_of_mem_take hy)
      obtain⟨a,b,c,t,d⟩:=y
      rw[TFd.ok_mk] at hy'
      obtain⟨_,_,_,q4,_,q6⟩:=hy'
      have hh:=hr rfl t q4
      simp only[dJ,TFd.dflt,TFd.typ]
      refine⟨⟨by rw[List.length_map,List.length_take];omega,fun v hv=>?_,hh.1⟩,hh.2⟩
      obtain⟨z,hz,rfl⟩:=List.mem_map.1 hv
      exact JK z (q6 z (List.mem_of_mem_take hz))
     exact⟨⟨hw1,hw2,by omega,by omega,fun x hx=>(he x hx).1,fun g hg=>(hf g hg).1⟩,by omega,by omega,fun x hx=>(he x hx).2,fun g hg=>(hf g hg).2⟩
theorem iy:∀ (n:Nat) (t:Typ),t.ok→bm (n+1) (bf n t)∧aN (n+1) (bf n t)
 | 0=>vD (fun h=>absurd h (by decide))
 | n+1=>vD (fun _=>iy n)
end Go.Proofs.YtbaaokocnegdoaaGreatDoor
set_option maxRecDepth 100000
set_option linter.unusedVariables false
set_option linter.unusedSimpArgs false
namespace Go.Proofs.YtbaaokocnegdoaaGreatDoor
open Go Go.Ab
attribute [local irreducible] vc
theorem Dr (s:List UInt8)(c:Int):ak Tryz.prog aD 123 [.str s,.int .u8 c] (.int .i64 (ta c.toNat.toUInt8 s 0)):=by
 generalize hq:ta c.toNat.toUInt8 s 0=q
 refine ak.intro Aw (by simp[MB]) ?_
 simp(disch:=first|exact dI|fail) only[MB,lc,lL,hq,push_cast,seval]
theorem Hx (s:List UInt8)(c:Int):ak Tryz.prog aD 73 [.str s,.int .u8 c] (.int .i64 (ta c.toNat.toUInt8 s 0)):=by
 have h22:=Dr s c
 generalize ta c.toNat.toUInt8 s 0=q at *
 refine ak.intro Ft (by simp[F73]) ?_
 simp(disch:=first|exact dI|fail) only[F73,push_cast,seval]
 refine ab.pure h22 rfl ?_
 simp(disch:=first|exact dI|fail) only[push_cast,seval]
def JL:List UInt8:=[9,44,59,124,58,94,126,35]
def gh (n:Int):Bool:=decide (0≤n)&&(decide (n<128)&&decide (0≤ta n.toNat.toUInt8 JL 0))
def nV (n:Int):Bool:=decide (n=9)||decide (n=44)||decide (n=59)||decide (n=124)||decide (n=58)||decide (n=94)||decide (n=126)||decide (n=35)
theorem JM (n:Int):gh n=nV n:=by
 by_cases h:0≤n∧n<128
 ·obtain⟨m,rfl⟩:∃ m:Nat,n=m:=⟨n.toNat,by omega⟩
  have key:∀ k:Fin 128,gh ((k.val:Nat):Int)=nV ((k.val:Nat):Int):=by decide +kernel
  exact key ⟨m,by omega⟩
 ·have h1:gh n=false:=by
   unfold gh
   by_cases h0:0≤n
   ·rw[show decide (n<128)=false by simp;omega];simp
   ·rw[show decide (0≤n)=false by simp;omega];simp
  rw[h1]
  unfold nV
  simp
  omega
theorem Hu (n:Int):ak Tryz.prog aD 47 [.int .i64 n] (.bool (gh n)):=by
 have h73:=Hx JL n
 refine ak.intro Fw (by simp[F47]) ?_
 by_cases h0:0≤n
 ·by_cases h1:n<128
  ·have e:gh n=decide (0≤ta n.toNat.toUInt8 JL 0):=by unfold gh;simp[h0,h1]
   rw[e]
   generalize ta n.toNat.toUInt8 JL 0=q at *
   have hw:=uE h0 (by omega:n≤255)
   unfold JL at h73
   by_cases hq:0≤q
   ·rw[show decide (0≤q)=true by simpa using hq]
    simp(disch:=first|exact dI|fail) only[F47,hw,push_cast,seval]
    refine ab.pure h73 rfl ?_
    simp(disch:=first|exact dI|fail) only[push_cast,seval]
   ·rw[show decide (0≤q)=false by simpa using hq]
    simp(disch:=first|exact dI|fail) only[F47,hw,push_cast,seval]
    refine ab.pure h73 rfl ?_
    simp(disch:=first|exact dI|fail) only[push_cast,seval]
  ·have e:gh n=false:=by unfold gh;simp[h1]
   rw[e]
   simp(disch:=first|exact dI|fail) only[F47,push_cast,seval]
 ·have e:gh n=false:=by unfold gh;simp[h0]
  rw[e]
  simp(disch:=first|exact dI|fail) only[F47,push_cast,seval]
set_option maxHeartbeats 2000000 in
theorem ML (n:Int):ak Tryz.prog aD 50 [.int .i64 n] (.bool (nV n)):=by
 refine ak.intro LP (by simp[F50]) ?_
 by_cases h0:n=9
 ·subst h0
  rw[show nV 9=true from rfl]
  simp(disch:=first|exact dI|fail) only[F50,push_cast,seval]
 by_cases h1:n=44
 ·subst h1
  rw[show nV 44=true from rfl]
  simp(disch:=first|exact dI|fail) only[F50,push_cast,seval]
 by_cases h2:n=59
 ·subst h2
  rw[show nV 59=true from rfl]
  simp(disch:=first|exact dI|fail) only[F50,push_cast,seval]
 by_cases h3:n=124
 ·subst h3
  rw[show nV 124=true from rfl]
  simp(disch:=first|exact dI|fail) only[F50,push_cast,seval]
 by_cases h4:n=58
 ·subst h4
  rw[show nV 58=true from rfl]
  simp(disch:=first|exact dI|fail) only[F50,push_cast,seval]
 by_cases h5:n=94
 ·subst h5
  rw[show nV 94=true from rfl]
  simp(disch:=first|exact dI|fail) only[F50,push_cast,seval]
 by_cases h6:n=126
 ·subst h6
  rw[show nV 126=true from rfl]
  simp(disch:=first|exact dI|fail) only[F50,push_cast,seval]
 by_cases h7:n=35
 ·subst h7
  rw[show nV 35=true from rfl]
  simp(disch:=first|exact dI|fail) only[F50,push_cast,seval]
 have e:nV n=false:=by
  unfold nV;simp[h0,h1,h2,h3,h4,h5,h6,h7]
 rw[e]
 simp(disch:=first|exact dI|fail) only[F50,push_cast,seval]
end Go.Proofs.YtbaaokocnegdoaaGreatDoor
set_option maxRecDepth 100000
set_option linter.unusedVariables false
set_option linter.unusedSimpArgs false
-- many steps
namespace Go.Proofs.YtbaaokocnegdoaaGreatDoor
open Go Go.Ab
attribute [local irreducible] vc
def yb (k:Int):Bool:=decide (1≤k)&&decide (k≤7)
theorem vJ (k:Int):ak Tryz.prog aD 38 [.int .i64 k] (.bool (yb k)):=by
 unfold yb
 by_cases h1:1≤k
 ·rw[decide_eq_true h1,Bool.true_and]
  refine ak.intro Fx (by simp[F38]) ?_
  simp(maxSteps:=9^7) (disch:=first|exact dI|fail) only[F38,push_cast,seval]
 ·rw[decide_eq_false h1,Bool.false_and]
  refine ak.intro Fx (by simp[F38]) ?_
  simp(maxSteps:=9^7) (disch:=first|exact dI|fail) only[F38,push_cast,seval]
theorem Bu (t:Typ)(ht:t.ok):ak Tryz.prog aD 11 [t.pv] (bf 3 t).pv:=by
 have h:=nU 3 (by omega) t ht
 rw[show ((3:Nat):Int)=3 from rfl] at h
 generalize bf 3 t=u at *
 obtain⟨k1,a1,b1,c1,w1,e1,f1⟩:=t
 obtain⟨k2,a2,b2,c2,w2,e2,f2⟩:=u
 simp only[Typ.pv_mk] at h ⊢
 refine ak.intro Mj (by simp[F11]) ?_
 simp(maxSteps:=9^7) (disch:=first|exact dI|fail) only[F11,push_cast,seval]
 refine ab.pure h rfl ?_
 simp(maxSteps:=9^7) (disch:=first|exact dI|fail) only[push_cast,seval]
def Ke (t:Typ)(n:Int):Int:=if gh n=false then 2 else if ¬ F9 4 t=0 then 18 else if tf t=false then 18 else 0
theorem Kd (t:Typ)(n:Int)(ht:bm 4 t)(hn:aN 4 t)(hf:t.fields.length≤1000000):ak Tryz.prog aD 17 [t.pv,.int .i64 n] (.int .i64 (Ke t n)):=by
 have h47:=Hu n
 have h48:=H2 4 t (by omega) ht hn
 have h49:=KK t hf
 simp only[Ke]
 generalize gh n=b at *
 generalize F9 4 t=z at *
 generalize tf t=q at *
 obtain⟨k,m,M,s,w,e,f⟩:=t
 simp only[Typ.pv_mk] at h48 h49 ⊢
 refine ak.intro Fz (by simp[F17]) ?_
 cases b with
 | false=>
   simp(maxSteps:=9^7) (disch:=first|exact dI|fail) only[F17,push_cast,seval]
   refine ab.pure h47 rfl ?_
   simp(maxSteps:=9^7) (disch:=first|exact dI|fail) only[push_cast,seval]
 | true=>
 rw[if_neg (show ¬ true=false by decide)]
 by_cases hz:z=0
 ·subst hz
  rw[if_neg (show ¬ ¬ (0:Int)=0 by decide)]
  simp(maxSteps:=9^7) (disch:=first|exact dI|fail) only[F17,push_cast,seval]
  refine ab.pure h47 rfl ?_
  simp(maxSteps:=9^7) (disch:=first|exact dI|fail) only[push_cast,seval]
  refine ab.pure h48 rfl ?_
  simp(maxSteps:=9^7) (disch:=first|exact dI|fail) only[push_cast,seval]
  refine ab.pure h49 rfl ?_
  cases q with
  | false=>simp(maxSteps:=9^7) (disch:=first|exact dI|fail) only[push_cast,seval]
  | true=>simp(maxSteps:=9^7) (disch:=first|exact dI|fail) only[push_cast,seval]
 ·rw[if_pos hz]
  simp(maxSteps:=9^7) (disch:=first|exact dI|fail) only[F17,push_cast,seval]
  refine ab.pure h47 rfl ?_
  simp(maxSteps:=9^7) (disch:=first|exact dI|fail) only[push_cast,seval]
  refine ab.pure h48 rfl ?_
  simp(maxSteps:=9^7) (disch:=first|exact dI|fail) only[hz,push_cast,seval]
theorem HV (g:TFd):mL g=!(yb g.typ.kind):=by
 unfold mL yb
 by_cases h1:g.typ.kind<1
 ·rw[decide_eq_true h1,decide_eq_false (show ¬ 1≤g.typ.kind by omega)];rfl
 ·rw[decide_eq_false h1,decide_eq_true (show 1≤g.typ.kind by omega)]
  by_cases h2:7<g.typ.kind
  ·rw[decide_eq_true h2,decide_eq_false (show ¬ g.typ.kind≤7 by omega)];rfl
  ·rw[decide_eq_false h2,decide_eq_true (show g.typ.kind≤7 by omega)];rfl
theorem Kc (t:Typ)(n:Int)(ht:bm 4 t)(hn:aN 4 t)(hf:t.fields.length≤1000000):ak Tryz.prog aD 18 [t.pv,.int .i64 n] (.int .i64 (Ke t n)):=by
 have h50:=ML n
 have h51:=H1 4 t (by omega) ht hn
 simp only[Ke,JM]
 generalize nV n=b at *
 generalize F9 4 t=z at *
 generalize hq:tf t=q
 obtain⟨k,m,M,s,w,e,f⟩:=t
 simp only[Typ.fields] at hf
 simp only[tf] at hq
 simp only[Typ.pv_mk] at h51 ⊢
 refine ak.intro Md (by simp[F18]) ?_
 cases b with
 | false=>
   simp(maxSteps:=9^7) (disch:=first|exact dI|fail) only[F18,push_cast,seval]
   refine ab.pure h50 rfl ?_
   simp(maxSteps:=9^7) (disch:=first|exact dI|fail) only[push_cast,seval]
 | true=>
 rw[if_neg (show ¬ true=false by decide)]
 by_cases hz:z=0
 ·subst hz
  rw[if_neg (show ¬ ¬ (0:Int)=0 by decide)]
  by_cases hk:k=9
  ·by_cases h0:0<f.length
   ·have h0I:¬ (f.length:Int)=0:=by omega
    rw[decide_eq_true hk,decide_eq_true h0,Bool.true_and,Bool.true_and] at hq
    obtain⟨R,hR⟩:∃ R,R=f.any mL:=⟨_,rfl⟩
    rw[← hR] at hq
    subst hq
    simp(maxSteps:=9^7) (disch:=first|exact dI|fail) only[F18,push_cast,seval]
    refine ab.pure h50 rfl ?_
    simp(maxSteps:=9^7) (disch:=first|exact dI|fail) only[push_cast,seval]
    refine ab.pure h51 rfl ?_
    simp(maxSteps:=9^7) (disch:=first|exact dI|fail) only[hk,h0I,push_cast,seval]
    refine aB ([]) (fun i:Nat=>[(5,.pv (.int .i64 (i:Int)))]) (fun _=>[]) (fun i=>i≤f.length∧R=(f.drop i).any mL) (fun i=>f.length - i) (0) ?_;intro e0 σ0 n0 h0;simp(maxSteps:=9^7) (disch:=first|exact dI|fail) only[push_cast,seval] at h0;obtain⟨rfl,rfl,rfl⟩:=h0;refine⟨?_,?_,?_⟩
    ·simp(maxSteps:=9^7) (disch:=first|exact dI|fail) only[push_cast,seval]
    ·exact⟨by omega,by simpa using hR⟩
    rintro i ⟨hi,hr⟩
    by_cases hlt:i<f.length
    ·have hltI:(i:Int)<(f.length:Int):=by omega
     obtain⟨g,hg⟩:∃ g,f[i]? = some g:=⟨_,List.getElem?_eq_getElem hlt⟩
     rw[fP hg,HV] at hr
     have hs:=vJ g.typ.kind
     obtain⟨n',nm',nd',⟨k',m',M',s',w',e',f'⟩,d'⟩:=g
     simp only[TFd.typ,Typ.kind] at hr hs
     generalize yb k'=q at hr hs
     simp(maxSteps:=9^7) (disch:=first|exact dI|fail) only[hg,Option.map_some,TFd.pv_mk,Typ.pv_mk,ae,push_cast,seval]
     refine ab.pure hs rfl ?_
     cases q with
     | false=>
       obtain rfl:R=true:=by simpa using hr
       simp(maxSteps:=9^7) (disch:=first|exact dI|fail) only[push_cast,seval]
     | true=>
       simp(maxSteps:=9^7) (disch:=first|exact dI|fail) only[push_cast,seval]
       exact⟨i+1,bg (by simp(maxSteps:=9^7) (disch:=first|exact dI|fail) only[push_cast,seval]),⟨by omega,by simpa using hr⟩,by omega⟩
    ·obtain rfl:i=f.length:=by omega
     rw[List.drop_length,List.any_nil] at hr
     subst hr
     simp(maxSteps:=9^7) (disch:=first|exact dI|fail) only[Int.lt_irrefl,push_cast,seval]
   ·have h0I:(f.length:Int)=0:=by omega
    rw[decide_eq_false h0,Bool.false_and,Bool.and_false] at hq
    subst hq
    simp(maxSteps:=9^7) (disch:=first|exact dI|fail) only[F18,push_cast,seval]
    refine ab.pure h50 rfl ?_
    simp(maxSteps:=9^7) (disch:=first|exact dI|fail) only[push_cast,seval]
    refine ab.pure h51 rfl ?_
    simp(maxSteps:=9^7) (disch:=first|exact dI|fail) only[hk,h0I,push_cast,seval]
  ·rw[decide_eq_false hk,Bool.false_and] at hq
   subst hq
   simp(maxSteps:=9^7) (disch:=first|exact dI|fail) only[F18,push_cast,seval]
   refine ab.pure h50 rfl ?_
   simp(maxSteps:=9^7) (disch:=first|exact dI|fail) only[push_cast,seval]
   refine ab.pure h51 rfl ?_
   simp(maxSteps:=9^7) (disch:=first|exact dI|fail) only[hk,push_cast,seval]
 ·rw[if_pos hz]
  simp(maxSteps:=9^7) (disch:=first|exact dI|fail) only[F18,push_cast,seval]
  refine ab.pure h50 rfl ?_
  simp(maxSteps:=9^7) (disch:=first|exact dI|fail) only[push_cast,seval]
  refine ab.pure h51 rfl ?_
  simp(maxSteps:=9^7) (disch:=first|exact dI|fail) only[hz,push_cast,seval]
theorem BH (t:Typ)(ht:t.ok)(n:Int):ak Tryz.prog aD 4 [t.pv,.int .i64 n] (.bool true):=by
 have h11:=Bu t ht
 obtain⟨htd,hnw⟩:=iy 3 t ht
 have hfl:=rB 3 t
 have h17:=Kd (bf 3 t) n htd hnw (by omega)
 have h18:=Kc (bf 3 t) n htd hnw (by omega)
 generalize Ke (bf 3 t) n=z at *
 generalize bf 3 t=u at *
 obtain⟨k1,a1,b1,c1,w1,e1,f1⟩:=t
 obtain⟨k2,a2,b2,c2,w2,e2,f2⟩:=u
 simp only[Typ.pv_mk] at h11 h17 h18
 refine ak.intro Nw (by simp[F4]) ?_
 simp(maxSteps:=9^7) (disch:=first|exact dI|fail) only[F4,Typ.pv_mk,push_cast,seval]
 refine ab.pure h11 rfl ?_
 simp(maxSteps:=9^7) (disch:=first|exact dI|fail) only[push_cast,seval]
 refine aF Dm rfl ?_
 simp(maxSteps:=9^7) (disch:=first|exact dI|fail) only[push_cast,seval]
 refine aF h17 rfl ?_
 simp(maxSteps:=9^7) (disch:=first|exact dI|fail) only[push_cast,seval]
 refine ab.pure h18 rfl ?_
 simp(maxSteps:=9^7) (disch:=first|exact dI|fail) only[push_cast,seval]
theorem GC (p0 p1:PV)(h0:HasT Tryz.prog 26 p0)(h1:HasT Tryz.prog 3 p1):ak Tryz.prog aD 4 [p0,p1] (.bool true):=by
 obtain⟨t,rfl,ht⟩:=Dz h0
 obtain⟨n,rfl,hn⟩:=dk h1 Tryz.underlying3
 exact BH t ht n
end Go.Proofs.YtbaaokocnegdoaaGreatDoor

/- A part of the proof. -/
import Derived.Test.YtamoeblcphjbaaaGreatDoorPaLQ6
set_option maxHeartbeats 16000000
set_option maxRecDepth 100000
set_option linter.unusedVariables false
set_option linter.unusedSimpArgs false
namespace Go.Proofs.YtamoeblcphjbaaaGreatDoor
open Go Go.Ab
def fo (s:List UInt8):Prop:=s.flatMap Qh=s
theorem bl {a b:List UInt8}(ha:fo a)(hb:fo b):fo (a++b):=by
 unfold fo at *;rw[List.flatMap_append,ha,hb]
theorem cj:∀ (k n:Nat),fo (bF k n)
 | 0,_=>rfl
 | k+1,n=>by
   rw[bF]
   refine bl (cj k _) ?_
   unfold fo
   have hc:(UInt8.ofNat (48+n % 10)).toNat=48+n % 10:=by
    rw[UInt8.toNat_ofNat'];omega
   simp only[List.flatMap_cons,List.flatMap_nil,List.append_nil]
   exact Rt (by omega) (by omega)
theorem kg (y:Int)(m:Nat)(d:Int):fo (fc y m d):=by
 unfold fc
 exact bl (bl (bl (bl (cj _ _) rfl) (cj _ _)) rfl) (cj _ _)
theorem py (y:Int)(m:Nat)(d:Int):(fc y m d).length=10:=by
 simp[fc,bn]
theorem rh {t:List UInt8}(ht:fo t)(h mi s ms:Nat):fo (lx t h mi s ms):=by
 unfold lx
 refine bl (bl (bl ht ?_) ?_) rfl
 ·exact bl (bl (bl (bl (bl rfl (cj _ _)) rfl) (cj _ _)) rfl) (cj _ _)
 ·split
  ·rfl
  ·exact bl rfl (cj _ _)
theorem A7 (t:List UInt8)(h mi s ms:Nat):(lx t h mi s ms).length≤t.length+14:=by
 unfold lx
 split<;>simp[bn]<;>omega
theorem F4 {n:Int}(h0:-719162≤n)(h1:n≤2932896):∃ s,(au Tryz.prog aM 43 [.int .i64 n] (.tup [.str s,.int .i64 0])∧fo s∧s.length≤10)∧∃ y m d,DateOk y m d∧n=jM y m d - 719162∧s=fc y m d:=by
 obtain⟨y,m,d,hd,he⟩:=Hv (n:=n+719162) (by omega) (by omega)
 refine⟨fc y m d,⟨?_,kg _ _ _,by rw[py];omega⟩,y,m,d,hd,by omega,rfl⟩
 have:=GI hd
 rw[← he,show n+719162 - 719162=n by omega] at this
 exact this
theorem yf {n:Int}(h0:-62135596800000≤n)(h1:n≤253402300799999):∃ s,(au Tryz.prog aM 44 [.int .i64 n] (.tup [.str s,.int .i64 0])∧fo s∧s.length≤24) ∧
  ∃ y m d,∃ h mi sc ms:Nat,DateOk y m d∧h≤23∧mi≤59∧sc≤59∧ms≤999∧n=(jM y m d - 719162)*86400000+(((60*(h:Int)+mi)*60+sc)*1000+ms)∧s=lx (fc y m d) h mi sc ms:=by
 obtain⟨D,hD⟩:∃ D,D=n / 86400000:=⟨_,rfl⟩
 obtain⟨r,hr⟩:∃ r:Nat,(r:Int)=n % 86400000:=⟨(n % 86400000).toNat,by omega⟩
 obtain⟨y,m,d,hd,he⟩:=Hv (n:=D+719162) (by omega) (by omega)
 have hr1:r<86400000:=by omega
 have hn:n=(jM y m d - 719162)*86400000+((((60*((r / 3600000:Nat):Int)+((r / 60000 % 60:Nat):Int))*60+((r / 1000 % 60:Nat):Int))*1000+((r % 1000:Nat):Int))):=by
  rw[← he];omega
 refine⟨lx (fc y m d) (r / 3600000) (r / 60000 % 60) (r / 1000 % 60) (r % 1000),⟨?_,rh (kg _ _ _) _ _ _ _,?_⟩,y,m,d,r / 3600000,r / 60000 % 60,r / 1000 % 60,r % 1000,hd,by omega,by omega,by omega,by omega,hn,rfl⟩
 ·have:=vh hd (h:=r / 3600000) (mi:=r / 60000 % 60) (s:=r / 1000 % 60) (ms:=r % 1000) (by omega) (by omega) (by omega) (by omega)
  rw[← hn] at this
  exact this
 ·have:=A7 (fc y m d) (r / 3600000) (r / 60000 % 60) (r / 1000 % 60) (r % 1000)
  rw[py] at this
  exact this
end Go.Proofs.YtamoeblcphjbaaaGreatDoor
-- many steps
namespace Go.Proofs.YtamoeblcphjbaaaGreatDoor
open Go Go.Ab
attribute [local irreducible] vc
noncomputable def SX (n:Int):List UInt8:=if h:-719162≤n∧n≤2932896 then (F4 h.1 h.2).choose else []
noncomputable def QC (n:Int):List UInt8:=if h:-62135596800000≤n∧n≤253402300799999 then (yf h.1 h.2).choose else []
noncomputable def DG:Nat→Val→List UInt8
 | 0,_=>[]
 | f+1,.mk k n s t l fs=>
   if k=0 then [110,117,108,108] else if k=1 then (if n=1 then [116,114,117,101] else [102,97,108,115,101]) else if k=2 then gu n
   else if k=3 then mz n s.toNat++(if s=0 then [100] else []) else if k=4 then zy t else if k=5 then ST t
   else if k=6 then [100,97,116,101,32]++zy (SX n) else if k=7 then [116,105,109,101,32]++zy (QC n)
   else if k=8 then [91]++gU [44,32] (l.map (DG f))++[93]
   else if k=9 then [123]++gU [44,32] (fs.map fun x=>x.name++[58,32]++DG f x.value)++[125]
   else t++[40]++DG f (l.headD (.mk 0 0 0 [] [] []))++[41]
section
variable (f:Nat)(n s:Int)(t:List UInt8)(l:List Val)(fs:List Fld)
end
end Go.Proofs.YtamoeblcphjbaaaGreatDoor
-- many steps
namespace Go.Proofs.YtamoeblcphjbaaaGreatDoor
open Go Go.Ab
attribute [local irreducible] vc
section
variable (f:Nat)(n s:Int)(t:List UInt8)(l:List Val)(fs:List Fld)
end
end Go.Proofs.YtamoeblcphjbaaaGreatDoor
-- many steps
namespace Go.Proofs.YtamoeblcphjbaaaGreatDoor
open Go Go.Ab
attribute [local irreducible] vc
section
variable (f:Nat)(n s:Int)(t:List UInt8)(l:List Val)(fs:List Fld)
end
end Go.Proofs.YtamoeblcphjbaaaGreatDoor
-- many steps
namespace Go.Proofs.YtamoeblcphjbaaaGreatDoor
open Go Go.Ab
attribute [local irreducible] vc
section
variable (f:Nat)(n s:Int)(t:List UInt8)(l:List Val)(fs:List Fld)
end
end Go.Proofs.YtamoeblcphjbaaaGreatDoor
-- many steps
namespace Go.Proofs.YtamoeblcphjbaaaGreatDoor
open Go Go.Ab
attribute [local irreducible] vc
section
variable (f:Nat)(n s:Int)(t:List UInt8)(l:List Val)(fs:List Fld)
end
end Go.Proofs.YtamoeblcphjbaaaGreatDoor
-- many steps
namespace Go.Proofs.YtamoeblcphjbaaaGreatDoor
open Go Go.Ab
attribute [local irreducible] vc
section
variable (f:Nat)(n s:Int)(t:List UInt8)(l:List Val)(fs:List Fld)
end
open Go.RowKit
end Go.Proofs.YtamoeblcphjbaaaGreatDoor
-- many steps
namespace Go.Proofs.YtamoeblcphjbaaaGreatDoor
open Go Go.Ab Go.RowKit
attribute [local irreducible] vc
end Go.Proofs.YtamoeblcphjbaaaGreatDoor
-- many steps
namespace Go.Proofs.YtamoeblcphjbaaaGreatDoor
open Go Go.Ab Go.RowKit
attribute [local irreducible] vc
def mI:Nat→Val→Prop
 | 0,_=>False
 | n+1,v=>(∀ x∈v.lst,mI n x)∧∀ x∈v.fields,mI n x.value
theorem ll:∀ (n:Nat) (v:Val),mI n v→mI (n+1) v
 | 0,_,h=>h.elim
 | n+1,v,h=>⟨fun x hx=>ll n x (h.1 x hx),fun x hx=>ll n x.value (h.2 x hx)⟩
theorem nN {n m:Nat}(h:n≤m){v:Val}(hv:mI n v):mI m v:=by
 induction h with
 | refl=>exact hv
 | step _ ih=>exact ll _ _ ih
theorem sk {α:Type}(g:α→Val):∀ l:List α,(∀ x∈l,∃ n,mI n (g x))→∃ n,∀ x∈l,mI n (g x)
 | [],_=>⟨0,by simp⟩
 | x::r,h=>by
   obtain⟨n,hn⟩:=h x (by simp)
   obtain⟨m,hm⟩:=sk g r fun y hy=>h y (List.mem_cons_of_mem _ hy)
   refine⟨max n m,fun y hy=>?_⟩
   rcases List.mem_cons.1 hy with rfl | hy
   ·exact nN (Nat.le_max_left _ _) hn
   ·exact nN (Nat.le_max_right _ _) (hm y hy)
theorem iV (v:Val):∃ n,mI n v:=by
 obtain⟨k,n,s,t,l,fs⟩:=v
 have h1:∀ x∈l,∃ n,mI n x:=fun x hx=>iV x
 have h2:∀ x∈fs,∃ n,mI n x.value:=fun x hx=>by
  obtain⟨nm,y⟩:=x
  exact iV y
 obtain⟨a,ha⟩:=sk id l h1
 obtain⟨b,hb⟩:=sk Fld.value fs h2
 exact⟨max a b+1,fun x hx=>nN (Nat.le_max_left _ _) (ha x hx),fun x hx=>nN (Nat.le_max_right _ _) (hb x hx)⟩
termination_by SizeOf.sizeOf v
decreasing_by
 ·have:=List.sizeOf_lt_of_mem hx;simp;omega
 ·have:=List.sizeOf_lt_of_mem hx;simp at this ⊢;omega
theorem nE:∀ (n:Nat) (v:Val),mI n v→r5 n v
 | 0,_,h=>h
 | n+1,v,h=>fun x hx=>by
   unfold dw at hx
   split at hx
   ·exact nE n x (h.1 x hx)
   ·split at hx
    ·obtain⟨y,hy,rfl⟩:=List.mem_map.1 hx
     exact nE n _ (h.2 y hy)
    ·simp at hx
end Go.Proofs.YtamoeblcphjbaaaGreatDoor
-- many steps
namespace Go.Proofs.YtamoeblcphjbaaaGreatDoor
open Go Go.Ab
attribute [local irreducible] vc
noncomputable def OL (v:Val):Int:=Dh 0 (jn (iV v).choose 1 v)
theorem Cg (v:Val)(hv:v.ok):au Tryz.prog aM 15 [v.pv] (.int .i64 (OL v)):=nG _ v (nE _ v (iV v).choose_spec) hv
noncomputable def Qi (v:Val)(R:Rd):Val×Int×Int:=
 if R.e=0 then (if dh v=true then (v,0,0) else if OL v=0 then (v,0,0) else (aH,(R.off:Int),OL v)) else (aH,(R.off:Int),R.e)
noncomputable def fp (s:List UInt8):Val×Int×Int:=Qi (aG srt 8 0 (bj s)).1 (cK (aG srt 8 0 (bj s)).2)
section
variable {T:Nat}{p:PV}
theorem gO (s:List UInt8):OkT (bj s):=by
 by_cases h:65536<s.length
 ·rw[jZ h];intro h;exact absurd (show (5:Int)=0 from h) (by decide)
 ·rw[iv h]
  rcases Aq (tG (s:=s) (by omega)) with h2 | h2
  ·exact h2
  ·rw[h2];exact fun _=>⟨cD,by simp[rd0],by simp[rd0],by simp[rd0],fun _=>rfl⟩
theorem mS (s:List UInt8):(bj s).s=s:=by
 by_cases h:65536<s.length
 ·rw[jZ h]
 ·rw[iv h,OZ];rfl
theorem SB (s:List UInt8):(aG srt 8 0 (bj s)).1.ok∧aF Tryz.prog (bG T p) 1 46 [.ptr 0 0,.pv (.int .i64 0)] [rdB (bj s)] (.pv (aG srt 8 0 (bj s)).1.pv) [rdB (aG srt 8 0 (bj s)).2]:=by
 by_cases h:s.length≤65536
 ·exact⟨(ob s h 8 0 _ (jC s) (gO s) (mS s)).1,Mw s h 8 0 rfl _ (jC s) (gO s) (mS s)⟩
 ·have he:¬ (bj s).e=0:=by rw[jZ (by omega)];exact fun h=>absurd (show (5:Int)=0 from h) (by decide)
  rw[oc he]
  refine⟨cU,?_⟩
  generalize bj s=R at *
  simp only[rdB,rdC,aH,Val.pv_mk]
  refine aF.intro cm (by simp[F46]) ?_
  simp(disch:=try exact dI) only[F46,he,push_cast,seval]
  exact am [] qsZ
theorem I5 (s:List UInt8):au Tryz.prog (bG T p) 18 [.str s] (.tup [(fp s).1.pv,.int .i64 (fp s).2.1,.int .i64 (fp s).2.2]):=by
 have h45:=H8 (T:=T) (p:=p) s
 obtain⟨hok,h46⟩:=SB (T:=T) (p:=p) s
 unfold fp
 generalize bj s=R0 at *
 generalize aG srt 8 0 R0=q at *
 obtain⟨v,R1⟩:=q
 simp only at hok h46 ⊢
 have h47:=FT (T:=T) (p:=p) R1
 have h16:=toE (T:=T) (p:=p) (rr v)
 have h15:=toE (T:=T) (p:=p) (Cg v hok)
 unfold Qi
 generalize cK R1=R2 at *
 generalize OL v=c at *
 generalize dh v=b at *
 obtain⟨w1,w2,w3,w4,w5,w6⟩:=v
 simp only[rdB,rdC,Val.pv_mk] at h45 h46 h47 h16 h15
 by_cases he:R2.e=0
 ·have heI:(R2.e=0)=True:=eq_true he
  rw[if_pos he]
  cases b with
  | true=>
    rw[if_pos rfl]
    refine au.intro uT (by simp[F18]) ?_
    simp(disch:=try exact dI) only[F18,Val.pv_mk,push_cast,seval]
    refine ab.lentK h45 [] rfl qsZ qsZ ?_
    refine zgZ ?_
    refine ab.lentK h46 [1] rfl qsZ qsZ ?_
    refine zgZ ?_
    refine ab.lentK h47 [1] rfl qsZ qsZ ?_
    simp(disch:=try exact dI) only[heI,push_cast,seval]
    refine ab.pure h16 rfl ?_
    simp(disch:=try exact dI) only[heI,push_cast,seval]
  | false=>
    rw[if_neg (by decide)]
    by_cases hc:c=0
    ·have hcI:(c=0)=True:=eq_true hc
     rw[if_pos hc]
     refine au.intro uT (by simp[F18]) ?_
     simp(disch:=try exact dI) only[F18,Val.pv_mk,push_cast,seval]
     refine ab.lentK h45 [] rfl qsZ qsZ ?_
     refine zgZ ?_
     refine ab.lentK h46 [1] rfl qsZ qsZ ?_
     refine zgZ ?_
     refine ab.lentK h47 [1] rfl qsZ qsZ ?_
     simp(disch:=try exact dI) only[heI,push_cast,seval]
     refine ab.pure h16 rfl ?_
     refine zgZ ?_
     refine ab.pure h15 rfl ?_
     simp(disch:=try exact dI) only[hcI,push_cast,seval]
    ·rw[if_neg hc]
     refine au.intro uT (by simp[F18]) ?_
     simp(disch:=try exact dI) only[F18,Val.pv_mk,aH,push_cast,seval]
     refine ab.lentK h45 [] rfl qsZ qsZ ?_
     refine zgZ ?_
     refine ab.lentK h46 [1] rfl qsZ qsZ ?_
     refine zgZ ?_
     refine ab.lentK h47 [1] rfl qsZ qsZ ?_
     simp(disch:=try exact dI) only[heI,push_cast,seval]
     refine ab.pure h16 rfl ?_
     refine zgZ ?_
     refine ab.pure h15 rfl ?_
     simp(disch:=try exact dI) only[hc,push_cast,seval]
 ·rw[if_neg he]
  refine au.intro uT (by simp[F18]) ?_
  simp(disch:=try exact dI) only[F18,Val.pv_mk,aH,push_cast,seval]
  refine ab.lentK h45 [] rfl qsZ qsZ ?_
  refine zgZ ?_
  refine ab.lentK h46 [1] rfl qsZ qsZ ?_
  refine zgZ ?_
  refine ab.lentK h47 [1] rfl qsZ qsZ ?_
  simp(disch:=try exact dI) only[he,push_cast,seval]
end
theorem px (c:UInt8):au Tryz.prog aM 111 [.int .u8 (c.toNat:Int)] (.bool (aJ c)):=by
 refine au.intro LH (by simp[LI]) ?_
 by_cases h1:97≤c.toNat
 ·have h1I:(97:Int)≤(c.toNat:Int):=by omega
  by_cases h2:c.toNat≤122
  ·have h2I:(c.toNat:Int)≤122:=by omega
   rw[show aJ c=true by simp[aJ,h1,h2]]
   simp(disch:=try exact dI) only[LI,h1I,h2I,push_cast,seval]
  ·have h2I:¬ (c.toNat:Int)≤122:=by omega
   rw[show aJ c=false by simp[aJ,h2];omega]
   have h3I:(65:Int)≤(c.toNat:Int):=by omega
   have h4I:¬ (c.toNat:Int)≤90:=by omega
   simp(disch:=try exact dI) only[LI,h1I,h2I,h3I,h4I,push_cast,seval]
 ·have h1I:¬ (97:Int)≤(c.toNat:Int):=by omega
  by_cases h3:65≤c.toNat
  ·have h3I:(65:Int)≤(c.toNat:Int):=by omega
   by_cases h4:c.toNat≤90
   ·have h4I:(c.toNat:Int)≤90:=by omega
    rw[show aJ c=true by simp[aJ,h3,h4]]
    simp(disch:=try exact dI) only[LI,h1I,h3I,h4I,push_cast,seval]
   ·have h4I:¬ (c.toNat:Int)≤90:=by omega
    rw[show aJ c=false by simp[aJ,h1,h4]]
    simp(disch:=try exact dI) only[LI,h1I,h3I,h4I,push_cast,seval]
  ·have h3I:¬ (65:Int)≤(c.toNat:Int):=by omega
   rw[show aJ c=false by simp[aJ,h1,h3]]
   simp(disch:=try exact dI) only[LI,h1I,h3I,push_cast,seval]
theorem dO (c:UInt8):au Tryz.prog aM 112 [.int .u8 (c.toNat:Int)] (.bool (isD c)):=by
 refine au.intro LG (by simp[P6]) ?_
 by_cases h1:48≤c.toNat
 ·have h1I:(48:Int)≤(c.toNat:Int):=by omega
  by_cases h2:c.toNat≤57
  ·have h2I:(c.toNat:Int)≤57:=by omega
   rw[show isD c=true by simp[isD,h1,h2]]
   simp(disch:=try exact dI) only[P6,h1I,h2I,push_cast,seval]
  ·have h2I:¬ (c.toNat:Int)≤57:=by omega
   rw[show isD c=false by simp[isD,h2]]
   simp(disch:=try exact dI) only[P6,h1I,h2I,push_cast,seval]
 ·have h1I:¬ (48:Int)≤(c.toNat:Int):=by omega
  rw[show isD c=false by simp[isD,h1]]
  simp(disch:=try exact dI) only[P6,h1I,push_cast,seval]
theorem Oa {c:UInt8}(h:48≤c.toNat∧c.toNat≤57):lE c=(c.toNat:Int) - 48:=by
 unfold lE eG;rw[if_pos h];simp only;omega
theorem N9 {c:UInt8}(h:¬ (48≤c.toNat∧c.toNat≤57))(h2:97≤c.toNat∧c.toNat≤102):lE c=(c.toNat:Int) - 97+10:=by
 unfold lE eG;rw[if_neg h,if_pos h2];simp only;omega
theorem N8 {c:UInt8}(h:¬ (48≤c.toNat∧c.toNat≤57))(h2:¬ (97≤c.toNat∧c.toNat≤102))(h3:65≤c.toNat∧c.toNat≤70):lE c=(c.toNat:Int) - 65+10:=by
 unfold lE eG;rw[if_neg h,if_neg h2,if_pos h3];simp only;omega
theorem N7 {c:UInt8}(h:¬ (48≤c.toNat∧c.toNat≤57))(h2:¬ (97≤c.toNat∧c.toNat≤102))(h3:¬ (65≤c.toNat∧c.toNat≤70)):lE c = -1:=by
 unfold lE eG;rw[if_neg h,if_neg h2,if_neg h3]
theorem Hm (c:UInt8):au Tryz.prog aM 183 [.int .u8 (c.toNat:Int)] (.int .i64 (lE c)):=by
 have hd:=dO c
 have hlt:c.toNat<256:=c.toNat_lt
 refine au.intro K6 (by simp[HH]) ?_
 by_cases h1:48≤c.toNat∧c.toNat≤57
 ·rw[Oa h1]
  rw[show isD c=true by simp[isD,h1.1,h1.2]] at hd
  have e1:=e8 (n:=(c.toNat:Int) - 48) (by omega) (by omega)
  simp(disch:=try exact dI) only[HH,push_cast,seval]
  refine ab.pure hd rfl ?_
  simp(disch:=try exact dI) only[e1,push_cast,seval]
 ·have hdf:isD c=false:=by
   unfold isD
   simp only[Bool.and_eq_false_iff,decide_eq_false_iff_not];omega
  rw[hdf] at hd
  by_cases h2:97≤c.toNat∧c.toNat≤102
  ·rw[N9 h1 h2]
   have a1:(97:Int)≤(c.toNat:Int):=by omega
   have a2:(c.toNat:Int)≤102:=by omega
   have e1:=e8 (n:=(c.toNat:Int) - 97) (by omega) (by omega)
   simp(disch:=try exact dI) only[HH,push_cast,seval]
   refine ab.pure hd rfl ?_
   simp(disch:=try exact dI) only[a1,a2,e1,push_cast,seval]
  ·by_cases h3:65≤c.toNat∧c.toNat≤70
   ·rw[N8 h1 h2 h3]
    have a1:¬ (97:Int)≤(c.toNat:Int):=by omega
    have a3:(65:Int)≤(c.toNat:Int):=by omega
    have a4:(c.toNat:Int)≤70:=by omega
    have e1:=e8 (n:=(c.toNat:Int) - 65) (by omega) (by omega)
    simp(disch:=try exact dI) only[HH,push_cast,seval]
    refine ab.pure hd rfl ?_
    simp(disch:=try exact dI) only[a1,a3,a4,e1,push_cast,seval]
   ·rw[N7 h1 h2 h3]
    by_cases h4:97≤c.toNat
    ·have a1:(97:Int)≤(c.toNat:Int):=by omega
     have a2:¬ (c.toNat:Int)≤102:=by omega
     have a3:(65:Int)≤(c.toNat:Int):=by omega
     have a4:¬ (c.toNat:Int)≤70:=by omega
     simp(disch:=try exact dI) only[HH,push_cast,seval]
     refine ab.pure hd rfl ?_
     simp(disch:=try exact dI) only[a1,a2,a3,a4,push_cast,seval]
    ·have a1:¬ (97:Int)≤(c.toNat:Int):=by omega
     by_cases h5:65≤c.toNat
     ·have a3:(65:Int)≤(c.toNat:Int):=by omega
      have a4:¬ (c.toNat:Int)≤70:=by omega
      simp(disch:=try exact dI) only[HH,push_cast,seval]
      refine ab.pure hd rfl ?_
      simp(disch:=try exact dI) only[a1,a3,a4,push_cast,seval]
     ·have a3:¬ (65:Int)≤(c.toNat:Int):=by omega
      simp(disch:=try exact dI) only[HH,push_cast,seval]
      refine ab.pure hd rfl ?_
      simp(disch:=try exact dI) only[a1,a3,push_cast,seval]
def A (s:List UInt8)(i:Nat):Rd:=aY ⟨s,i,{},0,0⟩
theorem uD:∀ (a r:List UInt8),(∀ b∈a,b≠125)→fV 125 (a++125::r)=some (a,r)
 | [],r,_=>by rw[List.nil_append,fV,if_pos rfl]
 | c::a,r,h=>by
   rw[List.cons_append,fV,if_neg (h c (by simp)),uD a r fun b hb=>h b (List.mem_cons_of_mem _ hb)];rfl
structure Mo where
 s:List UInt8
 nx:Nat
 k:Nat:=0
 p:Nat:=0
 x:List UInt8:=[]
 v:List UInt8:=[]
 e:Int:=0
 bad:Nat:=0
def moC (M:Mo):List AV:=[.pv (.str M.s),.pv (.int .i64 (M.nx:Int)),.pv (.int .u8 (M.k:Int)),.pv (.int .i64 (M.p:Int)),.pv (.str M.x),.pv (.str M.v),.pv (.int .i64 M.e),.pv (.int .i64 (M.bad:Int))]
def moB (M:Mo):Blk:=.cells 95 true (moC M)
def aU (M:Mo)(e:Int)(i:Nat):Mo:=if M.e=0 then { M with e:=e,bad:=i } else M
section
variable {T:Nat}{p:PV}
theorem dC (M:Mo)(i:Nat)(e:Int):aF Tryz.prog (bG T p) 1 55 [.ptr 0 0,.pv (.int .i64 e),.pv (.int .i64 (i:Int))] [moB M] (.pv (.tup [])) [moB (aU M e i)]:=by
 refine aF.intro PB (by simp[F55]) ?_
 by_cases h:M.e=0
 ·have hI:(M.e=0)=True:=eq_true h
  rw[aU,if_pos h]
  simp(disch:=try exact dI) only[F55,moB,moC,hI,push_cast,seval]
  exact am [] (by simp(disch:=try exact dI) only[moB,moC,push_cast,seval])
 ·rw[aU,if_neg h]
  simp(disch:=try exact dI) only[F55,moB,moC,h,push_cast,seval]
  exact am [] (by simp(disch:=try exact dI) only[moB,moC,push_cast,seval])
end
def ptL:Nat→Nat→Nat→List UInt8→Nat×Nat
 | 0,n,i,_=>(n,i)
 | _,n,i,[]=>(n,i)
 | k+1,n,i,c::r=>match eG c with
   | some d=>ptL k (16*n+d) (i+1) r
   | none=>(n,i)
theorem I0 (k n i:Nat):ptL k n i []=(n,i):=by cases k<;>rfl
theorem mZ (n i:Nat)(r:List UInt8):ptL 0 n i r=(n,i):=by cases r<;>rfl
theorem tz (k n i:Nat)(c:UInt8)(r:List UInt8):ptL (k+1) n i (c::r)=match eG c with
  | some d=>ptL k (16*n+d) (i+1) r
  | none=>(n,i):=rfl
theorem m4:∀ (k n i:Nat) (r:List UInt8),∃ Q R,r=Q++R∧Q.length≤k∧js n Q=some (ptL k n i r).1∧(ptL k n i r).2=i+Q.length∧(∀ c∈Q,(eG c).isSome=true)∧(Q.length=k∨∀ c,R.head? = some c→eG c=none)
 | 0,n,i,r=>⟨[],r,rfl,Nat.le_refl _,by rw[mZ];rfl,by rw[mZ];rfl,(fun c hc=>by cases hc),.inl rfl⟩
 | k+1,n,i,[]=>⟨[],[],rfl,Nat.zero_le _,rfl,rfl,(fun c hc=>by cases hc),.inr fun c hc=>by cases hc⟩
 | k+1,n,i,c::r=>by
   rw[tz]
   cases hc:eG c with
   | none=>exact⟨[],c::r,rfl,Nat.zero_le _,rfl,rfl,(fun c hc=>by cases hc),.inr fun b hb=>by cases hb;exact hc⟩
   | some d=>
     obtain⟨Q,R,h1,h2,h3,h4,h5,h6⟩:=m4 k (16*n+d) (i+1) r
     refine⟨c::Q,R,by rw[h1];rfl,by rw[List.length_cons];omega,?_,by simp only[List.length_cons];omega,?_,?_⟩
     ·rw[js,hc];exact h3
     ·intro b hb
      rcases List.mem_cons.1 hb with rfl | hb
      ·rw[hc];rfl
      ·exact h5 b hb
     ·rcases h6 with h6 | h6
      ·exact .inl (by rw[List.length_cons];omega)
      ·exact .inr h6
def bZ (s:List UInt8)(a:Nat):Nat×Nat:=
 if s[a]? = some 123 then (if (ptL 6 0 (a+1) (s.drop (a+1))).2=a+1∨s[(ptL 6 0 (a+1) (s.drop (a+1))).2]?≠some 125 then (0,0) else ((ptL 6 0 (a+1) (s.drop (a+1))).1,(ptL 6 0 (a+1) (s.drop (a+1))).2+1)) else (0,0)
end Go.Proofs.YtamoeblcphjbaaaGreatDoor

/- A part. -/
import Derived.Test.YtngchmkoadaecaaGreatDoorClJL0
set_option linter.unusedVariables false
set_option linter.unusedSimpArgs false
set_option maxRecDepth 100000
open List renaming length_append->Uy
namespace Go.Proofs.YtngchmkoadaecaaGreatDoor
open Go Go.Ab
def ed:List UInt8:=[115,99,104,101,109,97,115]
def cy:List UInt8:=[101,110,100,112,111,105,110,116,115]
def dc:List UInt8:=[115,101,114,118,105,99,101,115]
def fQ:List UInt8:=[114,111,117,116,101,115]
def jo:List UInt8:=[115,116,101,112,115]
def fR:List UInt8:=[108,101,118,101,108,115]
def kW:List UInt8:=[110,111,100,101,115]
def ec:List UInt8:=[118,101,114,115,105,111,110]
def HE (ws:List Wkd):Bool:=ws.any fun w=>decide (7<w.place.length)
def LJ (p:Prg)(ws:List Wkd):List Prb:=
 aL [] [] (decide ((64:Int)<(p.schemas.length:Int))) 16 ed++(aL [] [] (decide ((64:Int)<(p.endpoints.length:Int))) 16 cy++(aL [] [] (decide ((64:Int)<(p.services.length:Int))) 16 dc ++
 (aL [] [] (decide ((64:Int)<(p.routes.length:Int))) 16 fQ++(aL [] [] (decide ((64:Int)<(ws.length:Int))) 16 jo++(aL [] [] (HE ws) 16 fR ++
 aL [] [] (decide ((128:Int)<(p.endpoints.length:Int)+(p.services.length:Int)+(ws.length:Int))) 16 kW)))))
section
variable (isN:List UInt8->Bool)(chk:Sch->Bool)
def QZ (p:Prg)(x:Sch)(i:Nat):List Prb:=
 aL [] [] (!isN x.name) 1 x.name++(aL [] [] (isN x.name&&chk x) 5 x.name++aL [] [] (decide (cj (p.schemas.findIdx? (vsn x.name x.version))<(i:Int))) 2 x.name)
def xS (p:Prg)(N:NS)(x:Enp)(_:Nat):List Prb×NS:=
 (aL [] [] (!isN x.name) 1 x.name++(aL [] [] (decide (x.name∈N)) 2 x.name++(aL [] [] (!inR x.kind 1 3||!inR x.format.kind 1 4) 5 x.name++aL [] [] (!m7 p x.schema x.version) 3 x.schema)),ff N x.name)
def D0 (p:Prg)(N:NS)(x:Svc)(_:Nat):List Prb×NS:=
 (aL [] [] (!isN x.name) 1 x.name++(aL [] [] (decide (x.name∈N)) 2 x.name++(aL [] [] (!dN p x.request) 3 x.request++aL [] [] (!dN p x.reply) 3 x.reply)),ff N x.name)
def thO (p:Prg):List Prb×NS:=
 (aL [] [] (!inR p.version 1 999) 5 ec++(aJ (QZ isN chk p) p.schemas++((ixO (xS isN p) [] 0 p.endpoints).1++(ixO (D0 isN p) (ixO (xS isN p) [] 0 p.endpoints).2 0 p.services).1)),
  (ixO (D0 isN p) (ixO (xS isN p) [] 0 p.endpoints).2 0 p.services).2)
def Q1 (p:Prg)(r:Rou)(i:Nat):List Prb:=
 aL r.name [] (!isN r.name) 1 r.name++(aL r.name [] ((p.routes.take i).any fun x=>decide (x.name=r.name)) 2 r.name++(aL r.name [] (!fa p r.src) 3 r.src ++
 (aL r.name [] (px p r.src 2) 4 r.src++(aL r.name [] ((p.routes.take i).any fun x=>decide (x.src=r.src)) 2 r.src++aL r.name [] (!dZ r.steps) 6 []))))
def Oj (p:Prg)(n:Nat)(N:NS)(r:Rou)(i:Nat):List Prb×NS:=
 (Q1 isN p r i++(bx isN p i r.name n [] r.steps N).1,(bx isN p i r.name n [] r.steps N).2)
def KQ (p:Prg)(n:Nat):List Prb:=(thO isN chk p).1++(ixO (Oj isN p n) (thO isN chk p).2 0 p.routes).1
def AN (p:Prg)(n:Nat):List Prb:=if LJ p (cJ n p)=[] then KQ isN chk p n else LJ p (cJ n p)
end
theorem aD {α:Type}{a b:List α}{m n:Nat}(h1:a.length<=m)(h2:b.length<=n):(a++b).length<=m+n:=by rw[Uy];omega
theorem tC (p:Prg)(rn:List UInt8)(pl:List Int)(kind:Int)(n:Nat)(c:Cal)(k:Nat):(ME p rn pl kind n c k).length<=2:=aD (am _ _ _ _ _) (am _ _ _ _ _)
theorem yK (p:Prg)(rn:List UInt8)(pl:List Int)(k:Int)(t:List UInt8):(toO p rn pl k t).length<=2:=by
 unfold toO
 split
 ·exact aD (am _ _ _ _ _) (am _ _ _ _ _)
 ·simp
theorem EK (p:Prg)(rn:List UInt8)(pl:List Int)(k:Int)(t g:List UInt8)(cl:List Cal)(hc:cl.length<=18):(ND p rn pl k t g cl).length<=39:=by
 unfold ND
 have h1:=bn (ME p rn pl k cl.length) 2 cl fun c _ i=>tC _ _ _ _ _ _ _
 have h2:=yK p rn pl k t
 have h3:=am rn pl (!decide (g=[])&&!dN p g) 3 g
 rw[Uy,Uy]
 omega
theorem se (p:Prg)(rn:List UInt8)(pl:List Int)(s:Stp)(hc:s.calls.length<=18):(JF p rn pl s).length<=39:=EK _ _ _ _ _ _ _ hc
section
variable (isN:List UInt8->Bool)(chk:Sch->Bool)
theorem JN (rn:List UInt8)(N:NS)(nm0 nm:List UInt8)(pl:List Int)(beh:List Prb)(ok:Bool)(sub:List Prb)(hs:sub.length<=39)(hb:beh.length<=1):(stF isN rn N nm0 nm pl beh ok sub).length<=42:=by
 unfold stF
 refine aD (m:=1) (n:=41) (am _ _ _ _ _) (aD (m:=1) (n:=40) (am _ _ _ _ _) (aD (m:=1) (n:=39) hb ?_))
 split
 ·exact hs
 ·exact Nat.le_trans (am _ _ _ _ _) (by omega)
theorem zf (p:Prg)(route:Int)(rn:List UInt8)(N:NS)(s:Stp)(pl:List Int)(beh:List Prb)(hc:s.calls.length<=18)(hb:beh.length<=1):(stO isN p route rn N s pl beh).1.length<=42:=
 JN isN rn N _ _ pl beh _ _ (se p rn pl s hc) hb
end
def M6:Nat->List Stp->Prop
 | 0,_=>True
 | n+1,l=>∀ s∈l,s.calls.length<=18/\∀ b∈s.branches,M6 n b.steps
theorem fl (isN:List UInt8->Bool)(p:Prg)(route:Int)(rn:List UInt8):∀ (n:Nat) (pl:List Int) (l:List Stp) (N:NS),Bnd n l->M6 n l->(bx isN p route rn n pl l N).1.length<=42*cnt n
 | 0,pl,l,N,_,_=>by simp[bx]
 | n+1,pl,l,N,hB,hC=>by
   obtain⟨h1,h2⟩:=hB
   rw[bx,cnt]
   refine Nat.le_trans (dG _ (42*(1+4*cnt n)) l N 0 fun s hs N i=>?_) ?_
   ·obtain⟨h3,h4⟩:=h2 s hs
    obtain⟨h5,h6⟩:=hC s hs
    have ha:=zf isN p route rn N s (pl++[(i:Int)]) (aL rn (pl++[(i:Int)]) (iW l i) 7 []) h5 (am _ _ _ _ _)
    have hb:=dG (fun N b j=>bx isN p route rn n ((pl++[(i:Int)])++[(j:Int)]) (Bra.steps b) N) (42*cnt n) s.branches (stO isN p route rn N s (pl++[(i:Int)]) (aL rn (pl++[(i:Int)]) (iW l i) 7 [])).2 0
     fun b hb N j=>fl isN p route rn n _ _ N (h4 b hb) (h6 b hb)
    have h7:s.branches.length*(42*cnt n)<=4*(42*cnt n):=Nat.mul_le_mul_right _ h3
    simp only[Uy]
    omega
   ·have:l.length*(42*(1+4*cnt n))<=8*(42*(1+4*cnt n)):=Nat.mul_le_mul_right _ h1
    omega
theorem xQ (a lo hi:Int):ap Tryz.prog aB 53 [.int .i64 a,.int .i64 lo,.int .i64 hi] (.bool (inR a lo hi)):=by
 refine ap.intro Q53.2 (by simp[Q53]) ?_
 unfold inR
 by_cases h1:lo<=a
 ·by_cases h2:a<=hi
  ·simp(maxSteps:=9^7) (disch:=try exact dI) only[Q53,push_cast,seval]
  ·simp(maxSteps:=9^7) (disch:=try exact dI) only[Q53,push_cast,seval]
 ·simp(maxSteps:=9^7) (disch:=try exact dI) only[Q53,push_cast,seval]
theorem Ms (p:List Int)(hm:p.length<=1000000):ap Tryz.prog aB 85 [.list (p.map (PV.int .i64))] (.list (p.map (PV.int .i64))):=by
 refine ap.intro Q85.2 (by simp[Q85]) ?_
 cases p with
 | nil=>
   simp(maxSteps:=9^7) (disch:=try exact dI) only[Q85,push_cast,seval]
   intro b
   cases b<;>simp(maxSteps:=9^7) (disch:=try exact dI) only[push_cast,seval]
 | cons x r=>
   rw[List.length_cons] at hm
   simp(maxSteps:=9^7) (disch:=try exact dI) only[Q85,push_cast,seval]
def fD (rn:List UInt8)(pl:List Int)(out:List Prb)(q:Nat):Blk:=.cells 85 true [.pv (.str rn),.pv (.list (pl.map (PV.int .i64))),.olist q 4 (out.map Prb.pv)]
theorem bp (rn:List UInt8)(pl:List Int)(out:List Prb)(is:Bool)(c:Int)(nm:List UInt8)(hp:pl.length<=1000000)(hl:out.length<=100000000000) :
  bA Tryz.prog aB 1 31 [.ptr 0 0,.pv (.bool is),.pv (.int .i64 c),.pv (.str nm)] [fD rn pl out 1,.tok 82 4] (.pv (.tup [])) [fD rn pl (out++aL rn pl is c nm) 1,.tok 82 4]:=by
 refine bA.intro Q31.2 (by simp[Q31]) ?_
 simp only[fD]
 cases is with
 | false=>
   rw[OE,List.append_nil]
   simp(maxSteps:=9^7) (disch:=try exact dI) only[Q31,fD,push_cast,seval]
   exact aI [] (by simp(maxSteps:=9^7) (disch:=try exact dI) only[fD,push_cast,seval])
 | true=>
   rw[OD]
   simp(maxSteps:=9^7) (disch:=try exact dI) only[Q31,fD,push_cast,seval]
   refine au (Ms pl hp) rfl ?_
   simp(maxSteps:=9^7) (disch:=try exact dI) only[push_cast,seval]
   exact aI [] (by simp(maxSteps:=9^7) (disch:=try exact dI) only[fD,List.map_append,T2,push_cast,seval])
theorem Ek (s:List UInt8):ap Tryz.prog aB 105 [.str s] (.bool (Lib.validD s)):=by
 refine ap.intro S8.2 (by simp[S8]) ?_
 simp(maxSteps:=9^7) (disch:=try exact dI) only[S8,push_cast,seval]
 refine ab.pure (fF s) rfl ?_
 simp(maxSteps:=9^7) (disch:=try exact dI) only[push_cast,seval]
theorem sm (s:List UInt8):ap Tryz.prog aB 66 [.str s] (.bool (dD s)):=by
 have h1:=xQ s.length 1 64
 have h2:=Ek s
 unfold dD
 generalize inR s.length 1 64=a at *
 generalize Lib.validD s=b at *
 refine ap.intro Q66.2 (by simp[Q66]) ?_
 simp(maxSteps:=9^7) (disch:=try exact dI) only[Q66,push_cast,seval]
 refine ab.pure h1 rfl ?_
 cases a with
 | false=>simp(maxSteps:=9^7) (disch:=try exact dI) only[push_cast,seval]
 | true=>
   simp(maxSteps:=9^7) (disch:=try exact dI) only[push_cast,seval]
   refine ab.pure h2 rfl ?_
   simp(maxSteps:=9^7) (disch:=try exact dI) only[push_cast,seval]
theorem ou (s:Stp):ap Tryz.prog aB 70 [s.pv] (.bool (cw s)):=by
 have h1:=xQ s.time 0 17592186044416
 have h2:=xQ s.limit 1 256
 unfold cw
 generalize hA:inR s.time 0 17592186044416=a at *
 generalize hB:inR s.limit 1 256=b at *
 clear hA hB
 obtain⟨nm,k,c,d,e,f,g,h,i,j,w⟩:=s
 simp only[Stp.time,Stp.limit] at h1 h2
 refine ap.intro Q70.2 (by simp[Q70]) ?_
 simp(maxSteps:=9^7) (disch:=try exact dI) only[Q70,Ud,push_cast,seval]
 refine ab.pure h1 rfl ?_
 cases a with
 | false=>simp(maxSteps:=9^7) (disch:=try exact dI) only[push_cast,seval]
 | true=>
   simp(maxSteps:=9^7) (disch:=try exact dI) only[push_cast,seval]
   refine ab.pure h2 rfl ?_
   simp(maxSteps:=9^7) (disch:=try exact dI) only[push_cast,seval]
theorem KO (s:Stp):ap Tryz.prog aB 65 [s.pv] (.bool (decide (s.exprs.length=1)&&dD s.text)):=by
 have h1:=sm s.text
 generalize hA:dD s.text=a at *
 clear hA
 obtain⟨nm,k,c,d,e,f,g,h,i,j,w⟩:=s
 simp only[Stp.exprs,Stp.text] at h1 ⊢
 refine ap.intro Q65.2 (by simp[Q65]) ?_
 by_cases hl:h.length=1
 ·have hI:(h.length:Int)=1:=by omega
  simp(maxSteps:=9^7) (disch:=try exact dI) only[Q65,Ud,hI,push_cast,seval]
  refine ab.pure h1 rfl ?_
  simp(maxSteps:=9^7) (disch:=try exact dI) only[hl,push_cast,seval]
 ·have hI:¬ (h.length:Int)=1:=by omega
  simp(maxSteps:=9^7) (disch:=try exact dI) only[Q65,Ud,hI,hl,push_cast,seval]
theorem KN (s:Stp):ap Tryz.prog aB 67 [s.pv] (.bool (!decide (s.schema=[]))):=by
 obtain⟨nm,k,c,d,e,f,g,h,i,j,w⟩:=s
 simp only[Stp.schema]
 refine ap.intro Q67.2 (by simp[Q67]) ?_
 by_cases hl:g=[]
 ·simp(maxSteps:=9^7) (disch:=try exact dI) only[Q67,Ud,hl,push_cast,seval]
 ·simp(maxSteps:=9^7) (disch:=try exact dI) only[Q67,Ud,hl,push_cast,seval]
theorem KL (s:Stp):ap Tryz.prog aB 68 [s.pv] (.bool (!decide (s.text=[])&&!decide (s.schema=[]))):=by
 obtain⟨nm,k,c,d,e,f,g,h,i,j,w⟩:=s
 simp only[Stp.schema,Stp.text]
 refine ap.intro Q68.2 (by simp[Q68]) ?_
 by_cases hl:f=[]
 ·simp(maxSteps:=9^7) (disch:=try exact dI) only[Q68,Ud,hl,push_cast,seval]
 ·by_cases hg:g=[]
  ·simp(maxSteps:=9^7) (disch:=try exact dI) only[Q68,Ud,hl,hg,push_cast,seval]
  ·simp(maxSteps:=9^7) (disch:=try exact dI) only[Q68,Ud,hl,hg,push_cast,seval]
theorem KK (s:Stp):ap Tryz.prog aB 69 [s.pv] (.bool (inR s.exprs.length 1 2&&inR s.number 0 256&&!decide (s.schema=[])&&cw s)):=by
 have h1:=xQ s.exprs.length 1 2
 have h2:=xQ s.number 0 256
 have h3:=ou s
 generalize inR s.exprs.length 1 2=a at *
 generalize inR s.number 0 256=b at *
 generalize cw s=q at *
 obtain⟨nm,k,c,d,e,f,g,h,i,j,w⟩:=s
 simp only[Stp.exprs,Stp.number,Stp.schema,Ud] at h1 h2 h3 ⊢
 refine ap.intro Q69.2 (by simp[Q69]) ?_
 cases a with
 | false=>
   simp(maxSteps:=9^7) (disch:=try exact dI) only[Q69,push_cast,seval]
   refine ab.pure h1 rfl ?_
   simp(maxSteps:=9^7) (disch:=try exact dI) only[push_cast,seval]
 | true=>
 cases b with
 | false=>
   simp(maxSteps:=9^7) (disch:=try exact dI) only[Q69,push_cast,seval]
   refine ab.pure h1 rfl ?_
   simp(maxSteps:=9^7) (disch:=try exact dI) only[push_cast,seval]
   refine ab.pure h2 rfl ?_
   simp(maxSteps:=9^7) (disch:=try exact dI) only[push_cast,seval]
 | true=>
 by_cases hg:g=[]
 ·subst hg
  simp(maxSteps:=9^7) (disch:=try exact dI) only[Q69,push_cast,seval]
  refine ab.pure h1 rfl ?_
  simp(maxSteps:=9^7) (disch:=try exact dI) only[push_cast,seval]
  refine ab.pure h2 rfl ?_
  simp(maxSteps:=9^7) (disch:=try exact dI) only[push_cast,seval]
 ·simp(maxSteps:=9^7) (disch:=try exact dI) only[Q69,push_cast,seval]
  refine ab.pure h1 rfl ?_
  simp(maxSteps:=9^7) (disch:=try exact dI) only[push_cast,seval]
  refine ab.pure h2 rfl ?_
  simp(maxSteps:=9^7) (disch:=try exact dI) only[hg,push_cast,seval]
  refine ab.pure h3 rfl ?_
  simp(maxSteps:=9^7) (disch:=try exact dI) only[hg,push_cast,seval]
theorem KJ (s:Stp):ap Tryz.prog aB 71 [s.pv] (.bool (decide (s.exprs.length=2)&&cw s)):=by
 have h3:=ou s
 generalize cw s=q at *
 obtain⟨nm,k,c,d,e,f,g,h,i,j,w⟩:=s
 simp only[Stp.exprs,Ud] at h3 ⊢
 refine ap.intro Q71.2 (by simp[Q71]) ?_
 by_cases hl:h.length=2
 ·have hI:(h.length:Int)=2:=by omega
  simp(maxSteps:=9^7) (disch:=try exact dI) only[Q71,hI,push_cast,seval]
  refine ab.pure h3 rfl ?_
  simp(maxSteps:=9^7) (disch:=try exact dI) only[hl,push_cast,seval]
 ·have hI:¬ (h.length:Int)=2:=by omega
  simp(maxSteps:=9^7) (disch:=try exact dI) only[Q71,hI,hl,push_cast,seval]
theorem KI (s:Stp):ap Tryz.prog aB 72 [s.pv] (.bool (decide (s.exprs.length=1)&&inR s.number 1 256)):=by
 have h3:=xQ s.number 1 256
 generalize inR s.number 1 256=q at *
 obtain⟨nm,k,c,d,e,f,g,h,i,j,w⟩:=s
 simp only[Stp.exprs,Stp.number,Ud] at h3 ⊢
 refine ap.intro Q72.2 (by simp[Q72]) ?_
 by_cases hl:h.length=1
 ·have hI:(h.length:Int)=1:=by omega
  simp(maxSteps:=9^7) (disch:=try exact dI) only[Q72,hI,push_cast,seval]
  refine ab.pure h3 rfl ?_
  simp(maxSteps:=9^7) (disch:=try exact dI) only[hl,push_cast,seval]
 ·have hI:¬ (h.length:Int)=1:=by omega
  simp(maxSteps:=9^7) (disch:=try exact dI) only[Q72,hI,hl,push_cast,seval]
theorem KH (s:Stp):ap Tryz.prog aB 73 [s.pv] (.bool (inR s.number 1 256&&decide (1<=s.time)&&cw s)):=by
 have h1:=xQ s.number 1 256
 have h3:=ou s
 generalize inR s.number 1 256=a at *
 generalize cw s=q at *
 obtain⟨nm,k,c,d,e,f,g,h,i,j,w⟩:=s
 simp only[Stp.number,Stp.time,Ud] at h1 h3 ⊢
 refine ap.intro Q73.2 (by simp[Q73]) ?_
 cases a with
 | false=>
   simp(maxSteps:=9^7) (disch:=try exact dI) only[Q73,push_cast,seval]
   refine ab.pure h1 rfl ?_
   simp(maxSteps:=9^7) (disch:=try exact dI) only[push_cast,seval]
 | true=>
 by_cases hd:1<=d
 ·simp(maxSteps:=9^7) (disch:=try exact dI) only[Q73,push_cast,seval]
  refine ab.pure h1 rfl ?_
  simp(maxSteps:=9^7) (disch:=try exact dI) only[hd,push_cast,seval]
  refine ab.pure h3 rfl ?_
  simp(maxSteps:=9^7) (disch:=try exact dI) only[hd,push_cast,seval]
 ·simp(maxSteps:=9^7) (disch:=try exact dI) only[Q73,push_cast,seval]
  refine ab.pure h1 rfl ?_
  simp(maxSteps:=9^7) (disch:=try exact dI) only[hd,push_cast,seval]
theorem KG (s:Stp):ap Tryz.prog aB 74 [s.pv] (.bool (decide (1<=s.time)&&cw s)):=by
 have h3:=ou s
 generalize cw s=q at *
 obtain⟨nm,k,c,d,e,f,g,h,i,j,w⟩:=s
 simp only[Stp.time,Ud] at h3 ⊢
 refine ap.intro Q74.2 (by simp[Q74]) ?_
 by_cases hd:1<=d
 ·simp(maxSteps:=9^7) (disch:=try exact dI) only[Q74,hd,push_cast,seval]
  refine ab.pure h3 rfl ?_
  simp(maxSteps:=9^7) (disch:=try exact dI) only[hd,push_cast,seval]
 ·simp(maxSteps:=9^7) (disch:=try exact dI) only[Q74,hd,push_cast,seval]
theorem tA (s:Stp)(n:Int):ap Tryz.prog aB 76 [s.pv,.int .i64 n] (.bool (inR s.calls.length 1 n&&!decide (s.schema=[])&&cw s)):=by
 have h1:=xQ s.calls.length 1 n
 have h3:=ou s
 generalize inR s.calls.length 1 n=a at *
 generalize cw s=q at *
 obtain⟨nm,k,c,d,e,f,g,h,i,j,w⟩:=s
 simp only[Stp.calls,Stp.schema,Ud] at h1 h3 ⊢
 refine ap.intro Q76.2 (by simp[Q76]) ?_
 cases a with
 | false=>
   simp(maxSteps:=9^7) (disch:=try exact dI) only[Q76,push_cast,seval]
   refine ab.pure h1 rfl ?_
   simp(maxSteps:=9^7) (disch:=try exact dI) only[push_cast,seval]
 | true=>
 by_cases hg:g=[]
 ·subst hg
  simp(maxSteps:=9^7) (disch:=try exact dI) only[Q76,push_cast,seval]
  refine ab.pure h1 rfl ?_
  simp(maxSteps:=9^7) (disch:=try exact dI) only[push_cast,seval]
 ·simp(maxSteps:=9^7) (disch:=try exact dI) only[Q76,push_cast,seval]
  refine ab.pure h1 rfl ?_
  simp(maxSteps:=9^7) (disch:=try exact dI) only[hg,push_cast,seval]
  refine ab.pure h3 rfl ?_
  simp(maxSteps:=9^7) (disch:=try exact dI) only[hg,push_cast,seval]
theorem KF (s:Stp):ap Tryz.prog aB 75 [s.pv] (.bool (inR s.calls.length 1 1&&!decide (s.schema=[])&&cw s)):=by
 have h3:=tA s 1
 generalize (inR s.calls.length 1 1&&!decide (s.schema=[])&&cw s)=q at *
 obtain⟨nm,k,c,d,e,f,g,h,i,j,w⟩:=s
 simp only[Ud] at h3 ⊢
 refine ap.intro Q75.2 (by simp[Q75]) ?_
 simp(maxSteps:=9^7) (disch:=try exact dI) only[Q75,push_cast,seval]
 refine ab.pure h3 rfl ?_
 simp(maxSteps:=9^7) (disch:=try exact dI) only[push_cast,seval]
theorem KE (s:Stp):ap Tryz.prog aB 77 [s.pv] (.bool (inR s.calls.length 1 16&&!decide (s.schema=[])&&cw s)):=by
 have h3:=tA s 16
 generalize (inR s.calls.length 1 16&&!decide (s.schema=[])&&cw s)=q at *
 obtain⟨nm,k,c,d,e,f,g,h,i,j,w⟩:=s
 simp only[Ud] at h3 ⊢
 refine ap.intro Q77.2 (by simp[Q77]) ?_
 simp(maxSteps:=9^7) (disch:=try exact dI) only[Q77,push_cast,seval]
 refine ab.pure h3 rfl ?_
 simp(maxSteps:=9^7) (disch:=try exact dI) only[push_cast,seval]
theorem KB (s:Stp):ap Tryz.prog aB 81 [s.pv] (.bool (!decide (s.text=[]))):=by
 obtain⟨nm,k,c,d,e,f,g,h,i,j,w⟩:=s
 simp only[Stp.text]
 refine ap.intro Q81.2 (by simp[Q81]) ?_
 by_cases hl:f=[]
 ·simp(maxSteps:=9^7) (disch:=try exact dI) only[Q81,Ud,hl,push_cast,seval]
 ·simp(maxSteps:=9^7) (disch:=try exact dI) only[Q81,Ud,hl,push_cast,seval]
theorem KA (s:Stp):ap Tryz.prog aB 82 [s.pv] (.bool (dD s.text)):=by
 have h3:=sm s.text
 generalize dD s.text=q at *
 obtain⟨nm,k,c,d,e,f,g,h,i,j,w⟩:=s
 simp only[Stp.text] at h3
 refine ap.intro Q82.2 (by simp[Q82]) ?_
 simp(maxSteps:=9^7) (disch:=try exact dI) only[Q82,Ud,push_cast,seval]
 refine ab.pure h3 rfl ?_
 simp(maxSteps:=9^7) (disch:=try exact dI) only[push_cast,seval]

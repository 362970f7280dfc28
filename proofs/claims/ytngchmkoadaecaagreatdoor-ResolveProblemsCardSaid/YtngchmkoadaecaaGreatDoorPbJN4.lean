/- A part. -/
import Derived.Test.YtngchmkoadaecaaGreatDoorPbJL0
import Derived.KernelRfl
set_option linter.unusedVariables false
set_option linter.unusedSimpArgs false
set_option maxRecDepth 100000
open List renaming map_nil->XT
namespace Go.Proofs.YtngchmkoadaecaaGreatDoor
open Go Go.Ab
theorem tM (s:List UInt8):ap Tryz.prog aC 105 [.str s] (.bool (Lib.validD s)):=by
 refine ap.intro VD.2 (by simp[VD]) ?_
 simp(maxSteps:=9^7) (disch:=try exact dI) only[VD,push_cast,seval]
 refine ab.pure (fX s) rfl ?_
 simp(maxSteps:=9^7) (disch:=try exact dI) only[push_cast,seval]
theorem tZ (s:List UInt8):ap Tryz.prog aC 66 [.str s] (.bool (cf s)):=by
 have h1:=Ar s.length 1 64
 have h2:=tM s
 unfold cf
 generalize inR s.length 1 64=a at *
 generalize Lib.validD s=b at *
 refine ap.intro Q66.2 (by simp[Q66]) ?_
 simp(maxSteps:=9^7) (disch:=try exact dI) only[Q66,push_cast,seval]
 refine ab.pure h1 rfl ?_
 cases a with
 | false=>simp(maxSteps:=9^7) (disch:=try exact dI) only[push_cast,seval]
 | true=>
   simp(maxSteps:=9^7) (disch:=try exact dI) only[push_cast,seval]
   refine ab.pure h2 rfl ?_
   simp(maxSteps:=9^7) (disch:=try exact dI) only[push_cast,seval]
theorem oi (s:List UInt8):ap Tryz.prog aC 112 [.str s] (.bool (cf s)):=by
 have h2:=tM s
 unfold cf inR
 generalize Lib.validD s=b at *
 refine ap.intro S9.2 (by simp[S9]) ?_
 by_cases h:s=[]
 ·subst h
  simp(maxSteps:=9^7) (disch:=try exact dI) only[S9,push_cast,seval]
 ·have h0:0<s.length:=List.length_pos_iff.2 h
  have h0I:(1:Int)<=s.length:=by omega
  by_cases h64:(s.length:Int)<=64
  ·simp(maxSteps:=9^7) (disch:=try exact dI) only[S9,h,push_cast,seval]
   refine ab.pure h2 rfl ?_
   simp(maxSteps:=9^7) (disch:=try exact dI) only[h0I,h64,push_cast,seval]
  ·simp(maxSteps:=9^7) (disch:=try exact dI) only[S9,h,push_cast,seval]
theorem po (s:Stp):ap Tryz.prog aC 70 [s.pv] (.bool (bF s)):=by
 have h1:=Ar s.time 0 17592186044416
 have h2:=Ar s.limit 1 256
 unfold bF
 generalize hA:inR s.time 0 17592186044416=a at *
 generalize hB:inR s.limit 1 256=b at *
 clear hA hB
 obtain⟨nm,k,c,d,e,f,g,h,i,j,w⟩:=s
 simp only[Stp.time,Stp.limit] at h1 h2
 refine ap.intro Q70.2 (by simp[Q70]) ?_
 simp(maxSteps:=9^7) (disch:=try exact dI) only[Q70,WF,push_cast,seval]
 refine ab.pure h1 rfl ?_
 cases a with
 | false=>simp(maxSteps:=9^7) (disch:=try exact dI) only[push_cast,seval]
 | true=>
   simp(maxSteps:=9^7) (disch:=try exact dI) only[push_cast,seval]
   refine ab.pure h2 rfl ?_
   simp(maxSteps:=9^7) (disch:=try exact dI) only[push_cast,seval]
theorem MY (s:Stp):ap Tryz.prog aC 65 [s.pv] (.bool (decide (s.exprs.length=1)&&cf s.text)):=by
 have h1:=tZ s.text
 generalize hA:cf s.text=a at *
 clear hA
 obtain⟨nm,k,c,d,e,f,g,h,i,j,w⟩:=s
 simp only[Stp.exprs,Stp.text] at h1 ⊢
 refine ap.intro Q65.2 (by simp[Q65]) ?_
 by_cases hl:h.length=1
 ·have hI:(h.length:Int)=1:=by omega
  simp(maxSteps:=9^7) (disch:=try exact dI) only[Q65,WF,hI,push_cast,seval]
  refine ab.pure h1 rfl ?_
  simp(maxSteps:=9^7) (disch:=try exact dI) only[hl,push_cast,seval]
 ·have hI:¬ (h.length:Int)=1:=by omega
  simp(maxSteps:=9^7) (disch:=try exact dI) only[Q65,WF,hI,hl,push_cast,seval]
theorem MX (s:Stp):ap Tryz.prog aC 67 [s.pv] (.bool (!decide (s.schema=[]))):=by
 obtain⟨nm,k,c,d,e,f,g,h,i,j,w⟩:=s
 simp only[Stp.schema]
 refine ap.intro Q67.2 (by simp[Q67]) ?_
 by_cases hl:g=[]
 ·simp(maxSteps:=9^7) (disch:=try exact dI) only[Q67,WF,hl,push_cast,seval]
 ·simp(maxSteps:=9^7) (disch:=try exact dI) only[Q67,WF,hl,push_cast,seval]
theorem MW (s:Stp):ap Tryz.prog aC 68 [s.pv] (.bool (!decide (s.text=[])&&!decide (s.schema=[]))):=by
 obtain⟨nm,k,c,d,e,f,g,h,i,j,w⟩:=s
 simp only[Stp.schema,Stp.text]
 refine ap.intro Q68.2 (by simp[Q68]) ?_
 by_cases hl:f=[]
 ·simp(maxSteps:=9^7) (disch:=try exact dI) only[Q68,WF,hl,push_cast,seval]
 ·by_cases hg:g=[]
  ·simp(maxSteps:=9^7) (disch:=try exact dI) only[Q68,WF,hl,hg,push_cast,seval]
  ·simp(maxSteps:=9^7) (disch:=try exact dI) only[Q68,WF,hl,hg,push_cast,seval]
theorem MV (s:Stp):ap Tryz.prog aC 69 [s.pv] (.bool (inR s.exprs.length 1 2&&inR s.number 0 256&&!decide (s.schema=[])&&bF s)):=by
 have h1:=Ar s.exprs.length 1 2
 have h2:=Ar s.number 0 256
 have h3:=po s
 generalize inR s.exprs.length 1 2=a at *
 generalize inR s.number 0 256=b at *
 generalize bF s=q at *
 obtain⟨nm,k,c,d,e,f,g,h,i,j,w⟩:=s
 simp only[Stp.exprs,Stp.number,Stp.schema,WF] at h1 h2 h3 ⊢
 refine ap.intro Q69.2 (by simp[Q69]) ?_
 cases a with
 | false=>
   simp(maxSteps:=9^7) (disch:=try exact dI) only[Q69,push_cast,seval]
   refine ab.pure h1 rfl ?_
   simp(maxSteps:=9^7) (disch:=try exact dI) only[push_cast,seval]
 | true=>
 cases b with
 | false=>
   simp(maxSteps:=9^7) (disch:=try exact dI) only[Q69,push_cast,seval]
   refine ab.pure h1 rfl ?_
   simp(maxSteps:=9^7) (disch:=try exact dI) only[push_cast,seval]
   refine ab.pure h2 rfl ?_
   simp(maxSteps:=9^7) (disch:=try exact dI) only[push_cast,seval]
 | true=>
 by_cases hg:g=[]
 ·subst hg
  simp(maxSteps:=9^7) (disch:=try exact dI) only[Q69,push_cast,seval]
  refine ab.pure h1 rfl ?_
  simp(maxSteps:=9^7) (disch:=try exact dI) only[push_cast,seval]
  refine ab.pure h2 rfl ?_
  simp(maxSteps:=9^7) (disch:=try exact dI) only[push_cast,seval]
 ·simp(maxSteps:=9^7) (disch:=try exact dI) only[Q69,push_cast,seval]
  refine ab.pure h1 rfl ?_
  simp(maxSteps:=9^7) (disch:=try exact dI) only[push_cast,seval]
  refine ab.pure h2 rfl ?_
  simp(maxSteps:=9^7) (disch:=try exact dI) only[hg,push_cast,seval]
  refine ab.pure h3 rfl ?_
  simp(maxSteps:=9^7) (disch:=try exact dI) only[hg,push_cast,seval]
theorem MU (s:Stp):ap Tryz.prog aC 71 [s.pv] (.bool (decide (s.exprs.length=2)&&bF s)):=by
 have h3:=po s
 generalize bF s=q at *
 obtain⟨nm,k,c,d,e,f,g,h,i,j,w⟩:=s
 simp only[Stp.exprs,WF] at h3 ⊢
 refine ap.intro Q71.2 (by simp[Q71]) ?_
 by_cases hl:h.length=2
 ·have hI:(h.length:Int)=2:=by omega
  simp(maxSteps:=9^7) (disch:=try exact dI) only[Q71,hI,push_cast,seval]
  refine ab.pure h3 rfl ?_
  simp(maxSteps:=9^7) (disch:=try exact dI) only[hl,push_cast,seval]
 ·have hI:¬ (h.length:Int)=2:=by omega
  simp(maxSteps:=9^7) (disch:=try exact dI) only[Q71,hI,hl,push_cast,seval]
theorem MT (s:Stp):ap Tryz.prog aC 72 [s.pv] (.bool (decide (s.exprs.length=1)&&inR s.number 1 256)):=by
 have h3:=Ar s.number 1 256
 generalize inR s.number 1 256=q at *
 obtain⟨nm,k,c,d,e,f,g,h,i,j,w⟩:=s
 simp only[Stp.exprs,Stp.number,WF] at h3 ⊢
 refine ap.intro Q72.2 (by simp[Q72]) ?_
 by_cases hl:h.length=1
 ·have hI:(h.length:Int)=1:=by omega
  simp(maxSteps:=9^7) (disch:=try exact dI) only[Q72,hI,push_cast,seval]
  refine ab.pure h3 rfl ?_
  simp(maxSteps:=9^7) (disch:=try exact dI) only[hl,push_cast,seval]
 ·have hI:¬ (h.length:Int)=1:=by omega
  simp(maxSteps:=9^7) (disch:=try exact dI) only[Q72,hI,hl,push_cast,seval]
theorem MS (s:Stp):ap Tryz.prog aC 73 [s.pv] (.bool (inR s.number 1 256&&decide (1<=s.time)&&bF s)):=by
 have h1:=Ar s.number 1 256
 have h3:=po s
 generalize inR s.number 1 256=a at *
 generalize bF s=q at *
 obtain⟨nm,k,c,d,e,f,g,h,i,j,w⟩:=s
 simp only[Stp.number,Stp.time,WF] at h1 h3 ⊢
 refine ap.intro Q73.2 (by simp[Q73]) ?_
 cases a with
 | false=>
   simp(maxSteps:=9^7) (disch:=try exact dI) only[Q73,push_cast,seval]
   refine ab.pure h1 rfl ?_
   simp(maxSteps:=9^7) (disch:=try exact dI) only[push_cast,seval]
 | true=>
 by_cases hd:1<=d
 ·simp(maxSteps:=9^7) (disch:=try exact dI) only[Q73,push_cast,seval]
  refine ab.pure h1 rfl ?_
  simp(maxSteps:=9^7) (disch:=try exact dI) only[hd,push_cast,seval]
  refine ab.pure h3 rfl ?_
  simp(maxSteps:=9^7) (disch:=try exact dI) only[hd,push_cast,seval]
 ·simp(maxSteps:=9^7) (disch:=try exact dI) only[Q73,push_cast,seval]
  refine ab.pure h1 rfl ?_
  simp(maxSteps:=9^7) (disch:=try exact dI) only[hd,push_cast,seval]
theorem MR (s:Stp):ap Tryz.prog aC 74 [s.pv] (.bool (decide (1<=s.time)&&bF s)):=by
 have h3:=po s
 generalize bF s=q at *
 obtain⟨nm,k,c,d,e,f,g,h,i,j,w⟩:=s
 simp only[Stp.time,WF] at h3 ⊢
 refine ap.intro Q74.2 (by simp[Q74]) ?_
 by_cases hd:1<=d
 ·simp(maxSteps:=9^7) (disch:=try exact dI) only[Q74,hd,push_cast,seval]
  refine ab.pure h3 rfl ?_
  simp(maxSteps:=9^7) (disch:=try exact dI) only[hd,push_cast,seval]
 ·simp(maxSteps:=9^7) (disch:=try exact dI) only[Q74,hd,push_cast,seval]
theorem vh (s:Stp)(n:Int):ap Tryz.prog aC 76 [s.pv,.int .i64 n] (.bool (inR s.calls.length 1 n&&!decide (s.schema=[])&&bF s)):=by
 have h1:=Ar s.calls.length 1 n
 have h3:=po s
 generalize inR s.calls.length 1 n=a at *
 generalize bF s=q at *
 obtain⟨nm,k,c,d,e,f,g,h,i,j,w⟩:=s
 simp only[Stp.calls,Stp.schema,WF] at h1 h3 ⊢
 refine ap.intro Q76.2 (by simp[Q76]) ?_
 cases a with
 | false=>
   simp(maxSteps:=9^7) (disch:=try exact dI) only[Q76,push_cast,seval]
   refine ab.pure h1 rfl ?_
   simp(maxSteps:=9^7) (disch:=try exact dI) only[push_cast,seval]
 | true=>
 by_cases hg:g=[]
 ·subst hg
  simp(maxSteps:=9^7) (disch:=try exact dI) only[Q76,push_cast,seval]
  refine ab.pure h1 rfl ?_
  simp(maxSteps:=9^7) (disch:=try exact dI) only[push_cast,seval]
 ·simp(maxSteps:=9^7) (disch:=try exact dI) only[Q76,push_cast,seval]
  refine ab.pure h1 rfl ?_
  simp(maxSteps:=9^7) (disch:=try exact dI) only[hg,push_cast,seval]
  refine ab.pure h3 rfl ?_
  simp(maxSteps:=9^7) (disch:=try exact dI) only[hg,push_cast,seval]
theorem MQ (s:Stp):ap Tryz.prog aC 75 [s.pv] (.bool (inR s.calls.length 1 1&&!decide (s.schema=[])&&bF s)):=by
 have h3:=vh s 1
 generalize (inR s.calls.length 1 1&&!decide (s.schema=[])&&bF s)=q at *
 obtain⟨nm,k,c,d,e,f,g,h,i,j,w⟩:=s
 simp only[WF] at h3 ⊢
 refine ap.intro Q75.2 (by simp[Q75]) ?_
 simp(maxSteps:=9^7) (disch:=try exact dI) only[Q75,push_cast,seval]
 refine ab.pure h3 rfl ?_
 simp(maxSteps:=9^7) (disch:=try exact dI) only[push_cast,seval]
theorem MP (s:Stp):ap Tryz.prog aC 77 [s.pv] (.bool (inR s.calls.length 1 16&&!decide (s.schema=[])&&bF s)):=by
 have h3:=vh s 16
 generalize (inR s.calls.length 1 16&&!decide (s.schema=[])&&bF s)=q at *
 obtain⟨nm,k,c,d,e,f,g,h,i,j,w⟩:=s
 simp only[WF] at h3 ⊢
 refine ap.intro Q77.2 (by simp[Q77]) ?_
 simp(maxSteps:=9^7) (disch:=try exact dI) only[Q77,push_cast,seval]
 refine ab.pure h3 rfl ?_
 simp(maxSteps:=9^7) (disch:=try exact dI) only[push_cast,seval]
theorem MM (s:Stp):ap Tryz.prog aC 81 [s.pv] (.bool (!decide (s.text=[]))):=by
 obtain⟨nm,k,c,d,e,f,g,h,i,j,w⟩:=s
 simp only[Stp.text]
 refine ap.intro Q81.2 (by simp[Q81]) ?_
 by_cases hl:f=[]
 ·simp(maxSteps:=9^7) (disch:=try exact dI) only[Q81,WF,hl,push_cast,seval]
 ·simp(maxSteps:=9^7) (disch:=try exact dI) only[Q81,WF,hl,push_cast,seval]
theorem ML (s:Stp):ap Tryz.prog aC 82 [s.pv] (.bool (cf s.text)):=by
 have h3:=tZ s.text
 generalize cf s.text=q at *
 obtain⟨nm,k,c,d,e,f,g,h,i,j,w⟩:=s
 simp only[Stp.text] at h3
 refine ap.intro Q82.2 (by simp[Q82]) ?_
 simp(maxSteps:=9^7) (disch:=try exact dI) only[Q82,WF,push_cast,seval]
 refine ab.pure h3 rfl ?_
 simp(maxSteps:=9^7) (disch:=try exact dI) only[push_cast,seval]
def rj (s:Stp):Blk:=.cells 51 true (s.pv.cells.map .pv)
theorem aY (a:List UInt8)(k c d e:Int)(f g:List UInt8)(h:List Exp)(i:List Rul)(j:List Cal)(b:List Bra) :
  rj (.mk a k c d e f g h i j b) = .cells 51 true [.pv (.str a),.pv (.int .i64 k),.pv (.int .i64 c),.pv (.int .i64 d),.pv (.int .i64 e),.pv (.str f),.pv (.str g),.pv (.list (h.map Exp.pv)),.pv (.list (i.map Rul.pv)),.pv (.list (j.map Cal.pv)),.pv (.list (b.map Bra.pv))]:=by
 rw[rj,WF];rfl
def Clr (g:Nat)(cs:List PV)(φ:Stp->Stp):Prop:=∀ s:Stp,bz Tryz.prog aC 1 g (.ptr 0 0::cs.map .pv) [rj s] (.pv (.tup [])) [rj (φ s)]
def pU:Stp->Stp | .mk a k c d e f g h i j b=>.mk a k c d e [] g h i j b
def kV:Stp->Stp | .mk a k c d e f g h i j b=>.mk a k c d e f [] h [] j b
def ga:Stp->Stp | .mk a k c d e f g h i j b=>.mk a k c d e f g [] i j b
def eq:Stp->Stp | .mk a k c d e f g h i j b=>.mk a k c 0 0 f g h i j b
def JP:Stp->Stp | .mk a k c d e f g h i j b=>.mk a k c d e f g h i j []
def pV:Stp->Stp | .mk a k c d e f g h i j b=>.mk a k 0 d e f g h i j b
def mA:Stp->Stp | .mk a k c d e f g h i j b=>.mk a k c d e f g h i [] b
theorem lA:Clr 56 [] pU:=by
 rintro⟨a,k,c,d,e,f,g,h,i,j,b⟩
 simp only[pU,aY,XT]
 refine bz.intro Q56.2 (by simp[Q56]) ?_
 simp(maxSteps:=9^7) (disch:=try exact dI) only[Q56,push_cast,seval]
 exact aH [] qsZ
theorem nB:Clr 57 [] kV:=by
 rintro⟨a,k,c,d,e,f,g,h,i,j,b⟩
 simp only[kV,aY,XT]
 refine bz.intro Q57.2 (by simp[Q57]) ?_
 simp(maxSteps:=9^7) (disch:=try exact dI) only[Q57,push_cast,seval]
 exact aH [] qsZ
theorem pR:Clr 58 [] ga:=by
 rintro⟨a,k,c,d,e,f,g,h,i,j,b⟩
 simp only[ga,aY,XT]
 refine bz.intro Q58.2 (by simp[Q58]) ?_
 simp(maxSteps:=9^7) (disch:=try exact dI) only[Q58,push_cast,seval]
 exact aH [] qsZ
theorem nA:Clr 59 [] eq:=by
 rintro⟨a,k,c,d,e,f,g,h,i,j,b⟩
 simp only[eq,aY,XT]
 refine bz.intro Q59.2 (by simp[Q59]) ?_
 simp(maxSteps:=9^7) (disch:=try exact dI) only[Q59,push_cast,seval]
 exact aH [] qsZ
theorem RN:Clr 60 [] JP:=by
 rintro⟨a,k,c,d,e,f,g,h,i,j,b⟩
 simp only[JP,aY,XT]
 refine bz.intro Q60.2 (by simp[Q60]) ?_
 simp(maxSteps:=9^7) (disch:=try exact dI) only[Q60,push_cast,seval]
 exact aH [] qsZ
theorem pP:Clr 63 [] pV:=by
 rintro⟨a,k,c,d,e,f,g,h,i,j,b⟩
 simp only[pV,aY,XT]
 refine bz.intro Q63.2 (by simp[Q63]) ?_
 simp(maxSteps:=9^7) (disch:=try exact dI) only[Q63,push_cast,seval]
 exact aH [] qsZ
theorem pO:Clr 64 [] mA:=by
 rintro⟨a,k,c,d,e,f,g,h,i,j,b⟩
 simp only[mA,aY,XT]
 refine bz.intro Q64.2 (by simp[Q64]) ?_
 simp(maxSteps:=9^7) (disch:=try exact dI) only[Q64,push_cast,seval]
 exact aH [] qsZ
def Wc (p:PV)(φ:Stp->Stp):Prop:=∃ g cs,p = .clo g [] cs/\Clr g cs φ
theorem pQ (l:List (PV×(Stp->Stp)))(hl:∀ q∈l,Wc q.1 q.2)(hn:l.length<=100):Clr 62 [.eptr [.list (l.map (·.1))] 0 0] (fun s=>l.foldl (fun s q=>q.2 s) s):=by
 intro s
 refine bz.intro Q62.2 (by simp[Q62]) ?_
 simp only[rj,List.map_cons,XT]
 simp(maxSteps:=9^7) (disch:=try exact dI) only[Q62,push_cast,seval]
 refine au ([]) (fun i:Nat=>[(7,.pv (.int .i64 (i:Int)))]) (fun i=>[(0,rj ((l.take i).foldl (fun s q=>q.2 s) s))]) (fun i=>i<=l.length) (fun i=>l.length - i) (0) ?_;intro e0 σ0 n0 h0;simp(maxSteps:=9^7) (disch:=try exact dI) only[push_cast,seval] at h0;obtain⟨rfl,rfl,rfl⟩:=h0;refine⟨?_,?_,?_⟩
 ·simp(maxSteps:=9^7) (disch:=try exact dI) only[rj,List.foldl_nil,push_cast,seval]
 ·omega
 intro i hi
 by_cases hlt:i<l.length
 ·have hltI:(i:Int)<l.length:=by omega
  obtain⟨x,hx⟩:∃ x,l[i]? = some x:=⟨_,List.getElem?_eq_getElem hlt⟩
  have hsn:(l.take (i+1)).foldl (fun s q=>q.2 s) s=x.2 ((l.take i).foldl (fun s q=>q.2 s) s):=by rw[aE hx,List.foldl_append];rfl
  obtain⟨g,cs,hg,hc⟩:=hl x (List.mem_of_getElem? hx)
  have hcall:=hc ((l.take i).foldl (fun s q=>q.2 s) s)
  rw[<- hsn] at hcall
  generalize (l.take i).foldl (fun s q=>q.2 s) s=s1 at *
  generalize hs2:(l.take (i+1)).foldl (fun s q=>q.2 s) s=s2 at *
  obtain⟨x1,x2⟩:=x
  simp only at hg
  subst hg
  simp(maxSteps:=9^7) (disch:=try exact dI) only[hx,rj,push_cast,seval]
  refine ab.lentK hcall [0] rfl (by simp(maxSteps:=9^7) (disch:=try exact dI) only[rj,push_cast,seval]) (by simp(maxSteps:=9^7) (disch:=try exact dI) only[rj,push_cast,seval]) ?_
  simp(maxSteps:=9^7) (disch:=try exact dI) only[rj,push_cast,seval]
  exact⟨i+1,aJ (by simp(maxSteps:=9^7) (disch:=try exact dI) only[rj,hs2,push_cast,seval]),by omega,by omega⟩
 ·have hltI:¬ (i:Int)<l.length:=by omega
  have hle:l.take i=l:=List.take_of_length_le (by omega)
  simp(maxSteps:=9^7) (disch:=try exact dI) only[hle,push_cast,seval]
  exact aH [] (by simp(maxSteps:=9^7) (disch:=try exact dI) only[rj,push_cast,seval])
theorem AI (e:List (Nat×AV))(σ:List (Nat×Blk))(n:Nat):fH e σ n .anyc=some (.any,[]):=_root_.id rfl
theorem qS (e:List (Nat×AV)):cK e .anyc=[]:=_root_.id rfl
theorem sD:bg (.xop .anyc)=0:=_root_.id rfl
theorem bj (f:Nat)(a b:List PV):PV.one (.clo f a b)=true:=rfl
theorem cG:PV.one .nilf=true:=rfl
theorem pZ (a b:Nat):mV 1 2 [.pv (.clo a [] []),.pv (.clo b [] [])]=some (.pv (.list [.clo a [] [],.clo b [] []]),[]):=rfl
theorem pY (a b c:Nat):mV 1 3 [.pv (.clo a [] []),.pv (.clo b [] []),.pv (.clo c [] [])]=some (.pv (.list [.clo a [] [],.clo b [] [],.clo c [] []]),[]):=rfl
theorem pX (a b c d:Nat):mV 1 4 [.pv (.clo a [] []),.pv (.clo b [] []),.pv (.clo c [] []),.pv (.clo d [] [])]=some (.pv (.list [.clo a [] [],.clo b [] [],.clo c [] [],.clo d [] []]),[]):=rfl
theorem tA (l:List PV)(hl:l.length<=100):ap Tryz.prog aC 61 [.list l] (.clo 62 [] [.eptr [.list l] 0 0]):=by
 refine ap.intro Q61.2 (by simp[Q61]) ?_
 simp(maxSteps:=9^7) (disch:=try exact dI) only[Q61,push_cast,seval]
@[irreducible] def aX:List (PV×PV):=[(.int .i64 1,.agg [.clo 62 [] [.eptr [.list [.clo 56 [] [],.clo 58 [] []]] 0 0],.clo 65 [] []]),(.int .i64 2,.agg [.clo 57 [] [],.clo 67 [] []]),(.int .i64 3,.agg [.clo 62 [] [.eptr [.list [.clo 56 [] [],.clo 57 [] []]] 0 0],.clo 68 [] []]),(.int .i64 4,.agg [.clo 62 [] [.eptr [.list [.clo 58 [] [],.clo 63 [] [],.clo 59 [] [],.clo 57 [] []]] 0 0],.clo 69 [] []]),(.int .i64 5,.agg [.clo 62 [] [.eptr [.list [.clo 58 [] [],.clo 59 [] []]] 0 0],.clo 71 [] []]),(.int .i64 6,.agg [.clo 62 [] [.eptr [.list [.clo 58 [] [],.clo 63 [] []]] 0 0],.clo 72 [] []]),(.int .i64 7,.agg [.clo 62 [] [.eptr [.list [.clo 63 [] [],.clo 59 [] []]] 0 0],.clo 73 [] []]),(.int .i64 8,.agg [.clo 59 [] [],.clo 74 [] []]),(.int .i64 9,.agg [.clo 62 [] [.eptr [.list [.clo 57 [] [],.clo 59 [] [],.clo 64 [] []]] 0 0],.clo 75 [] []]),(.int .i64 10,.agg [.clo 62 [] [.eptr [.list [.clo 57 [] [],.clo 59 [] [],.clo 64 [] []]] 0 0],.clo 77 [] []]),(.int .i64 11,.agg [.clo 60 [] [],.clo 78 [] []]),(.int .i64 12,.agg [.clo 60 [] [],.clo 80 [] []]),(.int .i64 13,.agg [.clo 56 [] [],.clo 81 [] []]),(.int .i64 14,.agg [.clo 56 [] [],.clo 82 [] []])]
@[irreducible] def bD (k:Nat):List (PV×PV):=aX.take k
theorem Qs (r:Nat):fi (some .i64) r (.int .i64 1) (.agg [.clo 62 [] [.eptr [.list [.clo 56 [] [],.clo 58 [] []]] 0 0],.clo 65 [] []]) (.mp [])=some [(r,.mp (bD 1))]:=by kernel_rfl
theorem Qr (r:Nat):fi (some .i64) r (.int .i64 2) (.agg [.clo 57 [] [],.clo 67 [] []]) (.mp (bD 1))=some [(r,.mp (bD 2))]:=by kernel_rfl
theorem Qq (r:Nat):fi (some .i64) r (.int .i64 3) (.agg [.clo 62 [] [.eptr [.list [.clo 56 [] [],.clo 57 [] []]] 0 0],.clo 68 [] []]) (.mp (bD 2))=some [(r,.mp (bD 3))]:=by kernel_rfl
theorem Qp (r:Nat):fi (some .i64) r (.int .i64 4) (.agg [.clo 62 [] [.eptr [.list [.clo 58 [] [],.clo 63 [] [],.clo 59 [] [],.clo 57 [] []]] 0 0],.clo 69 [] []]) (.mp (bD 3))=some [(r,.mp (bD 4))]:=by kernel_rfl
theorem Qo (r:Nat):fi (some .i64) r (.int .i64 5) (.agg [.clo 62 [] [.eptr [.list [.clo 58 [] [],.clo 59 [] []]] 0 0],.clo 71 [] []]) (.mp (bD 4))=some [(r,.mp (bD 5))]:=by kernel_rfl
theorem Qn (r:Nat):fi (some .i64) r (.int .i64 6) (.agg [.clo 62 [] [.eptr [.list [.clo 58 [] [],.clo 63 [] []]] 0 0],.clo 72 [] []]) (.mp (bD 5))=some [(r,.mp (bD 6))]:=by kernel_rfl
theorem Qm (r:Nat):fi (some .i64) r (.int .i64 7) (.agg [.clo 62 [] [.eptr [.list [.clo 63 [] [],.clo 59 [] []]] 0 0],.clo 73 [] []]) (.mp (bD 6))=some [(r,.mp (bD 7))]:=by kernel_rfl
theorem Ql (r:Nat):fi (some .i64) r (.int .i64 8) (.agg [.clo 59 [] [],.clo 74 [] []]) (.mp (bD 7))=some [(r,.mp (bD 8))]:=by kernel_rfl
theorem Qk (r:Nat):fi (some .i64) r (.int .i64 9) (.agg [.clo 62 [] [.eptr [.list [.clo 57 [] [],.clo 59 [] [],.clo 64 [] []]] 0 0],.clo 75 [] []]) (.mp (bD 8))=some [(r,.mp (bD 9))]:=by kernel_rfl
theorem MA (r:Nat):fi (some .i64) r (.int .i64 10) (.agg [.clo 62 [] [.eptr [.list [.clo 57 [] [],.clo 59 [] [],.clo 64 [] []]] 0 0],.clo 77 [] []]) (.mp (bD 9))=some [(r,.mp (bD 10))]:=by kernel_rfl
theorem Mz (r:Nat):fi (some .i64) r (.int .i64 11) (.agg [.clo 60 [] [],.clo 78 [] []]) (.mp (bD 10))=some [(r,.mp (bD 11))]:=by kernel_rfl
theorem My (r:Nat):fi (some .i64) r (.int .i64 12) (.agg [.clo 60 [] [],.clo 80 [] []]) (.mp (bD 11))=some [(r,.mp (bD 12))]:=by kernel_rfl
theorem Mx (r:Nat):fi (some .i64) r (.int .i64 13) (.agg [.clo 56 [] [],.clo 81 [] []]) (.mp (bD 12))=some [(r,.mp (bD 13))]:=by kernel_rfl
theorem Mw (r:Nat):fi (some .i64) r (.int .i64 14) (.agg [.clo 56 [] [],.clo 82 [] []]) (.mp (bD 13))=some [(r,.mp (bD 14))]:=by kernel_rfl
theorem wP:bD 14=aX:=by kernel_rfl
theorem MK:cD (some .i64) true (.agg [.nilf,.nilf]) (.int .i64 1) (.mp aX)=some (.pv (.tup [.agg [.clo 62 [] [.eptr [.list [.clo 56 [] [],.clo 58 [] []]] 0 0],.clo 65 [] []],.bool true])):=by kernel_rfl
theorem MJ:cD (some .i64) true (.agg [.nilf,.nilf]) (.int .i64 2) (.mp aX)=some (.pv (.tup [.agg [.clo 57 [] [],.clo 67 [] []],.bool true])):=by kernel_rfl
theorem MI:cD (some .i64) true (.agg [.nilf,.nilf]) (.int .i64 3) (.mp aX)=some (.pv (.tup [.agg [.clo 62 [] [.eptr [.list [.clo 56 [] [],.clo 57 [] []]] 0 0],.clo 68 [] []],.bool true])):=by kernel_rfl
theorem MH:cD (some .i64) true (.agg [.nilf,.nilf]) (.int .i64 4) (.mp aX)=some (.pv (.tup [.agg [.clo 62 [] [.eptr [.list [.clo 58 [] [],.clo 63 [] [],.clo 59 [] [],.clo 57 [] []]] 0 0],.clo 69 [] []],.bool true])):=by kernel_rfl
theorem MG:cD (some .i64) true (.agg [.nilf,.nilf]) (.int .i64 5) (.mp aX)=some (.pv (.tup [.agg [.clo 62 [] [.eptr [.list [.clo 58 [] [],.clo 59 [] []]] 0 0],.clo 71 [] []],.bool true])):=by kernel_rfl
theorem MF:cD (some .i64) true (.agg [.nilf,.nilf]) (.int .i64 6) (.mp aX)=some (.pv (.tup [.agg [.clo 62 [] [.eptr [.list [.clo 58 [] [],.clo 63 [] []]] 0 0],.clo 72 [] []],.bool true])):=by kernel_rfl
theorem ME:cD (some .i64) true (.agg [.nilf,.nilf]) (.int .i64 7) (.mp aX)=some (.pv (.tup [.agg [.clo 62 [] [.eptr [.list [.clo 63 [] [],.clo 59 [] []]] 0 0],.clo 73 [] []],.bool true])):=by kernel_rfl
theorem MD:cD (some .i64) true (.agg [.nilf,.nilf]) (.int .i64 8) (.mp aX)=some (.pv (.tup [.agg [.clo 59 [] [],.clo 74 [] []],.bool true])):=by kernel_rfl
theorem MC:cD (some .i64) true (.agg [.nilf,.nilf]) (.int .i64 9) (.mp aX)=some (.pv (.tup [.agg [.clo 62 [] [.eptr [.list [.clo 57 [] [],.clo 59 [] [],.clo 64 [] []]] 0 0],.clo 75 [] []],.bool true])):=by kernel_rfl
theorem G9:cD (some .i64) true (.agg [.nilf,.nilf]) (.int .i64 10) (.mp aX)=some (.pv (.tup [.agg [.clo 62 [] [.eptr [.list [.clo 57 [] [],.clo 59 [] [],.clo 64 [] []]] 0 0],.clo 77 [] []],.bool true])):=by kernel_rfl
theorem G8:cD (some .i64) true (.agg [.nilf,.nilf]) (.int .i64 11) (.mp aX)=some (.pv (.tup [.agg [.clo 60 [] [],.clo 78 [] []],.bool true])):=by kernel_rfl
theorem G7:cD (some .i64) true (.agg [.nilf,.nilf]) (.int .i64 12) (.mp aX)=some (.pv (.tup [.agg [.clo 60 [] [],.clo 80 [] []],.bool true])):=by kernel_rfl
theorem G6:cD (some .i64) true (.agg [.nilf,.nilf]) (.int .i64 13) (.mp aX)=some (.pv (.tup [.agg [.clo 56 [] [],.clo 81 [] []],.bool true])):=by kernel_rfl
theorem G5:cD (some .i64) true (.agg [.nilf,.nilf]) (.int .i64 14) (.mp aX)=some (.pv (.tup [.agg [.clo 56 [] [],.clo 82 [] []],.bool true])):=by kernel_rfl
theorem uu (k:Int):∀ (l:List (PV×PV)) (i:Nat),(∀ q∈l,∃ n,q.1 = .int .i64 n/\n≠k)->fT (.int .i64 k) l i=some none
 | [],i,_=>rfl
 | q::r,i,h=>by
   obtain⟨n,hn,hk⟩:=h q (by simp)
   have ih:=uu k r (i+1) (fun q hq=>h q (by simp[hq]))
   have hb:(k == n)=false:=by simpa using Ne.symm hk
   simp only[fT,hn,keq,if_true,hb,ih]
theorem G4 (k:Int)(h:¬ (1<=k/\k<=14)):cD (some .i64) true (.agg [.nilf,.nilf]) (.int .i64 k) (.mp aX)=some (.pv (.tup [.agg [.nilf,.nilf],.bool false])):=by
 have:fT (.int .i64 k) aX 0=some none:=by
  refine uu k _ 0 fun q hq=>?_
  simp only[aX,List.mem_cons,List.not_mem_nil,or_false] at hq
  rcases hq with rfl | rfl | rfl | rfl | rfl | rfl | rfl | rfl | rfl | rfl | rfl | rfl | rfl | rfl
  all_goals exact⟨_,rfl,by omega⟩
 simp only[cD,this]
 rfl

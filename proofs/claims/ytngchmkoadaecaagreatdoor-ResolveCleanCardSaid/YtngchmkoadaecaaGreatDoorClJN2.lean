/- A part. -/
import Derived.Test.YtngchmkoadaecaaGreatDoorClJL1
import Derived.KernelRfl
set_option linter.unusedVariables false
set_option linter.unusedSimpArgs false
set_option maxRecDepth 100000
open List renaming map_nil->Va
namespace Go.Proofs.YtngchmkoadaecaaGreatDoor
open Go Go.Ab
def pW (s:Stp):Blk:=.cells 51 true (s.pv.cells.map .pv)
theorem eV (a:List UInt8)(k c d e:Int)(f g:List UInt8)(h:List Exp)(i:List Rul)(j:List Cal)(b:List Bra) :
  pW (.mk a k c d e f g h i j b) = .cells 51 true [.pv (.str a),.pv (.int .i64 k),.pv (.int .i64 c),.pv (.int .i64 d),.pv (.int .i64 e),.pv (.str f),.pv (.str g),.pv (.list (h.map Exp.pv)),.pv (.list (i.map Rul.pv)),.pv (.list (j.map Cal.pv)),.pv (.list (b.map Bra.pv))]:=by
 rw[pW,Ud];rfl
def Clr (g:Nat)(cs:List PV)(φ:Stp->Stp):Prop:=∀ s:Stp,bA Tryz.prog aB 1 g (.ptr 0 0::cs.map .pv) [pW s] (.pv (.tup [])) [pW (φ s)]
def oW:Stp->Stp | .mk a k c d e f g h i j b=>.mk a k c d e [] g h i j b
def kg:Stp->Stp | .mk a k c d e f g h i j b=>.mk a k c d e f [] h [] j b
def fL:Stp->Stp | .mk a k c d e f g h i j b=>.mk a k c d e f g [] i j b
def dX:Stp->Stp | .mk a k c d e f g h i j b=>.mk a k c 0 0 f g h i j b
def HM:Stp->Stp | .mk a k c d e f g h i j b=>.mk a k c d e f g h i j []
def oX:Stp->Stp | .mk a k c d e f g h i j b=>.mk a k 0 d e f g h i j b
def lO:Stp->Stp | .mk a k c d e f g h i j b=>.mk a k c d e f g h i [] b
theorem kC:Clr 56 [] oW:=by
 rintro⟨a,k,c,d,e,f,g,h,i,j,b⟩
 simp only[oW,eV,Va]
 refine bA.intro Q56.2 (by simp[Q56]) ?_
 simp(maxSteps:=9^7) (disch:=try exact dI) only[Q56,push_cast,seval]
 exact aI [] qsZ
theorem mH:Clr 57 [] kg:=by
 rintro⟨a,k,c,d,e,f,g,h,i,j,b⟩
 simp only[kg,eV,Va]
 refine bA.intro Q57.2 (by simp[Q57]) ?_
 simp(maxSteps:=9^7) (disch:=try exact dI) only[Q57,push_cast,seval]
 exact aI [] qsZ
theorem oS:Clr 58 [] fL:=by
 rintro⟨a,k,c,d,e,f,g,h,i,j,b⟩
 simp only[fL,eV,Va]
 refine bA.intro Q58.2 (by simp[Q58]) ?_
 simp(maxSteps:=9^7) (disch:=try exact dI) only[Q58,push_cast,seval]
 exact aI [] qsZ
theorem mG:Clr 59 [] dX:=by
 rintro⟨a,k,c,d,e,f,g,h,i,j,b⟩
 simp only[dX,eV,Va]
 refine bA.intro Q59.2 (by simp[Q59]) ?_
 simp(maxSteps:=9^7) (disch:=try exact dI) only[Q59,push_cast,seval]
 exact aI [] qsZ
theorem Pz:Clr 60 [] HM:=by
 rintro⟨a,k,c,d,e,f,g,h,i,j,b⟩
 simp only[HM,eV,Va]
 refine bA.intro Q60.2 (by simp[Q60]) ?_
 simp(maxSteps:=9^7) (disch:=try exact dI) only[Q60,push_cast,seval]
 exact aI [] qsZ
theorem oQ:Clr 63 [] oX:=by
 rintro⟨a,k,c,d,e,f,g,h,i,j,b⟩
 simp only[oX,eV,Va]
 refine bA.intro Q63.2 (by simp[Q63]) ?_
 simp(maxSteps:=9^7) (disch:=try exact dI) only[Q63,push_cast,seval]
 exact aI [] qsZ
theorem oP:Clr 64 [] lO:=by
 rintro⟨a,k,c,d,e,f,g,h,i,j,b⟩
 simp only[lO,eV,Va]
 refine bA.intro Q64.2 (by simp[Q64]) ?_
 simp(maxSteps:=9^7) (disch:=try exact dI) only[Q64,push_cast,seval]
 exact aI [] qsZ
def TE (p:PV)(φ:Stp->Stp):Prop:=∃ g cs,p = .clo g [] cs/\Clr g cs φ
theorem oR (l:List (PV×(Stp->Stp)))(hl:∀ q∈l,TE q.1 q.2)(hn:l.length<=100):Clr 62 [.eptr [.list (l.map (·.1))] 0 0] (fun s=>l.foldl (fun s q=>q.2 s) s):=by
 intro s
 refine bA.intro Q62.2 (by simp[Q62]) ?_
 simp only[pW,List.map_cons,Va]
 simp(maxSteps:=9^7) (disch:=try exact dI) only[Q62,push_cast,seval]
 refine aw ([]) (fun i:Nat=>[(7,.pv (.int .i64 (i:Int)))]) (fun i=>[(0,pW ((l.take i).foldl (fun s q=>q.2 s) s))]) (fun i=>i<=l.length) (fun i=>l.length - i) (0) ?_;intro e0 σ0 n0 h0;simp(maxSteps:=9^7) (disch:=try exact dI) only[push_cast,seval] at h0;obtain⟨rfl,rfl,rfl⟩:=h0;refine⟨?_,?_,?_⟩
 ·simp(maxSteps:=9^7) (disch:=try exact dI) only[pW,List.foldl_nil,push_cast,seval]
 ·omega
 intro i hi
 by_cases hlt:i<l.length
 ·have hltI:(i:Int)<l.length:=by omega
  obtain⟨x,hx⟩:∃ x,l[i]? = some x:=⟨_,List.getElem?_eq_getElem hlt⟩
  have hsn:(l.take (i+1)).foldl (fun s q=>q.2 s) s=x.2 ((l.take i).foldl (fun s q=>q.2 s) s):=by rw[aC hx,List.foldl_append];rfl
  obtain⟨g,cs,hg,hc⟩:=hl x (List.mem_of_getElem? hx)
  have hcall:=hc ((l.take i).foldl (fun s q=>q.2 s) s)
  rw[<- hsn] at hcall
  generalize (l.take i).foldl (fun s q=>q.2 s) s=s1 at *
  generalize hs2:(l.take (i+1)).foldl (fun s q=>q.2 s) s=s2 at *
  obtain⟨x1,x2⟩:=x
  simp only at hg
  subst hg
  simp(maxSteps:=9^7) (disch:=try exact dI) only[hx,pW,push_cast,seval]
  refine ab.lentK hcall [0] rfl (by simp(maxSteps:=9^7) (disch:=try exact dI) only[pW,push_cast,seval]) (by simp(maxSteps:=9^7) (disch:=try exact dI) only[pW,push_cast,seval]) ?_
  simp(maxSteps:=9^7) (disch:=try exact dI) only[pW,push_cast,seval]
  exact⟨i+1,aN (by simp(maxSteps:=9^7) (disch:=try exact dI) only[pW,hs2,push_cast,seval]),by omega,by omega⟩
 ·have hltI:¬ (i:Int)<l.length:=by omega
  have hle:l.take i=l:=List.take_of_length_le (by omega)
  simp(maxSteps:=9^7) (disch:=try exact dI) only[hle,push_cast,seval]
  exact aI [] (by simp(maxSteps:=9^7) (disch:=try exact dI) only[pW,push_cast,seval])
theorem yq (e:List (Nat×AV))(σ:List (Nat×Blk))(n:Nat):eQ e σ n .anyc=some (.any,[]):=_root_.id rfl
theorem pJ (e:List (Nat×AV)):cp e .anyc=[]:=_root_.id rfl
theorem q0:aY (.xop .anyc)=0:=_root_.id rfl
theorem a8 (f:Nat)(a b:List PV):PV.one (.clo f a b)=true:=rfl
theorem cr:PV.one .nilf=true:=rfl
theorem o9 (a b:Nat):qm 1 2 [.pv (.clo a [] []),.pv (.clo b [] [])]=some (.pv (.list [.clo a [] [],.clo b [] []]),[]):=rfl
theorem o8 (a b c:Nat):qm 1 3 [.pv (.clo a [] []),.pv (.clo b [] []),.pv (.clo c [] [])]=some (.pv (.list [.clo a [] [],.clo b [] [],.clo c [] []]),[]):=rfl
theorem oZ (a b c d:Nat):qm 1 4 [.pv (.clo a [] []),.pv (.clo b [] []),.pv (.clo c [] []),.pv (.clo d [] [])]=some (.pv (.list [.clo a [] [],.clo b [] [],.clo c [] [],.clo d [] []]),[]):=rfl
theorem rR (l:List PV)(hl:l.length<=100):ap Tryz.prog aB 61 [.list l] (.clo 62 [] [.eptr [.list l] 0 0]):=by
 refine ap.intro Q61.2 (by simp[Q61]) ?_
 simp(maxSteps:=9^7) (disch:=try exact dI) only[Q61,push_cast,seval]
@[irreducible] def aT:List (PV×PV):=[(.int .i64 1,.agg [.clo 62 [] [.eptr [.list [.clo 56 [] [],.clo 58 [] []]] 0 0],.clo 65 [] []]),(.int .i64 2,.agg [.clo 57 [] [],.clo 67 [] []]),(.int .i64 3,.agg [.clo 62 [] [.eptr [.list [.clo 56 [] [],.clo 57 [] []]] 0 0],.clo 68 [] []]),(.int .i64 4,.agg [.clo 62 [] [.eptr [.list [.clo 58 [] [],.clo 63 [] [],.clo 59 [] [],.clo 57 [] []]] 0 0],.clo 69 [] []]),(.int .i64 5,.agg [.clo 62 [] [.eptr [.list [.clo 58 [] [],.clo 59 [] []]] 0 0],.clo 71 [] []]),(.int .i64 6,.agg [.clo 62 [] [.eptr [.list [.clo 58 [] [],.clo 63 [] []]] 0 0],.clo 72 [] []]),(.int .i64 7,.agg [.clo 62 [] [.eptr [.list [.clo 63 [] [],.clo 59 [] []]] 0 0],.clo 73 [] []]),(.int .i64 8,.agg [.clo 59 [] [],.clo 74 [] []]),(.int .i64 9,.agg [.clo 62 [] [.eptr [.list [.clo 57 [] [],.clo 59 [] [],.clo 64 [] []]] 0 0],.clo 75 [] []]),(.int .i64 10,.agg [.clo 62 [] [.eptr [.list [.clo 57 [] [],.clo 59 [] [],.clo 64 [] []]] 0 0],.clo 77 [] []]),(.int .i64 11,.agg [.clo 60 [] [],.clo 78 [] []]),(.int .i64 12,.agg [.clo 60 [] [],.clo 80 [] []]),(.int .i64 13,.agg [.clo 56 [] [],.clo 81 [] []]),(.int .i64 14,.agg [.clo 56 [] [],.clo 82 [] []])]
@[irreducible] def bq (k:Nat):List (PV×PV):=aT.take k
theorem Oe (r:Nat):eW (some .i64) r (.int .i64 1) (.agg [.clo 62 [] [.eptr [.list [.clo 56 [] [],.clo 58 [] []]] 0 0],.clo 65 [] []]) (.mp [])=some [(r,.mp (bq 1))]:=by kernel_rfl
theorem Od (r:Nat):eW (some .i64) r (.int .i64 2) (.agg [.clo 57 [] [],.clo 67 [] []]) (.mp (bq 1))=some [(r,.mp (bq 2))]:=by kernel_rfl
theorem Oc (r:Nat):eW (some .i64) r (.int .i64 3) (.agg [.clo 62 [] [.eptr [.list [.clo 56 [] [],.clo 57 [] []]] 0 0],.clo 68 [] []]) (.mp (bq 2))=some [(r,.mp (bq 3))]:=by kernel_rfl
theorem Ob (r:Nat):eW (some .i64) r (.int .i64 4) (.agg [.clo 62 [] [.eptr [.list [.clo 58 [] [],.clo 63 [] [],.clo 59 [] [],.clo 57 [] []]] 0 0],.clo 69 [] []]) (.mp (bq 3))=some [(r,.mp (bq 4))]:=by kernel_rfl
theorem Oa (r:Nat):eW (some .i64) r (.int .i64 5) (.agg [.clo 62 [] [.eptr [.list [.clo 58 [] [],.clo 59 [] []]] 0 0],.clo 71 [] []]) (.mp (bq 4))=some [(r,.mp (bq 5))]:=by kernel_rfl
theorem N9 (r:Nat):eW (some .i64) r (.int .i64 6) (.agg [.clo 62 [] [.eptr [.list [.clo 58 [] [],.clo 63 [] []]] 0 0],.clo 72 [] []]) (.mp (bq 5))=some [(r,.mp (bq 6))]:=by kernel_rfl
theorem N8 (r:Nat):eW (some .i64) r (.int .i64 7) (.agg [.clo 62 [] [.eptr [.list [.clo 63 [] [],.clo 59 [] []]] 0 0],.clo 73 [] []]) (.mp (bq 6))=some [(r,.mp (bq 7))]:=by kernel_rfl
theorem N7 (r:Nat):eW (some .i64) r (.int .i64 8) (.agg [.clo 59 [] [],.clo 74 [] []]) (.mp (bq 7))=some [(r,.mp (bq 8))]:=by kernel_rfl
theorem N6 (r:Nat):eW (some .i64) r (.int .i64 9) (.agg [.clo 62 [] [.eptr [.list [.clo 57 [] [],.clo 59 [] [],.clo 64 [] []]] 0 0],.clo 75 [] []]) (.mp (bq 8))=some [(r,.mp (bq 9))]:=by kernel_rfl
theorem Kq (r:Nat):eW (some .i64) r (.int .i64 10) (.agg [.clo 62 [] [.eptr [.list [.clo 57 [] [],.clo 59 [] [],.clo 64 [] []]] 0 0],.clo 77 [] []]) (.mp (bq 9))=some [(r,.mp (bq 10))]:=by kernel_rfl
theorem Kp (r:Nat):eW (some .i64) r (.int .i64 11) (.agg [.clo 60 [] [],.clo 78 [] []]) (.mp (bq 10))=some [(r,.mp (bq 11))]:=by kernel_rfl
theorem Ko (r:Nat):eW (some .i64) r (.int .i64 12) (.agg [.clo 60 [] [],.clo 80 [] []]) (.mp (bq 11))=some [(r,.mp (bq 12))]:=by kernel_rfl
theorem Kn (r:Nat):eW (some .i64) r (.int .i64 13) (.agg [.clo 56 [] [],.clo 81 [] []]) (.mp (bq 12))=some [(r,.mp (bq 13))]:=by kernel_rfl
theorem Km (r:Nat):eW (some .i64) r (.int .i64 14) (.agg [.clo 56 [] [],.clo 82 [] []]) (.mp (bq 13))=some [(r,.mp (bq 14))]:=by kernel_rfl
theorem uF:bq 14=aT:=by kernel_rfl
theorem Kz:cg (some .i64) true (.agg [.nilf,.nilf]) (.int .i64 1) (.mp aT)=some (.pv (.tup [.agg [.clo 62 [] [.eptr [.list [.clo 56 [] [],.clo 58 [] []]] 0 0],.clo 65 [] []],.bool true])):=by kernel_rfl
theorem Ky:cg (some .i64) true (.agg [.nilf,.nilf]) (.int .i64 2) (.mp aT)=some (.pv (.tup [.agg [.clo 57 [] [],.clo 67 [] []],.bool true])):=by kernel_rfl
theorem Kx:cg (some .i64) true (.agg [.nilf,.nilf]) (.int .i64 3) (.mp aT)=some (.pv (.tup [.agg [.clo 62 [] [.eptr [.list [.clo 56 [] [],.clo 57 [] []]] 0 0],.clo 68 [] []],.bool true])):=by kernel_rfl
theorem Kw:cg (some .i64) true (.agg [.nilf,.nilf]) (.int .i64 4) (.mp aT)=some (.pv (.tup [.agg [.clo 62 [] [.eptr [.list [.clo 58 [] [],.clo 63 [] [],.clo 59 [] [],.clo 57 [] []]] 0 0],.clo 69 [] []],.bool true])):=by kernel_rfl
theorem Kv:cg (some .i64) true (.agg [.nilf,.nilf]) (.int .i64 5) (.mp aT)=some (.pv (.tup [.agg [.clo 62 [] [.eptr [.list [.clo 58 [] [],.clo 59 [] []]] 0 0],.clo 71 [] []],.bool true])):=by kernel_rfl
theorem Ku:cg (some .i64) true (.agg [.nilf,.nilf]) (.int .i64 6) (.mp aT)=some (.pv (.tup [.agg [.clo 62 [] [.eptr [.list [.clo 58 [] [],.clo 63 [] []]] 0 0],.clo 72 [] []],.bool true])):=by kernel_rfl
theorem Kt:cg (some .i64) true (.agg [.nilf,.nilf]) (.int .i64 7) (.mp aT)=some (.pv (.tup [.agg [.clo 62 [] [.eptr [.list [.clo 63 [] [],.clo 59 [] []]] 0 0],.clo 73 [] []],.bool true])):=by kernel_rfl
theorem Ks:cg (some .i64) true (.agg [.nilf,.nilf]) (.int .i64 8) (.mp aT)=some (.pv (.tup [.agg [.clo 59 [] [],.clo 74 [] []],.bool true])):=by kernel_rfl
theorem Kr:cg (some .i64) true (.agg [.nilf,.nilf]) (.int .i64 9) (.mp aT)=some (.pv (.tup [.agg [.clo 62 [] [.eptr [.list [.clo 57 [] [],.clo 59 [] [],.clo 64 [] []]] 0 0],.clo 75 [] []],.bool true])):=by kernel_rfl
theorem Fc:cg (some .i64) true (.agg [.nilf,.nilf]) (.int .i64 10) (.mp aT)=some (.pv (.tup [.agg [.clo 62 [] [.eptr [.list [.clo 57 [] [],.clo 59 [] [],.clo 64 [] []]] 0 0],.clo 77 [] []],.bool true])):=by kernel_rfl
theorem Fb:cg (some .i64) true (.agg [.nilf,.nilf]) (.int .i64 11) (.mp aT)=some (.pv (.tup [.agg [.clo 60 [] [],.clo 78 [] []],.bool true])):=by kernel_rfl
theorem Fa:cg (some .i64) true (.agg [.nilf,.nilf]) (.int .i64 12) (.mp aT)=some (.pv (.tup [.agg [.clo 60 [] [],.clo 80 [] []],.bool true])):=by kernel_rfl
theorem E9:cg (some .i64) true (.agg [.nilf,.nilf]) (.int .i64 13) (.mp aT)=some (.pv (.tup [.agg [.clo 56 [] [],.clo 81 [] []],.bool true])):=by kernel_rfl
theorem E8:cg (some .i64) true (.agg [.nilf,.nilf]) (.int .i64 14) (.mp aT)=some (.pv (.tup [.agg [.clo 56 [] [],.clo 82 [] []],.bool true])):=by kernel_rfl
theorem sG (k:Int):∀ (l:List (PV×PV)) (i:Nat),(∀ q∈l,∃ n,q.1 = .int .i64 n/\n≠k)->fC (.int .i64 k) l i=some none
 | [],i,_=>rfl
 | q::r,i,h=>by
   obtain⟨n,hn,hk⟩:=h q (by simp)
   have ih:=sG k r (i+1) (fun q hq=>h q (by simp[hq]))
   have hb:(k == n)=false:=by simpa using Ne.symm hk
   simp only[fC,hn,keq,if_true,hb,ih]
theorem E7 (k:Int)(h:¬ (1<=k/\k<=14)):cg (some .i64) true (.agg [.nilf,.nilf]) (.int .i64 k) (.mp aT)=some (.pv (.tup [.agg [.nilf,.nilf],.bool false])):=by
 have:fC (.int .i64 k) aT 0=some none:=by
  refine sG k _ 0 fun q hq=>?_
  simp only[aT,List.mem_cons,List.not_mem_nil,or_false] at hq
  rcases hq with rfl | rfl | rfl | rfl | rfl | rfl | rfl | rfl | rfl | rfl | rfl | rfl | rfl | rfl
  all_goals exact⟨_,rfl,by omega⟩
 simp only[cg,this]
 rfl

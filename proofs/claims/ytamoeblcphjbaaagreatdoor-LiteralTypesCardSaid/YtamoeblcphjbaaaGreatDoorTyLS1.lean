/- A part. -/
import Derived.Test.YtamoeblcphjbaaaGreatDoorTyL20
set_option linter.unusedVariables false
set_option linter.unusedSimpArgs false
set_option maxHeartbeats 16000000
set_option maxRecDepth 100000
open List renaming map_nil->Xp,getElem?_eq_some_iff->WH,drop_eq_getElem_cons->Xw,getElem?_eq_getElem->WE,drop_length->XX
open Int renaming add_sub_cancel->XH
namespace Go.Proofs.YtamoeblcphjbaaaGreatDoor
open Go Go.Ab
attribute [local irreducible] vc
def inB (n a b:Int):Bool:=decide (a<=n)&&decide (n<=b)
theorem pM (n a b:Int):am Tryz.prog aC 195 [.int .i64 n,.int .i64 a,.int .i64 b] (.bool (inB n a b)):=by
 refine am.intro S4.2 (by simp[S4]) ?_
 by_cases h1:a<=n
 ·by_cases h2:n<=b
  ·rw[show inB n a b=true by simp[inB,h1,h2]]
   simp(disch:=try exact dI) only[S4,push_cast,seval]
  ·rw[show inB n a b=false by simp[inB,h2]]
   simp(disch:=try exact dI) only[S4,push_cast,seval]
 ·rw[show inB n a b=false by simp[inB,h1]]
  simp(disch:=try exact dI) only[S4,push_cast,seval]
def lim (nm:List UInt8)(lo hi:Int)(b1 b2 b3 b4 b5:Bool):PV:=.agg [.str nm,.int .i64 lo,.int .i64 hi,.bool b1,.bool b2,.bool b3,.bool b4,.bool b5]
def j8 (b1 b2 b3 b4 b5:Bool):Typ->Bool
 | .mk k m M s w e f=>(!b1&&!(decide (m=0)&&decide (M=0)))||((!b2&&!decide (s=0))||((!b3&&!decide (w.length=0))||((!b4&&!decide (e.length=0))||(!b5&&!decide (f.length=0)))))
theorem DY (b:Bool)(n:Nat):(b=false/\(0:Int)<(n:Int)/\¬ n=0)\/(b=false/\¬ (0:Int)<(n:Int)/\n=0)\/b=true:=by
 cases b<;>by_cases h:n=0<;>simp[h];omega
theorem OA (k m M s:Int)(w:List (List UInt8))(e:List Typ)(f:List TFd)(nm:List UInt8)(lo hi:Int)(b1 b2 b3 b4 b5:Bool):am Tryz.prog aC 196 [(Typ.mk k m M s w e f).pv,lim nm lo hi b1 b2 b3 b4 b5] (.int .i64 (if j8 b1 b2 b3 b4 b5 (.mk k m M s w e f)=true then 3 else 0)):=by
 obtain⟨r,hr⟩:∃ r,r=j8 b1 b2 b3 b4 b5 (.mk k m M s w e f):=⟨_,rfl⟩
 rw[<- hr]
 refine am.intro Vk.2 (by simp[Vk]) ?_
 have h1:(b1=false/\¬ m=0)\/(b1=false/\m=0/\¬ M=0)\/(b1=false/\m=0/\M=0)\/b1=true:=by cases b1<;>simp<;>omega
 have h2:(b2=false/\¬ s=0)\/(b2=false/\s=0)\/b2=true:=by cases b2<;>simp<;>omega
 have h3:=DY b3 w.length
 have h4:=DY b4 e.length
 have h5:=DY b5 f.length
 rcases h1 with ⟨rfl,a⟩ | ⟨rfl,a,b⟩ | ⟨rfl,a,b⟩ | rfl
 all_goals first | (have:=hend;skip) | (refine cZ (c:=true) hr ?_ ?_;(focus (simp[j8, *];done));rintro rfl;have hend:=trivial;clear h2 h3 h4 h5) | rcases h2 with ⟨rfl,a2⟩ | ⟨rfl,a2⟩ | rfl
 all_goals first | (have:=hend;skip) | (refine cZ (c:=true) hr ?_ ?_;(focus (simp[j8, *];done));rintro rfl;have hend:=trivial;clear h3 h4 h5) | rcases h3 with ⟨rfl,a3,c3⟩ | ⟨rfl,a3,c3⟩ | rfl
 all_goals first | (have:=hend;skip) | (refine cZ (c:=true) hr ?_ ?_;(focus (simp[j8, *];done));rintro rfl;have hend:=trivial;clear h4 h5) | rcases h4 with ⟨rfl,a4,c4⟩ | ⟨rfl,a4,c4⟩ | rfl
 all_goals first | (have:=hend;skip) | (refine cZ (c:=true) hr ?_ ?_;(focus (simp[j8, *];done));rintro rfl;have hend:=trivial;clear h5) | rcases h5 with ⟨rfl,a5,c5⟩ | ⟨rfl,a5,c5⟩ | rfl
 all_goals first | (have:=hend;skip) | (refine cZ (c:=true) hr ?_ ?_;(focus (simp[j8, *];done));rintro rfl) | (refine cZ (c:=false) hr ?_ ?_;(focus (simp[j8, *];done));rintro rfl)
 all_goals clear hr
 all_goals simp(disch:=try exact dI) only[Vk,WB,lim, *,push_cast,seval]
def iw (w:List UInt8):Val:=.mk 4 0 0 w [] []
def kJ (w:List UInt8):Int:=if fb w.length 1024 5=0 then (if Lib.validD w=true then 0 else 16) else fb w.length 1024 5
theorem MD (w:List UInt8):am Tryz.prog aC 96 [.str w] (iw w).pv:=by
 refine am.intro Q96.2 (by simp[Q96]) ?_
 simp only[iw,WD,Xp]
 simp(disch:=try exact dI) only[Q96,push_cast,seval]
theorem C4 (w:List UInt8):bF 1 1 (iw w)=[(1,iw w)]:=by
 simp[bF,bu,iw,Val.kind]
theorem J4 (w:List UInt8):lz 0 (bF 1 1 (iw w))=kJ w:=by
 rw[C4,lz,tv (by omega) (by simp) (by simp[gw,iw]) (by simp[iw,Val.kind]) (by simp[eA,iw])]
 simp only[lz]
 have e:bv (iw w)=kJ w:=rfl
 rw[e]
 split
 ·rename_i h;exact h.symm
 ·rfl
theorem FE (w:List UInt8)(hw:w.length<=140737488351232):am Tryz.prog aC 15 [(iw w).pv] (.int .i64 (kJ w)):=by
 have:=lB 1 (iw w) (by simp[ia,bu,iw,Val.kind]) (by simp[iw,WC,I64,hw])
 rw[J4] at this
 exact this
def fN:Option (List UInt8)->List (List UInt8)->Int
 | _,[]=>0
 | p,w::r=>if kJ w=0 then (if p=some w then 7 else if (p.any fun q=>cK w q)=true then 24 else fN (some w) r) else kJ w
theorem s8 {ws:List (List UInt8)}{i:Nat}{w:List UInt8}(h:ws[i]? = some w)(p:Option (List UInt8)):fN p (ws.drop i)=if kJ w=0 then (if p=some w then 7 else if (p.any fun q=>cK w q)=true then 24 else fN (some w) (ws.drop (i+1))) else kJ w:=by
 have hi:i<ws.length:=(WH.1 h).1
 have he:ws[i]=w:=(WH.1 h).2
 rw[Xw hi,he,fN]
def tS (ws:List (List UInt8))(i:Nat):Option (List UInt8):=if i=0 then none else ws[i - 1]?
def dU (m M:Int)(ws:List (List UInt8)):Int:=if ¬ (m=0/\M=0) then 3 else if 64<ws.length then 9 else fN none ws
theorem GD (k m M s:Int)(ws:List (List UInt8))(e:List Typ)(f:List TFd)(hw:∀ w∈ws,w.length<=140737488351232):am Tryz.prog aC 197 [(Typ.mk k m M s ws e f).pv] (.int .i64 (dU m M ws)):=by
 refine am.intro P2.2 (by simp[P2]) ?_
 by_cases hm:m=0
 ·by_cases hM:M=0
  ·by_cases h64:64<ws.length
   ·rw[show dU m M ws=9 by simp[dU,hm,hM,h64]]
    simp(disch:=try exact dI) only[P2,WB,hm,hM,push_cast,seval]
   ·rw[show dU m M ws=fN none ws by simp[dU,hm,hM,h64]]
    obtain⟨R,hR⟩:∃ R,R=fN none ws:=⟨_,rfl⟩
    rw[<- hR]
    simp(disch:=try exact dI) only[P2,WB,hm,hM,push_cast,seval]
    refine aG ([]) (fun i:Nat=>[(23,.pv (.int .i64 (i:Int)))]) (fun _=>[]) (fun i=>i<=ws.length/\R=fN (tS ws i) (ws.drop i)) (fun i=>ws.length - i) (0) ?_;intro e0 σ0 n0 h0;simp(disch:=try exact dI) only[push_cast,seval] at h0;obtain⟨rfl,rfl,rfl⟩:=h0;refine⟨?_,?_,?_⟩
    ·exact qsZ
    ·exact⟨by omega,by simpa[tS] using hR⟩
    rintro i ⟨hi,hr⟩
    by_cases hlt:i<ws.length
    ·have hltI:(i:Int)<(ws.length:Int):=by omega
     obtain⟨w,hwi⟩:∃ w,ws[i]? = some w:=⟨_,WE hlt⟩
     have hcp:(ws.map PV.str)[i]? = some (.str w):=by simp[hwi]
     have ht:=MD w
     have hc:=FE w (hw w (List.mem_of_getElem? hwi))
     simp only[iw,WD,Xp] at ht hc
     rw[s8 hwi] at hr
     have hnext:tS ws (i+1)=some w:=by simp[tS,hwi]
     generalize kJ w=z at hc hr
     by_cases hz:z=0
     ·subst hz
      rw[if_pos rfl] at hr
      by_cases hi0:i=0
      ·have hiI:¬ (0:Int)<(i:Int):=by omega
       have hpn:tS ws i=none:=if_pos hi0
       rw[hpn,if_neg (by simp),if_neg (by simp),<- hnext] at hr
       simp(disch:=try exact dI) only[hcp,push_cast,seval]
       refine ae.pure ht rfl ?_
       refine zgZ ?_
       refine ae.pure hc rfl ?_
       refine zgZ ?_
       exact⟨i+1,bl qsZ,⟨by omega,hr⟩,by omega⟩
      ·obtain⟨j,rfl⟩:∃ j,i=j+1:=⟨i - 1,by omega⟩
       obtain⟨q,hq'⟩:∃ q,ws[j]? = some q:=⟨_,WE (by omega)⟩
       have hpn:tS ws (j+1)=some q:=by simp[tS,hq']
       have hcq:(ws.map PV.str)[j]? = some (.str q):=by simp[hq']
       rw[hpn] at hr
       by_cases hq:w=q
       ·subst hq
        rw[if_pos rfl] at hr
        subst hr
        simp(disch:=try exact dI) only[hcp,XH,push_cast,seval]
        refine ae.pure ht rfl ?_
        refine zgZ ?_
        refine ae.pure hc rfl ?_
        simp(disch:=try exact dI) only[hcq,XH,push_cast,seval]
       ·rw[if_neg (by simpa using fun e=>hq e.symm)] at hr
        cases hlt2:cK w q with
        | true=>
          rw[if_pos (by simpa using hlt2)] at hr
          subst hr
          simp(disch:=try exact dI) only[hcp,XH,push_cast,seval]
          refine ae.pure ht rfl ?_
          refine zgZ ?_
          refine ae.pure hc rfl ?_
          simp(disch:=try exact dI) only[hcq,XH,hq,hlt2,push_cast,seval]
        | false=>
          rw[if_neg (by simp[hlt2]),<- hnext] at hr
          simp(disch:=try exact dI) only[hcp,XH,push_cast,seval]
          refine ae.pure ht rfl ?_
          refine zgZ ?_
          refine ae.pure hc rfl ?_
          simp(disch:=try exact dI) only[hcq,XH,hq,hlt2,push_cast,seval]
          exact⟨j+1+1,bl qsZ,⟨by omega,hr⟩,by omega⟩
     ·rw[if_neg hz] at hr
      subst hr
      simp(disch:=try exact dI) only[hcp,push_cast,seval]
      refine ae.pure ht rfl ?_
      refine zgZ ?_
      refine ae.pure hc rfl ?_
      exact qsZ
    ·have hie:i=ws.length:=by omega
     subst hie
     rw[XX] at hr
     rw[show R=0 from hr]
     exact qsZ
  ·rw[show dU m M ws=3 by simp[dU,hM]]
   simp(disch:=try exact dI) only[P2,WB,hm,hM,push_cast,seval]
 ·rw[show dU m M ws=3 by simp[dU,hm]]
  simp(disch:=try exact dI) only[P2,WB,hm,push_cast,seval]
def xH (n:Int)(nm:List UInt8)(g:TFd):Bool:=decide (g.name=nm)||decide (g.number=n)
def fU (n:Int)(nm:List UInt8)(nd k m M s:Int)(w:List (List UInt8))(e:List Typ)(fs:List TFd)(d:List Val):List AV:=
 [.pv (.int .i64 n),.pv (.str nm),.pv (.int .i64 nd),.pv (.int .i64 k),.pv (.int .i64 m),.pv (.int .i64 M),.pv (.int .i64 s),.pv (.list (w.map PV.str)),.pv (.list (e.map Typ.pv)),.pv (.list (fs.map TFd.pv)),.pv (.list (d.map Val.pv))]
section
variable (n:Int)(nm:List UInt8)(nd k m M s:Int)(w:List (List UInt8))(e:List Typ)(fs:List TFd)(d:List Val)
theorem RU (g:TFd):aP Tryz.prog aC 1 226 [.pv g.pv,.ptr 0 0] [.cells 60 true (fU n nm nd k m M s w e fs d)] (.pv (.bool (xH n nm g))) [.cells 60 true (fU n nm nd k m M s w e fs d)]:=by
 obtain⟨n',nm',nd',⟨k',m',M',s',w',e',fs'⟩,d'⟩:=g
 by_cases h1:nm'=nm
 ·rw[show xH n nm (TFd.mk n' nm' nd' (Typ.mk k' m' M' s' w' e' fs') d')=true by simp[xH,TFd.name,h1]]
  refine aP.intro Kw.2 (by simp[Kw]) ?_
  simp(disch:=try exact dI) only[Kw,Wt,WB,h1,fU,push_cast,seval]
  exact au [] qsZ
 ·by_cases h2:n'=n
  ·rw[show xH n nm (TFd.mk n' nm' nd' (Typ.mk k' m' M' s' w' e' fs') d')=true by simp[xH,TFd.number,h2]]
   refine aP.intro Kw.2 (by simp[Kw]) ?_
   simp(disch:=try exact dI) only[Kw,Wt,WB,h1,h2,fU,push_cast,seval]
   exact au [] qsZ
  ·rw[show xH n nm (TFd.mk n' nm' nd' (Typ.mk k' m' M' s' w' e' fs') d')=false by simp[xH,TFd.name,TFd.number,h1,h2]]
   refine aP.intro Kw.2 (by simp[Kw]) ?_
   simp(disch:=try exact dI) only[Kw,Wt,WB,h1,h2,fU,push_cast,seval]
   exact au [] qsZ
end
section
variable (n:Int)(nm:List UInt8)(nd k m M s:Int)(w:List (List UInt8))(e:List Typ)(fs:List TFd)(d:List Val)
theorem En (l:List TFd)(hl:l.length<=9000000000000) :
  aP Tryz.prog aC 1 254 [.pv (.list (l.map TFd.pv)),.clo 226 [] [.ptr 0 0]] [.cells 60 true (fU n nm nd k m M s w e fs d)] (.pv (.int .i64 (j6 (xH n nm) l 0))) [.cells 60 true (fU n nm nd k m M s w e fs d)]:=by
 have hq:=fun x=>RU n nm nd k m M s w e fs d x
 generalize xH n nm=q at *
 simp only[fU] at hq ⊢
 refine aP.intro PX.2 (by simp[PX]) ?_
 simp(disch:=try exact dI) only[PX,push_cast,seval]
 refine aG ([]) (fun m:Nat=>[(8,.pv (.int .i64 (m:Int)))]) (fun m=>[]) (fun m=>m<=l.length/\j6 q l 0=j6 q (l.drop m) m) (fun m=>l.length - m) (0) ?_;intro e0 σ0 n0 h0;simp(disch:=try exact dI) only[push_cast,seval] at h0;obtain⟨rfl,rfl,rfl⟩:=h0;refine⟨?_,?_,?_⟩
 ·exact qsZ
 ·exact⟨by omega,by simp⟩
 ·rintro m ⟨hm,he⟩
  by_cases hlt:m<l.length
  ·have hltI:(m:Int)<l.length:=by omega
   obtain⟨x,hx⟩:∃ x,l[m]? = some x:=⟨_,WE hlt⟩
   have hcall:=hq x
   simp(disch:=try exact dI) only[hx,TFd.cells_len,TFd.isAgg,push_cast,seval]
   refine ae.lentK hcall [0] rfl qsZ qsZ ?_
   cases hqx:q x with
   | true=>
     rw[he,mR hx hqx]
     refine zgZ ?_
     exact au [] qsZ
   | false=>
     rw[jn hx hqx] at he
     refine zgZ ?_
     exact⟨m+1,bl qsZ,⟨by omega,he⟩,by omega⟩
  ·have hltI:¬ (m:Int)<l.length:=by omega
   rw[he,mS hlt]
   refine zgZ ?_
   exact au [] qsZ
theorem uY (l:List TFd)(hl:l.length<=9000000000000) :
  aP Tryz.prog aC 1 225 [.pv (.list (l.map TFd.pv)),.clo 226 [] [.ptr 0 0]] [.cells 60 true (fU n nm nd k m M s w e fs d)] (.pv (.bool (l.any (xH n nm)))) [.cells 60 true (fU n nm nd k m M s w e fs d)]:=by
 have h94:=En n nm nd k m M s w e fs d l hl
 have hfa:=lp (p:=xH n nm) l
 simp only[fU] at h94 ⊢
 refine aP.intro Md.2 (by simp[Md]) ?_
 rcases fE (p:=xH n nm) l 0 with ⟨h1,h2⟩ | ⟨k,x,h1,h2,h3⟩
 ·rw[h2] at h94
  rw[h1] at hfa
  rw[<- hfa]
  simp(disch:=try exact dI) only[Md,push_cast,seval]
  refine ae.lentK h94 [0] rfl qsZ qsZ ?_
  refine zgZ ?_
  exact au [] (by simp(disch:=try exact dI) only[Option.isSome_none,push_cast,seval])
 ·rw[h3] at h94
  rw[h2] at hfa
  rw[<- hfa]
  have hk:(0:Int)<=((0+k:Nat):Int):=by omega
  generalize ((0+k:Nat):Int)=z at *
  simp(disch:=try exact dI) only[Md,push_cast,seval]
  refine ae.lentK h94 [0] rfl qsZ qsZ ?_
  refine zgZ ?_
  exact au [] (by simp(disch:=try exact dI) only[Option.isSome_some,push_cast,seval])
end
def eu (k:Int)(before:List TFd):TFd->Int
 | .mk n nm nd _ d=>if bz nm=false then 12 else if inB n 1 9999=false then 2 else if before.any (xH n nm)=true then 7 else if inB nd 1 3=false then 11 else if k=10/\¬ nd=1 then 11
   else if nd=3/\d.length=0 then 4 else if 1<d.length then 3 else if ¬ nd=3/\0<d.length then 3 else 0
theorem JG (k m M s:Int)(w:List (List UInt8))(e:List Typ)(fs:List TFd)(hl:fs.length<=9000000000000)(i:Nat)(g:TFd)(hg:fs[i]? = some g) :
  am Tryz.prog aC 198 [(Typ.mk k m M s w e fs).pv,.int .i64 (i:Int)] (.int .i64 (eu k (fs.take i) g)):=by
 obtain⟨n,nm,nd,⟨k',m',M',s',w',e',f'⟩,d⟩:=g
 have hlt:i<fs.length:=by
  rcases Nat.lt_or_ge i fs.length with h | h
  ·exact h
  ·rw[List.getElem?_eq_none h] at hg;cases hg
 have hfp:(fs.map TFd.pv)[i]? = some (TFd.mk n nm nd (.mk k' m' M' s' w' e' f') d).pv:=by simp[hg]
 have hn:=mB nm
 have hi1:=pM n 1 9999
 have hi2:=pM nd 1 3
 have hc:=uY n nm nd k' m' M' s' w' e' f' d (fs.take i) (by simp;omega)
 rw[List.map_take] at hc
 simp only[fU] at hc
 simp only[eu]
 generalize (fs.take i).any (xH n nm)=q at hc ⊢
 refine am.intro Vj.2 (by simp[Vj]) ?_
 generalize bz nm=b1 at hn ⊢
 generalize inB n 1 9999=b2 at hi1 ⊢
 generalize inB nd 1 3=b3 at hi2 ⊢
 simp(disch:=try exact dI) only[Vj,WB,Wt,hg,Option.map_some,push_cast,seval]
 refine ae.pure hn rfl ?_
 cases b1 with
 | false=>simp(disch:=try exact dI) only[push_cast,seval]
 | true=>
 refine zgZ ?_
 refine ae.pure hi1 rfl ?_
 cases b2 with
 | false=>simp(disch:=try exact dI) only[push_cast,seval]
 | true=>
 refine zgZ ?_
 refine ae.lentK hc [3] rfl qsZ qsZ ?_
 cases q with
 | true=>simp(disch:=try exact dI) only[push_cast,seval]
 | false=>
 refine zgZ ?_
 refine ae.pure hi2 rfl ?_
 cases b3 with
 | false=>simp(disch:=try exact dI) only[push_cast,seval]
 | true=>
 by_cases hk:k=10/\¬ nd=1
 ·obtain⟨hk,hnd⟩:=hk
  subst hk
  rw[if_pos (show (10:Int)=10/\¬ nd=1 from⟨rfl,hnd⟩)]
  simp(disch:=try exact dI) only[hnd,push_cast,seval]
 rw[if_neg hk]
 have hfin:∀ (x:Int),x=(if nd=3/\d.length=0 then (4:Int) else if 1<d.length then 3 else if ¬ nd=3/\0<d.length then 3 else 0)->x=4/\nd=3/\d.length=0\/x=3/\1<d.length\/x=3/\¬ nd=3/\d.length=1\/x=0/\nd=3/\d.length=1\/x=0/\¬ nd=3/\d.length=0:=by
  intro x hx
  split at hx
  ·omega
  ·split at hx
   ·omega
   ·split at hx<;>omega
 obtain⟨x,hx⟩:∃ x,x=(if nd=3/\d.length=0 then (4:Int) else if 1<d.length then 3 else if ¬ nd=3/\0<d.length then 3 else 0):=⟨_,rfl⟩
 have hc5:=hfin x hx
 rw[<- hx]
 clear hfin hx
 have hk':k=10/\nd=1\/¬ k=10:=by
  by_cases h:k=10
  ·exact .inl ⟨h,Decidable.byContradiction fun hh=>hk ⟨h,hh⟩⟩
  ·exact .inr h
 clear hk
 rcases hc5 with ⟨rfl,rfl,h0⟩ | ⟨rfl,h1⟩ | ⟨rfl,hnd,h0⟩ | ⟨rfl,rfl,h0⟩ | ⟨rfl,hnd,h0⟩
 ·rcases hk' with ⟨_,hh⟩ | hk
  ·exact absurd hh (by decide)
  ·have h0I:(d.length:Int)=0:=by omega
   simp(disch:=try exact dI) only[hk,h0I,push_cast,seval]
 ·have h0I:¬ (d.length:Int)=0:=by omega
  have h1I:(1:Int)<d.length:=by omega
  rcases hk' with ⟨rfl,rfl⟩ | hk
  ·simp(disch:=try exact dI) only[h0I,h1I,push_cast,seval]
  ·by_cases hnd:nd=3
   ·simp(disch:=try exact dI) only[hk,hnd,h0I,h1I,push_cast,seval]
   ·simp(disch:=try exact dI) only[hk,hnd,h0I,h1I,push_cast,seval]
 ·have h0I:(d.length:Int)=1:=by omega
  rcases hk' with ⟨rfl,rfl⟩ | hk
  ·simp(disch:=try exact dI) only[h0I,push_cast,seval]
  ·simp(disch:=try exact dI) only[hk,hnd,h0I,push_cast,seval]
 ·have h0I:(d.length:Int)=1:=by omega
  rcases hk' with ⟨_,hh⟩ | hk
  ·exact absurd hh (by decide)
  ·simp(disch:=try exact dI) only[hk,h0I,push_cast,seval]
 ·have h0I:(d.length:Int)=0:=by omega
  rcases hk' with ⟨rfl,rfl⟩ | hk
  ·simp(disch:=try exact dI) only[h0I,push_cast,seval]
  ·simp(disch:=try exact dI) only[hk,hnd,h0I,push_cast,seval]
def wW:List PV:=[.str [],.int .i64 0,.int .i64 0,.bool false,.bool false,.bool false,.bool false,.bool false,.str [98,111,111,108],.int .i64 0,.int .i64 0,.bool false,.bool false,.bool false,.bool false,.bool false,.str [105,110,116],.int .i64 (-999999999999999),.int .i64 999999999999999,.bool true,.bool false,.bool false,.bool false,.bool false,.str [100,101,99,105,109,97,108],.int .i64 (-999999999999999),.int .i64 999999999999999,.bool true,.bool true,.bool false,.bool false,.bool false,.str [116,101,120,116],.int .i64 0,.int .i64 1024,.bool true,.bool false,.bool true,.bool false,.bool false,.str [98,121,116,101,115],.int .i64 0,.int .i64 1024,.bool true,.bool false,.bool false,.bool false,.bool false,.str [100,97,116,101],.int .i64 (-719162),.int .i64 2932896,.bool true,.bool false,.bool false,.bool false,.bool false,.str [116,105,109,101],.int .i64 (-62135596800000),.int .i64 253402300799999,.bool true,.bool false,.bool false,.bool false,.bool false,.str [108,105,115,116],.int .i64 0,.int .i64 256,.bool true,.bool false,.bool false,.bool true,.bool false,.str [114,101,99,111,114,100],.int .i64 0,.int .i64 0,.bool false,.bool false,.bool false,.bool false,.bool true,.str [118,97,114,105,97,110,116],.int .i64 0,.int .i64 0,.bool false,.bool false,.bool false,.bool false,.bool true]
theorem pH:am Tryz.prog aC 189 [] (.agg wW):=by
 refine am.intro Vo.2 (by simp[Vo]) ?_
 simp only[wW]
 simp(disch:=try exact dI) only[Vo,push_cast,seval]
def loK (k:Int):Int:=if k=2 then (-999999999999999) else if k=3 then (-999999999999999) else if k=6 then (-719162) else if k=7 then (-62135596800000) else 0
def hiK (k:Int):Int:=if k=2 then 999999999999999 else if k=3 then 999999999999999 else if k=4 then 1024 else if k=5 then 1024 else if k=6 then 2932896 else if k=7 then 253402300799999 else if k=8 then 256 else 0
def j7 (k:Int)(t:Typ):Bool:=j8 (decide (2<=k)&&decide (k<=8)) (decide (k=3)) (decide (k=4)) (decide (k=8)) (decide (9<=k)) t
def eh (k m M s:Int)(w:List (List UInt8)):Int:=if k=4/\0<w.length then dU m M w else if (2<=k/\k<=8)/\(M<m\/m<loK k\/hiK k<M) then 2 else if k=3/\inB s 0 12=false then 2 else 0
def dx (k:Int)(e f:Nat):Int:=if k=8/\e=0 then 4 else if k=10/\f=0 then 4 else if k=8/\1<e then 3 else if 64<f then 9 else 0
def cW (k:Int):List TFd->List TFd->Int
 | _,[]=>0
 | b,g::r=>if eu k b g=0 then cW k (b++[g]) r else eu k b g
theorem sl {k:Int}{f:List TFd}{i:Nat}{g:TFd}(h:f[i]? = some g):cW k (f.take i) (f.drop i)=if eu k (f.take i) g=0 then cW k (f.take (i+1)) (f.drop (i+1)) else eu k (f.take i) g:=by
 have hi:=(WH.1 h).1
 have he:f[i]=g:=(WH.1 h).2
 rw[Xw hi,he,cW,aK h]
def kN:Typ->Int
 | .mk k m M s w e f=>if inB k 1 10=false then 11 else if j7 k (.mk k m M s w e f)=true then 3 else if ¬ eh k m M s w=0 then eh k m M s w else if ¬ dx k e.length f.length=0 then dx k e.length f.length else cW k [] f
section
variable (m M s:Int)(w:List (List UInt8))(e:List Typ)(f:List TFd)
theorem QK (k:Int)(hk:1<=k/\k<=10):∃ nm,ft true 11 8 (.pv (.agg wW)) (.pv (.int .i64 k))=some (.pv (lim nm (loK k) (hiK k) (decide (2<=k)&&decide (k<=8)) (decide (k=3)) (decide (k=4)) (decide (k=8)) (decide (9<=k)))) /\
  am Tryz.prog aC 196 [(Typ.mk k m M s w e f).pv,lim nm (loK k) (hiK k) (decide (2<=k)&&decide (k<=8)) (decide (k=3)) (decide (k=4)) (decide (k=8)) (decide (9<=k))] (.int .i64 (if j7 k (.mk k m M s w e f)=true then 3 else 0)):=by
 have hc:k=1\/k=2\/k=3\/k=4\/k=5\/k=6\/k=7\/k=8\/k=9\/k=10:=by omega
 rcases hc with rfl | rfl | rfl | rfl | rfl | rfl | rfl | rfl | rfl | rfl
 all_goals exact⟨_,rfl,OA _ m M s w e f _ _ _ _ _ _ _ _⟩
theorem Q6 (k:Int)(hw:∀ x∈w,x.length<=140737488351232)(hl:f.length<=9000000000000)(hwl:w.length<=9000000000000)(hel:e.length<=9000000000000):am Tryz.prog aC 142 [(Typ.mk k m M s w e f).pv] (.int .i64 (kN (.mk k m M s w e f))):=by
 have hi:=pM k 1 10
 by_cases hk:inB k 1 10=false
 ·rw[hk] at hi
  rw[show kN (.mk k m M s w e f)=11 by simp[kN,hk]]
  refine am.intro P6.2 (by simp[P6]) ?_
  simp(disch:=try exact dI) only[P6,WB,push_cast,seval]
  refine ae.pure hi rfl ?_
  exact qsZ
 have hk:inB k 1 10=true:=by simpa using hk
 have hr:1<=k/\k<=10:=by simpa[inB] using hk
 rw[hk] at hi
 obtain⟨nm,hx,hf⟩:=QK m M s w e f k hr
 have hks:=pH
 have h190:=GD k m M s w e f hw
 have hsc:=pM s 0 12
 obtain⟨R,hR⟩:∃ R,R=cW k [] f:=⟨_,rfl⟩
 rw[show kN (.mk k m M s w e f)=if j7 k (.mk k m M s w e f)=true then 3 else if ¬ eh k m M s w=0 then eh k m M s w else if ¬ dx k e.length f.length=0 then dx k e.length f.length else R by rw[kN,if_neg (by rw[hk];decide),hR]]
 simp only[WB,lim] at hf hx h190
 generalize j7 k (.mk k m M s w e f)=b at hf ⊢
 refine am.intro P6.2 (by simp[P6]) ?_
 simp(disch:=try exact dI) only[P6,WB,push_cast,seval]
 refine ae.pure hi rfl ?_
 refine zgZ ?_
 refine ag hks rfl ?_
 simp(disch:=try exact dI) only[hx,push_cast,seval]
 refine ae.pure hf rfl ?_
 cases b with
 | true=>
   rw[if_pos rfl]
   exact qsZ
 | false=>
 rw[if_neg (show ¬ false=true by decide)]
 obtain⟨lo,hlo⟩:∃ lo,lo=loK k:=⟨_,rfl⟩
 obtain⟨hi',hhi⟩:∃ hi',hi'=hiK k:=⟨_,rfl⟩
 rw[<- hlo,<- hhi]
 by_cases hw4:k=4/\0<w.length
 case' pos=>
  have hw0I:(0:Int)<(w.length:Int):=by omega
  have h4:k=4:=hw4.1
  rw[show eh k m M s w=dU m M w by unfold eh;rw[if_pos hw4]]
  generalize dU m M w=z at h190 ⊢
  simp(disch:=try exact dI) only[eq_true h4,hw0I,push_cast,seval]
  refine ae.pure h190 rfl ?_
  by_cases hz:z=0
  case' neg=>rw[if_pos hz];simp(disch:=try exact dI) only[hz,push_cast,seval]
  case' pos=>rw[if_neg (by simpa using hz)]
 case' neg=>
  by_cases h4:k=4
  case' pos=>
   have hw0I:¬ (0:Int)<(w.length:Int):=by omega
   have h4':=eq_true h4
  case' neg=>
   have hw0I:=h4
   have h4':=eq_false h4
  all_goals
   by_cases hb:2<=k/\k<=8
   case' neg=>
    have hB:(decide (2<=k)&&decide (k<=8))=false:=by simp;omega
    have h3:¬ k=3:=by omega
    rw[show eh k m M s w=0 by unfold eh;rw[if_neg hw4,if_neg (fun h=>hb h.1)];exact if_neg fun h=>h3 h.1,if_neg (by simp)]
    simp(disch:=try exact dI) only[h4',hw0I,hB,eq_false h3,push_cast,seval]
   case' pos=>
    have hB:(decide (2<=k)&&decide (k<=8))=true:=by simp;omega
    by_cases hbad:M<m\/m<lo\/hi'<M
    case' pos=>
     rw[show eh k m M s w=2 by unfold eh;rw[if_neg hw4,if_pos ⟨hb,by rw[<- hlo,<- hhi];exact hbad⟩],if_pos (by decide)]
     rcases hbad with h | h | h
     ·simp(disch:=try exact dI) only[h4',hw0I,hB,h,push_cast,seval]
     ·by_cases g:M<m
      ·simp(disch:=try exact dI) only[h4',hw0I,hB,g,push_cast,seval]
      ·simp(disch:=try exact dI) only[h4',hw0I,hB,g,h,push_cast,seval]
     ·by_cases g:M<m
      ·simp(disch:=try exact dI) only[h4',hw0I,hB,g,push_cast,seval]
      ·by_cases g':m<lo
       ·simp(disch:=try exact dI) only[h4',hw0I,hB,g,g',push_cast,seval]
       ·simp(disch:=try exact dI) only[h4',hw0I,hB,g,g',h,push_cast,seval]
    case' neg=>
     have n1:¬ M<m:=fun h=>hbad (.inl h)
     have n2:¬ m<lo:=fun h=>hbad (.inr (.inl h))
     have n3:¬ hi'<M:=fun h=>hbad (.inr (.inr h))
     have hb0:eh k m M s w=if k=3/\inB s 0 12=false then 2 else 0:=by unfold eh;rw[if_neg hw4,if_neg (fun h=>hbad (by rw[hlo,hhi];exact h.2))]
     by_cases h3:k=3
     case' neg=>
      rw[show eh k m M s w=0 by rw[hb0];exact if_neg fun h=>h3 h.1,if_neg (by simp)]
      simp(disch:=try exact dI) only[h4',hw0I,hB,n1,n2,n3,eq_false h3,push_cast,seval]
     case' pos=>
      have h4':=eq_false (show ¬ k=4 by omega)
      rw[show eh k m M s w=if inB s 0 12=false then 2 else 0 by rw[hb0];simp only[h3,true_and]]
      generalize inB s 0 12=q at hsc ⊢
      simp(disch:=try exact dI) only[h4',hw0I,hB,n1,n2,n3,eq_true h3,push_cast,seval]
      refine ae.pure hsc rfl ?_
      cases q
      case' false=>rw[if_pos rfl,if_pos (by decide)];simp(disch:=try exact dI) only[push_cast,seval]
      case' true=>rw[if_neg (show ¬ true=false by decide),if_neg (by decide)]
 any_goals omega
 all_goals
  have hcs:(k=8/\e.length=0)\/(k=8/\¬ e.length=0/\1<e.length)\/(k=10/\f.length=0)\/((¬ (k=8/\e.length=0)/\¬ (k=10/\f.length=0))/\¬ (k=8/\1<e.length)):=by omega
  rcases hcs with ⟨h8,he⟩ | ⟨h8,he,he1⟩ | ⟨h8,he⟩ | ⟨⟨h1,h2⟩,h3⟩
  ·rw[if_pos (by simp[dx,h8,he]),show dx k e.length f.length=4 by simp[dx,h8,he]]
   have he:(e.length:Int)=0:=by omega
   simp(disch:=try exact dI) only[eq_true h8,he,push_cast,seval]
   all_goals omega
  ·rw[if_pos (by simp[dx,h8,he,he1]),show dx k e.length f.length=3 by simp[dx,h8,he,he1]]
   have he:¬ (e.length:Int)=0:=by omega
   have he1:(1:Int)<(e.length:Int):=by omega
   have h10:¬ k=10:=by omega
   simp(disch:=try exact dI) only[eq_true h8,eq_false h10,he,he1,push_cast,seval]
   all_goals omega
  ·have h8':¬ k=8:=by omega
   rw[if_pos (by simp[dx,h8,he]),show dx k e.length f.length=4 by simp[dx,h8,he]]
   have he:(f.length:Int)=0:=by omega
   simp(disch:=try exact dI) only[eq_true h8,eq_false h8',he,push_cast,seval]
   all_goals omega
  ·have hs0:64<f.length\/dx k e.length f.length=0:=by
    by_cases h:64<f.length
    ·exact .inl h
    ·exact .inr (by unfold dx;rw[if_neg h1,if_neg h2,if_neg h3,if_neg h])
   have hs9:64<f.length->dx k e.length f.length=9:=fun h=>by unfold dx;rw[if_neg h1,if_neg h2,if_neg h3,if_pos h]
   generalize dx k e.length f.length=z at hs0 hs9 ⊢
   by_cases a:k=8
   case' pos=>
    have b:¬ k=10:=by omega
    have g:¬ (e.length:Int)=0:=by omega
    have g':¬ (1:Int)<(e.length:Int):=by omega
    first
    | omega
    | simp(disch:=try exact dI) only[eq_true a,eq_false b,g,g',push_cast,seval]
   case' neg=>
    by_cases b:k=10
    case' pos=>
     have g:¬ (f.length:Int)=0:=by omega
     first
     | omega
     | simp(disch:=try exact dI) only[eq_false a,eq_true b,g,push_cast,seval]
    case' neg=>try simp(disch:=try exact dI) only[eq_false a,eq_false b,push_cast,seval]
   all_goals
    by_cases h64:64<f.length
    case' pos=>
     have h64I:(64:Int)<(f.length:Int):=by omega
     rw[hs9 h64,if_pos (by decide)]
     simp(disch:=try exact dI) only[h64I,push_cast,seval]
    case' neg=>
     have h64I:¬ (64:Int)<(f.length:Int):=by omega
     rw[hs0.resolve_left h64,if_neg (show ¬ ¬ (0:Int)=0 by decide)]
     simp(disch:=try exact dI) only[h64I,push_cast,seval]
     refine aG ([]) (fun i:Nat=>[(106,.pv (.int .i64 (i:Int)))]) (fun _=>[]) (fun i=>i<=f.length/\R=cW k (f.take i) (f.drop i)) (fun i=>f.length - i) (0) ?_;intro e0 σ0 n0 h0;simp(disch:=try exact dI) only[push_cast,seval] at h0;obtain⟨rfl,rfl,rfl⟩:=h0;refine⟨?_,?_,?_⟩
     ·exact qsZ
     ·exact⟨by omega,by simpa using hR⟩
     rintro i ⟨hi,hr⟩
     by_cases hlt:i<f.length
     ·have hltI:(i:Int)<(f.length:Int):=by omega
      obtain⟨g,hg⟩:∃ g,f[i]? = some g:=⟨_,WE hlt⟩
      have hfi:=JG k m M s w e f hl i g hg
      simp only[WB] at hfi
      rw[sl hg] at hr
      generalize eu k (f.take i) g=z2 at hfi hr
      by_cases hz2:z2=0
      ·subst hz2
       rw[if_pos rfl] at hr
       refine zgZ ?_
       refine ae.pure hfi rfl ?_
       refine zgZ ?_
       exact⟨i+1,bl qsZ,⟨by omega,hr⟩,by omega⟩
      ·rw[if_neg hz2] at hr
       subst hr
       refine zgZ ?_
       refine ae.pure hfi rfl ?_
       simp(disch:=try exact dI) only[hz2,push_cast,seval]
     ·obtain rfl:i=f.length:=by omega
      rw[XX,cW] at hr
      subst hr
      simp(disch:=try exact dI) only[Int.lt_irrefl,push_cast,seval]
end
def ca:Typ->List Typ
 | .mk k _ _ _ _ e f=>if k=8 then e else if k=9\/k=10 then f.map TFd.typ else []
theorem Is (k m M s:Int)(w:List (List UInt8))(e:List Typ)(fs:List TFd)(hf:fs.length*104<=140737488351232):am Tryz.prog aC 143 [(Typ.mk k m M s w e fs).pv] (.list ((ca (.mk k m M s w e fs)).map Typ.pv)):=by
 by_cases h8:k=8
 ·rw[show ca (.mk k m M s w e fs)=e from if_pos h8]
  subst h8
  refine am.intro Ky.2 (by simp[Ky]) ?_
  simp(disch:=try exact dI) only[Ky,WB,push_cast,seval]
 ·by_cases h9:k=9\/k=10
  ·rw[show ca (.mk k m M s w e fs)=fs.map TFd.typ by simp only[ca];rw[if_neg h8,if_pos h9]]
   have key:∀ c:Bool,True:=fun _=>trivial
   rcases h9 with rfl | rfl
   all_goals
    refine am.intro Ky.2 (by simp[Ky]) ?_
    simp(disch:=try exact dI) only[Ky,WB,push_cast,seval]
    refine aG ([]) (fun i:Nat=>[(3,.olist 0 7 (((fs.take i).map TFd.typ).map Typ.pv)),(22,.pv (.int .i64 (i:Int)))]) (fun _=>[]) (fun i=>i<=fs.length) (fun i=>fs.length - i) (0) ?_;intro e0 σ0 n0 h0;simp(disch:=try exact dI) only[push_cast,seval] at h0;obtain⟨rfl,rfl,rfl⟩:=h0;refine⟨?_,?_,?_⟩
    ·exact qsZ
    ·omega
    rintro i hi
    by_cases hlt:i<fs.length
    ·have hltI:(i:Int)<(fs.length:Int):=by omega
     obtain⟨c,hc⟩:∃ c,fs[i]? = some c:=⟨_,WE hlt⟩
     have hts:=aK hc
     obtain⟨n',nm',nd',⟨k',m',M',s',w',e',f'⟩,d'⟩:=c
     simp(disch:=try exact dI) only[hc,Option.map_some,Wt,WB,ap,push_cast,seval]
     exact⟨i+1,bl (by simp(disch:=try exact dI) only[hts,List.map_append,TFd.typ,WB,push_cast,seval]),by omega,by omega⟩
    ·have he:i=fs.length:=by omega
     subst he
     simp(disch:=try exact dI) only[List.take_length,t8,push_cast,seval]
  ·rw[show ca (.mk k m M s w e fs)=[] by simp only[ca];rw[if_neg h8,if_neg h9]]
   have h9':¬ k=9:=by omega
   have h10:¬ k=10:=by omega
   refine am.intro Ky.2 (by simp[Ky]) ?_
   simp(disch:=try exact dI) only[Ky,WB,push_cast,seval]
theorem wM (v:Val):ia (lvl v) v:=fJ _ v (iC v)
theorem xT:∀ (xs:List (Int×Val)) (i:Nat),i<=4096->lz i xs=0->i+xs.length<=4096
 | [],i,h,_=>by simpa using h
 | q::r,i,h,h0=>by
   rw[lz] at h0
   by_cases h1:bM i q=0
   ·rw[if_pos h1] at h0
    have hi:¬ 4096<=i:=fun hh=>by rw[tx hh] at h1;cases h1
    have:=xT r (i+1) (by omega) h0
    rw[List.length_cons];omega
   ·rw[if_neg h1] at h0;exact absurd h0 h1

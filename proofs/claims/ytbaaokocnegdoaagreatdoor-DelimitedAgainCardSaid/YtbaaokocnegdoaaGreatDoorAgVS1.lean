/- A part of the proof. -/
import Derived.Test.YtbaaokocnegdoaaGreatDoorAgVR5
set_option linter.unusedVariables false
set_option linter.unusedSimpArgs false
set_option maxHeartbeats 16000000
set_option maxRecDepth 100000
namespace Go.Proofs.YtbaaokocnegdoaaGreatDoor
open Go Go.Ab
attribute [local irreducible] vc
def inB (n a b:Int):Bool:=decide (a<=n)&&decide (n<=b)
theorem qr (n a b:Int):ae Tryz.prog au 187 [.int .i64 n,.int .i64 a,.int .i64 b] (.bool (inB n a b)):=by
 refine ae.intro NW.2 (by simp[NW]) ?_
 by_cases h1:a<=n
 ·by_cases h2:n<=b
  ·rw[show inB n a b=true by simp[inB,h1,h2]]
   simp(disch:=try exact dI) only[NW,push_cast,seval]
  ·rw[show inB n a b=false by simp[inB,h2]]
   simp(disch:=try exact dI) only[NW,push_cast,seval]
 ·rw[show inB n a b=false by simp[inB,h1]]
  simp(disch:=try exact dI) only[NW,push_cast,seval]
def lim (nm:List UInt8)(lo hi:Int)(b1 b2 b3 b4 b5:Bool):PV:=.agg [.str nm,.int .i64 lo,.int .i64 hi,.bool b1,.bool b2,.bool b3,.bool b4,.bool b5]
def lx (b1 b2 b3 b4 b5:Bool):Typ->Bool
 | .mk k m M s w e f=>(!b1&&!(decide (m=0)&&decide (M=0)))||((!b2&&!decide (s=0))||((!b3&&!decide (w.length=0))||((!b4&&!decide (e.length=0))||(!b5&&!decide (f.length=0)))))
theorem Do (b:Bool)(n:Nat):(b=false/\(0:Int)<(n:Int)/\¬ n=0)\/(b=false/\¬ (0:Int)<(n:Int)/\n=0)\/b=true:=by
 cases b<;>by_cases h:n=0<;>simp[h];omega
theorem M3 (k m M s:Int)(w:List (List UInt8))(e:List Typ)(f:List TFd)(nm:List UInt8)(lo hi:Int)(b1 b2 b3 b4 b5:Bool):ae Tryz.prog au 189 [(Typ.mk k m M s w e f).pv,lim nm lo hi b1 b2 b3 b4 b5] (.int .i64 (if lx b1 b2 b3 b4 b5 (.mk k m M s w e f)=true then 3 else 0)):=by
 obtain⟨r,hr⟩:∃ r,r=lx b1 b2 b3 b4 b5 (.mk k m M s w e f):=⟨_,rfl⟩
 rw[<- hr]
 refine ae.intro Rf.2 (by simp[Rf]) ?_
 have h1:(b1=false/\¬ m=0)\/(b1=false/\m=0/\¬ M=0)\/(b1=false/\m=0/\M=0)\/b1=true:=by cases b1<;>simp<;>omega
 have h2:(b2=false/\¬ s=0)\/(b2=false/\s=0)\/b2=true:=by cases b2<;>simp<;>omega
 have h3:=Do b3 w.length
 have h4:=Do b4 e.length
 have h5:=Do b5 f.length
 rcases h1 with ⟨rfl,a⟩ | ⟨rfl,a,b⟩ | ⟨rfl,a,b⟩ | rfl
 all_goals first | (have:=hend;skip) | (refine bT (c:=true) hr ?_ ?_;(focus (simp[lx, *];done));rintro rfl;have hend:=trivial;clear h2 h3 h4 h5) | rcases h2 with ⟨rfl,a2⟩ | ⟨rfl,a2⟩ | rfl
 all_goals first | (have:=hend;skip) | (refine bT (c:=true) hr ?_ ?_;(focus (simp[lx, *];done));rintro rfl;have hend:=trivial;clear h3 h4 h5) | rcases h3 with ⟨rfl,a3,c3⟩ | ⟨rfl,a3,c3⟩ | rfl
 all_goals first | (have:=hend;skip) | (refine bT (c:=true) hr ?_ ?_;(focus (simp[lx, *];done));rintro rfl;have hend:=trivial;clear h4 h5) | rcases h4 with ⟨rfl,a4,c4⟩ | ⟨rfl,a4,c4⟩ | rfl
 all_goals first | (have:=hend;skip) | (refine bT (c:=true) hr ?_ ?_;(focus (simp[lx, *];done));rintro rfl;have hend:=trivial;clear h5) | rcases h5 with ⟨rfl,a5,c5⟩ | ⟨rfl,a5,c5⟩ | rfl
 all_goals first | (have:=hend;skip) | (refine bT (c:=true) hr ?_ ?_;(focus (simp[lx, *];done));rintro rfl) | (refine bT (c:=false) hr ?_ ?_;(focus (simp[lx, *];done));rintro rfl)
 all_goals clear hr
 all_goals simp(disch:=try exact dI) only[Rf,Typ.pv_mk,lim, *,push_cast,seval]
def fZ (w:List UInt8):Val:=.mk 4 0 0 w [] []
def oT (w:List UInt8):Int:=if gp w.length 1024 5=0 then (if Lib.validD w=true then 0 else 16) else gp w.length 1024 5
theorem La (w:List UInt8):ae Tryz.prog au 239 [.str w] (fZ w).pv:=by
 refine ae.intro Ts.2 (by simp[Ts]) ?_
 simp only[fZ,Val.pv_mk,List.map_nil]
 simp(disch:=try exact dI) only[Ts,push_cast,seval]
theorem Cx (w:List UInt8):dm 1 1 (fZ w)=[(1,fZ w)]:=by
 simp[dm,bq,fZ,Val.kind]
theorem I2 (w:List UInt8):ov 0 (dm 1 1 (fZ w))=oT w:=by
 rw[Cx,ov,Bs (by omega) (by simp) (by simp[bz,fZ]) (by simp[fZ,Val.kind]) (by simp[ce,fZ])]
 simp only[ov]
 have e:bE (fZ w)=oT w:=rfl
 rw[e]
 split
 ·rename_i h;exact h.symm
 ·rfl
theorem EJ (w:List UInt8)(hw:w.length<=140737488351232):ae Tryz.prog au 192 [(fZ w).pv] (.int .i64 (oT w)):=by
 have:=vV 1 (fZ w) (by simp[fM,bq,fZ,Val.kind]) (by simp[fZ,Val.ok_mk,I64,hw]) (by omega)
 rw[I2] at this
 exact this
def jb:Option (List UInt8)->List (List UInt8)->Int
 | _,[]=>0
 | p,w::r=>if oT w=0 then (if p=some w then 7 else if (p.any fun q=>bd w q)=true then 24 else jb (some w) r) else oT w
theorem rE {ws:List (List UInt8)}{i:Nat}{w:List UInt8}(h:ws[i]? = some w)(p:Option (List UInt8)):jb p (ws.drop i)=if oT w=0 then (if p=some w then 7 else if (p.any fun q=>bd w q)=true then 24 else jb (some w) (ws.drop (i+1))) else oT w:=by
 have hi:i<ws.length:=(List.getElem?_eq_some_iff.1 h).1
 have he:ws[i]=w:=(List.getElem?_eq_some_iff.1 h).2
 rw[List.drop_eq_getElem_cons hi,he,jb]
def sw (ws:List (List UInt8))(i:Nat):Option (List UInt8):=if i=0 then none else ws[i - 1]?
def eG (m M:Int)(ws:List (List UInt8)):Int:=if ¬ (m=0/\M=0) then 3 else if 64<ws.length then 9 else jb none ws
theorem FN (k m M s:Int)(ws:List (List UInt8))(e:List Typ)(f:List TFd)(hw:∀ w∈ws,w.length<=140737488351232):ae Tryz.prog au 190 [(Typ.mk k m M s ws e f).pv] (.int .i64 (eG m M ws)):=by
 refine ae.intro Oo.2 (by simp[Oo]) ?_
 by_cases hm:m=0
 ·by_cases hM:M=0
  ·by_cases h64:64<ws.length
   ·rw[show eG m M ws=9 by simp[eG,hm,hM,h64]]
    simp(disch:=try exact dI) only[Oo,Typ.pv_mk,hm,hM,push_cast,seval]
   ·rw[show eG m M ws=jb none ws by simp[eG,hm,hM,h64]]
    obtain⟨R,hR⟩:∃ R,R=jb none ws:=⟨_,rfl⟩
    rw[<- hR]
    simp(disch:=try exact dI) only[Oo,Typ.pv_mk,hm,hM,push_cast,seval]
    refine aC ([]) (fun i:Nat=>[(23,.pv (.int .i64 (i:Int)))]) (fun _=>[]) (fun i=>i<=ws.length/\R=jb (sw ws i) (ws.drop i)) (fun i=>ws.length - i) (0) ?_;intro e0 σ0 n0 h0;simp(disch:=try exact dI) only[push_cast,seval] at h0;obtain⟨rfl,rfl,rfl⟩:=h0;refine⟨?_,?_,?_⟩
    ·exact qsZ
    ·exact⟨by omega,by simpa[sw] using hR⟩
    rintro i ⟨hi,hr⟩
    by_cases hlt:i<ws.length
    ·have hltI:(i:Int)<(ws.length:Int):=by omega
     obtain⟨w,hwi⟩:∃ w,ws[i]? = some w:=⟨_,List.getElem?_eq_getElem hlt⟩
     have hcp:(ws.map PV.str)[i]? = some (.str w):=by simp[hwi]
     have ht:=La w
     have hc:=EJ w (hw w (List.mem_of_getElem? hwi))
     simp only[fZ,Val.pv_mk,List.map_nil] at ht hc
     rw[rE hwi] at hr
     have hnext:sw ws (i+1)=some w:=by simp[sw,hwi]
     generalize oT w=z at hc hr
     by_cases hz:z=0
     ·subst hz
      rw[if_pos rfl] at hr
      by_cases hi0:i=0
      ·have hiI:¬ (0:Int)<(i:Int):=by omega
       have hpn:sw ws i=none:=if_pos hi0
       rw[hpn,if_neg (by simp),if_neg (by simp),<- hnext] at hr
       simp(disch:=try exact dI) only[hcp,push_cast,seval]
       refine ab.pure ht rfl ?_
       refine zgZ ?_
       refine ab.pure hc rfl ?_
       refine zgZ ?_
       exact⟨i+1,aR qsZ,⟨by omega,hr⟩,by omega⟩
      ·obtain⟨j,rfl⟩:∃ j,i=j+1:=⟨i - 1,by omega⟩
       obtain⟨q,hq'⟩:∃ q,ws[j]? = some q:=⟨_,List.getElem?_eq_getElem (by omega)⟩
       have hpn:sw ws (j+1)=some q:=by simp[sw,hq']
       have hcq:(ws.map PV.str)[j]? = some (.str q):=by simp[hq']
       rw[hpn] at hr
       by_cases hq:w=q
       ·subst hq
        rw[if_pos rfl] at hr
        subst hr
        simp(disch:=try exact dI) only[hcp,Int.add_sub_cancel,push_cast,seval]
        refine ab.pure ht rfl ?_
        refine zgZ ?_
        refine ab.pure hc rfl ?_
        simp(disch:=try exact dI) only[hcq,Int.add_sub_cancel,push_cast,seval]
       ·rw[if_neg (by simpa using fun e=>hq e.symm)] at hr
        cases hlt2:bd w q with
        | true=>
          rw[if_pos (by simpa using hlt2)] at hr
          subst hr
          simp(disch:=try exact dI) only[hcp,Int.add_sub_cancel,push_cast,seval]
          refine ab.pure ht rfl ?_
          refine zgZ ?_
          refine ab.pure hc rfl ?_
          simp(disch:=try exact dI) only[hcq,Int.add_sub_cancel,hq,hlt2,push_cast,seval]
        | false=>
          rw[if_neg (by simp[hlt2]),<- hnext] at hr
          simp(disch:=try exact dI) only[hcp,Int.add_sub_cancel,push_cast,seval]
          refine ab.pure ht rfl ?_
          refine zgZ ?_
          refine ab.pure hc rfl ?_
          simp(disch:=try exact dI) only[hcq,Int.add_sub_cancel,hq,hlt2,push_cast,seval]
          exact⟨j+1+1,aR qsZ,⟨by omega,hr⟩,by omega⟩
     ·rw[if_neg hz] at hr
      subst hr
      simp(disch:=try exact dI) only[hcp,push_cast,seval]
      refine ab.pure ht rfl ?_
      refine zgZ ?_
      refine ab.pure hc rfl ?_
      exact qsZ
    ·have hie:i=ws.length:=by omega
     subst hie
     rw[List.drop_length] at hr
     rw[show R=0 from hr]
     exact qsZ
  ·rw[show eG m M ws=3 by simp[eG,hM]]
   simp(disch:=try exact dI) only[Oo,Typ.pv_mk,hm,hM,push_cast,seval]
 ·rw[show eG m M ws=3 by simp[eG,hm]]
  simp(disch:=try exact dI) only[Oo,Typ.pv_mk,hm,push_cast,seval]
def oK (n:Int)(nm:List UInt8)(g:TFd):Bool:=decide (g.name=nm)||decide (g.number=n)
def eQ (n:Int)(nm:List UInt8)(nd k m M s:Int)(w:List (List UInt8))(e:List Typ)(fs:List TFd)(d:List Val):List AV:=
 [.pv (.int .i64 n),.pv (.str nm),.pv (.int .i64 nd),.pv (.int .i64 k),.pv (.int .i64 m),.pv (.int .i64 M),.pv (.int .i64 s),.pv (.list (w.map PV.str)),.pv (.list (e.map Typ.pv)),.pv (.list (fs.map TFd.pv)),.pv (.list (d.map Val.pv))]
section
variable (n:Int)(nm:List UInt8)(nd k m M s:Int)(w:List (List UInt8))(e:List Typ)(fs:List TFd)(d:List Val)
theorem P4 (g:TFd):bk Tryz.prog au 1 241 [.pv g.pv,.ptr 0 0] [.cells 98 true (eQ n nm nd k m M s w e fs d)] (.pv (.bool (oK n nm g))) [.cells 98 true (eQ n nm nd k m M s w e fs d)]:=by
 obtain⟨n',nm',nd',⟨k',m',M',s',w',e',fs'⟩,d'⟩:=g
 by_cases h1:nm'=nm
 ·rw[show oK n nm (TFd.mk n' nm' nd' (Typ.mk k' m' M' s' w' e' fs') d')=true by simp[oK,TFd.name,h1]]
  refine bk.intro Fu.2 (by simp[Fu]) ?_
  simp(disch:=try exact dI) only[Fu,TFd.pv_mk,Typ.pv_mk,h1,eQ,push_cast,seval]
  exact aA [] qsZ
 ·by_cases h2:n'=n
  ·rw[show oK n nm (TFd.mk n' nm' nd' (Typ.mk k' m' M' s' w' e' fs') d')=true by simp[oK,TFd.number,h2]]
   refine bk.intro Fu.2 (by simp[Fu]) ?_
   simp(disch:=try exact dI) only[Fu,TFd.pv_mk,Typ.pv_mk,h1,h2,eQ,push_cast,seval]
   exact aA [] qsZ
  ·rw[show oK n nm (TFd.mk n' nm' nd' (Typ.mk k' m' M' s' w' e' fs') d')=false by simp[oK,TFd.name,TFd.number,h1,h2]]
   refine bk.intro Fu.2 (by simp[Fu]) ?_
   simp(disch:=try exact dI) only[Fu,TFd.pv_mk,Typ.pv_mk,h1,h2,eQ,push_cast,seval]
   exact aA [] qsZ
end
section
variable (n:Int)(nm:List UInt8)(nd k m M s:Int)(w:List (List UInt8))(e:List Typ)(fs:List TFd)(d:List Val)
theorem DK (l:List TFd)(hl:l.length<=1000000000) :
  bk Tryz.prog au 1 147 [.pv (.list (l.map TFd.pv)),.clo 241 [] [.ptr 0 0]] [.cells 98 true (eQ n nm nd k m M s w e fs d)] (.pv (.int .i64 (gq (oK n nm) l 0))) [.cells 98 true (eQ n nm nd k m M s w e fs d)]:=by
 have hq:=fun x=>P4 n nm nd k m M s w e fs d x
 generalize oK n nm=q at *
 simp only[eQ] at hq ⊢
 refine bk.intro KJ.2 (by simp[KJ]) ?_
 simp(disch:=try exact dI) only[KJ,push_cast,seval]
 refine aC ([]) (fun m:Nat=>[(8,.pv (.int .i64 (m:Int)))]) (fun m=>[]) (fun m=>m<=l.length/\gq q l 0=gq q (l.drop m) m) (fun m=>l.length - m) (0) ?_;intro e0 σ0 n0 h0;simp(disch:=try exact dI) only[push_cast,seval] at h0;obtain⟨rfl,rfl,rfl⟩:=h0;refine⟨?_,?_,?_⟩
 ·exact qsZ
 ·exact⟨by omega,by simp⟩
 ·rintro m ⟨hm,he⟩
  by_cases hlt:m<l.length
  ·have hltI:(m:Int)<l.length:=by omega
   obtain⟨x,hx⟩:∃ x,l[m]? = some x:=⟨_,List.getElem?_eq_getElem hlt⟩
   have hcall:=hq x
   simp(disch:=try exact dI) only[hx,TFd.cells_len,TFd.isAgg,push_cast,seval]
   refine ab.lentK hcall [0] rfl qsZ qsZ ?_
   cases hqx:q x with
   | true=>
     rw[he,iR hx hqx]
     refine zgZ ?_
     exact aA [] qsZ
   | false=>
     rw[fB hx hqx] at he
     refine zgZ ?_
     exact⟨m+1,aR qsZ,⟨by omega,he⟩,by omega⟩
  ·have hltI:¬ (m:Int)<l.length:=by omega
   rw[he,iS hlt]
   refine zgZ ?_
   exact aA [] qsZ
theorem tP (l:List TFd)(hl:l.length<=1000000000) :
  bk Tryz.prog au 1 96 [.pv (.list (l.map TFd.pv)),.clo 241 [] [.ptr 0 0]] [.cells 98 true (eQ n nm nd k m M s w e fs d)] (.pv (.bool (l.any (oK n nm)))) [.cells 98 true (eQ n nm nd k m M s w e fs d)]:=by
 have h94:=DK n nm nd k m M s w e fs d l hl
 have hfa:=gV (p:=oK n nm) l
 simp only[eQ] at h94 ⊢
 refine bk.intro Q96.2 (by simp[Q96]) ?_
 rcases cG (p:=oK n nm) l 0 with ⟨h1,h2⟩ | ⟨k,x,h1,h2,h3⟩
 ·rw[h2] at h94
  rw[h1] at hfa
  rw[<- hfa]
  simp(disch:=try exact dI) only[Q96,push_cast,seval]
  refine ab.lentK h94 [0] rfl qsZ qsZ ?_
  refine zgZ ?_
  exact aA [] (by simp(disch:=try exact dI) only[Option.isSome_none,push_cast,seval])
 ·rw[h3] at h94
  rw[h2] at hfa
  rw[<- hfa]
  have hk:(0:Int)<=((0+k:Nat):Int):=by omega
  generalize ((0+k:Nat):Int)=z at *
  simp(disch:=try exact dI) only[Q96,push_cast,seval]
  refine ab.lentK h94 [0] rfl qsZ qsZ ?_
  refine zgZ ?_
  exact aA [] (by simp(disch:=try exact dI) only[Option.isSome_some,push_cast,seval])
end
def cZ (k:Int)(before:List TFd):TFd->Int
 | .mk n nm nd _ d=>if dB nm=false then 12 else if inB n 1 9999=false then 2 else if before.any (oK n nm)=true then 7 else if inB nd 1 3=false then 11 else if k=10/\¬ nd=1 then 11
   else if nd=3/\d.length=0 then 4 else if 1<d.length then 3 else if ¬ nd=3/\0<d.length then 3 else 0
theorem IP (k m M s:Int)(w:List (List UInt8))(e:List Typ)(fs:List TFd)(hl:fs.length<=1000000000)(i:Nat)(g:TFd)(hg:fs[i]? = some g) :
  ae Tryz.prog au 191 [(Typ.mk k m M s w e fs).pv,.int .i64 (i:Int)] (.int .i64 (cZ k (fs.take i) g)):=by
 obtain⟨n,nm,nd,⟨k',m',M',s',w',e',f'⟩,d⟩:=g
 have hlt:i<fs.length:=by
  rcases Nat.lt_or_ge i fs.length with h | h
  ·exact h
  ·rw[List.getElem?_eq_none h] at hg;cases hg
 have hfp:(fs.map TFd.pv)[i]? = some (TFd.mk n nm nd (.mk k' m' M' s' w' e' f') d).pv:=by simp[hg]
 have hn:=sP nm
 have hi1:=qr n 1 9999
 have hi2:=qr nd 1 3
 have hc:=tP n nm nd k' m' M' s' w' e' f' d (fs.take i) (by simp;omega)
 rw[List.map_take] at hc
 simp only[eQ] at hc
 simp only[cZ]
 generalize (fs.take i).any (oK n nm)=q at hc ⊢
 refine ae.intro N2.2 (by simp[N2]) ?_
 generalize dB nm=b1 at hn ⊢
 generalize inB n 1 9999=b2 at hi1 ⊢
 generalize inB nd 1 3=b3 at hi2 ⊢
 simp(disch:=try exact dI) only[N2,Typ.pv_mk,TFd.pv_mk,hg,Option.map_some,push_cast,seval]
 refine ab.pure hn rfl ?_
 cases b1 with
 | false=>simp(disch:=try exact dI) only[push_cast,seval]
 | true=>
 refine zgZ ?_
 refine ab.pure hi1 rfl ?_
 cases b2 with
 | false=>simp(disch:=try exact dI) only[push_cast,seval]
 | true=>
 refine zgZ ?_
 refine ab.lentK hc [3] rfl qsZ qsZ ?_
 cases q with
 | true=>simp(disch:=try exact dI) only[push_cast,seval]
 | false=>
 refine zgZ ?_
 refine ab.pure hi2 rfl ?_
 cases b3 with
 | false=>simp(disch:=try exact dI) only[push_cast,seval]
 | true=>
 by_cases hk:k=10/\¬ nd=1
 ·obtain⟨hk,hnd⟩:=hk
  subst hk
  rw[if_pos (show (10:Int)=10/\¬ nd=1 from⟨rfl,hnd⟩)]
  simp(disch:=try exact dI) only[hnd,push_cast,seval]
 rw[if_neg hk]
 have hfin:∀ (x:Int),x=(if nd=3/\d.length=0 then (4:Int) else if 1<d.length then 3 else if ¬ nd=3/\0<d.length then 3 else 0)->x=4/\nd=3/\d.length=0\/x=3/\1<d.length\/x=3/\¬ nd=3/\d.length=1\/x=0/\nd=3/\d.length=1\/x=0/\¬ nd=3/\d.length=0:=by
  intro x hx
  split at hx
  ·omega
  ·split at hx
   ·omega
   ·split at hx<;>omega
 obtain⟨x,hx⟩:∃ x,x=(if nd=3/\d.length=0 then (4:Int) else if 1<d.length then 3 else if ¬ nd=3/\0<d.length then 3 else 0):=⟨_,rfl⟩
 have hc5:=hfin x hx
 rw[<- hx]
 clear hfin hx
 have hk':k=10/\nd=1\/¬ k=10:=by
  by_cases h:k=10
  ·exact .inl ⟨h,Decidable.byContradiction fun hh=>hk ⟨h,hh⟩⟩
  ·exact .inr h
 clear hk
 rcases hc5 with ⟨rfl,rfl,h0⟩ | ⟨rfl,h1⟩ | ⟨rfl,hnd,h0⟩ | ⟨rfl,rfl,h0⟩ | ⟨rfl,hnd,h0⟩
 ·rcases hk' with ⟨_,hh⟩ | hk
  ·exact absurd hh (by decide)
  ·have h0I:(d.length:Int)=0:=by omega
   simp(disch:=try exact dI) only[hk,h0I,push_cast,seval]
 ·have h0I:¬ (d.length:Int)=0:=by omega
  have h1I:(1:Int)<d.length:=by omega
  rcases hk' with ⟨rfl,rfl⟩ | hk
  ·simp(disch:=try exact dI) only[h0I,h1I,push_cast,seval]
  ·by_cases hnd:nd=3
   ·simp(disch:=try exact dI) only[hk,hnd,h0I,h1I,push_cast,seval]
   ·simp(disch:=try exact dI) only[hk,hnd,h0I,h1I,push_cast,seval]
 ·have h0I:(d.length:Int)=1:=by omega
  rcases hk' with ⟨rfl,rfl⟩ | hk
  ·simp(disch:=try exact dI) only[h0I,push_cast,seval]
  ·simp(disch:=try exact dI) only[hk,hnd,h0I,push_cast,seval]
 ·have h0I:(d.length:Int)=1:=by omega
  rcases hk' with ⟨_,hh⟩ | hk
  ·exact absurd hh (by decide)
  ·simp(disch:=try exact dI) only[hk,h0I,push_cast,seval]
 ·have h0I:(d.length:Int)=0:=by omega
  rcases hk' with ⟨rfl,rfl⟩ | hk
  ·simp(disch:=try exact dI) only[h0I,push_cast,seval]
  ·simp(disch:=try exact dI) only[hk,hnd,h0I,push_cast,seval]
end Go.Proofs.YtbaaokocnegdoaaGreatDoor

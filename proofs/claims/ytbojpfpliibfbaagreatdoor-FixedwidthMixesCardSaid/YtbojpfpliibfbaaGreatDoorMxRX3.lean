/- A part of the proof. -/
import Derived.Test.YtbojpfpliibfbaaGreatDoorMxRC23
import Derived.Test.YtbojpfpliibfbaaGreatDoorMxRC7
set_option maxRecDepth 100000
set_option linter.unusedVariables false
set_option linter.unusedSimpArgs false
namespace Go.Proofs.YtbojpfpliibfbaaGreatDoor
open Go Go.Ab
attribute [local irreducible] vc
abbrev Qt:=Int×Int×List UInt8
def q0:Qt:=(0,0,[])
def rdB (s:List UInt8):Qt×Int:=if s=[84] then ((1,0,[]),0) else if s=[70] then (q0,0) else (q0,13)
def rdN (sc:Int)(s:List UInt8):Qt×Int:=if ¬ (bm s).2=0 then (q0,13) else if ¬ ((bm s).1.2:Int)=sc then (q0,18) else (((bm s).1.1,((bm s).1.2:Int),[]),0)
def rdT (s:List UInt8):Qt×Int:=if Lib.validD s=false then (q0,16) else if wrB s=false then (q0,6) else ((0,0,s),0)
def rdO:Option (List UInt8)->Qt×Int
 | some b=>((0,0,b),0)
 | none=>(q0,13)
def rdC (k sc:Int)(s:List UInt8):Qt×Int:=
 if k=1 then rdB s else if k=2\/k=3 then rdN sc s else if k=4 then rdT s else if k=5 then rdO (nT s)
 else if k=6 then (((cZ s).1,0,[]),(cZ s).2) else (((cm s).1,0,[]),(cm s).2)
def qA (k:Int)(q:Qt):PV:=i8 k q.1 q.2.1 q.2.2
def rdP (k:Int)(q:Qt×Int):PV:=.tup [if q.2=0\/6<=k then qA k q.1 else eP,.int .i64 q.2]
theorem oy (k:Int)(q:Qt):rdP k (q,0) = .tup [qA k q,.int .i64 0]:=by unfold rdP;rw[if_pos (.inl rfl)]
theorem lQ {k:Int}{q:Qt}{e:Int}(hk:k<6)(he:¬ e=0):rdP k (q,e) = .tup [eP,.int .i64 e]:=by unfold rdP;rw[if_neg (fun h=>h.elim he (by omega))]
theorem BR {T:Nat}{p:PV}(k m M sc:Int)(w:List (List UInt8))(e:List Typ)(f:List TFd)(s:List UInt8)(hk:k<6):ag Tryz.prog (bR T p) 164 [.str s,(Typ.mk k m M sc w e f).pv] (rdP k (rdN sc s)):=by
 have h:=Lf (T:=T) (p:=p) s
 unfold rdN
 generalize (bm s).1.1=n at *
 generalize (bm s).1.2=c at *
 generalize (bm s).2=z at *
 refine ag.intro Tj.2 (by simp[Tj]) ?_
 simp(disch:=try exact dI) only[Tj,Typ.pv_mk,push_cast,seval]
 refine ab.pure h rfl ?_
 by_cases h1:z=0
 ·rw[if_neg (fun q=>q h1)]
  by_cases h2:(c:Int)=sc
  ·rw[if_neg (fun q=>q h2),oy]
   simp(disch:=try exact dI) only[h1,h2,qA,i8,push_cast,seval]
  ·rw[if_pos h2,lQ hk (by decide)]
   simp(disch:=try exact dI) only[h1,h2,eP,push_cast,seval]
 ·rw[if_pos h1,lQ hk (by decide)]
  simp(disch:=try exact dI) only[h1,eP,push_cast,seval]
theorem RM (sc:Int)(s:List UInt8):rdC 1 sc s=rdB s:=if_pos rfl
theorem OA (sc:Int)(s:List UInt8):rdC 4 sc s=rdT s:=by unfold rdC;rw[if_neg (by decide),if_neg (by decide),if_pos rfl]
theorem Oz (sc:Int)(s:List UInt8):rdC 5 sc s=rdO (nT s):=by unfold rdC;rw[if_neg (by decide),if_neg (by decide),if_neg (by decide),if_pos rfl]
theorem Oy (sc:Int)(s:List UInt8):rdC 6 sc s=(((cZ s).1,0,[]),(cZ s).2):=by unfold rdC;rw[if_neg (by decide),if_neg (by decide),if_neg (by decide),if_neg (by decide),if_pos rfl]
theorem Ox (sc:Int)(s:List UInt8):rdC 7 sc s=(((cm s).1,0,[]),(cm s).2):=by unfold rdC;rw[if_neg (by decide),if_neg (by decide),if_neg (by decide),if_neg (by decide),if_neg (by decide)]
theorem AS {T:Nat}{p:PV}(m M sc:Int)(w:List (List UInt8))(e:List Typ)(f:List TFd)(s:List UInt8)(hs:s.length<=1000000):ag Tryz.prog (bR T p) 107 [.str s,(Typ.mk 1 m M sc w e f).pv] (rdP 1 (rdC 1 sc s)):=by
 rw[RM]
 unfold rdB
 have hT:=toE (T:=T) (p:=p) (Ed true)
 have hF:=toE (T:=T) (p:=p) (Ed false)
 by_cases h1:s=[84]
 ·subst h1
  rw[if_pos rfl,oy]
  refine ag.intro eL.2 (by simp[eL]) ?_
  simp(disch:=try exact dI) only[eL,Typ.pv_mk,push_cast,seval]
  refine ab.pure hT rfl ?_
  simp(disch:=try exact dI) only[qA,i8,push_cast,seval]
 ·rw[if_neg h1]
  by_cases h2:s=[70]
  ·subst h2
   rw[if_pos rfl,oy]
   refine ag.intro eL.2 (by simp[eL]) ?_
   simp(disch:=try exact dI) only[eL,Typ.pv_mk,h1,push_cast,seval]
   refine ab.pure hF rfl ?_
   simp(disch:=try exact dI) only[qA,i8,q0,push_cast,seval]
  ·rw[if_neg h2,lQ (by decide) (by decide)]
   refine ag.intro eL.2 (by simp[eL]) ?_
   simp(disch:=try exact dI) only[eL,Typ.pv_mk,h1,h2,eP,push_cast,seval]
theorem vD {T:Nat}{p:PV}(k m M sc:Int)(w:List (List UInt8))(e:List Typ)(f:List TFd)(s:List UInt8)(h23:k=2\/k=3)(hs:s.length<=1000000):ag Tryz.prog (bR T p) 107 [.str s,(Typ.mk k m M sc w e f).pv] (rdP k (rdC k sc s)):=by
 rw[show rdC k sc s=rdN sc s by unfold rdC;rw[if_neg (by omega),if_pos h23]]
 have hn:=BR (T:=T) (p:=p) k m M sc w e f s (by omega)
 unfold rdP at hn ⊢
 have h1:¬ k=1:=by omega
 by_cases c:(rdN sc s).2=0\/6<=k
 ·rw[if_pos c] at hn ⊢
  simp only[qA,i8,Typ.pv_mk] at hn ⊢
  clear c
  generalize (rdN sc s).1.1=a at *
  generalize (rdN sc s).1.2.1=b at *
  generalize (rdN sc s).1.2.2=d at *
  generalize (rdN sc s).2=z at *
  refine ag.intro eL.2 (by simp[eL]) ?_
  rcases h23 with rfl | rfl
  ·simp(disch:=try exact dI) only[eL,Typ.pv_mk,push_cast,seval]
   refine ab.pure hn rfl ?_
   exact qsZ
  ·simp(disch:=try exact dI) only[eL,Typ.pv_mk,push_cast,seval]
   refine ab.pure hn rfl ?_
   exact qsZ
 ·rw[if_neg c] at hn ⊢
  simp only[eP,Typ.pv_mk] at hn ⊢
  clear c
  generalize (rdN sc s).2=z at *
  refine ag.intro eL.2 (by simp[eL]) ?_
  rcases h23 with rfl | rfl
  ·simp(disch:=try exact dI) only[eL,Typ.pv_mk,push_cast,seval]
   refine ab.pure hn rfl ?_
   exact qsZ
  ·simp(disch:=try exact dI) only[eL,Typ.pv_mk,push_cast,seval]
   refine ab.pure hn rfl ?_
   exact qsZ
theorem AR {T:Nat}{p:PV}(m M sc:Int)(w:List (List UInt8))(e:List Typ)(f:List TFd)(s:List UInt8)(hs:s.length<=1000000):ag Tryz.prog (bR T p) 107 [.str s,(Typ.mk 4 m M sc w e f).pv] (rdP 4 (rdC 4 sc s)):=by
 rw[OA]
 have h1:=toE (T:=T) (p:=p) (sR s)
 have h2:=toE (T:=T) (p:=p) (jC s (by omega))
 have h3:=toE (T:=T) (p:=p) (Kf s)
 unfold rdT
 cases hv:Lib.validD s with
 | false=>
   rw[if_pos rfl,lQ (by decide) (by decide)]
   rw[hv] at h1
   refine ag.intro eL.2 (by simp[eL]) ?_
   simp(disch:=try exact dI) only[eL,Typ.pv_mk,push_cast,seval]
   refine ab.pure h1 rfl ?_
   simp(disch:=try exact dI) only[eP,push_cast,seval]
 | true=>
   rw[if_neg (by decide)]
   rw[hv] at h1
   cases hw:wrB s with
   | false=>
     rw[if_pos rfl,lQ (by decide) (by decide)]
     rw[hw] at h2
     refine ag.intro eL.2 (by simp[eL]) ?_
     simp(disch:=try exact dI) only[eL,Typ.pv_mk,push_cast,seval]
     refine ab.pure h1 rfl ?_
     refine zgZ ?_
     refine ab.pure h2 rfl ?_
     simp(disch:=try exact dI) only[eP,push_cast,seval]
   | true=>
     rw[if_neg (by decide),oy]
     rw[hw] at h2
     refine ag.intro eL.2 (by simp[eL]) ?_
     simp(disch:=try exact dI) only[eL,Typ.pv_mk,push_cast,seval]
     refine ab.pure h1 rfl ?_
     refine zgZ ?_
     refine ab.pure h2 rfl ?_
     refine zgZ ?_
     refine ab.pure h3 rfl ?_
     simp(disch:=try exact dI) only[qA,i8,push_cast,seval]
theorem AQ {T:Nat}{p:PV}(m M sc:Int)(w:List (List UInt8))(e:List Typ)(f:List TFd)(s:List UInt8)(hs:s.length<=1000000):ag Tryz.prog (bR T p) 107 [.str s,(Typ.mk 5 m M sc w e f).pv] (rdP 5 (rdC 5 sc s)):=by
 rw[Oz]
 have ho:=toE (T:=T) (p:=p) (BP s hs)
 cases hh:nT s with
 | none=>
   rw[hh] at ho
   simp only[Ln,eP] at ho
   rw[rdO,lQ (by decide) (by decide)]
   refine ag.intro eL.2 (by simp[eL]) ?_
   simp(disch:=try exact dI) only[eL,Typ.pv_mk,push_cast,seval]
   refine ab.pure ho rfl ?_
   simp(disch:=try exact dI) only[eP,push_cast,seval]
 | some b=>
   rw[hh] at ho
   simp only[Ln,i8] at ho
   rw[rdO,oy]
   refine ag.intro eL.2 (by simp[eL]) ?_
   simp(disch:=try exact dI) only[eL,Typ.pv_mk,push_cast,seval]
   refine ab.pure ho rfl ?_
   simp(disch:=try exact dI) only[qA,i8,push_cast,seval]
theorem AP {T:Nat}{p:PV}(m M sc:Int)(w:List (List UInt8))(e:List Typ)(f:List TFd)(s:List UInt8)(hs:s.length<=1000000):ag Tryz.prog (bR T p) 107 [.str s,(Typ.mk 6 m M sc w e f).pv] (rdP 6 (rdC 6 sc s)):=by
 rw[Oy]
 have h:=toE (T:=T) (p:=p) (Le s)
 unfold rdP
 rw[if_pos (.inr (by decide))]
 generalize (cZ s).1=n at *
 generalize (cZ s).2=z at *
 refine ag.intro eL.2 (by simp[eL]) ?_
 simp(disch:=try exact dI) only[eL,Typ.pv_mk,push_cast,seval]
 refine ab.pure h rfl ?_
 simp(disch:=try exact dI) only[qA,i8,push_cast,seval]
theorem AO {T:Nat}{p:PV}(m M sc:Int)(w:List (List UInt8))(e:List Typ)(f:List TFd)(s:List UInt8)(hs:s.length<=1000000):ag Tryz.prog (bR T p) 107 [.str s,(Typ.mk 7 m M sc w e f).pv] (rdP 7 (rdC 7 sc s)):=by
 rw[Ox]
 have h:=toE (T:=T) (p:=p) (rm s)
 unfold rdP
 rw[if_pos (.inr (by decide))]
 generalize (cm s).1=n at *
 generalize (cm s).2=z at *
 refine ag.intro eL.2 (by simp[eL]) ?_
 simp(disch:=try exact dI) only[eL,Typ.pv_mk,push_cast,seval]
 refine ab.pure h rfl ?_
 simp(disch:=try exact dI) only[qA,i8,push_cast,seval]
theorem KV {T:Nat}{p:PV}(k m M sc:Int)(w:List (List UInt8))(e:List Typ)(f:List TFd)(s:List UInt8)(hk:1<=k/\k<=7)(hs:s.length<=1000000):ag Tryz.prog (bR T p) 107 [.str s,(Typ.mk k m M sc w e f).pv] (rdP k (rdC k sc s)):=by
 have e1:k=1\/(k=2\/k=3)\/k=4\/k=5\/k=6\/k=7:=by omega
 rcases e1 with rfl | h23 | rfl | rfl | rfl | rfl
 ·exact AS m M sc w e f s hs
 ·exact vD k m M sc w e f s h23 hs
 ·exact AR m M sc w e f s hs
 ·exact AQ m M sc w e f s hs
 ·exact AP m M sc w e f s hs
 ·exact AO m M sc w e f s hs
def Ei:List (List UInt8)->List Nat->List Int->List UInt8
 | m::ms,k::ks,v::l=>m++(aQ k v.toNat++Ei ms ks l)
 | _,_,_=>[]
theorem oG {p s:List UInt8}(h:qn p s=true):s=p++s.drop p.length:=by
 have h1:=(of_decide_eq_true h).1
 have h2:=List.take_append_drop p.length s
 rw[h1] at h2
 exact h2.symm
theorem oS {k:Nat}{s:List UInt8}{p:Int×List UInt8}(h:rz k s=some p):s=aQ k p.1.toNat++p.2/\0<=p.1:=by
 unfold rz at h
 split at h
 ·rename_i hh
  cases h
  have e:=GJ (s.take k) hh.2
  rw[List.length_take,Nat.min_eq_left hh.1] at e
  simp only
  rw[e,List.take_append_drop]
  exact⟨rfl,(cS _ 0 (by omega) hh.2).1⟩
 ·cases h
theorem oN:∀ (ms:List (List UInt8)) (ks:List Nat) (s:List UInt8) (l:List Int) (r:List UInt8),cn ms ks s=some (l,r)->s=Ei ms ks l++r/\∀ x,x∈l->0<=x
 | [],ks,s,l,r,h=>by
   simp only[cn,Option.some.injEq,Prod.mk.injEq] at h
   obtain⟨rfl,rfl⟩:=h
   exact⟨by simp[Ei],by simp⟩
 | m::ms,[],s,l,r,h=>by simp[cn] at h
 | m::ms,k::ks,s,l,r,h=>by
   simp only[cn] at h
   split at h
   ·rename_i hp
    split at h
    ·rename_i p hn
     simp only[Option.map_eq_some_iff] at h
     obtain⟨q,hq,he⟩:=h
     cases he
     obtain⟨q1,q2⟩:=q
     have ih:=oN ms ks p.2 q1 q2 hq
     have hb:=oS hn
     refine⟨?_,?_⟩
     ·rw[Ei,List.append_assoc,List.append_assoc,<- ih.1,<- hb.1]
      exact oG hp
     ·intro x hx
      rcases List.mem_cons.1 hx with rfl | hx
      ·exact hb.2
      ·exact ih.2 x hx
    ·cases h
   ·cases h
theorem DC {y m d n:Int}(h:kQ y m d=(n,0)):DateOk y m.toNat d/\n=jg y m.toNat d - 719162:=by
 unfold kQ at h
 split at h
 ·rename_i hd
  cases h
  exact⟨(sr hd).1,rfl⟩
 ·simp at h
theorem u9 {r:List UInt8}{ms:Int}(h:qG r=some ms):0<=ms/\ms<=999/\r=(if ms.toNat=0 then [] else [46]++aQ 3 ms.toNat)++[90]:=by
 unfold qG at h
 split at h
 ·rename_i hp
  split at h
  ·rename_i p hn
   split at h
   ·cases h
   ·rename_i hc
    cases h
    have hb:=oS hn
    have hle:p.1<=999:=by
     unfold rz at hn
     split at hn
     ·rename_i hh
      cases hn
      exact (sZ hh.2).2
     ·cases hn
    have hnz:p.1≠0:=fun h=>hc (Or.inl h)
    have hq:p.2=[90]:=Decidable.of_not_not fun h=>hc (Or.inr h)
    refine⟨hb.2,hle,?_⟩
    rw[if_neg (by omega)]
    rw[hq] at hb
    have:=oG hp
    rw[this]
    have e:=hb.1
    simp only[List.length_cons,List.length_nil,Nat.zero_add] at e ⊢
    rw[e,List.append_assoc]
  ·cases h
 ·split at h
  ·rename_i hr
   cases h
   exact⟨by omega,by omega,by simp[hr]⟩
  ·cases h
theorem rp {s:List UInt8}{n:Int}(h:cm s=(n,0)):∃ (y:Int) (m:Nat) (d:Int) (hh mi sec ms:Nat),DateOk y m d/\hh<=23/\mi<=59/\sec<=59/\ms<=999 /\
  n=(jg y m d - 719162)*86400000+(((60*(hh:Int)+mi)*60+sec)*1000+ms)/\s=fF (cE y m d) hh mi sec ms:=by
 unfold cm at h
 split at h
 ·rename_i y m d hh mi sec r hn
  split at h
  ·rename_i ms ht
   obtain⟨hb,hpos⟩:=oN _ _ _ _ _ hn
   obtain⟨t1,t2,t3⟩:=u9 ht
   unfold zO at h
   split at h
   ·simp at h
   ·rename_i hc
    have hz:(kQ y m d).2=0:=Decidable.of_not_not fun h=>hc (Or.inl h)
    have b1:¬ 23<hh:=fun h=>hc (Or.inr (Or.inl h))
    have b2:¬ 59<mi:=fun h=>hc (Or.inr (Or.inr (Or.inl h)))
    have b3:¬ 59<sec:=fun h=>hc (Or.inr (Or.inr (Or.inr h)))
    have p1:=hpos hh (by simp)
    have p2:=hpos mi (by simp)
    have p3:=hpos sec (by simp)
    obtain⟨d1,d2⟩:=DC (y:=y) (m:=m) (d:=d) (n:=(kQ y m d).1) (by rw[<- hz])
    have e:=congrArg Prod.fst h
    simp only at e
    refine⟨y,m.toNat,d,hh.toNat,mi.toNat,sec.toNat,ms.toNat,d1,by omega,by omega,by omega,by omega,?_,?_⟩
    ·rw[<- e,d2];omega
    ·rw[hb,t3]
     simp[Ei,msT,ksT,fF,cE]
  ·simp at h
 ·simp at h
theorem BA {s:List UInt8}(h:(bm s).2=0):IsN (bm s).1.1 (bm s).1.2/\ce (bm s).1.1 (bm s).1.2=s:=by
 unfold bm at h ⊢
 split at h
 ·cases h
 ·split at h
  ·cases h
  ·split at h
   ·rename_i h1 h2 h3
    rw[if_neg h1,if_neg h2,if_pos h3]
    exact h3
   ·cases h
theorem BB (s:List UInt8):-1000000000000000000<=(cZ s).1/\(cZ s).1<=1000000000000000000:=by
 unfold cZ
 split
 ·rename_i y m d hn
  rcases Jw y m d with h | h
  ·have:=mr h;omega
  ·unfold kQ at h ⊢
   split
   ·rename_i hh;rw[if_pos hh] at h;cases h
   ·simp
 ·simp
theorem Bz {s:List UInt8}(h:(cm s).2=0):-1000000000000000000<=(cm s).1/\(cm s).1<=1000000000000000000:=by
 obtain⟨y,m,d,hh,mi,sec,ms,h1,h2,h3,h4,h5,h6,h7⟩:=rp (s:=s) (n:=(cm s).1) (by rw[<- h])
 have:=fi h1
 omega
def QOk (q:Qt):Prop:=I64 q.1/\I64 q.2.1/\q.2.2.length<=1000000
theorem qok (a b:Int)(s:List UInt8)(h1:-1000000000000000000<=a/\a<=1000000000000000000)(h2:-1000000000000000000<=b/\b<=1000000000000000000)(h3:s.length<=1000000):QOk (a,b,s):=
 ⟨⟨show _<=a by omega,show a<=_ by omega⟩,⟨show _<=b by omega,show b<=_ by omega⟩,h3⟩
theorem rh:QOk q0:=⟨⟨by decide,by decide⟩,⟨by decide,by decide⟩,by decide⟩
theorem I3 (k sc:Int)(s:List UInt8)(hs:s.length<=1000000)(h:(rdC k sc s).2=0):QOk (rdC k sc s).1:=by
 unfold rdC at h ⊢
 split
 ·unfold rdB
  split
  ·exact qok _ _ _ (by decide) (by decide) (by decide)
  ·split<;>exact rh
 ·rename_i h1
  rw[if_neg h1] at h
  split
  ·rename_i h2
   rw[if_pos h2] at h
   unfold rdN at h ⊢
   split
   ·exact rh
   ·split
    ·exact rh
    ·rename_i h3 h4
     obtain⟨⟨a,b,c⟩,_⟩:=BA (Decidable.byContradiction h3)
     exact qok _ _ _ (by omega) (by omega) (by simp)
  ·rename_i h2
   rw[if_neg h2] at h
   split
   ·unfold rdT
    split
    ·exact rh
    ·split
     ·exact rh
     ·exact qok _ _ _ (by decide) (by decide) hs
   ·split
    ·cases hh:nT s with
     | none=>exact rh
     | some b=>
       have:=tR hh
       exact qok _ _ _ (by decide) (by decide) (by omega)
    ·rename_i h3 h4
     rw[if_neg h3,if_neg h4] at h
     split
     ·have:=BB s
      exact qok _ _ _ (by omega) (by decide) (by simp)
     ·rename_i h5
      rw[if_neg h5] at h
      have:=Bz h
      exact qok _ _ _ (by omega) (by decide) (by simp)
def yz (k:Int)(q:Qt):Val:=.mk k q.1 q.2.1 q.2.2 [] []
theorem qy {k:Int}{q:Qt}(hk:1<=k/\k<=7)(h:QOk q):(yz k q).ok:=by
 unfold yz
 rw[Val.ok_mk]
 exact⟨⟨by omega,by omega⟩,h.1,h.2.1,by have:=h.2.2;omega,by simp,by simp,by simp,by simp⟩
theorem qz (k:Int)(q:Qt):Nz (qA k q) (yz k q).pv:=by
 unfold yz qA i8
 rw[Val.pv_mk]
 repeat' constructor
def yI (t:Typ)(q:Qt):Bool:=(bL 1 t (yz t.kind q) []).isEmpty
theorem Mb (t:Typ)(q:Qt)(ht:yD 1 t)(hk:1<=t.kind/\t.kind<=7)(hq:QOk q):ag Tryz.prog aq 42 [t.pv,qA t.kind q] (.bool (yI t q)):=by
 have hv:=qy hk hq
 have key:ag Tryz.prog aq 42 [t.pv,(yz t.kind q).pv] (.bool (yI t q)):=by
  unfold yI
  generalize yz t.kind q=v at *
  have h56:=C6 t v [] false [] _ (uj 1 v hv) ht hk.2 hv (by simp) ⟨by simp,by simp⟩ rfl
  have e:=Ew (bL 1 t v []) []
  generalize fD false [] (bL 1 t v [])=S at *
  obtain⟨Sd,Sl⟩:=S
  simp only at e
  have e2:(bL 1 t v []).isEmpty=!Sd:=by rw[e,Bool.not_not]
  rw[e2]
  obtain⟨k,m,M,s,w,e,fs⟩:=t
  obtain⟨vk,vi,vs,vt,vl,vf⟩:=v
  simp only[jh,Typ.pv_mk,Val.pv_mk,List.map_nil] at h56
  refine ag.intro Q42.2 (by simp[Q42]) ?_
  simp(disch:=try exact dI) only[Q42,Typ.pv_mk,Val.pv_mk,push_cast,seval]
  refine ab.lentK h56 [4,2] rfl qsZ qsZ ?_
  exact qsZ
 exact key.nz (.cons _ _ _ _ (Nz.refl _) (.cons _ _ _ _ (qz _ _) .nil))
theorem nC:∀ (f a b:Nat),a<=b->(bg f a).length<=(bg f b).length
 | 0,_,_,_=>by simp[bg]
 | f+1,a,b,h=>by
   have ih:=nC f (a / 10) (b / 10) (Nat.div_le_div_right h)
   rw[bg,bg]
   by_cases ha:a<10
   ·rw[if_pos ha]
    by_cases hb:b<10
    ·rw[if_pos hb];simp
    ·rw[if_neg hb];simp
   ·rw[if_neg ha,if_neg (by omega)]
    simp only[List.length_append,List.length_cons,List.length_nil];omega
theorem nE (n:Int)(sc:Nat):(ce n sc).length=(if n<0 then 1 else 0)+(max (dl n.natAbs) (sc+1) - sc)+(if sc=0 then 0 else sc+1):=by
 unfold ce
 rw[List.length_append,List.length_append,e7]
 by_cases h:n<0
 ·rw[if_pos h,if_pos h]
  by_cases h0:sc=0
  ·rw[if_pos h0,if_pos h0];simp
  ·rw[if_neg h0,if_neg h0];simp only[List.length_cons,List.length_nil,e7];omega
 ·rw[if_neg h,if_neg h]
  by_cases h0:sc=0
  ·rw[if_pos h0,if_pos h0];simp
  ·rw[if_neg h0,if_neg h0];simp only[List.length_cons,List.length_nil,e7];omega
theorem Mv {n m M:Int}(sc:Nat)(h1:m<=n)(h2:n<=M):((ce n sc).length:Int)<=max ((ce m sc).length:Int) ((ce M sc).length:Int):=by
 rw[nE,nE,nE]
 by_cases h:n<0
 ·have hm:=nC 20 n.natAbs m.natAbs (by omega)
  rw[if_pos h,if_pos (show m<0 by omega)]
  unfold dl;omega
 ·have hm:=nC 20 n.natAbs M.natAbs (by omega)
  rw[if_neg h,if_neg (show ¬ M<0 by omega)]
  unfold dl;omega
theorem HL {t:Typ}{x:Val}{p:List UInt8}(h:bL 1 t x p=[]):x.kind=t.kind/\aL x=true:=by
 rw[bz] at h
 by_cases a:t.kind<1\/10<t.kind\/¬ x.kind=t.kind
 ·rw[bM a] at h;cases h
 ·cases b:aL x with
  | false=>rw[fc a b] at h;cases h
  | true=>exact⟨Decidable.byContradiction fun hh=>a (.inr (.inr hh)),rfl⟩
theorem ru {a b:Int}{p:List UInt8}{n:Int}(h:lp a b p n=[]):a<=n/\n<=b:=by
 unfold lp at h
 by_cases c:n<a\/b<n
 ·rw[if_pos c] at h;cases h
 ·omega
theorem zd (k:Int){n:Int}{sc:Nat}(t:List UInt8)(l:List Val)(f:List Fld)(hn:IsN n sc):ag Tryz.prog aq 82 [(Val.mk k n (sc:Int) t l f).pv] (.str (ce n sc)):=by
 have h:=zZ hn
 generalize ce n sc=d at h ⊢
 refine ag.intro Q82.2 (by simp[Q82]) ?_
 simp(disch:=try exact dI) only[Q82,Val.pv_mk,push_cast,seval]
 refine ab.pure h rfl ?_
 exact qsZ
theorem mX {k m M s:Int}{w:List (List UInt8)}{e:List Typ}{f:List TFd}(h:dM (.mk k m M s w e f)=0)(hk:k=2\/k=3\/k=6\/k=7):loK k<=m/\M<=hiK k/\(k=2->s=0):=by
 have hb:=(bh h).2.1
 have hf:=mW h
 unfold dC at hb
 have h4:¬ (k=4/\0<w.length):=by omega
 rw[if_neg h4] at hb
 by_cases hc:(2<=k/\k<=8)/\(M<m\/m<loK k\/hiK k<M)
 ·rw[if_pos hc] at hb;exact absurd hb (by decide)
 have h1:¬ (M<m\/m<loK k\/hiK k<M):=fun hh=>hc ⟨by omega,hh⟩
 refine⟨by omega,by omega,fun h2=>?_⟩
 subst h2
 simp only[fG,aK,Bool.or_eq_false_iff] at hf
 simpa using hf.2.1
theorem zU (t:List UInt8)(h mi s ms:Nat):(fF t h mi s ms).length<=t.length+14:=by
 unfold fF
 simp only[List.length_append,List.length_cons,List.length_nil,aT]
 split<;>simp[aT]<;>omega
def wrF (k:Int):Nat:=if k=1 then 84 else if k=2 then 82 else if k=3 then 82 else if k=4 then 85 else if k=5 then 86 else if k=6 then 87 else 89
def spS (n:Nat):List UInt8:=List.replicate n 32
theorem An:∀ n,Lib.repeatL [32] n=spS n
 | 0=>rfl
 | n+1=>by rw[Lib.repeatL,An n];rfl
def nS (k:Int)(s:List UInt8)(n:Int):List UInt8:=if k=2\/k=3 then spS (n - s.length).toNat++s else s++spS (n - s.length).toNat
theorem mV (k:Int)(s:List UInt8)(n:Int)(h:(s.length:Int)<=n):((nS k s n).length:Int)=n:=by
 unfold nS spS
 split
 ·rw[List.length_append,List.length_replicate];omega
 ·rw[List.length_append,List.length_replicate];omega
theorem Ao (n:Nat):spS (n+1)=32::spS n:=rfl
end Go.Proofs.YtbojpfpliibfbaaGreatDoor

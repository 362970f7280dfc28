/- A part of the proof. -/
import Derived.Test.YtbojpfpliibfbaaGreatDoorEnRSe
set_option maxHeartbeats 16000000
set_option maxRecDepth 100000
set_option linter.unusedVariables false
set_option linter.unusedSimpArgs false
-- many steps
namespace Go.Proofs.YtbojpfpliibfbaaGreatDoor
open Go Go.Ab
attribute [local irreducible] vc
theorem Bi (n:Nat)(ih:Kc n)(m M s:Int)(w:List (List UInt8))(e:List Typ)(f:List TFd)(d l:Int)(ht:(Typ.mk 9 m M s w e f).ok)(hdn:d+(n+1:Nat)=9)(hd:1<=d)(hl:0<=l)(hl2:l<=4096)(hl0:¬ l=0) :
  bn Tryz.prog az 1 123 [.pv (Typ.mk 9 m M s w e f).pv,.pv (.int .i64 d),.ptr 0 0] [.cells 3 true [.pv (.int .i64 l)]] (.pv (.int .i64 (ci 0 (n+1) l (.mk 9 m M s w e f)).1)) [.cells 3 true [.pv (.int .i64 (ci 0 (n+1) l (.mk 9 m M s w e f)).2)]]:=by
 obtain⟨h143,h144,hpt,hpl⟩:=zd ht
 have hown:=bu (k:=9) (m:=m) (M:=M) (s:=s) (w:=w) (e:=e) (f:=f)
 rw[show bP (.mk 9 m M s w e f)=f.map TFd.typ from rfl] at h144 hpt
 rw[Typ.ok_mk] at ht
 have hd8:¬ 8<d:=by omega
 rw[ci,if_neg hl0,if_pos rfl]
 generalize bm (.mk 9 m M s w e f)=z at *
 simp only[Typ.pv_mk] at h143 h144 ⊢
 by_cases hz:z=0
 ·have hfl:=(hown hz).2.2.2
  clear hown
  subst hz
  rw[if_pos rfl]
  obtain⟨R,hR⟩:∃ R,R=cz n (ci 0 n) (l - 1) f:=⟨_,rfl⟩
  rw[<- hR]
  refine bn.intro ld.2 (by simp[ld]) ?_
  simp(disch:=try exact dI) only[ld,hl0,hd8,push_cast,seval]
  refine ab.pure h143 rfl ?_
  refine zgZ ?_
  refine ab.pure h144 rfl ?_
  refine zgZ ?_
  refine au ([]) (fun x:Nat×Int=>[(32,.pv (.int .i64 (x.1:Int)))]) (fun x=>[(0,.cells 3 true [.pv (.int .i64 x.2)])]) (fun x=>x.1<=f.length/\R=cz n (ci 0 n) x.2 (f.drop x.1)/\0<=x.2/\x.2<=4096) (fun x=>f.length - x.1) ((0,l - 1)) ?_;intro e0 σ0 n0 h0;simp(disch:=try exact dI) only[push_cast,seval] at h0;obtain⟨rfl,rfl,rfl⟩:=h0;refine⟨?_,?_,?_⟩
  ·exact qsZ
  ·exact⟨by simp,by simpa using hR,by simp only;omega,by simp only;omega⟩
  rintro⟨i,L⟩ ⟨hi,hr,hL,hL2⟩
  simp only at hi hr hL hL2
  by_cases hlt:i<f.length
  ·have hltI:(i:Int)<(f.length:Int):=by omega
   obtain⟨g,hg⟩:∃ g,f[i]? = some g:=⟨_,List.getElem?_eq_getElem hlt⟩
   have hgm:=List.mem_of_getElem? hg
   have hgt:=hpt g.typ (List.mem_map_of_mem hgm)
   have hcall:=ih g.typ (d+1) L hgt (by omega) hL hL2
   have hleft:=fw (δ:=0) (by decide) n g.typ L hL hL2
   have hty:=fv (δ:=0) n L g.typ
   have hfe:=bJ f [] hfl g hgm
   have hgd:=(dt (ht.2.2.2.2.2.2.2.2.2 g hgm)).2
   rw[lL hg] at hr
   obtain⟨⟨e1,e2⟩,he⟩:∃ q,q=ci 0 n L g.typ:=⟨_,rfl⟩
   rw[<- he] at hcall hleft hr hty
   clear he
   obtain⟨n',nm',nd',t',d'⟩:=g
   simp only[TFd.typ,TFd.dflt] at hcall hleft hr hty hgt hgd
   by_cases he0:e1=0
   ·subst he0
    rw[if_pos rfl] at hr
    by_cases h3:nd'=3
    ·subst h3
     obtain⟨b,hb⟩:=hfe
     obtain⟨x,r,rfl⟩:=fK hb
     have hx1:=hgd x (List.mem_cons_self ..)
     have hacc:=vV n t' x hx1 (fun hc=>kh n (lvl x) t' x (hty rfl) hgt (rg (fF x) hc) hx1)
     simp only[gV,qA,decide_true,Bool.true_and] at hr
     generalize accB n t' x=q at hacc hr
     obtain⟨k',m',M',s',w',e',f'⟩:=t'
     obtain⟨vk,vn,vs,vt,vl,vf⟩:=x
     simp only[Typ.pv_mk,Val.pv_mk] at hcall hacc
     simp(disch:=try exact dI) only[hg,Option.map_some,TFd.typ,Typ.pv_mk,ag,push_cast,seval]
     refine ab.lentK hcall [0] rfl qsZ qsZ ?_
     simp(disch:=try exact dI) only[hg,Option.map_some,TFd.pv_mk,Typ.pv_mk,Val.pv_mk,ag,aS,push_cast,seval]
     refine ab.pure hacc rfl ?_
     cases q with
     | true=>
       rw[if_neg (by decide)] at hr
       refine zgZ ?_
       exact⟨(i+1,e2),aM qsZ,⟨by simp only;omega,hr,by simp only;omega,by simp only;omega⟩,by simp only;omega⟩
     | false=>
       rw[if_pos (by decide)] at hr
       subst hr
       refine zgZ ?_
       exact aL [] qsZ
    ·rw[if_neg (by simp[gV,h3])] at hr
     obtain⟨k',m',M',s',w',e',f'⟩:=t'
     simp only[Typ.pv_mk] at hcall
     simp(disch:=try exact dI) only[hg,Option.map_some,TFd.typ,Typ.pv_mk,ag,push_cast,seval]
     refine ab.lentK hcall [0] rfl qsZ qsZ ?_
     simp(disch:=try exact dI) only[hg,Option.map_some,TFd.pv_mk,Typ.pv_mk,ag,h3,push_cast,seval]
     exact⟨(i+1,e2),aM qsZ,⟨by simp only;omega,hr,by simp only;omega,by simp only;omega⟩,by simp only;omega⟩
   ·rw[if_neg he0] at hr
    subst hr
    obtain⟨k',m',M',s',w',e',f'⟩:=t'
    simp only[Typ.pv_mk] at hcall
    simp(disch:=try exact dI) only[hg,Option.map_some,TFd.typ,Typ.pv_mk,ag,push_cast,seval]
    refine ab.lentK hcall [0] rfl qsZ qsZ ?_
    simp(disch:=try exact dI) only[he0,push_cast,seval]
    exact aL [] qsZ
  ·obtain rfl:i=f.length:=by omega
   rw[List.drop_length,cz] at hr
   subst hr
   simp(disch:=try exact dI) only[Int.lt_irrefl,push_cast,seval]
   exact aL [] qsZ
 ·rw[if_neg hz]
  refine bn.intro ld.2 (by simp[ld]) ?_
  simp(disch:=try exact dI) only[ld,hl0,hd8,push_cast,seval]
  refine ab.pure h143 rfl ?_
  simp(disch:=try exact dI) only[hz,push_cast,seval]
  exact aL [] qsZ
theorem Bk:∀ n,n<=8->Kc n
 | 0,_=>fun t d l ht hd hl hl2=>Bj t d l (by omega) hl
 | n+1,hn=>fun t d l ht hd hl hl2=>by
   by_cases hl0:l=0
   ·subst hl0;exact Bg n t d
   have ih:=Bk n (by omega)
   obtain⟨k,m,M,s,w,e,f⟩:=t
   by_cases hk:k=9
   ·subst hk;exact Bi n ih m M s w e f d l ht hd (by omega) hl hl2 hl0
   ·exact Bh n ih k m M s w e f d l ht hd (by omega) hl hl2 hl0 hk
end Go.Proofs.YtbojpfpliibfbaaGreatDoor
-- many steps
namespace Go.Proofs.YtbojpfpliibfbaaGreatDoor
open Go Go.Ab
attribute [local irreducible] vc
theorem ee {k m M s:Int}{w:List (List UInt8)}{e:List Typ}{f:List TFd}(h:bm (.mk k m M s w e f)=0):(¬ k=8->e=[])/\(¬ (k=9\/k=10)->f=[]):=by
 rw[bm] at h
 by_cases a:inB k 1 10=false
 ·rw[if_pos a] at h;exact absurd h (by decide)
 rw[if_neg a] at h
 have hr:1<=k/\k<=10:=by simpa[inB] using a
 by_cases b:aY k (.mk k m M s w e f)=true
 ·rw[if_pos b] at h;exact absurd h (by decide)
 have b':aY k (.mk k m M s w e f)=false:=by simpa using b
 simp only[aY,aw,Bool.or_eq_false_iff] at b'
 obtain⟨_,_,_,b4,b5⟩:=b'
 refine⟨fun h8=>?_,fun h9=>?_⟩
 ·rw[decide_eq_false h8] at b4
  exact List.length_eq_zero_iff.1 (by simpa using b4)
 ·have h9':¬ 9<=k:=by omega
  rw[decide_eq_false h9'] at b5
  exact List.length_eq_zero_iff.1 (by simpa using b5)
theorem yM {m M s:Int}{w:List (List UInt8)}{e:List Typ}{f:List TFd}(h:bm (.mk 8 m M s w e f)=0):m<=256:=by
 have hb:=(bu h).2.1
 unfold aD at hb
 rw[if_neg (fun hh=>absurd hh.1 (by decide))] at hb
 by_cases hc:(2<=(8:Int)/\(8:Int)<=8)/\(M<m\/m<loK 8\/hiK 8<M)
 ·rw[if_pos hc] at hb;exact absurd hb (by decide)
 ·have h2:¬ (M<m\/m<loK 8\/hiK 8<M):=fun hh=>hc ⟨by decide,hh⟩
  rw[show hiK 8=256 from rfl] at h2
  omega
theorem yK {m M s:Int}{w:List (List UInt8)}{e:List Typ}{f:List TFd}(h:bm (.mk 10 m M s w e f)=0):∃ g r,f=g::r:=by
 have h1:=(bu h).2.2.1
 cases f with
 | cons g r=>exact⟨g,r,rfl⟩
 | nil=>simp[aJ] at h1
theorem rJ {k m M s:Int}{w:List (List UInt8)}{e:List Typ}{f:List TFd}(h:bm (.mk k m M s w e f)=0):f.length<=64:=by
 have h1:=(bu h).2.2.1
 by_cases hc:64<f.length
 ·exfalso
  unfold aJ at h1
  repeat' split at h1
  all_goals first | exact absurd h1 (by decide) | omega
 ·omega
theorem sy {n:Nat}{a:Int}{nm:List UInt8}{t:Typ}{x:Val}{r:List Val}(h:gV n (.mk a nm 3 t (x::r))=false)(hx:x.ok):KV x:=by
 have h1:accB n t x=true:=by simpa[gV,qA] using h
 have h2:GI x=0:=by simp only[accB,Bool.and_eq_true,decide_eq_true_eq] at h1;exact h1.1
 have:=sH (dj (lvl x) 1 x) 0 (by omega) h2
 exact⟨hx,by omega⟩
theorem jj:∀ (n N:Nat) (t:Typ),n<=N->tyV n t->t.ok->eO N t
 | 0,_,_,_,h,_=>h.elim
 | _+1,0,_,h,_,_=>absurd h (by omega)
 | n+1,N+1,.mk k m M s w e f,hN,h,ht=>by
   obtain⟨ho,h8,h9⟩:=h
   rw[Typ.ok_mk] at ht
   obtain⟨_,_,_,_,_,_,t3,t5,t4,t6⟩:=ht
   refine⟨fun hk hm=>?_,fun hk=>?_,fun hk=>⟨rJ ho,fun g hg=>?_⟩⟩
   ·subst hk
    obtain⟨x,rfl⟩:=jp ho
    exact⟨yM ho,x,[],rfl,jj n N x (by omega) (h8 rfl x (List.mem_cons_self ..)) (t5 x (List.mem_cons_self ..))⟩
   ·subst hk
    obtain⟨g,r,rfl⟩:=yK ho
    exact⟨g,r,rfl,jj n N g.typ (by omega) (h9 (.inr rfl) g (List.mem_cons_self ..)).1 (dt (t6 g (List.mem_cons_self ..))).1⟩
   ·subst hk
    have hs:=jj n N g.typ (by omega) (h9 (.inl rfl) g hg).1 (dt (t6 g hg)).1
    obtain⟨b,hb⟩:=bJ f [] (bu ho).2.2.2 g hg
    have hd:=(dt (t6 g hg)).2
    have hdf:=(h9 (.inl rfl) g hg).2 rfl
    obtain⟨n',nm',nd',t',d'⟩:=g
    refine⟨fun _=>hs,fun h3=>?_⟩
    subst h3
    obtain⟨x,r,rfl⟩:=fK hb
    exact⟨x,r,rfl,sy hdf (hd x (List.mem_cons_self ..))⟩
theorem BP:∀ (n:Nat) (t:Typ),n<=9->tyV n t->t.ok->MO n t
 | 0,_,_,h,_=>h.elim
 | n+1,.mk k m M s w e f,hN,h,ht=>by
   have hs:=jj (n+1) 9 _ hN h ht
   obtain⟨ho,h8,h9⟩:=h
   obtain⟨he,hf⟩:=ee ho
   rw[Typ.ok_mk] at ht
   obtain⟨_,_,_,_,_,_,t3,t5,t4,t6⟩:=ht
   refine⟨hs,by omega,by omega,fun x hx=>?_,fun g hg=>?_⟩
   ·by_cases hk:k=8
    ·exact BP n x (by omega) (h8 hk x hx) (t5 x hx)
    ·rw[he hk] at hx;cases hx
   ·by_cases hk:k=9\/k=10
    ·exact BP n g.typ (by omega) (h9 hk g hg).1 (dt (t6 g hg)).1
    ·rw[hf hk] at hg;cases hg
noncomputable def ni (t:Typ):Int:=if (ci 0 8 4096 t).1=0 then (if 4096<cC 8 t then 9 else 0) else (ci 0 8 4096 t).1
theorem Ju (t:Typ)(ht:t.ok):am Tryz.prog az 69 [t.pv] (.int .i64 (ni t)):=by
 have h94:=Bk 8 (by omega) t 1 4096 ht (by omega) (by omega) (by omega)
 have h95:(ci 0 8 4096 t).1=0->am Tryz.prog az 124 [t.pv] (.int .i64 (cC 8 t)):=fun h=>fZ 8 t (BP 8 t (by omega) (fv 8 4096 t h) ht)
 simp only[ni]
 obtain⟨⟨z,L⟩,hq⟩:∃ q,q=ci 0 8 4096 t:=⟨_,rfl⟩
 rw[<- hq] at h94 h95 ⊢
 simp only at h94 h95 ⊢
 clear hq
 generalize cC 8 t=G at h95 ⊢
 obtain⟨k,m,M,s,w,e,f⟩:=t
 simp only[Typ.pv_mk] at h94 h95
 refine am.intro Q69.2 (by simp[Q69]) ?_
 by_cases hz:z=0
 ·subst hz
  have h95:=h95 rfl
  rw[if_pos rfl]
  by_cases hg:4096<G
  ·rw[if_pos hg]
   simp(disch:=try exact dI) only[Q69,Typ.pv_mk,push_cast,seval]
   refine ab.lentK h94 [1] rfl qsZ qsZ ?_
   refine zgZ ?_
   refine ab.pure h95 rfl ?_
   simp(disch:=try exact dI) only[hg,push_cast,seval]
  ·rw[if_neg hg]
   simp(disch:=try exact dI) only[Q69,Typ.pv_mk,push_cast,seval]
   refine ab.lentK h94 [1] rfl qsZ qsZ ?_
   refine zgZ ?_
   refine ab.pure h95 rfl ?_
   simp(disch:=try exact dI) only[hg,push_cast,seval]
 ·rw[if_neg hz]
  simp(disch:=try exact dI) only[Q69,Typ.pv_mk,push_cast,seval]
  refine ab.lentK h94 [1] rfl qsZ qsZ ?_
  simp(disch:=try exact dI) only[hz,push_cast,seval]
end Go.Proofs.YtbojpfpliibfbaaGreatDoor
-- many steps
namespace Go.Proofs.YtbojpfpliibfbaaGreatDoor
open Go Go.Ab
attribute [local irreducible] vc
def scB (k:Int):Bool:=decide (1<=k)&&decide (k<=7)
theorem FK (k:Int):am Tryz.prog az 29 [.int .i64 k] (.bool (scB k)):=by
 unfold scB
 refine am.intro Q29.2 (by simp[Q29]) ?_
 by_cases h1:1<=k
 ·by_cases h2:k<=7
  ·rw[decide_eq_true h1,decide_eq_true h2]
   simp(disch:=try exact dI) only[Q29,h1,h2,push_cast,seval]
  ·rw[decide_eq_true h1,decide_eq_false h2]
   simp(disch:=try exact dI) only[Q29,h1,h2,push_cast,seval]
 ·rw[decide_eq_false h1]
  simp(disch:=try exact dI) only[Q29,h1,push_cast,seval]
theorem A5 (g:TFd):jd g=!scB g.typ.kind:=by
 unfold jd scB
 by_cases h1:1<=g.typ.kind
 ·by_cases h2:g.typ.kind<=7
  ·simp[h1,h2]<;>omega
  ·simp[h1,h2]<;>omega
 ·simp[h1]<;>omega
theorem GT (t:Typ)(ht:t.ok):am Tryz.prog az 31 [t.pv] (.bool (eF t)):=by
 obtain⟨k,m,M,s,w,e,f⟩:=t
 rw[Typ.ok_mk] at ht
 have hf:f.length<=9000000000000:=by omega
 clear ht
 obtain⟨R,hR⟩:∃ R,R=eF (.mk k m M s w e f):=⟨_,rfl⟩
 rw[<- hR]
 refine am.intro Q31.2 (by simp[Q31]) ?_
 simp(disch:=try exact dI) only[Q31,Typ.pv_mk,push_cast,seval]
 refine au ([]) (fun i:Nat=>[(3,.pv (.int .i64 (i:Int)))]) (fun _=>[]) (fun i=>i<=f.length/\(f.take i).any jd=false) (fun i=>f.length - i) (0) ?_;intro e0 σ0 n0 h0;simp(disch:=try exact dI) only[push_cast,seval] at h0;obtain⟨rfl,rfl,rfl⟩:=h0;refine⟨?_,?_,?_⟩
 ·exact qsZ
 ·exact⟨by omega,by simp⟩
 rintro i ⟨hi,hn⟩
 by_cases hlt:i<f.length
 ·have hltI:(i:Int)<(f.length:Int):=by omega
  obtain⟨g,hg⟩:∃ g,f[i]? = some g:=⟨_,List.getElem?_eq_getElem hlt⟩
  have hc:=FK g.typ.kind
  have hd:=A5 g
  have hsn:(f.take (i+1)).any jd=jd g:=by rw[aK hg,List.any_append,hn];simp
  have hall:jd g=true->f.any jd=true:=fun h=>List.any_eq_true.2 ⟨g,List.mem_of_getElem? hg,h⟩
  generalize jd g=z at hd hsn hall
  obtain⟨n',nm',nd',⟨k',m',M',s',w',e',f'⟩,d'⟩:=g
  simp only[TFd.typ,Typ.kind] at hc hd
  generalize scB k'=b at hc hd
  subst hd
  cases b with
  | true=>
    simp(disch:=try exact dI) only[hg,Option.map_some,TFd.pv_mk,Typ.pv_mk,ag,push_cast,seval]
    refine ab.pure hc rfl ?_
    refine zgZ ?_
    exact⟨i+1,aM qsZ,⟨by omega,by rw[hsn];rfl⟩,by omega⟩
  | false=>
    have:R=false:=by rw[hR];simp only[eF];rw[hall rfl];simp
    subst this
    simp(disch:=try exact dI) only[hg,Option.map_some,TFd.pv_mk,Typ.pv_mk,ag,push_cast,seval]
    refine ab.pure hc rfl ?_
    exact qsZ
 ·obtain rfl:i=f.length:=by omega
  rw[List.take_length] at hn
  have hR2:R=(decide (k=9)&&decide (0<f.length)):=by rw[hR];simp only[eF];rw[hn];simp
  subst hR2
  by_cases h9:k=9
  ·by_cases h0:0<f.length
   ·have h0I:(0:Int)<(f.length:Int):=by omega
    rw[decide_eq_true h9,decide_eq_true h0]
    simp(disch:=try exact dI) only[Int.lt_irrefl,h9,h0I,push_cast,seval]
   ·have h0I:¬ (0:Int)<(f.length:Int):=by omega
    rw[decide_eq_true h9,decide_eq_false h0]
    simp(disch:=try exact dI) only[Int.lt_irrefl,h9,h0I,push_cast,seval]
  ·rw[decide_eq_false h9]
   simp(disch:=try exact dI) only[Int.lt_irrefl,h9,push_cast,seval]
noncomputable def flE (t:Typ):Int:=if ni t=0 then (if eF t=true then 0 else 11) else ni t
theorem Gw (t:Typ)(ht:t.ok):am Tryz.prog az 34 [t.pv] (.int .i64 (flE t)):=by
 have h69:=Ju t ht
 have h74:=LS t (by obtain⟨k,m,M,s,w,e,f⟩:=t;rw[Typ.ok_mk] at ht;simp only[Typ.fields];omega)
 unfold flE
 generalize ni t=z at *
 generalize eF t=b at *
 obtain⟨k,m,M,s,w,e,f⟩:=t
 simp only[Typ.pv_mk] at h69 h74
 refine am.intro Q34.2 (by simp[Q34]) ?_
 by_cases hz:z=0
 ·subst hz
  rw[if_pos rfl]
  cases b with
  | true=>
    rw[if_pos rfl]
    simp(disch:=try exact dI) only[Q34,Typ.pv_mk,push_cast,seval]
    refine ab.pure h69 rfl ?_
    refine zgZ ?_
    refine ab.pure h74 rfl ?_
    exact qsZ
  | false=>
    rw[if_neg (by decide)]
    simp(disch:=try exact dI) only[Q34,Typ.pv_mk,push_cast,seval]
    refine ab.pure h69 rfl ?_
    refine zgZ ?_
    refine ab.pure h74 rfl ?_
    exact qsZ
 ·rw[if_neg hz]
  simp(disch:=try exact dI) only[Q34,Typ.pv_mk,push_cast,seval]
  refine ab.pure h69 rfl ?_
  simp(disch:=try exact dI) only[hz,push_cast,seval]
end Go.Proofs.YtbojpfpliibfbaaGreatDoor
-- many steps
namespace Go.Proofs.YtbojpfpliibfbaaGreatDoor
open Go Go.Ab
attribute [local irreducible] vc
theorem rN (f:Nat)(a b:List PV):PV.one (.clo f a b)=true:=rfl
theorem nW:PV.one .nilf=true:=rfl
theorem nv:am Tryz.prog az 43 [] (.agg [.nilf,.clo 84 [] [],.clo 82 [] [],.clo 82 [] [],.clo 85 [] [],.clo 86 [] [],.clo 87 [] [],.clo 89 [] []]):=by
 refine am.intro Q43.2 (by simp[Q43]) ?_
 simp(disch:=try exact dI) only[Q43,rN,nW,push_cast,seval]
def KD:PV:=.agg [.nilf,.clo 84 [] [],.clo 82 [] [],.clo 82 [] [],.clo 85 [] [],.clo 86 [] [],.clo 87 [] [],.clo 89 [] []]
theorem NI:bt false 8 1 (.pv KD) (.pv (.int .i64 2))=some (.pv (.clo 82 [] [])):=rfl
theorem NH:bt false 8 1 (.pv KD) (.pv (.int .i64 3))=some (.pv (.clo 82 [] [])):=rfl
theorem q9 {n:Int}{sc:Nat}(hn:IsN n sc):am Tryz.prog az 82 [.agg [.int .i64 0,.int .i64 n,.int .i64 (sc:Int),.str [],.nils,.nils]] (.str (gW n sc)):=by
 have h:=FZ hn
 generalize gW n sc=d at h ⊢
 refine am.intro Q82.2 (by simp[Q82]) ?_
 simp(disch:=try exact dI) only[Q82,push_cast,seval]
 refine ab.pure h rfl ?_
 exact qsZ
theorem mF {k m M:Int}{sc:Nat}{w:List (List UInt8)}{e:List Typ}{f:List TFd}{n:Int}(hn:IsN n sc):am Tryz.prog az 73 [(Typ.mk k m M (sc:Int) w e f).pv,.int .i64 n] (.str (gW n sc)):=by
 have h:=Hl hn
 generalize gW n sc=d at h ⊢
 refine am.intro Q73.2 (by simp[Q73]) ?_
 simp(disch:=try exact dI) only[Q73,Typ.pv_mk,push_cast,seval]
 refine ab.pure h rfl ?_
 exact qsZ
theorem mB {k m M s:Int}{w:List (List UInt8)}{e:List Typ}{f:List TFd}(h:bm (.mk k m M s w e f)=0):aY k (.mk k m M s w e f)=false:=by
 rw[bm] at h
 by_cases a:inB k 1 10=false
 ·rw[if_pos a] at h;exact absurd h (by decide)
 rw[if_neg a] at h
 by_cases b:aY k (.mk k m M s w e f)=true
 ·rw[if_pos b] at h;exact absurd h (by decide)
 ·simpa using b
theorem pU {k m M s:Int}{w:List (List UInt8)}{e:List Typ}{f:List TFd}(h:bm (.mk k m M s w e f)=0)(hk:k=2\/k=3):∃ sc:Nat,s=(sc:Int)/\IsN m sc/\IsN M sc:=by
 have hb:=(bu h).2.1
 have hf:=mB h
 unfold aD at hb
 have h4:¬ (k=4/\0<w.length):=by omega
 rw[if_neg h4] at hb
 by_cases hc:(2<=k/\k<=8)/\(M<m\/m<loK k\/hiK k<M)
 ·rw[if_pos hc] at hb;exact absurd hb (by decide)
 rw[if_neg hc] at hb
 have h1:¬ (M<m\/m<loK k\/hiK k<M):=fun hh=>hc ⟨by omega,hh⟩
 have hs:0<=s/\s<=12:=by
  rcases hk with rfl | rfl
  ·simp only[aY,aw,Bool.or_eq_false_iff] at hf
   have:s=0:=by simpa using hf.2.1
   omega
  ·by_cases hi:inB s 0 12=false
   ·rw[if_pos ⟨rfl,hi⟩] at hb;exact absurd hb (by decide)
   ·simpa[inB] using hi
 have hl:loK k = -999999999999999/\hiK k=999999999999999:=by rcases hk with rfl | rfl<;>exact⟨rfl,rfl⟩
 rw[hl.1,hl.2] at h1
 refine⟨s.toNat,by omega,?_,?_⟩
 ·unfold IsN;omega
 ·unfold IsN;omega
theorem pT {m M s:Int}{w:List (List UInt8)}{e:List Typ}{f:List TFd}(h:bm (.mk 5 m M s w e f)=0):0<=M/\M<=1024:=by
 have hb:=(bu h).2.1
 unfold aD at hb
 rw[if_neg (fun hh=>absurd hh.1 (by decide))] at hb
 by_cases hc:(2<=(5:Int)/\(5:Int)<=8)/\(M<m\/m<loK 5\/hiK 5<M)
 ·rw[if_pos hc] at hb;exact absurd hb (by decide)
 have h1:¬ (M<m\/m<loK 5\/hiK 5<M):=fun hh=>hc ⟨by decide,hh⟩
 rw[show loK 5=0 from rfl,show hiK 5=1024 from rfl] at h1
 omega
theorem fm:∀ (k a:Nat),(bU k a).length=k
 | 0,_=>rfl
 | k+1,a=>by rw[bU,List.length_append,fm k];rfl
theorem Ff {n:Int}{sc:Nat}(hn:IsN n sc):1<=((gW n sc).length:Int):=by
 simp only[gW,List.length_append,fm]
 omega
def mb (w:List (List UInt8))(a:Int):Int:=w.foldl (fun (a:Int) (x:List UInt8)=>max a (x.length:Int)) a
theorem rc:∀ (w:List (List UInt8)) (a:Int),mb w (max 1 a)=max (mb w a) 1
 | [],a=>by simp only[mb,List.foldl_nil];omega
 | x::r,a=>by
   have h:=rc r (max a (x.length:Int))
   simp only[mb,List.foldl_cons] at h ⊢
   rw[<- h];congr 1;omega
theorem nw {w:List (List UInt8)}{i:Nat}{x:List UInt8}(h:w[i]? = some x)(a:Int):mb (w.take (i+1)) a=max (mb (w.take i) a) (x.length:Int):=en h a
def eW:Typ->Int
 | .mk k m M s w _ _=>if k=2\/k=3 then max ((gW m s.toNat).length:Int) ((gW M s.toNat).length:Int) else if k=4 then max (mb w M) 1 else if k=5 then max (2*M) 1 else if k=6 then 10 else if k=7 then 24 else 1
theorem G1 (k m M s:Int)(w:List (List UInt8))(e:List Typ)(f:List TFd)(ho:bm (.mk k m M s w e f)=0)(ht:(Typ.mk k m M s w e f).ok)(hk:1<=k/\k<=7):am Tryz.prog az 35 [(Typ.mk k m M s w e f).pv] (.int .i64 (eW (.mk k m M s w e f))):=by
 rw[Typ.ok_mk] at ht
 have hwl:w.length<=9000000000000:=by omega
 clear ht
 by_cases h23:k=2\/k=3
 ·obtain⟨sc,rfl,hm,hM⟩:=pU ho h23
  have h1:=q9 hm
  have h2:=q9 hM
  have hw:am Tryz.prog az 43 [] KD:=nv
  have hp:=Ff hm
  rw[show eW (.mk k m M (sc:Int) w e f)=max ((gW m sc).length:Int) ((gW M sc).length:Int) by simp only[eW,if_pos h23,Int.toNat_natCast]]
  generalize gW m sc=a at *
  generalize gW M sc=b at *
  have hx:max (max (a.length:Int) (b.length:Int)) 1=max (a.length:Int) (b.length:Int):=by omega
  refine am.intro Q35.2 (by simp[Q35]) ?_
  rcases h23 with rfl | rfl
  ·simp(disch:=try exact dI) only[Q35,Typ.pv_mk,push_cast,seval]
   refine ap hw rfl ?_
   simp(disch:=try exact dI) only[NI,push_cast,seval]
   refine ap h1 rfl ?_
   refine zgZ ?_
   refine ap h2 rfl ?_
   simp(disch:=try exact dI) only[hx,push_cast,seval]
  ·simp(disch:=try exact dI) only[Q35,Typ.pv_mk,push_cast,seval]
   refine ap hw rfl ?_
   simp(disch:=try exact dI) only[NH,push_cast,seval]
   refine ap h1 rfl ?_
   refine zgZ ?_
   refine ap h2 rfl ?_
   simp(disch:=try exact dI) only[hx,push_cast,seval]
 by_cases h4:k=4
 ·subst h4
  rw[show eW (.mk 4 m M s w e f)=max (mb w M) 1 from rfl]
  refine am.intro Q35.2 (by simp[Q35]) ?_
  simp(disch:=try exact dI) only[Q35,Typ.pv_mk,push_cast,seval]
  refine au ([]) (fun i:Nat=>[(3,.pv (.int .i64 (mb (w.take i) M))),(40,.pv (.int .i64 (i:Int)))]) (fun _=>[]) (fun i=>i<=w.length) (fun i=>w.length - i) (0) ?_;intro e0 σ0 n0 h0;simp(disch:=try exact dI) only[push_cast,seval] at h0;obtain⟨rfl,rfl,rfl⟩:=h0;refine⟨?_,?_,?_⟩
  ·simp(disch:=try exact dI) only[List.take_zero,mb,List.foldl_nil,push_cast,seval]
  ·omega
  rintro i hi
  by_cases hlt:i<w.length
  ·have hltI:(i:Int)<(w.length:Int):=by omega
   obtain⟨x,hx⟩:∃ x,w[i]? = some x:=⟨_,List.getElem?_eq_getElem hlt⟩
   have hst:=nw hx M
   simp(disch:=try exact dI) only[hx,Option.map_some,push_cast,seval]
   exact⟨i+1,aM (by simp(disch:=try exact dI) only[hst,push_cast,seval]),by omega,by omega⟩
  ·obtain rfl:i=w.length:=by omega
   rw[List.take_length]
   simp(disch:=try exact dI) only[Int.lt_irrefl,push_cast,seval]
 by_cases h5:k=5
 ·subst h5
  have hM:=pT ho
  rw[show eW (.mk 5 m M s w e f)=max (2*M) 1 from rfl]
  refine am.intro Q35.2 (by simp[Q35]) ?_
  simp(disch:=try exact dI) only[Q35,Typ.pv_mk,push_cast,seval]
 by_cases h6:k=6
 ·subst h6
  rw[show eW (.mk 6 m M s w e f)=10 from rfl]
  refine am.intro Q35.2 (by simp[Q35]) ?_
  simp(disch:=try exact dI) only[Q35,Typ.pv_mk,show max (10:Int) 1=10 from rfl,push_cast,seval]
 by_cases h7:k=7
 ·subst h7
  rw[show eW (.mk 7 m M s w e f)=24 from rfl]
  refine am.intro Q35.2 (by simp[Q35]) ?_
  simp(disch:=try exact dI) only[Q35,Typ.pv_mk,show max (24:Int) 1=24 from rfl,push_cast,seval]
 ·obtain rfl:k=1:=by omega
  rw[show eW (.mk 1 m M s w e f)=1 from rfl]
  refine am.intro Q35.2 (by simp[Q35]) ?_
  simp(disch:=try exact dI) only[Q35,Typ.pv_mk,show max (1:Int) 1=1 from rfl,push_cast,seval]
end Go.Proofs.YtbojpfpliibfbaaGreatDoor

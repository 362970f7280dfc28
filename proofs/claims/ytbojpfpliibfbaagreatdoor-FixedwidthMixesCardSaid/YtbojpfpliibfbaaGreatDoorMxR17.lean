/- A part of the proof. -/
import Derived.Test.YtbojpfpliibfbaaGreatDoorMxR16
set_option maxHeartbeats 16000000
set_option maxRecDepth 100000
set_option linter.unusedVariables false
set_option linter.unusedSimpArgs false
namespace Go.Proofs.YtbojpfpliibfbaaGreatDoor
open Go Go.Ab
attribute [local irreducible] vc
def fS (g:TFd)(n:Int):Int:=if n<1\/4096<n then 2 else if n<cD g.typ then 5 else if g.need=2/\aX g.typ=true then 19 else if g.typ.words.any BQ=true then 6 else 0
def yF:List TFd->List Int->Int->Int
 | g::f,n::w,s=>if fS g n=0 then yF f w (s+n) else fS g n
 | [],_,s=>if 65536<s then 9 else 0
 | _,[],s=>if 65536<s then 9 else 0
theorem AD {f:List TFd}{w:List Int}{i:Nat}{g:TFd}{n:Int}(hg:f[i]? = some g)(hn:w[i]? = some n)(s:Int):yF (f.drop i) (w.drop i) s=if fS g n=0 then yF (f.drop (i+1)) (w.drop (i+1)) (s+n) else fS g n:=by
 have h1:=(List.getElem?_eq_some_iff.1 hg)
 have h2:=(List.getElem?_eq_some_iff.1 hn)
 obtain⟨hi,he⟩:=h1
 obtain⟨hj,hf⟩:=h2
 rw[List.drop_eq_getElem_cons hi,List.drop_eq_getElem_cons hj,he,hf,yF]
noncomputable def lf (t:Typ)(w:List Int):Int:=if flE t=0 then (if w.length<t.fields.length then 4 else if t.fields.length<w.length then 5 else yF t.fields w 0) else flE t
structure FldOk (g:TFd):Prop where
 wid:ag Tryz.prog aq 35 [g.typ.pv] (.int .i64 (cD g.typ))/\ag Tryz.prog aq 30 [g.typ.pv] (.int .i64 (cD g.typ))
 emp:ag Tryz.prog aq 36 [g.typ.pv] (.bool (aX g.typ))/\ag Tryz.prog aq 40 [g.typ.pv] (.bool (aX g.typ))
 wrd:g.typ.words.length<=9000000000000/\∀ x∈g.typ.words,x.length<=140737488351232
theorem Jl {t:Typ}(h:lM t=0)(ht:t.ok)(hf:ff t=true):∀ g∈t.fields,FldOk g:=fun g hg=>by
 have hw:=CZ h ht hf g hg
 have hty:=iO h
 obtain⟨h9,_,hs⟩:=cj hf
 obtain⟨k,m,M,s,w,e,f⟩:=t
 rw[Typ.ok_mk] at ht
 have ho:=gh (hty.2.2 (.inl h9) g hg).1
 have hgt:=(fL (ht.2.2.2.2.2.2.2.2.2 g hg)).1
 obtain⟨n',nm',nd',⟨k',m',M',s',w',e',f'⟩,d'⟩:=g
 simp only[TFd.typ] at hw ho hgt ⊢
 rw[Typ.ok_mk] at hgt
 have hwl:w'.length<=9000000000000:=by omega
 exact⟨hw,⟨Mo k' m' M' s' w' e' f' hwl,Na k' m' M' s' w' e' f' hwl ho⟩,hwl,hgt.2.2.2.2.2.1⟩
theorem FS (t:Typ)(ht:t.ok)(w:List Int)(he:flE t=0)(hlen:w.length=t.fields.length):ag Tryz.prog aq 12 [t.pv,.list (db w)] (.int .i64 (yF t.fields w 0)):=by
 have h34:=ub t ht
 obtain⟨h0,hfl⟩:=iB he
 have hfo:=Jl h0 ht hfl
 rw[he] at h34
 clear he h0 hfl
 obtain⟨k,m,M,s,wd,e,f⟩:=t
 rw[Typ.ok_mk] at ht
 have hf:f.length<=9000000000000:=by omega
 clear ht
 simp only[Typ.pv_mk,Typ.fields] at h34 hfo hlen ⊢
 obtain⟨R,hR⟩:∃ R,R=yF f w 0:=⟨_,rfl⟩
 rw[<- hR]
 have hwl:=ct w
 have hlI:(w.length:Int)=(f.length:Int):=by omega
 refine ag.intro Q12.2 (by simp[Q12]) ?_
 simp(disch:=try exact dI) only[Q12,Typ.pv_mk,hwl,hlI,Int.lt_irrefl,push_cast,seval]
 refine ab.pure h34 rfl ?_
 simp(disch:=try exact dI) only[hwl,hlI,Int.lt_irrefl,push_cast,seval]
 refine az ([]) (fun x:Nat×Int=>[(6,.pv (.int .i64 x.2)),(31,.pv (.int .i64 (x.1:Int)))]) (fun _=>[]) (fun x=>x.1<=f.length/\R=yF (f.drop x.1) (w.drop x.1) x.2/\0<=x.2/\x.2<=4096*(x.1:Int)) (fun x=>f.length - x.1) ((0,0)) ?_;intro e0 σ0 n0 h0;simp(disch:=try exact dI) only[push_cast,seval] at h0;obtain⟨rfl,rfl,rfl⟩:=h0;refine⟨?_,?_,?_⟩
 ·exact qsZ
 ·exact⟨by simp,by simpa using hR,by simp,by simp⟩
 rintro⟨i,S⟩ ⟨hi,hr,hS,hS2⟩
 simp only at hi hr hS hS2
 by_cases hlt:i<f.length
 ·have hltI:(i:Int)<(f.length:Int):=by omega
  obtain⟨g,hg⟩:∃ g,f[i]? = some g:=⟨_,List.getElem?_eq_getElem hlt⟩
  obtain⟨n,hn⟩:∃ n,w[i]? = some n:=⟨_,List.getElem?_eq_getElem (by omega)⟩
  have hnp:=jr hn
  rw[AD hg hn] at hr
  obtain⟨⟨hw,_⟩,⟨hem,_⟩,hwdl,hwd⟩:=hfo g (List.mem_of_getElem? hg)
  have hcn:=xG g.typ.words hwd hwdl
  obtain⟨z,hz⟩:∃ z,z=fS g n:=⟨_,rfl⟩
  rw[<- hz] at hr
  simp only[fS] at hz
  generalize cD g.typ=W at *
  generalize aX g.typ=E at *
  generalize g.typ.words.any BQ=B at *
  obtain⟨nd,hnd⟩:∃ q,q=g.need:=⟨_,rfl⟩
  rw[<- hnd] at hz
  obtain⟨n',nm',nd',⟨k',m',M',s',w',e',f'⟩,d'⟩:=g
  simp only[TFd.typ,TFd.need,Typ.words] at hw hem hcn hnd
  subst hnd
  simp only[Typ.pv_mk] at hw hem
  by_cases c1:n<1\/4096<n
  ·rw[if_pos c1] at hz
   subst hz
   rw[if_neg (by decide)] at hr
   subst hr
   rcases c1 with c1 | c1
   ·simp(disch:=try exact dI) only[hg,Option.map_some,TFd.pv_mk,Typ.pv_mk,ae,hnp,c1,push_cast,seval]
   ·have c2:¬ n<1:=by omega
    simp(disch:=try exact dI) only[hg,Option.map_some,TFd.pv_mk,Typ.pv_mk,ae,hnp,c1,c2,push_cast,seval]
  have c1a:¬ n<1:=fun h=>c1 (.inl h)
  have c1b:¬ 4096<n:=fun h=>c1 (.inr h)
  rw[if_neg c1] at hz
  by_cases c2:n<W
  ·rw[if_pos c2] at hz
   subst hz
   rw[if_neg (by decide)] at hr
   subst hr
   simp(disch:=try exact dI) only[hg,Option.map_some,TFd.pv_mk,Typ.pv_mk,ae,hnp,c1a,c1b,push_cast,seval]
   refine am hw rfl ?_
   simp(disch:=try exact dI) only[c2,push_cast,seval]
  rw[if_neg c2] at hz
  by_cases c3:nd=2
  ·subst c3
   cases E with
   | true=>
     rw[if_pos ⟨rfl,rfl⟩] at hz
     subst hz
     rw[if_neg (by decide)] at hr
     subst hr
     simp(disch:=try exact dI) only[hg,Option.map_some,TFd.pv_mk,Typ.pv_mk,ae,hnp,c1a,c1b,push_cast,seval]
     refine am hw rfl ?_
     simp(disch:=try exact dI) only[c2,push_cast,seval]
     refine ab.pure hem rfl ?_
     exact qsZ
   | false=>
     rw[if_neg (fun h=>absurd h.2 (by decide))] at hz
     cases B with
     | true=>
       rw[if_pos rfl] at hz
       subst hz
       rw[if_neg (by decide)] at hr
       subst hr
       simp(disch:=try exact dI) only[hg,Option.map_some,TFd.pv_mk,Typ.pv_mk,ae,hnp,c1a,c1b,push_cast,seval]
       refine am hw rfl ?_
       simp(disch:=try exact dI) only[c2,push_cast,seval]
       refine ab.pure hem rfl ?_
       refine zgZ ?_
       refine ab.pure hcn rfl ?_
       exact qsZ
     | false=>
       rw[if_neg (show ¬ false=true by decide)] at hz
       subst hz
       rw[if_pos rfl] at hr
       simp(disch:=try exact dI) only[hg,Option.map_some,TFd.pv_mk,Typ.pv_mk,ae,hnp,c1a,c1b,push_cast,seval]
       refine am hw rfl ?_
       simp(disch:=try exact dI) only[c2,push_cast,seval]
       refine ab.pure hem rfl ?_
       refine zgZ ?_
       refine ab.pure hcn rfl ?_
       simp(disch:=try exact dI) only[hnp,push_cast,seval]
       exact⟨(i+1,S+n),aV qsZ,⟨by simp only;omega,hr,by simp only;omega,by simp only;omega⟩,by simp only;omega⟩
  ·rw[if_neg (fun h=>c3 h.1)] at hz
   cases B with
   | true=>
     rw[if_pos rfl] at hz
     subst hz
     rw[if_neg (by decide)] at hr
     subst hr
     simp(disch:=try exact dI) only[hg,Option.map_some,TFd.pv_mk,Typ.pv_mk,ae,hnp,c1a,c1b,push_cast,seval]
     refine am hw rfl ?_
     simp(disch:=try exact dI) only[c2,c3,push_cast,seval]
     refine ab.pure hcn rfl ?_
     exact qsZ
   | false=>
     rw[if_neg (show ¬ false=true by decide)] at hz
     subst hz
     rw[if_pos rfl] at hr
     simp(disch:=try exact dI) only[hg,Option.map_some,TFd.pv_mk,Typ.pv_mk,ae,hnp,c1a,c1b,push_cast,seval]
     refine am hw rfl ?_
     simp(disch:=try exact dI) only[c2,c3,push_cast,seval]
     refine ab.pure hcn rfl ?_
     simp(disch:=try exact dI) only[hnp,push_cast,seval]
     exact⟨(i+1,S+n),aV qsZ,⟨by simp only;omega,hr,by simp only;omega,by simp only;omega⟩,by simp only;omega⟩
 ·obtain rfl:i=f.length:=by omega
  rw[List.drop_length,yF] at hr
  subst hr
  by_cases h9:65536<S
  ·rw[if_pos h9]
   simp(disch:=try exact dI) only[Int.lt_irrefl,h9,push_cast,seval]
  ·rw[if_neg h9]
   simp(disch:=try exact dI) only[Int.lt_irrefl,h9,push_cast,seval]
theorem lP (t:Typ)(ht:t.ok)(w:List Int):ag Tryz.prog aq 12 [t.pv,.list (db w)] (.int .i64 (lf t w)):=by
 have h34:=ub t ht
 unfold lf
 by_cases he:flE t=0
 ·rw[if_pos he]
  by_cases h1:w.length<t.fields.length
  ·rw[if_pos h1]
   rw[he] at h34
   have hwl:=ct w
   have h1I:(w.length:Int)<(t.fields.length:Int):=by omega
   obtain⟨k,m,M,s,wd,e,f⟩:=t
   simp only[Typ.pv_mk,Typ.fields] at h34 h1I ⊢
   refine ag.intro Q12.2 (by simp[Q12]) ?_
   simp(disch:=try exact dI) only[Q12,Typ.pv_mk,hwl,h1I,push_cast,seval]
   refine ab.pure h34 rfl ?_
   simp(disch:=try exact dI) only[hwl,h1I,push_cast,seval]
  rw[if_neg h1]
  by_cases h2:t.fields.length<w.length
  ·rw[if_pos h2]
   rw[he] at h34
   have hwl:=ct w
   have h1I:¬ (w.length:Int)<(t.fields.length:Int):=by omega
   have h2I:(t.fields.length:Int)<(w.length:Int):=by omega
   obtain⟨k,m,M,s,wd,e,f⟩:=t
   simp only[Typ.pv_mk,Typ.fields] at h34 h1I h2I ⊢
   refine ag.intro Q12.2 (by simp[Q12]) ?_
   simp(disch:=try exact dI) only[Q12,Typ.pv_mk,hwl,h1I,h2I,push_cast,seval]
   refine ab.pure h34 rfl ?_
   simp(disch:=try exact dI) only[hwl,h1I,h2I,push_cast,seval]
  rw[if_neg h2]
  exact FS t ht w he (by omega)
 ·rw[if_neg he]
  generalize flE t=z at *
  obtain⟨k,m,M,s,wd,e,f⟩:=t
  simp only[Typ.pv_mk] at h34 ⊢
  refine ag.intro Q12.2 (by simp[Q12]) ?_
  simp(disch:=try exact dI) only[Q12,Typ.pv_mk,push_cast,seval]
  refine ab.pure h34 rfl ?_
  simp(disch:=try exact dI) only[he,push_cast,seval]
theorem Lr (v:Val):ag Tryz.prog aq 67 [v.pv] (.bool (bv v)):=by
 obtain⟨k,n,s,t,l,fs⟩:=v
 have h5:(l.length=0/\(l.length:Int)=0)\/(¬ l.length=0/\¬ (l.length:Int)=0):=by omega
 have h6:(fs.length=0/\(fs.length:Int)=0)\/(¬ fs.length=0/\¬ (fs.length:Int)=0):=by omega
 obtain⟨r,hr⟩:∃ r,r=bv (.mk k n s t l fs):=⟨_,rfl⟩
 rw[<- hr]
 refine ag.intro Q67.2 (by simp[Q67]) ?_
 rcases Classical.em (k=0) with a | a
 all_goals first | (have:=hend;skip) | (refine bN (c:=false) hr ?_ ?_;(focus (simp[bv, *];done));rintro rfl;have hend:=trivial;clear h5 h6) | rcases Classical.em (n=0) with b | b
 all_goals first | (have:=hend;skip) | (refine bN (c:=false) hr ?_ ?_;(focus (simp[bv, *];done));rintro rfl;have hend:=trivial;clear h5 h6) | rcases Classical.em (s=0) with c | c
 all_goals first | (have:=hend;skip) | (refine bN (c:=false) hr ?_ ?_;(focus (simp[bv, *];done));rintro rfl;have hend:=trivial;clear h5 h6) | rcases Classical.em (t=[]) with d | d
 all_goals first | (have:=hend;skip) | (refine bN (c:=false) hr ?_ ?_;(focus (simp[bv, *];done));rintro rfl;have hend:=trivial;clear h5 h6) | rcases h5 with ⟨e,e1⟩ | ⟨e,e1⟩
 all_goals first | (have:=hend;skip) | (refine bN (c:=false) hr ?_ ?_;(focus (simp[bv, *];done));rintro rfl;have hend:=trivial;clear h6) | rcases h6 with ⟨f,f1⟩ | ⟨f,f1⟩
 all_goals first | (have:=hend;skip) | (refine bN (c:=true) hr ?_ ?_;(focus (simp[bv, *];done));rintro rfl) | (refine bN (c:=false) hr ?_ ?_;(focus (simp[bv, *];done));rintro rfl)
 all_goals clear hr
 all_goals simp(disch:=try exact dI) only[Q67,Val.pv_mk, *,push_cast,seval]
theorem Ly (s:List UInt8):ag Tryz.prog aq 66 [.str s] (.bool (bw s)):=by
 refine ag.intro Q66.2 (by simp[Q66]) ?_
 by_cases h1:0<s.length
 ·by_cases h32:s.length<=32
  ·have e:bw s=(iU (s.headD 0)&&s.all okC):=by simp only[bw,decide_eq_true h1,decide_eq_true h32,Bool.true_and]
   rw[e]
   have hd0:s[0]? = some (s.headD 0):=by cases s with
    | nil=>simp at h1
    | cons a b=>rfl
   simp(disch:=try exact dI) only[Q66,push_cast,seval]
   refine az ([]) (fun i:Nat=>[(3,.pv (.int .i64 (i:Int)))]) (fun _=>[]) (fun i=>i<=s.length/\(s.take i).all okC=true/\(0<i->iU (s.headD 0)=true)) (fun i=>s.length - i) (0) ?_;intro e0 σ0 n0 h0;simp(disch:=try exact dI) only[push_cast,seval] at h0;obtain⟨rfl,rfl,rfl⟩:=h0;refine⟨?_,?_,?_⟩
   ·exact qsZ
   ·exact⟨by omega,by simp,by omega⟩
   rintro i ⟨hi,hall,hl0⟩
   by_cases hlt:i<s.length
   ·have hltI:(i:Int)<(s.length:Int):=by omega
    obtain⟨b,hb⟩:∃ b,s[i]? = some b:=⟨_,List.getElem?_eq_getElem hlt⟩
    have hbn:=b.toNat_lt
    have hsn:=uI hb
    rw[hall,Bool.true_and] at hsn
    by_cases hlt2:97<=b.toNat/\b.toNat<=122
    ·have hok:okC b=true:=by simp[okC,iU];omega
     have hlet:0<i+1->iU (s.headD 0)=true:=by
      intro _
      by_cases hi0:i=0
      ·subst hi0
       rw[hb] at hd0
       rw[<- Option.some.inj hd0]
       simp[iU];omega
      ·exact hl0 (by omega)
     simp(disch:=try exact dI) only[hb,aG,push_cast,seval]
     exact⟨i+1,aV qsZ,⟨by omega,by rw[hsn,hok],hlet⟩,by omega⟩
    ·by_cases hi0:i=0
     ·subst hi0
      have hbad:(iU (s.headD 0)&&s.all okC)=false:=by
       rw[hb] at hd0
       rw[<- Option.some.inj hd0]
       simp only[iU,Bool.and_eq_false_iff,decide_eq_false_iff_not];left;omega
      rw[hbad]
      have hc:b.toNat<97\/122<b.toNat:=by omega
      rcases hc with hc | hc
      ·simp(disch:=try exact dI) only[hb,aG,push_cast,seval]
      ·simp(disch:=try exact dI) only[hb,aG,push_cast,seval]
     ·have hi0I:¬ (i:Int)=0:=by omega
      have hl:=hl0 (by omega)
      have hc:b.toNat<48\/(48<=b.toNat/\b.toNat<=57)\/(57<b.toNat/\b.toNat<97/\b.toNat≠95)\/b.toNat=95\/122<b.toNat:=by omega
      rcases hc with hc | hc | hc | hc | hc
      ·have hbad:(iU (s.headD 0)&&s.all okC)=false:=by rw[iL hb (by simp[okC,iU];omega),Bool.and_false]
       rw[hbad]
       simp(disch:=try exact dI) only[hb,aG,push_cast,seval]
      ·have hok:okC b=true:=by simp[okC,iU];omega
       simp(disch:=try exact dI) only[hb,aG,push_cast,seval]
       exact⟨i+1,aV qsZ,⟨by omega,by rw[hsn,hok],fun _=>hl⟩,by omega⟩
      ·have hbad:(iU (s.headD 0)&&s.all okC)=false:=by rw[iL hb (by simp[okC,iU];omega),Bool.and_false]
       rw[hbad]
       simp(disch:=try exact dI) only[hb,aG,push_cast,seval]
      ·have hok:okC b=true:=by simp[okC,iU];omega
       simp(disch:=try exact dI) only[hb,aG,push_cast,seval]
       exact⟨i+1,aV qsZ,⟨by omega,by rw[hsn,hok],fun _=>hl⟩,by omega⟩
      ·have hbad:(iU (s.headD 0)&&s.all okC)=false:=by rw[iL hb (by simp[okC,iU];omega),Bool.and_false]
       rw[hbad]
       simp(disch:=try exact dI) only[hb,aG,push_cast,seval]
   ·have he:s.take i=s:=List.take_of_length_le (by omega)
    rw[he] at hall
    rw[hall,hl0 (by omega)]
    exact qsZ
  ·have e:bw s=false:=by simp[bw,h32]
   rw[e]
   simp(disch:=try exact dI) only[Q66,push_cast,seval]
 ·have e:bw s=false:=by simp[bw,h1]
  rw[e]
  simp(disch:=try exact dI) only[Q66,push_cast,seval]
section
variable (m M s:Int)(w:List (List UInt8))(e:List Typ)(f:List TFd)
end
theorem Me (vn vs:Int)(vt:List UInt8)(vl:List Val)(vf:List Fld)(name:List UInt8)(hl:vf.length<=9000000000000):ag Tryz.prog aq 25 [(Val.mk 9 vn vs vt vl vf).pv,.str name] (.int .i64 (dF (aF name) vf 0)):=by
 refine ag.intro Q25.2 (by simp[Q25]) ?_
 simp(disch:=try exact dI) only[Q25,Val.pv_mk,push_cast,seval]
 refine az ([]) (fun i:Nat=>[(5,.pv (.int .i64 (i:Int)))]) (fun _=>[]) (fun i=>i<=vf.length/\dF (aF name) vf 0=dF (aF name) (vf.drop i) i) (fun i=>vf.length - i) (0) ?_;intro e0 σ0 n0 h0;simp(disch:=try exact dI) only[push_cast,seval] at h0;obtain⟨rfl,rfl,rfl⟩:=h0;refine⟨?_,?_,?_⟩
 ·exact qsZ
 ·exact⟨by omega,by simp⟩
 rintro i ⟨hi,he⟩
 by_cases hlt:i<vf.length
 ·have hltI:(i:Int)<(vf.length:Int):=by omega
  obtain⟨x,hx⟩:∃ x,vf[i]? = some x:=⟨_,List.getElem?_eq_getElem hlt⟩
  have hhit:=fun h=>dA (p:=aF name) hx h
  have hmiss:=fun h=>ci (p:=aF name) hx h
  obtain⟨x2,⟨y1,y2,y3,y4,y5,y6⟩⟩:=x
  simp only[aF,Fld.name] at hhit hmiss
  by_cases hn:x2=name
  ·rw[he,hhit (decide_eq_true hn)]
   simp(disch:=try exact dI) only[hx,Option.map_some,hn,Fld.pv_mk,Val.pv_mk,ae,push_cast,seval]
  ·simp(disch:=try exact dI) only[hx,Option.map_some,hn,Fld.pv_mk,Val.pv_mk,ae,push_cast,seval]
   exact⟨i+1,aV qsZ,⟨by omega,by rw[he];exact hmiss (decide_eq_false hn)⟩,by omega⟩
 ·obtain rfl:i=vf.length:=by omega
  rw[he,dB (by omega)]
  simp(disch:=try exact dI) only[Int.lt_irrefl,push_cast,seval]
def NX (k nd:Int)(d:List Val):Int:=if inB nd 1 3=false then 11 else if k=10/\¬ nd=1 then 11 else if nd=3/\d.length=0 then 4 else if 1<d.length then 3 else if ¬ nd=3/\0<d.length then 3 else 0
theorem gE (k:Int)(b:List TFd)(n:Int)(nm:List UInt8)(nd:Int)(t:Typ)(d:List Val):cC k b (.mk n nm nd t d)=if bw nm=false then 12 else if inB n 1 9999=false then 2 else if b.any (nV n nm)=true then 7 else NX k nd d:=rfl
theorem pvs_map:∀ (l:List PV),pvs (l.map AV.pv)=some l
 | []=>rfl
 | x::r=>by rw[List.map_cons,mU];rw[pvs_map r];rfl
section
variable (m M s:Int)(w:List (List UInt8))(e:List Typ)(f:List TFd)
end
end Go.Proofs.YtbojpfpliibfbaaGreatDoor

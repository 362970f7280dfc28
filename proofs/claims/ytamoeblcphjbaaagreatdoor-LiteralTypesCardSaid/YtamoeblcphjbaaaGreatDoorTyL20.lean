/- A part. -/
import Derived.Test.YtamoeblcphjbaaaGreatDoorTyLE8
set_option linter.unusedVariables false
set_option linter.unusedSimpArgs false
set_option maxHeartbeats 16000000
set_option maxRecDepth 100000
open List renaming getElem?_eq_getElem->WE,mem_of_getElem?->WK,take_length->WV,map_cons->WP,length_append->WF,length_cons->WG,length_nil->WL,mem_cons_of_mem->Xj,append_assoc->WS,singleton_append->Xc,flatMap_cons->Xf,nil_append->WO
namespace Go.Proofs.YtamoeblcphjbaaaGreatDoor
open Go Go.Ab Go.RowKit
attribute [local irreducible] vc
def sW (g:Val->Int):Int->List Val->Int
 | a,[]=>a
 | a,x::r=>sW g (IntKind.i64.wrap (a+g x)) r
theorem tA (g:Val->Int)(x:Val):∀ (l:List Val) (a:Int),sW g a (l++[x])=IntKind.i64.wrap (sW g a l+g x)
 | [],a=>rfl
 | y::r,a=>by rw[List.cons_append,sW,tA g x r];rfl
def lV:Nat->Val->Int
 | 0,_=>0
 | n+1,v=>sW (lV n) (sW (lV n) 1 v.lst) (v.fields.map Fld.value)
theorem Cf:∀ (n:Nat) (v:Val),sN n v->v.ok->am Tryz.prog aC 35 [v.pv] (.int .i64 (lV n v))
 | 0,_,h,_=>h.elim
 | n+1,v,h,hv=>by
   have ih1:∀ x∈v.lst,am Tryz.prog aC 35 [x.pv] (.int .i64 (lV n x)):=fun x hx=>Cf n x (h.1 x hx) (Ln hv x hx)
   have ih2:∀ x∈v.fields,am Tryz.prog aC 35 [x.value.pv] (.int .i64 (lV n x.value)):=fun x hx=>Cf n x.value (h.2 x hx) (Lz hv x hx)
   obtain⟨k,m,s,t,l,fs⟩:=v
   rw[lV]
   simp only[Val.lst,Val.fields] at ih1 ih2 ⊢
   rw[WC] at hv
   have hl1:l.length*88<=140737488351232:=hv.2.2.2.2.1
   have hl2:fs.length*104<=140737488351232:=hv.2.2.2.2.2.2.1
   clear hv h
   generalize lV n=g at *
   refine am.intro Q35.2 (by simp[Q35]) ?_
   simp(disch:=try exact dI) only[Q35,WD,push_cast,seval]
   refine aG ([]) (fun i:Nat=>[(3,.pv (.int .i64 (sW g 1 (l.take i)))),(4,.pv (.int .i64 (i:Int)))]) (fun _=>[]) (fun i=>i<=l.length) (fun i=>l.length - i) (0) ?_;intro e0 σ0 n0 h0;simp(disch:=try exact dI) only[push_cast,seval] at h0;obtain⟨rfl,rfl,rfl⟩:=h0;refine⟨?_,?_,?_⟩
   ·refine zgZ ?_
    exact .refl _
   ·omega
   ·rintro i hi
    by_cases hlt:i<l.length
    ·have hltI:(i:Int)<(l.length:Int):=by omega
     obtain⟨x,hx⟩:∃ x,l[i]? = some x:=⟨_,WE hlt⟩
     have hx':(l.map Val.pv)[i]? = some x.pv:=by simp[hx]
     have hc:=ih1 x (WK hx)
     have hts:sW g 1 (l.take (i+1))=IntKind.i64.wrap (sW g 1 (l.take i)+g x):=by rw[aK hx,tA]
     generalize g x=X at *
     obtain⟨xk,xn,xs,xt,xl,xf⟩:=x
     simp only[WD] at hx' hc
     simp(disch:=try exact dI) only[hltI,hx',push_cast,seval]
     refine ae.pure hc rfl ?_
     refine zgZ ?_
     exact⟨i+1,bl (by simp(disch:=try exact dI) only[hts,push_cast,seval]),by omega,by omega⟩
    ·have hltI:¬ (i:Int)<(l.length:Int):=by omega
     obtain rfl:i=l.length:=by omega
     rw[WV]
     generalize sW g 1 l=D at *
     simp(disch:=try exact dI) only[hltI,push_cast,seval]
     refine aG ([]) (fun i:Nat=>[(3,.pv (.int .i64 (sW g D ((fs.take i).map Fld.value)))),(5,.pv (.int .i64 (i:Int)))]) (fun _=>[]) (fun i=>i<=fs.length) (fun i=>fs.length - i) (0) ?_;intro e0 σ0 n0 h0;simp(disch:=try exact dI) only[push_cast,seval] at h0;obtain⟨rfl,rfl,rfl⟩:=h0;refine⟨?_,?_,?_⟩
     ·refine zgZ ?_
      exact .refl _
     ·omega
     ·rintro i hi
      by_cases hlt:i<fs.length
      ·have hltI:(i:Int)<(fs.length:Int):=by omega
       obtain⟨x,hx⟩:∃ x,fs[i]? = some x:=⟨_,WE hlt⟩
       have hx':(fs.map Fld.pv)[i]? = some x.pv:=by simp[hx]
       have hc:=ih2 x (WK hx)
       have hts:sW g D ((fs.take (i+1)).map Fld.value)=IntKind.i64.wrap (sW g D ((fs.take i).map Fld.value)+g x.value):=by rw[aK hx,List.map_append,WP,List.map_nil,tA]
       generalize g x.value=X at *
       obtain⟨nm,x⟩:=x
       simp only[Fld.value] at hc
       obtain⟨xk,xn,xs,xt,xl,xf⟩:=x
       simp only[Wq,WD] at hx' hc
       simp(disch:=try exact dI) only[hltI,hx',push_cast,seval]
       refine ae.pure hc rfl ?_
       refine zgZ ?_
       exact⟨i+1,bl (by simp(disch:=try exact dI) only[hts,push_cast,seval]),by omega,by omega⟩
      ·have hltI:¬ (i:Int)<(fs.length:Int):=by omega
       obtain rfl:i=fs.length:=by omega
       rw[WV]
       simp(disch:=try exact dI) only[hltI,push_cast,seval]
noncomputable def lvl (v:Val):Nat:=(iL v).choose
theorem iC (v:Val):sN (lvl v) v:=(iL v).choose_spec
noncomputable def txt (v:Val):List UInt8:=aF (lvl v) v
theorem N2 (v:Val):∃ f,lvl v=f+1:=by
 have:=iC v
 cases h:lvl v with
 | zero=>rw[h] at this;exact this.elim
 | succ f=>exact⟨f,rfl⟩
theorem u6 (v:Val):xS v=lz 0 (bF (lvl v) 1 v):=rfl
section
variable {T:Nat}{p:PV}
end
def aX (k:Int):List UInt8:=(uG[(k - 1).toNat]?).getD []
def ew (x y:List UInt8):List UInt8:=x++([46,46]++y)
noncomputable def p7:List Val->List UInt8
 | []=>[]
 | v::_=>[32,61,32]++txt v
noncomputable def bx (rec:Typ->List UInt8)(g:TFd):List UInt8:=
 aN g.number++(32::(g.name++((if g.need=2 then [63] else [])++(58::32::(rec g.typ++(if g.need=3 then p7 g.dflt else []))))))
noncomputable def Oi (rec:Typ->List UInt8)(t:Typ):List UInt8:=
 if t.kind=3 then aN t.scale++(44::32::ew (cl t.min t.scale.toNat) (cl t.max t.scale.toNat))
 else if t.kind=6 then ew (aA (gV t.min)) (aA (gV t.max))
 else if t.kind=7 then ew (aA (ct t.min)) (aA (ct t.max))
 else if t.kind=9\/t.kind=10 then aM [44,32] (t.fields.map (bx rec))
 else if t.kind=8 then ew (aN t.min) (aN t.max)++(44::32::rec (t.elem.headD bX))
 else if 0<t.words.length then aM [32,124,32] (t.words.map aA)
 else ew (aN t.min) (aN t.max)
noncomputable def aI:Nat->Typ->List UInt8
 | 0,_=>[]
 | n+1,t=>if t.kind=1 then aX 1 else aX t.kind++(40::(Oi (aI n) t++[41]))
theorem bp (rec:Typ->List UInt8)(k m M sc:Int)(w:List (List UInt8))(e:List Typ)(f:List TFd):Oi rec (.mk k m M sc w e f) =
  (if k=3 then aN sc++(44::32::ew (cl m sc.toNat) (cl M sc.toNat))
  else if k=6 then ew (aA (gV m)) (aA (gV M))
  else if k=7 then ew (aA (ct m)) (aA (ct M))
  else if k=9\/k=10 then aM [44,32] (f.map (bx rec))
  else if k=8 then ew (aN m) (aN M)++(44::32::rec (e.headD bX))
  else if 0<w.length then aM [32,124,32] (w.map aA)
  else ew (aN m) (aN M)):=rfl
theorem bA (n:Nat){k m M sc:Int}{w:List (List UInt8)}{e:List Typ}{f:List TFd}(h:¬ k=1):aI (n+1) (.mk k m M sc w e f)=aX k++(40::(Oi (aI n) (.mk k m M sc w e f)++[41])):=by
 rw[aI];exact if_neg h
theorem lm (rec:Typ->List UInt8)(num:Int)(nm:List UInt8)(need:Int)(typ:Typ)(dflt:List Val):bx rec ⟨num,nm,need,typ,dflt⟩ =
  aN num++(32::(nm++((if need=2 then [63] else [])++(58::32::(rec typ++(if need=3 then p7 dflt else [])))))):=rfl
def OQ (r:List UInt8):Prop:=(r.head?.any isD)=false/\¬ (r[0]? = some 46/\(r[1]?.any isD)=true)/\¬ r[0]? = some 100
theorem oJ {c:UInt8}{r:List UInt8}(h:c=44\/c=41\/c=32):OQ (c::r):=by
 rcases h with rfl | rfl | rfl<;>exact⟨rfl,by simp,by simp⟩
theorem jx (r:List UInt8):OQ (46::46::r):=⟨rfl,by simp[isD],by simp⟩
theorem J0 {n:Int}{sc:Nat}(h:IsN n sc):fK (cl n sc)=cl n sc:=by
 unfold fK;rw[if_neg (xL h)]
theorem xM {s r:List UInt8}{i:Nat}{n:Int}{sc:Nat}(hn:IsN n sc)(h:s.drop i=cl n sc++r)(hr:OQ r) :
  A s i=⟨s,i+(cl n sc).length,{ kind:=2,pos:=i,text:=cl n sc,num:=n,sc:=sc,dec:=decide (sc≠0),exa:=false },0,0⟩:=by
 have hp:=ob hn
 have hc:=J0 hn
 obtain⟨sg,N,F,e,hsg,⟨c0,N',hN,_⟩,hNa,hF0,hF1⟩:=m7 hn
 rw[e] at h hp hc ⊢
 by_cases h0:sc=0
 ·have hF:=hF0 h0
  subst hF
  have:=Lg (d:=false) (x:=false) (F:=[]) (r:=r) (by rw[h];simp) hsg hN hNa (.int hr.1 hr.2.1 hr.2.2) (by rw[hc];exact hp)
  rw[this,h0];rfl
 ·obtain⟨M,c,r',hFM,hM,hMa⟩:=hF1 h0
  subst hFM
  have:=Lg (d:=true) (x:=false) (F:=46::M) (r:=r) (by rw[h];simp) hsg hN hNa (.dot hM hMa hr.1) (by rw[hc];exact hp)
  rw[this,decide_eq_true h0]
theorem nS {s:List UInt8}{i j:Nat}{k:Int}{t:Tk}(h:A s i=⟨s,j,t,0,0⟩)(hk:t.kind=k):bV (A s i) k=(t,A s j):=by
 have h0:(A s i).e=0:=by rw[h]
 have hk':(A s i).now.kind=k:=by rw[h];exact hk
 rw[ku h0 hk',h,cP]
theorem xb {s r:List UInt8}{i:Nat}{n:Int}(hn:IsN n 0)(h:s.drop i=aN n++r)(hr:OQ r):cR (A s i)=(n,A s (i+(aN n).length)):=by
 rw[gT hn] at h ⊢
 have ht:=nS (k:=2) (xM hn h hr) rfl
 unfold cR
 rw[ht]
 simp only
 rw[if_neg (fun q=>by cases q.2)]
theorem LY {s r:List UInt8}{i:Nat}{n:Int}{sc:Nat}(hn:IsN n sc)(h:s.drop i=cl n sc++r)(hr:OQ r):oS (sc:Int) (A s i)=(n,A s (i+(cl n sc).length)):=by
 have ht:=nS (k:=2) (xM hn h hr) rfl
 unfold oS
 rw[ht]
 simp only
 rw[if_neg (fun q=>q.2.elim (fun q=>by cases q) (fun q=>q trivial))]
theorem jh {s r t:List UInt8}{i:Nat}{n:Int}{ps:List UInt8->Int×Int}(hv:Lib.validD t=true)(hp:ps t=(n,0))(h:s.drop i=aA t++r)(h0:(A s (i+(aA t).length)).e=0):aR (A s i) ps=(n,A s (i+(aA t).length)):=by
 have ht:=nS (k:=3) (Gv h hv) rfl
 unfold aR
 rw[ht]
 simp only
 rw[hp]
 simp only
 rw[if_pos h0,if_pos trivial]
theorem OS {s r:List UInt8}{j:Nat}(h:s.drop j=46::46::r):aw (A s j) [46,46]=A s (j+2):=by
 have hA:=Gw h
 have h0:(A s j).e=0:=by rw[hA]
 have hi:isT (A s j) [46,46]=true:=by rw[hA];exact uJ rfl rfl rfl
 unfold aw
 rw[if_pos h0,if_pos hi,hA,cP]
theorem vK {s r x y:List UInt8}{i:Nat}{m M:Int}{b:Rd->Int×Rd}(h:s.drop i=ew x y++r)
  (hx:∀ r,s.drop i=x++(46::46::r)->b (A s i)=(m,A s (i+x.length))) (hy:∀ j,s.drop j=y++r->b (A s j)=(M,A s (j+y.length))) :
  eI b (A s i)=((m,M),A s (i+(ew x y).length)):=by
 have h':s.drop i=x++(46::46::(y++r)):=by rw[h,ew];simp
 have h2:=aQ h'
 have h3:s.drop (i+x.length+2)=y++r:=(bt (bt h2).2).2
 unfold eI
 rw[hx _ h']
 simp only
 rw[OS h2,hy _ h3]
 simp only
 rw[show i+x.length+2+y.length=i+(ew x y).length by unfold ew;simp only[WF,WG,WL];omega]
theorem mH {k:Int}(hk:1<=k/\k<=10):bH (aX k)=k/\∃ c w',aX k=c::w'/\aY c=true/\(aX k).all db=true:=by
 have e:k=1\/k=2\/k=3\/k=4\/k=5\/k=6\/k=7\/k=8\/k=9\/k=10:=by omega
 rcases e with rfl | rfl | rfl | rfl | rfl | rfl | rfl | rfl | rfl | rfl<;>exact⟨by decide,_,_,rfl,by decide,by decide⟩
theorem Bz {s r:List UInt8}{i:Nat}{k:Int}(hk:1<=k/\k<=10)(h:s.drop i=aX k++r)(hr:(r.head?.any db)=false)(h34:r.head?≠some 34) :
  A s i=⟨s,i+(aX k).length,{ kind:=1,pos:=i,text:=aX k },0,0⟩:=by
 obtain⟨_,c,w',e1,e2,e3⟩:=mH hk
 exact sX h e1 e2 (f8 e1 e3 h34) e3 hr
theorem uN {s r X:List UInt8}{i n:Nat}{k:Int}{t:Typ}{val:Rd->Val×Rd}(hk:2<=k/\k<=10)(h:s.drop i=aX k++(40::(X++[41]))++r)
  (hb:∀ j,s.drop j=X++(41::r)->cm (cj val n) val k (A s j)=(t,A s (j+X.length))) :
  cj val (n+1) (A s i)=(t,A s (i+(aX k++(40::(X++[41]))).length)):=by
 have h':s.drop i=aX k++(40::(X++(41::r))):=by rw[h];simp
 have hA:=Bz (by omega) h' rfl (by simp)
 have h2:=aQ h'
 obtain⟨e1,_,_⟩:=aZ (c:=40) h2 (by decide)
 have h3:=(bt h2).2
 have hb':=hb _ h3
 obtain⟨e2,_,_⟩:=aZ (c:=41) (aQ h3) (by decide)
 have hkn:=(mH (k:=k) (by omega)).1
 have h0:(A s i).e=0:=by rw[hA]
 have h1:(A s i).now.kind=1:=by rw[hA]
 have ht:(A s i).now.text=aX k:=by rw[hA]
 have hadv:bi (A s i)=A s (i+(aX k).length):=by rw[hA];exact cP
 rw[D3 h0 h1 (by rw[ht,hkn];omega) (by rw[ht,hkn];omega),ht,hkn,hadv,e1,hb']
 simp only
 rw[e2]
 rw[show i+(aX k).length+1+X.length+1=i+(aX k++(40::(X++[41]))).length by simp only[WF,WG,WL];omega]
def Hw (r:List UInt8):Prop:=∀ c,r.head? = some c->c=44\/c=41\/c=32
theorem pb {c:UInt8}{r:List UInt8}(h:c=44\/c=41\/c=32):Hw (c::r):=fun d hd=>by
 simp only[List.head?_cons,Option.some.injEq] at hd
 rw[<- hd];exact h
theorem yO {r:List UInt8}(h:Hw r):(r.head?.any db)=false/\r.head?≠some 34:=by
 cases hr:r.head? with
 | none=>exact⟨rfl,by simp⟩
 | some c=>rcases h c hr with rfl | rfl | rfl<;>exact⟨by decide,by decide⟩
def Gt (rec:Typ->Prop)(g:TFd):Prop:=
 IsN g.number 0/\bz g.name=true/\rec g.typ/\((g.need=1/\g.dflt=[])\/(g.need=2/\g.dflt=[])\/(g.need=3/\∃ v,g.dflt=[v]/\∀ s,bJ s 8 0 v (txt v)))
def sR:Nat->Typ->Prop
 | 0,_=>False
 | n+1,.mk k m M s w e f=>
   (k=1/\m=0/\M=0/\s=0/\w=[]/\e=[]/\f=[]) \/
   ((k=2\/k=4\/k=5)/\IsN m 0/\IsN M 0/\s=0/\w=[]/\e=[]/\f=[]) \/
   (k=3/\0<=s/\IsN s 0/\IsN m s.toNat/\IsN M s.toNat/\w=[]/\e=[]/\f=[]) \/
   (k=4/\m=0/\M=0/\s=0/\w≠[]/\(∀ x∈w,Lib.validD x=true)/\e=[]/\f=[]) \/
   (k=6/\(-719162<=m/\m<=2932896)/\(-719162<=M/\M<=2932896)/\s=0/\w=[]/\e=[]/\f=[]) \/
   (k=7/\(-62135596800000<=m/\m<=253402300799999)/\(-62135596800000<=M/\M<=253402300799999)/\s=0/\w=[]/\e=[]/\f=[]) \/
   (k=8/\IsN m 0/\IsN M 0/\s=0/\w=[]/\(∃ x,e=[x]/\sR n x)/\f=[]) \/
   ((k=9\/k=10)/\m=0/\M=0/\s=0/\w=[]/\e=[]/\∀ g∈f,Gt (sR n) g)
def yh (s:List UInt8)(n:Nat)(t:Typ)(X:List UInt8):Prop:=
 ∀ i r,s.drop i=X++r->Hw r->cj (aS srt 8 0) n (A s i)=(t,A s (i+X.length))
theorem Ej {s r:List UInt8}{i:Nat}{m M:Int}(hm:IsN m 0)(hM:IsN M 0)(hr:OQ r)(h:s.drop i=ew (aN m) (aN M)++r):eI cR (A s i)=((m,M),A s (i+(ew (aN m) (aN M)).length)):=
 vK h (fun r h=>xb hm h (jx r)) (fun j h=>xb hM h hr)
theorem wX {s r:List UInt8}{i:Nat}{n:Int}(h:IsN n 0)(hr:OQ r)(hs:s.drop i=aN n++r):(A s i).now.kind=2:=by
 rw[gT h] at hs
 rw[xM h hs hr]
theorem vA {s:List UInt8}:∀ (L acc:List (List UInt8)) (j k:Nat) (r:List UInt8),(∀ x∈L,Lib.validD x=true)->L.length<k ->
  s.drop j=(L.flatMap fun x=>[32,124,32]++aA x)++41::r->kY k false acc (A s j)=(acc++L,A s (j+(L.flatMap fun x=>[32,124,32]++aA x).length))
 | [],acc,j,k,r,_,hk,h=>by
   obtain⟨k,rfl⟩:∃ m,k=m+1:=⟨k - 1,by simp only[WL] at hk;omega⟩
   obtain⟨_,e2,e3⟩:=aZ (c:=41) h (by decide)
   rw[Bw e2 (e3 _ (by decide))]
   simp
 | x::L,acc,j,k,r,hv,hk,h=>by
   obtain⟨k,rfl⟩:∃ m,k=m+1:=⟨k - 1,by omega⟩
   have h':s.drop j=32::124::32::(aA x++((L.flatMap fun x=>[32,124,32]++aA x)++41::r)):=by rw[h];simp
   obtain⟨b1,b2⟩:=bt h'
   have hb:=nv b1 (by decide)
   obtain⟨e1,e2,_⟩:=aZ (c:=124) b2 (by decide)
   obtain⟨e4,e5⟩:=dL b2
   have hi:=jl (c:=124) b2 (by decide)
   have hadv:bi (A s (j+1))=A s (j+1+1):=by rw[nu b2 (by decide)];exact cP
   have hs:=Gv e5 (hv x (by simp))
   have ht:=nS (k:=3) hs rfl
   rw[hb,Bx e2 hi,hadv,show j+1+1=j+2 from rfl] at *
   rw[show A s (j+2)=A s (j+1+2) from e4,ht]
   simp only
   rw[vA L (acc++[x]) (j+1+2+(aA x).length) k r (fun y hy=>hv y (Xj _ hy)) (by simp only[WG] at hk;omega) (aQ e5)]
   rw[WS,Xc,Xf,WF,WF]
   simp only[WG,WL]
   rw[show j+1+2+(aA x).length+(L.flatMap fun x=>[32,124,32]++aA x).length=j+(0+1+1+1+(aA x).length+(L.flatMap fun x=>[32,124,32]++aA x).length) by omega]
theorem w9 (x:List UInt8):∀ L:List (List UInt8),aM [32,124,32] ((x::L).map aA)=aA x++L.flatMap fun y=>[32,124,32]++aA y
 | []=>by simp[aM]
 | y::L=>by
   have ih:=w9 y L
   rw[WP,WP,aM,Xf,<- WP,ih]
   simp
theorem Gk {s r:List UInt8}{j:Nat}{c:UInt8}(h:s.drop j=c::r)(hc:vP c=true):bE (A s j) [c]=(true,A s (j+1)):=by
 unfold bE
 rw[if_pos (jl h hc),nu h hc,cP]
theorem Mb {R:Rd}{t:List UInt8}(h:isT R t=false):bE R t=(false,R):=by
 unfold bE;rw[if_neg (by rw[h];decide)]
theorem A_s (s:List UInt8)(j:Nat):(A s j).s=s:=Pn _
theorem IX {s r:List UInt8}{i:Nat}{w:List UInt8}(hw:bz w=true)(h:s.drop i=w++r)(hr:(r.head?.any db)=false)(h34:r.head?≠some 34):fX (A s i)=(w,A s (i+w.length)):=by
 obtain⟨c,w',e1,e2,e3⟩:=jg hw
 have ht:=nS (k:=1) (sX h e1 e2 (f8 e1 e3 h34) e3 hr) rfl
 unfold fX
 rw[ht]
 simp only
 rw[if_neg (fun q=>by rw[hw] at q;exact absurd q.2 (by decide))]
theorem LD {s:List UInt8}{n:Nat}{g:TFd}(hg:Gt (sR n) g)(hk:yh s n g.typ (aI n g.typ)){i:Nat}{r:List UInt8}(h:s.drop i=bx (aI n) g++r)(hr:∃ c q,r=c::q/\(c=44\/c=41)) :
  pU (cj (aS srt 8 0) n) (aS srt 8 0) (A s i)=(g,A s (i+(bx (aI n) g).length)):=by
 obtain⟨num,nm,need,typ,dflt⟩:=g
 obtain⟨hn,hnm,_,hnd⟩:=hg
 simp only[TFd.number,TFd.name,TFd.typ,TFd.need,TFd.dflt] at hn hnm hnd hk
 obtain⟨c,q,rfl,hc⟩:=hr
 have hsym:vP c=true:=by rcases hc with rfl | rfl<;>rfl
 rw[lm] at h ⊢
 generalize aI n typ=T at *
 obtain⟨O,hO⟩:∃ O,O=(if need=2 then ([63]:List UInt8) else []):=⟨_,rfl⟩
 obtain⟨D,hD⟩:∃ D,D=(if need=3 then p7 dflt else []):=⟨_,rfl⟩
 rw[<- hO,<- hD] at h ⊢
 have h0:s.drop i=aN num++(32::(nm++(O++(58::32::(T++(D++c::q)))))):=by rw[h];simp
 have e1:=xb hn h0 (oJ (.inr (.inr rfl)))
 have h1:=aQ h0
 obtain⟨b1,h2⟩:=bt h1
 have e2:=nv b1 (by decide)
 have hOh:((O++(58::32::(T++(D++c::q)))).head?.any db)=false/\(O++(58::32::(T++(D++c::q)))).head?≠some 34:=by
  rw[hO];split<;>exact⟨rfl,by simp⟩
 have e3:=IX hnm h2 hOh.1 hOh.2
 have h3:=aQ h2
 have hB:uP (A s i)=(nm,A s (i+(aN num).length+1+nm.length)):=by unfold uP;rw[e1];simp only;rw[e2];exact e3
 have hC:sh (A s i)=(decide (need=2),A s (i+(aN num).length+1+nm.length+O.length)):=by
  unfold sh
  rw[hB]
  simp only
  by_cases h2':need=2
  ·rw[if_pos h2'] at hO
   rw[hO] at h3 ⊢
   rw[Gk (c:=63) h3 (by decide),decide_eq_true h2'];rfl
  ·rw[if_neg h2'] at hO
   rw[hO] at h3 ⊢
   rw[Mb ((aZ (c:=58) h3 (by decide)).2.2 _ (by decide)),decide_eq_false h2'];rfl
 have h4:=aQ h3
 obtain⟨e4,_,_⟩:=aZ (c:=58) h4 (by decide)
 obtain⟨e5,h5⟩:=dL h4
 obtain⟨j,hj⟩:∃ j,j=i+(aN num).length+1+nm.length+O.length:=⟨_,rfl⟩
 rw[<- hj] at h4 e4 e5 h5 hC
 have hDs:Hw (D++c::q):=by
  rw[hD]
  split
  ·cases dflt with
   | nil=>exact pb (hc.elim .inl (fun h=>.inr (.inl h)))
   | cons v l=>exact pb (.inr (.inr rfl))
  ·exact pb (hc.elim .inl (fun h=>.inr (.inl h)))
 have e6:=hk (j+2) _ h5 hDs
 have h6:=aQ h5
 have hK:jp (cj (aS srt 8 0) n) (A s i)=(typ,A s (j+2+T.length)):=by unfold jp;rw[hC];simp only;rw[e4,e5];exact e6
 by_cases h3':need=3
 ·have hd:∃ v,dflt=[v]/\∀ s,bJ s 8 0 v (txt v):=by
   rcases hnd with ⟨q,_⟩ | ⟨q,_⟩ | ⟨_,q⟩
   ·omega
   ·omega
   ·exact q
  obtain⟨v,rfl,hv⟩:=hd
  have hD':D=32::61::32::txt v:=by rw[hD,if_pos h3'];rfl
  rw[hD'] at h6
  have h6':s.drop (j+2+T.length)=32::61::32::(txt v++c::q):=h6
  obtain⟨c1,h7⟩:=bt h6'
  have e7:=nv c1 (by decide)
  obtain⟨e8,h8⟩:=dL h7
  have hstop:nC (c::q):=fun d hd=>by
   simp only[List.head?_cons,Option.some.injEq] at hd
   rcases hc with h | h
   ·exact .inl (by rw[<- hd,h])
   ·exact .inr (.inr (.inr (by rw[<- hd,h])))
  obtain⟨e9,_,_⟩:=hv s _ _ h8 hstop
  have hE:At (cj (aS srt 8 0) n) (A s i)=A s (j+2+T.length):=by
   unfold At
   rw[hC,hK,if_neg (fun q=>by rw[decide_eq_false (by omega)] at q;exact absurd q.2 (by simp))]
  have hQ:ny (cj (aS srt 8 0) n) (A s i)=(true,A s (j+2+T.length+1+2)):=by
   unfold ny
   rw[hE,e7,Gk h7 (by decide),e8]
  unfold pU
  rw[hQ,if_pos rfl,hK,hB,e1]
  simp only
  rw[e9,h3']
  congr 2
  rw[hD',hj]
  simp only[WF,WG]
  exact congrArg (A s) (by omega)
 ·have hd:dflt=[]/\(need=1\/need=2):=by
   rcases hnd with ⟨q,q'⟩ | ⟨q,q'⟩ | ⟨q,_⟩
   ·exact⟨q',.inl q⟩
   ·exact⟨q',.inr q⟩
   ·exact absurd q h3'
  obtain⟨rfl,hn12⟩:=hd
  have hD':D=[]:=by rw[hD,if_neg h3']
  rw[hD'] at h6
  have h6':s.drop (j+2+T.length)=c::q:=h6
  have hi:isT (A s (j+2+T.length)) [61]=false:=(aZ h6' hsym).2.2 _ (by rcases hc with rfl | rfl<;>decide)
  have hE:At (cj (aS srt 8 0) n) (A s i)=A s (j+2+T.length):=by
   unfold At
   rw[hK,if_neg (fun q=>by rw[hi] at q;exact absurd q.1 (by decide))]
  have hQ:ny (cj (aS srt 8 0) n) (A s i)=(false,A s (j+2+T.length)):=by
   unfold ny
   rw[hE,Mb hi]
  unfold pU
  rw[hQ,if_neg (by simp),hK,hB,e1,hC]
  simp only
  have hneed:(if decide (need=2)=true then (2:Int) else 1)=need:=by
   rcases hn12 with h | h
   ·rw[h];rfl
   ·rw[h];rfl
  rw[hneed]
  congr 2
  rw[hD',hj]
  simp only[WF,WG,WL]
  omega
theorem EQ {s:List UInt8}{n:Nat}:∀ (L acc:List TFd) (j k:Nat) (r:List UInt8),(∀ g∈L,Gt (sR n) g/\yh s n g.typ (aI n g.typ))->0<acc.length->L.length<k ->
  s.drop j=(L.flatMap fun g=>[44,32]++bx (aI n) g)++41::r->kB (pU (cj (aS srt 8 0) n) (aS srt 8 0)) k false acc (A s j)=(acc++L,A s (j+(L.flatMap fun g=>[44,32]++bx (aI n) g).length))
 | [],acc,j,k,r,_,ha,hk,h=>by
   obtain⟨k,rfl⟩:∃ m,k=m+1:=⟨k - 1,by simp only[WL] at hk;omega⟩
   obtain⟨_,e2,e3⟩:=aZ (c:=41) h (by decide)
   rw[EN e2 ha (e3 _ (by decide))]
   simp
 | g::L,acc,j,k,r,hg,ha,hk,h=>by
   obtain⟨k,rfl⟩:∃ m,k=m+1:=⟨k - 1,by omega⟩
   have h':s.drop j=44::32::(bx (aI n) g++((L.flatMap fun g=>[44,32]++bx (aI n) g)++41::r)):=by rw[h];simp
   obtain⟨_,e2,_⟩:=aZ (c:=44) h' (by decide)
   obtain⟨e4,e5⟩:=dL h'
   have hi:=jl (c:=44) h' (by decide)
   have hadv:bi (A s j)=A s (j+1):=by rw[nu h' (by decide)];exact cP
   have hg0:=hg g (by simp)
   have e6:=LD hg0.1 hg0.2 e5 (by
    cases L with
    | nil=>exact⟨41,r,rfl,.inr rfl⟩
    | cons x L=>exact⟨44,_,rfl,.inl rfl⟩)
   rw[EO e2 ha hi,hadv,e4,e6]
   simp only
   rw[EQ L (acc++[g]) (j+2+(bx (aI n) g).length) k r (fun y hy=>hg y (Xj _ hy)) (by simp) (by simp only[WG] at hk;omega) (aQ e5)]
   rw[WS,Xc,Xf,WF,WF]
   simp only[WG,WL]
   rw[show j+2+(bx (aI n) g).length+(L.flatMap fun g=>[44,32]++bx (aI n) g).length=j+(0+1+1+(bx (aI n) g).length+(L.flatMap fun g=>[44,32]++bx (aI n) g).length) by omega]
theorem xE {α:Type}(c:List UInt8)(hc:1<=c.length)(g:α->List UInt8)(L:List α):L.length<=(L.flatMap fun x=>c++g x).length:=by
 induction L with
 | nil=>simp
 | cons x L ih=>rw[Xf,WF,WF,WG];omega
theorem xK {s X r:List UInt8}{j:Nat}(h:s.drop j=X++r):X.length<=s.length:=by
 have:=congrArg List.length h
 rw[List.length_drop,WF] at this
 omega
theorem F1 {s r:List UInt8}{n j:Nat}{k m M:Int}{val:Rd->Val×Rd}(hk:k=2\/k=4\/k=5)(hm:IsN m 0)(hM:IsN M 0)(h:s.drop j=ew (aN m) (aN M)++41::r) :
  cm (cj val n) val k (A s j)=(.mk k m M 0 [] [] [],A s (j+(ew (aN m) (aN M)).length)):=by
 have h2:=Ej hm hM (oJ (.inr (.inl rfl))) h
 have hkd:(A s j).now.kind=2:=wX hm (jx ((aN M)++41::r)) (by rw[h,ew];simp)
 unfold cm
 rw[if_neg (by omega),if_neg (by omega),if_neg (by omega),if_neg (by omega),if_neg (fun q=>by rw[hkd] at q;exact absurd q.2.2 (by decide)),h2]
 simp only
 rw[if_neg (by omega)]
theorem pm (s:List UInt8):∀ (n:Nat) (t:Typ),sR n t->yh s n t (aI n t)
 | 0,_,h=>h.elim
 | n+1,.mk k m M sc w e f,h=>fun i r hi hr=>by
   unfold sR at h
   rcases h with ⟨rfl,rfl,rfl,rfl,rfl,rfl,rfl⟩ | ⟨hk,hm,hM,rfl,rfl,rfl,rfl⟩ | ⟨rfl,hs0,hs,hm,hM,rfl,rfl,rfl⟩ | ⟨rfl,rfl,rfl,rfl,hw,hv,rfl,rfl⟩ | ⟨rfl,hm,hM,rfl,rfl,rfl,rfl⟩ | ⟨rfl,hm,hM,rfl,rfl,rfl,rfl⟩ | ⟨rfl,hm,hM,rfl,rfl,⟨x,rfl,hx⟩,rfl⟩ | ⟨hk,rfl,rfl,rfl,rfl,rfl,hf⟩
   ·rw[show aI (n+1) (.mk 1 0 0 0 [] [] [])=aX 1 from if_pos rfl] at hi ⊢
    have hw:=yO hr
    have hA:=Bz (k:=1) (by omega) hi hw.1 hw.2
    have h0:(A s i).e=0:=by rw[hA]
    have h1:(A s i).now.kind=1:=by rw[hA]
    have ht:(A s i).now.text=aX 1:=by rw[hA]
    rw[pF h0 h1 (by rw[ht];exact (mH (by omega)).1),hA,cP]
   ·have e:aI (n+1) (.mk k m M 0 [] [] [])=aX k++(40::(ew (aN m) (aN M)++[41])):=by
     rw[bA _ (by omega),bp]
     rw[if_neg (by omega),if_neg (by omega),if_neg (by omega),if_neg (by omega),if_neg (by omega),if_neg (by simp)]
    rw[e] at hi ⊢
    exact uN (by omega) hi fun j hj=>F1 hk hm hM hj
   ·obtain⟨d,rfl⟩:∃ d:Nat,sc=d:=⟨sc.toNat,by omega⟩
    rw[Int.toNat_natCast] at hm hM
    have e:aI (n+1) (.mk 3 m M d [] [] [])=aX 3++(40::((aN d++(44::32::ew (cl m d) (cl M d)))++[41])):=by
     rw[bA _ (by omega),bp]
     rw[if_pos rfl,Int.toNat_natCast]
    rw[e] at hi ⊢
    refine uN (by omega) hi fun j hj=>?_
    have h':s.drop j=aN d++(44::32::(ew (cl m d) (cl M d)++41::r)):=by rw[hj];simp
    have e1:=xb hs h' (oJ (.inl rfl))
    have h2:=aQ h'
    obtain⟨e2,_,_⟩:=aZ (c:=44) h2 (by decide)
    obtain⟨e3,h3⟩:=dL h2
    have e4:=vK (b:=oS (d:Int)) h3 (fun r h=>LY hm h (jx r)) (fun j h=>LY hM h (oJ (.inr (.inl rfl))))
    unfold cm
    rw[if_pos rfl,e1]
    simp only
    rw[e2,e3,e4]
    simp only
    congr 2
    simp only[WF,WG]
    omega
   ·cases w with
    | nil=>exact absurd rfl hw
    | cons x w=>
      have e:aI (n+1) (.mk 4 0 0 0 (x::w) [] [])=aX 4++(40::((aA x++w.flatMap fun y=>[32,124,32]++aA y)++[41])):=by
       rw[bA _ (by omega),bp]
       rw[if_neg (by omega),if_neg (by omega),if_neg (by omega),if_neg (by omega),if_neg (by omega),if_pos (by simp),w9]
      rw[e] at hi ⊢
      refine uN (by omega) hi fun j hj=>?_
      have h':s.drop j=aA x++((w.flatMap fun y=>[32,124,32]++aA y)++41::r):=by rw[hj];simp
      have hA:=Gv h' (hv x (by simp))
      have h0:(A s j).e=0:=by rw[hA]
      have h3:(A s j).now.kind=3:=by rw[hA]
      have hl:w.length<s.length+2:=by
       have:=xE [32,124,32] (by simp) aA w
       have:=xK (X:=aA x++(w.flatMap fun y=>[32,124,32]++aA y)) (r:=41::r) (j:=j) (by rw[h'];simp)
       rw[WF] at this
       omega
      have e5:=vA w [x] (j+(aA x).length) (s.length+2) r (fun y hy=>hv y (by simp[hy])) hl (aQ h')
      unfold cm
      rw[if_neg (by omega),if_neg (by omega),if_neg (by omega),if_neg (by omega),if_pos ⟨rfl,h0,h3⟩,A_s]
      simp only
      rw[By h0,nS (k:=3) hA rfl]
      simp only[WO]
      rw[e5]
      simp only[Xc,WF]
      congr 2
      omega
   ·have e:aI (n+1) (.mk 6 m M 0 [] [] [])=aX 6++(40::(ew (aA (gV m)) (aA (gV M))++[41])):=by
     rw[bA _ (by omega),bp]
     rw[if_neg (by omega),if_pos rfl]
    rw[e] at hi ⊢
    refine uN (by omega) hi fun j hj=>?_
    have e1:=m8 hm
    have e2:=m8 hM
    have e4:=vK (b:=fun R=>aR R bU) hj (fun q h=>jh e1.1 e1.2 h (by rw[Gw (aQ h)])) (fun j h=>jh e2.1 e2.2 h (by rw[nu (c:=41) (aQ h) (by decide)]))
    unfold cm
    rw[if_neg (by omega),if_pos rfl,e4]
   ·have e:aI (n+1) (.mk 7 m M 0 [] [] [])=aX 7++(40::(ew (aA (ct m)) (aA (ct M))++[41])):=by
     rw[bA _ (by omega),bp]
     rw[if_neg (by omega),if_neg (by omega),if_pos rfl]
    rw[e] at hi ⊢
    refine uN (by omega) hi fun j hj=>?_
    have e1:=jI hm
    have e2:=jI hM
    have e4:=vK (b:=fun R=>aR R bG) hj (fun q h=>jh e1.1 e1.2 h (by rw[Gw (aQ h)])) (fun j h=>jh e2.1 e2.2 h (by rw[nu (c:=41) (aQ h) (by decide)]))
    unfold cm
    rw[if_neg (by omega),if_neg (by omega),if_pos rfl,e4]
   ·have e:aI (n+1) (.mk 8 m M 0 [] [x] [])=aX 8++(40::((ew (aN m) (aN M)++(44::32::aI n x))++[41])):=by
     rw[bA _ (by omega),bp]
     rw[if_neg (by omega),if_neg (by omega),if_neg (by omega),if_neg (by omega),if_pos rfl]
     rfl
    rw[e] at hi ⊢
    refine uN (by omega) hi fun j hj=>?_
    have h':s.drop j=ew (aN m) (aN M)++(44::32::(aI n x++41::r)):=by rw[hj];simp
    have hkd:(A s j).now.kind=2:=wX hm (jx (aN M++(44::32::(aI n x++41::r)))) (by rw[h',ew];simp)
    have e1:=Ej hm hM (oJ (.inl rfl)) h'
    have h2:=aQ h'
    obtain⟨e2,_,_⟩:=aZ (c:=44) h2 (by decide)
    obtain⟨e3,h3⟩:=dL h2
    have e5:=pm s n x hx _ _ h3 (pb (.inr (.inl rfl)))
    unfold cm
    rw[if_neg (by omega),if_neg (by omega),if_neg (by omega),if_neg (by omega),if_neg (fun q=>by rw[hkd] at q;exact absurd q.2.2 (by decide)),e1]
    simp only
    rw[if_pos trivial,e2,e3,e5]
    simp only
    congr 2
    simp only[WF,WG]
    omega
   ·have hrd:∀ g∈f,Gt (sR n) g/\yh s n g.typ (aI n g.typ):=fun g hg=>⟨hf g hg,pm s n g.typ (hf g hg).2.2.1⟩
    have e:aI (n+1) (.mk k 0 0 0 [] [] f)=aX k++(40::(aM [44,32] (f.map (bx (aI n)))++[41])):=by
     rw[bA _ (by omega),bp]
     rw[if_neg (by omega),if_neg (by omega),if_neg (by omega),if_pos hk]
    rw[e] at hi ⊢
    refine uN (by omega) hi fun j hj=>?_
    unfold cm
    rw[if_neg (by omega),if_neg (by omega),if_neg (by omega),if_pos hk,A_s]
    simp only
    cases f with
    | nil=>
      have hj':s.drop j=41::r:=by rw[hj];simp[aM]
      rw[jl (c:=41) hj' (by decide)]
      rw[show (!true)=false from rfl,EM (by simp)]
      simp[aM]
    | cons g L=>
      rw[eU (bx (aI n)) g L] at hj ⊢
      have h':s.drop j=bx (aI n) g++((L.flatMap fun g=>[44,32]++bx (aI n) g)++41::r):=by rw[hj];simp
      have hg0:=hrd g (by simp)
      have e6:=LD hg0.1 hg0.2 h' (by
       cases L with
       | nil=>exact⟨41,r,rfl,.inr rfl⟩
       | cons x L=>exact⟨44,_,rfl,.inl rfl⟩)
      have hkd:(A s j).now.kind=2/\(A s j).e=0:=by
       have h2:s.drop j=aN g.number++(32::(g.name++((if g.need=2 then [63] else [])++(58::32::(aI n g.typ++(if g.need=3 then p7 g.dflt else [])))))++((L.flatMap fun g=>[44,32]++bx (aI n) g)++41::r)):=by rw[h',bx];simp
       have hN:=hg0.1.1
       have hE:=oJ (c:=32) (r:=(g.name++((if g.need=2 then [63] else [])++(58::32::(aI n g.typ++(if g.need=3 then p7 g.dflt else [])))))++((L.flatMap fun g=>[44,32]++bx (aI n) g)++41::r)) (.inr (.inr rfl))
       rw[gT hN] at h2
       rw[xM hN h2 hE]
       exact⟨rfl,rfl⟩
      have hi41:isT (A s j) [41]=false:=gz ⟨by rw[hkd.1];decide,by rw[hkd.1];decide⟩
      rw[hi41,show (!false)=true from rfl,EP hkd.2,e6]
      simp only[WO]
      have hl:L.length<s.length+2:=by
       have:=xE [44,32] (by simp) (bx (aI n)) L
       have:=xK (X:=bx (aI n) g++(L.flatMap fun g=>[44,32]++bx (aI n) g)) (r:=41::r) (j:=j) (by rw[h'];simp)
       rw[WF] at this
       omega
      rw[EQ L [g] (j+(bx (aI n) g).length) (s.length+2) r (fun y hy=>hrd y (by simp[hy])) (by simp) hl (aQ h')]
      simp only[Xc,WF]
      congr 2
      omega
inductive TokL (s:List UInt8):Nat->List (List UInt8)->Prop
 | nil {i:Nat}:(A s i).e=0->(A s i).now.kind=0->TokL s i []
 | cons {i:Nat} {l:List (List UInt8)}:(A s i).e=0->(A s i).now.kind≠0->TokL s (A s i).next l->TokL s i ((A s i).now.text::l)
theorem HB {s:List UInt8}(h:s.length<=65536):cL s=A s 0:=by
 rw[lR (by omega)];rfl
theorem MK (n:Nat)(v:Val)(hd:ia n v)(hv:v.ok)(hs:(bF n 1 v).length<=9223372036854775806):am Tryz.prog aC 200 [v.pv] (.int .i64 ((bF n 1 v).length:Int)):=by
 have hseq:=kx n v hd hv
 have h243:=ml v
 generalize hxs:bF n 1 v=xs at *
 obtain⟨k,a,s,t,l,fs⟩:=v
 simp only[WD] at h243 hseq
 refine am.intro Vi.2 (by simp[Vi]) ?_
 simp(disch:=try exact dI) only[Vi,WD,push_cast,seval]
 refine ae.pure h243 rfl ?_
 refine zgZ ?_
 refine KL ([]) (fun i:Nat=>[]) (fun i:Nat=>[(0,.cells 3 true [.pv (.int .i64 (i:Int))])]) (fun j i=>j=i/\i<=xs.length) (0) (hseq) ?_;intro e0 σ0 n0 h0;simp(disch:=try exact dI) only[push_cast,seval] at h0;obtain⟨rfl,rfl,rfl⟩:=h0;refine⟨?_,?_,?_,?_,?_⟩
 ·exact qsZ
 ·exact⟨rfl,by omega⟩
 ·rfl
 ·rintro j i y hy ⟨hij,hi⟩
  subst hij
  have hjl:j<xs.length:=by
   have:=(List.getElem?_eq_some_iff.1 hy).1
   simpa using this
  obtain⟨q,hq⟩:∃ q,xs[j]? = some q:=⟨_,WE hjl⟩
  have hye:y=Bh q:=by simpa[hq] using hy.symm
  subst hye
  obtain⟨lv,⟨k',n',s',t',l',f'⟩⟩:=q
  refine⟨rfl,?_⟩
  simp only[Bh,WD]
  clear hy h243 hseq
  refine zgZ ?_
  exact⟨j+1,bl qsZ,rfl,by omega⟩
 ·rintro j ⟨hj,hi⟩
  simp only[List.length_map] at hj
  subst hj
  exact qsZ

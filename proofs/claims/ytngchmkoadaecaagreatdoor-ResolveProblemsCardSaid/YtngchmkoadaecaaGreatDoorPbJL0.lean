/- A part. -/
import Derived.Test.YtngchmkoadaecaaGreatDoorPbJW2
import Derived.Test.YtngchmkoadaecaaGreatDoorPbJ4
set_option linter.unusedVariables false
set_option linter.unusedSimpArgs false
set_option maxRecDepth 100000
open List renaming cons_append->XA,append_assoc->W7,length_cons->Xa,append_nil->Xc,length_append->W0,nil_append->Xl,flatMap_cons->X4,mem_append->Xx
open Nat renaming le_refl->Xi,le_trans->Xu,mul_le_mul_right->W8
namespace Go.Proofs.YtngchmkoadaecaaGreatDoor
open Go Go.Ab
def aG (r:List UInt8)(pl:List Int)(is:Bool)(c:Int)(nm:List UInt8):List Prb:=if is=true then [.mk c r pl nm] else []
theorem oF (r:List UInt8)(pl:List Int)(c:Int)(nm:List UInt8):aG r pl true c nm=[.mk c r pl nm]:=_root_.id rfl
theorem uh (r:List UInt8)(pl:List Int)(c:Int)(nm:List UInt8):aG r pl false c nm=[]:=_root_.id rfl
theorem am (r:List UInt8)(pl:List Int)(b:Bool)(c:Int)(nm:List UInt8):(aG r pl b c nm).length<=1:=by cases b<;>simp[aG]
abbrev NS:=List (List UInt8)
def ixO {α:Type}(F:NS->α->Nat->List Prb×NS):NS->Nat->List α->List Prb×NS
 | N,_,[]=>([],N)
 | N,i,x::r=>((F N x i).1++(ixO F (F N x i).2 (i+1) r).1,(ixO F (F N x i).2 (i+1) r).2)
theorem cu {α:Type}(F:NS->α->Nat->List Prb×NS)(N:NS)(i:Nat):ixO F N i []=([],N):=_root_.id rfl
theorem Dv {α:Type}(F:NS->α->Nat->List Prb×NS):∀ (a b:List α) (N:NS) (i:Nat),
  ixO F N i (a++b)=((ixO F N i a).1++(ixO F (ixO F N i a).2 (i+a.length) b).1,(ixO F (ixO F N i a).2 (i+a.length) b).2)
 | [],b,N,i=>by simp[ixO]
 | x::a,b,N,i=>by
   rw[XA,ixO,Dv F a b,ixO]
   simp only[W7,Xa,show i+1+a.length=i+(a.length+1) by omega]
theorem bK {α:Type}(F:NS->α->Nat->List Prb×NS)(N:NS){l:List α}{m:Nat}{x:α}(h:l[m]? = some x) :
  ixO F N 0 (l.take (m+1))=((ixO F N 0 (l.take m)).1++(F (ixO F N 0 (l.take m)).2 x m).1,(F (ixO F N 0 (l.take m)).2 x m).2):=by
 have hm:m<l.length:=(List.getElem?_eq_some_iff.1 h).1
 have hl:(l.take m).length=m:=by rw[List.length_take];omega
 rw[aE h,Dv]
 simp only[ixO,hl,Nat.zero_add,Xc]
theorem cH {α:Type}(F:NS->α->Nat->List Prb×NS)(c:Nat):∀ (l:List α) (N:NS) (i:Nat),(∀ x∈l,∀ N i,(F N x i).1.length<=c)->(ixO F N i l).1.length<=l.length*c
 | [],N,i,h=>by simp[ixO]
 | x::r,N,i,h=>by
   have h1:=h x (by simp) N i
   have h2:=cH F c r (F N x i).2 (i+1) (fun y hy=>h y (by simp[hy]))
   simp only[ixO,W0,Xa,Nat.succ_mul]
   omega
def inR (n lo hi:Int):Bool:=decide (lo<=n)&&decide (n<=hi)
def cf (s:List UInt8):Bool:=inR s.length 1 64&&Lib.validD s
def bF (s:Stp):Bool:=inR s.time 0 17592186044416&&inR s.limit 1 256
def aP (n h x c e m k b:Bool)(s:Stp):Bool:=
 (n||decide (s.number=0))&&((h||decide (s.time=0))&&((h||decide (s.limit=0))&&((x||decide (s.text=[]))&&((c||decide (s.schema=[])) &&
 ((e||s.exprs.isEmpty)&&((m||s.mapping.isEmpty)&&((k||s.calls.isEmpty)&&(b||s.branches.isEmpty))))))))
def fQ (c:Nat)(l:List Bra):Bool:=(l.zipIdx.all fun q=>decide (q.1.when.length=c)||(decide (q.2+1=l.length)&&q.1.when.isEmpty))&&inR l.length 1 64
def aQ (s:Stp):Bool:=
 if s.kind=1 then decide (s.exprs.length=1)&&cf s.text&&aP false false true false true false false false s
 else if s.kind=2 then !decide (s.schema=[])&&aP false false false true false true false false s
 else if s.kind=3 then !decide (s.text=[])&&!decide (s.schema=[])&&aP false false true true false true false false s
 else if s.kind=4 then inR s.exprs.length 1 2&&inR s.number 0 256&&!decide (s.schema=[])&&bF s&&aP true true false true true true false false s
 else if s.kind=5 then decide (s.exprs.length=2)&&bF s&&aP false true false false true false false false s
 else if s.kind=6 then decide (s.exprs.length=1)&&inR s.number 1 256&&aP true false false false true false false false s
 else if s.kind=7 then inR s.number 1 256&&decide (1<=s.time)&&bF s&&aP true true false false false false false false s
 else if s.kind=8 then decide (1<=s.time)&&bF s&&aP false true false false false false false false s
 else if s.kind=9 then inR s.calls.length 1 1&&!decide (s.schema=[])&&bF s&&aP false true false true false true true false s
 else if s.kind=10 then inR s.calls.length 1 16&&!decide (s.schema=[])&&bF s&&aP false true false true false true true false s
 else if s.kind=11 then fQ 1 s.branches&&aP false false false false false false false true s
 else if s.kind=12 then fQ 0 s.branches&&aP false false false false false false false true s
 else if s.kind=13 then !decide (s.text=[])&&aP false false true false false false false false s
 else if s.kind=14 then cf s.text&&aP false false true false false false false false s
 else false
def epO (p:Prg)(nm:List UInt8):Option Enp:=p.endpoints.find? fun x=>decide (x.name=nm)
def dH (p:Prg)(nm:List UInt8):Bool:=(epO p nm).isSome
def lx (p:Prg)(nm:List UInt8)(k:Int):Bool:=match epO p nm with
 | some x=>decide (x.kind=k)
 | none=>false
def svO (p:Prg)(nm:List UInt8):Option Svc:=p.services.find? fun x=>decide (x.name=nm)
def bW (p:Prg)(nm:List UInt8):Bool:=(svO p nm).isSome
def fY (p:Prg)(nm:List UInt8):Bool:=match svO p nm with
 | some x=>!x.undo
 | none=>false
def bw (p:Prg)(nm:List UInt8):Bool:=(ec p.schemas nm p.schemas.length).isSome
def ib (p:Prg)(nm:List UInt8)(v:Int):Bool:=(p.schemas.findIdx? (vsn nm v)).isSome
def nmW (route:Int)(pl:List Int)(s:Stp):List UInt8:=if s.name=[] then jn route pl else s.name
section
variable (isN:List UInt8->Bool)(chk:Sch->Bool)
def zY (p:Prg)(rn:List UInt8)(pl:List Int)(kind:Int)(n:Nat)(c:Cal)(k:Nat):List Prb:=
 aG rn pl (!bW p c.service) 3 c.service++aG rn pl (decide (kind=10)&&decide (k+1<n)&&fY p c.service) 12 c.service
def toO (p:Prg)(rn:List UInt8)(pl:List Int)(k:Int)(t:List UInt8):List Prb:=if k=13 then aG rn pl (!dH p t) 3 t++aG rn pl (lx p t 1) 4 t else []
def Pw (p:Prg)(rn:List UInt8)(pl:List Int)(k:Int)(t g:List UInt8)(cl:List Cal):List Prb:=
 toO p rn pl k t++(aG rn pl (!decide (g=[])&&!bw p g) 3 g++aF (zY p rn pl k cl.length) cl)
def FW (p:Prg)(rn:List UInt8)(pl:List Int)(s:Stp):List Prb:=Pw p rn pl s.kind s.text s.schema s.calls
def stF (rn:List UInt8)(N:NS)(nm0 nm:List UInt8)(pl:List Int)(beh:List Prb)(ok:Bool)(sub:List Prb):List Prb:=
 aG rn pl (!decide (nm0=[])&&!isN nm0) 1 nm0++(aG rn pl (decide (nm∈N)) 2 nm++(beh++(if ok=true then sub else aG rn pl true 5 [])))
def stO (p:Prg)(route:Int)(rn:List UInt8)(N:NS)(s:Stp)(pl:List Int)(beh:List Prb):List Prb×NS:=
 (stF isN rn N s.name (nmW route pl s) pl beh (aQ s) (FW p rn pl s),Fo N (nmW route pl s))
def jw (l:List Stp)(i:Nat):Bool:=decide (0<i)&&yW l[i - 1]?
def bC (p:Prg)(route:Int)(rn:List UInt8):Nat->List Int->List Stp->NS->List Prb×NS
 | 0,_,_,N=>([],N)
 | n + 1,pl,l,N=>ixO (fun N s i=>
     ((stO isN p route rn N s (pl++[(i:Int)]) (aG rn (pl++[(i:Int)]) (jw l i) 7 [])).1 ++
       (ixO (fun N b j=>bC p route rn n ((pl++[(i:Int)])++[(j:Int)]) (Bra.steps b) N) (stO isN p route rn N s (pl++[(i:Int)]) (aG rn (pl++[(i:Int)]) (jw l i) 7 [])).2 0 s.branches).1,
      (ixO (fun N b j=>bC p route rn n ((pl++[(i:Int)])++[(j:Int)]) (Bra.steps b) N) (stO isN p route rn N s (pl++[(i:Int)]) (aG rn (pl++[(i:Int)]) (jw l i) 7 [])).2 0 s.branches).2)) N 0 l
def PG (pl:List Int):List Int:=pl.dropLast++[pl.getLast?.getD 0 - 1]
def ed (rn:List UInt8)(pre:List Wkd)(pl:List Int):List Prb:=pre.flatMap fun w=>aG rn pl (decide (w.place=PG pl)&&de w.step) 7 []
def mO (p:Prg)(route:Int)(rn:List UInt8):NS->List Wkd->List Wkd->List Prb×NS
 | N,_,[]=>([],N)
 | N,pre,w::r=>((stO isN p route rn N w.step w.place (ed rn pre w.place)).1++(mO p route rn (stO isN p route rn N w.step w.place (ed rn pre w.place)).2 (pre++[w]) r).1,
   (mO p route rn (stO isN p route rn N w.step w.place (ed rn pre w.place)).2 (pre++[w]) r).2)
theorem pf (p:Prg)(route:Int)(rn:List UInt8):∀ (a b:List Wkd) (N:NS) (pre:List Wkd),
  mO isN p route rn N pre (a++b)=((mO isN p route rn N pre a).1++(mO isN p route rn (mO isN p route rn N pre a).2 (pre++a) b).1,(mO isN p route rn (mO isN p route rn N pre a).2 (pre++a) b).2)
 | [],b,N,pre=>by simp[mO]
 | w::a,b,N,pre=>by
   rw[XA,mO,pf p route rn a b,mO]
   simp only[W7,XA,Xl]
theorem sI (p:Prg)(route:Int)(rn:List UInt8)(N:NS){ws:List Wkd}{m:Nat}{w:Wkd}(h:ws[m]? = some w) :
  mO isN p route rn N [] (ws.take (m+1))=((mO isN p route rn N [] (ws.take m)).1++(stO isN p route rn (mO isN p route rn N [] (ws.take m)).2 w.step w.place (ed rn (ws.take m) w.place)).1,
   (stO isN p route rn (mO isN p route rn N [] (ws.take m)).2 w.step w.place (ed rn (ws.take m) w.place)).2):=by
 rw[aE h,pf]
 simp only[mO,Xl,Xc]
end
theorem Cr {p q:List Int}{i j:Int}(h:i≠j){x:List Int}(h1:(p++[i]) <+: x):¬ (p++[j]) <+: x:=by
 intro h2
 obtain⟨a,rfl⟩:=h1
 obtain⟨b,hb⟩:=h2
 rw[W7,W7] at hb
 have:=List.append_cancel_left hb
 simp only[XA,Xl,List.cons.injEq] at this
 exact h this.1.symm
theorem j4 {p x:List Int}{i:List Int}(h:(p++i) <+: x):p <+: x:=(List.prefix_append _ _).trans h
theorem cj {α β:Type}{F:α->Nat->List β}{l:List α}{y:β}(h:y∈aF F l):∃ (i:Nat) (x:α),l[i]? = some x/\y∈F x i:=by
 obtain⟨q,hq,hy⟩:=List.mem_flatMap.1 h
 obtain⟨x,i⟩:=q
 exact⟨i,x,by simpa using List.mem_zipIdx_iff_getElem?.1 hq,hy⟩
theorem ii (route:Int):∀ (n:Nat) (p:List Int) (l:List Stp) (w:Wkd),w∈aL route n p l->∃ i:Nat,(p++[(i:Int)]) <+: w.place
 | 0,p,l,w,h=>by simp[aL] at h
 | n+1,p,l,w,h=>by
   rw[aL] at h
   obtain⟨i,s,hs,hw⟩:=cj h
   rcases List.mem_cons.1 hw with rfl | hw
   ·exact⟨i,List.prefix_rfl⟩
   ·obtain⟨j,b,hb,hw⟩:=cj hw
    obtain⟨k,hk⟩:=ii route n _ _ w hw
    exact⟨i,j4 (j4 hk)⟩
theorem jD (rn:List UInt8)(a b:List Wkd)(pl:List Int):ed rn (a++b) pl=ed rn a pl++ed rn b pl:=by simp[ed]
theorem kX (rn:List UInt8){a:List Wkd}{pl:List Int}(h:∀ w∈a,w.place≠PG pl):ed rn a pl=[]:=by
 unfold ed
 rw[List.flatMap_eq_nil_iff]
 intro w hw
 rw[decide_eq_false (h w hw)];rfl
theorem hU (p:List Int)(i:Int):PG (p++[i])=p++[i - 1]:=by simp[PG]
def Wa (pre:List Wkd)(p:List Int)(k:Nat)(e:Bool):Prop:=(∀ w∈pre,∀ i:Nat,k<=i->¬ (p++[(i:Int)]) <+: w.place)/\∀ rn,ed rn pre (p++[(k:Int)])=aG rn (p++[(k:Int)]) e 7 []
variable (isN:List UInt8->Bool)
theorem Q6 (P:Prg)(route:Int)(rn:List UInt8)(n:Nat)(q:List Int)
  (ih:∀ (p:List Int) (l:List Stp) (pre:List Wkd) (N:NS),(∀ w∈pre,¬ p <+: w.place)->mO isN P route rn N pre (aL route n p l)=bC isN P route rn n p l N) :
  ∀ (bs:List Bra) (j:Nat) (pre:List Wkd) (N:NS),(∀ w∈pre,∀ i:Nat,j<=i->¬ (q++[(i:Int)]) <+: w.place) ->
    mO isN P route rn N pre ((bs.zipIdx j).flatMap fun b=>aL route n (q++[(b.2:Int)]) b.1.steps)=ixO (fun N b j=>bC isN P route rn n (q++[(j:Int)]) (Bra.steps b) N) N j bs
 | [],j,pre,N,h=>by simp[mO,ixO]
 | b::bs,j,pre,N,h=>by
   rw[List.zipIdx_cons,X4,pf,ih _ _ _ _ (fun w hw=>h w hw j (Xi _)),ixO]
   rw[Q6 P route rn n q ih bs (j+1)]
   intro w hw i hi
   rcases Xx.1 hw with hw | hw
   ·exact h w hw i (by omega)
   ·obtain⟨k,hk⟩:=ii route n _ _ w hw
    exact Cr (i:=(j:Int)) (q:=[]) (by omega) (j4 hk)
theorem C6 (P:Prg)(route:Int)(rn:List UInt8)(n:Nat)(p:List Int)(L:List Stp)
  (ih:∀ (p:List Int) (l:List Stp) (pre:List Wkd) (N:NS),(∀ w∈pre,¬ p <+: w.place)->mO isN P route rn N pre (aL route n p l)=bC isN P route rn n p l N) :
  ∀ (l:List Stp) (k:Nat) (pre:List Wkd) (N:NS),L.drop k=l->Wa pre p k (jw L k) ->
    mO isN P route rn N pre ((l.zipIdx k).flatMap fun q=>Wkd.mk route (p++[(q.2:Int)]) q.1::aF (fun b j=>aL route n ((p++[(q.2:Int)])++[(j:Int)]) b.steps) q.1.branches) =
    ixO (fun N s i=>
    ((stO isN P route rn N s (p++[(i:Int)]) (aG rn (p++[(i:Int)]) (jw L i) 7 [])).1 ++
      (ixO (fun N b j=>bC isN P route rn n ((p++[(i:Int)])++[(j:Int)]) (Bra.steps b) N) (stO isN P route rn N s (p++[(i:Int)]) (aG rn (p++[(i:Int)]) (jw L i) 7 [])).2 0 s.branches).1,
     (ixO (fun N b j=>bC isN P route rn n ((p++[(i:Int)])++[(j:Int)]) (Bra.steps b) N) (stO isN P route rn N s (p++[(i:Int)]) (aG rn (p++[(i:Int)]) (jw L i) 7 [])).2 0 s.branches).2)) N k l
 | [],k,pre,N,hL,h=>by simp[mO,ixO]
 | s::l,k,pre,N,hL,h=>by
   have hk:L[k]? = some s:=by
    have:=congrArg (fun z=>z[0]?) hL
    simpa using this
   have hL':L.drop (k+1)=l:=by
    have:=congrArg (fun z=>z.drop 1) hL
    simpa[List.drop_drop,Nat.add_comm] using this
   obtain⟨h1,h2⟩:=h
   have hnb:∀ w∈pre++[Wkd.mk route (p++[(k:Int)]) s],∀ i:Nat,0<=i->¬ ((p++[(k:Int)])++[(i:Int)]) <+: w.place:=by
    intro w hw i _ hp
    rcases Xx.1 hw with hw | hw
    ·exact h1 w hw k (Xi _) (j4 hp)
    ·rw[List.mem_singleton] at hw
     subst hw
     have:=hp.length_le
     simp[Wkd.place] at this
   rw[List.zipIdx_cons,X4,XA,mO]
   simp only[Wkd.step,Wkd.place]
   rw[h2 rn,pf]
   have e:aF (fun (b:Bra) j=>aL route n ((p++[(k:Int)])++[(j:Int)]) b.steps) s.branches=(s.branches.zipIdx 0).flatMap fun b=>aL route n ((p++[(k:Int)])++[(b.2:Int)]) b.1.steps:=rfl
   rw[e,Q6 isN P route rn n _ ih s.branches 0 _ _ hnb,ixO]
   have hsub:∀ w∈(s.branches.zipIdx 0).flatMap fun b=>aL route n ((p++[(k:Int)])++[(b.2:Int)]) b.1.steps,∃ (j i:Nat),(((p++[(k:Int)])++[(j:Int)])++[(i:Int)]) <+: w.place:=by
    intro w hw
    obtain⟨q,_,hq⟩:=List.mem_flatMap.1 hw
    obtain⟨i,hi⟩:=ii route n _ _ w hq
    exact⟨q.2,i,hi⟩
   rw[C6 P route rn n p L ih l (k+1) _ _ hL']
   ·simp only[W7]
   refine⟨fun w hw i hi=>?_,fun rn=>?_⟩
   ·rcases Xx.1 hw with hw | hw
    ·rcases Xx.1 hw with hw | hw
     ·exact h1 w hw i (by omega)
     ·rw[List.mem_singleton] at hw
      subst hw
      exact Cr (i:=(k:Int)) (q:=[]) (by omega) List.prefix_rfl
    ·obtain⟨j,i',hq⟩:=hsub w hw
     exact Cr (i:=(k:Int)) (q:=[]) (by omega) (j4 (j4 hq))
   ·have hb:PG (p++[((k+1:Nat):Int)])=p++[(k:Int)]:=by rw[hU];congr 2;push_cast;omega
    rw[jD,jD,kX,kX (a:=List.flatMap _ _)]
    ·have hpe:jw L (k+1)=de s:=by simp[jw,hk,yW]
     rw[hpe]
     simp only[ed,X4,List.flatMap_nil,Wkd.place,Wkd.step,hb,decide_true,Bool.true_and,Xl,Xc]
    ·intro w hw he
     obtain⟨j,i',hq⟩:=hsub w hw
     rw[hb] at he
     rw[he] at hq
     have:=hq.length_le
     simp at this
    ·intro w hw he
     rw[hb] at he
     exact h1 w hw k (Xi _) (he▸List.prefix_rfl)
theorem uz (P:Prg)(route:Int)(rn:List UInt8):∀ (n:Nat) (p:List Int) (l:List Stp) (pre:List Wkd) (N:NS),(∀ w∈pre,¬ p <+: w.place) ->
  mO isN P route rn N pre (aL route n p l)=bC isN P route rn n p l N
 | 0,p,l,pre,N,h=>by simp[aL,mO,bC]
 | n+1,p,l,pre,N,h=>by
   rw[aL,bC]
   refine C6 isN P route rn n p l (uz P route rn n) l 0 pre N (by simp) ⟨fun w hw i _ hp=>h w hw (j4 hp),fun rn=>?_⟩
   rw[kX]
   ·simp[jw,aG]
   ·intro w hw he
    rw[hU] at he
    exact h w hw (by rw[he];exact List.prefix_append _ _)
def dR:List UInt8:=[115,99,104,101,109,97,115]
def cC:List UInt8:=[101,110,100,112,111,105,110,116,115]
def cZ:List UInt8:=[115,101,114,118,105,99,101,115]
def fj:List UInt8:=[114,111,117,116,101,115]
def iP:List UInt8:=[115,116,101,112,115]
def fl:List UInt8:=[108,101,118,101,108,115]
def jU:List UInt8:=[110,111,100,101,115]
def cp:List UInt8:=[118,101,114,115,105,111,110]
def tf (ws:List Wkd):Bool:=ws.any fun w=>decide (7<w.place.length)
def Dc (p:Prg)(ws:List Wkd):List Prb:=
 aG [] [] (decide ((64:Int)<(p.schemas.length:Int))) 16 dR++(aG [] [] (decide ((64:Int)<(p.endpoints.length:Int))) 16 cC++(aG [] [] (decide ((64:Int)<(p.services.length:Int))) 16 cZ ++
 (aG [] [] (decide ((64:Int)<(p.routes.length:Int))) 16 fj++(aG [] [] (decide ((64:Int)<(ws.length:Int))) 16 iP++(aG [] [] (tf ws) 16 fl ++
 aG [] [] (decide ((128:Int)<(p.endpoints.length:Int)+(p.services.length:Int)+(ws.length:Int))) 16 jU)))))
section
variable (isN:List UInt8->Bool)(chk:Sch->Bool)
def Px (p:Prg)(x:Sch)(i:Nat):List Prb:=
 aG [] [] (!isN x.name) 1 x.name++(aG [] [] (isN x.name&&chk x) 5 x.name++aG [] [] (decide (bL (p.schemas.findIdx? (vsn x.name x.version))<(i:Int))) 2 x.name)
def JF (p:Prg)(N:NS)(x:Enp)(_:Nat):List Prb×NS:=
 (aG [] [] (!isN x.name) 1 x.name++(aG [] [] (decide (x.name∈N)) 2 x.name++(aG [] [] (!inR x.kind 1 3||!inR x.format.kind 1 4) 5 x.name++aG [] [] (!ib p x.schema x.version) 3 x.schema)),Fo N x.name)
def LK (p:Prg)(N:NS)(x:Svc)(_:Nat):List Prb×NS:=
 (aG [] [] (!isN x.name) 1 x.name++(aG [] [] (decide (x.name∈N)) 2 x.name++(aG [] [] (!bw p x.request) 3 x.request++aG [] [] (!bw p x.reply) 3 x.reply)),Fo N x.name)
def thO (p:Prg):List Prb×NS:=
 (aG [] [] (!inR p.version 1 999) 5 cp++(aF (Px isN chk p) p.schemas++((ixO (JF isN p) [] 0 p.endpoints).1++(ixO (LK isN p) (ixO (JF isN p) [] 0 p.endpoints).2 0 p.services).1)),
  (ixO (LK isN p) (ixO (JF isN p) [] 0 p.endpoints).2 0 p.services).2)
def Qx (p:Prg)(r:Rou)(i:Nat):List Prb:=
 aG r.name [] (!isN r.name) 1 r.name++(aG r.name [] ((p.routes.take i).any fun x=>decide (x.name=r.name)) 2 r.name++(aG r.name [] (!dH p r.src) 3 r.src ++
 (aG r.name [] (lx p r.src 2) 4 r.src++(aG r.name [] ((p.routes.take i).any fun x=>decide (x.src=r.src)) 2 r.src++aG r.name [] (!d8 r.steps) 6 []))))
def G3 (p:Prg)(n:Nat)(N:NS)(r:Rou)(i:Nat):List Prb×NS:=
 (Qx isN p r i++(bC isN p i r.name n [] r.steps N).1,(bC isN p i r.name n [] r.steps N).2)
def BE (p:Prg)(n:Nat):List Prb:=(thO isN chk p).1++(ixO (G3 isN p n) (thO isN chk p).2 0 p.routes).1
def lm (p:Prg)(n:Nat):List Prb:=if Dc p (cW n p)=[] then BE isN chk p n else Dc p (cW n p)
end
theorem aA {α:Type}{a b:List α}{m n:Nat}(h1:a.length<=m)(h2:b.length<=n):(a++b).length<=m+n:=by rw[W0];omega
theorem nE (p:Prg)(rn:List UInt8)(pl:List Int)(kind:Int)(n:Nat)(c:Cal)(k:Nat):(zY p rn pl kind n c k).length<=2:=aA (am _ _ _ _ _) (am _ _ _ _ _)
theorem qY (p:Prg)(rn:List UInt8)(pl:List Int)(k:Int)(t:List UInt8):(toO p rn pl k t).length<=2:=by
 unfold toO
 split
 ·exact aA (am _ _ _ _ _) (am _ _ _ _ _)
 ·simp
theorem GH (p:Prg)(rn:List UInt8)(pl:List Int)(k:Int)(t g:List UInt8)(cl:List Cal)(hc:cl.length<=18):(Pw p rn pl k t g cl).length<=39:=by
 unfold Pw
 have h1:=bh (zY p rn pl k cl.length) 2 cl fun c _ i=>nE _ _ _ _ _ _ _
 have h2:=qY p rn pl k t
 have h3:=am rn pl (!decide (g=[])&&!bw p g) 3 g
 rw[W0,W0]
 omega
theorem tQ (p:Prg)(rn:List UInt8)(pl:List Int)(s:Stp)(hc:s.calls.length<=18):(FW p rn pl s).length<=39:=GH _ _ _ _ _ _ _ hc
section
variable (isN:List UInt8->Bool)(chk:Sch->Bool)
theorem LV (rn:List UInt8)(N:NS)(nm0 nm:List UInt8)(pl:List Int)(beh:List Prb)(ok:Bool)(sub:List Prb)(hs:sub.length<=39)(hb:beh.length<=1):(stF isN rn N nm0 nm pl beh ok sub).length<=42:=by
 unfold stF
 refine aA (m:=1) (n:=41) (am _ _ _ _ _) (aA (m:=1) (n:=40) (am _ _ _ _ _) (aA (m:=1) (n:=39) hb ?_))
 split
 ·exact hs
 ·exact Xu (am _ _ _ _ _) (by omega)
theorem Bl (p:Prg)(route:Int)(rn:List UInt8)(N:NS)(s:Stp)(pl:List Int)(beh:List Prb)(hc:s.calls.length<=18)(hb:beh.length<=1):(stO isN p route rn N s pl beh).1.length<=42:=
 LV isN rn N _ _ pl beh _ _ (tQ p rn pl s hc) hb
end
def F4:Nat->List Stp->Prop
 | 0,_=>True
 | n+1,l=>∀ s∈l,s.calls.length<=18/\∀ b∈s.branches,F4 n b.steps
theorem cN (isN:List UInt8->Bool)(p:Prg)(route:Int)(rn:List UInt8):∀ (n:Nat) (pl:List Int) (l:List Stp) (N:NS),Bnd n l->F4 n l->(bC isN p route rn n pl l N).1.length<=42*cnt n
 | 0,pl,l,N,_,_=>by simp[bC]
 | n+1,pl,l,N,hB,hC=>by
   obtain⟨h1,h2⟩:=hB
   rw[bC,cnt]
   refine Xu (cH _ (42*(1+4*cnt n)) l N 0 fun s hs N i=>?_) ?_
   ·obtain⟨h3,h4⟩:=h2 s hs
    obtain⟨h5,h6⟩:=hC s hs
    have ha:=Bl isN p route rn N s (pl++[(i:Int)]) (aG rn (pl++[(i:Int)]) (jw l i) 7 []) h5 (am _ _ _ _ _)
    have hb:=cH (fun N b j=>bC isN p route rn n ((pl++[(i:Int)])++[(j:Int)]) (Bra.steps b) N) (42*cnt n) s.branches (stO isN p route rn N s (pl++[(i:Int)]) (aG rn (pl++[(i:Int)]) (jw l i) 7 [])).2 0
     fun b hb N j=>cN isN p route rn n _ _ N (h4 b hb) (h6 b hb)
    have h7:s.branches.length*(42*cnt n)<=4*(42*cnt n):=W8 _ h3
    simp only[W0]
    omega
   ·have:l.length*(42*(1+4*cnt n))<=8*(42*(1+4*cnt n)):=W8 _ h1
    omega
theorem Ar (a lo hi:Int):ap Tryz.prog aC 53 [.int .i64 a,.int .i64 lo,.int .i64 hi] (.bool (inR a lo hi)):=by
 refine ap.intro Q53.2 (by simp[Q53]) ?_
 unfold inR
 by_cases h1:lo<=a
 ·by_cases h2:a<=hi
  ·simp(maxSteps:=9^7) (disch:=try exact dI) only[Q53,push_cast,seval]
  ·simp(maxSteps:=9^7) (disch:=try exact dI) only[Q53,push_cast,seval]
 ·simp(maxSteps:=9^7) (disch:=try exact dI) only[Q53,push_cast,seval]
theorem lj (a lo hi:Int):ap Tryz.prog aC 39 [.int .i64 a,.int .i64 lo,.int .i64 hi] (.bool (inR a lo hi)):=by
 refine ap.intro Q39.2 (by simp[Q39]) ?_
 unfold inR
 by_cases h1:lo<=a
 ·by_cases h2:a<=hi
  ·simp(maxSteps:=9^7) (disch:=try exact dI) only[Q39,push_cast,seval]
  ·simp(maxSteps:=9^7) (disch:=try exact dI) only[Q39,push_cast,seval]
 ·simp(maxSteps:=9^7) (disch:=try exact dI) only[Q39,push_cast,seval]
theorem OL (p:List Int)(hm:p.length<=1000000):ap Tryz.prog aC 85 [.list (p.map (PV.int .i64))] (.list (p.map (PV.int .i64))):=by
 refine ap.intro Q85.2 (by simp[Q85]) ?_
 cases p with
 | nil=>
   simp(maxSteps:=9^7) (disch:=try exact dI) only[Q85,push_cast,seval]
   intro b
   cases b<;>simp(maxSteps:=9^7) (disch:=try exact dI) only[push_cast,seval]
 | cons x r=>
   rw[Xa] at hm
   simp(maxSteps:=9^7) (disch:=try exact dI) only[Q85,push_cast,seval]
def fU (rn:List UInt8)(pl:List Int)(out:List Prb)(q:Nat):Blk:=.cells 85 true [.pv (.str rn),.pv (.list (pl.map (PV.int .i64))),.olist q 4 (out.map Prb.pv)]
theorem bB (rn:List UInt8)(pl:List Int)(out:List Prb)(is:Bool)(c:Int)(nm:List UInt8)(hp:pl.length<=1000000)(hl:out.length<=100000000000) :
  bz Tryz.prog aC 1 31 [.ptr 0 0,.pv (.bool is),.pv (.int .i64 c),.pv (.str nm)] [fU rn pl out 1,.tok 82 4] (.pv (.tup [])) [fU rn pl (out++aG rn pl is c nm) 1,.tok 82 4]:=by
 refine bz.intro Q31.2 (by simp[Q31]) ?_
 simp only[fU]
 cases is with
 | false=>
   rw[uh,Xc]
   simp(maxSteps:=9^7) (disch:=try exact dI) only[Q31,fU,push_cast,seval]
   exact aH [] (by simp(maxSteps:=9^7) (disch:=try exact dI) only[fU,push_cast,seval])
 | true=>
   rw[oF]
   simp(maxSteps:=9^7) (disch:=try exact dI) only[Q31,fU,push_cast,seval]
   refine ag (OL pl hp) rfl ?_
   simp(maxSteps:=9^7) (disch:=try exact dI) only[push_cast,seval]
   exact aH [] (by simp(maxSteps:=9^7) (disch:=try exact dI) only[fU,List.map_append,Wt,push_cast,seval])

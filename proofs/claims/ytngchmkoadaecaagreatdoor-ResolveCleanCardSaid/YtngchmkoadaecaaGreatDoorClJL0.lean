/- A part. -/
import Derived.Test.YtngchmkoadaecaaGreatDoorClJE
import Derived.Test.YtngchmkoadaecaaGreatDoorClJW4
import Derived.Test.YtngchmkoadaecaaGreatDoorClJ6
set_option linter.unusedVariables false
set_option linter.unusedSimpArgs false
set_option maxRecDepth 100000
open List renaming cons_append->U2,append_assoc->UB,length_cons->UC,append_nil->UU,nil_append->UV,flatMap_cons->Vx,mem_append->UY
namespace Go.Proofs.YtngchmkoadaecaaGreatDoor
open Go Go.Ab
def aL (r:List UInt8)(pl:List Int)(is:Bool)(c:Int)(nm:List UInt8):List Prb:=if is=true then [.mk c r pl nm] else []
theorem OD (r:List UInt8)(pl:List Int)(c:Int)(nm:List UInt8):aL r pl true c nm=[.mk c r pl nm]:=_root_.id rfl
theorem OE (r:List UInt8)(pl:List Int)(c:Int)(nm:List UInt8):aL r pl false c nm=[]:=_root_.id rfl
theorem am (r:List UInt8)(pl:List Int)(b:Bool)(c:Int)(nm:List UInt8):(aL r pl b c nm).length<=1:=by cases b<;>simp[aL]
abbrev NS:=List (List UInt8)
def ixO {α:Type}(F:NS->α->Nat->List Prb×NS):NS->Nat->List α->List Prb×NS
 | N,_,[]=>([],N)
 | N,i,x::r=>((F N x i).1++(ixO F (F N x i).2 (i+1) r).1,(ixO F (F N x i).2 (i+1) r).2)
theorem cL {α:Type}(F:NS->α->Nat->List Prb×NS)(N:NS)(i:Nat):ixO F N i []=([],N):=_root_.id rfl
theorem B0 {α:Type}(F:NS->α->Nat->List Prb×NS):∀ (a b:List α) (N:NS) (i:Nat),
  ixO F N i (a++b)=((ixO F N i a).1++(ixO F (ixO F N i a).2 (i+a.length) b).1,(ixO F (ixO F N i a).2 (i+a.length) b).2)
 | [],b,N,i=>by simp[ixO]
 | x::a,b,N,i=>by
   rw[U2,ixO,B0 F a b,ixO]
   simp only[UB,UC,show i+1+a.length=i+(a.length+1) by omega]
theorem bX {α:Type}(F:NS->α->Nat->List Prb×NS)(N:NS){l:List α}{m:Nat}{x:α}(h:l[m]? = some x) :
  ixO F N 0 (l.take (m+1))=((ixO F N 0 (l.take m)).1++(F (ixO F N 0 (l.take m)).2 x m).1,(F (ixO F N 0 (l.take m)).2 x m).2):=by
 have hm:m<l.length:=(List.getElem?_eq_some_iff.1 h).1
 have hl:(l.take m).length=m:=by rw[List.length_take];omega
 rw[aC h,B0]
 simp only[ixO,hl,Nat.zero_add,UU]
theorem dG {α:Type}(F:NS->α->Nat->List Prb×NS)(c:Nat):∀ (l:List α) (N:NS) (i:Nat),(∀ x∈l,∀ N i,(F N x i).1.length<=c)->(ixO F N i l).1.length<=l.length*c
 | [],N,i,h=>by simp[ixO]
 | x::r,N,i,h=>by
   have h1:=h x (by simp) N i
   have h2:=dG F c r (F N x i).2 (i+1) (fun y hy=>h y (by simp[hy]))
   simp only[ixO,List.length_append,UC,Nat.succ_mul]
   omega
def inR (n lo hi:Int):Bool:=decide (lo<=n)&&decide (n<=hi)
def dD (s:List UInt8):Bool:=inR s.length 1 64&&Lib.validD s
def cw (s:Stp):Bool:=inR s.time 0 17592186044416&&inR s.limit 1 256
def bj (n h x c e m k b:Bool)(s:Stp):Bool:=
 (n||decide (s.number=0))&&((h||decide (s.time=0))&&((h||decide (s.limit=0))&&((x||decide (s.text=[]))&&((c||decide (s.schema=[])) &&
 ((e||s.exprs.isEmpty)&&((m||s.mapping.isEmpty)&&((k||s.calls.isEmpty)&&(b||s.branches.isEmpty))))))))
def kv (c:Nat)(l:List Bra):Bool:=(l.zipIdx.all fun q=>decide (q.1.when.length=c)||(decide (q.2+1=l.length)&&q.1.when.isEmpty))&&inR l.length 1 64
def eN (s:Stp):Bool:=
 if s.kind=1 then decide (s.exprs.length=1)&&dD s.text&&bj false false true false true false false false s
 else if s.kind=2 then !decide (s.schema=[])&&bj false false false true false true false false s
 else if s.kind=3 then !decide (s.text=[])&&!decide (s.schema=[])&&bj false false true true false true false false s
 else if s.kind=4 then inR s.exprs.length 1 2&&inR s.number 0 256&&!decide (s.schema=[])&&cw s&&bj true true false true true true false false s
 else if s.kind=5 then decide (s.exprs.length=2)&&cw s&&bj false true false false true false false false s
 else if s.kind=6 then decide (s.exprs.length=1)&&inR s.number 1 256&&bj true false false false true false false false s
 else if s.kind=7 then inR s.number 1 256&&decide (1<=s.time)&&cw s&&bj true true false false false false false false s
 else if s.kind=8 then decide (1<=s.time)&&cw s&&bj false true false false false false false false s
 else if s.kind=9 then inR s.calls.length 1 1&&!decide (s.schema=[])&&cw s&&bj false true false true false true true false s
 else if s.kind=10 then inR s.calls.length 1 16&&!decide (s.schema=[])&&cw s&&bj false true false true false true true false s
 else if s.kind=11 then kv 1 s.branches&&bj false false false false false false false true s
 else if s.kind=12 then kv 0 s.branches&&bj false false false false false false false true s
 else if s.kind=13 then !decide (s.text=[])&&bj false false true false false false false false s
 else if s.kind=14 then dD s.text&&bj false false true false false false false false s
 else false
def epO (p:Prg)(nm:List UInt8):Option Enp:=p.endpoints.find? fun x=>decide (x.name=nm)
def fa (p:Prg)(nm:List UInt8):Bool:=(epO p nm).isSome
def px (p:Prg)(nm:List UInt8)(k:Int):Bool:=match epO p nm with
 | some x=>decide (x.kind=k)
 | none=>false
def svO (p:Prg)(nm:List UInt8):Option Svc:=p.services.find? fun x=>decide (x.name=nm)
def ci (p:Prg)(nm:List UInt8):Bool:=(svO p nm).isSome
def f8 (p:Prg)(nm:List UInt8):Bool:=match svO p nm with
 | some x=>!x.undo
 | none=>false
def dN (p:Prg)(nm:List UInt8):Bool:=(eT p.schemas nm p.schemas.length).isSome
def m7 (p:Prg)(nm:List UInt8)(v:Int):Bool:=(p.schemas.findIdx? (vsn nm v)).isSome
def nmW (route:Int)(pl:List Int)(s:Stp):List UInt8:=if s.name=[] then iO route pl else s.name
section
variable (isN:List UInt8->Bool)(chk:Sch->Bool)
def ME (p:Prg)(rn:List UInt8)(pl:List Int)(kind:Int)(n:Nat)(c:Cal)(k:Nat):List Prb:=
 aL rn pl (!ci p c.service) 3 c.service++aL rn pl (decide (kind=10)&&decide (k+1<n)&&f8 p c.service) 12 c.service
def toO (p:Prg)(rn:List UInt8)(pl:List Int)(k:Int)(t:List UInt8):List Prb:=if k=13 then aL rn pl (!fa p t) 3 t++aL rn pl (px p t 1) 4 t else []
def ND (p:Prg)(rn:List UInt8)(pl:List Int)(k:Int)(t g:List UInt8)(cl:List Cal):List Prb:=
 toO p rn pl k t++(aL rn pl (!decide (g=[])&&!dN p g) 3 g++aJ (ME p rn pl k cl.length) cl)
def JF (p:Prg)(rn:List UInt8)(pl:List Int)(s:Stp):List Prb:=ND p rn pl s.kind s.text s.schema s.calls
def stF (rn:List UInt8)(N:NS)(nm0 nm:List UInt8)(pl:List Int)(beh:List Prb)(ok:Bool)(sub:List Prb):List Prb:=
 aL rn pl (!decide (nm0=[])&&!isN nm0) 1 nm0++(aL rn pl (decide (nm∈N)) 2 nm++(beh++(if ok=true then sub else aL rn pl true 5 [])))
def stO (p:Prg)(route:Int)(rn:List UInt8)(N:NS)(s:Stp)(pl:List Int)(beh:List Prb):List Prb×NS:=
 (stF isN rn N s.name (nmW route pl s) pl beh (eN s) (JF p rn pl s),ff N (nmW route pl s))
def iW (l:List Stp)(i:Nat):Bool:=decide (0<i)&&wL l[i - 1]?
def bx (p:Prg)(route:Int)(rn:List UInt8):Nat->List Int->List Stp->NS->List Prb×NS
 | 0,_,_,N=>([],N)
 | n + 1,pl,l,N=>ixO (fun N s i=>
     ((stO isN p route rn N s (pl++[(i:Int)]) (aL rn (pl++[(i:Int)]) (iW l i) 7 [])).1 ++
       (ixO (fun N b j=>bx p route rn n ((pl++[(i:Int)])++[(j:Int)]) (Bra.steps b) N) (stO isN p route rn N s (pl++[(i:Int)]) (aL rn (pl++[(i:Int)]) (iW l i) 7 [])).2 0 s.branches).1,
      (ixO (fun N b j=>bx p route rn n ((pl++[(i:Int)])++[(j:Int)]) (Bra.steps b) N) (stO isN p route rn N s (pl++[(i:Int)]) (aL rn (pl++[(i:Int)]) (iW l i) 7 [])).2 0 s.branches).2)) N 0 l
def Qh (pl:List Int):List Int:=pl.dropLast++[pl.getLast?.getD 0 - 1]
def xA (rn:List UInt8)(pre:List Wkd)(pl:List Int):List Prb:=pre.flatMap fun w=>aL rn pl (decide (w.place=Qh pl)&&ey w.step) 7 []
def mO (p:Prg)(route:Int)(rn:List UInt8):NS->List Wkd->List Wkd->List Prb×NS
 | N,_,[]=>([],N)
 | N,pre,w::r=>((stO isN p route rn N w.step w.place (xA rn pre w.place)).1++(mO p route rn (stO isN p route rn N w.step w.place (xA rn pre w.place)).2 (pre++[w]) r).1,
   (mO p route rn (stO isN p route rn N w.step w.place (xA rn pre w.place)).2 (pre++[w]) r).2)
theorem BF (p:Prg)(route:Int)(rn:List UInt8):∀ (a b:List Wkd) (N:NS) (pre:List Wkd),
  mO isN p route rn N pre (a++b)=((mO isN p route rn N pre a).1++(mO isN p route rn (mO isN p route rn N pre a).2 (pre++a) b).1,(mO isN p route rn (mO isN p route rn N pre a).2 (pre++a) b).2)
 | [],b,N,pre=>by simp[mO]
 | w::a,b,N,pre=>by
   rw[U2,mO,BF p route rn a b,mO]
   simp only[UB,U2,UV]
end
theorem AO {p q:List Int}{i j:Int}(h:i≠j){x:List Int}(h1:(p++[i]) <+: x):¬ (p++[j]) <+: x:=by
 intro h2
 obtain⟨a,rfl⟩:=h1
 obtain⟨b,hb⟩:=h2
 rw[UB,UB] at hb
 have:=List.append_cancel_left hb
 simp only[U2,UV,List.cons.injEq] at this
 exact h this.1.symm
theorem jy {p x:List Int}{i:List Int}(h:(p++i) <+: x):p <+: x:=(List.prefix_append _ _).trans h
theorem bD {α β:Type}{F:α->Nat->List β}{l:List α}{y:β}(h:y∈aJ F l):∃ (i:Nat) (x:α),l[i]? = some x/\y∈F x i:=by
 obtain⟨q,hq,hy⟩:=List.mem_flatMap.1 h
 obtain⟨x,i⟩:=q
 exact⟨i,x,by simpa using List.mem_zipIdx_iff_getElem?.1 hq,hy⟩
theorem gR (route:Int):∀ (n:Nat) (p:List Int) (l:List Stp) (w:Wkd),w∈aF route n p l->∃ i:Nat,(p++[(i:Int)]) <+: w.place
 | 0,p,l,w,h=>by simp[aF] at h
 | n+1,p,l,w,h=>by
   rw[aF] at h
   obtain⟨i,s,hs,hw⟩:=bD h
   rcases List.mem_cons.1 hw with rfl | hw
   ·exact⟨i,List.prefix_rfl⟩
   ·obtain⟨j,b,hb,hw⟩:=bD hw
    obtain⟨k,hk⟩:=gR route n _ _ w hw
    exact⟨i,jy (jy hk)⟩
theorem tG (rn:List UInt8)(a b:List Wkd)(pl:List Int):xA rn (a++b) pl=xA rn a pl++xA rn b pl:=by simp[xA]
theorem ki (rn:List UInt8){a:List Wkd}{pl:List Int}(h:∀ w∈a,w.place≠Qh pl):xA rn a pl=[]:=by
 unfold xA
 rw[List.flatMap_eq_nil_iff]
 intro w hw
 rw[decide_eq_false (h w hw)];rfl
theorem pb (p:List Int)(i:Int):Qh (p++[i])=p++[i - 1]:=by simp[Qh]
def TD (pre:List Wkd)(p:List Int)(k:Nat)(e:Bool):Prop:=(∀ w∈pre,∀ i:Nat,k<=i->¬ (p++[(i:Int)]) <+: w.place)/\∀ rn,xA rn pre (p++[(k:Int)])=aL rn (p++[(k:Int)]) e 7 []
variable (isN:List UInt8->Bool)
theorem OU (P:Prg)(route:Int)(rn:List UInt8)(n:Nat)(q:List Int)
  (ih:∀ (p:List Int) (l:List Stp) (pre:List Wkd) (N:NS),(∀ w∈pre,¬ p <+: w.place)->mO isN P route rn N pre (aF route n p l)=bx isN P route rn n p l N) :
  ∀ (bs:List Bra) (j:Nat) (pre:List Wkd) (N:NS),(∀ w∈pre,∀ i:Nat,j<=i->¬ (q++[(i:Int)]) <+: w.place) ->
    mO isN P route rn N pre ((bs.zipIdx j).flatMap fun b=>aF route n (q++[(b.2:Int)]) b.1.steps)=ixO (fun N b j=>bx isN P route rn n (q++[(j:Int)]) (Bra.steps b) N) N j bs
 | [],j,pre,N,h=>by simp[mO,ixO]
 | b::bs,j,pre,N,h=>by
   rw[List.zipIdx_cons,Vx,BF,ih _ _ _ _ (fun w hw=>h w hw j (Nat.le_refl _)),ixO]
   rw[OU P route rn n q ih bs (j+1)]
   intro w hw i hi
   rcases UY.1 hw with hw | hw
   ·exact h w hw i (by omega)
   ·obtain⟨k,hk⟩:=gR route n _ _ w hw
    exact AO (i:=(j:Int)) (q:=[]) (by omega) (jy hk)
theorem BE (P:Prg)(route:Int)(rn:List UInt8)(n:Nat)(p:List Int)(L:List Stp)
  (ih:∀ (p:List Int) (l:List Stp) (pre:List Wkd) (N:NS),(∀ w∈pre,¬ p <+: w.place)->mO isN P route rn N pre (aF route n p l)=bx isN P route rn n p l N) :
  ∀ (l:List Stp) (k:Nat) (pre:List Wkd) (N:NS),L.drop k=l->TD pre p k (iW L k) ->
    mO isN P route rn N pre ((l.zipIdx k).flatMap fun q=>Wkd.mk route (p++[(q.2:Int)]) q.1::aJ (fun b j=>aF route n ((p++[(q.2:Int)])++[(j:Int)]) b.steps) q.1.branches) =
    ixO (fun N s i=>
    ((stO isN P route rn N s (p++[(i:Int)]) (aL rn (p++[(i:Int)]) (iW L i) 7 [])).1 ++
      (ixO (fun N b j=>bx isN P route rn n ((p++[(i:Int)])++[(j:Int)]) (Bra.steps b) N) (stO isN P route rn N s (p++[(i:Int)]) (aL rn (p++[(i:Int)]) (iW L i) 7 [])).2 0 s.branches).1,
     (ixO (fun N b j=>bx isN P route rn n ((p++[(i:Int)])++[(j:Int)]) (Bra.steps b) N) (stO isN P route rn N s (p++[(i:Int)]) (aL rn (p++[(i:Int)]) (iW L i) 7 [])).2 0 s.branches).2)) N k l
 | [],k,pre,N,hL,h=>by simp[mO,ixO]
 | s::l,k,pre,N,hL,h=>by
   have hk:L[k]? = some s:=by
    have:=congrArg (fun z=>z[0]?) hL
    simpa using this
   have hL':L.drop (k+1)=l:=by
    have:=congrArg (fun z=>z.drop 1) hL
    simpa[List.drop_drop,Nat.add_comm] using this
   obtain⟨h1,h2⟩:=h
   have hnb:∀ w∈pre++[Wkd.mk route (p++[(k:Int)]) s],∀ i:Nat,0<=i->¬ ((p++[(k:Int)])++[(i:Int)]) <+: w.place:=by
    intro w hw i _ hp
    rcases UY.1 hw with hw | hw
    ·exact h1 w hw k (Nat.le_refl _) (jy hp)
    ·rw[List.mem_singleton] at hw
     subst hw
     have:=hp.length_le
     simp[Wkd.place] at this
   rw[List.zipIdx_cons,Vx,U2,mO]
   simp only[Wkd.step,Wkd.place]
   rw[h2 rn,BF]
   have e:aJ (fun (b:Bra) j=>aF route n ((p++[(k:Int)])++[(j:Int)]) b.steps) s.branches=(s.branches.zipIdx 0).flatMap fun b=>aF route n ((p++[(k:Int)])++[(b.2:Int)]) b.1.steps:=rfl
   rw[e,OU isN P route rn n _ ih s.branches 0 _ _ hnb,ixO]
   have hsub:∀ w∈(s.branches.zipIdx 0).flatMap fun b=>aF route n ((p++[(k:Int)])++[(b.2:Int)]) b.1.steps,∃ (j i:Nat),(((p++[(k:Int)])++[(j:Int)])++[(i:Int)]) <+: w.place:=by
    intro w hw
    obtain⟨q,_,hq⟩:=List.mem_flatMap.1 hw
    obtain⟨i,hi⟩:=gR route n _ _ w hq
    exact⟨q.2,i,hi⟩
   rw[BE P route rn n p L ih l (k+1) _ _ hL']
   ·simp only[UB]
   refine⟨fun w hw i hi=>?_,fun rn=>?_⟩
   ·rcases UY.1 hw with hw | hw
    ·rcases UY.1 hw with hw | hw
     ·exact h1 w hw i (by omega)
     ·rw[List.mem_singleton] at hw
      subst hw
      exact AO (i:=(k:Int)) (q:=[]) (by omega) List.prefix_rfl
    ·obtain⟨j,i',hq⟩:=hsub w hw
     exact AO (i:=(k:Int)) (q:=[]) (by omega) (jy (jy hq))
   ·have hb:Qh (p++[((k+1:Nat):Int)])=p++[(k:Int)]:=by rw[pb];congr 2;push_cast;omega
    rw[tG,tG,ki,ki (a:=List.flatMap _ _)]
    ·have hpe:iW L (k+1)=ey s:=by simp[iW,hk,wL]
     rw[hpe]
     simp only[xA,Vx,List.flatMap_nil,Wkd.place,Wkd.step,hb,decide_true,Bool.true_and,UV,UU]
    ·intro w hw he
     obtain⟨j,i',hq⟩:=hsub w hw
     rw[hb] at he
     rw[he] at hq
     have:=hq.length_le
     simp at this
    ·intro w hw he
     rw[hb] at he
     exact h1 w hw k (Nat.le_refl _) (he▸List.prefix_rfl)
theorem sI (P:Prg)(route:Int)(rn:List UInt8):∀ (n:Nat) (p:List Int) (l:List Stp) (pre:List Wkd) (N:NS),(∀ w∈pre,¬ p <+: w.place) ->
  mO isN P route rn N pre (aF route n p l)=bx isN P route rn n p l N
 | 0,p,l,pre,N,h=>by simp[aF,mO,bx]
 | n+1,p,l,pre,N,h=>by
   rw[aF,bx]
   refine BE isN P route rn n p l (sI P route rn n) l 0 pre N (by simp) ⟨fun w hw i _ hp=>h w hw (jy hp),fun rn=>?_⟩
   rw[ki]
   ·simp[iW,aL]
   ·intro w hw he
    rw[pb] at he
    exact h w hw (by rw[he];exact List.prefix_append _ _)

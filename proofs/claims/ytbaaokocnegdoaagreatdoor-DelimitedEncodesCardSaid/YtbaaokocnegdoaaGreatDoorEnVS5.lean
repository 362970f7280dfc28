/- A part. -/
import Derived.Test.YtbaaokocnegdoaaGreatDoorEnVR6
set_option linter.unusedVariables false
set_option linter.unusedSimpArgs false
set_option maxHeartbeats 16000000
set_option maxRecDepth 100000
open List renaming getElem?_eq_some_iff->Vh,getElem?_eq_getElem->Vg,map_append->VI,take_length->VR,take_zero->V8,mem_of_getElem?->Vk
open Int renaming lt_irrefl->VH
open Option renaming map_some->Vl
namespace Go.Proofs.YtbaaokocnegdoaaGreatDoor
open Go Go.Ab
attribute [local irreducible] vc
def DL:List PV:=[.str [],.int .i64 0,.int .i64 0,.bool false,.bool false,.bool false,.bool false,.bool false,.str [98,111,111,108],.int .i64 0,.int .i64 0,.bool false,.bool false,.bool false,.bool false,.bool false,.str [105,110,116],.int .i64 (-999999999999999),.int .i64 999999999999999,.bool true,.bool false,.bool false,.bool false,.bool false,.str [100,101,99,105,109,97,108],.int .i64 (-999999999999999),.int .i64 999999999999999,.bool true,.bool true,.bool false,.bool false,.bool false,.str [116,101,120,116],.int .i64 0,.int .i64 1024,.bool true,.bool false,.bool true,.bool false,.bool false,.str [98,121,116,101,115],.int .i64 0,.int .i64 1024,.bool true,.bool false,.bool false,.bool false,.bool false,.str [100,97,116,101],.int .i64 (-719162),.int .i64 2932896,.bool true,.bool false,.bool false,.bool false,.bool false,.str [116,105,109,101],.int .i64 (-62135596800000),.int .i64 253402300799999,.bool true,.bool false,.bool false,.bool false,.bool false,.str [108,105,115,116],.int .i64 0,.int .i64 256,.bool true,.bool false,.bool false,.bool true,.bool false,.str [114,101,99,111,114,100],.int .i64 0,.int .i64 0,.bool false,.bool false,.bool false,.bool false,.bool true,.str [118,97,114,105,97,110,116],.int .i64 0,.int .i64 0,.bool false,.bool false,.bool false,.bool false,.bool true]
theorem Im:ae Tryz.prog aq 188 [] (.agg DL):=by
 refine ae.intro RJ.2 (by simp[RJ]) ?_
 simp only[DL]
 simp(disch:=try exact dI) only[RJ,push_cast,seval]
def loK (k:Int):Int:=if k=2 then (-999999999999999) else if k=3 then (-999999999999999) else if k=6 then (-719162) else if k=7 then (-62135596800000) else 0
def hiK (k:Int):Int:=if k=2 then 999999999999999 else if k=3 then 999999999999999 else if k=4 then 1024 else if k=5 then 1024 else if k=6 then 2932896 else if k=7 then 253402300799999 else if k=8 then 256 else 0
def fy (k:Int)(t:Typ):Bool:=jD (decide (2<=k)&&decide (k<=8)) (decide (k=3)) (decide (k=4)) (decide (k=8)) (decide (9<=k)) t
def cU (k m M s:Int)(w:List (List UInt8)):Int:=if k=4/\0<w.length then bH m M w else if (2<=k/\k<=8)/\(M<m\/m<loK k\/hiK k<M) then 2 else if k=3/\inB s 0 12=false then 2 else 0
def bv (k:Int)(e f:Nat):Int:=if k=8/\e=0 then 4 else if k=10/\f=0 then 4 else if k=8/\1<e then 3 else if 64<f then 9 else 0
def bf (k:Int):List TFd->List TFd->Int
 | _,[]=>0
 | b,g::r=>if dh k b g=0 then bf k (b++[g]) r else dh k b g
theorem j0 {k:Int}{f:List TFd}{i:Nat}{g:TFd}(h:f[i]? = some g):bf k (f.take i) (f.drop i)=if dh k (f.take i) g=0 then bf k (f.take (i+1)) (f.drop (i+1)) else dh k (f.take i) g:=by
 have hi:=(Vh.1 h).1
 have he:f[i]=g:=(Vh.1 h).2
 rw[List.drop_eq_getElem_cons hi,he,bf,aD h]
def fv:Typ->Int
 | .mk k m M s w e f=>if inB k 1 10=false then 11 else if fy k (.mk k m M s w e f)=true then 3 else if ¬ cU k m M s w=0 then cU k m M s w else if ¬ bv k e.length f.length=0 then bv k e.length f.length else bf k [] f
section
variable (m M s:Int)(w:List (List UInt8))(e:List Typ)(f:List TFd)
theorem Px (k:Int)(hk:1<=k/\k<=10):∃ nm,fJ true 11 8 (.pv (.agg DL)) (.pv (.int .i64 k))=some (.pv (lim nm (loK k) (hiK k) (decide (2<=k)&&decide (k<=8)) (decide (k=3)) (decide (k=4)) (decide (k=8)) (decide (9<=k)))) /\
  ae Tryz.prog aq 189 [(Typ.mk k m M s w e f).pv,lim nm (loK k) (hiK k) (decide (2<=k)&&decide (k<=8)) (decide (k=3)) (decide (k=4)) (decide (k=8)) (decide (9<=k))] (.int .i64 (if fy k (.mk k m M s w e f)=true then 3 else 0)):=by
 have hc:k=1\/k=2\/k=3\/k=4\/k=5\/k=6\/k=7\/k=8\/k=9\/k=10:=by omega
 rcases hc with rfl | rfl | rfl | rfl | rfl | rfl | rfl | rfl | rfl | rfl
 all_goals exact⟨_,rfl,Na _ m M s w e f _ _ _ _ _ _ _ _⟩
theorem PQ (k:Int)(hw:∀ x∈w,x.length<=140737488351232)(hl:f.length<=1000000000)(hwl:w.length<=9000000000000)(hel:e.length<=9000000000000):ae Tryz.prog aq 143 [(Typ.mk k m M s w e f).pv] (.int .i64 (fv (.mk k m M s w e f))):=by
 have hi:=rn k 1 10
 by_cases hk:inB k 1 10=false
 ·rw[hk] at hi
  rw[show fv (.mk k m M s w e f)=11 by simp[fv,hk]]
  refine ae.intro KS.2 (by simp[KS]) ?_
  simp(disch:=try exact dI) only[KS,Vd,push_cast,seval]
  refine ab.pure hi rfl ?_
  exact qsZ
 have hk:inB k 1 10=true:=by simpa using hk
 have hr:1<=k/\k<=10:=by simpa[inB] using hk
 rw[hk] at hi
 obtain⟨nm,hx,hf⟩:=Px m M s w e f k hr
 have hks:=Im
 have h190:=F8 k m M s w e f hw
 have hsc:=rn s 0 12
 obtain⟨R,hR⟩:∃ R,R=bf k [] f:=⟨_,rfl⟩
 rw[show fv (.mk k m M s w e f)=if fy k (.mk k m M s w e f)=true then 3 else if ¬ cU k m M s w=0 then cU k m M s w else if ¬ bv k e.length f.length=0 then bv k e.length f.length else R by rw[fv,if_neg (by rw[hk];decide),hR]]
 simp only[Vd,lim] at hf hx h190
 generalize fy k (.mk k m M s w e f)=b at hf ⊢
 refine ae.intro KS.2 (by simp[KS]) ?_
 simp(disch:=try exact dI) only[KS,Vd,push_cast,seval]
 refine ab.pure hi rfl ?_
 refine zgZ ?_
 refine ak hks rfl ?_
 simp(disch:=try exact dI) only[hx,push_cast,seval]
 refine ab.pure hf rfl ?_
 cases b with
 | true=>
   rw[if_pos rfl]
   exact qsZ
 | false=>
 rw[if_neg (show ¬ false=true by decide)]
 obtain⟨lo,hlo⟩:∃ lo,lo=loK k:=⟨_,rfl⟩
 obtain⟨hi',hhi⟩:∃ hi',hi'=hiK k:=⟨_,rfl⟩
 rw[<- hlo,<- hhi]
 by_cases hw4:k=4/\0<w.length
 case' pos=>
  have hw0I:(0:Int)<(w.length:Int):=by omega
  have h4:k=4:=hw4.1
  rw[show cU k m M s w=bH m M w by unfold cU;rw[if_pos hw4]]
  generalize bH m M w=z at h190 ⊢
  simp(disch:=try exact dI) only[eq_true h4,hw0I,push_cast,seval]
  refine ab.pure h190 rfl ?_
  by_cases hz:z=0
  case' neg=>rw[if_pos hz];simp(disch:=try exact dI) only[hz,push_cast,seval]
  case' pos=>rw[if_neg (by simpa using hz)]
 case' neg=>
  by_cases h4:k=4
  case' pos=>
   have hw0I:¬ (0:Int)<(w.length:Int):=by omega
   have h4':=eq_true h4
  case' neg=>
   have hw0I:=h4
   have h4':=eq_false h4
  all_goals
   by_cases hb:2<=k/\k<=8
   case' neg=>
    have hB:(decide (2<=k)&&decide (k<=8))=false:=by simp;omega
    have h3:¬ k=3:=by omega
    rw[show cU k m M s w=0 by unfold cU;rw[if_neg hw4,if_neg (fun h=>hb h.1)];exact if_neg fun h=>h3 h.1,if_neg (by simp)]
    simp(disch:=try exact dI) only[h4',hw0I,hB,eq_false h3,push_cast,seval]
   case' pos=>
    have hB:(decide (2<=k)&&decide (k<=8))=true:=by simp;omega
    by_cases hbad:M<m\/m<lo\/hi'<M
    case' pos=>
     rw[show cU k m M s w=2 by unfold cU;rw[if_neg hw4,if_pos ⟨hb,by rw[<- hlo,<- hhi];exact hbad⟩],if_pos (by decide)]
     rcases hbad with h | h | h
     ·simp(disch:=try exact dI) only[h4',hw0I,hB,h,push_cast,seval]
     ·by_cases g:M<m
      ·simp(disch:=try exact dI) only[h4',hw0I,hB,g,push_cast,seval]
      ·simp(disch:=try exact dI) only[h4',hw0I,hB,g,h,push_cast,seval]
     ·by_cases g:M<m
      ·simp(disch:=try exact dI) only[h4',hw0I,hB,g,push_cast,seval]
      ·by_cases g':m<lo
       ·simp(disch:=try exact dI) only[h4',hw0I,hB,g,g',push_cast,seval]
       ·simp(disch:=try exact dI) only[h4',hw0I,hB,g,g',h,push_cast,seval]
    case' neg=>
     have n1:¬ M<m:=fun h=>hbad (.inl h)
     have n2:¬ m<lo:=fun h=>hbad (.inr (.inl h))
     have n3:¬ hi'<M:=fun h=>hbad (.inr (.inr h))
     have hb0:cU k m M s w=if k=3/\inB s 0 12=false then 2 else 0:=by unfold cU;rw[if_neg hw4,if_neg (fun h=>hbad (by rw[hlo,hhi];exact h.2))]
     by_cases h3:k=3
     case' neg=>
      rw[show cU k m M s w=0 by rw[hb0];exact if_neg fun h=>h3 h.1,if_neg (by simp)]
      simp(disch:=try exact dI) only[h4',hw0I,hB,n1,n2,n3,eq_false h3,push_cast,seval]
     case' pos=>
      have h4':=eq_false (show ¬ k=4 by omega)
      rw[show cU k m M s w=if inB s 0 12=false then 2 else 0 by rw[hb0];simp only[h3,true_and]]
      generalize inB s 0 12=q at hsc ⊢
      simp(disch:=try exact dI) only[h4',hw0I,hB,n1,n2,n3,eq_true h3,push_cast,seval]
      refine ab.pure hsc rfl ?_
      cases q
      case' false=>rw[if_pos rfl,if_pos (by decide)];simp(disch:=try exact dI) only[push_cast,seval]
      case' true=>rw[if_neg (show ¬ true=false by decide),if_neg (by decide)]
 any_goals omega
 all_goals
  have hcs:(k=8/\e.length=0)\/(k=8/\¬ e.length=0/\1<e.length)\/(k=10/\f.length=0)\/((¬ (k=8/\e.length=0)/\¬ (k=10/\f.length=0))/\¬ (k=8/\1<e.length)):=by omega
  rcases hcs with ⟨h8,he⟩ | ⟨h8,he,he1⟩ | ⟨h8,he⟩ | ⟨⟨h1,h2⟩,h3⟩
  ·rw[if_pos (by simp[bv,h8,he]),show bv k e.length f.length=4 by simp[bv,h8,he]]
   have he:(e.length:Int)=0:=by omega
   simp(disch:=try exact dI) only[eq_true h8,he,push_cast,seval]
   all_goals omega
  ·rw[if_pos (by simp[bv,h8,he,he1]),show bv k e.length f.length=3 by simp[bv,h8,he,he1]]
   have he:¬ (e.length:Int)=0:=by omega
   have he1:(1:Int)<(e.length:Int):=by omega
   have h10:¬ k=10:=by omega
   simp(disch:=try exact dI) only[eq_true h8,eq_false h10,he,he1,push_cast,seval]
   all_goals omega
  ·have h8':¬ k=8:=by omega
   rw[if_pos (by simp[bv,h8,he]),show bv k e.length f.length=4 by simp[bv,h8,he]]
   have he:(f.length:Int)=0:=by omega
   simp(disch:=try exact dI) only[eq_true h8,eq_false h8',he,push_cast,seval]
   all_goals omega
  ·have hs0:64<f.length\/bv k e.length f.length=0:=by
    by_cases h:64<f.length
    ·exact .inl h
    ·exact .inr (by unfold bv;rw[if_neg h1,if_neg h2,if_neg h3,if_neg h])
   have hs9:64<f.length->bv k e.length f.length=9:=fun h=>by unfold bv;rw[if_neg h1,if_neg h2,if_neg h3,if_pos h]
   generalize bv k e.length f.length=z at hs0 hs9 ⊢
   by_cases a:k=8
   case' pos=>
    have b:¬ k=10:=by omega
    have g:¬ (e.length:Int)=0:=by omega
    have g':¬ (1:Int)<(e.length:Int):=by omega
    first
    | omega
    | simp(disch:=try exact dI) only[eq_true a,eq_false b,g,g',push_cast,seval]
   case' neg=>
    by_cases b:k=10
    case' pos=>
     have g:¬ (f.length:Int)=0:=by omega
     first
     | omega
     | simp(disch:=try exact dI) only[eq_false a,eq_true b,g,push_cast,seval]
    case' neg=>try simp(disch:=try exact dI) only[eq_false a,eq_false b,push_cast,seval]
   all_goals
    by_cases h64:64<f.length
    case' pos=>
     have h64I:(64:Int)<(f.length:Int):=by omega
     rw[hs9 h64,if_pos (by decide)]
     simp(disch:=try exact dI) only[h64I,push_cast,seval]
    case' neg=>
     have h64I:¬ (64:Int)<(f.length:Int):=by omega
     rw[hs0.resolve_left h64,if_neg (show ¬ ¬ (0:Int)=0 by decide)]
     simp(disch:=try exact dI) only[h64I,push_cast,seval]
     refine ap ([]) (fun i:Nat=>[(106,.pv (.int .i64 (i:Int)))]) (fun _=>[]) (fun i=>i<=f.length/\R=bf k (f.take i) (f.drop i)) (fun i=>f.length - i) (0) ?_;intro e0 σ0 n0 h0;simp(disch:=try exact dI) only[push_cast,seval] at h0;obtain⟨rfl,rfl,rfl⟩:=h0;refine⟨?_,?_,?_⟩
     ·exact qsZ
     ·exact⟨by omega,by simpa using hR⟩
     rintro i ⟨hi,hr⟩
     by_cases hlt:i<f.length
     ·have hltI:(i:Int)<(f.length:Int):=by omega
      obtain⟨g,hg⟩:∃ g,f[i]? = some g:=⟨_,Vg hlt⟩
      have hfi:=IZ k m M s w e f hl i g hg
      simp only[Vd] at hfi
      rw[j0 hg] at hr
      generalize dh k (f.take i) g=z2 at hfi hr
      by_cases hz2:z2=0
      ·subst hz2
       rw[if_pos rfl] at hr
       refine zgZ ?_
       refine ab.pure hfi rfl ?_
       refine zgZ ?_
       exact⟨i+1,aI qsZ,⟨by omega,hr⟩,by omega⟩
      ·rw[if_neg hz2] at hr
       subst hr
       refine zgZ ?_
       refine ab.pure hfi rfl ?_
       simp(disch:=try exact dI) only[hz2,push_cast,seval]
     ·obtain rfl:i=f.length:=by omega
      rw[List.drop_length,bf] at hr
      subst hr
      simp(disch:=try exact dI) only[VH,push_cast,seval]
end
def bi:Typ->List Typ
 | .mk k _ _ _ _ e f=>if k=8 then e else if k=9\/k=10 then f.map TFd.typ else []
theorem HE (k m M s:Int)(w:List (List UInt8))(e:List Typ)(fs:List TFd)(hf:fs.length*104<=140737488351232):ae Tryz.prog aq 144 [(Typ.mk k m M s w e fs).pv] (.list ((bi (.mk k m M s w e fs)).map Typ.pv)):=by
 by_cases h8:k=8
 ·rw[show bi (.mk k m M s w e fs)=e from if_pos h8]
  subst h8
  refine ae.intro FO.2 (by simp[FO]) ?_
  simp(disch:=try exact dI) only[FO,Vd,push_cast,seval]
 ·by_cases h9:k=9\/k=10
  ·rw[show bi (.mk k m M s w e fs)=fs.map TFd.typ by simp only[bi];rw[if_neg h8,if_pos h9]]
   have key:∀ c:Bool,True:=fun _=>trivial
   rcases h9 with rfl | rfl
   all_goals
    refine ae.intro FO.2 (by simp[FO]) ?_
    simp(disch:=try exact dI) only[FO,Vd,push_cast,seval]
    refine ap ([]) (fun i:Nat=>[(3,.olist 0 7 (((fs.take i).map TFd.typ).map Typ.pv)),(22,.pv (.int .i64 (i:Int)))]) (fun _=>[]) (fun i=>i<=fs.length) (fun i=>fs.length - i) (0) ?_;intro e0 σ0 n0 h0;simp(disch:=try exact dI) only[push_cast,seval] at h0;obtain⟨rfl,rfl,rfl⟩:=h0;refine⟨?_,?_,?_⟩
    ·exact qsZ
    ·omega
    rintro i hi
    by_cases hlt:i<fs.length
    ·have hltI:(i:Int)<(fs.length:Int):=by omega
     obtain⟨c,hc⟩:∃ c,fs[i]? = some c:=⟨_,Vg hlt⟩
     have hts:=aD hc
     obtain⟨n',nm',nd',⟨k',m',M',s',w',e',f'⟩,d'⟩:=c
     simp(disch:=try exact dI) only[hc,Vl,U7,Vd,ag,push_cast,seval]
     exact⟨i+1,aI (by simp(disch:=try exact dI) only[hts,VI,TFd.typ,Vd,push_cast,seval]),by omega,by omega⟩
    ·have he:i=fs.length:=by omega
     subst he
     simp(disch:=try exact dI) only[VR,oU,push_cast,seval]
  ·rw[show bi (.mk k m M s w e fs)=[] by simp only[bi];rw[if_neg h8,if_neg h9]]
   have h9':¬ k=9:=by omega
   have h10:¬ k=10:=by omega
   refine ae.intro FO.2 (by simp[FO]) ?_
   simp(disch:=try exact dI) only[FO,Vd,push_cast,seval]
def Ol (v:Val):Int:=((ck 9 1 v).length:Int)
def Sr (v:Val):Prop:=cL 9 v/\v.ok/\(ck 9 1 v).length<=1000000000000
def ic (least:Typ->Int):TFd->Int
 | .mk _ _ nd t d=>if nd=1 then least t else if nd=3 then (match d with | []=>0 | x::_=>Ol x) else 0
def D1 (p:Typ->Int):List Typ->Int
 | []=>0
 | x::_=>p x
def D2 (p:Typ->Int):List TFd->Int
 | []=>0
 | .mk _ _ _ t _::_=>p t
def cm (p:Typ->Int)(k m:Int)(e:List Typ)(f:List TFd):Int:=if k=8 then (if 0<m then m*D1 p e else 0) else if k=10 then D2 p f else if k=9 then (f.map (ic p)).sum else 0
def ci:Nat->Typ->Int
 | 0,_=>1
 | n+1,.mk k m _ _ _ e f=>min (1+cm (ci n) k m e f) 4097
def lE (p:Typ->Prop):TFd->Prop
 | .mk _ _ nd t d=>(nd=1->p t)/\(nd=3->∃ x r,d=x::r/\Sr x)
def fh:Nat->Typ->Prop
 | 0,_=>False
 | n+1,.mk k m _ _ _ e f=>(k=8->0<m->m<=256/\∃ x r,e=x::r/\fh n x)/\(k=10->∃ g r,f=g::r/\fh n g.typ)/\(k=9->f.length<=64/\∀ g∈f,lE (fh n) g)
theorem vj {n:Nat}(hle:∀ t,fh n t->1<=ci n t/\ci n t<=4097){g:TFd}(hg:lE (fh n) g):0<=ic (ci n) g/\ic (ci n) g<=1000000000000:=by
 obtain⟨a,b,nd,t,d⟩:=g
 simp only[ic,lE] at hg ⊢
 by_cases h1:nd=1
 ·rw[if_pos h1];have:=hle t (hg.1 h1);omega
 ·rw[if_neg h1]
  by_cases h3:nd=3
  ·obtain⟨x,r,rfl,hx⟩:=hg.2 h3
   rw[if_pos h3]
   have:=hx.2.2
   simp only[Ol];omega
  ·rw[if_neg h3];omega
theorem lc {p:TFd->Int}:∀ (f:List TFd),(∀ g∈f,0<=p g/\p g<=1000000000000)->0<=(f.map p).sum/\(f.map p).sum<=1000000000000*f.length
 | [],_=>by simp
 | g::r,h=>by
   have h1:=h g (List.mem_cons_self ..)
   have h2:=lc r fun x hx=>h x (List.mem_cons_of_mem _ hx)
   simp only[List.map_cons,List.sum_cons,List.length_cons]
   omega
theorem gm:∀ (n:Nat) (t:Typ),fh n t->1<=ci n t/\ci n t<=4097
 | 0,_,h=>h.elim
 | n+1,.mk k m M s w e f,h=>by
   simp only[ci,fh] at h ⊢
   obtain⟨h8,h10,h9⟩:=h
   refine⟨?_,by omega⟩
   have key:0<=cm (ci n) k m e f:=by
    unfold cm
    split
    ·split
     ·rename_i e1 e2
      obtain⟨_,x,r,rfl,hx⟩:=h8 e1 e2
      have:=gm n x hx
      exact Int.mul_nonneg (by omega) (by simp only[D1];omega)
     ·omega
    ·split
     ·rename_i e1 e2
      obtain⟨g,r,rfl,hx⟩:=h10 e2
      have:=gm n g.typ hx
      obtain⟨a,b,c,t,d⟩:=g
      simp only[D2,TFd.typ] at this ⊢;omega
     ·split
      ·rename_i e1
       exact (lc f fun g hg=>vj (gm n) ((h9 e1).2 g hg)).1
      ·omega
   omega
theorem uQ {p:TFd->Int}{f:List TFd}{i:Nat}{g:TFd}(h:f[i]? = some g):((f.take (i+1)).map p).sum=((f.take i).map p).sum+p g:=by
 rw[aD h,VI,List.sum_append];simp
theorem jW:∀ (n:Nat) (t:Typ),fh n t->ae Tryz.prog aq 146 [t.pv] (.int .i64 (ci n t))
 | 0,_,h=>h.elim
 | n+1,.mk k m M s w e f,h=>by
   have ih:=jW n
   have hle:=gm n
   have hpos:∀ g,lE (fh n) g->0<=ic (ci n) g/\ic (ci n) g<=1000000000000:=fun g hg=>vj hle hg
   simp only[fh] at h
   obtain⟨h8,h10,h9⟩:=h
   simp only[ci]
   generalize ci n=L at *
   refine ae.intro JI.2 (by simp[JI]) ?_
   by_cases hk8:k=8
   ·subst hk8
    by_cases hm:0<m
    ·obtain⟨hm2,x,r,rfl,hx⟩:=h8 rfl hm
     have hc:=ih x hx
     have hl:=hle x hx
     obtain⟨k',m',M',s',w',e',f'⟩:=x
     simp only[Vd] at hc
     generalize hz:L (Typ.mk k' m' M' s' w' e' f')=z at hc hl
     have hmul:0<=m*z:=Int.mul_nonneg (by omega) (by omega)
     have hmul2:m*z<=256*4097:=Int.mul_le_mul hm2 hl.2 (by omega) (by omega)
     have hmm:cm L 8 m (Typ.mk k' m' M' s' w' e' f'::r) f=m*z:=by simp only[cm,D1,hz,if_pos hm,if_true]
     clear hz
     rw[hmm]
     simp(disch:=try exact dI) only[JI,Vd,hm,az,push_cast,seval]
     refine ak hc rfl ?_
     exact qsZ
    ·rw[show cm L 8 m e f=0 by simp only[cm,if_neg hm,if_true]]
     simp(disch:=try exact dI) only[JI,Vd,hm,push_cast,seval]
   by_cases hk10:k=10
   ·subst hk10
    obtain⟨g,r,rfl,hx⟩:=h10 rfl
    obtain⟨n',nm',nd',⟨k',m',M',s',w',e',f'⟩,d'⟩:=g
    simp only[TFd.typ] at hx
    have hc:=ih _ hx
    have hl:=hle _ hx
    simp only[Vd] at hc
    generalize hz:L (Typ.mk k' m' M' s' w' e' f')=z at hc hl
    have hmm:cm L 10 m e (TFd.mk n' nm' nd' (Typ.mk k' m' M' s' w' e' f') d'::r)=z:=by simp[cm,D2,hz]
    clear hz
    rw[hmm]
    simp(disch:=try exact dI) only[JI,Vd,az,U7,ag,push_cast,seval]
    refine ab.pure hc rfl ?_
    exact qsZ
   by_cases hk9:k=9
   ·subst hk9
    obtain⟨hf,hr⟩:=h9 rfl
    rw[show cm L 9 m e f=(f.map (ic L)).sum by simp[cm]]
    have hrp:∀ g∈f,0<=ic L g/\ic L g<=1000000000000:=fun g hg=>hpos g (hr g hg)
    simp(disch:=try exact dI) only[JI,Vd,push_cast,seval]
    refine ap ([]) (fun i:Nat=>[(3,.pv (.int .i64 (1+((f.take i).map (ic L)).sum))),(38,.pv (.int .i64 (i:Int)))]) (fun _=>[]) (fun i=>i<=f.length) (fun i=>f.length - i) (0) ?_;intro e0 σ0 n0 h0;simp(disch:=try exact dI) only[push_cast,seval] at h0;obtain⟨rfl,rfl,rfl⟩:=h0;refine⟨?_,?_,?_⟩
    ·simp(disch:=try exact dI) only[V8,List.map_nil,List.sum_nil,push_cast,seval]
    ·omega
    rintro i hi
    have hsm:=lc (f.take i) fun g hg=>hrp g (List.mem_of_mem_take hg)
    rw[List.length_take] at hsm
    by_cases hlt:i<f.length
    ·have hltI:(i:Int)<(f.length:Int):=by omega
     obtain⟨g,hg⟩:∃ g,f[i]? = some g:=⟨_,Vg hlt⟩
     have hst:=uQ (p:=ic L) hg
     have hgr:=hr g (Vk hg)
     have hgp:=hrp g (Vk hg)
     obtain⟨n',nm',nd',⟨k',m',M',s',w',e',f'⟩,d'⟩:=g
     simp only[lE] at hgr
     generalize hS:((f.take i).map (ic L)).sum=S at *
     by_cases h1:nd'=1
     ·subst h1
      have hc:=ih _ (hgr.1 rfl)
      simp only[Vd] at hc
      simp only[ic,if_true] at hst hgp
      generalize L (Typ.mk k' m' M' s' w' e' f')=z at hc hst hgp
      simp(disch:=try exact dI) only[hg,Vl,U7,Vd,ag,push_cast,seval]
      refine ab.pure hc rfl ?_
      refine zgZ ?_
      exact⟨i+1,aI (by simp(disch:=try exact dI) only[hst,Int.add_assoc,push_cast,seval]),by omega,by omega⟩
     ·by_cases h3:nd'=3
      ·subst h3
       obtain⟨x,r,rfl,hx⟩:=hgr.2 rfl
       have hc:=Lz 9 x hx.1 hx.2.1 (by omega) (by have:=hx.2.2;omega)
       simp only[ic,if_neg h1,if_true,Ol] at hst hgp
       generalize ((ck 9 1 x).length:Int)=z at hc hst hgp
       obtain⟨vk,vn,vs,vt,vl,vf⟩:=x
       simp only[Vf] at hc
       simp(disch:=try exact dI) only[hg,Vl,U7,Vd,ag,az,Vf,push_cast,seval]
       refine ab.pure hc rfl ?_
       refine zgZ ?_
       exact⟨i+1,aI (by simp(disch:=try exact dI) only[hst,Int.add_assoc,push_cast,seval]),by omega,by omega⟩
      ·simp only[ic,if_neg h1,if_neg h3] at hst
       simp(disch:=try exact dI) only[hg,Vl,U7,Vd,ag,h1,h3,push_cast,seval]
       exact⟨i+1,aI (by simp(disch:=try exact dI) only[hst,Int.add_zero,push_cast,seval]),by omega,by omega⟩
    ·have he:i=f.length:=by omega
     subst he
     rw[VR] at hsm ⊢
     simp(disch:=try exact dI) only[VH,push_cast,seval]
   ·rw[show cm L k m e f=0 by simp[cm,hk8,hk9,hk10]]
    simp(disch:=try exact dI) only[JI,Vd,push_cast,seval]
def cB:Nat->Typ->Int
 | 0,_=>0
 | n+1,.mk k m M s w e f=>f.foldl (fun a g=>max a (cB n g.typ)) (e.foldl (fun a x=>max a (cB n x)) (ci 9 (.mk k m M s w e f)))
def Ro:Nat->Typ->Prop
 | 0,_=>False
 | n+1,.mk k m M s w e f=>fh 9 (.mk k m M s w e f)/\e.length<=1000000000/\f.length<=1000000000/\(∀ x∈e,Ro n x)/\∀ g∈f,Ro n g.typ
theorem go {α β:Type}{p:β->α->β}{l:List α}{i:Nat}{x:α}(h:l[i]? = some x)(b:β):(l.take (i+1)).foldl p b=p ((l.take i).foldl p b) x:=by rw[aD h,List.foldl_append];rfl
theorem gJ:∀ (n:Nat) (t:Typ),Ro n t->ae Tryz.prog aq 95 [t.pv] (.int .i64 (cB n t))
 | 0,_,h=>h.elim
 | n+1,.mk k m M s w e f,h=>by
   have ih:=gJ n
   simp only[Ro] at h
   obtain⟨h1,hel,hfl,he,hf⟩:=h
   have hle:=jW 9 _ h1
   simp only[cB]
   generalize ci 9 (.mk k m M s w e f)=z at *
   simp only[Vd] at hle
   obtain⟨Q,hQ⟩:∃ Q,Q=fun (a:Int) (x:Typ)=>max a (cB n x):=⟨_,rfl⟩
   obtain⟨R,hR⟩:∃ R,R=fun (a:Int) (x:TFd)=>max a (cB n x.typ):=⟨_,rfl⟩
   rw[<- hQ,<- hR]
   refine ae.intro Q95.2 (by simp[Q95]) ?_
   simp(disch:=try exact dI) only[Q95,Vd,push_cast,seval]
   refine ab.pure hle rfl ?_
   refine zgZ ?_
   refine ap ([]) (fun i:Nat=>[(3,.pv (.int .i64 ((e.take i).foldl Q z))),(13,.pv (.int .i64 (i:Int)))]) (fun _=>[]) (fun i=>i<=e.length) (fun i=>e.length - i) (0) ?_;intro e0 σ0 n0 h0;simp(disch:=try exact dI) only[push_cast,seval] at h0;obtain⟨rfl,rfl,rfl⟩:=h0;refine⟨?_,?_,?_⟩
   ·simp(disch:=try exact dI) only[V8,List.foldl_nil,push_cast,seval]
   ·omega
   rintro i hi
   by_cases hlt:i<e.length
   ·have hltI:(i:Int)<(e.length:Int):=by omega
    obtain⟨x,hx⟩:∃ x,e[i]? = some x:=⟨_,Vg hlt⟩
    have hc:=ih x (he x (Vk hx))
    have hst:=go (p:=Q) hx z
    rw[show Q ((e.take i).foldl Q z) x=max ((e.take i).foldl Q z) (cB n x) by rw[hQ]] at hst
    generalize cB n x=y at hc hst
    obtain⟨k',m',M',s',w',e',f'⟩:=x
    simp only[Vd] at hc
    simp(disch:=try exact dI) only[hx,Vl,Vd,ag,push_cast,seval]
    refine ab.pure hc rfl ?_
    refine zgZ ?_
    exact⟨i+1,aI (by simp(disch:=try exact dI) only[hst,push_cast,seval]),by omega,by omega⟩
   obtain rfl:i=e.length:=by omega
   clear hi hlt
   rw[VR]
   generalize e.foldl Q z=z2
   simp(disch:=try exact dI) only[VH,push_cast,seval]
   refine ap ([]) (fun i:Nat=>[(3,.pv (.int .i64 ((f.take i).foldl R z2))),(25,.pv (.int .i64 (i:Int)))]) (fun _=>[]) (fun i=>i<=f.length) (fun i=>f.length - i) (0) ?_;intro e0 σ0 n0 h0;simp(disch:=try exact dI) only[push_cast,seval] at h0;obtain⟨rfl,rfl,rfl⟩:=h0;refine⟨?_,?_,?_⟩
   ·simp(disch:=try exact dI) only[V8,List.foldl_nil,push_cast,seval]
   ·omega
   rintro i hi
   by_cases hlt:i<f.length
   ·have hltI:(i:Int)<(f.length:Int):=by omega
    obtain⟨x,hx⟩:∃ x,f[i]? = some x:=⟨_,Vg hlt⟩
    have hc:=ih x.typ (hf x (Vk hx))
    have hst:=go (p:=R) hx z2
    rw[show R ((f.take i).foldl R z2) x=max ((f.take i).foldl R z2) (cB n x.typ) by rw[hR]] at hst
    generalize cB n x.typ=y at hc hst
    obtain⟨n',nm',nd',⟨k',m',M',s',w',e',f'⟩,d'⟩:=x
    simp only[TFd.typ,Vd] at hc
    simp(disch:=try exact dI) only[hx,Vl,Vd,U7,ag,push_cast,seval]
    refine ab.pure hc rfl ?_
    refine zgZ ?_
    exact⟨i+1,aI (by simp(disch:=try exact dI) only[hst,push_cast,seval]),by omega,by omega⟩
   obtain rfl:i=f.length:=by omega
   clear hi hlt
   rw[VR]
   simp(disch:=try exact dI) only[VH,push_cast,seval]

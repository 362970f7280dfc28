/- A part. -/
import Derived.Test.YtngchmkoadaecaaGreatDoorClJS3
set_option linter.unusedVariables false
set_option linter.unusedSimpArgs false
set_option maxHeartbeats 16000000
set_option maxRecDepth 100000
open List renaming getElem?_eq_some_iff->Ur,getElem?_eq_getElem->Uq,sizeOf_lt_of_mem->Vi
namespace Go.Proofs.YtngchmkoadaecaaGreatDoor
open Go Go.Ab
attribute [local irreducible] vc
def BU:List PV:=[.str [],.int .i64 0,.int .i64 0,.bool false,.bool false,.bool false,.bool false,.bool false,.str [98,111,111,108],.int .i64 0,.int .i64 0,.bool false,.bool false,.bool false,.bool false,.bool false,.str [105,110,116],.int .i64 (-999999999999999),.int .i64 999999999999999,.bool true,.bool false,.bool false,.bool false,.bool false,.str [100,101,99,105,109,97,108],.int .i64 (-999999999999999),.int .i64 999999999999999,.bool true,.bool true,.bool false,.bool false,.bool false,.str [116,101,120,116],.int .i64 0,.int .i64 1024,.bool true,.bool false,.bool true,.bool false,.bool false,.str [98,121,116,101,115],.int .i64 0,.int .i64 1024,.bool true,.bool false,.bool false,.bool false,.bool false,.str [100,97,116,101],.int .i64 (-719162),.int .i64 2932896,.bool true,.bool false,.bool false,.bool false,.bool false,.str [116,105,109,101],.int .i64 (-62135596800000),.int .i64 253402300799999,.bool true,.bool false,.bool false,.bool false,.bool false,.str [108,105,115,116],.int .i64 0,.int .i64 256,.bool true,.bool false,.bool false,.bool true,.bool false,.str [114,101,99,111,114,100],.int .i64 0,.int .i64 0,.bool false,.bool false,.bool false,.bool false,.bool true,.str [118,97,114,105,97,110,116],.int .i64 0,.int .i64 0,.bool false,.bool false,.bool false,.bool false,.bool true]
theorem GO:ap Tryz.prog aB 140 [] (.agg BU):=by
 refine ap.intro SY.2 (by simp[SY]) ?_
 simp only[BU]
 simp(maxSteps:=9^7) (disch:=try exact dI) only[SY,push_cast,seval]
def loK (k:Int):Int:=if k=2 then (-999999999999999) else if k=3 then (-999999999999999) else if k=6 then (-719162) else if k=7 then (-62135596800000) else 0
def hiK (k:Int):Int:=if k=2 then 999999999999999 else if k=3 then 999999999999999 else if k=4 then 1024 else if k=5 then 1024 else if k=6 then 2932896 else if k=7 then 253402300799999 else if k=8 then 256 else 0
def jR (k:Int)(t:Typ):Bool:=aM (decide (2<=k)&&decide (k<=8)) (decide (k=3)) (decide (k=4)) (decide (k=8)) (decide (9<=k)) t
def fc (k m M s:Int)(w:List (List UInt8)):Int:=if k=4/\0<w.length then eC m M w else if (2<=k/\k<=8)/\(M<m\/m<loK k\/hiK k<M) then 2 else if k=3/\inB s 0 12=false then 2 else 0
def cU (k:Int)(e f:Nat):Int:=if k=8/\e=0 then 4 else if k=10/\f=0 then 4 else if k=8/\1<e then 3 else if 64<f then 9 else 0
def dl (k:Int):List TFd->List TFd->Int
 | _,[]=>0
 | b,g::r=>if e9 k b g=0 then dl k (b++[g]) r else e9 k b g
theorem oD {k:Int}{f:List TFd}{i:Nat}{g:TFd}(h:f[i]? = some g):dl k (f.take i) (f.drop i)=if e9 k (f.take i) g=0 then dl k (f.take (i+1)) (f.drop (i+1)) else e9 k (f.take i) g:=by
 have hi:=(Ur.1 h).1
 have he:f[i]=g:=(Ur.1 h).2
 rw[List.drop_eq_getElem_cons hi,he,dl,aC h]
def kq:Typ->Int
 | .mk k m M s w e f=>if inB k 1 10=false then 11 else if jR k (.mk k m M s w e f)=true then 3 else if ¬ fc k m M s w=0 then fc k m M s w else if ¬ cU k e.length f.length=0 then cU k e.length f.length else dl k [] f
section
variable (m M s:Int)(w:List (List UInt8))(e:List Typ)(f:List TFd)
theorem Of (k:Int)(hk:1<=k/\k<=10):∃ nm,gX true 11 8 (.pv (.agg BU)) (.pv (.int .i64 k))=some (.pv (lim nm (loK k) (hiK k) (decide (2<=k)&&decide (k<=8)) (decide (k=3)) (decide (k=4)) (decide (k=8)) (decide (9<=k)))) /\
  ap Tryz.prog aB 141 [(Typ.mk k m M s w e f).pv,lim nm (loK k) (hiK k) (decide (2<=k)&&decide (k<=8)) (decide (k=3)) (decide (k=4)) (decide (k=8)) (decide (9<=k))] (.int .i64 (if jR k (.mk k m M s w e f)=true then 3 else 0)):=by
 have hc:k=1\/k=2\/k=3\/k=4\/k=5\/k=6\/k=7\/k=8\/k=9\/k=10:=by omega
 rcases hc with rfl | rfl | rfl | rfl | rfl | rfl | rfl | rfl | rfl | rfl
 all_goals first | exact⟨_,rfl,Cs _ m M s w e f _ _ _⟩ | exact⟨_,rfl,Cv _ m M s w e f _ _ _⟩ | exact⟨_,rfl,Cu _ m M s w e f _ _ _⟩ | exact⟨_,rfl,Cq _ m M s w e f _ _ _⟩ | exact⟨_,rfl,Ct _ m M s w e f _ _ _⟩ | exact⟨_,rfl,Cr _ m M s w e f _ _ _⟩
theorem OG (k:Int)(hw:∀ x∈w,x.length<=140737488351232)(hl:f.length<=9000000000000)(hwl:w.length<=9000000000000)(hel:e.length<=9000000000000):ap Tryz.prog aB 130 [(Typ.mk k m M s w e f).pv] (.int .i64 (kq (.mk k m M s w e f))):=by
 have hi:=mr k 1 10
 by_cases hk:inB k 1 10=false
 ·rw[hk] at hi
  rw[show kq (.mk k m M s w e f)=11 by simp[kq,hk]]
  refine ap.intro No.2 (by simp[No]) ?_
  simp(maxSteps:=9^7) (disch:=try exact dI) only[No,Um,push_cast,seval]
  refine ab.pure hi rfl ?_
  simp(maxSteps:=9^7) (disch:=try exact dI) only[push_cast,seval]
 have hk:inB k 1 10=true:=by simpa using hk
 have hr:1<=k/\k<=10:=by simpa[inB] using hk
 rw[hk] at hi
 obtain⟨nm,hx,hf⟩:=Of m M s w e f k hr
 have hks:=GO
 have h190:=Ef k m M s w e f hw
 have hsc:=mr s 0 12
 obtain⟨R,hR⟩:∃ R,R=dl k [] f:=⟨_,rfl⟩
 rw[show kq (.mk k m M s w e f)=if jR k (.mk k m M s w e f)=true then 3 else if ¬ fc k m M s w=0 then fc k m M s w else if ¬ cU k e.length f.length=0 then cU k e.length f.length else R by rw[kq,if_neg (by rw[hk];decide),hR]]
 simp only[Um,lim] at hf hx h190
 generalize jR k (.mk k m M s w e f)=b at hf ⊢
 refine ap.intro No.2 (by simp[No]) ?_
 simp(maxSteps:=9^7) (disch:=try exact dI) only[No,Um,push_cast,seval]
 refine ab.pure hi rfl ?_
 simp(maxSteps:=9^7) (disch:=try exact dI) only[push_cast,seval]
 refine au hks rfl ?_
 simp(maxSteps:=9^7) (disch:=try exact dI) only[hx,push_cast,seval]
 refine ab.pure hf rfl ?_
 cases b with
 | true=>
   rw[if_pos rfl]
   simp(maxSteps:=9^7) (disch:=try exact dI) only[push_cast,seval]
 | false=>
 rw[if_neg (show ¬ false=true by decide)]
 obtain⟨lo,hlo⟩:∃ lo,lo=loK k:=⟨_,rfl⟩
 obtain⟨hi',hhi⟩:∃ hi',hi'=hiK k:=⟨_,rfl⟩
 rw[<- hlo,<- hhi]
 by_cases hw4:k=4/\0<w.length
 case' pos=>
  have hw0I:(0:Int)<(w.length:Int):=by omega
  have h4:k=4:=hw4.1
  rw[show fc k m M s w=eC m M w by unfold fc;rw[if_pos hw4]]
  generalize eC m M w=z at h190 ⊢
  simp(maxSteps:=9^7) (disch:=try exact dI) only[eq_true h4,hw0I,push_cast,seval]
  refine ab.pure h190 rfl ?_
  by_cases hz:z=0
  case' neg=>rw[if_pos hz];simp(maxSteps:=9^7) (disch:=try exact dI) only[hz,push_cast,seval]
  case' pos=>rw[if_neg (by simpa using hz)]
 case' neg=>
  by_cases h4:k=4
  case' pos=>
   have hw0I:¬ (0:Int)<(w.length:Int):=by omega
   have h4':=eq_true h4
  case' neg=>
   have hw0I:=h4
   have h4':=eq_false h4
  all_goals
   by_cases hb:2<=k/\k<=8
   case' neg=>
    have hB:(decide (2<=k)&&decide (k<=8))=false:=by simp;omega
    have h3:¬ k=3:=by omega
    rw[show fc k m M s w=0 by unfold fc;rw[if_neg hw4,if_neg (fun h=>hb h.1)];exact if_neg fun h=>h3 h.1,if_neg (by simp)]
    simp(maxSteps:=9^7) (disch:=try exact dI) only[h4',hw0I,hB,eq_false h3,push_cast,seval]
   case' pos=>
    have hB:(decide (2<=k)&&decide (k<=8))=true:=by simp;omega
    by_cases hbad:M<m\/m<lo\/hi'<M
    case' pos=>
     rw[show fc k m M s w=2 by unfold fc;rw[if_neg hw4,if_pos ⟨hb,by rw[<- hlo,<- hhi];exact hbad⟩],if_pos (by decide)]
     rcases hbad with h | h | h
     ·simp(maxSteps:=9^7) (disch:=try exact dI) only[h4',hw0I,hB,h,push_cast,seval]
     ·by_cases g:M<m
      ·simp(maxSteps:=9^7) (disch:=try exact dI) only[h4',hw0I,hB,g,push_cast,seval]
      ·simp(maxSteps:=9^7) (disch:=try exact dI) only[h4',hw0I,hB,g,h,push_cast,seval]
     ·by_cases g:M<m
      ·simp(maxSteps:=9^7) (disch:=try exact dI) only[h4',hw0I,hB,g,push_cast,seval]
      ·by_cases g':m<lo
       ·simp(maxSteps:=9^7) (disch:=try exact dI) only[h4',hw0I,hB,g,g',push_cast,seval]
       ·simp(maxSteps:=9^7) (disch:=try exact dI) only[h4',hw0I,hB,g,g',h,push_cast,seval]
    case' neg=>
     have n1:¬ M<m:=fun h=>hbad (.inl h)
     have n2:¬ m<lo:=fun h=>hbad (.inr (.inl h))
     have n3:¬ hi'<M:=fun h=>hbad (.inr (.inr h))
     have hb0:fc k m M s w=if k=3/\inB s 0 12=false then 2 else 0:=by unfold fc;rw[if_neg hw4,if_neg (fun h=>hbad (by rw[hlo,hhi];exact h.2))]
     by_cases h3:k=3
     case' neg=>
      rw[show fc k m M s w=0 by rw[hb0];exact if_neg fun h=>h3 h.1,if_neg (by simp)]
      simp(maxSteps:=9^7) (disch:=try exact dI) only[h4',hw0I,hB,n1,n2,n3,eq_false h3,push_cast,seval]
     case' pos=>
      have h4':=eq_false (show ¬ k=4 by omega)
      rw[show fc k m M s w=if inB s 0 12=false then 2 else 0 by rw[hb0];simp only[h3,true_and]]
      generalize inB s 0 12=q at hsc ⊢
      simp(maxSteps:=9^7) (disch:=try exact dI) only[h4',hw0I,hB,n1,n2,n3,eq_true h3,push_cast,seval]
      refine ab.pure hsc rfl ?_
      cases q
      case' false=>rw[if_pos rfl,if_pos (by decide)];simp(maxSteps:=9^7) (disch:=try exact dI) only[push_cast,seval]
      case' true=>rw[if_neg (show ¬ true=false by decide),if_neg (by decide)]
 any_goals omega
 all_goals
  have hcs:(k=8/\e.length=0)\/(k=8/\¬ e.length=0/\1<e.length)\/(k=10/\f.length=0)\/((¬ (k=8/\e.length=0)/\¬ (k=10/\f.length=0))/\¬ (k=8/\1<e.length)):=by omega
  rcases hcs with ⟨h8,he⟩ | ⟨h8,he,he1⟩ | ⟨h8,he⟩ | ⟨⟨h1,h2⟩,h3⟩
  ·rw[if_pos (by simp[cU,h8,he]),show cU k e.length f.length=4 by simp[cU,h8,he]]
   have he:(e.length:Int)=0:=by omega
   simp(maxSteps:=9^7) (disch:=try exact dI) only[eq_true h8,he,push_cast,seval]
   all_goals omega
  ·rw[if_pos (by simp[cU,h8,he,he1]),show cU k e.length f.length=3 by simp[cU,h8,he,he1]]
   have he:¬ (e.length:Int)=0:=by omega
   have he1:(1:Int)<(e.length:Int):=by omega
   have h10:¬ k=10:=by omega
   simp(maxSteps:=9^7) (disch:=try exact dI) only[eq_true h8,eq_false h10,he,he1,push_cast,seval]
   all_goals omega
  ·have h8':¬ k=8:=by omega
   rw[if_pos (by simp[cU,h8,he]),show cU k e.length f.length=4 by simp[cU,h8,he]]
   have he:(f.length:Int)=0:=by omega
   simp(maxSteps:=9^7) (disch:=try exact dI) only[eq_true h8,eq_false h8',he,push_cast,seval]
   all_goals omega
  ·have hs0:64<f.length\/cU k e.length f.length=0:=by
    by_cases h:64<f.length
    ·exact .inl h
    ·exact .inr (by unfold cU;rw[if_neg h1,if_neg h2,if_neg h3,if_neg h])
   have hs9:64<f.length->cU k e.length f.length=9:=fun h=>by unfold cU;rw[if_neg h1,if_neg h2,if_neg h3,if_pos h]
   generalize cU k e.length f.length=z at hs0 hs9 ⊢
   by_cases a:k=8
   case' pos=>
    have b:¬ k=10:=by omega
    have g:¬ (e.length:Int)=0:=by omega
    have g':¬ (1:Int)<(e.length:Int):=by omega
    first
    | omega
    | simp(maxSteps:=9^7) (disch:=try exact dI) only[eq_true a,eq_false b,g,g',push_cast,seval]
   case' neg=>
    by_cases b:k=10
    case' pos=>
     have g:¬ (f.length:Int)=0:=by omega
     first
     | omega
     | simp(maxSteps:=9^7) (disch:=try exact dI) only[eq_false a,eq_true b,g,push_cast,seval]
    case' neg=>try simp(maxSteps:=9^7) (disch:=try exact dI) only[eq_false a,eq_false b,push_cast,seval]
   all_goals
    by_cases h64:64<f.length
    case' pos=>
     have h64I:(64:Int)<(f.length:Int):=by omega
     rw[hs9 h64,if_pos (by decide)]
     simp(maxSteps:=9^7) (disch:=try exact dI) only[h64I,push_cast,seval]
    case' neg=>
     have h64I:¬ (64:Int)<(f.length:Int):=by omega
     rw[hs0.resolve_left h64,if_neg (show ¬ ¬ (0:Int)=0 by decide)]
     simp(maxSteps:=9^7) (disch:=try exact dI) only[h64I,push_cast,seval]
     refine aw ([]) (fun i:Nat=>[(106,.pv (.int .i64 (i:Int)))]) (fun _=>[]) (fun i=>i<=f.length/\R=dl k (f.take i) (f.drop i)) (fun i=>f.length - i) (0) ?_;intro e0 σ0 n0 h0;simp(maxSteps:=9^7) (disch:=try exact dI) only[push_cast,seval] at h0;obtain⟨rfl,rfl,rfl⟩:=h0;refine⟨?_,?_,?_⟩
     ·simp(maxSteps:=9^7) (disch:=try exact dI) only[push_cast,seval]
     ·exact⟨by omega,by simpa using hR⟩
     rintro i ⟨hi,hr⟩
     by_cases hlt:i<f.length
     ·have hltI:(i:Int)<(f.length:Int):=by omega
      obtain⟨g,hg⟩:∃ g,f[i]? = some g:=⟨_,Uq hlt⟩
      have hfi:=Hp k m M s w e f hl i g hg
      simp only[Um] at hfi
      rw[oD hg] at hr
      generalize e9 k (f.take i) g=z2 at hfi hr
      by_cases hz2:z2=0
      ·subst hz2
       rw[if_pos rfl] at hr
       simp(maxSteps:=9^7) (disch:=try exact dI) only[push_cast,seval]
       refine ab.pure hfi rfl ?_
       simp(maxSteps:=9^7) (disch:=try exact dI) only[push_cast,seval]
       exact⟨i+1,aN qsZ,⟨by omega,hr⟩,by omega⟩
      ·rw[if_neg hz2] at hr
       subst hr
       simp(maxSteps:=9^7) (disch:=try exact dI) only[push_cast,seval]
       refine ab.pure hfi rfl ?_
       simp(maxSteps:=9^7) (disch:=try exact dI) only[hz2,push_cast,seval]
     ·obtain rfl:i=f.length:=by omega
      rw[List.drop_length,dl] at hr
      subst hr
      simp(maxSteps:=9^7) (disch:=try exact dI) only[Int.lt_irrefl,push_cast,seval]
end
def cG:Typ->List Typ
 | .mk k _ _ _ _ e f=>if k=8 then e else if k=9\/k=10 then f.map TFd.typ else []
theorem FV (k m M s:Int)(w:List (List UInt8))(e:List Typ)(fs:List TFd)(hf:fs.length*104<=140737488351232):ap Tryz.prog aB 131 [(Typ.mk k m M s w e fs).pv] (.list ((cG (.mk k m M s w e fs)).map Typ.pv)):=by
 by_cases h8:k=8
 ·rw[show cG (.mk k m M s w e fs)=e from if_pos h8]
  subst h8
  refine ap.intro Ig.2 (by simp[Ig]) ?_
  simp(maxSteps:=9^7) (disch:=try exact dI) only[Ig,Um,push_cast,seval]
 ·by_cases h9:k=9\/k=10
  ·rw[show cG (.mk k m M s w e fs)=fs.map TFd.typ by simp only[cG];rw[if_neg h8,if_pos h9]]
   have key:∀ c:Bool,True:=fun _=>trivial
   rcases h9 with rfl | rfl
   all_goals
    refine ap.intro Ig.2 (by simp[Ig]) ?_
    simp(maxSteps:=9^7) (disch:=try exact dI) only[Ig,Um,push_cast,seval]
    refine aw ([]) (fun i:Nat=>[(3,.olist 0 7 (((fs.take i).map TFd.typ).map Typ.pv)),(22,.pv (.int .i64 (i:Int)))]) (fun _=>[]) (fun i=>i<=fs.length) (fun i=>fs.length - i) (0) ?_;intro e0 σ0 n0 h0;simp(maxSteps:=9^7) (disch:=try exact dI) only[push_cast,seval] at h0;obtain⟨rfl,rfl,rfl⟩:=h0;refine⟨?_,?_,?_⟩
    ·simp(maxSteps:=9^7) (disch:=try exact dI) only[push_cast,seval]
    ·omega
    rintro i hi
    by_cases hlt:i<fs.length
    ·have hltI:(i:Int)<(fs.length:Int):=by omega
     obtain⟨c,hc⟩:∃ c,fs[i]? = some c:=⟨_,Uq hlt⟩
     have hts:=aC hc
     obtain⟨n',nm',nd',⟨k',m',M',s',w',e',f'⟩,d'⟩:=c
     simp(maxSteps:=9^7) (disch:=try exact dI) only[hc,Option.map_some,Uh,Um,ae,push_cast,seval]
     exact⟨i+1,aN (by simp(maxSteps:=9^7) (disch:=try exact dI) only[hts,List.map_append,TFd.typ,Um,push_cast,seval]),by omega,by omega⟩
    ·have he:i=fs.length:=by omega
     subst he
     simp(maxSteps:=9^7) (disch:=try exact dI) only[List.take_length,qB,push_cast,seval]
  ·rw[show cG (.mk k m M s w e fs)=[] by simp only[cG];rw[if_neg h8,if_neg h9]]
   have h9':¬ k=9:=by omega
   have h10:¬ k=10:=by omega
   refine ap.intro Ig.2 (by simp[Ig]) ?_
   simp(maxSteps:=9^7) (disch:=try exact dI) only[Ig,Um,push_cast,seval]
def xF:Nat->Val->Prop
 | 0,_=>False
 | n+1,v=>(∀ x∈v.lst,xF n x)/\∀ x∈v.fields,xF n x.value
theorem km:∀ (n:Nat) (v:Val),xF n v->xF (n+1) v
 | 0,_,h=>h.elim
 | n+1,v,h=>⟨fun x hx=>km n x (h.1 x hx),fun x hx=>km n x.value (h.2 x hx)⟩
theorem mN {n m:Nat}(h:n<=m){v:Val}(hv:xF n v):xF m v:=by
 induction h with
 | refl=>exact hv
 | step _ ih=>exact km _ _ ih
theorem rP {α:Type}(g:α->Val):∀ l:List α,(∀ x∈l,∃ n,xF n (g x))->∃ n,∀ x∈l,xF n (g x)
 | [],_=>⟨0,by simp⟩
 | x::r,h=>by
   obtain⟨n,hn⟩:=h x (by simp)
   obtain⟨m,hm⟩:=rP g r fun y hy=>h y (List.mem_cons_of_mem _ hy)
   refine⟨max n m,fun y hy=>?_⟩
   rcases List.mem_cons.1 hy with rfl | hy
   ·exact mN (Nat.le_max_left _ _) hn
   ·exact mN (Nat.le_max_right _ _) (hm y hy)
theorem mP (v:Val):∃ n,xF n v:=by
 obtain⟨k,n,s,t,l,fs⟩:=v
 have h1:∀ x∈l,∃ n,xF n x:=fun x hx=>mP x
 have h2:∀ x∈fs,∃ n,xF n x.value:=fun x hx=>by
  obtain⟨nm,y⟩:=x
  exact mP y
 obtain⟨a,ha⟩:=rP id l h1
 obtain⟨b,hb⟩:=rP Fld.value fs h2
 exact⟨max a b+1,fun x hx=>mN (Nat.le_max_left _ _) (ha x hx),fun x hx=>mN (Nat.le_max_right _ _) (hb x hx)⟩
termination_by SizeOf.sizeOf v
decreasing_by
 ·have:=Vi hx;simp;omega
 ·have:=Vi hx;simp at this ⊢;omega
theorem mF:∀ (n:Nat) (v:Val),xF n v->kB n v
 | 0,_,h=>h
 | n+1,v,h=>fun x hx=>by
   unfold cP at hx
   split at hx
   ·exact mF n x (h.1 x hx)
   ·split at hx
    ·obtain⟨y,hy,rfl⟩:=List.mem_map.1 hx
     exact mF n _ (h.2 y hy)
    ·simp at hx
noncomputable def lvl (v:Val):Nat:=(mP v).choose
theorem LB (v:Val):xF (lvl v) v:=(mP v).choose_spec
theorem ml (v:Val):kB (lvl v) v:=mF _ v (LB v)
noncomputable def PF (v:Val):Int:=py 0 (eS (lvl v) 1 v)
theorem Mu (v:Val)(hv:v.ok):ap Tryz.prog aB 144 [v.pv] (.int .i64 (PF v)):=tx _ v (ml v) hv
theorem tt:∀ (xs:List (Int×Val)) (i:Nat),i<=4096->py i xs=0->i+xs.length<=4096
 | [],i,h,_=>by simpa using h
 | q::r,i,h,h0=>by
   rw[py] at h0
   by_cases h1:bz i q=0
   ·rw[if_pos h1] at h0
    have hi:¬ 4096<=i:=fun hh=>by rw[JM hh] at h1;cases h1
    have:=tt r (i+1) (by omega) h0
    rw[List.length_cons];omega
   ·rw[if_neg h1] at h0;exact absurd h0 h1

/- A part of the proof for CodecUsualCardSaid. -/
import Derived.Test.YtfepkhlgopjaoaaGreatDoorUsKS3
import Derived.Test.YtfepkhlgopjaoaaGreatDoorUsKS1
import Derived.Test.YtfepkhlgopjaoaaGreatDoorUsKR6
set_option linter.unusedVariables false
set_option linter.unusedSimpArgs false
set_option maxRecDepth 100000
-- many steps
namespace Go.Proofs.YtfepkhlgopjaoaaGreatDoor
open Go Go.Ab
attribute [local irreducible] vc
def wO:List PV:=[.str [],.int .i64 0,.int .i64 0,.bool false,.bool false,.bool false,.bool false,.bool false,.str [98,111,111,108],.int .i64 0,.int .i64 0,.bool false,.bool false,.bool false,.bool false,.bool false,.str [105,110,116],.int .i64 (-999999999999999),.int .i64 999999999999999,.bool true,.bool false,.bool false,.bool false,.bool false,.str [100,101,99,105,109,97,108],.int .i64 (-999999999999999),.int .i64 999999999999999,.bool true,.bool true,.bool false,.bool false,.bool false,.str [116,101,120,116],.int .i64 0,.int .i64 1024,.bool true,.bool false,.bool true,.bool false,.bool false,.str [98,121,116,101,115],.int .i64 0,.int .i64 1024,.bool true,.bool false,.bool false,.bool false,.bool false,.str [100,97,116,101],.int .i64 (-719162),.int .i64 2932896,.bool true,.bool false,.bool false,.bool false,.bool false,.str [116,105,109,101],.int .i64 (-62135596800000),.int .i64 253402300799999,.bool true,.bool false,.bool false,.bool false,.bool false,.str [108,105,115,116],.int .i64 0,.int .i64 256,.bool true,.bool false,.bool false,.bool true,.bool false,.str [114,101,99,111,114,100],.int .i64 0,.int .i64 0,.bool false,.bool false,.bool false,.bool false,.bool true,.str [118,97,114,105,97,110,116],.int .i64 0,.int .i64 0,.bool false,.bool false,.bool false,.bool false,.bool true]
theorem Cf:ap Tryz.prog az 231 [] (.agg wO):=by
 refine ap.intro HG (by simp[No]) ?_
 simp only[wO]
 simp(maxSteps:=9^7) (disch:=try exact dI) only[No,push_cast,seval]
def loK (k:Int):Int:=if k=2 then (-999999999999999) else if k=3 then (-999999999999999) else if k=6 then (-719162) else if k=7 then (-62135596800000) else 0
def hiK (k:Int):Int:=if k=2 then 999999999999999 else if k=3 then 999999999999999 else if k=4 then 1024 else if k=5 then 1024 else if k=6 then 2932896 else if k=7 then 253402300799999 else if k=8 then 256 else 0
def eP (k:Int)(t:Typ):Bool:=aD (decide (2≤k)&&decide (k≤8)) (decide (k=3)) (decide (k=4)) (decide (k=8)) (decide (9≤k)) t
def cZ (k m M s:Int)(w:List (List UInt8)):Int:=if k=4∧0<w.length then db m M w else if (2≤k∧k≤8)∧(M<m∨m<loK k∨hiK k<M) then 2 else if k=3∧inB s 0 12=false then 2 else 0
def bF (k:Int)(e f:Nat):Int:=if k=8∧e=0 then 4 else if k=10∧f=0 then 4 else if k=8∧1<e then 3 else if 64<f then 9 else 0
def bT (k:Int):List TFd→List TFd→Int
 | _,[]=>0
 | b,g::r=>if dC k b g=0 then bT k (b++[g]) r else dC k b g
theorem lD {k:Int}{f:List TFd}{i:Nat}{g:TFd}(h:f[i]? = some g):bT k (f.take i) (f.drop i)=if dC k (f.take i) g=0 then bT k (f.take (i+1)) (f.drop (i+1)) else dC k (f.take i) g:=by
 have hi:=(List.getElem?_eq_some_iff.1 h).1
 have he:f[i]=g:=(List.getElem?_eq_some_iff.1 h).2
 rw[List.drop_eq_getElem_cons hi,he,bT,aR h]
def eZ:Typ→Int
 | .mk k m M s w e f=>if inB k 1 10=false then 11 else if eP k (.mk k m M s w e f)=true then 3 else if ¬ cZ k m M s w=0 then cZ k m M s w else if ¬ bF k e.length f.length=0 then bF k e.length f.length else bT k [] f
section
variable (m M s:Int)(w:List (List UInt8))(e:List Typ)(f:List TFd)
theorem Ja (k:Int)(hk:1≤k∧k≤10):∃ nm,dw true 11 8 (.pv (.agg wO)) (.pv (.int .i64 k))=some (.pv (lim nm (loK k) (hiK k) (decide (2≤k)&&decide (k≤8)) (decide (k=3)) (decide (k=4)) (decide (k=8)) (decide (9≤k)))) ∧
  ap Tryz.prog az 232 [(Typ.mk k m M s w e f).pv,lim nm (loK k) (hiK k) (decide (2≤k)&&decide (k≤8)) (decide (k=3)) (decide (k=4)) (decide (k=8)) (decide (9≤k))] (.int .i64 (if eP k (.mk k m M s w e f)=true then 3 else 0)):=by
 have hc:k=1∨k=2∨k=3∨k=4∨k=5∨k=6∨k=7∨k=8∨k=9∨k=10:=by omega
 rcases hc with rfl | rfl | rfl | rfl | rfl | rfl | rfl | rfl | rfl | rfl
 all_goals first | exact⟨_,rfl,xv _ m M s w e f _ _ _⟩ | exact⟨_,rfl,xy _ m M s w e f _ _ _⟩ | exact⟨_,rfl,xx _ m M s w e f _ _ _⟩ | exact⟨_,rfl,xr _ m M s w e f _ _ _⟩ | exact⟨_,rfl,xw _ m M s w e f _ _ _⟩ | exact⟨_,rfl,xu _ m M s w e f _ _ _⟩
set_option maxHeartbeats 8000000 in
theorem Jv (k:Int)(hw:∀ x∈w,x.length≤140737488351232)(hl:f.length≤9000000000000)(hwl:w.length≤9000000000000)(hel:e.length≤9000000000000):ap Tryz.prog az 141 [(Typ.mk k m M s w e f).pv] (.int .i64 (eZ (.mk k m M s w e f))):=by
 have hi:=jI k 1 10
 by_cases hk:inB k 1 10=false
 ·rw[hk] at hi
  rw[show eZ (.mk k m M s w e f)=11 by simp[eZ,hk]]
  refine ap.intro zr (by simp[LL]) ?_
  simp(maxSteps:=9^7) (disch:=try exact dI) only[LL,Typ.pv_mk,push_cast,seval]
  refine ae.pure hi rfl ?_
  simp(maxSteps:=9^7) (disch:=try exact dI) only[push_cast,seval]
 have hk:inB k 1 10=true:=by simpa using hk
 have hr:1≤k∧k≤10:=by simpa[inB] using hk
 rw[hk] at hi
 obtain⟨nm,hx,hf⟩:=Ja m M s w e f k hr
 have hks:=Cf
 have h190:=zY k m M s w e f hw
 have hsc:=jI s 0 12
 obtain⟨R,hR⟩:∃ R,R=bT k [] f:=⟨_,rfl⟩
 rw[show eZ (.mk k m M s w e f)=if eP k (.mk k m M s w e f)=true then 3 else if ¬ cZ k m M s w=0 then cZ k m M s w else if ¬ bF k e.length f.length=0 then bF k e.length f.length else R by rw[eZ,if_neg (by rw[hk];decide),hR]]
 simp only[Typ.pv_mk,lim] at hf hx h190
 generalize eP k (.mk k m M s w e f)=b at hf ⊢
 refine ap.intro zr (by simp[LL]) ?_
 simp(maxSteps:=9^7) (disch:=try exact dI) only[LL,Typ.pv_mk,push_cast,seval]
 refine ae.pure hi rfl ?_
 simp(maxSteps:=9^7) (disch:=try exact dI) only[push_cast,seval]
 refine ab hks rfl ?_
 simp(maxSteps:=9^7) (disch:=try exact dI) only[hx,push_cast,seval]
 refine ae.pure hf rfl ?_
 cases b with
 | true=>
   rw[if_pos rfl]
   simp(maxSteps:=9^7) (disch:=try exact dI) only[push_cast,seval]
 | false=>
 rw[if_neg (show ¬ false=true by decide)]
 obtain⟨lo,hlo⟩:∃ lo,lo=loK k:=⟨_,rfl⟩
 obtain⟨hi',hhi⟩:∃ hi',hi'=hiK k:=⟨_,rfl⟩
 rw[← hlo,← hhi]
 by_cases hw4:k=4∧0<w.length
 case' pos=>
  have hw0I:(0:Int)<(w.length:Int):=by omega
  have h4:k=4:=hw4.1
  rw[show cZ k m M s w=db m M w by unfold cZ;rw[if_pos hw4]]
  generalize db m M w=z at h190 ⊢
  simp(maxSteps:=9^7) (disch:=try exact dI) only[eq_true h4,hw0I,push_cast,seval]
  refine ae.pure h190 rfl ?_
  by_cases hz:z=0
  case' neg=>rw[if_pos hz];simp(maxSteps:=9^7) (disch:=try exact dI) only[hz,push_cast,seval]
  case' pos=>rw[if_neg (by simpa using hz)]
 case' neg=>
  by_cases h4:k=4
  case' pos=>
   have hw0I:¬ (0:Int)<(w.length:Int):=by omega
   have h4':=eq_true h4
  case' neg=>
   have hw0I:=h4
   have h4':=eq_false h4
  all_goals
   by_cases hb:2≤k∧k≤8
   case' neg=>
    have hB:(decide (2≤k)&&decide (k≤8))=false:=by simp;omega
    have h3:¬ k=3:=by omega
    rw[show cZ k m M s w=0 by unfold cZ;rw[if_neg hw4,if_neg (fun h=>hb h.1)];exact if_neg fun h=>h3 h.1,if_neg (by simp)]
    simp(maxSteps:=9^7) (disch:=try exact dI) only[h4',hw0I,hB,eq_false h3,push_cast,seval]
   case' pos=>
    have hB:(decide (2≤k)&&decide (k≤8))=true:=by simp;omega
    by_cases hbad:M<m∨m<lo∨hi'<M
    case' pos=>
     rw[show cZ k m M s w=2 by unfold cZ;rw[if_neg hw4,if_pos ⟨hb,by rw[← hlo,← hhi];exact hbad⟩],if_pos (by decide)]
     rcases hbad with h | h | h
     ·simp(maxSteps:=9^7) (disch:=try exact dI) only[h4',hw0I,hB,h,push_cast,seval]
     ·by_cases g:M<m
      ·simp(maxSteps:=9^7) (disch:=try exact dI) only[h4',hw0I,hB,g,push_cast,seval]
      ·simp(maxSteps:=9^7) (disch:=try exact dI) only[h4',hw0I,hB,g,h,push_cast,seval]
     ·by_cases g:M<m
      ·simp(maxSteps:=9^7) (disch:=try exact dI) only[h4',hw0I,hB,g,push_cast,seval]
      ·by_cases g':m<lo
       ·simp(maxSteps:=9^7) (disch:=try exact dI) only[h4',hw0I,hB,g,g',push_cast,seval]
       ·simp(maxSteps:=9^7) (disch:=try exact dI) only[h4',hw0I,hB,g,g',h,push_cast,seval]
    case' neg=>
     have n1:¬ M<m:=fun h=>hbad (.inl h)
     have n2:¬ m<lo:=fun h=>hbad (.inr (.inl h))
     have n3:¬ hi'<M:=fun h=>hbad (.inr (.inr h))
     have hb0:cZ k m M s w=if k=3∧inB s 0 12=false then 2 else 0:=by unfold cZ;rw[if_neg hw4,if_neg (fun h=>hbad (by rw[hlo,hhi];exact h.2))]
     by_cases h3:k=3
     case' neg=>
      rw[show cZ k m M s w=0 by rw[hb0];exact if_neg fun h=>h3 h.1,if_neg (by simp)]
      simp(maxSteps:=9^7) (disch:=try exact dI) only[h4',hw0I,hB,n1,n2,n3,eq_false h3,push_cast,seval]
     case' pos=>
      have h4':=eq_false (show ¬ k=4 by omega)
      rw[show cZ k m M s w=if inB s 0 12=false then 2 else 0 by rw[hb0];simp only[h3,true_and]]
      generalize inB s 0 12=q at hsc ⊢
      simp(maxSteps:=9^7) (disch:=try exact dI) only[h4',hw0I,hB,n1,n2,n3,eq_true h3,push_cast,seval]
      refine ae.pure hsc rfl ?_
      cases q
      case' false=>rw[if_pos rfl,if_pos (by decide)];simp(maxSteps:=9^7) (disch:=try exact dI) only[push_cast,seval]
      case' true=>rw[if_neg (show ¬ true=false by decide),if_neg (by decide)]
 any_goals omega
 all_goals
  have hcs:(k=8∧e.length=0)∨(k=8∧¬ e.length=0∧1<e.length)∨(k=10∧f.length=0)∨((¬ (k=8∧e.length=0)∧¬ (k=10∧f.length=0))∧¬ (k=8∧1<e.length)):=by omega
  rcases hcs with ⟨h8,he⟩ | ⟨h8,he,he1⟩ | ⟨h8,he⟩ | ⟨⟨h1,h2⟩,h3⟩
  ·rw[if_pos (by simp[bF,h8,he]),show bF k e.length f.length=4 by simp[bF,h8,he]]
   have he:(e.length:Int)=0:=by omega
   simp(maxSteps:=9^7) (disch:=try exact dI) only[eq_true h8,he,push_cast,seval]
   all_goals omega
  ·rw[if_pos (by simp[bF,h8,he,he1]),show bF k e.length f.length=3 by simp[bF,h8,he,he1]]
   have he:¬ (e.length:Int)=0:=by omega
   have he1:(1:Int)<(e.length:Int):=by omega
   have h10:¬ k=10:=by omega
   simp(maxSteps:=9^7) (disch:=try exact dI) only[eq_true h8,eq_false h10,he,he1,push_cast,seval]
   all_goals omega
  ·have h8':¬ k=8:=by omega
   rw[if_pos (by simp[bF,h8,he]),show bF k e.length f.length=4 by simp[bF,h8,he]]
   have he:(f.length:Int)=0:=by omega
   simp(maxSteps:=9^7) (disch:=try exact dI) only[eq_true h8,eq_false h8',he,push_cast,seval]
   all_goals omega
  ·have hs0:64<f.length∨bF k e.length f.length=0:=by
    by_cases h:64<f.length
    ·exact .inl h
    ·exact .inr (by unfold bF;rw[if_neg h1,if_neg h2,if_neg h3,if_neg h])
   have hs9:64<f.length→bF k e.length f.length=9:=fun h=>by unfold bF;rw[if_neg h1,if_neg h2,if_neg h3,if_pos h]
   generalize bF k e.length f.length=z at hs0 hs9 ⊢
   by_cases a:k=8
   case' pos=>
    have b:¬ k=10:=by omega
    have g:¬ (e.length:Int)=0:=by omega
    have g':¬ (1:Int)<(e.length:Int):=by omega
    first
    | omega
    | simp(maxSteps:=9^7) (disch:=try exact dI) only[eq_true a,eq_false b,g,g',push_cast,seval]
   case' neg=>
    by_cases b:k=10
    case' pos=>
     have g:¬ (f.length:Int)=0:=by omega
     first
     | omega
     | simp(maxSteps:=9^7) (disch:=try exact dI) only[eq_false a,eq_true b,g,push_cast,seval]
    case' neg=>try simp(maxSteps:=9^7) (disch:=try exact dI) only[eq_false a,eq_false b,push_cast,seval]
   all_goals
    by_cases h64:64<f.length
    case' pos=>
     have h64I:(64:Int)<(f.length:Int):=by omega
     rw[hs9 h64,if_pos (by decide)]
     simp(maxSteps:=9^7) (disch:=try exact dI) only[h64I,push_cast,seval]
    case' neg=>
     have h64I:¬ (64:Int)<(f.length:Int):=by omega
     rw[hs0.resolve_left h64,if_neg (show ¬ ¬ (0:Int)=0 by decide)]
     simp(maxSteps:=9^7) (disch:=try exact dI) only[h64I,push_cast,seval]
     refine aB ([]) (fun i:Nat=>[(106,.pv (.int .i64 (i:Int)))]) (fun _=>[]) (fun i=>i≤f.length∧R=bT k (f.take i) (f.drop i)) (fun i=>f.length - i) (0) ?_;intro e0 σ0 n0 h0;simp(maxSteps:=9^7) (disch:=try exact dI) only[push_cast,seval] at h0;obtain⟨rfl,rfl,rfl⟩:=h0;refine⟨?_,?_,?_⟩
     ·simp(maxSteps:=9^7) (disch:=try exact dI) only[push_cast,seval]
     ·exact⟨by omega,by simpa using hR⟩
     rintro i ⟨hi,hr⟩
     by_cases hlt:i<f.length
     ·have hltI:(i:Int)<(f.length:Int):=by omega
      obtain⟨g,hg⟩:∃ g,f[i]? = some g:=⟨_,List.getElem?_eq_getElem hlt⟩
      have hfi:=CJ k m M s w e f hl i g hg
      simp only[Typ.pv_mk] at hfi
      rw[lD hg] at hr
      generalize dC k (f.take i) g=z2 at hfi hr
      by_cases hz2:z2=0
      ·subst hz2
       rw[if_pos rfl] at hr
       simp(maxSteps:=9^7) (disch:=try exact dI) only[push_cast,seval]
       refine ae.pure hfi rfl ?_
       simp(maxSteps:=9^7) (disch:=try exact dI) only[push_cast,seval]
       exact⟨i+1,bH qsZ,⟨by omega,hr⟩,by omega⟩
      ·rw[if_neg hz2] at hr
       subst hr
       simp(maxSteps:=9^7) (disch:=try exact dI) only[push_cast,seval]
       refine ae.pure hfi rfl ?_
       simp(maxSteps:=9^7) (disch:=try exact dI) only[hz2,push_cast,seval]
     ·obtain rfl:i=f.length:=by omega
      rw[List.drop_length,bT] at hr
      subst hr
      simp(maxSteps:=9^7) (disch:=try exact dI) only[Int.lt_irrefl,push_cast,seval]
end
end Go.Proofs.YtfepkhlgopjaoaaGreatDoor
-- many steps
namespace Go.Proofs.YtfepkhlgopjaoaaGreatDoor
open Go Go.Ab
attribute [local irreducible] vc
def bz:Typ→List Typ
 | .mk k _ _ _ _ e f=>if k=8 then e else if k=9∨k=10 then f.map TFd.typ else []
theorem By (k m M s:Int)(w:List (List UInt8))(e:List Typ)(fs:List TFd)(hf:fs.length*104≤140737488351232):ap Tryz.prog az 142 [(Typ.mk k m M s w e fs).pv] (.list ((bz (.mk k m M s w e fs)).map Typ.pv)):=by
 by_cases h8:k=8
 ·rw[show bz (.mk k m M s w e fs)=e from if_pos h8]
  subst h8
  refine ap.intro oj (by simp[H7]) ?_
  simp(maxSteps:=9^7) (disch:=try exact dI) only[H7,Typ.pv_mk,push_cast,seval]
 ·by_cases h9:k=9∨k=10
  ·rw[show bz (.mk k m M s w e fs)=fs.map TFd.typ by simp only[bz];rw[if_neg h8,if_pos h9]]
   have key:∀ c:Bool,True:=fun _=>trivial
   rcases h9 with rfl | rfl
   all_goals
    refine ap.intro oj (by simp[H7]) ?_
    simp(maxSteps:=9^7) (disch:=try exact dI) only[H7,Typ.pv_mk,push_cast,seval]
    refine aB ([]) (fun i:Nat=>[(3,.olist 0 7 (((fs.take i).map TFd.typ).map Typ.pv)),(22,.pv (.int .i64 (i:Int)))]) (fun _=>[]) (fun i=>i≤fs.length) (fun i=>fs.length - i) (0) ?_;intro e0 σ0 n0 h0;simp(maxSteps:=9^7) (disch:=try exact dI) only[push_cast,seval] at h0;obtain⟨rfl,rfl,rfl⟩:=h0;refine⟨?_,?_,?_⟩
    ·simp(maxSteps:=9^7) (disch:=try exact dI) only[push_cast,seval]
    ·omega
    rintro i hi
    by_cases hlt:i<fs.length
    ·have hltI:(i:Int)<(fs.length:Int):=by omega
     obtain⟨c,hc⟩:∃ c,fs[i]? = some c:=⟨_,List.getElem?_eq_getElem hlt⟩
     have hts:=aR hc
     obtain⟨n',nm',nd',⟨k',m',M',s',w',e',f'⟩,d'⟩:=c
     simp(maxSteps:=9^7) (disch:=try exact dI) only[hc,Option.map_some,TFd.pv_mk,Typ.pv_mk,ag,push_cast,seval]
     exact⟨i+1,bH (by simp(maxSteps:=9^7) (disch:=try exact dI) only[hts,List.map_append,TFd.typ,Typ.pv_mk,push_cast,seval]),by omega,by omega⟩
    ·have he:i=fs.length:=by omega
     subst he
     simp(maxSteps:=9^7) (disch:=try exact dI) only[List.take_length,m7,push_cast,seval]
  ·rw[show bz (.mk k m M s w e fs)=[] by simp only[bz];rw[if_neg h8,if_neg h9]]
   have h9':¬ k=9:=by omega
   have h10:¬ k=10:=by omega
   refine ap.intro oj (by simp[H7]) ?_
   simp(maxSteps:=9^7) (disch:=try exact dI) only[H7,Typ.pv_mk,push_cast,seval]
end Go.Proofs.YtfepkhlgopjaoaaGreatDoor

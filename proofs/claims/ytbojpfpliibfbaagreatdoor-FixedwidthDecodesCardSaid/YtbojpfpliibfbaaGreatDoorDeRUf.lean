/- A part of the proof. -/
import Derived.Test.YtbojpfpliibfbaaGreatDoorDeRU9
set_option maxHeartbeats 16000000
set_option maxRecDepth 100000
set_option linter.unusedVariables false
set_option linter.unusedSimpArgs false
namespace Go.Proofs.YtbojpfpliibfbaaGreatDoor
open Go Go.Ab
attribute [local irreducible] vc
theorem DY (k m M s:Int)(ws:List (List UInt8))(e:List Typ)(f:List TFd)(hw:∀ w∈ws,w.length<=140737488351232):ak Tryz.prog ap 184 [(Typ.mk k m M s ws e f).pv] (.int .i64 (bA m M ws)):=by
 refine ak.intro Mm.2 (by simp[Mm]) ?_
 by_cases hm:m=0
 ·by_cases hM:M=0
  ·by_cases h64:64<ws.length
   ·rw[show bA m M ws=9 by simp[bA,hm,hM,h64]]
    simp(disch:=try exact dI) only[Mm,Typ.pv_mk,hm,hM,push_cast,seval]
   ·rw[show bA m M ws=eN none ws by simp[bA,hm,hM,h64]]
    obtain⟨R,hR⟩:∃ R,R=eN none ws:=⟨_,rfl⟩
    rw[<- hR]
    simp(disch:=try exact dI) only[Mm,Typ.pv_mk,hm,hM,push_cast,seval]
    refine am ([]) (fun i:Nat=>[(3,.pv (.int .i64 (i:Int)))]) (fun _=>[]) (fun i=>i<=ws.length/\R=eN (gH ws i) (ws.drop i)) (fun i=>ws.length - i) (0) ?_;intro e0 σ0 n0 h0;simp(disch:=try exact dI) only[push_cast,seval] at h0;obtain⟨rfl,rfl,rfl⟩:=h0;refine⟨?_,?_,?_⟩
    ·exact qsZ
    ·exact⟨by omega,by simpa[gH] using hR⟩
    rintro i ⟨hi,hr⟩
    by_cases hlt:i<ws.length
    ·have hltI:(i:Int)<(ws.length:Int):=by omega
     obtain⟨w,hwi⟩:∃ w,ws[i]? = some w:=⟨_,List.getElem?_eq_getElem hlt⟩
     have hcp:(ws.map PV.str)[i]? = some (.str w):=by simp[hwi]
     have hc:=IV w (hw w (List.mem_of_getElem? hwi))
     simp only[dL,Val.pv_mk,List.map_nil] at hc
     rw[jO hwi] at hr
     have hnext:gH ws (i+1)=some w:=by simp[gH,hwi]
     generalize lE w=z at hc hr
     by_cases hz:z=0
     ·subst hz
      rw[if_pos rfl] at hr
      by_cases hi0:i=0
      ·have hiI:¬ (0:Int)<(i:Int):=by omega
       have hpn:gH ws i=none:=if_pos hi0
       rw[hpn,if_neg (by simp),if_neg (by simp),<- hnext] at hr
       simp(disch:=try exact dI) only[hcp,push_cast,seval]
       refine ab.pureN hc rfl qsZ ?_
       refine zgZ ?_
       exact⟨i+1,aI qsZ,⟨by omega,hr⟩,by omega⟩
      ·obtain⟨j,rfl⟩:∃ j,i=j+1:=⟨i - 1,by omega⟩
       obtain⟨q,hq'⟩:∃ q,ws[j]? = some q:=⟨_,List.getElem?_eq_getElem (by omega)⟩
       have hpn:gH ws (j+1)=some q:=by simp[gH,hq']
       have hcq:(ws.map PV.str)[j]? = some (.str q):=by simp[hq']
       rw[hpn] at hr
       by_cases hq:w=q
       ·subst hq
        rw[if_pos rfl] at hr
        subst hr
        simp(disch:=try exact dI) only[hcp,Int.add_sub_cancel,push_cast,seval]
        refine ab.pureN hc rfl qsZ ?_
        simp(disch:=try exact dI) only[hcp,hcq,Int.add_sub_cancel,push_cast,seval]
       ·rw[if_neg (by simpa using fun e=>hq e.symm)] at hr
        cases hlt2:bf w q with
        | true=>
          rw[if_pos (by simpa using hlt2)] at hr
          subst hr
          simp(disch:=try exact dI) only[hcp,Int.add_sub_cancel,push_cast,seval]
          refine ab.pureN hc rfl qsZ ?_
          simp(disch:=try exact dI) only[hcp,hcq,Int.add_sub_cancel,hq,hlt2,push_cast,seval]
        | false=>
          rw[if_neg (by simp[hlt2]),<- hnext] at hr
          simp(disch:=try exact dI) only[hcp,Int.add_sub_cancel,push_cast,seval]
          refine ab.pureN hc rfl qsZ ?_
          simp(disch:=try exact dI) only[hcp,hcq,Int.add_sub_cancel,hq,hlt2,push_cast,seval]
          exact⟨j+1+1,aI qsZ,⟨by omega,hr⟩,by omega⟩
     ·rw[if_neg hz] at hr
      subst hr
      simp(disch:=try exact dI) only[hcp,push_cast,seval]
      refine ab.pureN hc rfl qsZ ?_
      exact qsZ
    ·have hie:i=ws.length:=by omega
     subst hie
     rw[List.drop_length] at hr
     rw[show R=0 from hr]
     exact qsZ
  ·rw[show bA m M ws=3 by simp[bA,hM]]
   simp(disch:=try exact dI) only[Mm,Typ.pv_mk,hm,hM,push_cast,seval]
 ·rw[show bA m M ws=3 by simp[bA,hm]]
  simp(disch:=try exact dI) only[Mm,Typ.pv_mk,hm,push_cast,seval]
theorem BY {k m M s:Int}{w:List (List UInt8)}{e:List Typ}{f:List TFd}(h:du k (.mk k m M s w e f)=false):(¬ k=3->s=0)/\(¬ k=8->e.length=0)/\(¬ 9<=k->f.length=0):=by
 simp only[du,aE,Bool.or_eq_false_iff] at h
 obtain⟨_,h2,_,h4,h5⟩:=h
 refine⟨fun a=>?_,fun a=>?_,fun a=>?_⟩
 ·rw[decide_eq_false a] at h2;simpa using h2
 ·rw[decide_eq_false a] at h4;simpa using h4
 ·rw[decide_eq_false a] at h5;simpa using h5
theorem oo {k:Int}{e f:Nat}{L:Int}(h1:¬ (k=8/\e=0))(h2:¬ (k=10/\f=0))(h3:¬ (k=8/\1<e)):(if ¬ bt k e f=0 then bt k e f else L)=if 64<f then 9 else L:=by
 unfold bt;rw[if_neg h1,if_neg h2,if_neg h3]
 by_cases h:64<f<;>simp[h]
theorem SM (k:Int)(hk:1<=k/\k<=10):∃ a b,ak Tryz.prog ap 185 [.int .i64 k] (.tup [.int .i64 a,.int .i64 b])/\(2<=k/\k<=8->a=loK k/\b=hiK k):=by
 have hc:(2<=k/\k<=8)\/k=1\/k=9\/k=10:=by omega
 rcases hc with h | rfl | rfl | rfl
 ·exact⟨_,_,Bm k h,fun _=>⟨rfl,rfl⟩⟩
 all_goals
  refine⟨0,256,?_,fun h=>absurd h (by omega)⟩
  refine ak.intro Ml.2 (by simp[Ml]) ?_
  simp(disch:=try exact dI) only[Ml,push_cast,seval]
section
variable (m M s:Int)(w:List (List UInt8))(e:List Typ)(f:List TFd)
theorem Nq (k:Int)(hw:∀ x∈w,x.length<=140737488351232):ak Tryz.prog ap 125 [(Typ.mk k m M s w e f).pv] (.int .i64 (dr (.mk k m M s w e f))):=by
 have hi:=kJ k 1 10
 by_cases hk:inB k 1 10=false
 ·rw[hk] at hi
  rw[show dr (.mk k m M s w e f)=11 by simp[dr,hk]]
  refine ak.intro Ms.2 (by simp[Ms]) ?_
  simp(disch:=try exact dI) only[Ms,Typ.pv_mk,push_cast,seval]
  refine ab.pure hi rfl ?_
  exact qsZ
 have hk:inB k 1 10=true:=by simpa using hk
 have hr:1<=k/\k<=10:=by simpa[inB] using hk
 rw[hk] at hi
 have hu:=yP m M s w e f k hr
 obtain⟨a,b,hl,hab⟩:=SM k hr
 have hj:=kJ k 2 8
 have hb:=Dl m M s w e f k a b
 have hs:=kJ s 0 12
 have hfl:=Ch k m M s w e f
 have hws:=DY k m M s w e f hw
 simp only[Typ.pv_mk] at hu hfl hb hws
 have hform:=BY (k:=k) (m:=m) (M:=M) (s:=s) (w:=w) (e:=e) (f:=f)
 rw[show dr (.mk k m M s w e f)=if du k (.mk k m M s w e f)=true then 3 else if ¬ cf k m M s w=0 then cf k m M s w else if ¬ bt k e.length f.length=0 then bt k e.length f.length else be k [] f by rw[dr,if_neg (by rw[hk];decide)]]
 generalize du k (.mk k m M s w e f)=q at hu hform ⊢
 refine ak.intro Ms.2 (by simp[Ms]) ?_
 simp(disch:=try exact dI) only[Ms,Typ.pv_mk,push_cast,seval]
 refine ab.pure hi rfl ?_
 refine zgZ ?_
 refine ab.pure hu rfl ?_
 cases q with
 | true=>
   rw[if_pos rfl]
   exact qsZ
 | false=>
 rw[if_neg (show ¬ false=true by decide)]
 obtain⟨hf3,hf8,hf9⟩:=hform rfl
 by_cases hw4:k=4/\0<w.length
 ·have hw0I:(0:Int)<(w.length:Int):=by omega
  have h4:=hw4.1
  obtain rfl:=List.length_eq_zero_iff.1 (hf9 (by omega))
  rw[oo (by omega) (by omega) (by omega),show cf k m M s w=bA m M w by unfold cf;rw[if_pos hw4],if_neg (show ¬ 64<([]:List TFd).length by decide),show be k [] []=0 from rfl]
  generalize bA m M w=z at hws ⊢
  rw[show (if ¬ z=0 then z else 0)=z by by_cases h:z=0<;>simp[h]]
  simp(disch:=try exact dI) only[eq_true h4,hw0I,push_cast,seval]
  refine ab.pure hws rfl ?_
  exact qsZ
 have hJ:(inB k 2 8=true/\(2<=k/\k<=8)/\a=loK k/\b=hiK k)\/(inB k 2 8=false/\¬ (2<=k/\k<=8)):=by
  by_cases h:2<=k/\k<=8
  ·exact .inl ⟨by simpa[inB] using h,h,hab h⟩
  ·exact .inr ⟨by simp[inB];omega,h⟩
 by_cases h4:k=4
 case' pos=>
  have hw0I:¬ (0:Int)<(w.length:Int):=by omega
  have h4':=eq_true h4
 case' neg=>
  have hw0I:=h4
  have h4':=eq_false h4
 all_goals
  rcases hJ with ⟨g,hq,rfl,rfl⟩ | ⟨g,hq⟩
  all_goals
   rw[g] at hj
   simp(disch:=try exact dI) only[h4',hw0I,push_cast,seval]
   refine ab.pure hl rfl ?_
   refine zgZ ?_
   refine ab.pure hj rfl ?_
   refine zgZ ?_
   try
    by_cases hA:M<m\/m<loK k\/hiK k<M
    ·rw[show cf k m M s w=2 by unfold cf;rw[if_neg hw4,if_pos ⟨hq,hA⟩],if_pos (show ¬ (2:Int)=0 by decide)]
     rw[decide_eq_false (not_not_intro hA)] at hb
     refine ab.pure hb rfl ?_
     exact qsZ
    rw[decide_eq_true hA] at hb
    refine ab.pure hb rfl ?_
    refine zgZ ?_
    skip
   have hB:cf k m M s w=if inB s 0 12=false then 2 else 0:=by
    unfold cf
    rw[if_neg hw4,if_neg (by first | exact fun h=>hq h.1 | exact fun h=>hA h.2)]
    by_cases h3:k=3
    ·simp[h3]
    ·rw[if_neg (fun h=>h3 h.1),hf3 h3];rfl
   rw[hB]
   generalize inB s 0 12=q at hs ⊢
   refine ab.pure hs rfl ?_
   cases q
   case' false=>rw[if_pos rfl,if_pos (by decide)];simp(disch:=try exact dI) only[push_cast,seval]
   case' true=>
    rw[if_neg (show ¬ true=false by decide),if_neg (by decide)]
    have hcs:(k=8/\e.length=0)\/(k=8/\¬ e.length=0/\1<e.length)\/(k=10/\f.length=0)\/((¬ (k=8/\e.length=0)/\¬ (k=10/\f.length=0))/\¬ (k=8/\1<e.length)):=by omega
    rcases hcs with ⟨h8,he⟩ | ⟨h8,he,he1⟩ | ⟨h8,he⟩ | ⟨⟨h1,h2⟩,h3⟩
    ·rw[if_pos (by simp[bt,h8,he]),show bt k e.length f.length=4 by simp[bt,h8,he]]
     have he:(e.length:Int)=0:=by omega
     simp(disch:=try exact dI) only[eq_true h8,he,push_cast,seval]
    ·rw[if_pos (by simp[bt,h8,he,he1]),show bt k e.length f.length=3 by simp[bt,h8,he,he1]]
     have he:¬ (e.length:Int)=0:=by omega
     have he1:(1:Int)<(e.length:Int):=by omega
     have h10:¬ k=10:=by omega
     simp(disch:=try exact dI) only[eq_true h8,eq_false h10,he,he1,push_cast,seval]
    ·have h8':¬ k=8:=by omega
     rw[if_pos (by simp[bt,h8,he]),show bt k e.length f.length=4 by simp[bt,h8,he]]
     have he:(f.length:Int)=0:=by omega
     simp(disch:=try exact dI) only[eq_true h8,eq_false h8',he,push_cast,seval]
    ·have he1I:¬ (1:Int)<(e.length:Int):=by
      by_cases a:k=8
      ·omega
      ·have:=hf8 a;omega
     rw[oo h1 h2 h3]
     generalize (if 64<f.length then 9 else be k [] f)=L at hfl ⊢
     by_cases a:k=8
     case' pos=>
      have b:¬ k=10:=by omega
      have g:¬ (e.length:Int)=0:=by omega
      simp(disch:=try exact dI) only[eq_true a,eq_false b,g,he1I,push_cast,seval]
     case' neg=>
      by_cases b:k=10
      case' pos=>
       have g:¬ (f.length:Int)=0:=by omega
       simp(disch:=try exact dI) only[eq_false a,eq_true b,g,he1I,push_cast,seval]
      case' neg=>simp(disch:=try exact dI) only[eq_false a,eq_false b,he1I,push_cast,seval]
     all_goals
      refine ab.pure hfl rfl ?_
      exact qsZ
end
theorem iH {k:Int}{b:List TFd}{n:Int}{nm:List UInt8}{nd:Int}{t:Typ}{d:List Val}(h:cC k b (.mk n nm nd t d)=0):fG k nd d=0:=by
 rw[fe] at h
 repeat' split at h
 all_goals first | exact absurd h (by decide) | exact h
theorem jW {k nd:Int}{d:List Val}(h:fG k nd d=0):(k=10->nd=1)/\((nd=3/\d.length=1)\/(¬ nd=3/\d.length=0)):=by
 unfold fG at h
 by_cases h1:inB nd 1 3=false
 ·rw[if_pos h1] at h;exact absurd h (by decide)
 rw[if_neg h1] at h
 by_cases h2:k=10/\¬ nd=1
 ·rw[if_pos h2] at h;exact absurd h (by decide)
 rw[if_neg h2] at h
 by_cases h3:nd=3/\d.length=0
 ·rw[if_pos h3] at h;exact absurd h (by decide)
 rw[if_neg h3] at h
 by_cases h4:1<d.length
 ·rw[if_pos h4] at h;exact absurd h (by decide)
 rw[if_neg h4] at h
 by_cases h5:¬ nd=3/\0<d.length
 ·rw[if_pos h5] at h;exact absurd h (by decide)
 refine⟨fun hk=>Decidable.byContradiction fun hh=>h2 ⟨hk,hh⟩,?_⟩
 by_cases hn:nd=3
 ·exact .inl ⟨hn,by have:¬ d.length=0:=fun hh=>h3 ⟨hn,hh⟩;omega⟩
 ·exact .inr ⟨hn,by have:¬ 0<d.length:=fun hh=>h5 ⟨hn,hh⟩;omega⟩
theorem mC {n:Nat}{rec:Int->Typ->Int×Int}:∀ (f:List TFd) (l:Int),(∀ g∈f,gY n g=false)->cH rec l (f.map TFd.typ)=ce n rec l f
 | [],_,_=>rfl
 | x::r,l,h=>by
   rw[List.map_cons,cH,ce,h x (List.mem_cons_self ..),if_neg (show ¬ false=true by decide)]
   split
   ·exact mC r _ fun g hg=>h g (List.mem_cons_of_mem _ hg)
   ·rfl
theorem Bx (rec:Int->Typ->Int×Int)(l:Int)(t:Typ):cH rec l [t]=rec l t:=by
 rw[cH]
 split
 ·rename_i h;rw[cH];exact Prod.ext h.symm rfl
 ·rfl
theorem CV {δ:Int}{n:Nat}{k m M s:Int}{w:List (List UInt8)}{e:List Typ}{f:List TFd}(h:dr (.mk k m M s w e f)=0)(h8:¬ k=8){l:Int}(hl:¬ l=0):bS δ (n+1) l (.mk k m M s w e f)=ce n (bS δ n) (l - 1) f:=by
 rw[bS,if_neg hl,if_pos h]
 by_cases h9:k=9
 ·rw[if_pos h9]
 rw[if_neg h9]
 by_cases h10:k=10
 ·subst h10
  rw[show bE (.mk 10 m M s w e f)=f.map TFd.typ from rfl]
  refine mC f _ fun g hg=>?_
  obtain⟨b,hb⟩:=bq f [] (bc h).2.2.2 g hg
  obtain⟨n',nm',nd',t',d'⟩:=g
  obtain rfl:=(jW (iH hb)).1 rfl
  rfl
 ·obtain rfl:=(dQ h).2 (by omega)
  rw[show bE (.mk k m M s w e [])=[] by simp only[bE];rw[if_neg h8,if_neg (by omega)]]
  rfl
def LB (n:Nat):Prop:=∀ (t:Typ) (d l:Int),t.ok->d+n=9->0<=l->l<=4096 ->
 bK Tryz.prog ap 1 71 [.pv t.pv,.pv (.int .i64 d),.ptr 0 0] [.cells 3 true [.pv (.int .i64 l)]] (.pv (.int .i64 (bS 1 n l t).1)) [.cells 3 true [.pv (.int .i64 (bS 1 n l t).2)]]
theorem AS {k m M s:Int}{w:List (List UInt8)}{e:List Typ}{f:List TFd}(h:(Typ.mk k m M s w e f).ok):ak Tryz.prog ap 125 [(Typ.mk k m M s w e f).pv] (.int .i64 (dr (.mk k m M s w e f))):=by
 rw[Typ.ok_mk] at h
 exact Nq m M s w e f k (fun x hx=>by have:=h.2.2.2.2.2.1 x hx;omega)
theorem yB (t:Typ)(d l:Int)(hd:d=9)(hl:0<=l)(hl2:l<=4096):bK Tryz.prog ap 1 71 [.pv t.pv,.pv (.int .i64 d),.ptr 0 0] [.cells 3 true [.pv (.int .i64 l)]] (.pv (.int .i64 (bS 1 0 l t).1)) [.cells 3 true [.pv (.int .i64 (bS 1 0 l t).2)]]:=by
 subst hd
 rw[bS]
 obtain⟨k',m',M',s',w',e',f'⟩:=t
 simp only[Typ.pv_mk]
 by_cases h0:l=0
 ·subst h0
  rw[if_pos rfl]
  refine bK.intro Q71.2 (by simp[Q71]) ?_
  simp(disch:=try exact dI) only[Q71,push_cast,seval]
  exact aJ [] qsZ
 ·rw[if_neg h0]
  refine bK.intro Q71.2 (by simp[Q71]) ?_
  simp(disch:=try exact dI) only[Q71,h0,push_cast,seval]
  exact aJ [] qsZ
theorem yy (n:Nat)(t:Typ)(d:Int):bK Tryz.prog ap 1 71 [.pv t.pv,.pv (.int .i64 d),.ptr 0 0] [.cells 3 true [.pv (.int .i64 0)]] (.pv (.int .i64 (bS 1 (n+1) 0 t).1)) [.cells 3 true [.pv (.int .i64 (bS 1 (n+1) 0 t).2)]]:=by
 obtain⟨k',m',M',s',w',e',f'⟩:=t
 rw[bS,if_pos rfl]
 simp only[Typ.pv_mk]
 refine bK.intro Q71.2 (by simp[Q71]) ?_
 simp(disch:=try exact dI) only[Q71,push_cast,seval]
 exact aJ [] qsZ
theorem yA (n:Nat)(ih:LB n)(m M s:Int)(w:List (List UInt8))(e:List Typ)(f:List TFd)(d l:Int)(ht:(Typ.mk 8 m M s w e f).ok)(hdn:d+(n+1:Nat)=9)(hd:1<=d)(hl:0<=l)(hl2:l<=4096)(hl0:¬ l=0) :
  bK Tryz.prog ap 1 71 [.pv (Typ.mk 8 m M s w e f).pv,.pv (.int .i64 d),.ptr 0 0] [.cells 3 true [.pv (.int .i64 l)]] (.pv (.int .i64 (bS 1 (n+1) l (.mk 8 m M s w e f)).1)) [.cells 3 true [.pv (.int .i64 (bS 1 (n+1) l (.mk 8 m M s w e f)).2)]]:=by
 have h148:=AS ht
 have hpt:=(AU ht).2.2.1
 have hd8:¬ 8<d:=by omega
 by_cases hz:dr (.mk 8 m M s w e f)=0
 ·obtain⟨x,rfl⟩:=jw hz
  have hxt:=hpt x (by rw[show bE (.mk 8 m M s w [x] f)=[x] from rfl];exact List.mem_cons_self ..)
  have hcall:=ih x (d+1) (l - 1) hxt (by omega) (by omega) (by omega)
  rw[bS,if_neg hl0,if_pos hz,if_neg (by decide),show bE (.mk 8 m M s w [x] f)=[x] from rfl,Bx]
  rw[hz] at h148
  obtain⟨⟨e1,e2⟩,he⟩:∃ q,q=bS 1 n (l - 1) x:=⟨_,rfl⟩
  rw[<- he] at hcall ⊢
  clear he hz hxt hpt
  obtain⟨k',m',M',s',w',e',f'⟩:=x
  simp only[Typ.pv_mk,List.map_cons,List.map_nil] at h148 hcall
  simp only at hcall ⊢
  refine bK.intro Q71.2 (by simp[Q71]) ?_
  simp(disch:=try exact dI) only[Q71,Typ.pv_mk,hl0,hd8,push_cast,seval]
  refine ab.pure h148 rfl ?_
  simp(disch:=try exact dI) only[Typ.pv_mk,au,ag,push_cast,seval]
  refine ab.lentK hcall [0] rfl qsZ qsZ ?_
  refine zgZ ?_
  exact aJ [] qsZ
 ·rw[bS,if_neg hl0,if_neg hz]
  generalize dr (.mk 8 m M s w e f)=z at *
  simp only[Typ.pv_mk] at h148 ⊢
  refine bK.intro Q71.2 (by simp[Q71]) ?_
  simp(disch:=try exact dI) only[Q71,hl0,hd8,push_cast,seval]
  refine ab.pure h148 rfl ?_
  simp(disch:=try exact dI) only[hz,push_cast,seval]
  exact aJ [] qsZ
theorem yz (n:Nat)(ih:LB n)(k m M s:Int)(w:List (List UInt8))(e:List Typ)(f:List TFd)(d l:Int)(ht:(Typ.mk k m M s w e f).ok)(hdn:d+(n+1:Nat)=9)(hd:1<=d)(hl:0<=l)(hl2:l<=4096)(hl0:¬ l=0)(hk:¬ k=8) :
  bK Tryz.prog ap 1 71 [.pv (Typ.mk k m M s w e f).pv,.pv (.int .i64 d),.ptr 0 0] [.cells 3 true [.pv (.int .i64 l)]] (.pv (.int .i64 (bS 1 (n+1) l (.mk k m M s w e f)).1)) [.cells 3 true [.pv (.int .i64 (bS 1 (n+1) l (.mk k m M s w e f)).2)]]:=by
 have h148:=AS ht
 rw[Typ.ok_mk] at ht
 have hd8:¬ 8<d:=by omega
 by_cases hz:dr (.mk k m M s w e f)=0
 ·have hfl:=(bc hz).2.2.2
  rw[CV hz hk hl0]
  rw[hz] at h148
  clear hz
  obtain⟨R,hR⟩:∃ R,R=ce n (bS 1 n) (l - 1) f:=⟨_,rfl⟩
  rw[<- hR]
  simp only[Typ.pv_mk] at h148 ⊢
  refine bK.intro Q71.2 (by simp[Q71]) ?_
  simp(disch:=try exact dI) only[Q71,hl0,hd8,push_cast,seval]
  refine ab.pure h148 rfl ?_
  simp(disch:=try exact dI) only[hk,push_cast,seval]
  refine am ([]) (fun x:Nat×Int=>[(8,.pv (.int .i64 (x.1:Int)))]) (fun x=>[(0,.cells 3 true [.pv (.int .i64 x.2)])]) (fun x=>x.1<=f.length/\R=ce n (bS 1 n) x.2 (f.drop x.1)/\0<=x.2/\x.2<=4096) (fun x=>f.length - x.1) ((0,l - 1)) ?_;intro e0 σ0 n0 h0;simp(disch:=try exact dI) only[push_cast,seval] at h0;obtain⟨rfl,rfl,rfl⟩:=h0;refine⟨?_,?_,?_⟩
  ·exact qsZ
  ·exact⟨by simp,by simpa using hR,by simp only;omega,by simp only;omega⟩
  rintro⟨i,L⟩ ⟨hi,hr,hL,hL2⟩
  simp only at hi hr hL hL2
  by_cases hlt:i<f.length
  ·have hltI:(i:Int)<(f.length:Int):=by omega
   obtain⟨g,hg⟩:∃ g,f[i]? = some g:=⟨_,List.getElem?_eq_getElem hlt⟩
   have hgm:=List.mem_of_getElem? hg
   have hgt:=(cL (ht.2.2.2.2.2.2.2.2.2 g hgm)).1
   have hcall:=ih g.typ (d+1) L hgt (by omega) hL hL2
   have hleft:=fi (δ:=1) (by decide) n g.typ L hL hL2
   have hty:=fh (δ:=1) n L g.typ
   obtain⟨bb,hfe⟩:=bq f [] hfl g hgm
   have hgd:=(cL (ht.2.2.2.2.2.2.2.2.2 g hgm)).2
   rw[mz hg] at hr
   obtain⟨⟨e1,e2⟩,he⟩:∃ q,q=bS 1 n L g.typ:=⟨_,rfl⟩
   rw[<- he] at hcall hleft hr hty
   clear he
   obtain⟨n',nm',nd',t',d'⟩:=g
   simp only[TFd.typ,TFd.dflt] at hcall hleft hr hty hgt hgd
   have hnd:=(jW (iH hfe)).2
   by_cases he0:e1=0
   ·subst he0
    rw[if_pos rfl] at hr
    rcases hnd with ⟨rfl,hd1⟩ | ⟨h3,hd0⟩
    ·obtain⟨x,r,rfl⟩:=fB hfe
     have hx1:=hgd x (List.mem_cons_self ..)
     have hd0I:(0:Int)<((x::r).length:Int):=by omega
     have hacc:=xX n t' x hx1 (fun hc=>kM n (lvl x) t' x (hty rfl) hgt (sD (ep x) hc) hx1)
     simp only[gY,rS,decide_true,Bool.true_and] at hr
     generalize accB n t' x=q at hacc hr
     obtain⟨k',m',M',s',w',e',f'⟩:=t'
     obtain⟨vk,vn,vs,vt,vl,vf⟩:=x
     simp only[Typ.pv_mk,Val.pv_mk] at hcall hacc
     simp(disch:=try exact dI) only[hg,Option.map_some,TFd.pv_mk,Typ.pv_mk,ag,push_cast,seval]
     refine ab.lentK hcall [0] rfl qsZ qsZ ?_
     simp(disch:=try exact dI) only[Val.pv_mk,ag,au,hd0I,push_cast,seval]
     refine ab.pure hacc rfl ?_
     cases q with
     | true=>
       rw[if_neg (by decide)] at hr
       refine zgZ ?_
       exact⟨(i+1,e2),aI qsZ,⟨by simp only;omega,hr,by simp only;omega,by simp only;omega⟩,by simp only;omega⟩
     | false=>
       rw[if_pos (by decide)] at hr
       subst hr
       refine zgZ ?_
       exact aJ [] qsZ
    ·rw[if_neg (by simp[gY,h3])] at hr
     obtain rfl:=List.length_eq_zero_iff.1 hd0
     obtain⟨k',m',M',s',w',e',f'⟩:=t'
     simp only[Typ.pv_mk] at hcall
     simp(disch:=try exact dI) only[hg,Option.map_some,TFd.pv_mk,Typ.pv_mk,ag,push_cast,seval]
     refine ab.lentK hcall [0] rfl qsZ qsZ ?_
     refine zgZ ?_
     exact⟨(i+1,e2),aI qsZ,⟨by simp only;omega,hr,by simp only;omega,by simp only;omega⟩,by simp only;omega⟩
   ·rw[if_neg he0] at hr
    subst hr
    obtain⟨k',m',M',s',w',e',f'⟩:=t'
    simp only[Typ.pv_mk] at hcall
    simp(disch:=try exact dI) only[hg,Option.map_some,TFd.pv_mk,Typ.pv_mk,ag,push_cast,seval]
    refine ab.lentK hcall [0] rfl qsZ qsZ ?_
    simp(disch:=try exact dI) only[he0,push_cast,seval]
    exact aJ [] qsZ
  ·obtain rfl:i=f.length:=by omega
   rw[List.drop_length,ce] at hr
   subst hr
   simp(disch:=try exact dI) only[Int.lt_irrefl,push_cast,seval]
   exact aJ [] qsZ
 ·rw[bS,if_neg hl0,if_neg hz]
  generalize dr (.mk k m M s w e f)=z at *
  simp only[Typ.pv_mk] at h148 ⊢
  refine bK.intro Q71.2 (by simp[Q71]) ?_
  simp(disch:=try exact dI) only[Q71,hl0,hd8,push_cast,seval]
  refine ab.pure h148 rfl ?_
  simp(disch:=try exact dI) only[hz,push_cast,seval]
  exact aJ [] qsZ
theorem yC:∀ n,n<=8->LB n
 | 0,_=>fun t d l ht hd hl hl2=>yB t d l (by omega) hl hl2
 | n+1,hn=>fun t d l ht hd hl hl2=>by
   by_cases hl0:l=0
   ·subst hl0;exact yy n t d
   have ih:=yC n (by omega)
   obtain⟨k,m,M,s,w,e,f⟩:=t
   by_cases hk:k=8
   ·subst hk;exact yA n ih m M s w e f d l ht hd (by omega) hl hl2 hl0
   ·exact yz n ih k m M s w e f d l ht hd (by omega) hl hl2 hl0 hk
def DX (a b:Int):Prop:=0<=a/\a<=b/\(a=b\/4097<=a)
theorem zI {p q:TFd->Int}:∀ (f:List TFd),(∀ g∈f,DX (p g) (q g))->DX (f.map p).sum (f.map q).sum
 | [],_=>by simp[DX]
 | g::r,h=>by
   have h1:=h g (List.mem_cons_self ..)
   have h2:=zI r fun x hx=>h x (List.mem_cons_of_mem _ hx)
   simp only[List.map_cons,List.sum_cons,DX] at *
   omega
theorem Jy {m a b:Int}(hm:0<m)(h:DX a b):DX (m*a) (m*b):=by
 obtain⟨h1,h2,h3⟩:=h
 refine⟨Int.mul_nonneg (by omega) h1,Int.mul_le_mul_of_nonneg_left h2 (by omega),?_⟩
 rcases h3 with rfl | h3
 ·exact .inl rfl
 ·have:1*a<=m*a:=Int.mul_le_mul_of_nonneg_right (by omega) h1
  exact .inr (by omega)
theorem jv {a:Int}(h:0<=a):DX a a:=⟨h,by omega,.inl rfl⟩
theorem oA:∀ (n:Nat) (t:Typ),dw n t->DX (bV n t) (bW n t)/\bV n t=min (bW n t) 4097
 | 0,_,h=>h.elim
 | n+1,.mk k m M s w e f,h=>by
   have ih:=oA n
   simp only[dw] at h
   obtain⟨h8,h10,h9,hf⟩:=h
   have key:DX (bZ (bV n) k m e f) (bZ (bW n) k m e f):=by
    unfold bZ
    by_cases e8:k=8
    ·rw[if_pos e8,if_pos e8]
     by_cases hm:0<m
     ·rw[if_pos hm,if_pos hm]
      obtain⟨_,x,r,rfl,hx⟩:=h8 e8 hm
      exact Jy hm (ih x hx).1
     ·rw[if_neg hm,if_neg hm];exact jv (by omega)
    rw[if_neg e8,if_neg e8]
    by_cases e10:k=10
    ·rw[if_pos e10,if_pos e10]
     obtain⟨g,r,rfl,_,hx⟩:=h10 e10
     obtain⟨a,b,c,t,d⟩:=g
     exact (ih t hx).1
    rw[if_neg e10,if_neg e10]
    by_cases e9:k=9
    ·rw[if_pos e9,if_pos e9]
     refine zI f fun g hg=>?_
     have hr:=(h9 e9).2 g hg
     obtain⟨a,b,nd,t,d⟩:=g
     simp only[go,j9] at hr ⊢
     by_cases n1:nd=1
     ·rw[if_pos n1,if_pos n1];exact (ih t (hr.1 n1)).1
     ·rw[if_neg n1,if_neg n1]
      by_cases n3:nd=3
      ·obtain⟨x,r,rfl,hx⟩:=hr.2 n3
       rw[if_pos n3];simp only[LQ];exact jv (by omega)
      ·rw[if_neg n3];exact jv (by omega)
    ·rw[if_neg e9,if_neg e9];exact jv (by omega)
   simp only[bV,bW,DX] at key ⊢
   omega
theorem fa {α:Type}{p:α->Int}:∀ (l:List α) (a:Int),(4096<l.foldl (fun a x=>max a (p x)) a↔(4096<a\/∃ x∈l,4096<p x))
 | [],a=>by simp
 | x::r,a=>by
   rw[List.foldl_cons,fa r,show (4096<max a (p x)↔(4096<a\/4096<p x)) by omega]
   simp[or_assoc]
theorem kN:∀ (n:Nat) (t:Typ),Lo n t->(4096<ci n t↔4096<cP n t)
 | 0,_,h=>h.elim
 | n+1,.mk k m M s w e f,h=>by
   simp only[Lo] at h
   obtain⟨hs,_,_,he,hf⟩:=h
   have h9:=(oA 9 _ hs).2
   simp only[ci,cP]
   rw[fa (p:=fun g:TFd=>ci n g.typ) f,fa (p:=fun g:TFd=>cP n g.typ) f,fa e,fa e,h9]
   exact or_congr (or_congr (by omega) (exists_congr fun x=>and_congr_right fun hx=>kN n x (he x hx))) (exists_congr fun g=>and_congr_right fun hg=>kN n g.typ (hf g hg))
theorem gy:∀ (n N:Nat) (t:Typ),n<=N->tyV n t->t.ok->dw N t
 | 0,_,_,_,h,_=>h.elim
 | _+1,0,_,h,_,_=>absurd h (by omega)
 | n+1,N+1,.mk k m M s w e f,hN,h,ht=>by
   obtain⟨ho,h8,h9⟩:=h
   rw[Typ.ok_mk] at ht
   obtain⟨_,_,_,_,_,_,t3,t5,t4,t6⟩:=ht
   refine⟨fun hk hm=>?_,fun hk=>?_,fun hk=>⟨AC ho,fun g hg=>?_⟩,fun hk=>(dQ ho).2 hk⟩
   ·subst hk
    obtain⟨x,rfl⟩:=jw ho
    exact⟨AB ho,x,[],rfl,gy n N x (by omega) (h8 rfl x (List.mem_cons_self ..)) (t5 x (List.mem_cons_self ..))⟩
   ·subst hk
    obtain⟨g,r,rfl⟩:=Ay ho
    obtain⟨b,hb⟩:=bq _ [] (bc ho).2.2.2 g (List.mem_cons_self ..)
    refine⟨g,r,rfl,?_,gy n N g.typ (by omega) (h9 (.inr rfl) g (List.mem_cons_self ..)).1 (cL (t6 g (List.mem_cons_self ..))).1⟩
    obtain⟨n',nm',nd',t',d'⟩:=g
    exact (jW (iH hb)).1 rfl
   ·subst hk
    have hs:=gy n N g.typ (by omega) (h9 (.inl rfl) g hg).1 (cL (t6 g hg)).1
    obtain⟨b,hb⟩:=bq f [] (bc ho).2.2.2 g hg
    have hd:=(cL (t6 g hg)).2
    have hdf:=(h9 (.inl rfl) g hg).2 rfl
    obtain⟨n',nm',nd',t',d'⟩:=g
    refine⟨fun _=>hs,fun h3=>?_⟩
    subst h3
    obtain⟨x,r,rfl⟩:=fB hb
    exact⟨x,r,rfl,uk hdf (hd x (List.mem_cons_self ..))⟩
theorem sn:∀ (n:Nat) (t:Typ),n<=9->tyV n t->t.ok->Lo n t
 | 0,_,_,h,_=>h.elim
 | n+1,.mk k m M s w e f,hN,h,ht=>by
   have hs:=gy (n+1) 9 _ hN h ht
   obtain⟨ho,h8,h9⟩:=h
   obtain⟨he,hf⟩:=dQ ho
   rw[Typ.ok_mk] at ht
   obtain⟨_,_,_,_,_,_,t3,t5,t4,t6⟩:=ht
   refine⟨hs,by omega,by omega,fun x hx=>?_,fun g hg=>?_⟩
   ·by_cases hk:k=8
    ·exact sn n x (by omega) (h8 hk x hx) (t5 x hx)
    ·rw[he hk] at hx;cases hx
   ·by_cases hk:k=9\/k=10
    ·exact sn n g.typ (by omega) (h9 hk g hg).1 (cL (t6 g hg)).1
    ·rw[hf hk] at hg;cases hg
theorem C3 (t:Typ)(ht:t.ok):ak Tryz.prog ap 28 [t.pv] (.int .i64 (lX t)):=by
 have h94:=yC 8 (by omega) t 1 4096 ht (by omega) (by omega) (by omega)
 have h95:(bS 1 8 4096 t).1=0->ak Tryz.prog ap 72 [t.pv] (.int .i64 (cP 8 t))/\(4096<ci 8 t↔4096<cP 8 t):=fun h=>by
  have ha:=sn 8 t (by omega) (fh 8 4096 t h) ht
  exact⟨mr 8 t ha,kN 8 t ha⟩
 simp only[lX]
 rw[<- (lk 1 0 8 4096 t).1]
 obtain⟨⟨z,L⟩,hq⟩:∃ q,q=bS 1 8 4096 t:=⟨_,rfl⟩
 rw[<- hq] at h94 h95 ⊢
 simp only at h94 h95 ⊢
 clear hq
 generalize ci 8 t=G at h95 ⊢
 generalize cP 8 t=H at h95
 obtain⟨k,m,M,s,w,e,f⟩:=t
 simp only[Typ.pv_mk] at h94 h95
 refine ak.intro Q28.2 (by simp[Q28]) ?_
 by_cases hz:z=0
 ·subst hz
  obtain⟨h95,hGH⟩:=h95 rfl
  rw[if_pos rfl]
  by_cases hg:4096<H
  ·rw[if_pos (hGH.2 hg)]
   simp(disch:=try exact dI) only[Q28,Typ.pv_mk,push_cast,seval]
   refine ab.lentK h94 [1] rfl qsZ qsZ ?_
   refine zgZ ?_
   refine ab.pure h95 rfl ?_
   simp(disch:=try exact dI) only[hg,push_cast,seval]
  ·rw[if_neg (fun h=>hg (hGH.1 h))]
   simp(disch:=try exact dI) only[Q28,Typ.pv_mk,push_cast,seval]
   refine ab.lentK h94 [1] rfl qsZ qsZ ?_
   refine zgZ ?_
   refine ab.pure h95 rfl ?_
   simp(disch:=try exact dI) only[hg,push_cast,seval]
 ·rw[if_neg hz]
  simp(disch:=try exact dI) only[Q28,Typ.pv_mk,push_cast,seval]
  refine ab.lentK h94 [1] rfl qsZ qsZ ?_
  simp(disch:=try exact dI) only[hz,push_cast,seval]
end Go.Proofs.YtbojpfpliibfbaaGreatDoor

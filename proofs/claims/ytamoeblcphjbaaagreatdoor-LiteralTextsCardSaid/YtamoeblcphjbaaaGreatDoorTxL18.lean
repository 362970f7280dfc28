/- A part of the proof for LiteralTextsCardSaid. -/
import Derived.Test.YtamoeblcphjbaaaGreatDoorTxL13
import Derived.Test.YtamoeblcphjbaaaGreatDoorTxLR6
set_option maxRecDepth 100000
set_option linter.unusedVariables false
set_option linter.unusedSimpArgs false
-- many steps
namespace Go.Proofs.YtamoeblcphjbaaaGreatDoor
open Go Go.Ab Go.RowKit
attribute [local irreducible] vc
def m8:Nat→Val→Prop
 | 0,_=>False
 | n+1,v=>(∀ x∈v.lst,m8 n x)∧∀ x∈v.fields,m8 n x.value
theorem gF:∀ (n:Nat) (v:Val),m8 n v→m8 (n+1) v
 | 0,_,h=>h.elim
 | n+1,v,h=>⟨fun x hx=>gF n x (h.1 x hx),fun x hx=>gF n x.value (h.2 x hx)⟩
theorem ja {n m:Nat}(h:n≤m){v:Val}(hv:m8 n v):m8 m v:=by
 induction h with
 | refl=>exact hv
 | step _ ih=>exact gF _ _ ih
theorem m5 {α:Type}(g:α→Val):∀ l:List α,(∀ x∈l,∃ n,m8 n (g x))→∃ n,∀ x∈l,m8 n (g x)
 | [],_=>⟨0,by simp⟩
 | x::r,h=>by
   obtain⟨n,hn⟩:=h x (by simp)
   obtain⟨m,hm⟩:=m5 g r fun y hy=>h y (List.mem_cons_of_mem _ hy)
   refine⟨max n m,fun y hy=>?_⟩
   rcases List.mem_cons.1 hy with rfl | hy
   ·exact ja (Nat.le_max_left _ _) hn
   ·exact ja (Nat.le_max_right _ _) (hm y hy)
theorem m7 (v:Val):∃ n,m8 n v:=by
 obtain⟨k,n,s,t,l,fs⟩:=v
 have h1:∀ x∈l,∃ n,m8 n x:=fun x hx=>m7 x
 have h2:∀ x∈fs,∃ n,m8 n x.value:=fun x hx=>by
  obtain⟨nm,y⟩:=x
  exact m7 y
 obtain⟨a,ha⟩:=m5 id l h1
 obtain⟨b,hb⟩:=m5 Fld.value fs h2
 exact⟨max a b+1,fun x hx=>ja (Nat.le_max_left _ _) (ha x hx),fun x hx=>ja (Nat.le_max_right _ _) (hb x hx)⟩
termination_by SizeOf.sizeOf v
decreasing_by
 ·have:=List.sizeOf_lt_of_mem hx;simp;omega
 ·have:=List.sizeOf_lt_of_mem hx;simp at this ⊢;omega
theorem iY:∀ (n:Nat) (v:Val),m8 n v→fl n v
 | 0,_,h=>h
 | n+1,v,h=>fun x hx=>by
   unfold aQ at hx
   split at hx
   ·exact iY n x (h.1 x hx)
   ·split at hx
    ·obtain⟨y,hy,rfl⟩:=List.mem_map.1 hx
     exact iY n _ (h.2 y hy)
    ·simp at hx
end Go.Proofs.YtamoeblcphjbaaaGreatDoor
set_option maxRecDepth 100000
set_option linter.unusedVariables false
set_option linter.unusedSimpArgs false
-- many steps
namespace Go.Proofs.YtamoeblcphjbaaaGreatDoor
open Go Go.Ab Go.RowKit
attribute [local irreducible] vc
def dW (g:Val→Int):Int→List Val→Int
 | a,[]=>a
 | a,x::r=>dW g (max a (g x)) r
theorem mU (g:Val→Int)(x:Val):∀ (l:List Val) (a:Int),dW g a (l++[x])=max (dW g a l) (g x)
 | [],a=>rfl
 | y::r,a=>by rw[List.cons_append,dW,mU g x r];rfl
def eA:Nat→Val→Int
 | 0,_=>0
 | n+1,v=>IntKind.i64.wrap (dW (eA n) (dW (eA n) 0 v.lst) (v.fields.map Fld.value)+1)
theorem BK {v:Val}(hv:v.ok):∀ x∈v.lst,x.ok:=by
 obtain⟨k,m,s,t,l,fs⟩:=v
 rw[Val.ok_mk] at hv
 exact hv.2.2.2.2.2.1
theorem BQ {v:Val}(hv:v.ok):∀ x∈v.fields,x.value.ok:=by
 obtain⟨k,m,s,t,l,fs⟩:=v
 rw[Val.ok_mk] at hv
 intro x hx
 have:=hv.2.2.2.2.2.2.2 x hx
 obtain⟨nm,y⟩:=x
 rw[Fld.ok_mk] at this
 exact this.2
set_option maxHeartbeats 4000000 in
theorem mS:∀ (n:Nat) (v:Val),m8 n v→v.ok→aw Tryz.prog aD 34 [v.pv] (.int .i64 (eA n v))
 | 0,_,h,_=>h.elim
 | n+1,v,h,hv=>by
   have ih1:∀ x∈v.lst,aw Tryz.prog aD 34 [x.pv] (.int .i64 (eA n x)):=fun x hx=>mS n x (h.1 x hx) (BK hv x hx)
   have ih2:∀ x∈v.fields,aw Tryz.prog aD 34 [x.value.pv] (.int .i64 (eA n x.value)):=fun x hx=>mS n x.value (h.2 x hx) (BQ hv x hx)
   obtain⟨k,m,s,t,l,fs⟩:=v
   rw[eA]
   simp only[Val.lst,Val.fields] at ih1 ih2 ⊢
   rw[Val.ok_mk] at hv
   have hl1:l.length*88≤140737488351232:=hv.2.2.2.2.1
   have hl2:fs.length*104≤140737488351232:=hv.2.2.2.2.2.2.1
   clear hv h
   generalize eA n=g at *
   refine aw.intro HA (by simp[F34]) ?_
   simp(maxSteps:=9^7) (disch:=first|exact dI|fail) only[F34,Val.pv_mk,push_cast,seval]
   refine be ([]) (fun i:Nat=>[(3,.pv (.int .i64 (dW g 0 (l.take i)))),(4,.pv (.int .i64 (i:Int)))]) (fun _=>[]) (fun i=>i≤l.length) (fun i=>l.length - i) (0) ?_;intro e0 σ0 n0 h0;simp(maxSteps:=9^7) (disch:=first|exact dI|fail) only[push_cast,seval] at h0;obtain⟨rfl,rfl,rfl⟩:=h0;refine⟨?_,?_,?_⟩
   ·simp(maxSteps:=9^7) (disch:=first|exact dI|fail) only[push_cast,seval]
    try exact .refl _
   ·omega
   ·rintro i hi
    by_cases hlt:i<l.length
    ·have hltI:(i:Int)<(l.length:Int):=by omega
     obtain⟨x,hx⟩:∃ x,l[i]? = some x:=⟨_,List.getElem?_eq_getElem hlt⟩
     have hx':(l.map Val.pv)[i]? = some x.pv:=by simp[hx]
     have hc:=ih1 x (List.mem_of_getElem? hx)
     have hts:dW g 0 (l.take (i+1))=max (dW g 0 (l.take i)) (g x):=by rw[aZ hx,mU]
     generalize g x=X at *
     obtain⟨xk,xn,xs,xt,xl,xf⟩:=x
     simp only[Val.pv_mk] at hx' hc
     simp(maxSteps:=9^7) (disch:=first|exact dI|fail) only[hltI,hx',push_cast,seval]
     refine ae.pure hc rfl ?_
     simp(maxSteps:=9^7) (disch:=first|exact dI|fail) only[push_cast,seval]
     exact⟨i+1,bX (by simp(maxSteps:=9^7) (disch:=first|exact dI|fail) only[hts,push_cast,seval]),by omega,by omega⟩
    ·have hltI:¬ (i:Int)<(l.length:Int):=by omega
     obtain rfl:i=l.length:=by omega
     rw[List.take_length]
     generalize dW g 0 l=D at *
     simp(maxSteps:=9^7) (disch:=first|exact dI|fail) only[hltI,push_cast,seval]
     refine be ([]) (fun i:Nat=>[(3,.pv (.int .i64 (dW g D ((fs.take i).map Fld.value)))),(5,.pv (.int .i64 (i:Int)))]) (fun _=>[]) (fun i=>i≤fs.length) (fun i=>fs.length - i) (0) ?_;intro e0 σ0 n0 h0;simp(maxSteps:=9^7) (disch:=first|exact dI|fail) only[push_cast,seval] at h0;obtain⟨rfl,rfl,rfl⟩:=h0;refine⟨?_,?_,?_⟩
     ·simp(maxSteps:=9^7) (disch:=first|exact dI|fail) only[push_cast,seval]
      try exact .refl _
     ·omega
     ·rintro i hi
      by_cases hlt:i<fs.length
      ·have hltI:(i:Int)<(fs.length:Int):=by omega
       obtain⟨x,hx⟩:∃ x,fs[i]? = some x:=⟨_,List.getElem?_eq_getElem hlt⟩
       have hx':(fs.map Fld.pv)[i]? = some x.pv:=by simp[hx]
       have hc:=ih2 x (List.mem_of_getElem? hx)
       have hts:dW g D ((fs.take (i+1)).map Fld.value)=max (dW g D ((fs.take i).map Fld.value)) (g x.value):=by rw[aZ hx,List.map_append,List.map_cons,List.map_nil,mU]
       generalize g x.value=X at *
       obtain⟨nm,x⟩:=x
       simp only[Fld.value] at hc
       obtain⟨xk,xn,xs,xt,xl,xf⟩:=x
       simp only[Fld.pv_mk,Val.pv_mk] at hx' hc
       simp(maxSteps:=9^7) (disch:=first|exact dI|fail) only[hltI,hx',push_cast,seval]
       refine ae.pure hc rfl ?_
       simp(maxSteps:=9^7) (disch:=first|exact dI|fail) only[push_cast,seval]
       exact⟨i+1,bX (by simp(maxSteps:=9^7) (disch:=first|exact dI|fail) only[hts,push_cast,seval]),by omega,by omega⟩
      ·have hltI:¬ (i:Int)<(fs.length:Int):=by omega
       obtain rfl:i=fs.length:=by omega
       rw[List.take_length]
       simp(maxSteps:=9^7) (disch:=first|exact dI|fail) only[hltI,push_cast,seval]
end Go.Proofs.YtamoeblcphjbaaaGreatDoor
set_option maxRecDepth 100000
set_option linter.unusedVariables false
set_option linter.unusedSimpArgs false
-- many steps
namespace Go.Proofs.YtamoeblcphjbaaaGreatDoor
open Go Go.Ab Go.RowKit
attribute [local irreducible] vc
def sW (g:Val→Int):Int→List Val→Int
 | a,[]=>a
 | a,x::r=>sW g (IntKind.i64.wrap (a+g x)) r
theorem ly (g:Val→Int)(x:Val):∀ (l:List Val) (a:Int),sW g a (l++[x])=IntKind.i64.wrap (sW g a l+g x)
 | [],a=>rfl
 | y::r,a=>by rw[List.cons_append,sW,ly g x r];rfl
def iC:Nat→Val→Int
 | 0,_=>0
 | n+1,v=>sW (iC n) (sW (iC n) 1 v.lst) (v.fields.map Fld.value)
set_option maxHeartbeats 4000000 in
theorem sE:∀ (n:Nat) (v:Val),m8 n v→v.ok→aw Tryz.prog aD 35 [v.pv] (.int .i64 (iC n v))
 | 0,_,h,_=>h.elim
 | n+1,v,h,hv=>by
   have ih1:∀ x∈v.lst,aw Tryz.prog aD 35 [x.pv] (.int .i64 (iC n x)):=fun x hx=>sE n x (h.1 x hx) (BK hv x hx)
   have ih2:∀ x∈v.fields,aw Tryz.prog aD 35 [x.value.pv] (.int .i64 (iC n x.value)):=fun x hx=>sE n x.value (h.2 x hx) (BQ hv x hx)
   obtain⟨k,m,s,t,l,fs⟩:=v
   rw[iC]
   simp only[Val.lst,Val.fields] at ih1 ih2 ⊢
   rw[Val.ok_mk] at hv
   have hl1:l.length*88≤140737488351232:=hv.2.2.2.2.1
   have hl2:fs.length*104≤140737488351232:=hv.2.2.2.2.2.2.1
   clear hv h
   generalize iC n=g at *
   refine aw.intro Hz (by simp[F35]) ?_
   simp(maxSteps:=9^7) (disch:=first|exact dI|fail) only[F35,Val.pv_mk,push_cast,seval]
   refine be ([]) (fun i:Nat=>[(3,.pv (.int .i64 (sW g 1 (l.take i)))),(4,.pv (.int .i64 (i:Int)))]) (fun _=>[]) (fun i=>i≤l.length) (fun i=>l.length - i) (0) ?_;intro e0 σ0 n0 h0;simp(maxSteps:=9^7) (disch:=first|exact dI|fail) only[push_cast,seval] at h0;obtain⟨rfl,rfl,rfl⟩:=h0;refine⟨?_,?_,?_⟩
   ·simp(maxSteps:=9^7) (disch:=first|exact dI|fail) only[push_cast,seval]
    try exact .refl _
   ·omega
   ·rintro i hi
    by_cases hlt:i<l.length
    ·have hltI:(i:Int)<(l.length:Int):=by omega
     obtain⟨x,hx⟩:∃ x,l[i]? = some x:=⟨_,List.getElem?_eq_getElem hlt⟩
     have hx':(l.map Val.pv)[i]? = some x.pv:=by simp[hx]
     have hc:=ih1 x (List.mem_of_getElem? hx)
     have hts:sW g 1 (l.take (i+1))=IntKind.i64.wrap (sW g 1 (l.take i)+g x):=by rw[aZ hx,ly]
     generalize g x=X at *
     obtain⟨xk,xn,xs,xt,xl,xf⟩:=x
     simp only[Val.pv_mk] at hx' hc
     simp(maxSteps:=9^7) (disch:=first|exact dI|fail) only[hltI,hx',push_cast,seval]
     refine ae.pure hc rfl ?_
     simp(maxSteps:=9^7) (disch:=first|exact dI|fail) only[push_cast,seval]
     exact⟨i+1,bX (by simp(maxSteps:=9^7) (disch:=first|exact dI|fail) only[hts,push_cast,seval]),by omega,by omega⟩
    ·have hltI:¬ (i:Int)<(l.length:Int):=by omega
     obtain rfl:i=l.length:=by omega
     rw[List.take_length]
     generalize sW g 1 l=D at *
     simp(maxSteps:=9^7) (disch:=first|exact dI|fail) only[hltI,push_cast,seval]
     refine be ([]) (fun i:Nat=>[(3,.pv (.int .i64 (sW g D ((fs.take i).map Fld.value)))),(5,.pv (.int .i64 (i:Int)))]) (fun _=>[]) (fun i=>i≤fs.length) (fun i=>fs.length - i) (0) ?_;intro e0 σ0 n0 h0;simp(maxSteps:=9^7) (disch:=first|exact dI|fail) only[push_cast,seval] at h0;obtain⟨rfl,rfl,rfl⟩:=h0;refine⟨?_,?_,?_⟩
     ·simp(maxSteps:=9^7) (disch:=first|exact dI|fail) only[push_cast,seval]
      try exact .refl _
     ·omega
     ·rintro i hi
      by_cases hlt:i<fs.length
      ·have hltI:(i:Int)<(fs.length:Int):=by omega
       obtain⟨x,hx⟩:∃ x,fs[i]? = some x:=⟨_,List.getElem?_eq_getElem hlt⟩
       have hx':(fs.map Fld.pv)[i]? = some x.pv:=by simp[hx]
       have hc:=ih2 x (List.mem_of_getElem? hx)
       have hts:sW g D ((fs.take (i+1)).map Fld.value)=IntKind.i64.wrap (sW g D ((fs.take i).map Fld.value)+g x.value):=by rw[aZ hx,List.map_append,List.map_cons,List.map_nil,ly]
       generalize g x.value=X at *
       obtain⟨nm,x⟩:=x
       simp only[Fld.value] at hc
       obtain⟨xk,xn,xs,xt,xl,xf⟩:=x
       simp only[Fld.pv_mk,Val.pv_mk] at hx' hc
       simp(maxSteps:=9^7) (disch:=first|exact dI|fail) only[hltI,hx',push_cast,seval]
       refine ae.pure hc rfl ?_
       simp(maxSteps:=9^7) (disch:=first|exact dI|fail) only[push_cast,seval]
       exact⟨i+1,bX (by simp(maxSteps:=9^7) (disch:=first|exact dI|fail) only[hts,push_cast,seval]),by omega,by omega⟩
      ·have hltI:¬ (i:Int)<(fs.length:Int):=by omega
       obtain rfl:i=fs.length:=by omega
       rw[List.take_length]
       simp(maxSteps:=9^7) (disch:=first|exact dI|fail) only[hltI,push_cast,seval]
end Go.Proofs.YtamoeblcphjbaaaGreatDoor
set_option maxRecDepth 100000
set_option linter.unusedVariables false
namespace Go.Proofs.YtamoeblcphjbaaaGreatDoor
open Go Go.Ab
def sn:List PV→Option (List (List UInt8))
 | []=>some []
 | .str s::r=>match sn r with
   | some l=>some (s::l)
   | none=>none
 | _=>none
theorem nr:∀ {l:List PV} {ss:List (List UInt8)},sn l=some ss→l=ss.map .str
 | [],ss,h=>by simp only[sn,Option.some.injEq] at h;subst h;rfl
 | x::r,ss,h=>by
   unfold sn at h
   split at h
   ·rename_i e;cases e
   ·rename_i s r' e
    cases e
    split at h
    ·rename_i l hl
     cases h
     rw[nr hl];rfl
    ·cases h
   ·cases h
def eqL (p:PV→PV→Bool):List PV→List PV→Bool
 | [],[]=>true
 | x::r,y::q=>p x y&&eqL p r q
 | _,_=>false
def eqP:Nat→PV→PV→Bool
 | n+1,.int k a,.int k' b=>decide (k=k')&&decide (a=b)
 | n+1,.str a,.str b=>decide (a=b)
 | n+1,.nils,.nils=>true
 | n+1,.agg a,.agg b=>eqL (eqP n) a b
 | n+1,.list a,.list b=>eqL (eqP n) a b
 | _,_,_=>false
theorem vK {p:PV→PV→Bool}(hp:∀ x y,p x y=true→x=y):∀ a b,eqL p a b=true→a=b
 | [],[],_=>rfl
 | x::r,y::q,h=>by
   simp only[eqL,Bool.and_eq_true] at h
   rw[hp x y h.1,vK hp r q h.2]
 | [],y::q,h=>by simp[eqL] at h
 | x::r,[],h=>by simp[eqL] at h
theorem nZ:∀ n x y,eqP n x y=true→x=y
 | 0,x,y,h=>by simp[eqP] at h
 | n+1,x,y,h=>by
   unfold eqP at h
   split at h
   ·simp only[Bool.and_eq_true,decide_eq_true_eq] at h;rw[h.1,h.2]
   ·simp only[decide_eq_true_eq] at h;rw[h]
   ·rfl
   ·rw[vK (nZ _) _ _ h]
   ·rw[vK (nZ _) _ _ h]
   ·cases h
def v1:Val:=.mk 9 0 0 [] [] [.mk [97] (.mk 3 1250 2 [] [] []),.mk [98] (.mk 8 0 0 [] [.mk 1 1 0 [] [] [],.mk 4 0 0 [97,34,98] [] []] []),.mk [99] (.mk 10 0 0 [99,97,114,100] [.mk 6 0 0 [] [] []] [])]
def v1P:PV:=.agg [.int .i64 9,.int .i64 0,.int .i64 0,.str [],.nils,.list [.agg [.str [97],.int .i64 3,.int .i64 1250,.int .i64 2,.str [],.nils,.nils],.agg [.str [98],.int .i64 8,.int .i64 0,.int .i64 0,.str [],.list [.agg [.int .i64 1,.int .i64 1,.int .i64 0,.str [],.nils,.nils],.agg [.int .i64 4,.int .i64 0,.int .i64 0,.str [97,34,98],.nils,.nils]],.nils],.agg [.str [99],.int .i64 10,.int .i64 0,.int .i64 0,.str [99,97,114,100],.list [.agg [.int .i64 6,.int .i64 0,.int .i64 0,.str [],.nils,.nils]],.nils]]]
def v2:Val:=.mk 9 0 0 [] [] [.mk [97] (.mk 3 2 0 [] [] []),.mk [98] (.mk 2 1 0 [] [] [])]
def v2P:PV:=.agg [.int .i64 9,.int .i64 0,.int .i64 0,.str [],.nils,.list [.agg [.str [97],.int .i64 3,.int .i64 2,.int .i64 0,.str [],.nils,.nils],.agg [.str [98],.int .i64 2,.int .i64 1,.int .i64 0,.str [],.nils,.nils]]]
theorem AH:aw Tryz.prog aD 15 [v1P] (.int .i64 0):=by
 have h:=fB 4 v1 (by simp[v1,fl,aQ,Val.kind,Val.fields,Val.lst,Fld.value]) (by simp[v1,Val.ok_mk,Fld.ok_mk,I64])
 have e:i1 0 (aX 4 1 v1)=0:=by decide +kernel
 rw[e] at h
 refine h.nz ?_
 simp only[v1P,v1,Val.pv_mk,Fld.pv_mk,List.map_cons,List.map_nil]
 repeat' constructor
theorem AG:aw Tryz.prog aD 15 [v2P] (.int .i64 0):=by
 have h:=fB 3 v2 (by simp[v2,fl,aQ,Val.kind,Val.fields,Fld.value]) (by simp[v2,Val.ok_mk,Fld.ok_mk,I64])
 have e:i1 0 (aX 3 1 v2)=0:=by decide +kernel
 rw[e] at h
 refine h.nz ?_
 simp only[v2P,v2,Val.pv_mk,Fld.pv_mk,List.map_cons,List.map_nil]
 repeat' constructor
def orc (f:Nat)(ps:List PV):Option PV:=
 match f with
 | 66=>match ps with
   | [.int .i64 n]=>if -9223372036854775808≤n∧n≤9223372036854775807 then some (.str (bW n)) else none
   | _=>none
 | 103=>match ps with
   | [.str a,.str b]=>some (.int .i64 (Lib.compareBytes a b))
   | _=>none
 | 141=>match ps with
   | [.list l,.str s]=>match sn l with
     | some ss=>if ss.length≤140737488355328∧(aK s ss).length≤140737488355328 then some (.str (aK s ss)) else none
     | none=>none
   | _=>none
 | 88=>match ps with
   | [.str a,.int .i64 n]=>if 0≤n∧n≤9223372036854775807∧a.length*n.toNat≤140737488355328 then some (.str (Lib.repeatL a n.toNat)) else none
   | _=>none
 | 15=>match ps with
   | [p]=>if eqP 6 p v1P=true then some (.int .i64 0) else if eqP 6 p v2P=true then some (.int .i64 0) else none
   | _=>none
 | _=>none
theorem FG:∀ f ps r,orc f ps=some r→aw Tryz.prog aD f ps r:=by
 intro f ps r h
 unfold orc at h
 split at h
 ·split at h
  ·split at h
   ·rename_i hh;cases h;exact iQ _ hh.1 hh.2
   ·cases h
  ·cases h
 ·split at h
  ·cases h;exact qJ _ _
  ·cases h
 ·split at h
  ·split at h
   ·rename_i e
    split at h
    ·rename_i hh;cases h
     rw[nr e]
     exact ve _ _ hh.1 hh.2
    ·cases h
   ·cases h
  ·cases h
 ·split at h
  ·split at h
   ·rename_i hh;cases h;exact jA _ _ hh.1 hh.2.1 hh.2.2
   ·cases h
  ·cases h
 ·split at h
  ·split at h
   ·rename_i hh;cases h;rw[nZ _ _ _ hh];exact AH
   ·split at h
    ·rename_i hh;cases h;rw[nZ _ _ _ hh];exact AG
    ·cases h
  ·cases h
 ·cases h
noncomputable def gFn (p:Nat×List Nat):TabRow:=⟨p.1,p.2,(cFn Tryz.prog p.2 p.1).getD ⟨0,[],.skip⟩⟩
def Bz:List (Nat×List Nat):=[(12,[]),(14,[]),(16,[]),(18,[]),(20,[]),(26,[]),(31,[]),(33,[]),(36,[]),(37,[]),(42,[]),(43,[]),(45,[]),(46,[]),(47,[]),(49,[14]),(52,[]),(56,[124,1000168,1000123]),(63,[]),(64,[]),(65,[]),(67,[]),(68,[]),(82,[]),(86,[]),(87,[]),(89,[]),(90,[]),(92,[]),(93,[]),(94,[]),(95,[]),(99,[59,1000066]),(107,[19]),(113,[44]),(120,[]),(121,[]),(122,[]),(123,[]),(131,[]),(132,[]),(133,[]),(134,[]),(142,[]),(143,[]),(145,[]),(146,[]),(151,[]),(154,[]),(155,[]),(156,[]),(157,[]),(158,[]),(159,[]),(162,[]),(163,[]),(164,[]),(165,[]),(166,[]),(167,[]),(168,[]),(184,[]),(185,[12]),(189,[]),(195,[]),(196,[]),(198,[]),(203,[]),(206,[]),(209,[]),(210,[]),(211,[]),(215,[]),(220,[]),(221,[]),(225,[]),(226,[]),(236,[]),(237,[]),(248,[]),(254,[]),(261,[])]
theorem E4 {l:List (Nat×List Nat)}(h:(l.all fun p=>(cFn Tryz.prog p.2 p.1).isSome)=true):∀ r∈l.map gFn,cFn Tryz.prog r.muts r.f=some r.fn:=by
 intro r hr
 obtain⟨p,hp,rfl⟩:=List.mem_map.1 hr
 have h:=List.all_eq_true.1 h p hp
 simp only[gFn]
 cases h':cFn Tryz.prog p.2 p.1 with
 | some x=>rfl
 | none=>rw[h'] at h;cases h
theorem E8:(Bz.all fun p=>(cFn Tryz.prog p.2 p.1).isSome)=true:=by kernel_rfl
theorem Js:pq (exF (Bz.map gFn) orc aD 20000 200) 12 []=some (.bool true):=by kernel_rfl
theorem DR:aw Tryz.prog aD 12 [] (.bool true):=aw.of_ex (E4 E8) FG Js
end Go.Proofs.YtamoeblcphjbaaaGreatDoor

/- A part of the proof for FixedwidthRefusesCardSaid. -/
import Derived.Test.YtedanlflegfomaaGreatDoorRefJ3
import Derived.Test.YtedanlflegfomaaGreatDoorRefF
import Derived.Test.YtedanlflegfomaaGreatDoorCore5
set_option maxRecDepth 100000
set_option linter.unusedVariables false
set_option linter.unusedSimpArgs false
-- many steps
namespace Go.Proofs.YtedanlflegfomaaGreatDoor
open Go Go.Ab
attribute [local irreducible] vc
def bY (w:List Int):List PV:=w.map (PV.int .i64)
theorem aU (l:List Int):(bY l).length=l.length:=by simp[bY]
theorem jl {l:List Int}{i:Nat}{x:Int}(h:l[i]? = some x):(bY l)[i]? = some (.int .i64 x):=by simp[bY,h]
def rx (x:Int):Bool:=decide (x<1)||decide (4096<x)
theorem I4 (x:Int):aq Tryz.prog aA 79 [.int .i64 x] (.bool (rx x)):=by
 unfold rx
 refine aq.intro G3 (by simp[F79]) ?_
 by_cases h1:x<1
 ·rw[decide_eq_true h1,Bool.true_or]
  simp(maxSteps:=9^7) (disch:=first|exact dI|fail) only[F79,h1,push_cast,seval]
 ·rw[decide_eq_false h1,Bool.false_or]
  simp(maxSteps:=9^7) (disch:=first|exact dI|fail) only[F79,h1,push_cast,seval]
theorem zD (l:List Int)(g:Nat)(q:Int→Bool)(hq:∀ x∈l,aq Tryz.prog aA g [.int .i64 x] (.bool (q x)))(hl:l.length≤1000000000) :
  aq Tryz.prog aA 120 [.list (bY l),.clo g [] []] (.int .i64 (fi q l 0)):=by
 refine aq.intro Et (by simp[Jk]) ?_
 simp(maxSteps:=9^7) (disch:=first|exact dI|fail) only[Jk,aU,push_cast,seval]
 refine az ([]) (fun m:Nat=>[(8,.pv (.int .i64 (m:Int)))]) (fun m=>[]) (fun m=>m≤l.length∧fi q l 0=fi q (l.drop m) m) (fun m=>l.length - m) (0) ?_;intro e0 σ0 n0 h0;simp(maxSteps:=9^7) (disch:=first|exact dI|fail) only[push_cast,seval] at h0;obtain⟨rfl,rfl,rfl⟩:=h0;refine⟨?_,?_,?_⟩
 ·simp(maxSteps:=9^7) (disch:=first|exact dI|fail) only[push_cast,seval]
 ·exact⟨by omega,by simp⟩
 ·rintro m ⟨hm,he⟩
  by_cases hlt:m<l.length
  ·have hltI:(m:Int)<l.length:=by omega
   obtain⟨x,hx⟩:∃ x,l[m]? = some x:=⟨_,List.getElem?_eq_getElem hlt⟩
   have hcall:=hq x (List.mem_of_getElem? hx)
   have hx':=jl hx
   simp(maxSteps:=9^7) (disch:=first|exact dI|fail) only[hx',push_cast,seval]
   refine ae.pure hcall rfl ?_
   cases hqx:q x with
   | true=>
     rw[he,gI hx hqx]
     simp(maxSteps:=9^7) (disch:=first|exact dI|fail) only[push_cast,seval]
   | false=>
     rw[eF hx hqx] at he
     simp(maxSteps:=9^7) (disch:=first|exact dI|fail) only[push_cast,seval]
     exact⟨m+1,bl (by simp(maxSteps:=9^7) (disch:=first|exact dI|fail) only[push_cast,seval]),⟨by omega,he⟩,by omega⟩
  ·have hltI:¬ (m:Int)<l.length:=by omega
   rw[he,gJ hlt]
   simp(maxSteps:=9^7) (disch:=first|exact dI|fail) only[push_cast,seval]
theorem qI (l:List Int)(g:Nat)(q:Int→Bool)(hq:∀ x∈l,aq Tryz.prog aA g [.int .i64 x] (.bool (q x)))(hl:l.length≤1000000000) :
  aq Tryz.prog aA 78 [.list (bY l),.clo g [] []] (.bool (l.any q)):=by
 have h94:=zD l g q hq hl
 have hfa:=jq (p:=q) l
 refine aq.intro G4 (by simp[F78]) ?_
 rcases dJ (p:=q) l 0 with ⟨h1,h2⟩ | ⟨k,x,h1,h2,h3⟩
 ·rw[h2] at h94
  rw[h1] at hfa
  rw[← hfa]
  simp(maxSteps:=9^7) (disch:=first|exact dI|fail) only[F78,push_cast,seval]
  refine ae.pure h94 rfl ?_
  simp(maxSteps:=9^7) (disch:=first|exact dI|fail) only[push_cast,seval]
  rfl
 ·rw[h3] at h94
  rw[h2] at hfa
  rw[← hfa]
  have hk:(0:Int)≤((0+k:Nat):Int):=by omega
  generalize ((0+k:Nat):Int)=z at *
  simp(maxSteps:=9^7) (disch:=first|exact dI|fail) only[F78,push_cast,seval]
  refine ae.pure h94 rfl ?_
  simp(maxSteps:=9^7) (disch:=first|exact dI|fail) only[push_cast,seval]
  rfl
def lA (w:List Int):Bool:=decide (64<w.length)||w.any rx
def iq (w:List Int):Int:=w.sum
theorem xz:iq []=0:=rfl
theorem r9 {w:List Int}{i:Nat}{x:Int}(h:w[i]? = some x):iq (w.take (i+1))=iq (w.take i)+x:=by
 unfold iq;rw[a8 h,List.sum_append];simp
theorem eN {w:List Int}(h:w.any rx=false){x:Int}(hx:x∈w):1≤x∧x≤4096:=by
 have:=List.any_eq_false.1 h x hx
 simp only[rx,Bool.or_eq_true,decide_eq_true_eq,not_or] at this
 omega
theorem sc:∀ (w:List Int),(∀ x∈w,1≤x∧x≤4096)→0≤iq w∧iq w≤4096*w.length
 | [],_=>by simp[iq]
 | x::r,h=>by
   have h1:=h x (List.mem_cons_self ..)
   have h2:=sc r fun y hy=>h y (List.mem_cons_of_mem _ hy)
   simp only[iq,List.sum_cons,List.length_cons] at *
   omega
theorem iV (w:List Int)(hl:w.length≤1000000):aq Tryz.prog aA 35 [.list (bY w)] (.tup [.int .i64 (if lA w=true then 0 else iq w),.int .i64 (if lA w=true then 2 else 0)]):=by
 have h78:=qI w 79 rx (fun x _=>I4 x) (by omega)
 unfold lA
 by_cases h64:64<w.length
 ·have h64I:(64:Int)<(w.length:Int):=by omega
  rw[if_pos (by simp[h64]),if_pos (by simp[h64])]
  refine aq.intro wC (by simp[F35]) ?_
  simp(maxSteps:=9^7) (disch:=first|exact dI|fail) only[F35,aU,h64I,push_cast,seval]
 have h64I:¬ (64:Int)<(w.length:Int):=by omega
 rw[decide_eq_false h64,Bool.false_or]
 cases hb:w.any rx with
 | true=>
   rw[hb] at h78
   rw[if_pos rfl,if_pos rfl]
   refine aq.intro wC (by simp[F35]) ?_
   simp(maxSteps:=9^7) (disch:=first|exact dI|fail) only[F35,aU,h64I,push_cast,seval]
   refine ae.pure h78 rfl ?_
   simp(maxSteps:=9^7) (disch:=first|exact dI|fail) only[push_cast,seval]
 | false=>
   rw[hb] at h78
   rw[if_neg (by decide),if_neg (by decide)]
   have hr:=fun x hx=>eN hb (x:=x) hx
   refine aq.intro wC (by simp[F35]) ?_
   simp(maxSteps:=9^7) (disch:=first|exact dI|fail) only[F35,aU,h64I,push_cast,seval]
   refine ae.pure h78 rfl ?_
   simp(maxSteps:=9^7) (disch:=first|exact dI|fail) only[aU,push_cast,seval]
   refine az ([]) (fun i:Nat=>[(4,.pv (.int .i64 (iq (w.take i)))),(16,.pv (.int .i64 (i:Int)))]) (fun _=>[]) (fun i=>i≤w.length) (fun i=>w.length - i) (0) ?_;intro e0 σ0 n0 h0;simp(maxSteps:=9^7) (disch:=first|exact dI|fail) only[push_cast,seval] at h0;obtain⟨rfl,rfl,rfl⟩:=h0;refine⟨?_,?_,?_⟩
   ·simp(maxSteps:=9^7) (disch:=first|exact dI|fail) only[List.take_zero,xz,push_cast,seval]
   ·omega
   rintro i hi
   have hsm:=sc (w.take i) fun x hx=>hr x (List.mem_of_mem_take hx)
   rw[List.length_take] at hsm
   by_cases hlt:i<w.length
   ·have hltI:(i:Int)<(w.length:Int):=by omega
    obtain⟨x,hx⟩:∃ x,w[i]? = some x:=⟨_,List.getElem?_eq_getElem hlt⟩
    have hst:=r9 hx
    have hxr:=hr x (List.mem_of_getElem? hx)
    have hx':=jl hx
    simp(maxSteps:=9^7) (disch:=first|exact dI|fail) only[hx',push_cast,seval]
    exact⟨i+1,bl (by simp(maxSteps:=9^7) (disch:=first|exact dI|fail) only[hst,push_cast,seval]),by omega,by omega⟩
   ·obtain rfl:i=w.length:=by omega
    rw[List.take_length]
    simp(maxSteps:=9^7) (disch:=first|exact dI|fail) only[Int.lt_irrefl,push_cast,seval]
def fI (n:Nat)(s:Int):Int:=if (n:Int)<s then 4 else if s<(n:Int) then 5 else 0
theorem n7 (line:List UInt8)(s:Int):aq Tryz.prog aA 36 [.str line,.int .i64 s] (.int .i64 (fI line.length s)):=by
 unfold fI
 refine aq.intro Hs (by simp[F36]) ?_
 by_cases h1:(line.length:Int)<s
 ·rw[if_pos h1]
  simp(maxSteps:=9^7) (disch:=first|exact dI|fail) only[F36,h1,push_cast,seval]
 ·rw[if_neg h1]
  by_cases h2:s<(line.length:Int)
  ·rw[if_pos h2]
   simp(maxSteps:=9^7) (disch:=first|exact dI|fail) only[F36,h1,h2,push_cast,seval]
  ·rw[if_neg h2]
   simp(maxSteps:=9^7) (disch:=first|exact dI|fail) only[F36,h1,h2,push_cast,seval]
theorem m8 (line:List UInt8)(w:List PV):aq Tryz.prog aA 37 [.str line,.list w] (.clo 80 [] [.eptr [.list w] 0 0,.eptr [.str line] 0 0]):=by
 refine aq.intro Hr (by simp[F37]) ?_
 simp(maxSteps:=9^7) (disch:=first|exact dI|fail) only[F37,push_cast,seval]
def pD (line:List UInt8)(w:List Nat)(n:Nat):List PV:=(List.range n).map fun i=>.str (dQ line w i)
theorem nI (line:List UInt8)(w:List Nat):pD line w 0=[]:=rfl
theorem j9 (line:List UInt8)(w:List Nat)(n:Nat):pD line w (n+1)=pD line w n++[.str (dQ line w n)]:=by simp[pD,List.range_succ]
theorem jb (line:List UInt8)(w:List Nat)(n:Nat):(pD line w n).length=n:=by simp[pD]
theorem tT {w:List Int}(h:w.any rx=false):∃ v:List Nat,w=v.map (fun n:Nat=>(n:Int))∧iq w=(v.sum:Nat)∧∀ x∈v,1≤x∧x≤4096:=by
 refine⟨w.map Int.toNat,?_,?_,fun x hx=>?_⟩
 ·rw[List.map_map]
  conv=>lhs;rw[← List.map_id w]
  refine List.map_congr_left fun x hx=>?_
  have:=eN h hx
  simp only[Function.comp,id];omega
 ·have:∀ (l:List Int),(∀ x∈l,1≤x∧x≤4096)→iq l=((l.map Int.toNat).sum:Nat):=by
   intro l hl
   induction l with
   | nil=>rfl
   | cons x r ih=>
     have h1:=hl x (List.mem_cons_self ..)
     have h2:=ih fun y hy=>hl y (List.mem_cons_of_mem _ hy)
     simp only[iq,List.sum_cons,List.map_cons] at *
     omega
  exact this w fun x hx=>eN h hx
 ·obtain⟨y,hy,rfl⟩:=List.mem_map.1 hx
  have:=eN h hy
  omega
theorem fg (v:List Nat):bY (v.map fun n:Nat=>(n:Int))=cw v:=by simp[bY,cw]
def oc (line:List UInt8)(w:List Int):Int:=if lA w=true then 2 else fI line.length (iq w)
theorem wG (line:List UInt8)(w:List Int)(hl:w.length≤1000000)(he:¬ oc line w=0):aq Tryz.prog aA 14 [.str line,.list (bY w)] (.tup [.nils,.int .i64 (oc line w)]):=by
 have h35:=iV w hl
 have h36:=n7 line (iq w)
 unfold oc at he ⊢
 by_cases hb:lA w=true
 ·rw[if_pos hb,if_pos hb] at h35
  rw[if_pos hb]
  refine aq.intro wE (by simp[F14]) ?_
  simp(maxSteps:=9^7) (disch:=first|exact dI|fail) only[F14,push_cast,seval]
  refine ae.pure h35 rfl ?_
  simp(maxSteps:=9^7) (disch:=first|exact dI|fail) only[push_cast,seval]
 ·rw[if_neg hb,if_neg hb] at h35
  rw[if_neg hb] at he ⊢
  generalize fI line.length (iq w)=z at h36 he ⊢
  refine aq.intro wE (by simp[F14]) ?_
  simp(maxSteps:=9^7) (disch:=first|exact dI|fail) only[F14,push_cast,seval]
  refine ae.pure h35 rfl ?_
  simp(maxSteps:=9^7) (disch:=first|exact dI|fail) only[push_cast,seval]
  refine ae.pure h36 rfl ?_
  simp(maxSteps:=9^7) (disch:=first|exact dI|fail) only[he,push_cast,seval]
set_option maxHeartbeats 2000000 in
theorem rn (line:List UInt8)(v:List Nat)(hn:line.length≤1000000)(he:oc line (v.map fun n:Nat=>(n:Int))=0)(hl:v.length≤64)(hs:v.sum=line.length):aq Tryz.prog aA 14 [.str line,.list (cw v)] (.tup [.list (pD line v v.length),.int .i64 0]):=by
 have h35:=iV (v.map fun n:Nat=>(n:Int)) (by rw[List.length_map];omega)
 have h36:=n7 line (iq (v.map fun n:Nat=>(n:Int)))
 have h37:=m8 line (cw v)
 have hseq:=gX line v (by omega) hn (by omega)
 rw[fg] at h35
 have hb:¬ lA (v.map fun n:Nat=>(n:Int))=true:=fun hb=>by rw[oc,if_pos hb] at he;exact absurd he (by decide)
 rw[oc,if_neg hb] at he
 rw[if_neg hb,if_neg hb] at h35
 rw[he] at h36
 generalize iq (v.map fun n:Nat=>(n:Int))=S at h35 h36
 refine aq.intro wE (by simp[F14]) ?_
 simp(maxSteps:=9^7) (disch:=first|exact dI|fail) only[F14,push_cast,seval]
 refine ae.pure h35 rfl ?_
 simp(maxSteps:=9^7) (disch:=first|exact dI|fail) only[push_cast,seval]
 refine ae.pure h36 rfl ?_
 simp(maxSteps:=9^7) (disch:=first|exact dI|fail) only[push_cast,seval]
 refine ae.pure h37 rfl ?_
 simp(maxSteps:=9^7) (disch:=first|exact dI|fail) only[push_cast,seval]
 refine rP ([(8,1,9,1)]) (fun i:Nat=>[]) (fun i:Nat=>[(0,.cells 22 true [.olist 1 1 (pD line v i)])]) (fun j i=>j=i∧i≤v.length) (0) (hseq) ?_;intro e0 σ0 n0 h0;simp(maxSteps:=9^7) (disch:=first|exact dI|fail) only[push_cast,seval] at h0;obtain⟨rfl,rfl,rfl⟩:=h0;refine⟨?_,?_,?_,?_,?_⟩
 ·simp(maxSteps:=9^7) (disch:=first|exact dI|fail) only[nI,push_cast,seval]
 ·exact⟨rfl,by omega⟩
 ·rfl
 ·rintro j i y hy ⟨hij,hi⟩
  subst hij
  have hjl:j<v.length:=by
   have:=(List.getElem?_eq_some_iff.1 hy).1
   simpa[bN] using this
  have hye:y=[.int .i64 (bP v j:Int),.str (dQ line v j)]:=by
   have:(bN line v)[j]? = some [.int .i64 (bP v j:Int),.str (dQ line v j)]:=by simp[bN,hjl]
   rw[this] at hy;exact (Option.some.inj hy).symm
  subst hye
  refine⟨rfl,?_⟩
  have hsn:=j9 line v j
  have hol:=jb line v j
  clear hy h35 h36 h37 hseq
  simp(maxSteps:=9^7) (disch:=first|exact dI|fail) only[hol,push_cast,seval]
  exact⟨j+1,bl (by simp(maxSteps:=9^7) (disch:=first|exact dI|fail) only[hsn,push_cast,seval]),rfl,by omega⟩
 ·rintro j ⟨hj,hi⟩
  have hj':v.length=j:=by simpa[bN] using hj
  subst hj'
  simp(maxSteps:=9^7) (disch:=first|exact dI|fail) only[push_cast,seval]
end Go.Proofs.YtedanlflegfomaaGreatDoor
set_option maxRecDepth 100000
set_option linter.unusedVariables false
set_option linter.unusedSimpArgs false
-- many steps
namespace Go.Proofs.YtedanlflegfomaaGreatDoor
open Go Go.Ab
attribute [local irreducible] vc
def fP (s:List UInt8):List PV:=[.str [97],.int .i64 4,.int .i64 0,.int .i64 0,.str s,.nils,.nils]
theorem Fy:(fun s:List UInt8=>px (exF (su.map gFn) HS aA 5000 60) 40 [.list [.agg (fP s)]])=fun s=>some (vP s):=by kernel_rfl
theorem Cs (s:List UInt8):aq Tryz.prog aA 40 [.list [.agg (fP s)]] (vP s):=aq.of_ex (m:=5000) (n:=60) (eo ep) cR (congrFun Fy s)
theorem DH:aq Tryz.prog aA 50 [tyP] (.bool true):=aq.of_ex (m:=5000) (n:=60) (eo ep) cR (by kernel_rfl)
theorem Fz (s:List UInt8)(hs:s.length≤40)(hv:Lib.validD s=true)(hw:wrB s=true):aq Tryz.prog aA 83 [.str s,tyP] (.tup [xP s,.int .i64 0]):=by
 have h130:=cK s
 have h24:=jL s (by omega)
 have h131:=B1 s
 rw[hv] at h130
 rw[hw] at h24
 simp only[tyP,xP]
 refine aq.intro G1 (by simp[F83]) ?_
 simp(maxSteps:=9^7) (disch:=first|exact dI|fail) only[F83,push_cast,seval]
 refine ae.pure h130 rfl ?_
 simp(maxSteps:=9^7) (disch:=first|exact dI|fail) only[push_cast,seval]
 refine ae.pure h24 rfl ?_
 simp(maxSteps:=9^7) (disch:=first|exact dI|fail) only[push_cast,seval]
 refine ae.pure h131 rfl ?_
 simp(maxSteps:=9^7) (disch:=first|exact dI|fail) only[push_cast,seval]
def HW:PV:=.agg [.int .i64 1,.str [97],.int .i64 1,.int .i64 4,.int .i64 0,.int .i64 40,.int .i64 0,.nils,.nils,.nils,.nils]
theorem GB (s:List UInt8)(n:Nat)(hs:s.length≤40)(hn:n≤41)(hv:Lib.validD s=true)(hw:wrB s=true)(hf:aq Tryz.prog aA 21 [tyP,xP s] (.bool true)):aq Tryz.prog aA 38 [.str (s++spT n),HW] (.tup [xP s,.int .i64 0]):=by
 have he:jG s=false:=by
  unfold wrB at hw
  simp only[Bool.and_eq_true,Bool.not_eq_true'] at hw
  exact hw.1
 have h82:=EZ s n (by omega) he
 have h50:=DH
 have h83:=Fz s hs hv hw
 have hsn:(s++spT n).length≤81:=by rw[List.length_append,bA];omega
 generalize s++spT n=L at *
 simp only[tyP,xP,HW] at h50 h83 hf ⊢
 refine aq.intro Hq (by simp[F38]) ?_
 by_cases h0:s=[]
 ·subst h0
  simp(maxSteps:=9^7) (disch:=first|exact dI|fail) only[F38,push_cast,seval]
  refine ae.pure h82 rfl ?_
  simp(maxSteps:=9^7) (disch:=first|exact dI|fail) only[push_cast,seval]
  refine ae.pure h50 rfl ?_
  simp(maxSteps:=9^7) (disch:=first|exact dI|fail) only[push_cast,seval]
 ·simp(maxSteps:=9^7) (disch:=first|exact dI|fail) only[F38,push_cast,seval]
  refine ae.pure h82 rfl ?_
  simp(maxSteps:=9^7) (disch:=first|exact dI|fail) only[h0,push_cast,seval]
  refine ae.pure h83 rfl ?_
  simp(maxSteps:=9^7) (disch:=first|exact dI|fail) only[push_cast,seval]
  refine ae.pure hf rfl ?_
  simp(maxSteps:=9^7) (disch:=first|exact dI|fail) only[push_cast,seval]
def HO (s:List UInt8)(i:Nat):List AV:=((if i=0 then [] else fP s):List PV).map .pv
theorem Be (s:List UInt8):HO s 0=[]:=rfl
theorem Fm (s:List UInt8):HO s 1=(fP s).map .pv:=rfl
theorem IA (s:List UInt8):Dp 7 1 5 (.cells 34 false (HO s 1))=some (.list [.agg (fP s)],[5]):=rfl
theorem Dz (a:Int):bu Tryz.prog aA 1 39 [.ptr 0 0,.pv (.int .i64 a),.pv (.int .i64 0)] [.cells 88 true [.pv (.int .i64 0),.pv (.int .i64 0)]] (.pv (.tup [])) [.cells 88 true [.pv (.int .i64 0),.pv (.int .i64 0)]]:=by
 refine bu.intro BJ (by simp[F39]) ?_
 simp(maxSteps:=9^7) (disch:=first|exact dI|fail) only[F39,push_cast,seval]
 exact aJ [] (by simp(maxSteps:=9^7) (disch:=first|exact dI|fail) only[push_cast,seval])
theorem uT (cs:List PV):b9 [PV.agg cs]=cs.map AV.pv:=by simp[b9,PV.cells]
set_option maxHeartbeats 4000000 in
theorem DL (s L:List UInt8)(hL:L.length=41)(h38:aq Tryz.prog aA 38 [.str L,HW] (.tup [xP s,.int .i64 0])):aq Tryz.prog aA 10 [t1P,w1P,.str L] (.tup [vP s,.int .i64 0,.int .i64 0]):=by
 have h20:=sC
 have h35:=iV [41] (by decide)
 rw[show lA [41]=false by decide,if_neg (by decide),if_neg (by decide),show iq [41]=41 from rfl,show PV.list (bY [41])=w1P from rfl] at h35
 have h36:=n7 L 41
 rw[show fI L.length 41=0 by rw[hL];rfl] at h36
 have h37:=m8 L (cw [41])
 have hseq:=gX L [41] (by rw[hL];decide) (by omega) (by decide)
 have hr:=Cs s
 have hi0:(bN L [41])[0]? = some [.int .i64 0,.str L]:=by
  have:dQ L [41] 0=L:=by
   show (L.take 41).drop 0=L
   rw[List.drop_zero,List.take_of_length_le (by omega)]
  show some [PV.int .i64 0,PV.str (dQ L [41] 0)]=_
  rw[this]
 have hlx:(bN L [41]).length=1:=rfl
 have hmn:min (41:Int) (L.length:Int)=41:=by omega
 generalize hX:bN L [41]=X at *
 have hw:w1P = .list (cw [41]):=rfl
 simp only[t1P,HW,xP] at h20 h38 ⊢
 refine aq.intro BK (by simp[F10]) ?_
 simp(maxSteps:=9^7) (disch:=first|exact dI|fail) only[F10,push_cast,seval]
 refine ae.pure h20 rfl ?_
 simp(maxSteps:=9^7) (disch:=first|exact dI|fail) only[push_cast,seval]
 refine ae.pure h35 rfl ?_
 simp(maxSteps:=9^7) (disch:=first|exact dI|fail) only[push_cast,seval]
 refine ae.pure h36 rfl ?_
 simp(maxSteps:=9^7) (disch:=first|exact dI|fail) only[push_cast,seval]
 refine ae.pure h37 rfl ?_
 simp(maxSteps:=9^7) (disch:=first|exact dI|fail) only[push_cast,seval]
 refine rP ([(14,1,1000034,7)]) (fun i:Nat=>[]) (fun i:Nat=>[(2,.cells 30 true [.row 5 7 0 i]),(3,.cells 3 true [.pv (.int .i64 (i:Int))]),(5,.cells 34 false (HO s i))]) (fun j i=>j=i∧i≤1) (0) (hseq) ?_;intro e0 σ0 n0 h0;simp(maxSteps:=9^7) (disch:=first|exact dI|fail) only[push_cast,seval] at h0;obtain⟨rfl,rfl,rfl⟩:=h0;refine⟨?_,?_,?_,?_,?_⟩
 ·simp(maxSteps:=9^7) (disch:=first|exact dI|fail) only[Be,push_cast,seval]
 ·exact⟨rfl,by omega⟩
 ·rfl
 ·rintro j i y hy ⟨hij,hi⟩
  subst hij
  have hj3:j<1:=by have:=(List.getElem?_eq_some_iff.1 hy).1;omega
  obtain rfl:j=0:=by omega
  clear hr h20 h35 h36 h37 hseq
  rw[hi0] at hy
  obtain rfl:=Option.some.inj hy
  refine⟨rfl,?_⟩
  simp(maxSteps:=9^7) (disch:=first|exact dI|fail) only[Be,aK,push_cast,seval]
  refine ae.pure h38 rfl ?_
  simp(maxSteps:=9^7) (disch:=first|exact dI|fail) only[push_cast,seval]
  refine ae.lentK (Dz 0) [4] rfl (by simp(maxSteps:=9^7) (disch:=first|exact dI|fail) only[push_cast,seval]) (by simp(maxSteps:=9^7) (disch:=first|exact dI|fail) only[push_cast,seval]) ?_
  simp(maxSteps:=9^7) (disch:=first|exact dI|fail) only[aK,uT,List.map_cons,List.map_nil,List.cons_append,List.nil_append,List.drop_succ_cons,List.drop_zero,push_cast,seval]
  exact⟨1,bl (by simp(maxSteps:=9^7) (disch:=first|exact dI|fail) only[Fm,fP,push_cast,seval]),rfl,by omega⟩
 ·rintro j ⟨hj,hi⟩
  rw[hlx] at hj
  subst hj
  simp(maxSteps:=9^7) (disch:=first|exact dI|fail) only[IA,push_cast,seval]
  refine ae.pure hr rfl ?_
  simp(maxSteps:=9^7) (disch:=first|exact dI|fail) only[vP,push_cast,seval]
end Go.Proofs.YtedanlflegfomaaGreatDoor

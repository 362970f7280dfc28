/- A part of the proof for DelimitedRepresentableCardSaid. -/
import Derived.Test.YtbaaokocnegdoaaGreatDoorRepVR1
import Derived.Test.YtbaaokocnegdoaaGreatDoorCore5
import Derived.Test.YtbaaokocnegdoaaGreatDoorRepVSh
import Derived.Test.YtbaaokocnegdoaaGreatDoorRepWD
set_option maxRecDepth 100000
set_option linter.unusedVariables false
set_option linter.unusedSimpArgs false
namespace Go.Proofs.YtbaaokocnegdoaaGreatDoor
open Go Go.Ab Go.RowKit Go.Shelf
attribute [local irreducible] vc
attribute [local go_sem] Oper.semAt_some
theorem EO {l:Nat}{xs:List (List PV)}{base:Nat→Nat→Prop}{n0:Nat}{J:Nat→(Nat→Nat→Prop)→World→Prop}{Jx:World→Prop}(h:Iter l xs base n0 J Jx):∀ n,Im l xs base n0 J Jx n
 | 0=>fun v hd=>hd.elim
 | n+1=>q7 h n (EO h n)
set_option maxHeartbeats 4000000 in
theorem gx (n:Nat)(v:Val)(hd:ce n v)(hv:v.ok)(hn:n≤9223372036854775806):Nv Tryz.prog aD 281 [.eptr [v.pv] 0 0] ((bX n 1 v).map up):=by
 refine⟨by kernel_rfl,fun w imm lbv l J Jx O hG himm hsz hlb hgrow hlt hround hJ=>?_⟩
 have hI:Iter l ((bX n 1 v).map up) imm w.heap.size J Jx:=⟨hgrow,hlt,hround⟩
 have hp:=hlb 0 _ rfl
 obtain⟨p,rfl⟩:∃ p,lbv = #[p]:=by
  obtain⟨l⟩:=lbv
  match l,hsz with
  | [p],_=>exact⟨p,rfl⟩
 simp only[Array.getD_eq_getD_getElem?,List.size_toArray,List.length_cons,List.length_nil] at hp
 replace hp:PRel w imm (.eptr [v.pv] 0 0) p:=by simpa using hp
 cases hp with
 | eptr _ b off cc sz g _ _ h1 h2 h3 h4 h5 h6=>
   have hs6:sz=6:=by rw[← h3 0 _ rfl,v.cells_len]
   subst hs6
   obtain⟨cs,e1,e2,e3⟩:=v.row
   have hcs:v.pv.cells=cs:=by rw[e1];rfl
   have hel:∀ j,j<6→imm b (off+0*6+j)∧w.cell? ⟨b,off+0*6+j,none⟩=some (g 0 j)∧(g 0 j).oneCell'=true:=fun j hj=>by
    obtain⟨y,hy⟩:∃ y,cs[j]? = some y:=⟨_,List.getElem?_eq_getElem (by omega)⟩
    exact h4 0 _ j y rfl (by rw[hcs];exact hy)
   have hu:PRel w imm v.pv (.agg #[g 0 0,g 0 1,g 0 2,g 0 3,g 0 4,g 0 5]):=by
    rw[e1]
    refine .agg _ _ (by simp[e2]) fun j y hy=>?_
    have hj:j<6:=by have:=(List.getElem?_eq_some_iff.1 hy).1;omega
    have:=h5 0 _ j y rfl (by rw[hcs];exact hy)
    have hc:j=0∨j=1∨j=2∨j=3∨j=4∨j=5:=by omega
    rcases hc with rfl | rfl | rfl | rfl | rfl | rfl<;>exact this
   have hvis:=EO hI n v hd hv 1 0 0 O imm imm w (.agg #[g 0 0,g 0 1,g 0 2,g 0 3,g 0 4,g 0 5]) (by omega) (by omega) (fun j q hq=>by simp[hq]) hJ hu hG (fun b o h=>.inl h) (fun b o h=>h) himm (Nat.le_refl _)
   have w0:=(hel 0 (by omega)).2.1;have w1:=(hel 1 (by omega)).2.1;have w2:=(hel 2 (by omega)).2.1;have w3:=(hel 3 (by omega)).2.1;have w4:=(hel 4 (by omega)).2.1;have w5:=(hel 5 (by omega)).2.1
   simp only[Nat.zero_mul,Nat.add_zero] at w0 w1 w2 w3 w4 w5 ⊢
   have hlen:((bX n 1 v).map up).length=0+(bX n 1 v).length:=by simp
   rw[hlen]
   clear hel hu h4 h5 hround hgrow hlt hI
   simp only[List.append_toArray,List.cons_append,List.nil_append]
   refine callsIn_of_wp Tryz.func281 rfl trivial ?_ rfl
   simp only[Tryz.ntmps281,List.size_toArray,List.length_cons,List.length_nil,Nat.reduceAdd,Nat.reduceSub,Array.replicate_succ,Array.replicate_zero,List.push_toArray,List.append_toArray,List.nil_append,List.cons_append]
   gi_wp2_with (refine⟨trivial,rfl,?_⟩;gi_at_call 282;refine hvis.mono ?_;clear hvis;rintro e W6 (⟨rfl,O6,hJ6,hK6,hG6⟩ | ⟨rfl,hx6⟩))
   ·go_end0
    exact⟨⟨_,rfl⟩,.inl ⟨_,hJ6⟩⟩
   ·go_end0
    exact⟨⟨_,rfl⟩,.inr hx6⟩
end Go.Proofs.YtbaaokocnegdoaaGreatDoor
set_option maxRecDepth 100000
set_option linter.unusedVariables false
set_option linter.unusedSimpArgs false
namespace Go.Proofs.YtbaaokocnegdoaaGreatDoor
open Go Go.Ab
attribute [local irreducible] vc
def accP (l:List UInt8)(a:Nat):Nat→Nat
 | 0=>a
 | i+1=>64*accP l a i+(byN l (i+1) - 128)
end Go.Proofs.YtbaaokocnegdoaaGreatDoor
set_option maxRecDepth 100000
set_option linter.unusedVariables false
set_option linter.unusedSimpArgs false
namespace Go.Proofs.YtbaaokocnegdoaaGreatDoor
open Go Go.Ab
attribute [local irreducible] vc
end Go.Proofs.YtbaaokocnegdoaaGreatDoor
set_option maxRecDepth 100000
set_option linter.unusedVariables false
set_option linter.unusedSimpArgs false
namespace Go.Proofs.YtbaaokocnegdoaaGreatDoor
open Go Go.Ab
def iz (rec:Val→Val):Fld→Fld
 | .mk n v=>.mk (n.take 40) (rec v)
def cm (rec:Val→Val)(on:Bool):Val→Val
 | .mk k i s t l f=>.mk k i s (t.take 40) (if on then (l.take 6).map rec else []) (if on then (f.take 6).map (iz rec) else [])
def aS:Nat→Val→Val
 | 0=>cm id false
 | n+1=>cm (aS n) (decide (0<n))
def uk (on:Prop)[Decidable on](len:Nat):Nat:=if on then min len 6 else 0
theorem vH (n:Nat)(hn:n≤1000)(ih:∀ m v,m<n→v.ok→ak Tryz.prog aD 19 [v.pv,.int .i64 m] (aS m v).pv)(v:Val)(hv:v.ok):ak Tryz.prog aD 19 [v.pv,.int .i64 n] (aS n v).pv:=by
 obtain⟨k,i,s,t,l,f⟩:=v
 rw[Val.ok_mk] at hv
 obtain⟨h1,h2,h3,h4,h5,h7,h6,h8⟩:=hv
 refine ak.intro L9 (by simp[F19]) ?_
 simp(disch:=first|exact dI|fail) only[F19,Val.pv_mk,push_cast,seval]
 refine fR ([(5,0,31,6)]) (fun m:Nat=>[(5,.olist 2 6 (((l.take m).map (aS (n - 1))).map Val.pv)),(7,.pv (.int .i64 (m:Int)))]) (fun _=>[]) (fun m=>m≤uk (1<n) l.length) (fun m=>6 - m) (0) ([1,2,4,5,6]) (fun m=>m=uk (1<n) l.length) ?_;intro e0 σ0 n0 h0;simp(disch:=first|exact dI|fail) only[push_cast,seval] at h0;obtain⟨rfl,rfl,rfl⟩:=h0;refine⟨?_,?_,?_,?_⟩
 ·simp(disch:=first|exact dI|fail) only[push_cast,seval]
 ·omega
 ·intro m hm
  by_cases hgo:m<l.length∧m<6∧1<n
  ·obtain⟨g1,g2,g3⟩:=hgo
   have g1I:(m:Int)<l.length:=by omega
   have g2I:(m:Int)<6:=by omega
   have g3I:(1:Int)<n:=by omega
   obtain⟨x,hx⟩:∃ x,l[m]? = some x:=⟨_,List.getElem?_eq_getElem g1⟩
   obtain⟨n',rfl⟩:∃ n',n=n'+1:=⟨n - 1,by omega⟩
   have hts:=aH hx
   simp(disch:=first|exact dI|fail) only[hx,Val.cells_len,Val.isAgg,Nat.add_sub_cancel,Int.add_sub_cancel,push_cast,seval]
   refine ab.pure (ih n' x (by omega) (h7 x (List.mem_of_getElem? hx))) rfl ?_
   simp(disch:=first|exact dI|fail) only[Val.cells_len,Val.ones,push_cast,seval]
   exact⟨m+1,bg (by simp(disch:=first|exact dI|fail) only[hts,List.map_append,push_cast,seval]),by simp only[uk,if_pos g3] at hm ⊢;omega,by omega⟩
  ·have hm':m=uk (1<n) l.length:=by unfold uk at hm ⊢;split at hm<;>rename_i h1<;>(try rw[if_pos h1])<;>(try rw[if_neg h1])<;>omega
   have hexit:¬ m<l.length∨(m<l.length∧¬ m<6)∨(m<l.length∧m<6∧¬ 1<n):=by omega
   rcases hexit with g1 | ⟨g1,g2⟩ | ⟨g1,g2,g3⟩
   ·have g1I:¬ (m:Int)<l.length:=by omega
    simp(disch:=first|exact dI|fail) only[push_cast,seval]
    exact⟨m,hm',by simp(disch:=first|exact dI|fail) only[push_cast,seval]⟩
   ·have g1I:(m:Int)<l.length:=by omega
    have g2I:¬ (m:Int)<6:=by omega
    simp(disch:=first|exact dI|fail) only[push_cast,seval]
    exact⟨m,hm',by simp(disch:=first|exact dI|fail) only[push_cast,seval]⟩
   ·have g1I:(m:Int)<l.length:=by omega
    have g2I:(m:Int)<6:=by omega
    have g3I:¬ (1:Int)<n:=by omega
    simp(disch:=first|exact dI|fail) only[push_cast,seval]
    exact⟨m,hm',by simp(disch:=first|exact dI|fail) only[push_cast,seval]⟩
 ·intro m hm s1 hs1;simp(disch:=first|exact dI|fail) only[push_cast,seval] at hs1;subst hs1
  have hl:(l.take m).map (aS (n - 1))=if decide (1<n)=true then (l.take 6).map (aS (n - 1)) else []:=by
   subst hm;unfold uk
   by_cases h:1<n
   ·simp only[h,decide_true,if_true];rw[Nat.min_comm,← List.take_take,List.take_of_length_le (Nat.le_refl _)]
   ·simp[h]
  obtain⟨LL,hLL⟩:∃ LL,LL=(l.take m).map (aS (n - 1)):=⟨_,rfl⟩
  rw[← hLL] at hl ⊢
  clear hLL
  simp(disch:=first|exact dI|fail) only[push_cast,seval]
  refine fR ([(6,0,83,7)]) (fun m:Nat=>[(6,.olist 3 7 (((f.take m).map (iz (aS (n - 1)))).map Fld.pv)),(8,.pv (.int .i64 (m:Int)))]) (fun _=>[]) (fun m=>m≤uk (1<n) f.length) (fun m=>6 - m) (0) ([2,4,5,6]) (fun m=>m=uk (1<n) f.length) ?_;intro e0 σ0 n0 h0;simp(disch:=first|exact dI|fail) only[push_cast,seval] at h0;obtain⟨rfl,rfl,rfl⟩:=h0;refine⟨?_,?_,?_,?_⟩
  ·simp(disch:=first|exact dI|fail) only[push_cast,seval]
  ·omega
  ·intro m hm
   by_cases hgo:m<f.length∧m<6∧1<n
   ·obtain⟨g1,g2,g3⟩:=hgo
    have g1I:(m:Int)<f.length:=by omega
    have g2I:(m:Int)<6:=by omega
    have g3I:(1:Int)<n:=by omega
    obtain⟨x,hx⟩:∃ x,f[m]? = some x:=⟨_,List.getElem?_eq_getElem g1⟩
    have hxo:=h8 x (List.mem_of_getElem? hx)
    obtain⟨nm,vv⟩:=x
    rw[Fld.ok_mk] at hxo
    obtain⟨n',rfl⟩:∃ n',n=n'+1:=⟨n - 1,by omega⟩
    have hcall:=ih n' vv (by omega) hxo.2
    have hts:=aH hx
    obtain⟨w1,w2,w3,w4,w5,w6⟩:=vv
    rw[Val.pv_mk] at hcall
    have hlen:=Fld.cells_len (.mk nm (.mk w1 w2 w3 w4 w5 w6))
    rw[Fld.pv_mk,Val.pv_mk] at hlen
    obtain⟨cs,hcs,hcl,hco⟩:=Val.row (aS n' (.mk w1 w2 w3 w4 w5 w6))
    have hone:cs.all PV.one=true:=List.all_eq_true.2 hco
    rw[hcs] at hcall
    obtain⟨u1,u2,u3,u4,u5,u6,rfl⟩:=KC hcl
    simp only[List.all_cons,List.all_nil,Bool.and_true,Bool.and_eq_true] at hone
    obtain⟨o1,o2,o3,o4,o5,o6⟩:=hone
    simp(disch:=first|exact dI|fail) only[hx,Fld.pv_mk,Val.pv_mk,Nat.add_sub_cancel,Int.add_sub_cancel,push_cast,seval]
    refine aF hcall rfl ?_
    simp(disch:=first|exact dI|fail) only[o1,o2,o3,o4,o5,o6,push_cast,seval]
    exact⟨m+1,bg (by simp(disch:=first|exact dI|fail) only[hts,List.map_append,iz,Fld.pv_mk,hcs,push_cast,seval]),by simp only[uk,if_pos g3] at hm ⊢;omega,by omega⟩
   ·have hm':m=uk (1<n) f.length:=by unfold uk at hm ⊢;split at hm<;>rename_i h1<;>(try rw[if_pos h1])<;>(try rw[if_neg h1])<;>omega
    have hexit:¬ m<f.length∨(m<f.length∧¬ m<6)∨(m<f.length∧m<6∧¬ 1<n):=by omega
    rcases hexit with g1 | ⟨g1,g2⟩ | ⟨g1,g2,g3⟩
    ·have g1I:¬ (m:Int)<f.length:=by omega
     simp(disch:=first|exact dI|fail) only[push_cast,seval]
     exact⟨m,hm',by simp(disch:=first|exact dI|fail) only[push_cast,seval]⟩
    ·have g1I:(m:Int)<f.length:=by omega
     have g2I:¬ (m:Int)<6:=by omega
     simp(disch:=first|exact dI|fail) only[push_cast,seval]
     exact⟨m,hm',by simp(disch:=first|exact dI|fail) only[push_cast,seval]⟩
    ·have g1I:(m:Int)<f.length:=by omega
     have g2I:(m:Int)<6:=by omega
     have g3I:¬ (1:Int)<n:=by omega
     simp(disch:=first|exact dI|fail) only[push_cast,seval]
     exact⟨m,hm',by simp(disch:=first|exact dI|fail) only[push_cast,seval]⟩
  ·intro q hq s1 hs1;simp(disch:=first|exact dI|fail) only[push_cast,seval] at hs1;subst hs1
   have hf:(f.take q).map (iz (aS (n - 1)))=if decide (1<n)=true then (f.take 6).map (iz (aS (n - 1))) else []:=by
    subst hq;unfold uk
    by_cases h:1<n
    ·simp only[h,decide_true,if_true];rw[Nat.min_comm,← List.take_take,List.take_of_length_le (Nat.le_refl _)]
    ·simp[h]
   have hfin:(aS n (.mk k i s t l f)).pv = .agg [.int .i64 k,.int .i64 i,.int .i64 s,.str (t.take 40),.list (LL.map Val.pv),.list (((f.take q).map (iz (aS (n - 1)))).map Fld.pv)]:=by
    rw[hl,hf]
    cases n with
    | zero=>simp[aS,cm,Val.pv_mk]
    | succ n=>simp[aS,cm,Val.pv_mk]
   rw[hfin]
   simp(disch:=first|exact dI|fail) only[push_cast,seval]
theorem nS:∀ (n:Nat) (hn:n≤1000) (v:Val),v.ok→ak Tryz.prog aD 19 [v.pv,.int .i64 n] (aS n v).pv:=by
 intro n
 induction n using Nat.strongRecOn with
 | _ n ih=>exact fun hn v hv=>vH n hn (fun m v hmn=>ih m hmn (by omega) v) v hv
end Go.Proofs.YtbaaokocnegdoaaGreatDoor

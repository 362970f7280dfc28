/- A part of the proof for FixedwidthRefusesCardSaid. -/
import Derived.Test.YtedanlflegfomaaGreatDoorRefJ1
import Derived.Test.YtedanlflegfomaaGreatDoorRefGK12
import Derived.Test.YtedanlflegfomaaGreatDoorRefHQ
import Derived.Test.YtedanlflegfomaaGreatDoorRefF
import Derived.Test.YtedanlflegfomaaGreatDoorRefGD2
import Derived.Test.YtedanlflegfomaaGreatDoorRefGSh
import Derived.RangeFuncBound
import Derived.RangeFuncCalls
import Derived.Shelf.Abstract
import Derived.Shelf.RegionOpen
import Derived.WalkKit
import Derived.OwnWalkIn
import Derived.TacticsInMore
import Derived.LoopIn
import Derived.LoopNIn
set_option maxRecDepth 100000
set_option linter.unusedVariables false
set_option linter.unusedSimpArgs false
-- many steps
namespace Go.Proofs.YtedanlflegfomaaGreatDoor
open Go Go.Ab
attribute [local irreducible] vc
def tyP:PV:=.agg [.int .i64 4,.int .i64 0,.int .i64 40,.int .i64 0,.nils,.nils,.nils]
def t1P:PV:=.agg [.int .i64 9,.int .i64 0,.int .i64 0,.int .i64 0,.nils,.nils,.list [.agg [.int .i64 1,.str [97],.int .i64 1,.int .i64 4,.int .i64 0,.int .i64 40,.int .i64 0,.nils,.nils,.nils,.nils]]]
def w1P:PV:=.list [.int .i64 41]
def vP (s:List UInt8):PV:=.agg [.int .i64 9,.int .i64 0,.int .i64 0,.str [],.nils,.list [.agg [.str [97],.int .i64 4,.int .i64 0,.int .i64 0,.str s,.nils,.nils]]]
def xP (s:List UInt8):PV:=.agg [.int .i64 4,.int .i64 0,.int .i64 0,.str s,.nils,.nils]
def yP (s:List UInt8):PV:=.agg [.int .i64 4,.int .i64 0,.int .i64 0,.str s,.list [],.list []]
theorem sh:∀ n,Lib.repeatL [32] n=spT n
 | 0=>rfl
 | n+1=>by
   have h:∀ m,[32]++spT m=spT m++[32]:=by
    intro m
    induction m with
    | zero=>rfl
    | succ m ih=>rw[spT,← List.append_assoc,ih]
   rw[Lib.repeatL,sh n,h,spT]
theorem sC:aq Tryz.prog aA 20 [t1P,w1P] (.int .i64 0):=aq.of_ex (m:=5000) (n:=60) (eo ep) cR (by kernel_rfl)
def HY (b:Bool)(s:List UInt8):PV:=if b=false then .tup [.str [],.int .i64 18] else if wrB s=false then .tup [.str [],.int .i64 6] else .tup [.str (s++spT (41 - s.length)),.int .i64 0]
def wrA:List AV:=[.pv .nilf,.pv (.clo 57 [] []),.pv (.clo 55 [] []),.pv (.clo 55 [] []),.pv (.clo 58 [] []),.pv (.clo 59 [] []),.pv (.clo 60 [] []),.pv (.clo 62 [] [])]
def EO (s:List UInt8)(i:Nat):List (Nat×AV):=[(1,.pv (.list [.int .i64 41])),(5,.pv (.eptr [vP s] 0 0)),(9,.ptr 0 0),(10,.ptr 1 0),(29,.pv (.list [.agg [.int .i64 1,.str [97],.int .i64 1,.int .i64 4,.int .i64 0,.int .i64 40,.int .i64 0,.nils,.nils,.nils,.nils]])),(30,.pv (.int .i64 1)),(31,.pv (.int .i64 (i:Int)))]
def hdE (s:List UInt8)(c:UInt8)(r:List UInt8):Nat→St
 | 0=>⟨EO s 0,[(0,.cells 63 true [.pv .nilp,.pv .nils]),(1,.cells 65 true wrA)],2⟩
 | _+1=>⟨EO s 1,[(0,.cells 63 true [.ptr 0 0,.row 2 1 0 (r.length+1)]),(1,.cells 65 true wrA),(2,.cells 5 false ((aD (c::r)).map .pv))],3⟩
def exE (c:UInt8)(r:List UInt8)(_:Unit):St:=⟨[(9,.ptr 0 0)],[(0,.cells 63 true [.ptr 0 0,.row 1 1 0 (r.length+1)]),(1,.cells 5 false ((aD (c::r)).map .pv))],2⟩
set_option maxHeartbeats 4000000 in
theorem DG (s:List UInt8)(hs:s.length≤40)(b:Bool)(h21:aq Tryz.prog aA 21 [t1P,vP s] (.bool b))(h23:aq Tryz.prog aA 23 [vP s,.str [97]] (.tup [yP s,.bool true]))(h58:aq Tryz.prog aA 58 [yP s] (.str s)):aq Tryz.prog aA 7 [t1P,w1P,vP s] (HY b s):=by
 have h20:=sC
 have h22:=rJ
 have h24:=jL s (by omega)
 have h25:=jW [32] (41 - (s.length:Int)) (by omega) (by omega) (by simp;omega)
 rw[show (41 - (s.length:Int)).toNat=41 - s.length by omega,sh] at h25
 have hsl:=bA (41 - s.length)
 have hmx:max 0 (41 - (s.length:Int))=41 - (s.length:Int):=by omega
 have hia:∀ r,eW 8 1 (.ptr r 0) (.pv (.int .i64 4))=some (.ptr r 4):=fun r=>rfl
 simp only[t1P,w1P,vP,yP] at h20 h21 h23 h58 ⊢
 unfold HY
 cases b with
 | false=>
   rw[if_pos rfl]
   refine aq.intro G2 (by simp[F7]) ?_
   simp(maxSteps:=9^7) (disch:=first|exact dI|fail) only[F7,push_cast,seval]
   refine ae.pure h20 rfl ?_
   simp(maxSteps:=9^7) (disch:=first|exact dI|fail) only[push_cast,seval]
   refine ae.pure h21 rfl ?_
   simp(maxSteps:=9^7) (disch:=first|exact dI|fail) only[push_cast,seval]
 | true=>
   rw[if_neg (show ¬ true=false by decide)]
   generalize spT (41 - s.length)=P at *
   have hws:=ET false [] (s++P) (by decide) (by rw[List.length_append];omega)
   have hst:=B3 true ([]++(s++P)) (by simp;omega)
   refine aq.intro G2 (by simp[F7]) ?_
   simp(maxSteps:=9^7) (disch:=first|exact dI|fail) only[F7,push_cast,seval]
   refine ae.pure h20 rfl ?_
   simp(maxSteps:=9^7) (disch:=first|exact dI|fail) only[push_cast,seval]
   refine ae.pure h21 rfl ?_
   simp(maxSteps:=9^7) (disch:=first|exact dI|fail) only[push_cast,seval]
   refine ae.pure h22 rfl ?_
   simp(maxSteps:=9^7) (disch:=first|exact dI|fail) only[nJ,ka,push_cast,seval]
   cases hw:wrB s with
   | false=>
     rw[hw] at h24
     rw[if_pos rfl]
     refine az ([]) (fun i:Nat=>[(31,.pv (.int .i64 (i:Int)))]) (fun _=>[]) (fun i=>i=0) (fun i=>1 - i) (0) ?_;intro e0 σ0 n0 h0;simp(maxSteps:=9^7) (disch:=first|exact dI|fail) only[push_cast,seval] at h0;obtain⟨rfl,rfl,rfl⟩:=h0;refine⟨?_,?_,?_⟩
     ·simp(maxSteps:=9^7) (disch:=first|exact dI|fail) only[push_cast,seval]
     ·rfl
     rintro i rfl
     simp(maxSteps:=9^7) (disch:=first|exact dI|fail) only[aK,push_cast,seval]
     refine ae.pure h23 rfl ?_
     simp(maxSteps:=9^7) (disch:=first|exact dI|fail) only[hia,push_cast,seval]
     refine ae.pure h58 rfl ?_
     simp(maxSteps:=9^7) (disch:=first|exact dI|fail) only[push_cast,seval]
     refine ae.pure h24 rfl ?_
     simp(maxSteps:=9^7) (disch:=first|exact dI|fail) only[push_cast,seval]
   | true=>
     rw[hw] at h24
     rw[if_neg (show ¬ true=false by decide)]
     obtain⟨c,r,hT⟩:∃ c r,s++P=c::r:=by
      cases h:s++P with
      | nil=>have:=congrArg List.length h;rw[List.length_append,hsl] at this;simp at this;omega
      | cons c r=>exact⟨c,r,rfl⟩
     rw[hT] at hws hst ⊢
     simp only[List.nil_append,bB,aB,stB] at hws hst
     have hsP:s.length+P.length≤1000000:=by omega
     refine w8 (hdE s c r) (fun i=>i≤1) (fun i=>1 - i) 0 [9] (exE c r) (fun _=>True) ?_ ?_ ?_ ?_
     ·exact bl (by simp(maxSteps:=9^7) (disch:=first|exact dI|fail) only[hdE,EO,wrA,vP,push_cast,seval])
     ·omega
     ·intro i hi
      by_cases h0:i=0
      ·subst h0
       simp(maxSteps:=9^7) (disch:=first|exact dI|fail) only[hdE,EO,wrA,vP,aK,push_cast,seval]
       refine ae.pure h23 rfl ?_
       simp(maxSteps:=9^7) (disch:=first|exact dI|fail) only[hia,push_cast,seval]
       refine ae.pure h58 rfl ?_
       simp(maxSteps:=9^7) (disch:=first|exact dI|fail) only[push_cast,seval]
       refine ae.pure h24 rfl ?_
       simp(maxSteps:=9^7) (disch:=first|exact dI|fail) only[hmx,aK,push_cast,seval]
       refine ae.pure h25 rfl ?_
       simp(maxSteps:=9^7) (disch:=first|exact dI|fail) only[hT,push_cast,seval]
       refine ae.lentK hws [0] rfl (by simp(maxSteps:=9^7) (disch:=first|exact dI|fail) only[push_cast,seval]) (by simp(maxSteps:=9^7) (disch:=first|exact dI|fail) only[push_cast,seval]) ?_
       simp(maxSteps:=9^7) (disch:=first|exact dI|fail) only[push_cast,seval]
       exact⟨1,bl (by simp(maxSteps:=9^7) (disch:=first|exact dI|fail) only[hdE,EO,wrA,vP,push_cast,seval]),by omega,by omega⟩
      ·obtain rfl:i=1:=by omega
       simp(maxSteps:=9^7) (disch:=first|exact dI|fail) only[hdE,EO,wrA,vP,Int.lt_irrefl,push_cast,seval]
       exact⟨(),bl (by simp(maxSteps:=9^7) (disch:=first|exact dI|fail) only[exE,push_cast,seval])⟩
     ·rintro⟨⟩ _
      simp(maxSteps:=9^7) (disch:=first|exact dI|fail) only[exE,push_cast,seval]
      refine ae.lentK hst [0,1] rfl (by simp(maxSteps:=9^7) (disch:=first|exact dI|fail) only[push_cast,seval]) (by simp(maxSteps:=9^7) (disch:=first|exact dI|fail) only[push_cast,seval]) ?_
      simp(maxSteps:=9^7) (disch:=first|exact dI|fail) only[push_cast,seval]
end Go.Proofs.YtedanlflegfomaaGreatDoor
set_option maxRecDepth 100000
set_option linter.unusedVariables false
set_option linter.unusedSimpArgs false
namespace Go.Proofs.YtedanlflegfomaaGreatDoor
open Go Go.Ab
attribute [local irreducible] vc
end Go.Proofs.YtedanlflegfomaaGreatDoor
set_option maxRecDepth 100000
set_option linter.unusedVariables false
set_option linter.unusedSimpArgs false
namespace Go.Proofs.YtedanlflegfomaaGreatDoor
open Go Go.Ab Go.RowKit Go.Shelf
attribute [local irreducible] vc
attribute [local go_sem] Oper.semAt_some
structure Kept (kp O':Nat→Nat→Prop)(W W':World):Prop where
 size:W.heap.size≤W'.heap.size
 out:∀ b o,kp b o→¬ O' b o
 cell:∀ b o v,kp b o→W.cell? ⟨b,o,none⟩=some v→W'.cell? ⟨b,o,none⟩=some v
section
variable (l:Nat)(xs:List (List PV))(base:Nat→Nat→Prop)(n0:Nat)(J:Nat→(Nat→Nat→Prop)→World→Prop)(Jx:World→Prop)
def GW (W:World):Prop:=∀ g,aA g≠[]→∃ cs T fz,W.heap[g]? = some (.cells cs T fz)∧cs.size=(aA g).length
structure Iter:Prop where
 grow:∀ i O W W',J i O W→Below W.heap.size W W'→J i O W'
 lt:∀ i O W b o,J i O W→O b o→b<W.heap.size
 round:∀ (m i:Nat) (x:List PV) (O:Nat→Nat→Prop) (W:World) (vals:Array Value) (imm' kp:Nat→Nat→Prop),J i O W→xs[i]? = some x→vals.size=x.length →
   (∀ (j:Nat) (y:PV),x[j]? = some y→PRel W imm' y (vals.getD j Go.undef))→(∀ b o,imm' b o→base b o∨n0≤b)→(∀ b o,imm' b o→kp b o)→(∀ b o,kp b o→b<W.heap.size∧¬ O b o) →
   YieldAt Fence.wide m Tryz.prog l vals W fun e W'=>
    (e = .returned (.bool true)∧(∃ O',J (i+1) O' W'∧∀ b o,kp b o→¬ O' b o)∧W.heap.size≤W'.heap.size∧(∀ b o v,kp b o→W.cell? ⟨b,o,none⟩=some v→W'.cell? ⟨b,o,none⟩=some v)∧GW W') ∨
    (e = .returned (.bool false)∧Jx W')
variable {l xs base n0 J Jx}
theorem Kept.trans {kp O1 O2:Nat→Nat→Prop}{A B C:World}(h:Kept kp O1 A B)(k:Kept kp O2 B C):Kept kp O2 A C:=
 ⟨Nat.le_trans h.size k.size,k.out,fun b o v hb hv=>k.cell b o v hb (h.cell b o v hb hv)⟩
theorem Kept.below {kp O1:Nat→Nat→Prop}{A B:World}(h:Below A.heap.size A B)(ho:∀ b o,kp b o→¬ O1 b o):Kept kp O1 A B:=
 ⟨h.size,ho,fun b o v _ hv=>(World.cell?_of_block (a:=⟨b,o,none⟩) (h.block b (World.block_lt_of_cell? A _ hv))).trans hv⟩
end
end Go.Proofs.YtedanlflegfomaaGreatDoor
set_option maxRecDepth 100000
set_option linter.unusedVariables false
set_option linter.unusedSimpArgs false
namespace Go.Proofs.YtedanlflegfomaaGreatDoor
open Go Go.Ab Go.RowKit Go.Shelf
attribute [local irreducible] vc
attribute [local go_sem] Oper.semAt_some
end Go.Proofs.YtedanlflegfomaaGreatDoor
set_option maxRecDepth 100000
set_option linter.unusedVariables false
set_option linter.unusedSimpArgs false
namespace Go.Proofs.YtedanlflegfomaaGreatDoor
open Go Go.Ab Go.RowKit Go.Shelf
attribute [local irreducible] vc
attribute [local go_sem] Oper.semAt_some
def bP (w:List Nat)(i:Nat):Nat:=(w.take i).sum
def dQ (line:List UInt8)(w:List Nat)(i:Nat):List UInt8:=(line.take (bP w (i+1))).drop (bP w i)
def cw (w:List Nat):List PV:=w.map fun (n:Nat)=>PV.int .i64 (n:Int)
def bN (line:List UInt8)(w:List Nat):List (List PV):=(List.range w.length).map fun i=>[.int .i64 (bP w i:Int),.str (dQ line w i)]
theorem tA (w:List Nat):∀ i,bP w i≤w.sum:=fun i=>by
 unfold bP
 conv=>rhs;rw[← List.take_append_drop i w]
 rw[List.sum_append];omega
theorem dl {w:List Nat}{i:Nat}{n:Nat}(h:w[i]? = some n):bP w (i+1)=bP w i+n:=by
 unfold bP;rw[a8 h,List.sum_append];simp
theorem Gg {W:World}{imm:Nat→Nat→Prop}{p:PV}{u:Value}(hc:p.cells=[p])(h:PRel W imm (.eptr [p] 0 0) u):∃ b o v,u = .pointer (some ⟨b,o,none⟩)∧imm b o∧W.cell? ⟨b,o,none⟩=some v∧v.oneCell'=true∧PRel W imm p v:=by
 generalize hl:[p]=l at h
 cases h with
 | eptr _ b off c sz g _ _ h1 h2 h3 h4 h5 h6=>
   subst hl
   obtain⟨q1,q2,q3⟩:=h4 0 p 0 p rfl (by rw[hc];rfl)
   have q4:=h5 0 p 0 p rfl (by rw[hc];rfl)
   exact⟨b,off+0*sz+0,g 0 0,rfl,q1,q2,q3,q4⟩
set_option maxHeartbeats 4000000 in
theorem gX (line:List UInt8)(w:List Nat)(hs:w.sum≤line.length)(hl:line.length≤1000000)(hw:w.length≤1000000):I6 Tryz.prog aA 80 [.eptr [.list (cw w)] 0 0,.eptr [.str line] 0 0] (bN line w):=by
 refine⟨by kernel_rfl,fun W imm lbv l J Jx O hG himm hsz hlb hgrow hlt hround hJ=>?_⟩
 have hp:=hlb 0 _ rfl
 have hq:=hlb 1 _ rfl
 obtain⟨p,q,rfl⟩:∃ p q,lbv = #[p,q]:=by
  obtain⟨l⟩:=lbv
  match l,hsz with
  | [p,q],_=>exact⟨p,q,rfl⟩
 replace hp:PRel W imm (.eptr [.list (cw w)] 0 0) p:=by simpa using hp
 replace hq:PRel W imm (.eptr [.str line] 0 0) q:=by simpa using hq
 obtain⟨b1,o1,v1,rfl,i1,c1,s1,r1⟩:=Gg rfl hp
 obtain⟨b2,o2,v2,rfl,i2,c2,s2,r2⟩:=Gg rfl hq
 obtain⟨rfl,_⟩:=iY r2
 simp only[List.append_toArray,List.cons_append,List.nil_append]
 refine callsIn_of_wp Tryz.func80 rfl trivial ?_ rfl
 simp only[Tryz.ntmps80,List.size_toArray,List.length_cons,List.length_nil,Nat.reduceAdd,Nat.reduceSub,Array.replicate_succ,Array.replicate_zero,List.push_toArray,List.append_toArray,List.nil_append,List.cons_append]
 generalize hL:cw w=L at r1
 cases r1 with
 | lnil A c hc=>
   have hw0:w=[]:=by cases w with
    | nil=>rfl
    | cons x r=>simp[cw] at hL
   subst hw0
   gi_wp2
   gi_loopw [9] (fun p wr=>p = .int .i64 0∧wr=W) (fun p wr=>0)
   case atStart=>exact⟨rfl,rfl⟩
   case round=>
    obtain⟨rfl,rfl⟩:=hrel
    gi_wp2
    go_end0
    exact⟨⟨_,rfl⟩,.inl ⟨_,hJ⟩⟩
 | list _ b3 off3 c3 sz3 g3 k1 k2 k3 k4 k5=>
   subst hL
   have hel:∀ (i n:Nat),w[i]? = some n→imm b3 (off3+i)∧W.cell? ⟨b3,off3+i,none⟩=some (.int .i64 (n:Int)):=fun i n hn=>by
    have hx:(cw w)[i]? = some (.int .i64 (n:Int)):=by simp[cw,hn]
    have hz:sz3=1:=(k3 i _ hx).symm
    subst hz
    obtain⟨q1,q2,q3⟩:=k4 i _ 0 _ hx rfl
    have q4:=k5 i _ 0 _ hx rfl
    generalize g3 i 0=u at q2 q4
    cases q4
    exact⟨by simpa using q1,by simpa using q2⟩
   have hlen:(cw w).length=w.length:=by simp[cw]
   rw[hlen] at c1 k1
   clear k3 k4 k5 hp hq r2 hlb
   gi_wp2
   gi_loopw [4,9] (fun p4 p9 wr=>∃ (k:Nat) (O':Nat→Nat→Prop),p4 = .int .i64 (bP w k:Int)∧p9 = .int .i64 (k:Int)∧k≤w.length∧J k O' wr∧Kept imm O' W wr∧GW wr) (fun p4 p9 wr=>w.length - (intOf p9).toNat)
   case atStart=>exact⟨0,O,rfl,rfl,Nat.zero_le _,hJ,⟨Nat.le_refl _,fun b o hb=>(himm b o hb).2,fun _ _ _ _ h=>h⟩,hG.2⟩
   case round=>
    obtain⟨k,O',rfl,rfl,hk,hJk,hKk,hGk⟩:=hrel
    by_cases hlt':k<w.length
    ·obtain⟨n,hn⟩:∃ n,w[k]? = some n:=⟨_,List.getElem?_eq_getElem hlt'⟩
     obtain⟨i3,c3'⟩:=hel k n hn
     have w3:=hKk.cell _ _ _ i3 c3'
     have w2:=hKk.cell _ _ _ i2 c2
     have hkI:(k:Int)<(w.length:Int):=by omega
     have hk0:(0:Int)≤(k:Int):=by omega
     have hst:=dl hn
     have hle:=tA w (k+1)
     have hsl:=fun (w':World)=>run_slice_string (P:=Tryz.prog) w' 9 (⟨line.toArray⟩:ByteArray) .i64 .i64 (bP w k:Int) ((bP w k:Int)+(n:Int)) Tryz.underlying9 (by omega) (by omega) (by simp[ByteArray.size];omega)
     have hx:(bN line w)[k]? = some [.int .i64 (bP w k:Int),.str (dQ line w k)]:=by simp[bN,hlt']
     have he:(ByteArray.extract ⟨line.toArray⟩ (bP w k) (bP w k+n)).data.toList=dQ line w k:=by
      simp only[ByteArray.data_extract,Array.toList_extract,List.extract_eq_take_drop,dQ,hst,List.drop_take]
     have hstr:PRel wr imm (.str (dQ line w k)) (.string (ByteArray.extract ⟨line.toArray⟩ (bP w k) (bP w k+n))):=by
      rw[← he]
      exact .str _ (by simp[ByteArray.size,ByteArray.data_extract];unfold maxLen;omega)
     obtain⟨fn,tmps,assign,body,hy,hR⟩:=hround 0 k _ O' wr #[.int .i64 (bP w k:Int),.string (ByteArray.extract ⟨line.toArray⟩ (bP w k) (bP w k+n))] imm imm hJk hx rfl (fun j y hy=>by
      match j,hy with
      | 0,hy=>simp at hy;subst hy;exact .int _ _
      | 1,hy=>simp at hy;subst hy;exact hstr
      | j+2,hy=>simp at hy) (fun b o h=>.inl h) (fun b o h=>h) (fun b o hb=>⟨Nat.lt_of_lt_of_le (himm b o hb).1 hKk.size,hKk.out b o hb⟩)
     have hkw:wrap64 ((k:Int)+1)=((k+1:Nat):Int):=by unfold wrap64;omega
     have hpw:wrap64 ((bP w k:Int)+(n:Int))=(bP w (k+1):Int):=by rw[hst];unfold wrap64;omega
     have hmu:w.length - (intOf (.int .i64 (wrap64 ((k:Int)+1)))).toNat<w.length - (intOf (.int .i64 (k:Int))).toNat:=by
      rw[hkw]
      exact Nat.sub_lt_sub_left hlt' (Nat.lt_succ_self k)
     gi_wp2
     refine⟨rfl,hR.mono ?_⟩
     rintro e W2 (⟨rfl,⟨O2,hJ2,ho2⟩,hsz2,hc2,hG2⟩ | ⟨rfl,hx2⟩)
     ·have hK2:Kept imm O2 W W2:=hKk.trans ⟨hsz2,ho2,hc2⟩
      gi_wp2
      exact⟨⟨k+1,O2,congrArg _ hpw,congrArg _ hkw,hlt',hJ2,hK2,hG2⟩,hmu⟩
     ·gi_wp2
      refine bodyPost_ret (results_none rfl _ _ _) rfl ?_
      exact⟨⟨_,rfl⟩,.inr hx2⟩
    ·obtain rfl:k=w.length:=by omega
     gi_wp2
     go_end0
     exact⟨⟨_,rfl⟩,.inl ⟨O',by simpa[bN] using hJk⟩⟩
end Go.Proofs.YtedanlflegfomaaGreatDoor

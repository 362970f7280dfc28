/- A part of the proof. -/
import Derived.Test.YtamoeblcphjbaaaGreatDoorPaLE1
set_option maxRecDepth 100000
set_option linter.unusedVariables false
set_option linter.unusedSimpArgs false
-- many steps
namespace Go.Proofs.YtamoeblcphjbaaaGreatDoor
open Go Go.Ab Go.RowKit
attribute [local irreducible] vc
noncomputable def lvl (v:Val):Nat:=(iV v).choose
theorem A0 (v:Val):mI (lvl v) v:=(iV v).choose_spec
noncomputable def txt (v:Val):List UInt8:=DG (lvl v) v
section
variable {T:Nat}{p:PV}
end
theorem MQ {l fs:List Fld}(hp2:fs.Pairwise fun a b=>Lib.compareBytes a.name b.name<0)(hp0:fs.Perm l):srt l=fs:=by
 have hs:(srt l).Pairwise fun a b=>¬ Lib.compareBytes b.name a.name<0:=by
  rw[List.pairwise_iff_getElem]
  intro i j hi hj hij
  exact vu l i j _ _ hij (List.getElem?_eq_getElem hi) (List.getElem?_eq_getElem hj)
 have hpp:=(ta l).trans hp0.symm
 refine List.Perm.eq_of_pairwise (le:=fun a b=>¬ Lib.compareBytes b.name a.name<0) ?_ hs (hp2.imp fun {a b} hab hba=>?_) hpp
 ·intro a b ha hb h1 h2
  have hb':=hb
  have ha':=hpp.mem_iff.1 ha
  obtain⟨i,hi,rfl⟩:=List.getElem_of_mem ha'
  obtain⟨j,hj,rfl⟩:=List.getElem_of_mem hb'
  have hpw:=List.pairwise_iff_getElem.1 hp2
  rcases Nat.lt_trichotomy i j with h | h | h
  ·exact absurd (hpw i j hi hj h) h2
  ·subst h;rfl
  ·exact absurd (hpw j i hj hi h) h1
 ·have:=jO _ _ _ hab hba
  rw[r8] at this
  exact absurd this (by decide)
theorem Rk {a b:List UInt8}(h:gtN a b=true):Lib.compareBytes b a<0:=by
 unfold gtN bx at h
 rw[nh] at h
 simp only[Bool.not_or,Bool.and_eq_true,Bool.not_eq_true',decide_eq_false_iff_not,beq_eq_false_iff_ne,ne_eq] at h
 exact OM h.1 h.2
theorem Rl {a b:List UInt8}(h:gtN a b=false)(hn:a≠b):Lib.compareBytes a b<0:=by
 unfold gtN bx at h
 rw[nh] at h
 simp only[Bool.not_eq_false',Bool.or_eq_true,decide_eq_true_eq,beq_iff_eq] at h
 exact h.resolve_right hn
theorem oS (nm:List UInt8):∀ (r:List Fld) (i:Nat),(∀ x∈r.take (oT nm i r - i),gtN x.name nm=false)∧(∀ x q,r.drop (oT nm i r - i)=x::q→gtN x.name nm=true)
 | [],i=>⟨fun x hx=>by simp at hx,fun x q h=>by simp at h⟩
 | y::r,i=>by
   rw[oT]
   cases hg:gtN y.name nm with
   | true=>
     rw[if_pos rfl,Nat.sub_self]
     refine⟨fun x hx=>by simp at hx,fun x q h=>?_⟩
     obtain⟨rfl,_⟩:=List.cons.inj h
     exact hg
   | false=>
     rw[if_neg (by decide)]
     have hle:=(posD_le' nm r (i+1)).1
     obtain⟨h1,h2⟩:=oS nm r (i+1)
     rw[show oT nm (i+1) r - i=(oT nm (i+1) r - (i+1))+1 by omega,List.take_succ_cons,List.drop_succ_cons]
     refine⟨fun x hx=>?_,h2⟩
     rcases List.mem_cons.1 hx with rfl | hx
     ·exact hg
     ·exact h1 x hx
where
 posD_le' (nm:List UInt8):∀ (r:List Fld) (i:Nat),i≤oT nm i r∧oT nm i r≤i+r.length
 | [],i=>⟨Nat.le_refl _,Nat.le_refl _⟩
 | x::r,i=>by
   rw[oT]
   split
   ·simp
   ·have:=posD_le' nm r (i+1)
    rw[List.length_cons];omega
theorem Bp (l:List Fld)(x:Fld):(Dc l x).Perm (x::l):=by
 unfold Dc
 rw[List.append_assoc,List.singleton_append]
 have:=List.perm_middle (a:=x) (l₁:=l.take (i7 l x.name 0)) (l₂:=l.drop (i7 l x.name 0))
 rw[List.take_append_drop] at this
 exact this
theorem JG {l:List Fld}{x:Fld}(h:l.Pairwise fun a b=>Lib.compareBytes a.name b.name<0)(hn:∀ y∈l,y.name≠x.name):(Dc l x).Pairwise fun a b=>Lib.compareBytes a.name b.name<0:=by
 obtain⟨h1,h2⟩:=oS x.name l 0
 rw[Nat.sub_zero] at h1 h2
 have hF:i7 l x.name 0=oT x.name 0 l:=rfl
 unfold Dc
 rw[hF,List.append_assoc,List.singleton_append]
 generalize oT x.name 0 l=k at *
 have hlt:∀ y∈l.take k,Lib.compareBytes y.name x.name<0:=fun y hy=>Rl (h1 y hy) (hn y (List.mem_of_mem_take hy))
 have hsp:l=l.take k++l.drop k:=(List.take_append_drop k l).symm
 rw[hsp,List.pairwise_append] at h
 obtain⟨p1,p2,p3⟩:=h
 have hgt:∀ y∈l.drop k,Lib.compareBytes x.name y.name<0:=by
  cases hd:l.drop k with
  | nil=>intro y hy;cases hy
  | cons z q=>
    have hz:=Rk (h2 z q hd)
    intro y hy
    rcases List.mem_cons.1 hy with rfl | hy
    ·exact hz
    ·rw[hd,List.pairwise_cons] at p2
     exact jO _ _ _ hz (p2.1 y hy)
 rw[List.pairwise_append]
 refine⟨p1,List.pairwise_cons.2 ⟨hgt,p2⟩,fun a ha b hb=>?_⟩
 rcases List.mem_cons.1 hb with rfl | hb
 ·exact hlt a ha
 ·exact p3 a ha b hb
theorem yl {R:Rd}{k:Int}(h:¬ R.e=0):(fe R k).2=R:=by rw[take_3 h]
theorem G9 {R:Rd}(h:¬ R.e=0):(bg R).2=R:=by
 unfold bg
 simp only
 rw[yl h,if_neg (fun q=>h q.1)]
theorem ye {M:Mo}{R:Rd}(h:C8 M R):(R.now.kind=1↔M.k=119):=by
 obtain⟨_,h⟩:=h
 rcases h with ⟨a,b⟩ | ⟨a,b,_⟩ | ⟨a,b,_⟩ | ⟨a,b,_⟩ | ⟨a,b,_⟩ | ⟨a,h⟩
 ·rw[a,b];decide
 ·rw[a,b];decide
 ·rw[a,b];decide
 ·rw[a,b];decide
 ·rw[a,b];decide
 ·rw[a]
  rcases h with ⟨b,_⟩ | ⟨c,hc,b,_⟩
  ·rw[b];decide
  ·rw[b]
   have:=(oj hc).2.2.2.2.1
   constructor
   ·intro q;cases q
   ·intro q;exact absurd q this
theorem yd {M:Mo}{R:Rd}(h:C8 M R):(R.now.kind=3↔M.k=115):=by
 obtain⟨_,h⟩:=h
 rcases h with ⟨a,b⟩ | ⟨a,b,_⟩ | ⟨a,b,_⟩ | ⟨a,b,_⟩ | ⟨a,b,_⟩ | ⟨a,h⟩
 ·rw[a,b];decide
 ·rw[a,b];decide
 ·rw[a,b];decide
 ·rw[a,b];decide
 ·rw[a,b];decide
 ·rw[a]
  rcases h with ⟨b,_⟩ | ⟨c,hc,b,_⟩
  ·rw[b];decide
  ·rw[b]
   have:=(oj hc).2.2.2.1
   constructor
   ·intro q;cases q
   ·intro q;exact absurd q this
theorem ME {M:Mo}{R:Rd}(h:C8 M R)(hk:M.k=119):M.x=R.now.text:=by
 have h1:=(ye h).2 hk
 obtain⟨_,h⟩:=h
 rcases h with ⟨a,b⟩ | ⟨a,b,c,_⟩ | ⟨a,b,_⟩ | ⟨a,b,_⟩ | ⟨a,b,_⟩ | ⟨a,h⟩
 ·rw[h1] at a;cases a
 ·exact c
 ·rw[h1] at a;cases a
 ·rw[h1] at a;cases a
 ·rw[h1] at a;cases a
 ·rw[h1] at a;cases a
theorem MF {M:Mo}{R:Rd}(h:C8 M R)(hk:M.k=115):M.v=R.now.bytes:=by
 have h1:=(yd h).2 hk
 obtain⟨_,h⟩:=h
 rcases h with ⟨a,b⟩ | ⟨a,b,c,_⟩ | ⟨a,b,_⟩ | ⟨a,b,c⟩ | ⟨a,b,_⟩ | ⟨a,h⟩
 ·rw[h1] at a;cases a
 ·rw[h1] at a;cases a
 ·rw[h1] at a;cases a
 ·exact c
 ·rw[h1] at a;cases a
 ·rw[h1] at a;cases a
theorem D0 {M:Mo}{R:Rd}(hR:OkR R)(h:Sim M R):Sim (gZ M) (bg R).2∧((bg R).2.e=0→(bT M).x=(bg R).1∧(bT M).k=119∧(bT M).p=R.now.pos):=by
 by_cases h0:R.e=0
 ·obtain⟨a,b,d⟩:=j2 h h0
  unfold gZ bT bi
  by_cases hk:M.k=119
  ·have hkI:(M.k:Int)=119:=by omega
   rw[if_pos hkI]
   have hx:=ME d hk
   have hn:=fG hR h
   unfold bg
   simp only
   rw[lO h0 ((ye d).2 hk)]
   simp only[dd]
   unfold fq
   simp only[hk,true_and]
   by_cases h20:(aY R).e=0
   ·cases hb:bC M.x with
    | true=>
      rw[if_neg (by decide),if_neg (by rw[← hx,hb];simp)]
      exact⟨hn,fun _=>⟨hx,d.1⟩⟩
    | false=>
      rw[if_pos rfl,if_pos ⟨h20,by rw[← hx,hb]⟩,d.1]
      exact⟨bR (by decide) hn,fun q=>absurd q (aZ (by decide))⟩
   ·have e2:(if (aY R).e=0∧bC R.now.text=false then aI (aY R) R.now.pos 12 else aY R)=aY R:=if_neg (fun q=>h20 q.1)
    rw[e2]
    refine⟨?_,fun q=>absurd q h20⟩
    split
    ·exact (dz _ _ _).sim hn h20 rfl
    ·exact hn
  ·rw[if_neg (by omega)]
   unfold bg
   simp only
   rw[take_2 h0 (fun q=>hk ((ye d).1 q))]
   have hf:=bR (e:=13) (i:=M.p) (by decide) h
   rw[d.1] at hf
   have hfe:¬ (aI R R.now.pos 13).e=0:=aZ (by decide)
   simp only
   rw[if_neg (fun q=>hfe q.1)]
   unfold fq
   rw[if_neg (fun q=>by have:=q.1;simp at this),d.1]
   exact⟨hf,fun q=>absurd q hfe⟩
 ·rw[G9 h0]
  exact⟨((cQ M 119).trans (Bf _ _)).sim h h0 rfl,fun q=>absurd q h0⟩
theorem Ff {R:Rd}{ps:List UInt8→Int×Int}(h:¬ R.e=0):bh R ps=(0,R):=by
 unfold bh
 simp only
 rw[yl h,if_neg h]
theorem lR {M:Mo}{R:Rd}(ps:List UInt8→Int×Int)(hR:OkR R)(h:Sim M R):Sim (r7 ps (bi M 115).2 (bi M 115).1) (bh R ps).2∧((bh R ps).2.e=0→(ps (bi M 115).1.v).1=(bh R ps).1):=by
 by_cases h0:R.e=0
 ·obtain⟨a,b,d⟩:=j2 h h0
  unfold bi
  by_cases hk:M.k=115
  ·have hkI:(M.k:Int)=115:=by omega
   rw[if_pos hkI]
   have hv:=MF d hk
   have hn:=fG hR h
   unfold bh
   simp only
   rw[lO h0 ((yd d).2 hk)]
   simp only[dd]
   unfold r7
   simp only[hk,true_and]
   by_cases h20:(aY R).e=0
   ·rw[if_pos h20,← hv]
    simp only
    by_cases hp:(ps M.v).2=0
    ·rw[if_neg (fun q=>q hp),if_pos hp]
     exact⟨hn,fun _=>trivial⟩
    ·rw[if_pos hp,if_neg hp,d.1]
     exact⟨bR hp hn,fun q=>absurd q (aZ hp)⟩
   ·rw[if_neg h20]
    refine⟨?_,fun q=>absurd q h20⟩
    split
    ·exact (dz _ _ _).sim hn h20 rfl
    ·exact hn
  ·rw[if_neg (by omega)]
   unfold bh
   simp only
   rw[take_2 h0 (fun q=>hk ((yd d).1 q))]
   have hf:=bR (e:=13) (i:=M.p) (by decide) h
   rw[d.1] at hf
   have hfe:¬ (aI R R.now.pos 13).e=0:=aZ (by decide)
   simp only
   rw[if_neg hfe]
   unfold r7
   rw[if_neg (fun q=>by have:=q.1;simp at this),d.1]
   exact⟨hf,fun q=>absurd q hfe⟩
 ·rw[Ff h0]
  exact⟨((cQ M 115).trans (ni _ _ _)).sim h h0 rfl,fun q=>absurd q h0⟩
end Go.Proofs.YtamoeblcphjbaaaGreatDoor

/- A part of the proof for LiteralReadsCardSaid. -/
import Derived.Test.YtamoeblcphjbaaaGreatDoorRdLP7
import Derived.Test.YtamoeblcphjbaaaGreatDoorRdL2
set_option maxRecDepth 100000
set_option linter.unusedVariables false
set_option linter.unusedSimpArgs false
namespace Go.Proofs.YtamoeblcphjbaaaGreatDoor
open Go Go.Ab
def A (s:List UInt8)(i:Nat):Rd:=bq ⟨s,i,{},0,0⟩
theorem Qx {R:Rd}(he:R.e=0)(ho:R.off=0):bq R=A R.s R.next:=by
 obtain⟨s,n,w,e,o⟩:=R
 simp only at he ho
 subst he;subst ho
 rfl
theorem OQ {s:List UInt8}{i:Nat}(h:s.length≤i):A s i=⟨s,i,{ pos:=i },0,0⟩:=by
 have e:bx aY s i=i:=yh h
 have:=B1 (R:=⟨s,i,{},0,0⟩) rfl (by simp only;rw[e];exact h)
 rw[A,this]
 simp only[e]
theorem OR {s:List UInt8}{i:Nat}{c:UInt8}(hc:s[i]? = some c)(hb:aY c=false):A s i=en (ed ⟨s,i,{ pos:=i },0,0⟩ i c) i:=by
 have e:bx aY s i=i:=by rw[sl hc,if_neg (by rw[hb];decide)]
 have:=B0 (R:=⟨s,i,{},0,0⟩) (c:=c) rfl (by simp only;rw[e];exact hc)
 rw[A,this]
 simp only[e]
theorem Cp {s:List UInt8}{i:Nat}{c:UInt8}(hc:s[i]? = some c)(hb:aY c=true):A s i=A s (i+1):=by
 have e:bx aY s i=bx aY s (i+1):=by rw[sl hc,if_pos hb]
 unfold A bq
 simp only[e]
 rw[if_pos trivial,if_pos trivial]
theorem cm {s r:List UInt8}{i:Nat}{c:UInt8}(h:s.drop i=c::r):s[i]? = some c∧s.drop (i+1)=r:=by
 refine⟨?_,?_⟩
 ·have:=congrArg (fun l=>l[0]?) h
  simpa using this
 ·have:=congrArg (fun l=>l.drop 1) h
  simpa[List.drop_drop] using this
theorem bI {s a b:List UInt8}{i:Nat}(h:s.drop i=a++b):s.drop (i+a.length)=b:=by
 have:=congrArg (fun l=>l.drop a.length) h
 simpa[List.drop_drop] using this
theorem gi {s a b:List UInt8}{i:Nat}(h:s.drop i=a++b):(s.take (i+a.length)).drop i=a:=by
 rw[List.drop_take,h,show i+a.length - i=a.length by omega]
 simp
theorem Jv (c:UInt8)(h:c.toNat<32∨c.toNat=127):lc 0 (nt c)=some c.toNat∧(nt c).length≤2∧1≤(nt c).length∧e6 c.toNat=some [c]∧∀ b∈nt c,b≠125:=by
 have key:∀ c:UInt8,(c.toNat<32∨c.toNat=127)→lc 0 (nt c)=some c.toNat∧(nt c).length≤2∧1≤(nt c).length∧e6 c.toNat=some [c]∧(nt c).all (fun b=>!decide (b=125))=true:=eK (by decide +kernel)
 obtain⟨h1,h2,h3,h4,h5⟩:=key c h
 refine⟨h1,h2,h3,h4,fun b hb=>?_⟩
 have:=List.all_eq_true.1 h5 b hb
 simpa using this
theorem tF:∀ (a r:List UInt8),(∀ b∈a,b≠125)→iA 125 (a++125::r)=some (a,r)
 | [],r,_=>by rw[List.nil_append,iA,if_pos rfl]
 | c::a,r,h=>by
   rw[List.cons_append,iA,if_neg (h c (by simp)),tF a r fun b hb=>h b (List.mem_cons_of_mem _ hb)];rfl
theorem lQ:pK 34=some 34∧pK 92=some 92∧pK 110=some 10∧pK 114=some 13∧pK 116=some 9∧pK 117=none:=by decide
theorem lp:∀ (t r:List UInt8) (f i:Nat) (o:List UInt8),(t.flatMap cP).length<f→jd f (t.flatMap cP++34::r) i o = .done (o++t) (i+(t.flatMap cP).length+1)
 | [],r,f,i,o,hf=>by
   obtain⟨f,rfl⟩:∃ g,f=g+1:=⟨f - 1,by simp at hf;omega⟩
   rw[List.flatMap_nil,List.nil_append,gW rfl,List.append_nil];rfl
 | c::t,r,f,i,o,hf=>by
   have ih:=lp t r
   rw[List.flatMap_cons,List.length_append] at hf
   rw[List.flatMap_cons,List.append_assoc,List.length_append]
   generalize t.flatMap cP=M at *
   obtain⟨f,rfl⟩:∃ g,f=g+1:=⟨f - 1,by omega⟩
   have one:∀ (b d:UInt8),pK b=some d→cP c=[92,b]→c=d→jd (f+1) (cP c++(M++34::r)) i o = .done (o++c::t) (i+((cP c).length+M.length)+1):=by
    intro b d hk he hcd
    rw[he] at hf ⊢
    simp only[List.length_cons,List.length_nil] at hf
    rw[List.cons_append,List.cons_append,List.nil_append,eo rfl (by simp),A4 hk,if_pos rfl]
    simp only[List.drop_succ_cons,List.drop_zero]
    rw[ih f _ _ (by omega),← hcd,List.append_assoc]
    simp only[List.length_cons,List.length_nil,List.singleton_append]
    congr 1;omega
   by_cases h1:c.toNat=34∨c.toNat=92
   ·rcases h1 with h | h
    ·have hc:c=34:=UInt8.toNat_inj.1 (by simpa using h)
     exact one c 34 (by rw[hc];exact lQ.1) (Fz (.inl h)) hc
    ·have hc:c=92:=UInt8.toNat_inj.1 (by simpa using h)
     exact one c 92 (by rw[hc];exact lQ.2.1) (Fz (.inr h)) hc
   by_cases h2:c.toNat=10
   ·exact one 110 10 lQ.2.2.1 (JA h2) (UInt8.toNat_inj.1 (by simpa using h2))
   by_cases h3:c.toNat=13
   ·exact one 114 13 lQ.2.2.2.1 (Jz h3) (UInt8.toNat_inj.1 (by simpa using h3))
   by_cases h4:c.toNat=9
   ·exact one 116 9 lQ.2.2.2.2.1 (Jy h4) (UInt8.toNat_inj.1 (by simpa using h4))
   by_cases h5:c.toNat<32∨c.toNat=127
   ·obtain⟨g1,g2,g3,g4,g5⟩:=Jv c h5
    rw[Jw h5 h2 h3 h4] at hf ⊢
    generalize nt c=X at *
    simp only[List.length_cons,List.length_append,List.length_nil] at hf
    have hU:(117::123::(X++[125]++(M++34::r))).drop 2=X++125::(M++34::r):=by simp
    have hS:iw (117::123::(X++[125]++(M++34::r)))=(([c],X.length+3),0):=by
     rw[A3 lQ.2.2.2.2.2,if_pos (by simp[fF]),hU,A2 (tF X _ g5) (by omega),g1]
     simp only[GT,g4]
    rw[List.cons_append,List.cons_append,List.cons_append,eo rfl (by simp),hS,if_pos rfl]
    have hd:(117::123::(X++[125]++(M++34::r))).drop (X.length+3)=M++34::r:=by
     rw[show X.length+3=(X.length+1)+1+1 by omega,List.drop_succ_cons,List.drop_succ_cons]
     have:X.length+1=(X++[125]).length:=by simp
     rw[this,List.drop_left]
    simp only
    rw[hd,ih f _ _ (by omega),List.append_assoc]
    simp only[List.length_cons,List.length_append,List.length_nil,List.singleton_append]
    congr 1;omega
   ·rw[Fy h5 h1] at hf ⊢
    simp only[List.length_singleton] at hf
    rw[List.singleton_append,da (by omega) h5 (by omega),ih f _ _ (by omega),List.append_assoc]
    simp only[List.length_singleton,List.singleton_append]
    congr 1;omega
theorem OO {s r t:List UInt8}{i:Nat}(h:s.drop i=aO t++r)(hv:Lib.validD t=true):A s i=⟨s,i+(aO t).length,{ kind:=3,pos:=i,text:=aO t,bytes:=t },0,0⟩:=by
 have h':s.drop i=34::(t.flatMap cP++34::r):=by rw[h,aO];simp
 obtain⟨hc,hd⟩:=cm h'
 have hl:(t.flatMap cP).length<s.length+1:=by
  have:=congrArg List.length h'
  rw[List.length_drop,List.length_cons,List.length_append] at this
  omega
 have hq:(aO t).length=(t.flatMap cP).length+2:=by simp[aO]
 have e:sd ⟨s,i,{ pos:=i },0,0⟩ i=⟨s,i+(aO t).length,{ kind:=3,pos:=i,bytes:=t },0,0⟩:=by
  unfold sd
  simp only
  rw[hd,lp t r _ _ _ hl,bn]
  simp only[List.nil_append]
  rw[if_neg (by rw[hv];simp)]
  rw[hq,show i+1+(t.flatMap cP).length+1=i+((t.flatMap cP).length+2) by omega]
 rw[OR hc (by decide)]
 unfold ed
 rw[if_pos (show (34:UInt8).toNat=34 from rfl),e,en,if_pos rfl]
 simp only
 rw[gi h]
theorem Ay {n:Nat}(h:n<16):oW (hxB n)=some n:=by
 have key:∀ k:Fin 16,oW (hxB k.val)=some k.val:=by decide +kernel
 exact key ⟨n,h⟩
theorem tj:∀ (t r:List UInt8) (i:Nat) (o:List UInt8),jo (t.flatMap hx2++34::r) i none o = .done (o++t) (i+(t.flatMap hx2).length+1)
 | [],r,i,o=>by rw[List.flatMap_nil,List.nil_append,ri rfl,List.append_nil];rfl
 | c::t,r,i,o=>by
   have ih:=tj t r
   have hcl:=c.toNat_lt
   rw[List.flatMap_cons,List.append_assoc,List.length_append]
   generalize t.flatMap hx2=M at *
   unfold hx2
   rw[List.cons_append,List.cons_append,List.nil_append,AA (Ay (by omega)),Az (Ay (by omega)),ih,
    show UInt8.ofNat (16*(c.toNat / 16)+c.toNat % 16)=c by
     rw[show 16*(c.toNat / 16)+c.toNat % 16=c.toNat by omega];simp,List.append_assoc]
   simp only[List.length_cons,List.length_nil,List.singleton_append]
   congr 1;omega
theorem Ra {s r t:List UInt8}{i:Nat}(h:s.drop i=lI t++r):A s i=⟨s,i+(lI t).length,{ kind:=4,pos:=i,text:=lI t,bytes:=t },0,0⟩:=by
 have h':s.drop i=120::34::(t.flatMap hx2++34::r):=by rw[h,lI];simp
 obtain⟨hc,hd⟩:=cm h'
 obtain⟨hc2,hd2⟩:=cm hd
 have hq:(lI t).length=(t.flatMap hx2).length+3:=by simp[lI]
 have e:th ⟨s,i,{ pos:=i },0,0⟩ i=⟨s,i+(lI t).length,{ kind:=4,pos:=i,bytes:=t },0,0⟩:=by
  unfold th
  simp only
  rw[show i+2=i+1+1 from rfl,hd2,tj t r,bn]
  simp only[List.nil_append]
  rw[if_neg (fun q=>by cases q.1)]
  rw[hq,show i+1+1+(t.flatMap hx2).length+1=i+((t.flatMap hx2).length+3) by omega]
 rw[OR hc (by decide)]
 unfold ed
 rw[if_neg (by decide),if_pos ⟨rfl,hc2⟩,e,en,if_pos rfl]
 simp only
 rw[gi h]
end Go.Proofs.YtamoeblcphjbaaaGreatDoor

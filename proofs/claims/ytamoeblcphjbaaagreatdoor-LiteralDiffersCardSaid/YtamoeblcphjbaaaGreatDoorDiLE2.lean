/- A part of the proof for LiteralDiffersCardSaid. -/
import Derived.Test.YtamoeblcphjbaaaGreatDoorDiLB
import Derived.Test.YtamoeblcphjbaaaGreatDoorDiL2
set_option maxRecDepth 100000
set_option linter.unusedVariables false
set_option linter.unusedSimpArgs false
namespace Go.Proofs.YtamoeblcphjbaaaGreatDoor
open Go Go.Ab
def A (s:List UInt8)(i:Nat):Rd:=fE ⟨s,i,{},0,0⟩
theorem Jl {R:Rd}(he:R.e=0)(ho:R.off=0):fE R=A R.s R.next:=by
 obtain⟨s,n,w,e,o⟩:=R
 simp only at he ho
 subst he;subst ho
 rfl
theorem HY {s:List UInt8}{i:Nat}(h:s.length≤i):A s i=⟨s,i,{ pos:=i },0,0⟩:=by
 have e:fg bD s i=i:=CA h
 have:=Jm (R:=⟨s,i,{},0,0⟩) rfl (by simp only;rw[e];exact h)
 rw[A,this]
 simp only[e]
theorem HZ {s:List UInt8}{i:Nat}{c:UInt8}(hc:s[i]? = some c)(hb:bD c=false):A s i=kr (zO ⟨s,i,{ pos:=i },0,0⟩ i c) i:=by
 have e:fg bD s i=i:=by rw[A8 hc,if_neg (by rw[hb];decide)]
 have:=Jk (R:=⟨s,i,{},0,0⟩) (c:=c) rfl (by simp only;rw[e];exact hc)
 rw[A,this]
 simp only[e]
theorem wJ {s:List UInt8}{i:Nat}{c:UInt8}(hc:s[i]? = some c)(hb:bD c=true):A s i=A s (i+1):=by
 have e:fg bD s i=fg bD s (i+1):=by rw[A8 hc,if_pos hb]
 unfold A fE
 simp only[e]
 rw[if_pos trivial,if_pos trivial]
theorem bE {s r:List UInt8}{i:Nat}{c:UInt8}(h:s.drop i=c::r):s[i]? = some c∧s.drop (i+1)=r:=by
 refine⟨?_,?_⟩
 ·have:=congrArg (fun l=>l[0]?) h
  simpa using this
 ·have:=congrArg (fun l=>l.drop 1) h
  simpa[List.drop_drop] using this
theorem bg {s a b:List UInt8}{i:Nat}(h:s.drop i=a++b):s.drop (i+a.length)=b:=by
 have:=congrArg (fun l=>l.drop a.length) h
 simpa[List.drop_drop] using this
theorem eJ {s a b:List UInt8}{i:Nat}(h:s.drop i=a++b):(s.take (i+a.length)).drop i=a:=by
 rw[List.drop_take,h,show i+a.length - i=a.length by omega]
 simp
theorem DX (c:UInt8)(h:c.toNat<32∨c.toNat=127):EU 0 (ki c)=some c.toNat∧(ki c).length≤2∧1≤(ki c).length∧kW c.toNat=some [c]∧∀ b∈ki c,b≠125:=by
 have key:∀ c:UInt8,(c.toNat<32∨c.toNat=127)→EU 0 (ki c)=some c.toNat∧(ki c).length≤2∧1≤(ki c).length∧kW c.toNat=some [c]∧(ki c).all (fun b=>!decide (b=125))=true:=gu (by decide +kernel)
 obtain⟨h1,h2,h3,h4,h5⟩:=key c h
 refine⟨h1,h2,h3,h4,fun b hb=>?_⟩
 have:=List.all_eq_true.1 h5 b hb
 simpa using this
theorem oZ:∀ (a r:List UInt8),(∀ b∈a,b≠125)→EW 125 (a++125::r)=some (a,r)
 | [],r,_=>by rw[List.nil_append,EW,if_pos rfl]
 | c::a,r,h=>by
   rw[List.cons_append,EW,if_neg (h c (by simp)),oZ a r fun b hb=>h b (List.mem_cons_of_mem _ hb)];rfl
theorem ji:vE 34=some 34∧vE 92=some 92∧vE 110=some 10∧vE 114=some 13∧vE 116=some 9∧vE 117=none:=by decide
theorem iR:∀ (t r:List UInt8) (f i:Nat) (o:List UInt8),(t.flatMap bP).length<f→pJ f (t.flatMap bP++34::r) i o = .done (o++t) (i+(t.flatMap bP).length+1)
 | [],r,f,i,o,hf=>by
   obtain⟨f,rfl⟩:∃ g,f=g+1:=⟨f - 1,by simp at hf;omega⟩
   rw[List.flatMap_nil,List.nil_append,Cc rfl,List.append_nil];rfl
 | c::t,r,f,i,o,hf=>by
   have ih:=iR t r
   rw[List.flatMap_cons,List.length_append] at hf
   rw[List.flatMap_cons,List.append_assoc,List.length_append]
   generalize t.flatMap bP=M at *
   obtain⟨f,rfl⟩:∃ g,f=g+1:=⟨f - 1,by omega⟩
   have one:∀ (b d:UInt8),vE b=some d→bP c=[92,b]→c=d→pJ (f+1) (bP c++(M++34::r)) i o = .done (o++c::t) (i+((bP c).length+M.length)+1):=by
    intro b d hk he hcd
    rw[he] at hf ⊢
    simp only[List.length_cons,List.length_nil] at hf
    rw[List.cons_append,List.cons_append,List.nil_append,nT rfl (by simp),Gy hk,if_pos rfl]
    simp only[List.drop_succ_cons,List.drop_zero]
    rw[ih f _ _ (by omega),← hcd,List.append_assoc]
    simp only[List.length_cons,List.length_nil,List.singleton_append]
    congr 1;omega
   by_cases h1:c.toNat=34∨c.toNat=92
   ·rcases h1 with h | h
    ·have hc:c=34:=UInt8.toNat_inj.1 (by simpa using h)
     exact one c 34 (by rw[hc];exact ji.1) (Aq (.inl h)) hc
    ·have hc:c=92:=UInt8.toNat_inj.1 (by simpa using h)
     exact one c 92 (by rw[hc];exact ji.2.1) (Aq (.inr h)) hc
   by_cases h2:c.toNat=10
   ·exact one 110 10 ji.2.2.1 (D1 h2) (UInt8.toNat_inj.1 (by simpa using h2))
   by_cases h3:c.toNat=13
   ·exact one 114 13 ji.2.2.2.1 (D0 h3) (UInt8.toNat_inj.1 (by simpa using h3))
   by_cases h4:c.toNat=9
   ·exact one 116 9 ji.2.2.2.2.1 (DZ h4) (UInt8.toNat_inj.1 (by simpa using h4))
   by_cases h5:c.toNat<32∨c.toNat=127
   ·obtain⟨g1,g2,g3,g4,g5⟩:=DX c h5
    rw[DY h5 h2 h3 h4] at hf ⊢
    generalize ki c=X at *
    simp only[List.length_cons,List.length_append,List.length_nil] at hf
    have hU:(117::123::(X++[125]++(M++34::r))).drop 2=X++125::(M++34::r):=by simp
    have hS:oW (117::123::(X++[125]++(M++34::r)))=(([c],X.length+3),0):=by
     rw[Gx ji.2.2.2.2.2,if_pos (by simp[Bh]),hU,Gv (oZ X _ g5) (by omega),g1]
     simp only[I3,g4]
    rw[List.cons_append,List.cons_append,List.cons_append,nT rfl (by simp),hS,if_pos rfl]
    have hd:(117::123::(X++[125]++(M++34::r))).drop (X.length+3)=M++34::r:=by
     rw[show X.length+3=(X.length+1)+1+1 by omega,List.drop_succ_cons,List.drop_succ_cons]
     have:X.length+1=(X++[125]).length:=by simp
     rw[this,List.drop_left]
    simp only
    rw[hd,ih f _ _ (by omega),List.append_assoc]
    simp only[List.length_cons,List.length_append,List.length_nil,List.singleton_append]
    congr 1;omega
   ·rw[Ap h5 h1] at hf ⊢
    simp only[List.length_singleton] at hf
    rw[List.singleton_append,pI (by omega) h5 (by omega),ih f _ _ (by omega),List.append_assoc]
    simp only[List.length_singleton,List.singleton_append]
    congr 1;omega
theorem HW {s r t:List UInt8}{i:Nat}(h:s.drop i=aH t++r)(hv:Lib.validD t=true):A s i=⟨s,i+(aH t).length,{ kind:=3,pos:=i,text:=aH t,bytes:=t },0,0⟩:=by
 have h':s.drop i=34::(t.flatMap bP++34::r):=by rw[h,aH];simp
 obtain⟨hc,hd⟩:=bE h'
 have hl:(t.flatMap bP).length<s.length+1:=by
  have:=congrArg List.length h'
  rw[List.length_drop,List.length_cons,List.length_append] at this
  omega
 have hq:(aH t).length=(t.flatMap bP).length+2:=by simp[aH]
 have e:In ⟨s,i,{ pos:=i },0,0⟩ i=⟨s,i+(aH t).length,{ kind:=3,pos:=i,bytes:=t },0,0⟩:=by
  unfold In
  simp only
  rw[hd,iR t r _ _ _ hl,yR]
  simp only[List.nil_append]
  rw[if_neg (by rw[hv];simp)]
  rw[hq,show i+1+(t.flatMap bP).length+1=i+((t.flatMap bP).length+2) by omega]
 rw[HZ hc (by decide)]
 unfold zO
 rw[if_pos (show (34:UInt8).toNat=34 from rfl),e,kr,if_pos rfl]
 simp only
 rw[eJ h]
theorem vk {n:Nat}(h:n<16):Bw (hxB n)=some n:=by
 have key:∀ k:Fin 16,Bw (hxB k.val)=some k.val:=by decide +kernel
 exact key ⟨n,h⟩
theorem oL:∀ (t r:List UInt8) (i:Nat) (o:List UInt8),rH (t.flatMap hx2++34::r) i none o = .done (o++t) (i+(t.flatMap hx2).length+1)
 | [],r,i,o=>by rw[List.flatMap_nil,List.nil_append,DL rfl,List.append_nil];rfl
 | c::t,r,i,o=>by
   have ih:=oL t r
   have hcl:=c.toNat_lt
   rw[List.flatMap_cons,List.append_assoc,List.length_append]
   generalize t.flatMap hx2=M at *
   unfold hx2
   rw[List.cons_append,List.cons_append,List.nil_append,Gi (vk (by omega)),Gh (vk (by omega)),ih,
    show UInt8.ofNat (16*(c.toNat / 16)+c.toNat % 16)=c by
     rw[show 16*(c.toNat / 16)+c.toNat % 16=c.toNat by omega];simp,List.append_assoc]
   simp only[List.length_cons,List.length_nil,List.singleton_append]
   congr 1;omega
theorem JL {s r t:List UInt8}{i:Nat}(h:s.drop i=ja t++r):A s i=⟨s,i+(ja t).length,{ kind:=4,pos:=i,text:=ja t,bytes:=t },0,0⟩:=by
 have h':s.drop i=120::34::(t.flatMap hx2++34::r):=by rw[h,ja];simp
 obtain⟨hc,hd⟩:=bE h'
 obtain⟨hc2,hd2⟩:=bE hd
 have hq:(ja t).length=(t.flatMap hx2).length+3:=by simp[ja]
 have e:IU ⟨s,i,{ pos:=i },0,0⟩ i=⟨s,i+(ja t).length,{ kind:=4,pos:=i,bytes:=t },0,0⟩:=by
  unfold IU
  simp only
  rw[show i+2=i+1+1 from rfl,hd2,oL t r,yR]
  simp only[List.nil_append]
  rw[if_neg (fun q=>by cases q.1)]
  rw[hq,show i+1+1+(t.flatMap hx2).length+1=i+((t.flatMap hx2).length+3) by omega]
 rw[HZ hc (by decide)]
 unfold zO
 rw[if_neg (by decide),if_pos ⟨rfl,hc2⟩,e,kr,if_pos rfl]
 simp only
 rw[eJ h]
end Go.Proofs.YtamoeblcphjbaaaGreatDoor

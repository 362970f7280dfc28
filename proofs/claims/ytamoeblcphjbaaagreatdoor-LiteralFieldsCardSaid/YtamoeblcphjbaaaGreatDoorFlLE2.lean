/- A part of the proof for LiteralFieldsCardSaid. -/
import Derived.Test.YtamoeblcphjbaaaGreatDoorFlLP7
import Derived.Test.YtamoeblcphjbaaaGreatDoorFlL2
set_option maxRecDepth 100000
set_option linter.unusedVariables false
set_option linter.unusedSimpArgs false
namespace Go.Proofs.YtamoeblcphjbaaaGreatDoor
open Go Go.Ab
def A (s:List UInt8)(i:Nat):Rd:=bt ⟨s,i,{},0,0⟩
theorem RE {R:Rd}(he:R.e=0)(ho:R.off=0):bt R=A R.s R.next:=by
 obtain⟨s,n,w,e,o⟩:=R
 simp only at he ho
 subst he;subst ho
 rfl
theorem PY {s:List UInt8}{i:Nat}(h:s.length≤i):A s i=⟨s,i,{ pos:=i },0,0⟩:=by
 have e:bC aZ s i=i:=yZ h
 have:=C0 (R:=⟨s,i,{},0,0⟩) rfl (by simp only;rw[e];exact h)
 rw[A,this]
 simp only[e]
theorem PZ {s:List UInt8}{i:Nat}{c:UInt8}(hc:s[i]? = some c)(hb:aZ c=false):A s i=eq (eh ⟨s,i,{ pos:=i },0,0⟩ i c) i:=by
 have e:bC aZ s i=i:=by rw[sV hc,if_neg (by rw[hb];decide)]
 have:=CZ (R:=⟨s,i,{},0,0⟩) (c:=c) rfl (by simp only;rw[e];exact hc)
 rw[A,this]
 simp only[e]
theorem Du {s:List UInt8}{i:Nat}{c:UInt8}(hc:s[i]? = some c)(hb:aZ c=true):A s i=A s (i+1):=by
 have e:bC aZ s i=bC aZ s (i+1):=by rw[sV hc,if_pos hb]
 unfold A bt
 simp only[e]
 rw[if_pos trivial,if_pos trivial]
theorem bR {s r:List UInt8}{i:Nat}{c:UInt8}(h:s.drop i=c::r):s[i]? = some c∧s.drop (i+1)=r:=by
 refine⟨?_,?_⟩
 ·have:=congrArg (fun l=>l[0]?) h
  simpa using this
 ·have:=congrArg (fun l=>l.drop 1) h
  simpa[List.drop_drop] using this
theorem bh {s a b:List UInt8}{i:Nat}(h:s.drop i=a++b):s.drop (i+a.length)=b:=by
 have:=congrArg (fun l=>l.drop a.length) h
 simpa[List.drop_drop] using this
theorem gm {s a b:List UInt8}{i:Nat}(h:s.drop i=a++b):(s.take (i+a.length)).drop i=a:=by
 rw[List.drop_take,h,show i+a.length - i=a.length by omega]
 simp
theorem Kx (c:UInt8)(h:c.toNat<32∨c.toNat=127):lB 0 (nQ c)=some c.toNat∧(nQ c).length≤2∧1≤(nQ c).length∧fa c.toNat=some [c]∧∀ b∈nQ c,b≠125:=by
 have key:∀ c:UInt8,(c.toNat<32∨c.toNat=127)→lB 0 (nQ c)=some c.toNat∧(nQ c).length≤2∧1≤(nQ c).length∧fa c.toNat=some [c]∧(nQ c).all (fun b=>!decide (b=125))=true:=eP (by decide +kernel)
 obtain⟨h1,h2,h3,h4,h5⟩:=key c h
 refine⟨h1,h2,h3,h4,fun b hb=>?_⟩
 have:=List.all_eq_true.1 h5 b hb
 simpa using this
theorem uz:∀ (a r:List UInt8),(∀ b∈a,b≠125)→iG 125 (a++125::r)=some (a,r)
 | [],r,_=>by rw[List.nil_append,iG,if_pos rfl]
 | c::a,r,h=>by
   rw[List.cons_append,iG,if_neg (h c (by simp)),uz a r fun b hb=>h b (List.mem_cons_of_mem _ hb)];rfl
theorem ml:qn 34=some 34∧qn 92=some 92∧qn 110=some 10∧qn 114=some 13∧qn 116=some 9∧qn 117=none:=by decide
theorem lM:∀ (t r:List UInt8) (f i:Nat) (o:List UInt8),(t.flatMap cP).length<f→jm f (t.flatMap cP++34::r) i o = .done (o++t) (i+(t.flatMap cP).length+1)
 | [],r,f,i,o,hf=>by
   obtain⟨f,rfl⟩:∃ g,f=g+1:=⟨f - 1,by simp at hf;omega⟩
   rw[List.flatMap_nil,List.nil_append,g9 rfl,List.append_nil];rfl
 | c::t,r,f,i,o,hf=>by
   have ih:=lM t r
   rw[List.flatMap_cons,List.length_append] at hf
   rw[List.flatMap_cons,List.append_assoc,List.length_append]
   generalize t.flatMap cP=M at *
   obtain⟨f,rfl⟩:∃ g,f=g+1:=⟨f - 1,by omega⟩
   have one:∀ (b d:UInt8),qn b=some d→cP c=[92,b]→c=d→jm (f+1) (cP c++(M++34::r)) i o = .done (o++c::t) (i+((cP c).length+M.length)+1):=by
    intro b d hk he hcd
    rw[he] at hf ⊢
    simp only[List.length_cons,List.length_nil] at hf
    rw[List.cons_append,List.cons_append,List.nil_append,eu rfl (by simp),B4 hk,if_pos rfl]
    simp only[List.drop_succ_cons,List.drop_zero]
    rw[ih f _ _ (by omega),← hcd,List.append_assoc]
    simp only[List.length_cons,List.length_nil,List.singleton_append]
    congr 1;omega
   by_cases h1:c.toNat=34∨c.toNat=92
   ·rcases h1 with h | h
    ·have hc:c=34:=UInt8.toNat_inj.1 (by simpa using h)
     exact one c 34 (by rw[hc];exact ml.1) (GD (.inl h)) hc
    ·have hc:c=92:=UInt8.toNat_inj.1 (by simpa using h)
     exact one c 92 (by rw[hc];exact ml.2.1) (GD (.inr h)) hc
   by_cases h2:c.toNat=10
   ·exact one 110 10 ml.2.2.1 (KB h2) (UInt8.toNat_inj.1 (by simpa using h2))
   by_cases h3:c.toNat=13
   ·exact one 114 13 ml.2.2.2.1 (KA h3) (UInt8.toNat_inj.1 (by simpa using h3))
   by_cases h4:c.toNat=9
   ·exact one 116 9 ml.2.2.2.2.1 (Kz h4) (UInt8.toNat_inj.1 (by simpa using h4))
   by_cases h5:c.toNat<32∨c.toNat=127
   ·obtain⟨g1,g2,g3,g4,g5⟩:=Kx c h5
    rw[Ky h5 h2 h3 h4] at hf ⊢
    generalize nQ c=X at *
    simp only[List.length_cons,List.length_append,List.length_nil] at hf
    have hU:(117::123::(X++[125]++(M++34::r))).drop 2=X++125::(M++34::r):=by simp
    have hS:iC (117::123::(X++[125]++(M++34::r)))=(([c],X.length+3),0):=by
     rw[B3 ml.2.2.2.2.2,if_pos (by simp[fK]),hU,B2 (uz X _ g5) (by omega),g1]
     simp only[HY,g4]
    rw[List.cons_append,List.cons_append,List.cons_append,eu rfl (by simp),hS,if_pos rfl]
    have hd:(117::123::(X++[125]++(M++34::r))).drop (X.length+3)=M++34::r:=by
     rw[show X.length+3=(X.length+1)+1+1 by omega,List.drop_succ_cons,List.drop_succ_cons]
     have:X.length+1=(X++[125]).length:=by simp
     rw[this,List.drop_left]
    simp only
    rw[hd,ih f _ _ (by omega),List.append_assoc]
    simp only[List.length_cons,List.length_append,List.length_nil,List.singleton_append]
    congr 1;omega
   ·rw[GC h5 h1] at hf ⊢
    simp only[List.length_singleton] at hf
    rw[List.singleton_append,da (by omega) h5 (by omega),ih f _ _ (by omega),List.append_assoc]
    simp only[List.length_singleton,List.singleton_append]
    congr 1;omega
theorem PW {s r t:List UInt8}{i:Nat}(h:s.drop i=aQ t++r)(hv:Lib.validD t=true):A s i=⟨s,i+(aQ t).length,{ kind:=3,pos:=i,text:=aQ t,bytes:=t },0,0⟩:=by
 have h':s.drop i=34::(t.flatMap cP++34::r):=by rw[h,aQ];simp
 obtain⟨hc,hd⟩:=bR h'
 have hl:(t.flatMap cP).length<s.length+1:=by
  have:=congrArg List.length h'
  rw[List.length_drop,List.length_cons,List.length_append] at this
  omega
 have hq:(aQ t).length=(t.flatMap cP).length+2:=by simp[aQ]
 have e:sO ⟨s,i,{ pos:=i },0,0⟩ i=⟨s,i+(aQ t).length,{ kind:=3,pos:=i,bytes:=t },0,0⟩:=by
  unfold sO
  simp only
  rw[hd,lM t r _ _ _ hl,bq]
  simp only[List.nil_append]
  rw[if_neg (by rw[hv];simp)]
  rw[hq,show i+1+(t.flatMap cP).length+1=i+((t.flatMap cP).length+2) by omega]
 rw[PZ hc (by decide)]
 unfold eh
 rw[if_pos (show (34:UInt8).toNat=34 from rfl),e,eq,if_pos rfl]
 simp only
 rw[gm h]
theorem Bv {n:Nat}(h:n<16):pu (hxB n)=some n:=by
 have key:∀ k:Fin 16,pu (hxB k.val)=some k.val:=by decide +kernel
 exact key ⟨n,h⟩
theorem tX:∀ (t r:List UInt8) (i:Nat) (o:List UInt8),jx (t.flatMap hx2++34::r) i none o = .done (o++t) (i+(t.flatMap hx2).length+1)
 | [],r,i,o=>by rw[List.flatMap_nil,List.nil_append,rN rfl,List.append_nil];rfl
 | c::t,r,i,o=>by
   have ih:=tX t r
   have hcl:=c.toNat_lt
   rw[List.flatMap_cons,List.append_assoc,List.length_append]
   generalize t.flatMap hx2=M at *
   unfold hx2
   rw[List.cons_append,List.cons_append,List.nil_append,Bx (Bv (by omega)),Bw (Bv (by omega)),ih,
    show UInt8.ofNat (16*(c.toNat / 16)+c.toNat % 16)=c by
     rw[show 16*(c.toNat / 16)+c.toNat % 16=c.toNat by omega];simp,List.append_assoc]
   simp only[List.length_cons,List.length_nil,List.singleton_append]
   congr 1;omega
theorem Sm {s r t:List UInt8}{i:Nat}(h:s.drop i=ma t++r):A s i=⟨s,i+(ma t).length,{ kind:=4,pos:=i,text:=ma t,bytes:=t },0,0⟩:=by
 have h':s.drop i=120::34::(t.flatMap hx2++34::r):=by rw[h,ma];simp
 obtain⟨hc,hd⟩:=bR h'
 obtain⟨hc2,hd2⟩:=bR hd
 have hq:(ma t).length=(t.flatMap hx2).length+3:=by simp[ma]
 have e:tW ⟨s,i,{ pos:=i },0,0⟩ i=⟨s,i+(ma t).length,{ kind:=4,pos:=i,bytes:=t },0,0⟩:=by
  unfold tW
  simp only
  rw[show i+2=i+1+1 from rfl,hd2,tX t r,bq]
  simp only[List.nil_append]
  rw[if_neg (fun q=>by cases q.1)]
  rw[hq,show i+1+1+(t.flatMap hx2).length+1=i+((t.flatMap hx2).length+3) by omega]
 rw[PZ hc (by decide)]
 unfold eh
 rw[if_neg (by decide),if_pos ⟨rfl,hc2⟩,e,eq,if_pos rfl]
 simp only
 rw[gm h]
end Go.Proofs.YtamoeblcphjbaaaGreatDoor

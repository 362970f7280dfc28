/- A part of the proof for LiteralAgainCardSaid. -/
import Derived.Test.YtamoeblcphjbaaaGreatDoorAgLP7
import Derived.Test.YtamoeblcphjbaaaGreatDoorAgL2
set_option maxRecDepth 100000
set_option linter.unusedVariables false
set_option linter.unusedSimpArgs false
namespace Go.Proofs.YtamoeblcphjbaaaGreatDoor
open Go Go.Ab
def A (s:List UInt8)(i:Nat):Rd:=bm ⟨s,i,{},0,0⟩
theorem QJ {R:Rd}(he:R.e=0)(ho:R.off=0):bm R=A R.s R.next:=by
 obtain⟨s,n,w,e,o⟩:=R
 simp only at he ho
 subst he;subst ho
 rfl
theorem O4 {s:List UInt8}{i:Nat}(h:s.length≤i):A s i=⟨s,i,{ pos:=i },0,0⟩:=by
 have e:bx aR s i=i:=yu h
 have:=wT (R:=⟨s,i,{},0,0⟩) rfl (by simp only;rw[e];exact h)
 rw[A,this]
 simp only[e]
theorem O5 {s:List UInt8}{i:Nat}{c:UInt8}(hc:s[i]? = some c)(hb:aR c=false):A s i=eB (dC ⟨s,i,{ pos:=i },0,0⟩ i c) i:=by
 have e:bx aR s i=i:=by rw[sF hc,if_neg (by rw[hb];decide)]
 have:=wR (R:=⟨s,i,{},0,0⟩) (c:=c) rfl (by simp only;rw[e];exact hc)
 rw[A,this]
 simp only[e]
theorem CO {s:List UInt8}{i:Nat}{c:UInt8}(hc:s[i]? = some c)(hb:aR c=true):A s i=A s (i+1):=by
 have e:bx aR s i=bx aR s (i+1):=by rw[sF hc,if_pos hb]
 unfold A bm
 simp only[e]
 rw[if_pos trivial,if_pos trivial]
theorem cy {s r:List UInt8}{i:Nat}{c:UInt8}(h:s.drop i=c::r):s[i]? = some c∧s.drop (i+1)=r:=by
 refine⟨?_,?_⟩
 ·have:=congrArg (fun l=>l[0]?) h
  simpa using this
 ·have:=congrArg (fun l=>l.drop 1) h
  simpa[List.drop_drop] using this
theorem bK {s a b:List UInt8}{i:Nat}(h:s.drop i=a++b):s.drop (i+a.length)=b:=by
 have:=congrArg (fun l=>l.drop a.length) h
 simpa[List.drop_drop] using this
theorem gy {s a b:List UInt8}{i:Nat}(h:s.drop i=a++b):(s.take (i+a.length)).drop i=a:=by
 rw[List.drop_take,h,show i+a.length - i=a.length by omega]
 simp
theorem JR (c:UInt8)(h:c.toNat<32∨c.toNat=127):lD 0 (nM c)=some c.toNat∧(nM c).length≤2∧1≤(nM c).length∧fi c.toNat=some [c]∧∀ b∈nM c,b≠125:=by
 have key:∀ c:UInt8,(c.toNat<32∨c.toNat=127)→lD 0 (nM c)=some c.toNat∧(nM c).length≤2∧1≤(nM c).length∧fi c.toNat=some [c]∧(nM c).all (fun b=>!decide (b=125))=true:=eT (by decide +kernel)
 obtain⟨h1,h2,h3,h4,h5⟩:=key c h
 refine⟨h1,h2,h3,h4,fun b hb=>?_⟩
 have:=List.all_eq_true.1 h5 b hb
 simpa using this
theorem tT:∀ (a r:List UInt8),(∀ b∈a,b≠125)→iP 125 (a++125::r)=some (a,r)
 | [],r,_=>by rw[List.nil_append,iP,if_pos rfl]
 | c::a,r,h=>by
   rw[List.cons_append,iP,if_neg (h c (by simp)),tT a r fun b hb=>h b (List.mem_cons_of_mem _ hb)];rfl
theorem mh:p8 34=some 34∧p8 92=some 92∧p8 110=some 10∧p8 114=some 13∧p8 116=some 9∧p8 117=none:=by decide
theorem lN:∀ (t r:List UInt8) (f i:Nat) (o:List UInt8),(t.flatMap c7).length<f→ji f (t.flatMap c7++34::r) i o = .done (o++t) (i+(t.flatMap c7).length+1)
 | [],r,f,i,o,hf=>by
   obtain⟨f,rfl⟩:∃ g,f=g+1:=⟨f - 1,by simp at hf;omega⟩
   rw[List.flatMap_nil,List.nil_append,fX rfl,List.append_nil];rfl
 | c::t,r,f,i,o,hf=>by
   have ih:=lN t r
   rw[List.flatMap_cons,List.length_append] at hf
   rw[List.flatMap_cons,List.append_assoc,List.length_append]
   generalize t.flatMap c7=M at *
   obtain⟨f,rfl⟩:∃ g,f=g+1:=⟨f - 1,by omega⟩
   have one:∀ (b d:UInt8),p8 b=some d→c7 c=[92,b]→c=d→ji (f+1) (c7 c++(M++34::r)) i o = .done (o++c::t) (i+((c7 c).length+M.length)+1):=by
    intro b d hk he hcd
    rw[he] at hf ⊢
    simp only[List.length_cons,List.length_nil] at hf
    rw[List.cons_append,List.cons_append,List.nil_append,dF rfl (by simp),Bu hk,if_pos rfl]
    simp only[List.drop_succ_cons,List.drop_zero]
    rw[ih f _ _ (by omega),← hcd,List.append_assoc]
    simp only[List.length_cons,List.length_nil,List.singleton_append]
    congr 1;omega
   by_cases h1:c.toNat=34∨c.toNat=92
   ·rcases h1 with h | h
    ·have hc:c=34:=UInt8.toNat_inj.1 (by simpa using h)
     exact one c 34 (by rw[hc];exact mh.1) (FY (.inl h)) hc
    ·have hc:c=92:=UInt8.toNat_inj.1 (by simpa using h)
     exact one c 92 (by rw[hc];exact mh.2.1) (FY (.inr h)) hc
   by_cases h2:c.toNat=10
   ·exact one 110 10 mh.2.2.1 (JV h2) (UInt8.toNat_inj.1 (by simpa using h2))
   by_cases h3:c.toNat=13
   ·exact one 114 13 mh.2.2.2.1 (JU h3) (UInt8.toNat_inj.1 (by simpa using h3))
   by_cases h4:c.toNat=9
   ·exact one 116 9 mh.2.2.2.2.1 (JT h4) (UInt8.toNat_inj.1 (by simpa using h4))
   by_cases h5:c.toNat<32∨c.toNat=127
   ·obtain⟨g1,g2,g3,g4,g5⟩:=JR c h5
    rw[JS h5 h2 h3 h4] at hf ⊢
    generalize nM c=X at *
    simp only[List.length_cons,List.length_append,List.length_nil] at hf
    have hU:(117::123::(X++[125]++(M++34::r))).drop 2=X++125::(M++34::r):=by simp
    have hS:gl (117::123::(X++[125]++(M++34::r)))=(([c],X.length+3),0):=by
     rw[Bt mh.2.2.2.2.2,if_pos (by simp[fO]),hU,Br (tT X _ g5) (by omega),g1]
     simp only[Hj,g4]
    rw[List.cons_append,List.cons_append,List.cons_append,dF rfl (by simp),hS,if_pos rfl]
    have hd:(117::123::(X++[125]++(M++34::r))).drop (X.length+3)=M++34::r:=by
     rw[show X.length+3=(X.length+1)+1+1 by omega,List.drop_succ_cons,List.drop_succ_cons]
     have:X.length+1=(X++[125]).length:=by simp
     rw[this,List.drop_left]
    simp only
    rw[hd,ih f _ _ (by omega),List.append_assoc]
    simp only[List.length_cons,List.length_append,List.length_nil,List.singleton_append]
    congr 1;omega
   ·rw[FX h5 h1] at hf ⊢
    simp only[List.length_singleton] at hf
    rw[List.singleton_append,cH (by omega) h5 (by omega),ih f _ _ (by omega),List.append_assoc]
    simp only[List.length_singleton,List.singleton_append]
    congr 1;omega
theorem O0 {s r t:List UInt8}{i:Nat}(h:s.drop i=aL t++r)(hv:Lib.validD t=true):A s i=⟨s,i+(aL t).length,{ kind:=3,pos:=i,text:=aL t,bytes:=t },0,0⟩:=by
 have h':s.drop i=34::(t.flatMap c7++34::r):=by rw[h,aL];simp
 obtain⟨hc,hd⟩:=cy h'
 have hl:(t.flatMap c7).length<s.length+1:=by
  have:=congrArg List.length h'
  rw[List.length_drop,List.length_cons,List.length_append] at this
  omega
 have hq:(aL t).length=(t.flatMap c7).length+2:=by simp[aL]
 have e:sA ⟨s,i,{ pos:=i },0,0⟩ i=⟨s,i+(aL t).length,{ kind:=3,pos:=i,bytes:=t },0,0⟩:=by
  unfold sA
  simp only
  rw[hd,lN t r _ _ _ hl,bp]
  simp only[List.nil_append]
  rw[if_neg (by rw[hv];simp)]
  rw[hq,show i+1+(t.flatMap c7).length+1=i+((t.flatMap c7).length+2) by omega]
 rw[O5 hc (by decide)]
 unfold dC
 rw[if_pos (show (34:UInt8).toNat=34 from rfl),e,eB,if_pos rfl]
 simp only
 rw[gy h]
theorem AY {n:Nat}(h:n<16):pm (hxB n)=some n:=by
 have key:∀ k:Fin 16,pm (hxB k.val)=some k.val:=by decide +kernel
 exact key ⟨n,h⟩
theorem tC:∀ (t r:List UInt8) (i:Nat) (o:List UInt8),i7 (t.flatMap hx2++34::r) i none o = .done (o++t) (i+(t.flatMap hx2).length+1)
 | [],r,i,o=>by rw[List.flatMap_nil,List.nil_append,rF rfl,List.append_nil];rfl
 | c::t,r,i,o=>by
   have ih:=tC t r
   have hcl:=c.toNat_lt
   rw[List.flatMap_cons,List.append_assoc,List.length_append]
   generalize t.flatMap hx2=M at *
   unfold hx2
   rw[List.cons_append,List.cons_append,List.nil_append,A0 (AY (by omega)),AZ (AY (by omega)),ih,
    show UInt8.ofNat (16*(c.toNat / 16)+c.toNat % 16)=c by
     rw[show 16*(c.toNat / 16)+c.toNat % 16=c.toNat by omega];simp,List.append_assoc]
   simp only[List.length_cons,List.length_nil,List.singleton_append]
   congr 1;omega
theorem Ro {s r t:List UInt8}{i:Nat}(h:s.drop i=lC t++r):A s i=⟨s,i+(lC t).length,{ kind:=4,pos:=i,text:=lC t,bytes:=t },0,0⟩:=by
 have h':s.drop i=120::34::(t.flatMap hx2++34::r):=by rw[h,lC];simp
 obtain⟨hc,hd⟩:=cy h'
 obtain⟨hc2,hd2⟩:=cy hd
 have hq:(lC t).length=(t.flatMap hx2).length+3:=by simp[lC]
 have e:tA ⟨s,i,{ pos:=i },0,0⟩ i=⟨s,i+(lC t).length,{ kind:=4,pos:=i,bytes:=t },0,0⟩:=by
  unfold tA
  simp only
  rw[show i+2=i+1+1 from rfl,hd2,tC t r,bp]
  simp only[List.nil_append]
  rw[if_neg (fun q=>by cases q.1)]
  rw[hq,show i+1+1+(t.flatMap hx2).length+1=i+((t.flatMap hx2).length+3) by omega]
 rw[O5 hc (by decide)]
 unfold dC
 rw[if_neg (by decide),if_pos ⟨rfl,hc2⟩,e,eB,if_pos rfl]
 simp only
 rw[gy h]
end Go.Proofs.YtamoeblcphjbaaaGreatDoor

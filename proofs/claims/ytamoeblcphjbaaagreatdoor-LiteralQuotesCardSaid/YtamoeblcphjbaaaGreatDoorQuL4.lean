/- A part of the proof for LiteralQuotesCardSaid. -/
import Derived.Test.YtamoeblcphjbaaaGreatDoorQuL2
import Derived.Test.YtamoeblcphjbaaaGreatDoorQuLP7
set_option maxRecDepth 100000
set_option linter.unusedVariables false
set_option linter.unusedSimpArgs false
-- many steps
namespace Go.Proofs.YtamoeblcphjbaaaGreatDoor
open Go Go.Ab
attribute [local irreducible] vc
def hdQ (s:List UInt8):Nat×List UInt8→St
 | (i,[])=>⟨[(0,.pv (.str s)),(3,.ptr 0 0),(6,.pv (.int .i64 (s.length:Int))),(7,.pv (.int .i64 (i:Int)))],[(0,.cells 83 true [.pv .nilp,.pv .nils])],1⟩
 | (i,b::r)=>⟨[(0,.pv (.str s)),(3,.ptr 0 0),(6,.pv (.int .i64 (s.length:Int))),(7,.pv (.int .i64 (i:Int)))],[(0,.cells 83 true [.ptr 0 0,.row 1 1 0 (r.length+1)]),(1,.cells 5 false ((az (b::r)).map .pv))],2⟩
def exQ:List UInt8→St
 | []=>⟨[(3,.ptr 0 0)],[(0,.cells 83 true [.pv .nilp,.pv .nils])],1⟩
 | b::r=>⟨[(3,.ptr 0 0)],[(0,.cells 83 true [.ptr 0 0,.row 1 1 0 (r.length+1)]),(1,.cells 5 false ((az (b::r)).map .pv))],2⟩
theorem zx {n:Nat}(h:n<16):(Cl.take (n+1)).drop n=[hxB n]:=by
 have h1:=Ai h
 have hl:n<(Cl.take (n+1)).length:=by rw[List.length_take];simp[Cl];omega
 rw[List.drop_eq_getElem_cons hl,List.drop_eq_nil_of_le (by rw[List.length_take];omega)]
 have:(Cl.take (n+1))[n]? = some (hxB n):=by rw[List.getElem?_take,if_pos (by omega)];exact h1
 rw[List.getElem?_eq_getElem hl] at this
 rw[Option.some.inj this]
set_option maxHeartbeats 4000000 in
theorem DW (s:List UInt8)(hs:s.length≤100000):aw Tryz.prog aF 22 [.str s] (.str (lp s)):=by
 refine aw.intro N3 (by simp[F22]) ?_
 simp(maxSteps:=9^7) (disch:=first|exact dI|fail) only[F22,push_cast,seval]
 refine Cy (hdQ s) (fun y=>y.1≤s.length∧y.2=(s.take y.1).flatMap hx2) (fun y=>s.length - y.1) (0,[]) [3] exQ (fun y=>y=s.flatMap hx2) ?_ ?_ ?_ ?_
 ·exact bM (by simp(maxSteps:=9^7) (disch:=first|exact dI|fail) only[hdQ,push_cast,seval])
 ·exact⟨by simp,by simp⟩
 ·rintro⟨i,M⟩ ⟨hi,hM⟩
  simp only at hi hM
  have hl:M.length≤200000:=by
   rw[hM,eu,List.length_take];omega
  by_cases hlt:i<s.length
  ·obtain⟨c,hc⟩:∃ c,s[i]? = some c:=⟨_,List.getElem?_eq_getElem hlt⟩
   have hltI:(i:Int)<(s.length:Int):=by omega
   have hB:=fL hc hx2
   rw[← hM] at hB
   obtain⟨q,hqN⟩:∃ q,q=c.toNat / 16:=⟨_,rfl⟩
   obtain⟨m,hmN⟩:∃ m,m=c.toNat % 16:=⟨_,rfl⟩
   have hcl:=c.toNat_lt
   have hq16:q<16:=by omega
   have hm16:m<16:=by omega
   have hq:((c.toNat:Int) / 16)=(q:Int):=by omega
   have hm:((c.toNat:Int) % 16)=(m:Int):=by omega
   have hxq:=zx hq16
   have hxm:=zx hm16
   simp only[Cl,List.take_succ_cons] at hxq hxm
   unfold hx2 at hB
   rw[← hqN,← hmN] at hB
   cases M with
   | nil=>
     have k1:=mc false [] ([hxB q]++[hxB m]) (by simp) (by simp)
     simp only[bB,aB,List.nil_append,List.cons_append] at k1
     rw[List.nil_append] at hB
     simp(maxSteps:=9^7) (disch:=first|exact dI|fail) only[hdQ,hltI,hc,hq,hm,hxq,hxm,List.cons_append,List.nil_append,push_cast,seval]
     refine ab.lentK k1 [0] rfl (by simp(maxSteps:=9^7) (disch:=first|exact dI|fail) only[push_cast,seval]) (by simp(maxSteps:=9^7) (disch:=first|exact dI|fail) only[push_cast,seval]) ?_
     simp(maxSteps:=9^7) (disch:=first|exact dI|fail) only[push_cast,seval]
     exact⟨(i+1,[hxB q,hxB m]),bM (by simp(maxSteps:=9^7) (disch:=first|exact dI|fail) only[hdQ,push_cast,seval]),⟨by simp only;omega,hB.symm⟩,by simp only;omega⟩
   | cons b r=>
     have k1:=mc true (b::r) ([hxB q]++[hxB m]) (by simp at hl ⊢;omega) (by simp)
     rw[show (b::r)++([hxB q]++[hxB m])=b::(r++[hxB q,hxB m]) by simp] at k1
     simp only[bB,aB,List.nil_append,List.cons_append] at k1
     rw[List.cons_append] at hB
     simp(maxSteps:=9^7) (disch:=first|exact dI|fail) only[hdQ,hltI,hc,hq,hm,hxq,hxm,List.cons_append,List.nil_append,push_cast,seval]
     refine ab.lentK k1 [0,1] rfl (by simp(maxSteps:=9^7) (disch:=first|exact dI|fail) only[push_cast,seval]) (by simp(maxSteps:=9^7) (disch:=first|exact dI|fail) only[push_cast,seval]) ?_
     simp(maxSteps:=9^7) (disch:=first|exact dI|fail) only[push_cast,seval]
     exact⟨(i+1,b::(r++[hxB q,hxB m])),bM (by simp(maxSteps:=9^7) (disch:=first|exact dI|fail) only[hdQ,push_cast,seval]),⟨by simp only;omega,hB.symm⟩,by simp only;omega⟩
  ·have hltI:¬ (i:Int)<(s.length:Int):=by omega
   obtain rfl:i=s.length:=by omega
   rw[List.take_length] at hM
   cases M with
   | nil=>
     simp(maxSteps:=9^7) (disch:=first|exact dI|fail) only[hdQ,hltI,push_cast,seval]
     exact⟨[],bM (by simp(maxSteps:=9^7) (disch:=first|exact dI|fail) only[exQ,push_cast,seval]),hM⟩
   | cons b r=>
     simp(maxSteps:=9^7) (disch:=first|exact dI|fail) only[hdQ,hltI,push_cast,seval]
     exact⟨b::r,bM (by simp(maxSteps:=9^7) (disch:=first|exact dI|fail) only[exQ,push_cast,seval]),hM⟩
 ·rintro y hy
  have hl:y.length≤200000:=by rw[hy,eu];omega
  have hh:lp s=120::34::(y++[34]):=by rw[hy];rfl
  rw[hh]
  cases y with
  | nil=>
    have k:=iC false [] (by simp)
    simp only[bB,aB] at k
    simp(maxSteps:=9^7) (disch:=first|exact dI|fail) only[exQ,push_cast,seval]
    refine ab.lentK k [0] rfl (by simp(maxSteps:=9^7) (disch:=first|exact dI|fail) only[push_cast,seval]) (by simp(maxSteps:=9^7) (disch:=first|exact dI|fail) only[push_cast,seval]) ?_
    simp(maxSteps:=9^7) (disch:=first|exact dI|fail) only[push_cast,seval]
  | cons b r=>
    have k:=iC true (b::r) (by omega)
    rw[gA] at k
    have hl2:r.length≤200000:=by simp at hl;omega
    simp(maxSteps:=9^7) (disch:=first|exact dI|fail) only[exQ,push_cast,seval]
    refine ab.lentK k [0,1] rfl (by simp(maxSteps:=9^7) (disch:=first|exact dI|fail) only[push_cast,seval]) (by simp(maxSteps:=9^7) (disch:=first|exact dI|fail) only[push_cast,seval]) ?_
    simp(maxSteps:=9^7) (disch:=first|exact dI|fail) only[push_cast,seval]
end Go.Proofs.YtamoeblcphjbaaaGreatDoor
set_option maxRecDepth 100000
set_option linter.unusedVariables false
set_option linter.unusedSimpArgs false
namespace Go.Proofs.YtamoeblcphjbaaaGreatDoor
open Go Go.Ab
def A (s:List UInt8)(i:Nat):Rd:=bi ⟨s,i,{},0,0⟩
theorem PS {R:Rd}(he:R.e=0)(ho:R.off=0):bi R=A R.s R.next:=by
 obtain⟨s,n,w,e,o⟩:=R
 simp only at he ho
 subst he;subst ho
 rfl
theorem Qw {s:List UInt8}{i:Nat}(h:s.length≤i):A s i=⟨s,i,{ pos:=i },0,0⟩:=by
 have e:bz ba s i=i:=xB h
 have:=BT (R:=⟨s,i,{},0,0⟩) rfl (by simp only;rw[e];exact h)
 rw[A,this]
 simp only[e]
theorem QJ {s:List UInt8}{i:Nat}{c:UInt8}(hc:s[i]? = some c)(hb:ba c=false):A s i=eO (eb ⟨s,i,{ pos:=i },0,0⟩ i c) i:=by
 have e:bz ba s i=i:=by rw[xC hc,if_neg (by rw[hb];decide)]
 have:=BS (R:=⟨s,i,{},0,0⟩) (c:=c) rfl (by simp only;rw[e];exact hc)
 rw[A,this]
 simp only[e]
theorem qA {s r:List UInt8}{i:Nat}{c:UInt8}(h:s.drop i=c::r):s[i]? = some c∧s.drop (i+1)=r:=by
 refine⟨?_,?_⟩
 ·have:=congrArg (fun l=>l[0]?) h
  simpa using this
 ·have:=congrArg (fun l=>l.drop 1) h
  simpa[List.drop_drop] using this
theorem q8 {s a b:List UInt8}{i:Nat}(h:s.drop i=a++b):(s.take (i+a.length)).drop i=a:=by
 rw[List.drop_take,h,show i+a.length - i=a.length by omega]
 simp
theorem Jp (c:UInt8)(h:c.toNat<32∨c.toNat=127):jQ 0 (lX c)=some c.toNat∧(lX c).length≤2∧1≤(lX c).length∧en c.toNat=some [c]∧∀ b∈lX c,b≠125:=by
 have key:∀ c:UInt8,(c.toNat<32∨c.toNat=127)→jQ 0 (lX c)=some c.toNat∧(lX c).length≤2∧1≤(lX c).length∧en c.toNat=some [c]∧(lX c).all (fun b=>!decide (b=125))=true:=jY (by decide +kernel)
 obtain⟨h1,h2,h3,h4,h5⟩:=key c h
 refine⟨h1,h2,h3,h4,fun b hb=>?_⟩
 have:=List.all_eq_true.1 h5 b hb
 simpa using this
theorem sf:∀ (a r:List UInt8),(∀ b∈a,b≠125)→gw 125 (a++125::r)=some (a,r)
 | [],r,_=>by rw[List.nil_append,gw,if_pos rfl]
 | c::a,r,h=>by
   rw[List.cons_append,gw,if_neg (h c (by simp)),sf a r fun b hb=>h b (List.mem_cons_of_mem _ hb)];rfl
theorem kr:ox 34=some 34∧ox 92=some 92∧ox 110=some 10∧ox 114=some 13∧ox 116=some 9∧ox 117=none:=by decide
theorem j2:∀ (t r:List UInt8) (f i:Nat) (o:List UInt8),(t.flatMap cr).length<f→ib f (t.flatMap cr++34::r) i o = .done (o++t) (i+(t.flatMap cr).length+1)
 | [],r,f,i,o,hf=>by
   obtain⟨f,rfl⟩:∃ g,f=g+1:=⟨f - 1,by simp at hf;omega⟩
   rw[List.flatMap_nil,List.nil_append,fZ rfl,List.append_nil];rfl
 | c::t,r,f,i,o,hf=>by
   have ih:=j2 t r
   rw[List.flatMap_cons,List.length_append] at hf
   rw[List.flatMap_cons,List.append_assoc,List.length_append]
   generalize t.flatMap cr=M at *
   obtain⟨f,rfl⟩:∃ g,f=g+1:=⟨f - 1,by omega⟩
   have one:∀ (b d:UInt8),ox b=some d→cr c=[92,b]→c=d→ib (f+1) (cr c++(M++34::r)) i o = .done (o++c::t) (i+((cr c).length+M.length)+1):=by
    intro b d hk he hcd
    rw[he] at hf ⊢
    simp only[List.length_cons,List.length_nil] at hf
    rw[List.cons_append,List.cons_append,List.nil_append,dJ rfl (by simp),AM hk,if_pos rfl]
    simp only[List.drop_succ_cons,List.drop_zero]
    rw[ih f _ _ (by omega),← hcd,List.append_assoc]
    simp only[List.length_cons,List.length_nil,List.singleton_append]
    congr 1;omega
   by_cases h1:c.toNat=34∨c.toNat=92
   ·rcases h1 with h | h
    ·have hc:c=34:=UInt8.toNat_inj.1 (by simpa using h)
     exact one c 34 (by rw[hc];exact kr.1) (Fg (.inl h)) hc
    ·have hc:c=92:=UInt8.toNat_inj.1 (by simpa using h)
     exact one c 92 (by rw[hc];exact kr.2.1) (Fg (.inr h)) hc
   by_cases h2:c.toNat=10
   ·exact one 110 10 kr.2.2.1 (Ju h2) (UInt8.toNat_inj.1 (by simpa using h2))
   by_cases h3:c.toNat=13
   ·exact one 114 13 kr.2.2.2.1 (Jt h3) (UInt8.toNat_inj.1 (by simpa using h3))
   by_cases h4:c.toNat=9
   ·exact one 116 9 kr.2.2.2.2.1 (Js h4) (UInt8.toNat_inj.1 (by simpa using h4))
   by_cases h5:c.toNat<32∨c.toNat=127
   ·obtain⟨g1,g2,g3,g4,g5⟩:=Jp c h5
    rw[Jr h5 h2 h3 h4] at hf ⊢
    generalize lX c=X at *
    simp only[List.length_cons,List.length_append,List.length_nil] at hf
    have hU:(117::123::(X++[125]++(M++34::r))).drop 2=X++125::(M++34::r):=by simp
    have hS:gr (117::123::(X++[125]++(M++34::r)))=(([c],X.length+3),0):=by
     rw[AL kr.2.2.2.2.2,if_pos (by simp[fl]),hU,AK (sf X _ g5) (by omega),g1]
     simp only[GJ,g4]
    rw[List.cons_append,List.cons_append,List.cons_append,dJ rfl (by simp),hS,if_pos rfl]
    have hd:(117::123::(X++[125]++(M++34::r))).drop (X.length+3)=M++34::r:=by
     rw[show X.length+3=(X.length+1)+1+1 by omega,List.drop_succ_cons,List.drop_succ_cons]
     have:X.length+1=(X++[125]).length:=by simp
     rw[this,List.drop_left]
    simp only
    rw[hd,ih f _ _ (by omega),List.append_assoc]
    simp only[List.length_cons,List.length_append,List.length_nil,List.singleton_append]
    congr 1;omega
   ·rw[Jq h5 h1] at hf ⊢
    simp only[List.length_singleton] at hf
    rw[List.singleton_append,cD (by omega) h5 (by omega),ih f _ _ (by omega),List.append_assoc]
    simp only[List.length_singleton,List.singleton_append]
    congr 1;omega
theorem Qu {s r t:List UInt8}{i:Nat}(h:s.drop i=bR t++r)(hv:Lib.validD t=true):A s i=⟨s,i+(bR t).length,{ kind:=3,pos:=i,text:=bR t,bytes:=t },0,0⟩:=by
 have h':s.drop i=34::(t.flatMap cr++34::r):=by rw[h,bR];simp
 obtain⟨hc,hd⟩:=qA h'
 have hl:(t.flatMap cr).length<s.length+1:=by
  have:=congrArg List.length h'
  rw[List.length_drop,List.length_cons,List.length_append] at this
  omega
 have hq:(bR t).length=(t.flatMap cr).length+2:=by simp[bR]
 have e:rg ⟨s,i,{ pos:=i },0,0⟩ i=⟨s,i+(bR t).length,{ kind:=3,pos:=i,bytes:=t },0,0⟩:=by
  unfold rg
  simp only
  rw[hd,j2 t r _ _ _ hl,bd]
  simp only[List.nil_append]
  rw[if_neg (by rw[hv];simp)]
  rw[hq,show i+1+(t.flatMap cr).length+1=i+((t.flatMap cr).length+2) by omega]
 rw[QJ hc (by decide)]
 unfold eb
 rw[if_pos (show (34:UInt8).toNat=34 from rfl),e,eO,if_pos rfl]
 simp only
 rw[q8 h]
theorem Aj {n:Nat}(h:n<16):nH (hxB n)=some n:=by
 have key:∀ k:Fin 16,nH (hxB k.val)=some k.val:=by decide +kernel
 exact key ⟨n,h⟩
theorem rT:∀ (t r:List UInt8) (i:Nat) (o:List UInt8),io (t.flatMap hx2++34::r) i none o = .done (o++t) (i+(t.flatMap hx2).length+1)
 | [],r,i,o=>by rw[List.flatMap_nil,List.nil_append,p9 rfl,List.append_nil];rfl
 | c::t,r,i,o=>by
   have ih:=rT t r
   have hcl:=c.toNat_lt
   rw[List.flatMap_cons,List.append_assoc,List.length_append]
   generalize t.flatMap hx2=M at *
   unfold hx2
   rw[List.cons_append,List.cons_append,List.nil_append,Am (Aj (by omega)),Al (Aj (by omega)),ih,
    show UInt8.ofNat (16*(c.toNat / 16)+c.toNat % 16)=c by
     rw[show 16*(c.toNat / 16)+c.toNat % 16=c.toNat by omega];simp,List.append_assoc]
   simp only[List.length_cons,List.length_nil,List.singleton_append]
   congr 1;omega
theorem Qv {s r t:List UInt8}{i:Nat}(h:s.drop i=lp t++r):A s i=⟨s,i+(lp t).length,{ kind:=4,pos:=i,text:=lp t,bytes:=t },0,0⟩:=by
 have h':s.drop i=120::34::(t.flatMap hx2++34::r):=by rw[h,lp];simp
 obtain⟨hc,hd⟩:=qA h'
 obtain⟨hc2,hd2⟩:=qA hd
 have hq:(lp t).length=(t.flatMap hx2).length+3:=by simp[lp]
 have e:rS ⟨s,i,{ pos:=i },0,0⟩ i=⟨s,i+(lp t).length,{ kind:=4,pos:=i,bytes:=t },0,0⟩:=by
  unfold rS
  simp only
  rw[show i+2=i+1+1 from rfl,hd2,rT t r,bd]
  simp only[List.nil_append]
  rw[if_neg (fun q=>by cases q.1)]
  rw[hq,show i+1+1+(t.flatMap hx2).length+1=i+((t.flatMap hx2).length+3) by omega]
 rw[QJ hc (by decide)]
 unfold eb
 rw[if_neg (by decide),if_pos ⟨rfl,hc2⟩,e,eO,if_pos rfl]
 simp only
 rw[q8 h]
end Go.Proofs.YtamoeblcphjbaaaGreatDoor

/- A part of the proof. -/
import Derived.Test.YtbojpfpliibfbaaGreatDoorEnRE1
set_option maxHeartbeats 16000000
set_option maxRecDepth 100000
set_option linter.unusedVariables false
set_option linter.unusedSimpArgs false
-- many steps
namespace Go.Proofs.YtbojpfpliibfbaaGreatDoor
open Go Go.Ab
attribute [local irreducible] vc
def P6:List UInt8:=[48,49,50,51,52,53,54,55,56,57,97,98,99,100,101,102]
def hxB (n:Nat):UInt8:=P6.getD n 0
theorem LM {n:Nat}(h:n<16):([48,49,50,51,52,53,54,55,56,57,97,98,99,100,101,102]:List UInt8)[n]? = some (hxB n):=by
 have hc:n=0\/n=1\/n=2\/n=3\/n=4\/n=5\/n=6\/n=7\/n=8\/n=9\/n=10\/n=11\/n=12\/n=13\/n=14\/n=15:=by omega
 rcases hc with rfl | rfl | rfl | rfl | rfl | rfl | rfl | rfl | rfl | rfl | rfl | rfl | rfl | rfl | rfl | rfl<;>rfl
theorem LL {n:Nat}(h:n<16):List.drop n ((48:UInt8)::List.take n [49,50,51,52,53,54,55,56,57,97,98,99,100,101,102])=[hxB n]:=by
 have hc:n=0\/n=1\/n=2\/n=3\/n=4\/n=5\/n=6\/n=7\/n=8\/n=9\/n=10\/n=11\/n=12\/n=13\/n=14\/n=15:=by omega
 rcases hc with rfl | rfl | rfl | rfl | rfl | rfl | rfl | rfl | rfl | rfl | rfl | rfl | rfl | rfl | rfl | rfl<;>rfl
def hx2 (c:UInt8):List UInt8:=[hxB (c.toNat / 16),hxB (c.toNat % 16)]
def iR (s:List UInt8):List UInt8:=s.flatMap hx2
theorem jt (s:List UInt8):(iR s).length=2*s.length:=by
 induction s with
 | nil=>simp[iR]
 | cons c r ih=>simp only[iR,List.flatMap_cons,List.length_append,List.length_cons,hx2,List.length_nil] at *;omega
theorem ot {s:List UInt8}{i:Nat}{c:UInt8}(h:s[i]? = some c):iR (s.take (i+1))=iR (s.take i)++hx2 c:=by
 rw[aK h];simp[iR]
theorem BE (a:List UInt8)(c:UInt8):aI (a++hx2 c)=aI a++[.int .u8 ((hxB (c.toNat / 16)).toNat:Int),.int .u8 ((hxB (c.toNat % 16)).toNat:Int)]:=by simp[aI,hx2]
theorem o8 (e:List (Nat×AV))(σ:List (Nat×Blk))(new:Nat)(x:AX):oW e σ new (.ofStr x)=ec new (evE e x):=_root_.id rfl
theorem tO (new:Nat){k:List UInt8}(h:k.length<=140737488355328):ec new (.pv (.str k))=some (.pv (.list (aI k)),[(new,.none)]):=by simp[ec,h]
theorem Fb (s:List UInt8)(hs:s.length<=100000):am Tryz.prog az 98 [.str s] (.str (iR s)):=by
 refine am.intro Q98.2 (by simp[Q98]) ?_
 simp(disch:=try exact dI) only[Q98,push_cast,seval]
 refine au ([]) (fun i:Nat=>[(3,.pv (.str (iR (s.take i)))),(4,.pv (.int .i64 (i:Int)))]) (fun _=>[]) (fun i=>i<=s.length) (fun i=>s.length - i) (0) ?_;intro e0 σ0 n0 h0;simp(disch:=try exact dI) only[push_cast,seval] at h0;obtain⟨rfl,rfl,rfl⟩:=h0;refine⟨?_,?_,?_⟩
 ·simp(disch:=try exact dI) only[List.take_zero,iR,List.flatMap_nil,push_cast,seval]
 ·omega
 rintro i hi
 by_cases hlt:i<s.length
 ·obtain⟨c,hc⟩:∃ c,s[i]? = some c:=⟨_,List.getElem?_eq_getElem hlt⟩
  have hltI:(i:Int)<(s.length:Int):=by omega
  have hsn:=ot hc
  have hl:=jt (s.take i)
  rw[List.length_take] at hl
  have hcl:=c.toNat_lt
  unfold hx2 at hsn
  obtain⟨q,hqN⟩:∃ q,q=c.toNat / 16:=⟨_,rfl⟩
  obtain⟨m,hmN⟩:∃ m,m=c.toNat % 16:=⟨_,rfl⟩
  rw[<- hqN,<- hmN] at hsn
  have hq:((c.toNat:Int) / 16)=(q:Int):=by omega
  have hm:((c.toNat:Int) % 16)=(m:Int):=by omega
  have hxq:=LL (n:=q) (by omega)
  have hxm:=LL (n:=m) (by omega)
  have hq16:q<16:=by omega
  have hm16:m<16:=by omega
  have t1:((q:Int)+1).toNat=q+1:=by omega
  have t2:((m:Int)+1).toNat=m+1:=by omega
  generalize iR (s.take i)=T at *
  simp(disch:=try exact dI) only[hltI,hc,hq,hm,hxq,hxm,t1,t2,Int.toNat_natCast,push_cast,seval]
  exact⟨i+1,aM (by simp(disch:=try exact dI) only[hsn,hxq,hxm,List.append_assoc,List.cons_append,List.nil_append,push_cast,seval]),by omega,by omega⟩
 ·obtain rfl:i=s.length:=by omega
  rw[List.take_length]
  simp(disch:=try exact dI) only[Int.lt_irrefl,push_cast,seval]
theorem CU (k:Int):am Tryz.prog az 101 [.int .i64 k] (.bool (decide (k=2\/k=3))):=by
 refine am.intro Nb.2 (by simp[Nb]) ?_
 by_cases h2:k=2
 ·subst h2
  rw[decide_eq_true (.inl rfl)]
  simp(disch:=try exact dI) only[Nb,push_cast,seval]
 ·by_cases h3:k=3
  ·subst h3
   rw[decide_eq_true (.inr rfl)]
   simp(disch:=try exact dI) only[Nb,push_cast,seval]
  ·rw[decide_eq_false (fun h=>h.elim h2 h3)]
   simp(disch:=try exact dI) only[Nb,h2,h3,push_cast,seval]
theorem Ca (v:Val)(hs:v.text.length<=100000):am Tryz.prog az 86 [v.pv] (.str (iR v.text)):=by
 obtain⟨k,n,sc,s,l,f⟩:=v
 simp only[Val.text] at hs ⊢
 have hof:=fun new=>tO new (k:=s) (by omega)
 have hbl:(aI s).length=s.length:=by simp[aI]
 refine am.intro Q86.2 (by simp[Q86]) ?_
 simp(disch:=try exact dI) only[Q86,Val.pv_mk,o8,hof,hbl,push_cast,seval]
 refine au ([(3,0,5,1)]) (fun i:Nat=>[(3,.olist 0 1 (aI (iR (s.take i)))),(10,.pv (.int .i64 (i:Int)))]) (fun _=>[]) (fun i=>i<=s.length) (fun i=>s.length - i) (0) ?_;intro e0 σ0 n0 h0;simp(disch:=try exact dI) only[push_cast,seval] at h0;obtain⟨rfl,rfl,rfl⟩:=h0;refine⟨?_,?_,?_⟩
 ·simp(disch:=try exact dI) only[List.take_zero,iR,List.flatMap_nil,aI,List.map_nil,push_cast,seval]
 ·omega
 rintro i hi
 by_cases hlt:i<s.length
 ·obtain⟨c,hc⟩:∃ c,s[i]? = some c:=⟨_,List.getElem?_eq_getElem hlt⟩
  have hltI:(i:Int)<(s.length:Int):=by omega
  have hcp:=sQ hc
  have hsn:=ot hc
  have hl:=jt (s.take i)
  rw[List.length_take] at hl
  have hcl:=c.toNat_lt
  have hB:aI (iR (s.take (i+1)))=aI (iR (s.take i))++[.int .u8 ((hxB (c.toNat / 16)).toNat:Int),.int .u8 ((hxB (c.toNat % 16)).toNat:Int)]:=by rw[hsn,BE]
  obtain⟨q,hqN⟩:∃ q,q=c.toNat / 16:=⟨_,rfl⟩
  obtain⟨m,hmN⟩:∃ m,m=c.toNat % 16:=⟨_,rfl⟩
  rw[<- hqN,<- hmN] at hB
  have hq:((c.toNat:Int) / 16)=(q:Int):=by omega
  have hm:((c.toNat:Int) % 16)=(m:Int):=by omega
  have hxq:=LM (n:=q) (by omega)
  have hxm:=LM (n:=m) (by omega)
  have hL:(aI (iR (s.take i))).length<=300000:=by
   rw[show (aI (iR (s.take i))).length=(iR (s.take i)).length by simp[aI]];omega
  clear hsn hl
  generalize aI (iR (s.take i))=T at *
  simp(disch:=try exact dI) only[hltI,hcp,hq,hm,hxq,hxm,push_cast,seval]
  exact⟨i+1,aM (by simp(disch:=try exact dI) only[hB,push_cast,seval]),by omega,by omega⟩
 ·obtain rfl:i=s.length:=by omega
  rw[List.take_length]
  have hl:=jt s
  have hU:u8s (aI (iR s))=some (iR s):=jH _
  have hL:(aI (iR s)).length<=300000:=by
   rw[show (aI (iR s)).length=(iR s).length by simp[aI]];omega
  generalize aI (iR s)=T at *
  simp(disch:=try exact dI) only[Int.lt_irrefl,hU,push_cast,seval]
def bk (v:Val):List Val:=if v.kind=8\/v.kind=10 then v.lst else if v.kind=9 then v.fields.map Fld.value else []
theorem cj {v:Val}(h:v.kind=8\/v.kind=10):bk v=v.lst:=if_pos h
theorem dn {v:Val}(h:v.kind=9):bk v=v.fields.map Fld.value:=by unfold bk;rw[if_neg (by omega),if_pos h]
theorem ed {v:Val}(h:¬ (v.kind=8\/v.kind=10))(h9:¬ v.kind=9):bk v=[]:=by unfold bk;rw[if_neg h,if_neg h9]
theorem Dw (v:Val)(hf:v.fields.length*104<=140737488351232):am Tryz.prog az 310 [v.pv] (.list ((bk v).map Val.pv)):=by
 obtain⟨k,n,s,t,l,fs⟩:=v
 simp only[Val.fields] at hf
 by_cases h8:k=8\/k=10
 ·rw[cj (v:=.mk k n s t l fs) h8]
  simp only[Val.lst]
  rcases h8 with rfl | rfl
  ·refine am.intro wn.2 (by simp[wn]) ?_
   simp(disch:=try exact dI) only[wn,Val.pv_mk,push_cast,seval]
  ·refine am.intro wn.2 (by simp[wn]) ?_
   simp(disch:=try exact dI) only[wn,Val.pv_mk,push_cast,seval]
 ·by_cases h9:k=9
  ·subst h9
   rw[dn (v:=.mk 9 n s t l fs) rfl]
   simp only[Val.fields]
   refine am.intro wn.2 (by simp[wn]) ?_
   simp(disch:=try exact dI) only[wn,Val.pv_mk,push_cast,seval]
   refine au ([(3,0,36,6)]) (fun i:Nat=>[(3,.olist 0 6 (((fs.take i).map Fld.value).map Val.pv)),(18,.pv (.int .i64 (i:Int)))]) (fun _=>[]) (fun i=>i<=fs.length) (fun i=>fs.length - i) (0) ?_;intro e0 σ0 n0 h0;simp(disch:=try exact dI) only[push_cast,seval] at h0;obtain⟨rfl,rfl,rfl⟩:=h0;refine⟨?_,?_,?_⟩
   ·exact qsZ
   ·omega
   rintro i hi
   by_cases hlt:i<fs.length
   ·have hltI:(i:Int)<(fs.length:Int):=by omega
    obtain⟨c,hc⟩:∃ c,fs[i]? = some c:=⟨_,List.getElem?_eq_getElem hlt⟩
    have hts:=aK hc
    obtain⟨nm,⟨k',n',s',t',l',f'⟩⟩:=c
    have hcp:(fs.map Fld.pv)[i]? = some (.agg [.str nm,.int .i64 k',.int .i64 n',.int .i64 s',.str t',.list (l'.map Val.pv),.list (f'.map Fld.pv)]):=by simp[hc,Fld.pv_mk,Val.pv_mk,ag]
    simp(disch:=try exact dI) only[hcp,push_cast,seval]
    exact⟨i+1,aM (by simp(disch:=try exact dI) only[hts,List.map_append,Fld.value,Val.pv_mk,push_cast,seval]),by omega,by omega⟩
   ·have he:i=fs.length:=by omega
    subst he
    simp(disch:=try exact dI) only[List.take_length,mE,push_cast,seval]
  ·rw[ed (v:=.mk k n s t l fs) h8 h9]
   refine am.intro wn.2 (by simp[wn]) ?_
   have e1:¬ k=8:=by omega
   have e2:¬ k=10:=by omega
   simp(disch:=try exact dI) only[wn,Val.pv_mk,push_cast,seval]
end Go.Proofs.YtbojpfpliibfbaaGreatDoor

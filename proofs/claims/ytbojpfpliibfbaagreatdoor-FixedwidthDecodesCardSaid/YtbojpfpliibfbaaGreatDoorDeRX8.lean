/- A part of the proof. -/
import Derived.Test.YtbojpfpliibfbaaGreatDoorDeRX4
import Derived.Test.YtbojpfpliibfbaaGreatDoorDeRSh3
set_option maxHeartbeats 16000000
set_option maxRecDepth 100000
set_option linter.unusedVariables false
set_option linter.unusedSimpArgs false
namespace Go.Proofs.YtbojpfpliibfbaaGreatDoor
open Go Go.Ab
attribute [local irreducible] vc
def m6 (nm:List UInt8)(g:Fld):Bool:=decide (g.name=nm)&&!aS g.value
def Ck (nm:List UInt8)(k n s:Int)(t:List UInt8)(l:List Val)(f:List Fld):List AV:=[.pv (.str nm),.pv (.int .i64 k),.pv (.int .i64 n),.pv (.int .i64 s),.pv (.str t),.pv (.list (l.map Val.pv)),.pv (.list (f.map Fld.pv))]
section
variable (nm:List UInt8)(k n s:Int)(t:List UInt8)(l:List Val)(f:List Fld)
theorem Oq (g:Fld):bK Tryz.prog ap 1 109 [.pv g.pv,.ptr 0 0] [.cells 60 true (Ck nm k n s t l f)] (.pv (.bool (m6 nm g))) [.cells 60 true (Ck nm k n s t l f)]:=by
 obtain⟨nm',v⟩:=g
 have hN:=ry v
 rw[show m6 nm (.mk nm' v)=(decide (nm'=nm)&&!aS v) from rfl]
 generalize aS v=B at *
 obtain⟨k',n',s',t',l',f'⟩:=v
 simp only[Val.pv_mk] at hN
 by_cases h1:nm'=nm
 ·rw[decide_eq_true h1,Bool.true_and]
  refine bK.intro Mt.2 (by simp[Mt]) ?_
  simp(disch:=try exact dI) only[Mt,Fld.pv_mk,Val.pv_mk,h1,Ck,ag,List.cons_append,List.nil_append,push_cast,seval]
  refine ab.pure hN rfl ?_
  refine zgZ ?_
  exact aJ [] qsZ
 ·rw[decide_eq_false h1,Bool.false_and]
  refine bK.intro Mt.2 (by simp[Mt]) ?_
  simp(disch:=try exact dI) only[Mt,Fld.pv_mk,Val.pv_mk,h1,Ck,ag,List.cons_append,List.nil_append,push_cast,seval]
  exact aJ [] qsZ
theorem Gb (L:List Fld)(hl:L.length<=9000000000000) :
  bK Tryz.prog ap 1 145 [.pv (.list (L.map Fld.pv)),.clo 109 [] [.ptr 0 0]] [.cells 60 true (Ck nm k n s t l f)] (.pv (.int .i64 (dt (m6 nm) L 0))) [.cells 60 true (Ck nm k n s t l f)]:=by
 have hq:=fun x=>Oq nm k n s t l f x
 generalize m6 nm=q at *
 simp only[Ck] at hq ⊢
 refine bK.intro Mq.2 (by simp[Mq]) ?_
 simp(disch:=try exact dI) only[Mq,push_cast,seval]
 refine am ([]) (fun m:Nat=>[(8,.pv (.int .i64 (m:Int)))]) (fun m=>[]) (fun m=>m<=L.length/\dt q L 0=dt q (L.drop m) m) (fun m=>L.length - m) (0) ?_;intro e0 σ0 n0 h0;simp(disch:=try exact dI) only[push_cast,seval] at h0;obtain⟨rfl,rfl,rfl⟩:=h0;refine⟨?_,?_,?_⟩
 ·exact qsZ
 ·exact⟨by omega,by simp⟩
 ·rintro m ⟨hm,he⟩
  by_cases hlt:m<L.length
  ·have hltI:(m:Int)<L.length:=by omega
   obtain⟨x,hx⟩:∃ x,L[m]? = some x:=⟨_,List.getElem?_eq_getElem hlt⟩
   have hcall:=hq x
   simp(disch:=try exact dI) only[hx,Fld.cells_len,Fld.isAgg,push_cast,seval]
   refine ab.lentK hcall [0] rfl qsZ qsZ ?_
   cases hqx:q x with
   | true=>
     rw[he,di hx hqx]
     refine zgZ ?_
     exact aJ [] qsZ
   | false=>
     rw[b9 hx hqx] at he
     refine zgZ ?_
     exact⟨m+1,aI qsZ,⟨by omega,he⟩,by omega⟩
  ·have hltI:¬ (m:Int)<L.length:=by omega
   rw[he,dj hlt]
   refine zgZ ?_
   exact aJ [] qsZ
theorem r8 (L:List Fld)(hl:L.length<=9000000000000)(hno:L.any (m6 nm)=false) :
  bK Tryz.prog ap 1 108 [.pv (.list (L.map Fld.pv)),.clo 109 [] [.ptr 0 0]] [.cells 60 true (Ck nm k n s t l f)] (.pv (.bool false)) [.cells 60 true (Ck nm k n s t l f)]:=by
 have h94:=Gb nm k n s t l f L hl
 have hfa:=dz (p:=m6 nm) L
 rw[hno] at hfa
 simp only[Ck] at h94 ⊢
 refine bK.intro Sk.2 (by simp[Sk]) ?_
 rcases bp (p:=m6 nm) L 0 with ⟨h1,h2⟩ | ⟨k,x,h1,h2,h3⟩
 ·rw[h2] at h94
  simp(disch:=try exact dI) only[Sk,push_cast,seval]
  refine ab.lentK h94 [0] rfl qsZ qsZ ?_
  refine zgZ ?_
  exact aJ [] qsZ
 ·rw[h2] at hfa;cases hfa
end
theorem Ra (l:List Fld)(i:Nat):oT 7 (l.map Fld.pv) l.length (some i)=some (.pv (.list ((l.drop i).map Fld.pv))):=by
 have hs:HJ 7 (l.map Fld.pv) i=true:=by
  cases i with
  | zero=>rfl
  | succ a=>
    unfold HJ
    simp only[List.getElem?_map]
    cases l[a+1]? with
    | none=>rfl
    | some x=>simp[Fld.cells_len]
 rw[mg hs,List.take_of_length_le (by rw[List.length_map];exact Nat.le_refl _),List.map_drop]
theorem KI (x:Fld):∃ cs,x.pv = .agg cs/\cs.length=7/\∀ q∈cs,q.one=true:=by
 obtain⟨nm,⟨k,n,s,t,l,fs⟩⟩:=x
 refine⟨_,by rw[Fld.pv_mk,Val.pv_mk],rfl,fun q hq=>?_⟩
 simp only[PV.cells,List.cons_append,List.nil_append,List.mem_cons,List.not_mem_nil,or_false] at hq
 rcases hq with rfl | rfl | rfl | rfl | rfl | rfl | rfl<;>rfl
theorem Rr (l:List Fld)(hl:l.length<=65540)(nm:List UInt8)(w1 w2 w3:Int)(w4:List UInt8)(w5:List Val)(w6:List Fld)(new q:Nat) :
  sl 60 7 104 new q 7 0 l.length [.agg [.str nm,.int .i64 w1,.int .i64 w2,.int .i64 w3,.str w4,.list (w5.map Val.pv),.list (w6.map Fld.pv)]] (.cells 60 false (bv (l.map Fld.pv))) =
   some (.row new 7 0 (l.length+1),[(q,.none),(new,.cells 60 false (bv ((l++[Fld.mk nm (.mk w1 w2 w3 w4 w5 w6)]).map Fld.pv)))]):=by
 rw[jH (by rw[dc];exact Nat.le_refl _) (by simp;omega) (by simp;omega),List.take_of_length_le (by rw[dc];exact Nat.le_refl _)]
 have e:bv ((l++[Fld.mk nm (.mk w1 w2 w3 w4 w5 w6)]).map Fld.pv)=bv (l.map Fld.pv)++bv [.agg [.str nm,.int .i64 w1,.int .i64 w2,.int .i64 w3,.str w4,.list (w5.map Val.pv),.list (w6.map Fld.pv)]]:=by
  simp only[bv,List.map_append,List.flatMap_append,List.map_cons,List.map_nil]
  rw[Fld.pv_mk,Val.pv_mk];rfl
 rw[e];rfl
def bR (x:Fld):Bool:=!aS x.value
def oB (l:List Fld):Val:=.mk 9 0 0 [] [] (srt (l.filter bR))
def qp (l:List Fld):Prop:=(l.map Fld.name).Nodup
theorem pa {l:List Fld}(h:qp l){i:Nat}{x:Fld}(hx:l[i]? = some x):(l.drop (i+1)).any (m6 x.name)=false:=by
 rw[List.any_eq_false]
 intro y hy
 unfold m6
 have hne:y.name≠x.name:=by
  intro e
  obtain⟨j,hj,hyj⟩:=List.getElem_of_mem hy
  have hxi:i<l.length:=(List.getElem?_eq_some_iff.1 hx).1
  have hxe:l[i]=x:=(List.getElem?_eq_some_iff.1 hx).2
  rw[List.length_drop] at hj
  rw[List.getElem_drop] at hyj
  have h1:=List.pairwise_iff_getElem.1 h i (i+1+j) (by simpa using hxi) (by rw[List.length_map];omega) (by omega)
  simp only[List.getElem_map] at h1
  rw[hxe,hyj] at h1
  exact h1 e.symm
 simp[hne]
theorem rX {l:List Fld}{i:Nat}{x:Fld}(hx:l[i]? = some x):(l.take (i+1)).filter bR=if bR x=true then (l.take i).filter bR++[x] else (l.take i).filter bR:=by
 rw[aB hx,List.filter_append]
 split
 ·rename_i h;simp[h]
 ·rename_i h;simp[h]
theorem ER (l:List Fld)(hl:l.length<=65000)(hok:∀ x∈l,x.ok)(hnd:qp l):ak Tryz.prog ap 55 [.list (l.map Fld.pv)] (oB l).pv:=by
 have hfl:∀ i,((l.take i).filter bR).length<=65000:=fun i=>Nat.le_trans (List.length_filter_le _ _) (by rw[List.length_take];omega)
 have hF:(l.filter bR).length<=65000:=Nat.le_trans (List.length_filter_le _ _) hl
 have hcl:ak Tryz.prog ap 92 [(oB l).pv] (oB l).pv:=by
  refine g7 _ _ (Nat.lt_succ_self _) ?_
  unfold oB
  rw[Val.ok_mk]
  refine⟨⟨by omega,by omega⟩,⟨by omega,by omega⟩,⟨by omega,by omega⟩,by simp,by simp,by simp,by rw[fV];omega,fun x hx=>?_⟩
  exact hok x (List.mem_filter.1 ((js _).mem_iff.1 hx)).1
 have hsort:=I4 (G:=ap) (l.filter bR) (by omega)
 have hsl:=fV (l.filter bR)
 have hfz:=fun (n r:Nat) (hn:n=(srt (l.filter bR)).length)=>tZ (sz:=7) (f:=Fld.pv) KI (by omega) (srt (l.filter bR)) (n:=n) (r:=r) (T:=60) (b:=false) hn
 unfold oB at hcl ⊢
 refine ak.intro LK.2 (by simp[LK]) ?_
 simp(disch:=try exact dI) only[LK,push_cast,seval]
 refine am ([(3,6,1000060,7)]) (fun i:Nat=>[(10,.pv (.int .i64 (i:Int)))]) (fun i=>[(1,.cells 36 true [.pv (.int .i64 9),.pv (.int .i64 0),.pv (.int .i64 0),.pv (.str []),.pv .nils,.row 2 7 0 ((l.take i).filter bR).length]),(2,.cells 60 false (bv (((l.take i).filter bR).map Fld.pv)))]) (fun i=>i<=l.length) (fun i=>l.length - i) (0) ?_;intro e0 σ0 n0 h0;simp(disch:=try exact dI) only[push_cast,seval] at h0;obtain⟨rfl,rfl,rfl⟩:=h0;refine⟨?_,?_,?_⟩
 ·simp(disch:=try exact dI) only[bv,List.flatMap_nil,List.take_zero,List.filter_nil,List.map_nil,List.length_nil,push_cast,seval]
 ·omega
 rintro i hi
 by_cases hlt:i<l.length
 ·have hltI:(i:Int)<(l.length:Int):=by omega
  obtain⟨x,hx⟩:∃ x,l[i]? = some x:=⟨_,List.getElem?_eq_getElem hlt⟩
  have hno:=pa hnd hx
  have hfs:=rX hx
  have hN:=ry x.value
  have hli:=hfl i
  have hkp:bR x=!aS x.value:=rfl
  generalize aS x.value=B at *
  obtain⟨nm,⟨vk,vn,vs,vt,vl,vf⟩⟩:=x
  have hc:=r8 nm vk vn vs vt vl vf (l.drop (i+1)) (by rw[List.length_drop];omega) hno
  simp only[Fld.value,Val.pv_mk,Ck] at hN hc
  have hcut:=Ra l (i+1)
  rw[hkp] at hfs
  have ha:=Rr ((l.take i).filter bR) (by omega) nm vk vn vs vt vl vf
  generalize (l.take i).filter bR=K at *
  simp(disch:=try exact dI) only[hx,Option.map_some,Fld.pv_mk,Val.pv_mk,ag,hcut,push_cast,seval]
  refine ab.lentK hc [4] rfl qsZ qsZ ?_
  refine zgZ ?_
  refine ab.pure hN rfl ?_
  cases B with
  | true=>
    rw[if_neg (by decide)] at hfs
    refine zgZ ?_
    exact⟨i+1,aI (by simp(disch:=try exact dI) only[hfs,push_cast,seval]),by omega,by omega⟩
  | false=>
    rw[if_pos (by decide)] at hfs
    simp(disch:=try exact dI) only[ha,push_cast,seval]
    exact⟨i+1,aI (by simp(disch:=try exact dI) only[hfs,List.length_append,push_cast,seval]),by omega,by omega⟩
 ·obtain rfl:i=l.length:=by omega
  rw[List.take_length]
  simp only[Val.pv_mk,List.map_nil] at hcl ⊢
  rw[hsl] at hfz
  generalize srt (l.filter bR)=S at *
  generalize l.filter bR=K at *
  simp(disch:=try exact dI) only[Int.lt_irrefl,push_cast,seval]
  have hcl2:ak Tryz.prog ap 92 [.agg [.int .i64 9,.int .i64 0,.int .i64 0,.str [],.nils,.list (S.map Fld.pv)]] _:=hcl.nz (.cons _ _ _ _ (.agg _ _ (.cons _ _ _ _ (.refl _) (.cons _ _ _ _ (.refl _) (.cons _ _ _ _ (.refl _) (.cons _ _ _ _ (.refl _) (.cons _ _ _ _ .nils (.cons _ _ _ _ (.refl _) .nil))))))) .nil)
  refine ab.lentK hsort [2] rfl qsZ qsZ ?_
  simp(disch:=try exact dI) only[hfz,push_cast,seval]
  refine ab.pure hcl2 rfl ?_
  exact qsZ
def HK (n m:Int):Int:=if n<m then -1 else if m<n then 1 else 0
theorem zg (n m:Int):ak Tryz.prog ap 119 [.int .i64 n,.int .i64 m] (.int .i64 (HK n m)):=by
 unfold HK
 refine ak.intro Pz.2 (by simp[Pz]) ?_
 by_cases h1:n<m
 ·rw[if_pos h1]
  simp(disch:=try exact dI) only[Pz,h1,push_cast,seval]
 ·rw[if_neg h1]
  by_cases h2:m<n
  ·rw[if_pos h2]
   simp(disch:=try exact dI) only[Pz,h1,h2,push_cast,seval]
  ·rw[if_neg h2]
   simp(disch:=try exact dI) only[Pz,h1,h2,push_cast,seval]
theorem OI (a b:List UInt8)(i:Nat)(h1:i<=a.length)(h2:i<=b.length)(h:¬ (i<a.length/\i<b.length)):Lib.compareBytes (a.drop i) (b.drop i)=HK (a.length:Int) (b.length:Int):=by
 unfold HK
 by_cases ha:i=a.length
 ·rw[ha,List.drop_length]
  by_cases hb:a.length<b.length
  ·rw[if_pos (by omega)]
   obtain⟨y,hy⟩:∃ y,b[a.length]? = some y:=⟨_,List.getElem?_eq_getElem hb⟩
   rw[a8 hy];rfl
  ·have:b.length=a.length:=by omega
   rw[if_neg (by omega),if_neg (by omega),<- this,List.drop_length];rfl
 ·have hb:i=b.length:=by omega
  rw[hb,List.drop_length,if_neg (by omega),if_pos (by omega)]
  obtain⟨y,hy⟩:∃ y,a[b.length]? = some y:=⟨_,List.getElem?_eq_getElem (by omega)⟩
  rw[a8 hy];rfl
theorem sJ (a b:List UInt8)(ha:a.length<=140737488351232)(hb:b.length<=140737488351232):ak Tryz.prog ap 68 [.str a,.str b] (.int .i64 (Lib.compareBytes a b)):=by
 have hs:=fun n m=>zg n m
 obtain⟨R,hR⟩:∃ R,R=Lib.compareBytes a b:=⟨_,rfl⟩
 rw[<- hR]
 refine ak.intro Q68.2 (by simp[Q68]) ?_
 simp(disch:=try exact dI) only[Q68,push_cast,seval]
 refine am ([]) (fun i:Nat=>[(5,.pv (.int .i64 (i:Int)))]) (fun _=>[]) (fun i=>i<=a.length/\i<=b.length/\R=Lib.compareBytes (a.drop i) (b.drop i)) (fun i=>a.length - i) (0) ?_;intro e0 σ0 n0 h0;simp(disch:=try exact dI) only[push_cast,seval] at h0;obtain⟨rfl,rfl,rfl⟩:=h0;refine⟨?_,?_,?_⟩
 ·exact qsZ
 ·exact⟨by omega,by omega,by simpa using hR⟩
 rintro i ⟨h1,h2,h3⟩
 by_cases hl:i<a.length/\i<b.length
 ·have hI1:(i:Int)<(a.length:Int):=by omega
  have hI2:(i:Int)<(b.length:Int):=by omega
  obtain⟨x,hx⟩:∃ x,a[i]? = some x:=⟨_,List.getElem?_eq_getElem hl.1⟩
  obtain⟨y,hy⟩:∃ y,b[i]? = some y:=⟨_,List.getElem?_eq_getElem hl.2⟩
  rw[a8 hx,a8 hy,Lib.compareBytes] at h3
  have hxl:=x.toNat_lt
  have hyl:=y.toNat_lt
  by_cases he:x=y
  ·subst he
   rw[if_neg (by rw[UInt8.lt_iff_toNat_lt];omega),if_neg (by rw[UInt8.lt_iff_toNat_lt];omega)] at h3
   simp(disch:=try exact dI) only[hI1,hI2,hx,hy,aq,push_cast,seval]
   exact⟨i+1,aI qsZ,⟨by omega,by omega,h3⟩,by omega⟩
  ·have heI:¬ (x.toNat:Int)=(y.toNat:Int):=fun h=>he ((u8n x y).1 h)
   have hsg:R=HK (x.toNat:Int) (y.toNat:Int):=by
    rw[h3];unfold HK
    by_cases c:x.toNat<y.toNat
    ·rw[if_pos (by rw[UInt8.lt_iff_toNat_lt];exact c),if_pos (by omega)]
    ·rw[if_neg (by rw[UInt8.lt_iff_toNat_lt];exact c),if_pos (by rw[UInt8.lt_iff_toNat_lt];omega),if_neg (by omega),if_pos (by omega)]
   have hs1:=hs (x.toNat:Int) (y.toNat:Int)
   rw[<- hsg] at hs1
   simp(disch:=try exact dI) only[hI1,hI2,hx,hy,aq,heI,push_cast,seval]
   refine ab.pure hs1 rfl ?_
   exact qsZ
 ·rw[OI a b i h1 h2 hl] at h3
  have hs1:=hs (a.length:Int) (b.length:Int)
  rw[<- h3] at hs1
  by_cases c:i<a.length
  ·have c1:(i:Int)<(a.length:Int):=by omega
   have c2:¬ (i:Int)<(b.length:Int):=by omega
   simp(disch:=try exact dI) only[c1,c2,push_cast,seval]
   refine ab.pure hs1 rfl ?_
   exact qsZ
  ·have c1:¬ (i:Int)<(a.length:Int):=by omega
   simp(disch:=try exact dI) only[c1,push_cast,seval]
   refine ab.pure hs1 rfl ?_
   exact qsZ
theorem CP:∀ (n:Nat) (v:Val),SizeOf.sizeOf v<n->v.ok->ak Tryz.prog ap 60 [v.pv,v.pv] (.int .i64 0):=by
 intro n
 induction n with
 | zero=>intro v h;omega
 | succ n ih=>
   intro v hn hv
   obtain⟨k,a,s,t,l,f⟩:=v
   rw[Val.ok_mk] at hv
   obtain⟨_,_,_,ht,hl,hlo,hf,hfo⟩:=hv
   have h68:=sJ t t ht ht
   rw[ll] at h68
   have hsl:=zg (f.length:Int) (f.length:Int)
   rw[show HK (f.length:Int) (f.length:Int)=0 by unfold HK;rw[if_neg (by omega),if_neg (by omega)]] at hsl
   have hL:∀ x∈l,ak Tryz.prog ap 60 [x.pv,x.pv] (.int .i64 0):=fun x hx=>ih x (by have:=List.sizeOf_lt_of_mem hx;simp only[Val.mk.sizeOf_spec] at hn;omega) (hlo x hx)
   have hF:∀ x∈f,ak Tryz.prog ap 68 [.str x.name,.str x.name] (.int .i64 0)/\ak Tryz.prog ap 60 [x.value.pv,x.value.pv] (.int .i64 0):=fun x hx=>by
    have hxo:=hfo x hx
    obtain⟨nm,u⟩:=x
    rw[Fld.ok_mk] at hxo
    have h1:=sJ nm nm hxo.1 hxo.1
    rw[ll] at h1
    exact⟨h1,ih u (by have:=List.sizeOf_lt_of_mem hx;simp only[Val.mk.sizeOf_spec,Fld.mk.sizeOf_spec] at hn this;omega) hxo.2⟩
   clear ih hn
   simp only[Val.pv_mk]
   refine ak.intro Q60.2 (by simp[Q60]) ?_
   simp(disch:=try exact dI) only[Q60,push_cast,seval]
   refine ab.pure h68 rfl ?_
   refine zgZ ?_
   refine am ([]) (fun i:Nat=>[(6,.pv (.int .i64 (i:Int)))]) (fun _=>[]) (fun i=>i<=l.length) (fun i=>l.length - i) (0) ?_;intro e0 σ0 n0 h0;simp(disch:=try exact dI) only[push_cast,seval] at h0;obtain⟨rfl,rfl,rfl⟩:=h0;refine⟨?_,?_,?_⟩
   ·exact qsZ
   ·omega
   rintro i hi
   by_cases hlt:i<l.length
   ·have hltI:(i:Int)<(l.length:Int):=by omega
    obtain⟨x,hx⟩:∃ x,l[i]? = some x:=⟨_,List.getElem?_eq_getElem hlt⟩
    have hc:=hL x (List.mem_of_getElem? hx)
    obtain⟨xk,xn,xs,xt,xl,xf⟩:=x
    simp only[Val.pv_mk] at hc
    simp(disch:=try exact dI) only[hltI,hx,Option.map_some,Val.pv_mk,ag,push_cast,seval]
    refine ab.pure hc rfl ?_
    refine zgZ ?_
    exact⟨i+1,aI qsZ,by omega,by omega⟩
   ·have hltI:¬ (i:Int)<(l.length:Int):=by omega
    simp(disch:=try exact dI) only[hltI,push_cast,seval]
    refine am ([]) (fun j:Nat=>[(8,.pv (.int .i64 (j:Int)))]) (fun _=>[]) (fun j=>j<=f.length) (fun j=>f.length - j) (0) ?_;intro e0 σ0 n0 h0;simp(disch:=try exact dI) only[push_cast,seval] at h0;obtain⟨rfl,rfl,rfl⟩:=h0;refine⟨?_,?_,?_⟩
    ·exact qsZ
    ·omega
    rintro j hj
    by_cases hlj:j<f.length
    ·have hljI:(j:Int)<(f.length:Int):=by omega
     obtain⟨x,hx⟩:∃ x,f[j]? = some x:=⟨_,List.getElem?_eq_getElem hlj⟩
     obtain⟨c1,c2⟩:=hF x (List.mem_of_getElem? hx)
     obtain⟨nm,⟨xk,xn,xs,xt,xl,xf⟩⟩:=x
     simp only[Fld.name,Fld.value,Val.pv_mk] at c1 c2
     simp(disch:=try exact dI) only[hljI,hx,Option.map_some,Fld.pv_mk,Val.pv_mk,ag,push_cast,seval]
     refine ab.pure c1 rfl ?_
     simp(disch:=try exact dI) only[hx,Option.map_some,Fld.pv_mk,Val.pv_mk,ag,push_cast,seval]
     refine ab.pure c2 rfl ?_
     refine zgZ ?_
     exact⟨j+1,aI qsZ,by omega,by omega⟩
    ·have hljI:¬ (j:Int)<(f.length:Int):=by omega
     simp(disch:=try exact dI) only[hljI,push_cast,seval]
     refine ab.pure hsl rfl ?_
     exact qsZ
theorem KV (v:Val)(hv:v.ok):ak Tryz.prog ap 19 [v.pv,v.pv] (.bool true):=by
 have h:=CP _ v (Nat.lt_succ_self _) hv
 obtain⟨k,a,s,t,l,f⟩:=v
 simp only[Val.pv_mk] at h ⊢
 refine ak.intro Q19.2 (by simp[Q19]) ?_
 simp(disch:=try exact dI) only[Q19,push_cast,seval]
 refine ab.pure h rfl ?_
 exact qsZ
theorem GH {t:Typ}{x:Val}{p:List UInt8}(h:bD 1 t x p=[]):x.kind=t.kind/\aD x=true:=by
 rw[cu] at h
 by_cases a:t.kind<1\/10<t.kind\/¬ x.kind=t.kind
 ·rw[ft a] at h;cases h
 ·cases b:aD x with
  | false=>rw[ph a b] at h;cases h
  | true=>exact⟨Decidable.byContradiction fun hh=>a (.inr (.inr hh)),rfl⟩
theorem rt {a b:Int}{p:List UInt8}{n:Int}(h:jx a b p n=[]):a<=n/\n<=b:=by
 unfold jx at h
 by_cases c:n<a\/b<n
 ·rw[if_pos c] at h;cases h
 ·omega
theorem sT:∀ (f:List TFd) (w:List Int) (s:Int),f.length=w.length->qu f w s=0->∀ (i:Nat) (g:TFd) (n:Int),f[i]? = some g->w[i]? = some n->jd g n=0
 | [],_,_,_,_,i,g,n,hg,_=>by simp at hg
 | _::_,[],_,hl,_,i,g,n,_,hn=>by simp at hl
 | x::f,m::w,s,hl,h,i,g,n,hg,hn=>by
   rw[qu] at h
   by_cases h0:jd x m=0
   ·rw[if_pos h0] at h
    cases i with
    | zero=>simp at hg hn;subst hg hn;exact h0
    | succ i=>exact sT f w _ (by simpa using hl) h i g n (by simpa using hg) (by simpa using hn)
   ·rw[if_neg h0] at h;exact absurd h h0
theorem vz {g:TFd}{n:Int}(h:jd g n=0):1<=n/\n<=4096/\ij g.typ<=n:=by
 unfold jd at h
 by_cases c1:n<1\/4096<n
 ·rw[if_pos c1] at h;cases h
 rw[if_neg c1] at h
 by_cases c2:n<ij g.typ
 ·rw[if_pos c2] at h;cases h
 ·omega
theorem zD {t:Typ}{w:List Int}(h:n7 t w=0):flE t=0/\w.length=t.fields.length/\qu t.fields w 0=0:=by
 unfold n7 at h
 by_cases he:flE t=0
 ·rw[if_pos he] at h
  by_cases h1:w.length<t.fields.length
  ·rw[if_pos h1] at h;cases h
  rw[if_neg h1] at h
  by_cases h2:t.fields.length<w.length
  ·rw[if_pos h2] at h;cases h
  rw[if_neg h2] at h
  exact⟨he,by omega,h⟩
 ·rw[if_neg he] at h;exact absurd h he
theorem NU (v:Val)(hv:v.ok)(h9:v.kind=9)(name:List UInt8):(v.fields.find? (aP name)=none/\ak Tryz.prog ap 25 [v.pv,.str name] (.int .i64 (-1)))\/∃ (k:Nat) (y:Fld),v.fields[k]? = some y/\v.fields.find? (aP name)=some y/\ak Tryz.prog ap 25 [v.pv,.str name] (.int .i64 (k:Int)):=by
 obtain⟨vk,vn,vs,vt,vl,vf⟩:=v
 simp only[Val.kind] at h9
 subst h9
 rw[Val.ok_mk] at hv
 have h:=Ce vn vs vt vl vf name (by omega)
 simp only[Val.fields]
 rcases bp (p:=aP name) vf 0 with ⟨h1,h2⟩ | ⟨k,x,h1,h2,h3⟩
 ·rw[h2] at h;exact .inl ⟨h1,h⟩
 ·rw[h3,Nat.zero_add] at h;exact .inr ⟨k,x,h1,h2,h⟩
end Go.Proofs.YtbojpfpliibfbaaGreatDoor

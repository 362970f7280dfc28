/- A part of the proof. -/
import Derived.Test.YtbojpfpliibfbaaGreatDoorMxRY1
import Derived.Test.YtbojpfpliibfbaaGreatDoorMxRSh3
set_option maxHeartbeats 16000000
set_option maxRecDepth 100000
set_option linter.unusedVariables false
set_option linter.unusedSimpArgs false
namespace Go.Proofs.YtbojpfpliibfbaaGreatDoor
open Go Go.Ab
attribute [local irreducible] vc
def mO (nm:List UInt8)(g:Fld):Bool:=decide (g.name=nm)&&!bv g.value
def Dc (nm:List UInt8)(k n s:Int)(t:List UInt8)(l:List Val)(f:List Fld):List AV:=[.pv (.str nm),.pv (.int .i64 k),.pv (.int .i64 n),.pv (.int .i64 s),.pv (.str t),.pv (.list (l.map Val.pv)),.pv (.list (f.map Fld.pv))]
section
variable (nm:List UInt8)(k n s:Int)(t:List UInt8)(l:List Val)(f:List Fld)
theorem PR (g:Fld):bO Tryz.prog aq 1 109 [.pv g.pv,.ptr 0 0] [.cells 60 true (Dc nm k n s t l f)] (.pv (.bool (mO nm g))) [.cells 60 true (Dc nm k n s t l f)]:=by
 obtain⟨nm',v⟩:=g
 have hN:=rA v
 rw[show mO nm (.mk nm' v)=(decide (nm'=nm)&&!bv v) from rfl]
 generalize bv v=B at *
 obtain⟨k',n',s',t',l',f'⟩:=v
 simp only[Val.pv_mk] at hN
 by_cases h1:nm'=nm
 ·rw[decide_eq_true h1,Bool.true_and]
  refine bO.intro NE.2 (by simp[NE]) ?_
  simp(disch:=try exact dI) only[NE,Fld.pv_mk,Val.pv_mk,h1,Dc,ae,List.cons_append,List.nil_append,push_cast,seval]
  refine ab.pure hN rfl ?_
  refine zgZ ?_
  exact aM [] qsZ
 ·rw[decide_eq_false h1,Bool.false_and]
  refine bO.intro NE.2 (by simp[NE]) ?_
  simp(disch:=try exact dI) only[NE,Fld.pv_mk,Val.pv_mk,h1,Dc,ae,List.cons_append,List.nil_append,push_cast,seval]
  exact aM [] qsZ
theorem Hm (L:List Fld)(hl:L.length<=9000000000000) :
  bO Tryz.prog aq 1 145 [.pv (.list (L.map Fld.pv)),.clo 109 [] [.ptr 0 0]] [.cells 60 true (Dc nm k n s t l f)] (.pv (.int .i64 (dF (mO nm) L 0))) [.cells 60 true (Dc nm k n s t l f)]:=by
 have hq:=fun x=>PR nm k n s t l f x
 generalize mO nm=q at *
 simp only[Dc] at hq ⊢
 refine bO.intro ND.2 (by simp[ND]) ?_
 simp(disch:=try exact dI) only[ND,push_cast,seval]
 refine az ([]) (fun m:Nat=>[(8,.pv (.int .i64 (m:Int)))]) (fun m=>[]) (fun m=>m<=L.length/\dF q L 0=dF q (L.drop m) m) (fun m=>L.length - m) (0) ?_;intro e0 σ0 n0 h0;simp(disch:=try exact dI) only[push_cast,seval] at h0;obtain⟨rfl,rfl,rfl⟩:=h0;refine⟨?_,?_,?_⟩
 ·exact qsZ
 ·exact⟨by omega,by simp⟩
 ·rintro m ⟨hm,he⟩
  by_cases hlt:m<L.length
  ·have hltI:(m:Int)<L.length:=by omega
   obtain⟨x,hx⟩:∃ x,L[m]? = some x:=⟨_,List.getElem?_eq_getElem hlt⟩
   have hcall:=hq x
   simp(disch:=try exact dI) only[hx,Fld.cells_len,Fld.isAgg,push_cast,seval]
   refine ab.lentK hcall [0] rfl qsZ qsZ ?_
   cases hqx:q x with
   | true=>
     rw[he,dA hx hqx]
     refine zgZ ?_
     exact aM [] qsZ
   | false=>
     rw[ci hx hqx] at he
     refine zgZ ?_
     exact⟨m+1,aV qsZ,⟨by omega,he⟩,by omega⟩
  ·have hltI:¬ (m:Int)<L.length:=by omega
   rw[he,dB hlt]
   refine zgZ ?_
   exact aM [] qsZ
theorem sw (L:List Fld)(hl:L.length<=9000000000000)(hno:L.any (mO nm)=false) :
  bO Tryz.prog aq 1 108 [.pv (.list (L.map Fld.pv)),.clo 109 [] [.ptr 0 0]] [.cells 60 true (Dc nm k n s t l f)] (.pv (.bool false)) [.cells 60 true (Dc nm k n s t l f)]:=by
 have h94:=Hm nm k n s t l f L hl
 have hfa:=dr (p:=mO nm) L
 rw[hno] at hfa
 simp only[Dc] at h94 ⊢
 refine bO.intro TA.2 (by simp[TA]) ?_
 rcases bA (p:=mO nm) L 0 with ⟨h1,h2⟩ | ⟨k,x,h1,h2,h3⟩
 ·rw[h2] at h94
  simp(disch:=try exact dI) only[TA,push_cast,seval]
  refine ab.lentK h94 [0] rfl qsZ qsZ ?_
  refine zgZ ?_
  exact aM [] qsZ
 ·rw[h2] at hfa;cases hfa
end
theorem Sn (l:List Fld)(i:Nat):oL 7 (l.map Fld.pv) l.length (some i)=some (.pv (.list ((l.drop i).map Fld.pv))):=by
 have hs:IQ 7 (l.map Fld.pv) i=true:=by
  cases i with
  | zero=>rfl
  | succ a=>
    unfold IQ
    simp only[List.getElem?_map]
    cases l[a+1]? with
    | none=>rfl
    | some x=>simp[Fld.cells_len]
 rw[lX hs,List.take_of_length_le (by rw[List.length_map];exact Nat.le_refl _),List.map_drop]
theorem L9 (x:Fld):∃ cs,x.pv = .agg cs/\cs.length=7/\∀ q∈cs,q.one=true:=by
 obtain⟨nm,⟨k,n,s,t,l,fs⟩⟩:=x
 refine⟨_,by rw[Fld.pv_mk,Val.pv_mk],rfl,fun q hq=>?_⟩
 simp only[PV.cells,List.cons_append,List.nil_append,List.mem_cons,List.not_mem_nil,or_false] at hq
 rcases hq with rfl | rfl | rfl | rfl | rfl | rfl | rfl<;>rfl
theorem SJ (l:List Fld)(hl:l.length<=65540)(nm:List UInt8)(w1 w2 w3:Int)(w4:List UInt8)(w5:List Val)(w6:List Fld)(new q:Nat) :
  p5 60 7 104 new q 7 0 l.length [.agg [.str nm,.int .i64 w1,.int .i64 w2,.int .i64 w3,.str w4,.list (w5.map Val.pv),.list (w6.map Fld.pv)]] (.cells 60 false (ba (l.map Fld.pv))) =
   some (.row new 7 0 (l.length+1),[(q,.none),(new,.cells 60 false (ba ((l++[Fld.mk nm (.mk w1 w2 w3 w4 w5 w6)]).map Fld.pv)))]):=by
 rw[nH (by rw[cR];exact Nat.le_refl _) (by simp;omega) (by simp;omega),List.take_of_length_le (by rw[cR];exact Nat.le_refl _)]
 have e:ba ((l++[Fld.mk nm (.mk w1 w2 w3 w4 w5 w6)]).map Fld.pv)=ba (l.map Fld.pv)++ba [.agg [.str nm,.int .i64 w1,.int .i64 w2,.int .i64 w3,.str w4,.list (w5.map Val.pv),.list (w6.map Fld.pv)]]:=by
  simp only[ba,List.map_append,List.flatMap_append,List.map_cons,List.map_nil]
  rw[Fld.pv_mk,Val.pv_mk];rfl
 rw[e];rfl
def dm (x:Fld):Bool:=!bv x.value
def jW (l:List Fld):Val:=.mk 9 0 0 [] [] (srt (l.filter dm))
def ey (l:List Fld):Prop:=(l.map Fld.name).Nodup
theorem BV {l:List Fld}(h:ey l){i:Nat}{x:Fld}(hx:l[i]? = some x):(l.drop (i+1)).any (mO x.name)=false:=by
 rw[List.any_eq_false]
 intro y hy
 unfold mO
 have hne:y.name≠x.name:=by
  intro e
  obtain⟨j,hj,hyj⟩:=List.getElem_of_mem hy
  have hxi:i<l.length:=(List.getElem?_eq_some_iff.1 hx).1
  have hxe:l[i]=x:=(List.getElem?_eq_some_iff.1 hx).2
  rw[List.length_drop] at hj
  rw[List.getElem_drop] at hyj
  have h1:=List.pairwise_iff_getElem.1 h i (i+1+j) (by simpa using hxi) (by rw[List.length_map];omega) (by omega)
  simp only[List.getElem_map] at h1
  rw[hxe,hyj] at h1
  exact h1 e.symm
 simp[hne]
theorem sf {l:List Fld}{i:Nat}{x:Fld}(hx:l[i]? = some x):(l.take (i+1)).filter dm=if dm x=true then (l.take i).filter dm++[x] else (l.take i).filter dm:=by
 rw[aH hx,List.filter_append]
 split
 ·rename_i h;simp[h]
 ·rename_i h;simp[h]
theorem FX (l:List Fld)(hl:l.length<=65000)(hok:∀ x∈l,x.ok)(hnd:ey l):ag Tryz.prog aq 55 [.list (l.map Fld.pv)] (jW l).pv:=by
 have hfl:∀ i,((l.take i).filter dm).length<=65000:=fun i=>Nat.le_trans (List.length_filter_le _ _) (by rw[List.length_take];omega)
 have hF:(l.filter dm).length<=65000:=Nat.le_trans (List.length_filter_le _ _) hl
 have hcl:ag Tryz.prog aq 92 [(jW l).pv] (jW l).pv:=by
  refine gK _ _ (Nat.lt_succ_self _) ?_
  unfold jW
  rw[Val.ok_mk]
  refine⟨⟨by omega,by omega⟩,⟨by omega,by omega⟩,⟨by omega,by omega⟩,by simp,by simp,by simp,by rw[d9];omega,fun x hx=>?_⟩
  exact hok x (List.mem_filter.1 ((mM _).mem_iff.1 hx)).1
 have hsort:=Kr (G:=aq) (l.filter dm) (by omega)
 have hsl:=d9 (l.filter dm)
 have hfz:=fun (n r:Nat) (hn:n=(srt (l.filter dm)).length)=>tY (sz:=7) (f:=Fld.pv) L9 (by omega) (srt (l.filter dm)) (n:=n) (r:=r) (T:=60) (b:=false) hn
 unfold jW at hcl ⊢
 refine ag.intro M6.2 (by simp[M6]) ?_
 simp(disch:=try exact dI) only[M6,push_cast,seval]
 refine az ([(3,6,1000060,7)]) (fun i:Nat=>[(10,.pv (.int .i64 (i:Int)))]) (fun i=>[(1,.cells 36 true [.pv (.int .i64 9),.pv (.int .i64 0),.pv (.int .i64 0),.pv (.str []),.pv .nils,.row 2 7 0 ((l.take i).filter dm).length]),(2,.cells 60 false (ba (((l.take i).filter dm).map Fld.pv)))]) (fun i=>i<=l.length) (fun i=>l.length - i) (0) ?_;intro e0 σ0 n0 h0;simp(disch:=try exact dI) only[push_cast,seval] at h0;obtain⟨rfl,rfl,rfl⟩:=h0;refine⟨?_,?_,?_⟩
 ·simp(disch:=try exact dI) only[ba,List.flatMap_nil,List.take_zero,List.filter_nil,List.map_nil,List.length_nil,push_cast,seval]
 ·omega
 rintro i hi
 by_cases hlt:i<l.length
 ·have hltI:(i:Int)<(l.length:Int):=by omega
  obtain⟨x,hx⟩:∃ x,l[i]? = some x:=⟨_,List.getElem?_eq_getElem hlt⟩
  have hno:=BV hnd hx
  have hfs:=sf hx
  have hN:=rA x.value
  have hli:=hfl i
  have hkp:dm x=!bv x.value:=rfl
  generalize bv x.value=B at *
  obtain⟨nm,⟨vk,vn,vs,vt,vl,vf⟩⟩:=x
  have hc:=sw nm vk vn vs vt vl vf (l.drop (i+1)) (by rw[List.length_drop];omega) hno
  simp only[Fld.value,Val.pv_mk,Dc] at hN hc
  have hcut:=Sn l (i+1)
  rw[hkp] at hfs
  have ha:=SJ ((l.take i).filter dm) (by omega) nm vk vn vs vt vl vf
  generalize (l.take i).filter dm=K at *
  simp(disch:=try exact dI) only[hx,Option.map_some,Fld.pv_mk,Val.pv_mk,ae,hcut,push_cast,seval]
  refine ab.lentK hc [4] rfl qsZ qsZ ?_
  refine zgZ ?_
  refine ab.pure hN rfl ?_
  cases B with
  | true=>
    rw[if_neg (by decide)] at hfs
    refine zgZ ?_
    exact⟨i+1,aV (by simp(disch:=try exact dI) only[hfs,push_cast,seval]),by omega,by omega⟩
  | false=>
    rw[if_pos (by decide)] at hfs
    simp(disch:=try exact dI) only[ha,push_cast,seval]
    exact⟨i+1,aV (by simp(disch:=try exact dI) only[hfs,List.length_append,push_cast,seval]),by omega,by omega⟩
 ·obtain rfl:i=l.length:=by omega
  rw[List.take_length]
  simp only[Val.pv_mk,List.map_nil] at hcl ⊢
  rw[hsl] at hfz
  generalize srt (l.filter dm)=S at *
  generalize l.filter dm=K at *
  simp(disch:=try exact dI) only[Int.lt_irrefl,push_cast,seval]
  have hcl2:ag Tryz.prog aq 92 [.agg [.int .i64 9,.int .i64 0,.int .i64 0,.str [],.nils,.list (S.map Fld.pv)]] _:=hcl.nz (.cons _ _ _ _ (.agg _ _ (.cons _ _ _ _ (.refl _) (.cons _ _ _ _ (.refl _) (.cons _ _ _ _ (.refl _) (.cons _ _ _ _ (.refl _) (.cons _ _ _ _ .nils (.cons _ _ _ _ (.refl _) .nil))))))) .nil)
  refine ab.lentK hsort [2] rfl qsZ qsZ ?_
  simp(disch:=try exact dI) only[hfz,push_cast,seval]
  refine ab.pure hcl2 rfl ?_
  exact qsZ
def IS (n m:Int):Int:=if n<m then -1 else if m<n then 1 else 0
theorem Aq (n m:Int):ag Tryz.prog aq 119 [.int .i64 n,.int .i64 m] (.int .i64 (IS n m)):=by
 unfold IS
 refine ag.intro QS.2 (by simp[QS]) ?_
 by_cases h1:n<m
 ·rw[if_pos h1]
  simp(disch:=try exact dI) only[QS,h1,push_cast,seval]
 ·rw[if_neg h1]
  by_cases h2:m<n
  ·rw[if_pos h2]
   simp(disch:=try exact dI) only[QS,h1,h2,push_cast,seval]
  ·rw[if_neg h2]
   simp(disch:=try exact dI) only[QS,h1,h2,push_cast,seval]
theorem P8 (a b:List UInt8)(i:Nat)(h1:i<=a.length)(h2:i<=b.length)(h:¬ (i<a.length/\i<b.length)):Lib.compareBytes (a.drop i) (b.drop i)=IS (a.length:Int) (b.length:Int):=by
 unfold IS
 by_cases ha:i=a.length
 ·rw[ha,List.drop_length]
  by_cases hb:a.length<b.length
  ·rw[if_pos (by omega)]
   obtain⟨y,hy⟩:∃ y,b[a.length]? = some y:=⟨_,List.getElem?_eq_getElem hb⟩
   rw[b9 hy];rfl
  ·have:b.length=a.length:=by omega
   rw[if_neg (by omega),if_neg (by omega),<- this,List.drop_length];rfl
 ·have hb:i=b.length:=by omega
  rw[hb,List.drop_length,if_neg (by omega),if_pos (by omega)]
  obtain⟨y,hy⟩:∃ y,a[b.length]? = some y:=⟨_,List.getElem?_eq_getElem (by omega)⟩
  rw[b9 hy];rfl
theorem zW (a b:List UInt8)(ha:a.length<=140737488351232)(hb:b.length<=140737488351232):ag Tryz.prog aq 68 [.str a,.str b] (.int .i64 (Lib.compareBytes a b)):=by
 have hs:=fun n m=>Aq n m
 obtain⟨R,hR⟩:∃ R,R=Lib.compareBytes a b:=⟨_,rfl⟩
 rw[<- hR]
 refine ag.intro Q68.2 (by simp[Q68]) ?_
 simp(disch:=try exact dI) only[Q68,push_cast,seval]
 refine az ([]) (fun i:Nat=>[(5,.pv (.int .i64 (i:Int)))]) (fun _=>[]) (fun i=>i<=a.length/\i<=b.length/\R=Lib.compareBytes (a.drop i) (b.drop i)) (fun i=>a.length - i) (0) ?_;intro e0 σ0 n0 h0;simp(disch:=try exact dI) only[push_cast,seval] at h0;obtain⟨rfl,rfl,rfl⟩:=h0;refine⟨?_,?_,?_⟩
 ·exact qsZ
 ·exact⟨by omega,by omega,by simpa using hR⟩
 rintro i ⟨h1,h2,h3⟩
 by_cases hl:i<a.length/\i<b.length
 ·have hI1:(i:Int)<(a.length:Int):=by omega
  have hI2:(i:Int)<(b.length:Int):=by omega
  obtain⟨x,hx⟩:∃ x,a[i]? = some x:=⟨_,List.getElem?_eq_getElem hl.1⟩
  obtain⟨y,hy⟩:∃ y,b[i]? = some y:=⟨_,List.getElem?_eq_getElem hl.2⟩
  rw[b9 hx,b9 hy,Lib.compareBytes] at h3
  have hxl:=x.toNat_lt
  have hyl:=y.toNat_lt
  by_cases he:x=y
  ·subst he
   rw[if_neg (by rw[UInt8.lt_iff_toNat_lt];omega),if_neg (by rw[UInt8.lt_iff_toNat_lt];omega)] at h3
   simp(disch:=try exact dI) only[hI1,hI2,hx,hy,aG,push_cast,seval]
   exact⟨i+1,aV qsZ,⟨by omega,by omega,h3⟩,by omega⟩
  ·have heI:¬ (x.toNat:Int)=(y.toNat:Int):=fun h=>he ((u8n x y).1 h)
   have hsg:R=IS (x.toNat:Int) (y.toNat:Int):=by
    rw[h3];unfold IS
    by_cases c:x.toNat<y.toNat
    ·rw[if_pos (by rw[UInt8.lt_iff_toNat_lt];exact c),if_pos (by omega)]
    ·rw[if_neg (by rw[UInt8.lt_iff_toNat_lt];exact c),if_pos (by rw[UInt8.lt_iff_toNat_lt];omega),if_neg (by omega),if_pos (by omega)]
   have hs1:=hs (x.toNat:Int) (y.toNat:Int)
   rw[<- hsg] at hs1
   simp(disch:=try exact dI) only[hI1,hI2,hx,hy,aG,heI,push_cast,seval]
   refine ab.pure hs1 rfl ?_
   exact qsZ
 ·rw[P8 a b i h1 h2 hl] at h3
  have hs1:=hs (a.length:Int) (b.length:Int)
  rw[<- h3] at hs1
  by_cases c:i<a.length
  ·have c1:(i:Int)<(a.length:Int):=by omega
   have c2:¬ (i:Int)<(b.length:Int):=by omega
   simp(disch:=try exact dI) only[c1,c2,push_cast,seval]
   refine ab.pure hs1 rfl ?_
   exact qsZ
  ·have c1:¬ (i:Int)<(a.length:Int):=by omega
   simp(disch:=try exact dI) only[c1,push_cast,seval]
   refine ab.pure hs1 rfl ?_
   exact qsZ
theorem DH:∀ (n:Nat) (v:Val),SizeOf.sizeOf v<n->v.ok->ag Tryz.prog aq 60 [v.pv,v.pv] (.int .i64 0):=by
 intro n
 induction n with
 | zero=>intro v h;omega
 | succ n ih=>
   intro v hn hv
   obtain⟨k,a,s,t,l,f⟩:=v
   rw[Val.ok_mk] at hv
   obtain⟨_,_,_,ht,hl,hlo,hf,hfo⟩:=hv
   have h68:=zW t t ht ht
   rw[iJ] at h68
   have hsl:=Aq (f.length:Int) (f.length:Int)
   rw[show IS (f.length:Int) (f.length:Int)=0 by unfold IS;rw[if_neg (by omega),if_neg (by omega)]] at hsl
   have hL:∀ x∈l,ag Tryz.prog aq 60 [x.pv,x.pv] (.int .i64 0):=fun x hx=>ih x (by have:=List.sizeOf_lt_of_mem hx;simp only[Val.mk.sizeOf_spec] at hn;omega) (hlo x hx)
   have hF:∀ x∈f,ag Tryz.prog aq 68 [.str x.name,.str x.name] (.int .i64 0)/\ag Tryz.prog aq 60 [x.value.pv,x.value.pv] (.int .i64 0):=fun x hx=>by
    have hxo:=hfo x hx
    obtain⟨nm,u⟩:=x
    rw[Fld.ok_mk] at hxo
    have h1:=zW nm nm hxo.1 hxo.1
    rw[iJ] at h1
    exact⟨h1,ih u (by have:=List.sizeOf_lt_of_mem hx;simp only[Val.mk.sizeOf_spec,Fld.mk.sizeOf_spec] at hn this;omega) hxo.2⟩
   clear ih hn
   simp only[Val.pv_mk]
   refine ag.intro Q60.2 (by simp[Q60]) ?_
   simp(disch:=try exact dI) only[Q60,push_cast,seval]
   refine ab.pure h68 rfl ?_
   refine zgZ ?_
   refine az ([]) (fun i:Nat=>[(6,.pv (.int .i64 (i:Int)))]) (fun _=>[]) (fun i=>i<=l.length) (fun i=>l.length - i) (0) ?_;intro e0 σ0 n0 h0;simp(disch:=try exact dI) only[push_cast,seval] at h0;obtain⟨rfl,rfl,rfl⟩:=h0;refine⟨?_,?_,?_⟩
   ·exact qsZ
   ·omega
   rintro i hi
   by_cases hlt:i<l.length
   ·have hltI:(i:Int)<(l.length:Int):=by omega
    obtain⟨x,hx⟩:∃ x,l[i]? = some x:=⟨_,List.getElem?_eq_getElem hlt⟩
    have hc:=hL x (List.mem_of_getElem? hx)
    obtain⟨xk,xn,xs,xt,xl,xf⟩:=x
    simp only[Val.pv_mk] at hc
    simp(disch:=try exact dI) only[hltI,hx,Option.map_some,Val.pv_mk,ae,push_cast,seval]
    refine ab.pure hc rfl ?_
    refine zgZ ?_
    exact⟨i+1,aV qsZ,by omega,by omega⟩
   ·have hltI:¬ (i:Int)<(l.length:Int):=by omega
    simp(disch:=try exact dI) only[hltI,push_cast,seval]
    refine az ([]) (fun j:Nat=>[(8,.pv (.int .i64 (j:Int)))]) (fun _=>[]) (fun j=>j<=f.length) (fun j=>f.length - j) (0) ?_;intro e0 σ0 n0 h0;simp(disch:=try exact dI) only[push_cast,seval] at h0;obtain⟨rfl,rfl,rfl⟩:=h0;refine⟨?_,?_,?_⟩
    ·exact qsZ
    ·omega
    rintro j hj
    by_cases hlj:j<f.length
    ·have hljI:(j:Int)<(f.length:Int):=by omega
     obtain⟨x,hx⟩:∃ x,f[j]? = some x:=⟨_,List.getElem?_eq_getElem hlj⟩
     obtain⟨c1,c2⟩:=hF x (List.mem_of_getElem? hx)
     obtain⟨nm,⟨xk,xn,xs,xt,xl,xf⟩⟩:=x
     simp only[Fld.name,Fld.value,Val.pv_mk] at c1 c2
     simp(disch:=try exact dI) only[hljI,hx,Option.map_some,Fld.pv_mk,Val.pv_mk,ae,push_cast,seval]
     refine ab.pure c1 rfl ?_
     simp(disch:=try exact dI) only[hx,Option.map_some,Fld.pv_mk,Val.pv_mk,ae,push_cast,seval]
     refine ab.pure c2 rfl ?_
     refine zgZ ?_
     exact⟨j+1,aV qsZ,by omega,by omega⟩
    ·have hljI:¬ (j:Int)<(f.length:Int):=by omega
     simp(disch:=try exact dI) only[hljI,push_cast,seval]
     refine ab.pure hsl rfl ?_
     exact qsZ
theorem Mm (v:Val)(hv:v.ok):ag Tryz.prog aq 19 [v.pv,v.pv] (.bool true):=by
 have h:=DH _ v (Nat.lt_succ_self _) hv
 obtain⟨k,a,s,t,l,f⟩:=v
 simp only[Val.pv_mk] at h ⊢
 refine ag.intro Q19.2 (by simp[Q19]) ?_
 simp(disch:=try exact dI) only[Q19,push_cast,seval]
 refine ab.pure h rfl ?_
 exact qsZ
theorem C8 (v:Val)(hv:v.ok)(h9:v.kind=9)(name:List UInt8):(v.fields.find? (aF name)=none/\ag Tryz.prog aq 25 [v.pv,.str name] (.int .i64 (-1)))\/∃ (k:Nat) (y:Fld),v.fields[k]? = some y/\v.fields.find? (aF name)=some y/\ag Tryz.prog aq 25 [v.pv,.str name] (.int .i64 (k:Int)):=by
 obtain⟨vk,vn,vs,vt,vl,vf⟩:=v
 simp only[Val.kind] at h9
 subst h9
 rw[Val.ok_mk] at hv
 have h:=Me vn vs vt vl vf name (by omega)
 simp only[Val.fields]
 rcases bA (p:=aF name) vf 0 with ⟨h1,h2⟩ | ⟨k,x,h1,h2,h3⟩
 ·rw[h2] at h;exact .inl ⟨h1,h⟩
 ·rw[h3,Nat.zero_add] at h;exact .inr ⟨k,x,h1,h2,h⟩
def lj (x:Fld):List Fld->List Fld
 | []=>[x]
 | y::r=>if Lib.compareBytes y.name x.name<0 then y::lj x r else x::y::r
theorem kx (x:Fld):∀ L:List Fld,(lj x L).Perm (x::L)
 | []=>List.Perm.refl _
 | y::r=>by
   rw[lj]
   split
   ·exact ((kx x r).cons y).trans (List.Perm.swap x y r)
   ·exact List.Perm.refl _
theorem uu:∀ a b:List UInt8,Lib.compareBytes a b<0\/a=b\/Lib.compareBytes b a<0
 | [],[]=>.inr (.inl rfl)
 | [],_::_=>.inl (by simp[Lib.compareBytes])
 | _::_,[]=>.inr (.inr (by simp[Lib.compareBytes]))
 | x::p,y::q=>by
   simp only[Lib.compareBytes,UInt8.lt_iff_toNat_lt]
   by_cases h1:x.toNat<y.toNat
   ·exact .inl (by rw[if_pos h1];omega)
   ·by_cases h2:y.toNat<x.toNat
    ·exact .inr (.inr (by rw[if_pos h2];omega))
    ·have he:x=y:=UInt8.toNat_inj.1 (by omega)
     rw[if_neg h1,if_neg h2,if_neg h2,if_neg h1]
     rcases uu p q with h | h | h
     ·exact .inl h
     ·exact .inr (.inl (by rw[he,h]))
     ·exact .inr (.inr h)
def ltF (a b:Fld):Prop:=Lib.compareBytes a.name b.name<0
theorem kw (x:Fld):∀ L:List Fld,L.Pairwise ltF->(∀ y∈L,y.name≠x.name)->(lj x L).Pairwise ltF
 | [],_,_=>List.pairwise_singleton _ _
 | y::r,h,hn=>by
   rw[List.pairwise_cons] at h
   rw[lj]
   split
   ·rename_i hlt
    refine List.pairwise_cons.2 ⟨fun z hz=>?_,kw x r h.2 fun z hz=>hn z (List.mem_cons_of_mem _ hz)⟩
    rcases List.mem_cons.1 ((kx x r).mem_iff.1 hz) with rfl | hz
    ·exact hlt
    ·exact h.1 z hz
   ·rename_i hlt
    have hxy:ltF x y:=by
     rcases uu x.name y.name with h1 | h1 | h1
     ·exact h1
     ·exact absurd h1.symm (hn y (List.mem_cons_self ..))
     ·exact absurd h1 hlt
    refine List.pairwise_cons.2 ⟨fun z hz=>?_,List.pairwise_cons.2 h⟩
    rcases List.mem_cons.1 hz with rfl | hz
    ·exact hxy
    ·exact gM _ _ _ hxy (h.1 z hz)
theorem N1 {l fs:List Fld}(hp2:fs.Pairwise ltF)(hp0:l.Perm fs):srt l=fs:=by
 have hs:(srt l).Pairwise fun a b=>¬ Lib.compareBytes b.name a.name<0:=by
  rw[List.pairwise_iff_getElem]
  intro i j hi hj hij
  exact vu l i j _ _ hij (List.getElem?_eq_getElem hi) (List.getElem?_eq_getElem hj)
 have hpp:=(mM l).trans hp0
 refine List.Perm.eq_of_pairwise (le:=fun a b=>¬ Lib.compareBytes b.name a.name<0) ?_ hs (hp2.imp fun {a b} hab hba=>?_) hpp
 ·intro a b ha hb h1 h2
  have hb':=hb
  have ha':=hpp.mem_iff.1 ha
  obtain⟨i,hi,rfl⟩:=List.getElem_of_mem ha'
  obtain⟨j,hj,rfl⟩:=List.getElem_of_mem hb'
  have hpw:=List.pairwise_iff_getElem.1 hp2
  rcases Nat.lt_trichotomy i j with h | h | h
  ·exact absurd (hpw i j hi hj h) h2
  ·subst h;rfl
  ·exact absurd (hpw j i hj hi h) h1
 ·have:=gM _ _ _ hab hba
  rw[iJ] at this
  exact absurd this (by decide)
theorem LT {x:Fld}:∀ (L:List Fld) (j:Nat),lj x L=L.take j++lj x (L.drop j)->∀ y,L[j]? = some y->Lib.compareBytes y.name x.name<0->lj x L=L.take (j+1)++lj x (L.drop (j+1)):=fun L j h y hy hlt=>by
 rw[h,b9 hy,lj,if_pos hlt,aH hy,List.append_assoc];rfl
theorem po {x:Fld}{L:List Fld}{j:Nat}(h:lj x L=L.take j++lj x (L.drop j))(hs:∀ y,L[j]? = some y->¬ Lib.compareBytes y.name x.name<0):lj x L=L.take j++x::L.drop j:=by
 rw[h]
 congr 1
 cases hd:L.drop j with
 | nil=>rfl
 | cons y r=>
   have hy:L[j]? = some y:=by
    have:=congrArg List.head? hd
    rw[List.head?_drop] at this;exact this
   rw[lj,if_neg (hs y hy)]
theorem MQ (L:List Fld):(L.all fun x=>x.pv.cells.length == 7)=true:=List.all_eq_true.2 fun x _=>by rw[Fld.cells_len];rfl
end Go.Proofs.YtbojpfpliibfbaaGreatDoor

/- A part. -/
import Derived.Test.YtamoeblcphjbaaaGreatDoorTyL4
set_option linter.unusedVariables false
set_option linter.unusedSimpArgs false
set_option maxRecDepth 100000
open List renaming getElem?_eq_getElem->WE,mem_of_getElem?->WK,map_nil->Xp,append_assoc->WS,length_nil->WL,mem_cons_of_mem->Xj,mem_cons->W9,map_cons->WP,flatMap_cons->Xf,append_nil->W7,length_append->WF,length_cons->WG,mem_map->Xo
namespace Go.Proofs.YtamoeblcphjbaaaGreatDoor
open Go Go.Ab
attribute [local irreducible] vc
section
variable (f:Nat)(n s:Int)(t:List UInt8)(l:List Val)(fs:List Fld)
theorem Ha (ih:∀ x∈fs,am Tryz.prog aC 17 [x.value.pv] (.str (aF f x.value)))(hN:fs.length<=64)(hj:∀ i,(aM [44,32] ((fs.take i).map (iE f))).length<=100000000)(hb:∀ x∈fs,x.name.length<=1024/\(aF f x.value).length<=100000000) :
  am Tryz.prog aC 17 [(Val.mk 9 n s t l fs).pv] (.str (aF (f+1) (.mk 9 n s t l fs))):=by
 rw[show aF (f+1) (.mk 9 n s t l fs)=[123]++aM [44,32] (fs.map (iE f))++[125] from rfl]
 refine am.intro Q17.2 (by simp[Q17]) ?_
 simp(disch:=try exact dI) only[Q17,WD,push_cast,seval]
 refine aG ([]) (fun i:Nat=>[(11,.pv (.str ([123]++aM [44,32] ((fs.take i).map (iE f))))),(12,.pv (.int .i64 (i:Int)))]) (fun _=>[]) (fun i=>i<=fs.length) (fun i=>fs.length - i) (0) ?_;intro e0 σ0 n0 h0;simp(disch:=try exact dI) only[push_cast,seval] at h0;obtain⟨rfl,rfl,rfl⟩:=h0;refine⟨?_,?_,?_⟩
 ·refine zgZ ?_
  exact .refl _
 ·omega
 ·rintro i hi
  have hji:=hj i
  by_cases hlt:i<fs.length
  ·have hltI:(i:Int)<(fs.length:Int):=by omega
   obtain⟨x,hx⟩:∃ x,fs[i]? = some x:=⟨_,WE hlt⟩
   have hx':(fs.map Fld.pv)[i]? = some x.pv:=by simp[hx]
   have hc:=ih x (WK hx)
   obtain⟨b1,b2⟩:=hb x (WK hx)
   have hts:(fs.take (i+1)).map (iE f)=(fs.take i).map (iE f)++[x.name++[58,32]++aF f x.value]:=by rw[aK hx];simp[iE]
   by_cases h0:i=0
   ·subst h0
    have hQ:aM [44,32] ((fs.take (0+1)).map (iE f))=x.name++[58,32]++aF f x.value:=by rw[hts];rfl
    obtain⟨nm,x⟩:=x
    simp only[Fld.value,Fld.name] at hc b1 b2 hQ
    generalize aF f x=X at *
    obtain⟨xk,xn,xs,xt,xl,xf⟩:=x
    simp only[Wq,WD] at hx' hc
    have hl0:(0:Int)<(fs.length:Int):=by omega
    have hj0:aM [44,32] ([]:List (List UInt8))=[]:=rfl
    simp(disch:=try exact dI) only[hltI,hl0,hx',aJ,List.take_zero,Xp,hj0,push_cast,seval]
    refine ag hc rfl ?_
    refine zgZ ?_
    exact⟨1,bl (by simp(disch:=try exact dI) only[hQ,WS,push_cast,seval]),by omega,by omega⟩
   ·have h0I:(0:Int)<(i:Int):=by omega
    have hne:(fs.take i).map (iE f)≠[]:=by
     intro h
     have:=congrArg List.length h
     rw[List.length_map,List.length_take,WL] at this;omega
    have hQ:aM [44,32] ((fs.take (i+1)).map (iE f))=aM [44,32] ((fs.take i).map (iE f))++([44,32]++(x.name++[58,32]++aF f x.value)):=by rw[hts,r7 _ _ hne]
    obtain⟨nm,x⟩:=x
    simp only[Fld.value,Fld.name] at hc b1 b2 hQ
    generalize aF f x=X at *
    generalize aM [44,32] ((fs.take i).map (iE f))=J at *
    obtain⟨xk,xn,xs,xt,xl,xf⟩:=x
    simp only[Wq,WD] at hx' hc
    simp(disch:=try exact dI) only[hltI,h0I,hx',push_cast,seval]
    refine ag hc rfl ?_
    refine zgZ ?_
    exact⟨i+1,bl (by simp(disch:=try exact dI) only[hQ,WS,push_cast,seval]),by omega,by omega⟩
  ·have hltI:¬ (i:Int)<(fs.length:Int):=by omega
   obtain rfl:i=fs.length:=by omega
   rw[List.take_length] at *
   generalize aM [44,32] (fs.map (iE f))=J at *
   simp(disch:=try exact dI) only[hltI,push_cast,seval]
end
open Go.RowKit
theorem qk:∀ (L:List (Int×Val)) (i:Nat),lz i L=0->∀ (j:Nat) (q:Int×Val),L[j]? = some q->bM (i+j) q=0
 | [],_,_,j,q,h=>by simp at h
 | p::r,i,h,0,q,hq=>by
   simp only[List.getElem?_cons_zero,Option.some.injEq] at hq
   subst hq
   unfold lz at h
   split at h
   ·rename_i hs;exact hs
   ·exact absurd h ‹_›
 | p::r,i,h,j+1,q,hq=>by
   unfold lz at h
   split at h
   ·have:=qk r (i+1) h j q (by simpa using hq)
    rwa [show i+1+j=i+(j+1) by omega] at this
   ·exact absurd h ‹_›
def Jt (x:Val):Prop:=1<=x.kind/\x.kind<=10/\eA x=true/\bv x=0
theorem lP {i:Nat}{q:Int×Val}(h:bM i q=0):i<4096/\Jt q.2:=by
 by_cases c1:4096<=i
 ·rw[tx c1] at h;omega
 by_cases c2:8<q.1
 ·rw[tw c1 c2] at h;omega
 cases c3:gw q.2 with
 | true=>rw[Cc c1 c2 c3] at h;omega
 | false=>
   by_cases c4:q.2.kind<1\/10<q.2.kind
   ·rw[Cb c1 c2 c3 c4] at h;omega
   cases c5:eA q.2 with
   | false=>rw[Ca c1 c2 c3 c4 c5] at h;omega
   | true=>
     rw[tv c1 c2 c3 c4 c5] at h
     exact⟨by omega,by omega,by omega,c5,h⟩
def PB (n:Nat)(lv:Int)(v:Val):Prop:=∀ q∈bF n lv v,Jt q.2
theorem EE {n:Nat}{lv:Int}{v:Val}(h:lz 0 (bF n lv v)=0):PB n lv v/\(bF n lv v).length<=4096:=by
 refine⟨fun q hq=>?_,?_⟩
 ·obtain⟨j,hj⟩:=List.getElem?_of_mem hq
  exact (lP (qk _ 0 h j q hj)).2
 ·cases hL:(bF n lv v).length with
  | zero=>omega
  | succ k=>
    have hk:(bF n lv v)[k]? = some (bF n lv v)[k]:=WE (by omega)
    have:=(lP (qk _ 0 h k _ hk)).1
    omega
theorem gB {n:Nat}{lv:Int}{v x:Val}(h:PB (n+1) lv v)(hx:x∈bu v):PB n (wrap64 (lv+1)) x:=fun q hq=>by
 refine h q ?_
 rw[bF]
 exact Xj _ (List.mem_flatMap.2 ⟨x,hx,hq⟩)
theorem mN {n:Nat}{lv:Int}{v:Val}(h:PB (n+1) lv v):Jt v:=h (lv,v) (by rw[bF];exact List.mem_cons_self)
theorem rG:∀ (L:List (List UInt8)) (p:Option (List UInt8)),eq p L=0->∀ s∈L,bz s=true
 | [],_,_,s,hs=>by simp at hs
 | a::r,p,h,s,hs=>by
   unfold eq at h
   split at h
   ·omega
   ·rename_i ha
    split at h
    ·omega
    split at h
    ·omega
    rcases W9.1 hs with rfl | hs
    ·simpa using ha
    ·exact rG r _ h s hs
theorem rI {s:List UInt8}(h:bz s=true):s.length<=32:=by
 unfold bz at h
 simp only[Bool.and_eq_true,decide_eq_true_eq] at h
 exact h.2.1
theorem fC {α β:Type}(g:α->List UInt8)(h:α->List β):∀ l:List α,(∀ x∈l,(g x).length+40<=8000*(h x).length)->(aM [44,32] (l.map g)).length<=8000*(l.flatMap h).length
 | [],_=>by simp[aM]
 | [x],hx=>by
   have:=hx x (by simp)
   simp only[WP,Xp,aM,Xf,List.flatMap_nil,W7]
   omega
 | x::y::r,hx=>by
   have h1:=hx x (by simp)
   have h2:=fC g h (y::r) fun z hz=>hx z (Xj _ hz)
   rw[Xf,WF]
   simp only[WP,aM,WF] at h2 ⊢
   simp only[WG,WL] at h2 ⊢
   omega
theorem Jk (s:List UInt8):(ox s).length=2*s.length+3:=by
 rw[ox,WG,WG,WF,gD];rfl
theorem PQ {n a b:Int}(h:iB n a b=0):a<=n/\n<=b:=by
 unfold iB at h;split at h<;>omega
theorem Rp {n m e:Int}(he:e≠0)(h:fb n m e=0):n<=m:=by
 unfold fb at h;split at h
 ·exact absurd h he
 ·omega
theorem Cr {n s:Int}{t:List UInt8}{l:List Val}{fs:List Fld}(h:bv (.mk 2 n s t l fs)=0):-999999999999999<=n/\n<=999999999999999:=PQ h
theorem nW {n s:Int}{t:List UInt8}{l:List Val}{fs:List Fld}(h:bv (.mk 3 n s t l fs)=0):IsN n s.toNat/\0<=s:=by
 rw[show bv (.mk 3 n s t l fs)=(if iB n (-999999999999999) 999999999999999=0 then iB s 0 12 else iB n (-999999999999999) 999999999999999) from rfl] at h
 split at h
 ·rename_i h0
  have h1:=PQ h0
  have h2:=PQ h
  exact⟨⟨h1.1,h1.2,by omega⟩,h2.1⟩
 ·exact absurd h ‹_›
theorem Cq {n s:Int}{t:List UInt8}{l:List Val}{fs:List Fld}(h:bv (.mk 4 n s t l fs)=0):t.length<=1024:=by
 rw[show bv (.mk 4 n s t l fs)=(if fb t.length 1024 5=0 then (if Lib.validD t=true then 0 else 16) else fb t.length 1024 5) from rfl] at h
 split at h
 ·rename_i h0
  have:=Rp (by omega) h0;omega
 ·exact absurd h ‹_›
theorem Cp {n s:Int}{t:List UInt8}{l:List Val}{fs:List Fld}(h:bv (.mk 5 n s t l fs)=0):t.length<=1024:=by
 have:=Rp (n:=(t.length:Int)) (m:=1024) (e:=5) (by omega) h;omega
theorem wc {n s:Int}{t:List UInt8}{l:List Val}{fs:List Fld}(h:bv (.mk 6 n s t l fs)=0):-719162<=n/\n<=2932896:=PQ h
theorem wb {n s:Int}{t:List UInt8}{l:List Val}{fs:List Fld}(h:bv (.mk 7 n s t l fs)=0):-62135596800000<=n/\n<=253402300799999:=PQ h
theorem K2 {n s:Int}{t:List UInt8}{l:List Val}{fs:List Fld}(h:bv (.mk 8 n s t l fs)=0):l.length<=256:=by
 have:=Rp (n:=(l.length:Int)) (m:=256) (e:=9) (by omega) h;omega
theorem Co {n s:Int}{t:List UInt8}{l:List Val}{fs:List Fld}(h:bv (.mk 9 n s t l fs)=0):fs.length<=64/\∀ x∈fs,x.name.length<=32:=by
 rw[show bv (.mk 9 n s t l fs)=(if fb fs.length 64 9=0 then eq none (fs.map Fld.name) else fb fs.length 64 9) from rfl] at h
 split at h
 ·rename_i h0
  have h1:=Rp (by omega) h0
  exact⟨by omega,fun x hx=>rI (rG _ _ h _ (Xo.2 ⟨x,hx,rfl⟩))⟩
 ·exact absurd h ‹_›
theorem ph {n s:Int}{t:List UInt8}{l:List Val}{fs:List Fld}(h:bv (.mk 10 n s t l fs)=0):t.length<=32/\∃ x,l=[x]:=by
 rw[show bv (.mk 10 n s t l fs)=(if bz t=false then 12 else if l.length=0 then 4 else fb l.length 1 3) from rfl] at h
 split at h
 ·omega
 ·rename_i h0
  split at h
  ·omega
  ·have:=Rp (n:=(l.length:Int)) (m:=1) (e:=3) (by omega) h
   exact⟨rI (by simpa using h0),List.length_eq_one_iff.1 (by omega)⟩
theorem Oe {P:Val->Prop}(v:Val)(h:1<=v.kind/\v.kind<=10)
  (h1:∀ n s t l fs,v = .mk 1 n s t l fs->P v) (h2:∀ n s t l fs,v = .mk 2 n s t l fs->P v) (h3:∀ n s t l fs,v = .mk 3 n s t l fs->P v) (h4:∀ n s t l fs,v = .mk 4 n s t l fs->P v) (h5:∀ n s t l fs,v = .mk 5 n s t l fs->P v)
  (h6:∀ n s t l fs,v = .mk 6 n s t l fs->P v) (h7:∀ n s t l fs,v = .mk 7 n s t l fs->P v) (h8:∀ n s t l fs,v = .mk 8 n s t l fs->P v) (h9:∀ n s t l fs,v = .mk 9 n s t l fs->P v) (h10:∀ n s t l fs,v = .mk 10 n s t l fs->P v):P v:=by
 obtain⟨k,n,s,t,l,fs⟩:=v
 have hc:k=1\/k=2\/k=3\/k=4\/k=5\/k=6\/k=7\/k=8\/k=9\/k=10:=by simp only[Val.kind] at h;omega
 rcases hc with rfl | rfl | rfl | rfl | rfl | rfl | rfl | rfl | rfl | rfl
 ·exact h1 _ _ _ _ _ rfl
 ·exact h2 _ _ _ _ _ rfl
 ·exact h3 _ _ _ _ _ rfl
 ·exact h4 _ _ _ _ _ rfl
 ·exact h5 _ _ _ _ _ rfl
 ·exact h6 _ _ _ _ _ rfl
 ·exact h7 _ _ _ _ _ rfl
 ·exact h8 _ _ _ _ _ rfl
 ·exact h9 _ _ _ _ _ rfl
 ·exact h10 _ _ _ _ _ rfl
theorem iU:∀ (f:Nat) (lv:Int) (v:Val),ia f v->PB f lv v->(aF f v).length+100<=8000*(bF f lv v).length
 | 0,_,_,hd,_=>hd.elim
 | f+1,lv,v,hd,hg=>by
   obtain⟨k1,k2,hu,hr⟩:=mN hg
   have hlen:(bF (f+1) lv v).length=((bu v).flatMap (bF f (wrap64 (lv+1)))).length+1:=by rw[bF,WG]
   have ih:∀ x∈bu v,(aF f x).length+100<=8000*(bF f (wrap64 (lv+1)) x).length:=fun x hx=>iU f _ x (hd x hx) (gB hg hx)
   rw[hlen]
   clear hlen hg hd
   refine Oe (P:=fun v=>bv v=0->(∀ x∈bu v,(aF f x).length+100<=8000*(bF f (wrap64 (lv+1)) x).length)->(aF (f+1) v).length+100<=8000*(((bu v).flatMap (bF f (wrap64 (lv+1)))).length+1)) v ⟨k1,k2⟩ ?_ ?_ ?_ ?_ ?_ ?_ ?_ ?_ ?_ ?_ hr ih<;>(rintro n s t l fs rfl hr ih)
   ·rw[show aF (f+1) (.mk 1 n s t l fs)=(if n=1 then [116,114,117,101] else [102,97,108,115,101]) from rfl]
    split<;>simp<;>omega
   ·rw[show aF (f+1) (.mk 2 n s t l fs)=aN n from rfl]
    have:=mJ n;omega
   ·rw[show aF (f+1) (.mk 3 n s t l fs)=cl n s.toNat++(if s=0 then [100] else []) from rfl,WF]
    have:=cw (nW hr).1
    split<;>simp<;>omega
   ·rw[show aF (f+1) (.mk 4 n s t l fs)=aA t from rfl]
    have:=bf t
    have:=Cq hr;omega
   ·rw[show aF (f+1) (.mk 5 n s t l fs)=ox t from rfl,Jk]
    have:=Cp hr;omega
   ·rw[show aF (f+1) (.mk 6 n s t l fs)=[100,97,116,101,32]++aA (gV n) from rfl,WF]
    have h1:=(iH (wc hr)).2.2
    have:=bf (gV n)
    simp only[WG,WL];omega
   ·rw[show aF (f+1) (.mk 7 n s t l fs)=[116,105,109,101,32]++aA (ct n) from rfl,WF]
    have h1:=(fl (wb hr)).2.2
    have:=bf (ct n)
    simp only[WG,WL];omega
   ·rw[show aF (f+1) (.mk 8 n s t l fs)=[91]++aM [44,32] (l.map (aF f))++[93] from rfl]
    rw[cu (.inl rfl)] at ih ⊢
    have:=fC (aF f) (bF f (wrap64 (lv+1))) l fun x hx=>by have:=ih x hx;omega
    simp only[Val.lst,WF,WG,WL] at this ⊢;omega
   ·rw[show aF (f+1) (.mk 9 n s t l fs)=[123]++aM [44,32] (fs.map (iE f))++[125] from rfl]
    rw[eP rfl] at ih ⊢
    obtain⟨_,hn⟩:=Co hr
    have:=fC (iE f) (fun x=>bF f (wrap64 (lv+1)) x.value) fs fun x hx=>by
     have h1:=ih x.value (Xo.2 ⟨x,hx,rfl⟩)
     have h2:=hn x hx
     unfold iE
     simp only[WF,WG,WL];omega
    simp only[Val.fields,List.flatMap_map,WF,WG,WL] at this ⊢;omega
   ·obtain⟨h1,x,rfl⟩:=ph hr
    rw[show aF (f+1) (.mk 10 n s t [x] fs)=t++[40]++aF f x++[41] from rfl]
    rw[cu (.inr rfl)] at ih ⊢
    have:=ih x (by simp[Val.lst])
    simp only[Val.lst,Xf,List.flatMap_nil,W7,WF,WG,WL];omega
theorem pr {α β:Type}(h:α->List β):∀ {l:List α} {x:α},x∈l->(h x).length<=(l.flatMap h).length
 | y::r,x,hx=>by
   rw[Xf,WF]
   rcases W9.1 hx with rfl | hx
   ·omega
   ·have:=pr h hx;omega
theorem gh {α β:Type}(h:α->List β):∀ (l:List α) (i:Nat),((l.take i).flatMap h).length<=(l.flatMap h).length
 | [],i=>by simp
 | x::r,0=>by simp
 | x::r,i+1=>by
   have:=gh h r i
   rw[List.take_succ_cons,Xf,Xf,WF,WF];omega
theorem qF:∀ (f:Nat) (lv:Int) (v:Val),ia f v->PB f lv v->(bF f lv v).length<=4096->am Tryz.prog aC 37 [v.pv] (.str (aF f v))
 | 0,_,_,hd,_,_=>hd.elim
 | f+1,lv,v,hd,hg,hc=>by
   obtain⟨k1,k2,hu,hr⟩:=mN hg
   have hlen:(bF (f+1) lv v).length=((bu v).flatMap (bF f (wrap64 (lv+1)))).length+1:=by rw[bF,WG]
   rw[hlen] at hc
   have hx:∀ x∈bu v,(aF f x).length+100<=8000*(bF f (wrap64 (lv+1)) x).length/\(bF f (wrap64 (lv+1)) x).length<=4096/\am Tryz.prog aC 37 [x.pv] (.str (aF f x)):=fun x hx=>by
    have h1:=pr (bF f (wrap64 (lv+1))) hx
    exact⟨iU f _ x (hd x hx) (gB hg hx),by omega,qF f _ x (hd x hx) (gB hg hx) (by omega)⟩
   clear hlen hg hd
   refine Oe (P:=fun v=>bv v=0->((bu v).flatMap (bF f (wrap64 (lv+1)))).length+1<=4096->(∀ x∈bu v,(aF f x).length+100<=8000*(bF f (wrap64 (lv+1)) x).length/\(bF f (wrap64 (lv+1)) x).length<=4096/\am Tryz.prog aC 37 [x.pv] (.str (aF f x)))->am Tryz.prog aC 37 [v.pv] (.str (aF (f+1) v))) v ⟨k1,k2⟩ ?_ ?_ ?_ ?_ ?_ ?_ ?_ ?_ ?_ ?_ hr hc hx<;>(rintro n s t l fs rfl hr hc hx)
   ·exact G9 f n s t l fs
   ·exact G8 f n s t l fs (Cr hr)
   ·exact G7 f n s t l fs (nW hr).1 (nW hr).2
   ·exact G6 f n s t l fs (Cq hr)
   ·exact G5 f n s t l fs (Cp hr)
   ·exact G4 f n s t l fs (wc hr)
   ·exact G3 f n s t l fs (wb hr)
   ·rw[cu (.inl rfl)] at hc hx
    simp only[Val.lst] at hc hx
    exact G2 f n s t l fs (fun x h=>(hx x h).2.2) (K2 hr) (by
     have:=fC (aF f) (bF f (wrap64 (lv+1))) l fun x h=>by have:=(hx x h).1;omega
     omega)
   ·rw[eP rfl] at hc hx
    obtain⟨hN,hn⟩:=Co hr
    simp only[Val.fields,List.flatMap_map] at hc hx
    have hy:∀ x∈fs,(aF f x.value).length+100<=8000*(bF f (wrap64 (lv+1)) x.value).length/\(bF f (wrap64 (lv+1)) x.value).length<=4096/\am Tryz.prog aC 37 [x.value.pv] (.str (aF f x.value)):=fun x h=>hx x.value (Xo.2 ⟨x,h,rfl⟩)
    have hs:∀ x∈fs,(iE f x).length+40<=8000*(bF f (wrap64 (lv+1)) x.value).length:=fun x h=>by
     have h1:=(hy x h).1
     have h2:=hn x h
     unfold iE
     simp only[WF,WG,WL];omega
    exact G1 f n s t l fs (fun x h=>(hy x h).2.2) hN (fun x h=>⟨by have:=hn x h;omega,by have:=hy x h;omega⟩) (by
     have:=fC (iE f) (fun x=>bF f (wrap64 (lv+1)) x.value) fs hs
     omega)
   ·obtain⟨h1,x,rfl⟩:=ph hr
    rw[cu (.inr rfl)] at hx
    obtain⟨a1,a2,a3⟩:=hx x (by simp[Val.lst])
    exact BT f n s t fs x a3 (by omega) (by omega)
theorem qG:∀ (f:Nat) (lv:Int) (v:Val),ia f v->PB f lv v->(bF f lv v).length<=4096->am Tryz.prog aC 17 [v.pv] (.str (aF f v))
 | 0,_,_,hd,_,_=>hd.elim
 | f+1,lv,v,hd,hg,hc=>by
   obtain⟨k1,k2,hu,hr⟩:=mN hg
   have hlen:(bF (f+1) lv v).length=((bu v).flatMap (bF f (wrap64 (lv+1)))).length+1:=by rw[bF,WG]
   rw[hlen] at hc
   have hx:∀ x∈bu v,(aF f x).length+100<=8000*(bF f (wrap64 (lv+1)) x).length/\(bF f (wrap64 (lv+1)) x).length<=4096/\am Tryz.prog aC 17 [x.pv] (.str (aF f x)):=fun x hx=>by
    have h1:=pr (bF f (wrap64 (lv+1))) hx
    exact⟨iU f _ x (hd x hx) (gB hg hx),by omega,qG f _ x (hd x hx) (gB hg hx) (by omega)⟩
   clear hlen hg hd
   refine Oe (P:=fun v=>bv v=0->((bu v).flatMap (bF f (wrap64 (lv+1)))).length+1<=4096->(∀ x∈bu v,(aF f x).length+100<=8000*(bF f (wrap64 (lv+1)) x).length/\(bF f (wrap64 (lv+1)) x).length<=4096/\am Tryz.prog aC 17 [x.pv] (.str (aF f x)))->am Tryz.prog aC 17 [v.pv] (.str (aF (f+1) v))) v ⟨k1,k2⟩ ?_ ?_ ?_ ?_ ?_ ?_ ?_ ?_ ?_ ?_ hr hc hx<;>(rintro n s t l fs rfl hr hc hx)
   ·exact Hj f n s t l fs
   ·exact Hi f n s t l fs (Cr hr)
   ·exact Hh f n s t l fs (nW hr).1 (nW hr).2
   ·exact Hg f n s t l fs (Cq hr)
   ·exact Hf f n s t l fs (Cp hr)
   ·exact He f n s t l fs (wc hr)
   ·exact Hc f n s t l fs (wb hr)
   ·rw[cu (.inl rfl)] at hc hx
    simp only[Val.lst] at hc hx
    exact Hb f n s t l fs (fun x h=>(hx x h).2.2) (K2 hr) (fun i=>by
     have h1:=fC (aF f) (bF f (wrap64 (lv+1))) (l.take i) fun x h=>by have:=(hx x (List.mem_of_mem_take h)).1;omega
     have h2:=gh (bF f (wrap64 (lv+1))) l i
     omega) (fun x h=>by have:=hx x h;omega)
   ·rw[eP rfl] at hc hx
    obtain⟨hN,hn⟩:=Co hr
    simp only[Val.fields,List.flatMap_map] at hc hx
    have hy:∀ x∈fs,(aF f x.value).length+100<=8000*(bF f (wrap64 (lv+1)) x.value).length/\(bF f (wrap64 (lv+1)) x.value).length<=4096/\am Tryz.prog aC 17 [x.value.pv] (.str (aF f x.value)):=fun x h=>hx x.value (Xo.2 ⟨x,h,rfl⟩)
    have hs:∀ x∈fs,(iE f x).length+40<=8000*(bF f (wrap64 (lv+1)) x.value).length:=fun x h=>by
     have h1:=(hy x h).1
     have h2:=hn x h
     unfold iE
     simp only[WF,WG,WL];omega
    exact Ha f n s t l fs (fun x h=>(hy x h).2.2) hN (fun i=>by
     have h1:=fC (iE f) (fun x=>bF f (wrap64 (lv+1)) x.value) (fs.take i) fun x h=>hs x (List.mem_of_mem_take h)
     have h2:=gh (fun x:Fld=>bF f (wrap64 (lv+1)) x.value) fs i
     omega) (fun x h=>⟨by have:=hn x h;omega,by have:=hy x h;omega⟩)
   ·obtain⟨h1,x,rfl⟩:=ph hr
    rw[cu (.inr rfl)] at hx
    obtain⟨a1,a2,a3⟩:=hx x (by simp[Val.lst])
    exact BU f n s t fs x a3 (by omega) (by omega)
def Rv (x:List UInt8):List UInt8:=if 65536<x.length then [] else x
def Rw (x:List UInt8):Int:=if 65536<x.length then 5 else 0
theorem DV (x:List UInt8):am Tryz.prog aC 36 [.str x] (.tup [.str (Rv x),.int .i64 (Rw x)]):=by
 unfold Rv Rw
 refine am.intro Q36.2 (by simp[Q36]) ?_
 by_cases h:65536<x.length
 ·have hI:(65536:Int)<(x.length:Int):=by omega
  rw[if_pos h,if_pos h]
  simp(disch:=try exact dI) only[Q36,hI,push_cast,seval]
 ·have hI:¬ (65536:Int)<(x.length:Int):=by omega
  rw[if_neg h,if_neg h]
  simp(disch:=try exact dI) only[Q36,hI,push_cast,seval]
def sN:Nat->Val->Prop
 | 0,_=>False
 | n+1,v=>(∀ x∈v.lst,sN n x)/\∀ x∈v.fields,sN n x.value
theorem nr:∀ (n:Nat) (v:Val),sN n v->sN (n+1) v
 | 0,_,h=>h.elim
 | n+1,v,h=>⟨fun x hx=>nr n x (h.1 x hx),fun x hx=>nr n x.value (h.2 x hx)⟩
theorem qp {n m:Nat}(h:n<=m){v:Val}(hv:sN n v):sN m v:=by
 induction h with
 | refl=>exact hv
 | step _ ih=>exact nr _ _ ih
theorem vm {α:Type}(g:α->Val):∀ l:List α,(∀ x∈l,∃ n,sN n (g x))->∃ n,∀ x∈l,sN n (g x)
 | [],_=>⟨0,by simp⟩
 | x::r,h=>by
   obtain⟨n,hn⟩:=h x (by simp)
   obtain⟨m,hm⟩:=vm g r fun y hy=>h y (Xj _ hy)
   refine⟨max n m,fun y hy=>?_⟩
   rcases W9.1 hy with rfl | hy
   ·exact qp (Nat.le_max_left _ _) hn
   ·exact qp (Nat.le_max_right _ _) (hm y hy)
theorem iL (v:Val):∃ n,sN n v:=by
 obtain⟨k,n,s,t,l,fs⟩:=v
 have h1:∀ x∈l,∃ n,sN n x:=fun x hx=>iL x
 have h2:∀ x∈fs,∃ n,sN n x.value:=fun x hx=>by
  obtain⟨nm,y⟩:=x
  exact iL y
 obtain⟨a,ha⟩:=vm id l h1
 obtain⟨b,hb⟩:=vm Fld.value fs h2
 exact⟨max a b+1,fun x hx=>qp (Nat.le_max_left _ _) (ha x hx),fun x hx=>qp (Nat.le_max_right _ _) (hb x hx)⟩
termination_by SizeOf.sizeOf v
decreasing_by
 ·have:=List.sizeOf_lt_of_mem hx;simp;omega
 ·have:=List.sizeOf_lt_of_mem hx;simp at this ⊢;omega
theorem fJ:∀ (n:Nat) (v:Val),sN n v->ia n v
 | 0,_,h=>h
 | n+1,v,h=>fun x hx=>by
   unfold bu at hx
   split at hx
   ·exact fJ n x (h.1 x hx)
   ·split at hx
    ·obtain⟨y,hy,rfl⟩:=Xo.1 hx
     exact fJ n _ (h.2 y hy)
    ·simp at hx
noncomputable def xS (v:Val):Int:=lz 0 (bF (iL v).choose 1 v)
theorem O7 (v:Val)(hv:v.ok):am Tryz.prog aC 15 [v.pv] (.int .i64 (xS v)):=lB _ v (fJ _ v (iL v).choose_spec) hv
section
variable {T:Nat}{p:PV}
theorem rt (s:List UInt8):OkT (cL s):=by
 by_cases h:65536<s.length
 ·rw[lS h];intro h;exact absurd (show (5:Int)=0 from h) (by decide)
 ·rw[lR h]
  rcases Dt (Dr (s:=s) (by omega)) with h2 | h2
  ·exact h2
  ·rw[h2];exact fun _=>⟨bD,by simp[rd0],by simp[rd0],by simp[rd0],fun _=>rfl⟩
theorem Cd (s:List UInt8):(cL s).s=s:=by
 by_cases h:65536<s.length
 ·rw[lS h]
 ·rw[lR h,Pn];rfl
end
def eqK (a b:Tk):Prop:=a.kind=b.kind/\a.text=b.text/\a.bytes=b.bytes/\a.num=b.num/\a.sc=b.sc/\a.dec=b.dec/\a.exa=b.exa
def U4 (R Q:Rd):Prop:=R.e=Q.e/\(R.e=0->eqK R.now Q.now)
def U0:Nat->Rd->Rd
 | 0,R=>R
 | n+1,R=>U0 n (bi R)
def Str (R Q:Rd):Prop:=∀ n,U4 (U0 n R) (U0 n Q)
structure Two (s s':List UInt8)(R Q:Rd):Prop where
 rok:OkR R
 rtk:OkT R
 rs:R.s=s
 qok:OkR Q
 qtk:OkT Q
 qs:Q.s=s'
 str:Str R Q
section
variable {s s':List UInt8}{val:Rd->Val×Rd}
end
def uG:List (List UInt8):=[[98,111,111,108],[105,110,116],[100,101,99,105,109,97,108],[116,101,120,116],[98,121,116,101,115],[100,97,116,101],[116,105,109,101],[108,105,115,116],[114,101,99,111,114,100],[118,97,114,105,97,110,116]]
def Eb:Int->List (List UInt8)->List UInt8->Int
 | _,[],_=>0
 | k,w::r,t=>if w=t then k else Eb (k+1) r t
def bH (t:List UInt8):Int:=Eb 1 uG t
def bX:Typ:=.mk 0 0 0 0 [] [] []
def cR (R:Rd):Int×Rd:=
 let p:=bV R 2
 (p.1.num,if p.2.e=0/\p.1.dec=true then ba p.2 p.1.pos 13 else p.2)
def oS (sc:Int)(R:Rd):Int×Rd:=
 let p:=bV R 2
 (p.1.num,if p.2.e=0/\(p.1.exa=true\/¬ (p.1.sc:Int)=sc) then ba p.2 p.1.pos 13 else p.2)
def eI (b:Rd->Int×Rd)(R:Rd):(Int×Int)×Rd:=
 let p:=b R
 let q:=b (aw p.2 [46,46])
 ((p.1,q.1),q.2)
def uP (R:Rd):List UInt8×Rd:=fX (cR R).2
def sh (R:Rd):Bool×Rd:=bE (uP R).2 [63]
def jp (kind:Rd->Typ×Rd)(R:Rd):Typ×Rd:=kind (aw (sh R).2 [58])
def At (kind:Rd->Typ×Rd)(R:Rd):Rd:=if isT (jp kind R).2 [61]=true/\(sh R).1=true then ba (jp kind R).2 (jp kind R).2.now.pos 13 else (jp kind R).2
def ny (kind:Rd->Typ×Rd)(R:Rd):Bool×Rd:=bE (At kind R) [61]
def pU (kind:Rd->Typ×Rd)(val:Rd->Val×Rd)(R:Rd):TFd×Rd:=
 if (ny kind R).1=true then (.mk (cR R).1 (uP R).1 3 (jp kind R).1 [(val (ny kind R).2).1],(val (ny kind R).2).2)
 else (.mk (cR R).1 (uP R).1 (if (sh R).1=true then 2 else 1) (jp kind R).1 [],(ny kind R).2)
def kB (fld:Rd->TFd×Rd):Nat->Bool->List TFd->Rd->List TFd×Rd
 | 0,_,l,R=>(l,R)
 | k+1,first,l,R=>
   if R.e=0 then
    if first=true then
     let p:=fld R
     kB fld k false (l++[p.1]) p.2
    else if 0<l.length then
     let q:=bE R [44]
     if q.1=true then
      let p:=fld q.2
      kB fld k false (l++[p.1]) p.2
     else (l,q.2)
    else (l,R)
   else (l,R)
def kY:Nat->Bool->List (List UInt8)->Rd->List (List UInt8)×Rd
 | 0,_,l,R=>(l,R)
 | k+1,first,l,R=>
   if R.e=0 then
    if first=true then
     let p:=bV R 3
     kY k false (l++[p.1.bytes]) p.2
    else
     let q:=bE R [124]
     if q.1=true then
      let p:=bV q.2 3
      kY k false (l++[p.1.bytes]) p.2
     else (l,q.2)
   else (l,R)
def cm (kind:Rd->Typ×Rd)(val:Rd->Val×Rd)(k:Int)(R:Rd):Typ×Rd:=
 if k=3 then
  let a:=cR R
  let b:=eI (oS a.1) (aw a.2 [44])
  (.mk 3 b.1.1 b.1.2 a.1 [] [] [],b.2)
 else if k=6 then
  let b:=eI (fun R=>aR R bU) R
  (.mk 6 b.1.1 b.1.2 0 [] [] [],b.2)
 else if k=7 then
  let b:=eI (fun R=>aR R bG) R
  (.mk 7 b.1.1 b.1.2 0 [] [] [],b.2)
 else if k=9\/k=10 then
  let p:=kB (pU kind val) (R.s.length+3) (!isT R [41]) [] R
  (.mk k 0 0 0 [] [] p.1,p.2)
 else if k=4/\R.e=0/\R.now.kind=3 then
  let p:=kY (R.s.length+3) true [] R
  (.mk 4 0 0 0 p.1 [] [],p.2)
 else
  let b:=eI cR R
  if k=8 then
   let p:=kind (aw b.2 [44])
   (.mk 8 b.1.1 b.1.2 0 [] [p.1] [],p.2)
  else (.mk k b.1.1 b.1.2 0 [] [] [],b.2)
def cj (val:Rd->Val×Rd):Nat->Rd->Typ×Rd
 | f,R=>
   if R.e=0 then
    if R.now.kind≠1 then (bX,ba R R.now.pos 13)
    else match f with
     | 0=>(bX,ba R R.now.pos 23)
     | f+1=>
       if bH R.now.text=0 then (bX,ba (bi R) R.now.pos 13)
       else if bH R.now.text=1 then (.mk 1 0 0 0 [] [] [],bi R)
       else
        let p:=cm (cj val f) val (bH R.now.text) (aw (bi R) [40])
        (p.1,aw p.2 [41])
   else (bX,R)
def KF (kind:Rd->Typ×Rd)(s:List UInt8):Prop:=
 ∀ R,OkR R->OkT R->R.s=s->(kind R).1.ok/\cE R (kind R).2/\((kind R).2.e=0->R.now.pos<(kind R).2.now.pos)
theorem o7 {R:Rd}{k:Int}(hR:OkR R)(hT:OkT R)(hk:k≠0):(bV R k).2.e=0->R.now.pos<(bV R k).2.now.pos:=by
 intro he
 by_cases h0:R.e=0
 ·by_cases hx:R.now.kind=k
  ·rw[ku h0 hx] at he ⊢
   exact (bq hR hT).2 he (by rw[hx];exact hk)
  ·rw[take_2 h0 hx] at he
   exact absurd he (bY (by decide))
 ·rw[take_3 h0] at he
  exact absurd he h0
theorem vO {R:Rd}{k:Int}(hT:OkT R):I64 (bV R k).1.num/\(bV R k).1.sc<=100000:=by
 by_cases h0:R.e=0
 ·by_cases hx:R.now.kind=k
  ·rw[ku h0 hx];refine⟨(hT h0).1,?_⟩;show R.now.sc<=100000;have:=(hT h0).2.1;omega
  ·rw[take_2 h0 hx];exact⟨bD,by simp⟩
 ·rw[take_3 h0];exact⟨bD,by simp⟩
theorem cG {R:Rd}(h:OkR R)(ht:OkT R):cE R (cR R).2/\I64 (cR R).1/\((cR R).2.e=0->R.now.pos<(cR R).2.now.pos):=by
 have h1:=dX (k:=2) h ht
 have h2:=o7 (k:=2) h ht (by decide)
 have h3:=vO (R:=R) (k:=2) ht
 unfold cR
 simp only
 refine⟨?_,h3.1,?_⟩
 ·split
  ·exact h1.trans (br (by decide))
  ·exact h1
 ·split
  ·exact fun q=>absurd q (bY (by decide))
  ·exact h2
theorem pc {R:Rd}(sc:Int)(h:OkR R)(ht:OkT R):cE R (oS sc R).2/\I64 (oS sc R).1:=by
 have h1:=dX (k:=2) h ht
 have h3:=vO (R:=R) (k:=2) ht
 unfold oS
 simp only
 refine⟨?_,h3.1⟩
 split
 ·exact h1.trans (br (by decide))
 ·exact h1
theorem dK {b:Rd->Int×Rd}(hb:∀ R,OkR R->OkT R->cE R (b R).2/\I64 (b R).1){R:Rd}(h:OkR R)(ht:OkT R):cE R (eI b R).2/\I64 (eI b R).1.1/\I64 (eI b R).1.2:=by
 have h1:=hb R h ht
 have h2:=h1.1.trans (aO (t:=[46,46]) h1.1.1 h1.1.2.1)
 have h3:=hb _ h2.1 h2.2.1
 exact⟨h2.trans h3.1,h1.2,h3.2⟩
theorem lQ {R:Rd}{t:List UInt8}(h:OkR R)(ht:OkT R):cE R (bE R t).2/\((bE R t).1=true->R.e=0):=by
 unfold bE
 split
 ·rename_i hi
  refine⟨(bq h ht).1,fun _=>?_⟩
  unfold isT at hi
  simp only[Bool.and_eq_true,decide_eq_true_eq] at hi
  exact hi.1.1
 ·exact⟨.refl h ht,fun q=>by cases q⟩

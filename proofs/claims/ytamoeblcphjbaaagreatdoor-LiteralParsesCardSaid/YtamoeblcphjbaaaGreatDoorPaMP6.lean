/- A part of the proof. -/
import Derived.Test.YtamoeblcphjbaaaGreatDoorPaMP3
set_option maxHeartbeats 16000000
set_option maxRecDepth 100000
set_option linter.unusedVariables false
set_option linter.unusedSimpArgs false
namespace Go.Proofs.YtamoeblcphjbaaaGreatDoor
open Go Go.Ab
attribute [local irreducible] vc
def Dd (M:Mo)(a:Nat):(List UInt8×Nat)×Mo:=cZ M a false (en (M.s.drop (a+2)) (a+2) none [])
theorem JI {c:UInt8}{r o:List UInt8}{i:Nat}(h:c.toNat=34):en (c::r) i none o = .done o (i+1):=by rw[en,if_pos ⟨h,rfl⟩]
theorem JH {c:UInt8}{r o:List UInt8}{i:Nat}(h:¬ c.toNat=34)(hc:eG c=none):en (c::r) i none o = .bad i 13:=by rw[en,if_neg (fun q=>h q.1),hc]
theorem FE {c:UInt8}{o:List UInt8}{i n:Nat}(h:¬ c.toNat=34)(hc:eG c=some n):en [c] i none o = .short:=by rw[en,if_neg (fun q=>h q.1),hc];rfl
theorem FF {c b:UInt8}{r o:List UInt8}{i n:Nat}(h:¬ c.toNat=34)(hc:eG c=some n)(hb:eG b=none):en (c::b::r) i none o = .bad (i+1) 13:=by
 rw[en,if_neg (fun q=>h q.1),hc]
 simp only
 rw[en,if_neg (fun q=>by cases q.2),hb]
theorem FD {c b:UInt8}{r o:List UInt8}{i n m:Nat}(h:¬ c.toNat=34)(hc:eG c=some n)(hb:eG b=some m):en (c::b::r) i none o=en r (i+2) none (o++[UInt8.ofNat (16*n+m)]):=by
 rw[en,if_neg (fun q=>h q.1),hc]
 simp only
 rw[en,if_neg (fun q=>by cases q.2),hb]
section
variable {T:Nat}{p:PV}
theorem Gd (M:Mo)(a:Nat)(hs:M.s.length≤65536)(ha:a+2≤M.s.length):aF Tryz.prog (bG T p) 1 110 [.ptr 0 0,.pv (.int .i64 (a:Int))] [moB M] (.pv (.tup [.str (Dd M a).1.1,.int .i64 ((Dd M a).1.2:Int)])) [moB (Dd M a).2]:=by
 have hf:=fun i e=>dC (T:=T) (p:=p) M i e
 have hhx:=fun c=>toE (T:=T) (p:=p) (Hm c)
 unfold Dd
 obtain⟨Z,hZ⟩:∃ Z,Z=en (M.s.drop (a+2)) (a+2) none []:=⟨_,rfl⟩
 rw[← hZ]
 refine aF.intro LJ (by simp[Sr]) ?_
 simp(disch:=try exact dI) only[Sr,moB,moC,push_cast,seval]
 refine bf ([(6,0,5,1)]) (fun y:Nat×List UInt8=>[(6,.olist 1 1 (az y.2)),(7,.pv (.int .i64 (y.1:Int)))]) (fun _=>[]) (fun y=>y.1≤M.s.length∧y.2.length≤y.1∧Z=en (M.s.drop y.1) y.1 none y.2) (fun y=>M.s.length - y.1) ((a+2,[])) ?_;intro e0 σ0 n0 h0;simp(disch:=try exact dI) only[push_cast,seval] at h0;obtain⟨rfl,rfl,rfl⟩:=h0;refine⟨?_,?_,?_⟩
 ·refine zgZ ?_
  exact⟨.refl _,by omega⟩
 ·exact⟨by simp only;omega,by simp,hZ⟩
 rintro⟨j,out⟩ ⟨hj,ho,hZj⟩
 simp only at hj ho hZj
 by_cases hlt:j<M.s.length
 ·obtain⟨c,hc⟩:∃ c,M.s[j]? = some c:=⟨_,List.getElem?_eq_getElem hlt⟩
  have hltI:(j:Int)<(M.s.length:Int):=by omega
  have hnlI:¬ (M.s.length:Int)≤(j:Int):=by omega
  have hu8:=gE out
  have hbl:=eL out
  rw[aP hc] at hZj
  by_cases h34:c.toNat=34
  ·have h34I:((c.toNat:Int)=34)=True:=eq_true (by omega)
   rw[JI h34] at hZj
   subst hZj
   simp only[cZ]
   rw[if_neg (fun h=>by cases h.1)]
   simp(disch:=try exact dI) only[hltI,hc,ae,h34I,push_cast,seval]
   simp(disch:=try exact dI) only[hnlI,az,push_cast,seval]
   exact am [] qsZ
  have h34I:¬ (c.toNat:Int)=34:=by omega
  have hx:=hhx c
  cases hv:eG c with
  | none=>
    rw[kE hv] at hx
    rw[JH h34 hv] at hZj
    subst hZj
    have hfa:=hf j 13
    simp only[moB,moC] at hfa
    simp(disch:=try exact dI) only[hltI,hc,ae,h34I,push_cast,seval]
    refine ab.pure hx rfl ?_
    refine zgZ ?_
    refine ab.lentK hfa [0] rfl qsZ qsZ ?_
    refine zgZ ?_
    exact am [] (by simp(disch:=try exact dI) only[cZ,bw,push_cast,seval])
  | some n=>
    rw[kD hv] at hx
    have hn0:¬ (n:Int)<0:=by omega
    have hn16:=gv hv
    by_cases hl1:j+1<M.s.length
    ·obtain⟨b,hb⟩:∃ b,M.s[j+1]? = some b:=⟨_,List.getElem?_eq_getElem hl1⟩
     have hl1I:¬ (M.s.length:Int)≤(j:Int)+1:=by omega
     rw[aP hb] at hZj
     have hx2:=hhx b
     cases hv2:eG b with
     | none=>
       rw[kE hv2] at hx2
       rw[FF h34 hv hv2] at hZj
       subst hZj
       have hfa:=hf (j+1) 13
       simp only[moB,moC] at hfa
       simp(disch:=try exact dI) only[hltI,hc,ae,h34I,push_cast,seval]
       refine ab.pure hx rfl ?_
       simp(disch:=try exact dI) only[hn0,hl1I,hb,ae,push_cast,seval]
       refine ab.pure hx2 rfl ?_
       refine zgZ ?_
       refine ab.lentK hfa [0] rfl qsZ qsZ ?_
       refine zgZ ?_
       exact am [] (by simp(disch:=try exact dI) only[cZ,bw,push_cast,seval])
     | some m=>
       rw[kD hv2] at hx2
       rw[FD h34 hv hv2] at hZj
       have hm0:¬ (m:Int)<0:=by omega
       have hm16:=gv hv2
       have hw:=e8 (n:=16*(n:Int)+(m:Int)) (by omega) (by omega)
       have hB:az (out++[UInt8.ofNat (16*n+m)])=az out++[.int .u8 (16*(n:Int)+(m:Int))]:=by
        rw[cl]
        congr 1
        simp only[az,List.map_cons,List.map_nil]
        rw[UInt8.toNat_ofNat',show (((16*n+m) % 2 ^ 8:Nat):Int)=16*(n:Int)+(m:Int) by omega]
       generalize hQ:az out=Q at *
       simp(disch:=try exact dI) only[hltI,hc,ae,h34I,push_cast,seval]
       refine ab.pure hx rfl ?_
       simp(disch:=try exact dI) only[hn0,hl1I,hb,ae,push_cast,seval]
       refine ab.pure hx2 rfl ?_
       simp(disch:=try exact dI) only[hm0,hw,push_cast,seval]
       exact⟨(j+2,out++[UInt8.ofNat (16*n+m)]),bz (by simp(disch:=try exact dI) only[hB,push_cast,seval];omega),⟨by simp only;omega,by simp only[List.length_append,List.length_cons,List.length_nil];omega,hZj⟩,by simp only;omega⟩
    ·have hl1I:(M.s.length:Int)≤(j:Int)+1:=by omega
     rw[show M.s.drop (j+1)=[] from List.drop_eq_nil_of_le (by omega),FE h34 hv] at hZj
     subst hZj
     have hfa:=hf a 4
     simp only[moB,moC] at hfa
     simp(disch:=try exact dI) only[hltI,hc,ae,h34I,push_cast,seval]
     refine ab.pure hx rfl ?_
     simp(disch:=try exact dI) only[hn0,hl1I,push_cast,seval]
     refine ab.lentK hfa [0] rfl qsZ qsZ ?_
     refine zgZ ?_
     exact am [] (by simp(disch:=try exact dI) only[cZ,bw,push_cast,seval])
 ·have hltI:¬ (j:Int)<(M.s.length:Int):=by omega
  have hle:(M.s.length:Int)≤(j:Int):=by omega
  rw[List.drop_eq_nil_of_le (by omega)] at hZj
  have hZj:Z = .short:=hZj
  subst hZj
  have hfa:=hf a 4
  simp only[moB,moC] at hfa
  simp(disch:=try exact dI) only[hltI,push_cast,seval]
  refine ab.lentK hfa [0] rfl qsZ qsZ ?_
  refine zgZ ?_
  exact am [] (by simp(disch:=try exact dI) only[cZ,bw,push_cast,seval])
end
theorem pL (s:List UInt8)(hs:s.length≤100000)(h0:s≠[]):au Tryz.prog aM 114 [.str s] (.str (bX s)):=by
 refine au.intro LF (by simp[Qv]) ?_
 unfold bX
 rcases List.eq_nil_or_concat s with rfl | ⟨l,c,rfl⟩
 ·exact absurd rfl h0
 ·rw[List.concat_eq_append] at hs ⊢
  rw[List.length_append,List.length_singleton] at hs
  have e1:(l.length:Int)+1 - 1=(l.length:Int):=by omega
  have hg:(l++[c])[l.length]? = some c:=by simp
  have hl:(l++[c]).getLast? = some c:=by simp
  by_cases hc:c=100
  ·subst hc
   have hcI:((100:UInt8).toNat:Int)=100:=rfl
   rw[hl,if_pos rfl,List.dropLast_concat]
   simp(disch:=try exact dI) only[Qv,List.length_append,List.length_cons,List.length_nil,e1,hg,ae,hcI,List.take_left,push_cast,seval]
  ·have hcI:¬ (c.toNat:Int)=100:=fun h=>hc (UInt8.toNat_inj.1 (by simpa using (show c.toNat=100 by omega)))
   rw[hl,if_neg (fun q=>hc (Option.some.inj q))]
   simp(disch:=try exact dI) only[Qv,List.length_append,List.length_cons,List.length_nil,e1,hg,ae,hcI,push_cast,seval]
def rM (M:Mo)(i:Nat)(c:UInt8):Mo×Nat:=
 if c.toNat=34 then ({ (C9 { M with k:=115 } i).2 with v:=(C9 { M with k:=115 } i).1.1 },(C9 { M with k:=115 } i).1.2)
 else if c.toNat=120∧M.s[i+1]? = some 34 then ({ (Dd { M with k:=120 } i).2 with v:=(Dd { M with k:=120 } i).1.1 },(Dd { M with k:=120 } i).1.2)
 else if aJ c=true then ({ M with k:=119 },aK bM M.s (i+1))
 else if isD c=true∨(c.toNat=45∧(M.s[i+1]?.any isD)=true) then ({ M with k:=110 },(ma M.s (aK isD M.s (i+1))).1)
 else if c.toNat=46∧M.s[i+1]? = some 46 then ({ M with k:=46 },i+2)
 else if lq c=true then ({ M with k:=c.toNat },i+1)
 else (aU M 13 i,i+1)
def g9 (q:Mo×Nat)(i:Nat):Mo:=if q.1.e=0 then { q.1 with x:=(q.1.s.take q.2).drop i,nx:=q.2 } else q.1
def kr (M:Mo)(i:Nat):Mo:=if M.k=110∧M.e=0 then (if (aQ (bX M.x)).2=0 then M else aU M (aQ (bX M.x)).2 i) else M
def nextM (M:Mo):Mo:=
 match M.s[aK aC M.s M.nx]? with
 | none=>{ M with nx:=aK aC M.s M.nx,k:=0,p:=aK aC M.s M.nx,x:=[],v:=[] }
 | some c=>if M.e=0 then kr (g9 (rM { M with nx:=aK aC M.s M.nx,k:=0,p:=aK aC M.s M.nx,x:=[],v:=[] } (aK aC M.s M.nx) c) (aK aC M.s M.nx)) (aK aC M.s M.nx)
   else { M with nx:=aK aC M.s M.nx,k:=0,p:=aK aC M.s M.nx,x:=[],v:=[] }
def C8 (M:Mo)(R:Rd):Prop:=M.p=R.now.pos ∧
 ((R.now.kind=0∧M.k=0)∨(R.now.kind=1∧M.k=119∧M.x=R.now.text∧∃ b r,R.now.text=b::r∧aJ b=true) ∨
  (R.now.kind=2∧M.k=110∧aQ (bX M.x)=((R.now.num,R.now.sc),0)∧R.now.dec=(decide (0<R.now.sc)||decide (M.x.getLast? = some 100))∧M.x≠[]) ∨
  (R.now.kind=3∧M.k=115∧M.v=R.now.bytes)∨(R.now.kind=4∧M.k=120∧M.v=R.now.bytes) ∨
  (R.now.kind=5∧((M.k=46∧R.now.text=[46,46])∨∃ c:UInt8,lq c=true∧M.k=c.toNat∧R.now.text=[c])))
def Sim (M:Mo)(R:Rd):Prop:=M.s=R.s∧((R.e=0∧M.e=0∧M.nx=R.next∧C8 M R)∨(R.e≠0∧M.e=R.e∧M.bad=R.off))
theorem rT {M:Mo}{e:Int}{i:Nat}(h:M.e=0):aU M e i = { M with e:=e,bad:=i }:=if_pos h
theorem BM {M:Mo}{e:Int}{i:Nat}(h:¬ M.e=0):aU M e i=M:=if_neg h
theorem bR {M:Mo}{R:Rd}{e:Int}{i:Nat}(he:e≠0)(h:Sim M R):Sim (aU M e i) (aI R i e):=by
 obtain⟨hs,h⟩:=h
 rcases h with ⟨h1,h2,h3,h4⟩ | ⟨h1,h2,h3⟩
 ·rw[rT h2,aI,if_pos h1]
  exact⟨hs,.inr ⟨he,rfl,rfl⟩⟩
 ·rw[BM (by rw[h2];exact h1),aI,if_neg h1]
  exact⟨hs,.inr ⟨h1,h2,h3⟩⟩
theorem tc {s:List UInt8}{i:Nat}{k:Int}{km:Nat}{b:Bool}{Z:Sc}{M:Mo}{R:Rd}(hM:M = { s:=s,nx:=i,k:=km,p:=i,e:=0,bad:=M.bad })(hR:R=⟨s,i,{ pos:=i },0,R.off⟩)(hk:(k=3∧km=115)∨(k=4∧km=120))(hZ:∀ j,¬ Z = .bad j 0) :
  Sim (kr (g9 ({ (cZ M i b Z).2 with v:=(cZ M i b Z).1.1 },(cZ M i b Z).1.2) i) i) (fb (bd R i k b Z) i):=by
 have hRe:R.e=0:=by rw[hR]
 have hMe:M.e=0:=by rw[hM]
 have hk110:km≠110:=by rcases hk with ⟨_,rfl⟩ | ⟨_,rfl⟩<;>decide
 have hMk:M.k=km:=by rw[hM]
 have hMs:M.s=s:=by rw[hM]
 have hRs:R.s=s:=by rw[hR]
 have err:∀ (e:Int) (j:Nat) (v:List UInt8) (n:Nat) (R':Rd),e≠0→R'.e=e→R'.off=j→R'.s=s→Sim (kr (g9 ({ aU M e j with v:=v },n) i) i) (fb R' i):=by
  intro e j v n R' he h1 h2 h3
  rw[rT hMe]
  unfold g9
  rw[if_neg he]
  unfold kr
  rw[if_neg (fun q=>he q.2),lM (by rw[h1];exact he)]
  exact⟨hMs.trans h3.symm,.inr ⟨by rw[h1];exact he,h1.symm,h2.symm⟩⟩
 cases Z with
 | short=>exact err 4 i _ _ _ (by decide) (by rw[bd,aI,if_pos hRe]) (by rw[bd,aI,if_pos hRe]) (by rw[bd,aI,if_pos hRe];exact hRs)
 | bad j e=>
   have he:e≠0:=fun q=>hZ j (by rw[q])
   exact err e j _ _ _ he (by rw[bd,aI,if_pos hRe]) (by rw[bd,aI,if_pos hRe]) (by rw[bd,aI,if_pos hRe];exact hRs)
 | done o j=>
   have hqM:cZ M i b (.done o j)=((o,j),if b=true∧Lib.validD o=false then aU M 16 i else M):=rfl
   have hqR:bd R i k b (.done o j) = { (if b=true∧Lib.validD o=false then aI R i 16 else R) with now:={ (if b=true∧Lib.validD o=false then aI R i 16 else R).now with kind:=k,bytes:=o },next:=j }:=rfl
   by_cases hv:b=true∧Lib.validD o=false
   ·rw[if_pos hv] at hqM
    rw[if_pos hv] at hqR
    rw[hqM,hqR]
    exact err 16 i _ _ _ (by decide) (by simp only[aI,if_pos hRe]) (by simp only[aI,if_pos hRe]) (by simp only[aI,if_pos hRe];exact hRs)
   ·rw[if_neg hv] at hqM
    rw[if_neg hv] at hqR
    rw[hqM,hqR]
    simp only
    unfold g9
    rw[if_pos hMe]
    unfold kr
    rw[if_neg (fun q=>hk110 (hMk.symm.trans q.1)),fa (R:={ R with now:={ R.now with kind:=k,bytes:=o },next:=j }) hRe]
    refine⟨hMs.trans hRs.symm,.inl ⟨hRe,hMe,rfl,by rw[hM,hR],?_⟩⟩
    rcases hk with ⟨rfl,rfl⟩ | ⟨rfl,rfl⟩
    ·exact .inr (.inr (.inr (.inl ⟨rfl,hMk,rfl⟩)))
    ·exact .inr (.inr (.inr (.inr (.inl ⟨rfl,hMk,rfl⟩))))
theorem o9:∀ (k a:Nat),(bF k a).all isD=true
 | 0,_=>rfl
 | k+1,a=>by
   rw[bF,List.all_append,o9 k,Bool.true_and]
   have hc:(UInt8.ofNat (48+a % 10)).toNat=48+a % 10:=by rw[UInt8.toNat_ofNat'];omega
   simp only[List.all_cons,List.all_nil,Bool.and_true,isD,hc,Bool.and_eq_true,decide_eq_true_eq]
   omega
theorem Ht (k a:Nat):(46:UInt8)∉bF k a:=fun h=>by
 have:=List.all_eq_true.1 (o9 k a) _ h
 exact absurd this (by decide)
theorem F3 {n:Int}{sc:Nat}:(46:UInt8)∈mz n sc↔0<sc:=by
 unfold mz
 by_cases h:sc=0
 ·subst h
  simp[Ht]
 ·simp[h,Ht]
  omega
theorem lV {s:List UInt8}{n:Int}{sc:Nat}(h:aQ s=((n,sc),0)):(46:UInt8)∈s↔0<sc:=by
 unfold aQ at h
 split at h
 ·cases h
 split at h
 ·cases h
 split at h
 ·rename_i hc
  simp only[Prod.mk.injEq,and_true] at h
  obtain⟨rfl,rfl⟩:=h
  rw[← F3 (n:=sgI s (rdS false 0 0 s).1),hc.2]
 ·cases h
theorem GS {q:UInt8→Bool}{s:List UInt8}{a k:Nat}(h1:a≤k)(h2:k<aK q s a):∃ c,s[k]? = some c∧q c=true:=by
 unfold aK at h2
 have hk:k - a<((s.drop a).takeWhile q).length:=by omega
 have hg:((s.drop a).takeWhile q)[k - a]? = some ((s.drop a).takeWhile q)[k - a]:=List.getElem?_eq_getElem hk
 have hp:(s.drop a).takeWhile q <+: s.drop a:=List.takeWhile_prefix q
 refine⟨_,?_,(List.all_eq_true.1 List.all_takeWhile _ (List.getElem_mem hk))⟩
 obtain⟨r,hr⟩:=hp
 have:(s.drop a)[k - a]? = some ((s.drop a).takeWhile q)[k - a]:=by
  conv=>lhs;rw[← hr]
  rw[List.getElem?_append_left hk];exact hg
 rw[List.getElem?_drop,show a+(k - a)=k by omega] at this
 exact this
theorem qH {s:List UInt8}{i w:Nat}(h1:i<w)(h2:w≤s.length):((s.take w).drop i).getLast? = s[w - 1]?:=by
 rw[List.getLast?_eq_getElem?,List.getElem?_drop,List.length_drop,List.length_take,List.getElem?_take]
 rw[show i+(min w s.length - i - 1)=w - 1 by omega,if_pos (by omega)]
theorem GM {s:List UInt8}{i w:Nat}{c:UInt8}:c∈(s.take w).drop i↔∃ k,i≤k∧k<w∧s[k]? = some c:=by
 rw[List.mem_iff_getElem?]
 constructor
 ·rintro⟨k,hk⟩
  rw[List.getElem?_drop,List.getElem?_take] at hk
  split at hk
  ·exact⟨i+k,by omega,by assumption,hk⟩
  ·cases hk
 ·rintro⟨k,h1,h2,h3⟩
  refine⟨k - i,?_⟩
  rw[List.getElem?_drop,List.getElem?_take,show i+(k - i)=k by omega,if_pos h2,h3]
theorem Hx {x:List UInt8}(h:x.getLast?≠some 100):bX x=x:=if_neg h
theorem rQ {c:UInt8}(h:isD c=true):c≠100∧c≠46:=by
 constructor<;>(rintro rfl;exact absurd h (by decide))
theorem Kc {s:List UInt8}{i a:Nat}(ha:a=i∨(a=i+1∧s[i]? = some 45))(hza:a<aK isD s a)(hal:a≤s.length){n:Int}{sc:Nat}
  (hp:aQ (bX ((s.take (ma s (aK isD s a)).1).drop i))=((n,sc),0)) :
  (ma s (aK isD s a)).2.1=(decide (0<sc)||decide (((s.take (ma s (aK isD s a)).1).drop i).getLast? = some 100)):=by
 have hzl:aK isD s a≤s.length:=bq hal
 have hdig:∀ k,a≤k→k<aK isD s a→∃ c,s[k]? = some c∧isD c=true:=fun k h1 h2=>GS h1 h2
 generalize aK isD s a=z at *
 have hiz:i<z:=by omega
 by_cases h1:s[z]? = some 46∧(s[z+1]?.any isD)=true
 ·have hw:z+1<aK isD s (z+1):=by
   cases hb:s[z+1]? with
   | none=>rw[hb] at h1;cases h1.2
   | some b=>
     rw[fg hb,if_pos (by have:=h1.2;rw[hb] at this;exact this)]
     have:=da (q:=isD) (s:=s) (i:=z+1+1)
     omega
  have hzl1:z<s.length:=(List.getElem?_eq_some_iff.1 h1.1).1
  have hwl:aK isD s (z+1)≤s.length:=bq (by omega)
  rw[tL h1] at hp ⊢
  simp only at hp ⊢
  obtain⟨c,hc,hcd⟩:=GS (q:=isD) (s:=s) (a:=z+1) (k:=aK isD s (z+1) - 1) (by omega) (by omega)
  have hl:=qH (s:=s) (i:=i) (w:=aK isD s (z+1)) (by omega) hwl
  rw[hc] at hl
  rw[Hx (by rw[hl];intro q;exact (rQ hcd).1 (Option.some.inj q))] at hp
  rw[decide_eq_true ((lV hp).1 (GM.2 ⟨z,by omega,by omega,h1.1⟩))]
  rfl
 ·by_cases h2:s[z]? = some 100
  ·have hzl1:z<s.length:=(List.getElem?_eq_some_iff.1 h2).1
   rw[l9 h1 h2]
   simp only
   rw[qH (by omega) (by omega),Nat.add_sub_cancel,h2]
   simp
  ·rw[eh h1 h2] at hp ⊢
   simp only at hp ⊢
   obtain⟨c,hc,hcd⟩:=hdig (z - 1) (by omega) (by omega)
   have hl:=qH (s:=s) (i:=i) (w:=z) hiz hzl
   rw[hc] at hl
   have hne:((s.take z).drop i).getLast?≠some 100:=by rw[hl];intro q;exact (rQ hcd).1 (Option.some.inj q)
   rw[Hx hne] at hp
   have hsc:¬ 0<sc:=fun q=>by
    obtain⟨k,k1,k2,k3⟩:=GM.1 ((lV hp).2 q)
    by_cases hka:a≤k
    ·obtain⟨b,hb,hbd⟩:=hdig k hka k2
     rw[k3] at hb
     exact (rQ hbd).2 (Option.some.inj hb).symm
    ·rcases ha with ha | ⟨ha,ha2⟩
     ·omega
     ·have:k=i:=by omega
      rw[this,ha2] at k3
      exact absurd (Option.some.inj k3) (by decide)
   rw[decide_eq_false hsc,decide_eq_false hne];rfl
theorem G4 {M:Mo}{i:Nat}(h:M.k≠110):kr M i=M:=if_neg (fun q=>h q.1)
theorem Ic {s:List UInt8}{i off bad:Nat}{c:UInt8}(hs:s.length≤65536)(hc:s[i]? = some c) :
  Sim (kr (g9 (rM { s:=s,nx:=i,p:=i,bad:=bad } i c) i) i) (fb (eS ⟨s,i,{ pos:=i },0,off⟩ i c) i):=by
 have hi:i<s.length:=(List.getElem?_eq_some_iff.1 hc).1
 unfold rM eS
 by_cases h1:c.toNat=34
 ·rw[if_pos h1,if_pos h1]
  exact tc (k:=3) (km:=115) (b:=true) (M:={ s:=s,nx:=i,k:=115,p:=i,bad:=bad }) (R:=⟨s,i,{ pos:=i },0,off⟩) rfl rfl (.inl ⟨rfl,rfl⟩) (fun j=>jW _ _ _ _)
 rw[if_neg h1,if_neg h1]
 by_cases h2:c.toNat=120∧s[i+1]? = some 34
 ·rw[if_pos h2,if_pos h2]
  exact tc (k:=4) (km:=120) (b:=false) (M:={ s:=s,nx:=i,k:=120,p:=i,bad:=bad }) (R:=⟨s,i,{ pos:=i },0,off⟩) rfl rfl (.inr ⟨rfl,rfl⟩) (fun j=>kG _ _ _ _)
 rw[if_neg h2,if_neg h2]
 by_cases h3:aJ c=true
 ·rw[if_pos h3,if_pos h3]
  have hr:aK bM s i=aK bM s (i+1):=by rw[fg hc,if_pos (by unfold bM;rw[h3];rfl)]
  simp only
  rw[hr]
  refine⟨rfl,.inl ⟨rfl,rfl,rfl,rfl,.inr (.inl ⟨rfl,rfl,rfl,c,(s.drop (i+1)).take (aK bM s (i+1) - i - 1),?_,h3⟩)⟩⟩
  have hle:=da (q:=bM) (s:=s) (i:=i+1)
  show (s.take (aK bM s (i+1))).drop i=_
  rw[List.drop_take,aP hc,show aK bM s (i+1) - i=(aK bM s (i+1) - i - 1)+1 by omega,List.take_succ_cons]
  rfl
 rw[if_neg h3,if_neg h3]
 have err:Sim (kr (g9 (aU { s:=s,nx:=i,p:=i,bad:=bad } 13 i,i+1) i) i) (fb (aI ⟨s,i,{ pos:=i },0,off⟩ i 13) i):=by
  exact⟨rfl,.inr ⟨fun h=>absurd (show (13:Int)=0 from h) (by decide),rfl,rfl⟩⟩
 by_cases h4:isD c=true∨c.toNat=45
 ·rw[if_pos h4]
  by_cases h5:isD c=true∨(c.toNat=45∧(s[i+1]?.any isD)=true)
  ·rw[if_pos h5]
   obtain⟨a,ha⟩:∃ a,(if s[i]? = some 45 then i+1 else i)=a:=⟨_,rfl⟩
   have key:aK isD s a=aK isD s (i+1)∧a<aK isD s a∧(a=i∨(a=i+1∧s[i]? = some 45))∧a≤s.length:=by
    by_cases h45:s[i]? = some 45
    ·rw[if_pos h45] at ha
     subst ha
     refine⟨rfl,?_,.inr ⟨rfl,h45⟩,by omega⟩
     have hcc:c=45:=Option.some.inj (hc.symm.trans h45)
     subst hcc
     have h6:=(h5.resolve_left (by decide)).2
     cases hb:s[i+1]? with
     | none=>rw[hb] at h6;cases h6
     | some b=>
       rw[fg hb,if_pos (by rw[hb] at h6;exact h6)]
       have:=da (q:=isD) (s:=s) (i:=i+1+1)
       omega
    ·rw[if_neg h45] at ha
     subst ha
     have hD:isD c=true:=h5.resolve_right fun q=>h45 (by rw[hc,UInt8.toNat_inj.1 (show c.toNat=(45:UInt8).toNat from q.1)])
     have hr:aK isD s i=aK isD s (i+1):=by rw[fg hc,if_pos hD]
     refine⟨hr,?_,.inl rfl,by omega⟩
     rw[hr]
     have:=da (q:=isD) (s:=s) (i:=i+1)
     omega
   obtain⟨k1,k2,k3,k4⟩:=key
   have hdec:=fun (n:Int) (sc:Nat)=>Kc (s:=s) (i:=i) (a:=a) k3 k2 k4 (n:=n) (sc:=sc)
   have hle:=rq (s:=s) (z:=aK isD s a) (bq k4)
   rw[cE (R:=⟨s,i,{ pos:=i },0,off⟩) (z:=aK isD s a) ha rfl (Nat.ne_of_gt k2) rfl]
   simp only
   rw[← k1]
   generalize ma s (aK isD s a)=w at *
   obtain⟨w1,w2,w3⟩:=w
   simp only at hdec hle ⊢
   have hx:(s.take w1).drop i≠[]:=by
    intro q
    have:=congrArg List.length q
    rw[List.length_drop,List.length_take,List.length_nil] at this
    omega
   generalize hP:aQ (bX ((s.take w1).drop i))=P at *
   obtain⟨⟨n,sc⟩,e⟩:=P
   by_cases he:e=0
   ·subst he
    rw[cu,show kr (g9 (({ s:=s,nx:=i,k:=110,p:=i,bad:=bad }:Mo),w1) i) i = { s:=s,nx:=w1,k:=110,p:=i,x:=(s.take w1).drop i,bad:=bad } by
     unfold g9
     rw[if_pos rfl]
     unfold kr
     rw[if_pos ⟨rfl,rfl⟩]
     simp only
     rw[hP,if_pos rfl]]
    exact⟨rfl,.inl ⟨rfl,rfl,rfl,rfl,.inr (.inr (.inl ⟨rfl,rfl,hP,hdec n sc rfl,hx⟩))⟩⟩
   ·rw[ct he,show kr (g9 (({ s:=s,nx:=i,k:=110,p:=i,bad:=bad }:Mo),w1) i) i=aU { s:=s,nx:=w1,k:=110,p:=i,x:=(s.take w1).drop i,bad:=bad } e i by
     unfold g9
     rw[if_pos rfl]
     unfold kr
     rw[if_pos ⟨rfl,rfl⟩]
     simp only
     rw[hP]
     simp only
     rw[if_neg he],rT rfl,aI,if_pos rfl,lM he]
    exact⟨rfl,.inr ⟨he,rfl,rfl⟩⟩
  ·have h45:c.toNat=45:=h4.resolve_left fun q=>h5 (.inl q)
   have hcc:c=45:=UInt8.toNat_inj.1 h45
   subst hcc
   rw[if_neg h5,if_neg (fun q=>absurd q.1 (by decide)),if_neg (by decide)]
   rw[l8 (a:=i+1) (if_pos hc) (by
    have hn:¬ (s[i+1]?.any isD)=true:=fun q=>h5 (.inr ⟨rfl,q⟩)
    show aK isD s (i+1)=i+1
    cases hb:s[i+1]? with
    | none=>exact iy (Nat.le_of_not_lt fun h=>by rw[List.getElem?_eq_getElem h] at hb;cases hb)
    | some b=>rw[fg hb,if_neg (by rw[hb] at hn;exact hn)])]
   exact err
 rw[if_neg h4,if_neg (fun q=>h4 (q.elim .inl fun q=>.inr q.1))]
 by_cases h6:c.toNat=46∧s[i+1]? = some 46
 ·rw[if_pos h6,if_pos h6]
  refine⟨rfl,.inl ⟨rfl,rfl,rfl,rfl,.inr (.inr (.inr (.inr (.inr ⟨rfl,.inl ⟨rfl,?_⟩⟩))))⟩⟩
  show (s.take (i+2)).drop i=[46,46]
  rw[List.drop_take,aP hc,aP h6.2,show i+2 - i=2 by omega,UInt8.toNat_inj.1 (show c.toNat=(46:UInt8).toNat from h6.1)]
  rfl
 rw[if_neg h6,if_neg h6]
 by_cases h7:lq c=true
 ·rw[if_pos h7,if_pos h7]
  have hk:c.toNat≠110:=fun q=>by
   rw[UInt8.toNat_inj.1 (show c.toNat=(110:UInt8).toNat from q)] at h7
   exact absurd h7 (by decide)
  rw[show kr (g9 (({ s:=s,nx:=i,k:=c.toNat,p:=i,bad:=bad }:Mo),i+1) i) i = { s:=s,nx:=i+1,k:=c.toNat,p:=i,x:=(s.take (i+1)).drop i,bad:=bad } by
   unfold g9
   rw[if_pos rfl,G4 hk]]
  refine⟨rfl,.inl ⟨rfl,rfl,rfl,rfl,.inr (.inr (.inr (.inr (.inr ⟨rfl,.inr ⟨c,h7,rfl,?_⟩⟩))))⟩⟩
  show (s.take (i+1)).drop i=[c]
  rw[List.drop_take,aP hc,show i+1 - i=1 by omega]
  rfl
 ·rw[if_neg h7,if_neg h7]
  exact err
end Go.Proofs.YtamoeblcphjbaaaGreatDoor

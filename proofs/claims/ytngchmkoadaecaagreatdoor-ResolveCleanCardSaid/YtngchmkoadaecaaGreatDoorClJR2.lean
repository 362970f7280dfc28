/- A part. -/
import Derived.Test.YtngchmkoadaecaaGreatDoorClJR1
set_option linter.unusedVariables false
set_option linter.unusedSimpArgs false
set_option maxHeartbeats 16000000
set_option maxRecDepth 100000
open List renaming size_toArray->VB,length_cons->UC,length_nil->UR,getElem?_eq_getElem->Uq,cons_append->U2,nil_append->UV,take_of_length_le->Ux
open Bool renaming true_and->Vz,and_false->VE,false_and->Vy
namespace Go.Proofs.YtngchmkoadaecaaGreatDoor
open Go Go.Ab Go.RowKit Go.Shelf
attribute [local irreducible] vc
attribute [local go_sem] Oper.semAt_some
theorem Io {l:Nat}{xs:List (List PV)}{base:Nat->Nat->Prop}{n0:Nat}{J:Nat->(Nat->Nat->Prop)->World->Prop}{Jx:World->Prop}(h:Iter l xs base n0 J Jx):∀ n,M1 l xs base n0 J Jx n
 | 0=>fun v hd=>hd.elim
 | n+1=>tZ h n (Io h n)
theorem ir (n:Nat)(v:Val)(hd:kB n v)(hv:v.ok):Sv Tryz.prog aB 185 [.eptr [v.pv] 0 0] ((eS n 1 v).map xT):=by
 refine⟨by kernel_rfl,fun w imm lbv l J Jx O hG himm hsz hlb hgrow hlt hround hJ=>?_⟩
 have hI:Iter l ((eS n 1 v).map xT) imm w.heap.size J Jx:=⟨hgrow,hlt,hround⟩
 have hp:=hlb 0 _ rfl
 obtain⟨p,rfl⟩:∃ p,lbv = #[p]:=by
  obtain⟨l⟩:=lbv
  match l,hsz with
  | [p],_=>exact⟨p,rfl⟩
 simp only[Array.getD_eq_getD_getElem?,VB,UC,UR] at hp
 replace hp:PRel w imm (.eptr [v.pv] 0 0) p:=by simpa using hp
 cases hp with
 | eptr _ b off cc sz g _ _ h1 h2 h3 h4 h5 h6=>
   have hs6:sz=6:=by rw[<- h3 0 _ rfl,v.cells_len]
   subst hs6
   obtain⟨cs,e1,e2,e3⟩:=v.row
   have hcs:v.pv.cells=cs:=by rw[e1];rfl
   have hel:∀ j,j<6->imm b (off+0*6+j)/\w.cell? ⟨b,off+0*6+j,none⟩=some (g 0 j)/\(g 0 j).oneCell'=true:=fun j hj=>by
    obtain⟨y,hy⟩:∃ y,cs[j]? = some y:=⟨_,Uq (by omega)⟩
    exact h4 0 _ j y rfl (by rw[hcs];exact hy)
   have hu:PRel w imm v.pv (.agg #[g 0 0,g 0 1,g 0 2,g 0 3,g 0 4,g 0 5]):=by
    rw[e1]
    refine .agg _ _ (by simp[e2]) fun j y hy=>?_
    have hj:j<6:=by have:=(List.getElem?_eq_some_iff.1 hy).1;omega
    have:=h5 0 _ j y rfl (by rw[hcs];exact hy)
    have hc:j=0\/j=1\/j=2\/j=3\/j=4\/j=5:=by omega
    rcases hc with rfl | rfl | rfl | rfl | rfl | rfl<;>exact this
   have hvis:=Io hI n v hd hv 1 0 0 O imm imm w (.agg #[g 0 0,g 0 1,g 0 2,g 0 3,g 0 4,g 0 5]) (fun j q hq=>by simp[hq]) hJ hu hG (fun b o h=>.inl h) (fun b o h=>h) himm (Nat.le_refl _)
   have w0:=(hel 0 (by omega)).2.1;have w1:=(hel 1 (by omega)).2.1;have w2:=(hel 2 (by omega)).2.1;have w3:=(hel 3 (by omega)).2.1;have w4:=(hel 4 (by omega)).2.1;have w5:=(hel 5 (by omega)).2.1
   simp only[Nat.zero_mul,Nat.add_zero] at w0 w1 w2 w3 w4 w5 ⊢
   have hlen:((eS n 1 v).map xT).length=0+(eS n 1 v).length:=by simp
   rw[hlen]
   clear hel hu h4 h5 hround hgrow hlt hI
   simp only[List.append_toArray,U2,UV]
   refine callsIn_of_wp Tryz.func185 rfl trivial ?_ rfl
   simp only[Tryz.ntmps185,VB,UC,UR,Nat.reduceAdd,Nat.reduceSub,Array.replicate_succ,Array.replicate_zero,List.push_toArray,List.append_toArray,UV,U2]
   gi_wp2_with (refine⟨trivial,rfl,?_⟩;gi_at_call 186;refine hvis.mono ?_;clear hvis;rintro e W6 (⟨rfl,O6,hJ6,hK6,hG6⟩ | ⟨rfl,hx6⟩))
   ·go_end0
    exact⟨⟨_,rfl⟩,.inl ⟨_,hJ6⟩⟩
   ·go_end0
    exact⟨⟨_,rfl⟩,.inr hx6⟩
theorem jx (v:Val):ap Tryz.prog aB 157 [v.pv] (.clo 185 [] [.eptr [v.pv] 0 0]):=by
 obtain⟨k,n,s,t,l,fs⟩:=v
 refine ap.intro SP.2 (by simp[SP]) ?_
 simp(disch:=try exact dI) only[SP,Uo,push_cast,seval]
def zD:PV:=.agg [.nilf,.clo 172 [] [],.clo 174 [] [],.clo 175 [] [],.clo 177 [] [],.clo 179 [] [],.clo 180 [] [],.clo 181 [] [],.clo 182 [] [],.clo 183 [] [],.clo 184 [] []]
theorem A6 (f:Nat)(a b:List PV):PV.one (.clo f a b)=true:=rfl
theorem sy:PV.one .nilf=true:=rfl
theorem E3:ap Tryz.prog aB 156 [] zD:=by
 refine ap.intro SQ.2 (by simp[SQ]) ?_
 simp(disch:=try exact dI) only[SQ,zD,A6,sy,push_cast,seval]
theorem cZ (n a b:Int):ap Tryz.prog aB 173 [.int .i64 n,.int .i64 a,.int .i64 b] (.int .i64 (if n<a\/b<n then 2 else 0)):=by
 refine ap.intro QH.2 (by simp[QH]) ?_
 by_cases h1:n<a
 ·rw[if_pos (.inl h1)]
  simp(disch:=try exact dI) only[QH,push_cast,seval]
 ·by_cases h2:b<n
  ·rw[if_pos (.inr h2)]
   simp(disch:=try exact dI) only[QH,push_cast,seval]
  ·rw[if_neg (by omega)]
   simp(disch:=try exact dI) only[QH,push_cast,seval]
theorem jj (n m e:Int):ap Tryz.prog aB 178 [.int .i64 n,.int .i64 m,.int .i64 e] (.int .i64 (if m<n then e else 0)):=by
 refine ap.intro Rd.2 (by simp[Rd]) ?_
 by_cases h1:m<n
 ·rw[if_pos h1]
  simp(disch:=try exact dI) only[Rd,push_cast,seval]
 ·rw[if_neg h1]
  simp(disch:=try exact dI) only[Rd,push_cast,seval]
def fB:Val->Bool
 | .mk k n s t l fs=>decide (k=0)&&(decide (n=0)&&(decide (s=0)&&(decide (t=[])&&(decide (l.length=0)&&decide (fs.length=0)))))
def eL:Val->Bool
 | .mk k n s t l fs=>(decide (k=1\/k=2\/k=6\/k=7\/k=3)||decide (n=0))&&((decide (k=3)||decide (s=0))&&((decide (k=4\/k=5\/k=10)||decide (t=[]))&&((decide (k=8\/k=10)||decide (l.length=0))&&(decide (k=9)||decide (fs.length=0)))))
theorem dW {α:Type}{r b c:α}{P:Prop}(hr:r=b)(hb:b=c)(h:r=c->P):P:=h (hr.trans hb)
theorem Ju (k n s:Int)(t:List UInt8)(l:List Val)(fs:List Fld)(hk:1<=k/\k<=10) :
  ((k=1\/k=2\/k=6\/k=7\/k=3)\/(¬ (k=1\/k=2\/k=6\/k=7\/k=3)/\¬ n=0)\/(¬ (k=1\/k=2\/k=6\/k=7\/k=3)/\n=0))/\(k=3\/(¬ k=3/\¬ s=0)\/(¬ k=3/\s=0)) /\
  ((k=4\/k=5\/k=10)\/(¬ (k=4\/k=5\/k=10)/\¬ t=[])\/(¬ (k=4\/k=5\/k=10)/\t=[])) /\
  ((k=8\/k=10)\/(¬ (k=8\/k=10)/\¬ l.length=0/\¬ (l.length:Int)=0)\/(¬ (k=8\/k=10)/\l.length=0/\(l.length:Int)=0)) /\
  (k=9\/(¬ k=9/\¬ fs.length=0/\¬ (fs.length:Int)=0)\/(¬ k=9/\fs.length=0/\(fs.length:Int)=0)):=by
 refine⟨by omega,by omega,?_,by omega,by omega⟩
 by_cases h:t=[]<;>simp only[h,true_and,and_true,not_true,not_false_iff,and_false,false_or,or_false]<;>exact Classical.em _
theorem Lp (v:Val):ap Tryz.prog aB 158 [v.pv] (.bool (fB v)):=by
 obtain⟨k,n,s,t,l,fs⟩:=v
 have h5:(l.length=0/\(l.length:Int)=0)\/(¬ l.length=0/\¬ (l.length:Int)=0):=by omega
 have h6:(fs.length=0/\(fs.length:Int)=0)\/(¬ fs.length=0/\¬ (fs.length:Int)=0):=by omega
 obtain⟨r,hr⟩:∃ r,r=fB (.mk k n s t l fs):=⟨_,rfl⟩
 rw[<- hr]
 refine ap.intro SO.2 (by simp[SO]) ?_
 rcases Classical.em (k=0) with a | a
 all_goals first | (have:=hend;skip) | (refine dW (c:=false) hr ?_ ?_;(focus (simp[fB, *];done));rintro rfl;have hend:=trivial;clear h5 h6) | rcases Classical.em (n=0) with b | b
 all_goals first | (have:=hend;skip) | (refine dW (c:=false) hr ?_ ?_;(focus (simp[fB, *];done));rintro rfl;have hend:=trivial;clear h5 h6) | rcases Classical.em (s=0) with c | c
 all_goals first | (have:=hend;skip) | (refine dW (c:=false) hr ?_ ?_;(focus (simp[fB, *];done));rintro rfl;have hend:=trivial;clear h5 h6) | rcases Classical.em (t=[]) with d | d
 all_goals first | (have:=hend;skip) | (refine dW (c:=false) hr ?_ ?_;(focus (simp[fB, *];done));rintro rfl;have hend:=trivial;clear h5 h6) | rcases h5 with ⟨e,e1⟩ | ⟨e,e1⟩
 all_goals first | (have:=hend;skip) | (refine dW (c:=false) hr ?_ ?_;(focus (simp[fB, *];done));rintro rfl;have hend:=trivial;clear h6) | rcases h6 with ⟨f,f1⟩ | ⟨f,f1⟩
 all_goals first | (have:=hend;skip) | (refine dW (c:=true) hr ?_ ?_;(focus (simp[fB, *];done));rintro rfl) | (refine dW (c:=false) hr ?_ ?_;(focus (simp[fB, *];done));rintro rfl)
 all_goals clear hr
 all_goals simp(disch:=try exact dI) only[SO,Uo, *,push_cast,seval]
theorem Jv (v:Val)(hk:1<=v.kind/\v.kind<=10):ap Tryz.prog aB 159 [v.pv] (.bool (eL v)):=by
 obtain⟨k,n,s,t,l,fs⟩:=v
 simp only[Val.kind] at hk
 obtain⟨h1,h2,h3,h4,h5⟩:=Ju k n s t l fs hk
 obtain⟨r,hr⟩:∃ r,r=eL (.mk k n s t l fs):=⟨_,rfl⟩
 rw[<- hr]
 refine ap.intro SN.2 (by simp[SN]) ?_
 have hc:k=1\/k=2\/k=3\/k=4\/k=5\/k=6\/k=7\/k=8\/k=9\/k=10:=by omega
 clear hk
 rcases hc with rfl | rfl | rfl | rfl | rfl | rfl | rfl | rfl | rfl | rfl
 all_goals rcases h1 with a | ⟨a,b⟩ | ⟨a,b⟩
 all_goals try omega
 all_goals first | (have:=hend;skip) | (refine dW (c:=false) hr ?_ ?_;(focus (simp[eL, *];done));rintro rfl;have hend:=trivial;clear h2 h3 h4 h5) | rcases h2 with a2 | ⟨a2,b2⟩ | ⟨a2,b2⟩
 all_goals try omega
 all_goals first | (have:=hend;skip) | (refine dW (c:=false) hr ?_ ?_;(focus (simp[eL, *];done));rintro rfl;have hend:=trivial;clear h3 h4 h5) | rcases h3 with a3 | ⟨a3,b3⟩ | ⟨a3,b3⟩
 all_goals try omega
 all_goals first | (have:=hend;skip) | (refine dW (c:=false) hr ?_ ?_;(focus (simp[eL, *];done));rintro rfl;have hend:=trivial;clear h4 h5) | rcases h4 with a4 | ⟨a4,b4,c4⟩ | ⟨a4,b4,c4⟩
 all_goals try omega
 all_goals first | (have:=hend;skip) | (refine dW (c:=false) hr ?_ ?_;(focus (simp[eL, *];done));rintro rfl;have hend:=trivial;clear h5) | rcases h5 with a5 | ⟨a5,b5,c5⟩ | ⟨a5,b5,c5⟩
 all_goals try omega
 all_goals first | (have:=hend;skip) | (refine dW (c:=true) hr ?_ ?_;(focus (simp[eL, *];done));rintro rfl) | (refine dW (c:=false) hr ?_ ?_;(focus (simp[eL, *];done));rintro rfl)
 all_goals clear hr
 all_goals simp(disch:=try exact dI) only[SN,Uo, *,push_cast,seval]
theorem tO (e:List (Nat×AV))(σ:List (Nat×Blk))(new:Nat)(x:AX):eQ e σ new (.ofStr x)=ju new (evE e x):=_root_.id rfl
theorem Ae (new:Nat){k:List UInt8}(h:k.length<=140737488355328):ju new (.pv (.str k))=some (.pv (.list (aX k)),[(new,.none)]):=by simp only[ju];rw[if_pos h]
def kr (c:UInt8):Bool:=decide (97<=c.toNat)&&decide (c.toNat<=122)
def okC (c:UInt8):Bool:=kr c||(decide (48<=c.toNat)&&decide (c.toNat<=57))||decide (c.toNat=95)
def aE (s:List UInt8):Bool:=decide (0<s.length)&&(decide (s.length<=32)&&(kr (s.headD 0)&&s.all okC))
theorem xz (s:List UInt8):(aX s).length=s.length:=by simp[aX]
theorem Dx {s:List UInt8}{i:Nat}{c:UInt8}(h:s[i]? = some c):(aX s)[i]? = some (.int .u8 (c.toNat:Int)):=by simp[aX,h]
theorem tK {s:List UInt8}{i:Nat}{c:UInt8}(h:s[i]? = some c):(s.take (i+1)).all okC=((s.take i).all okC&&okC c):=by rw[aC h];simp
theorem mM {s:List UInt8}{i:Nat}{c:UInt8}(h:s[i]? = some c)(hc:okC c=false):s.all okC=false:=by
 rw[Bool.eq_false_iff]
 intro ha
 have:=List.all_eq_true.1 ha c (List.mem_of_getElem? h)
 rw[hc] at this;cases this
theorem me (s:List UInt8):ap Tryz.prog aB 90 [.str s] (.bool (aE s)):=by
 cases s with
 | nil=>
   rw[show aE []=false from rfl]
   refine ap.intro Q90.2 (by simp[Q90]) ?_
   simp(maxSteps:=9^7) (disch:=try exact dI) only[Q90,push_cast,seval]
 | cons c r=>
   generalize hs:c::r=s
   have hne:¬ s=[]:=by rw[<- hs];simp
   have h0:s[0]? = some c:=by rw[<- hs];rfl
   have hh:s.headD 0=c:=by rw[<- hs];rfl
   have hlen:0<s.length:=by rw[<- hs];simp
   clear hs
   refine ap.intro Q90.2 (by simp[Q90]) ?_
   by_cases h32:s.length<=32
   ·by_cases ha:97<=c.toNat
    ·by_cases hz:c.toNat<=122
     ·have e:aE s=s.all okC:=by simp only[aE,hh,kr,decide_eq_true hlen,decide_eq_true h32,decide_eq_true ha,decide_eq_true hz,Vz]
      rw[e]
      simp(maxSteps:=9^7) (disch:=try exact dI) only[Q90,hne,h0,bl,tO,Ae,xz,push_cast,seval]
      refine aw ([]) (fun i:Nat=>[(25,.pv (.int .i64 (i:Int)))]) (fun _=>[]) (fun i=>i<=s.length/\(s.take i).all okC=true) (fun i=>s.length - i) (0) ?_;intro e0 σ0 n0 h0;simp(maxSteps:=9^7) (disch:=try exact dI) only[push_cast,seval] at h0;obtain⟨rfl,rfl,rfl⟩:=h0;refine⟨?_,?_,?_⟩
      ·simp(maxSteps:=9^7) (disch:=try exact dI) only[push_cast,seval]
      ·exact⟨by omega,by simp⟩
      rintro i ⟨hi,hall⟩
      by_cases hlt:i<s.length
      ·have hltI:(i:Int)<(s.length:Int):=by omega
       obtain⟨b,hb⟩:∃ b,s[i]? = some b:=⟨_,Uq hlt⟩
       have hbp:=Dx hb
       have hbn:=b.toNat_lt
       have hsn:=tK hb
       rw[hall,Vz] at hsn
       have hc:b.toNat<48\/(48<=b.toNat/\b.toNat<=57)\/(57<b.toNat/\b.toNat<97/\b.toNat≠95)\/b.toNat=95\/(97<=b.toNat/\b.toNat<=122)\/122<b.toNat:=by omega
       rcases hc with hc | hc | hc | hc | hc | hc
       ·have hbad:s.all okC=false:=mM hb (by simp[okC,kr];omega)
        rw[hbad]
        simp(maxSteps:=9^7) (disch:=try exact dI) only[hbp,push_cast,seval]
       ·have hok:okC b=true:=by simp[okC,kr];omega
        simp(maxSteps:=9^7) (disch:=try exact dI) only[hbp,push_cast,seval]
        exact⟨i+1,aN qsZ,⟨by omega,by rw[hsn,hok]⟩,by omega⟩
       ·have hbad:s.all okC=false:=mM hb (by simp[okC,kr];omega)
        rw[hbad]
        simp(maxSteps:=9^7) (disch:=try exact dI) only[hbp,push_cast,seval]
       ·have hok:okC b=true:=by simp[okC,kr];omega
        simp(maxSteps:=9^7) (disch:=try exact dI) only[hbp,push_cast,seval]
        exact⟨i+1,aN qsZ,⟨by omega,by rw[hsn,hok]⟩,by omega⟩
       ·have hok:okC b=true:=by simp[okC,kr];omega
        simp(maxSteps:=9^7) (disch:=try exact dI) only[hbp,push_cast,seval]
        exact⟨i+1,aN qsZ,⟨by omega,by rw[hsn,hok]⟩,by omega⟩
       ·have hbad:s.all okC=false:=mM hb (by simp[okC,kr];omega)
        rw[hbad]
        simp(maxSteps:=9^7) (disch:=try exact dI) only[hbp,push_cast,seval]
      ·have he:s.take i=s:=Ux (by omega)
       rw[he] at hall
       rw[hall]
       simp(maxSteps:=9^7) (disch:=try exact dI) only[push_cast,seval]
     ·have e:aE s=false:=by simp only[aE,hh,kr,decide_eq_false hz,VE,Vy]
      rw[e]
      simp(maxSteps:=9^7) (disch:=try exact dI) only[Q90,hne,h0,bl,push_cast,seval]
    ·have e:aE s=false:=by simp only[aE,hh,kr,decide_eq_false ha,VE,Vy]
     rw[e]
     simp(maxSteps:=9^7) (disch:=try exact dI) only[Q90,hne,h0,bl,push_cast,seval]
   ·have e:aE s=false:=by simp[aE,h32]
    rw[e]
    simp(maxSteps:=9^7) (disch:=try exact dI) only[Q90,hne,push_cast,seval]
theorem gz (s:List UInt8):ap Tryz.prog aB 32 [.str s] (.bool (aE s)):=by
 refine ap.intro Q32.2 (by simp[Q32]) ?_
 by_cases h0:s.length<1
 ·have e:aE s=false:=by simp only[aE,decide_eq_false (show ¬ 0<s.length by omega),Vy]
  rw[e]
  simp(maxSteps:=9^7) (disch:=try exact dI) only[Q32,push_cast,seval]
 by_cases h32:32<s.length
 ·have e:aE s=false:=by simp only[aE,decide_eq_false (show ¬ s.length<=32 by omega),Vy,VE]
  rw[e]
  simp(maxSteps:=9^7) (disch:=try exact dI) only[Q32,push_cast,seval]
 simp(maxSteps:=9^7) (disch:=try exact dI) only[Q32,push_cast,seval]
 refine aw ([]) (fun i:Nat=>[(16,.pv (.int .i64 (i:Int)))]) (fun _=>[]) (fun i=>i<=s.length/\(s.take i).all okC=true/\(0<i->kr (s.headD 0)=true)) (fun i=>s.length - i) (0) ?_;intro e0 σ0 n0 h0;simp(maxSteps:=9^7) (disch:=try exact dI) only[push_cast,seval] at h0;obtain⟨rfl,rfl,rfl⟩:=h0;refine⟨?_,?_,?_⟩
 ·simp(maxSteps:=9^7) (disch:=try exact dI) only[push_cast,seval]
 ·exact⟨by omega,by simp,fun h=>absurd h (by omega)⟩
 rintro i ⟨hi,hall,hlt0⟩
 by_cases hlt:i<s.length
 ·have hltI:(i:Int)<(s.length:Int):=by omega
  obtain⟨b,hb⟩:∃ b,s[i]? = some b:=⟨_,Uq hlt⟩
  have hbn:=b.toNat_lt
  have hsn:=tK hb
  rw[hall,Vz] at hsn
  by_cases hlc:97<=b.toNat/\b.toNat<=122
  ·have a1:(97:Int)<=(b.toNat:Int):=by omega
   have a2:(b.toNat:Int)<=122:=by omega
   have hok:okC b=true:=by simp[okC,kr];omega
   have hl:kr b=true:=by simp[kr];omega
   simp(maxSteps:=9^7) (disch:=try exact dI) only[hltI,hb,bl,a1,a2,push_cast,seval]
   refine⟨i+1,aN qsZ,⟨by omega,by rw[hsn,hok],fun _=>?_⟩,by omega⟩
   by_cases hz:i=0
   ·subst hz
    cases s with
    | nil=>cases hb
    | cons x r=>cases hb;exact hl
   ·exact hlt0 (by omega)
  ·by_cases hz:i=0
   ·subst hz
    have e:aE s=false:=by
     have hh:s.headD 0=b:=by
      cases s with
      | nil=>cases hb
      | cons x r=>cases hb;rfl
     have hl:kr b=false:=by simp[kr];omega
     simp only[aE,hh,hl,Vy,VE]
    rw[e]
    by_cases h97:97<=b.toNat
    ·have a1:(97:Int)<=(b.toNat:Int):=by omega
     have a2:¬ (b.toNat:Int)<=122:=by omega
     simp(maxSteps:=9^7) (disch:=try exact dI) only[hltI,hb,bl,a1,a2,push_cast,seval]
    ·have a1:¬ (97:Int)<=(b.toNat:Int):=by omega
     simp(maxSteps:=9^7) (disch:=try exact dI) only[hltI,hb,bl,a1,push_cast,seval]
   ·have hzI:¬ (i:Int)=0:=by omega
    have go:∀ (e1:okC b=false),aE s=false:=fun e1=>by simp only[aE,mM hb e1,VE]
    have hc:b.toNat<48\/(48<=b.toNat/\b.toNat<=57)\/(57<b.toNat/\b.toNat<97/\b.toNat≠95)\/b.toNat=95\/122<b.toNat:=by omega
    rcases hc with hc | hc | hc | hc | hc
    ·rw[go (by simp[okC,kr];omega)]
     have a1:¬ (97:Int)<=(b.toNat:Int):=by omega
     have a3:¬ (b.toNat:Int)=95:=by omega
     simp(maxSteps:=9^7) (disch:=try exact dI) only[hltI,hb,bl,a1,a3,hzI,push_cast,seval]
    ·have hok:okC b=true:=by simp[okC,kr];omega
     have a1:¬ (97:Int)<=(b.toNat:Int):=by omega
     have a3:¬ (b.toNat:Int)=95:=by omega
     simp(maxSteps:=9^7) (disch:=try exact dI) only[hltI,hb,bl,a1,a3,hzI,push_cast,seval]
     exact⟨i+1,aN qsZ,⟨by omega,by rw[hsn,hok],fun _=>hlt0 (by omega)⟩,by omega⟩
    ·rw[go (by simp[okC,kr];omega)]
     have a1:¬ (97:Int)<=(b.toNat:Int):=by omega
     have a3:¬ (b.toNat:Int)=95:=by omega
     simp(maxSteps:=9^7) (disch:=try exact dI) only[hltI,hb,bl,a1,a3,hzI,push_cast,seval]
    ·have hok:okC b=true:=by simp[okC,kr];omega
     have a1:¬ (97:Int)<=(b.toNat:Int):=by omega
     have a3:((b.toNat:Int)=95)=True:=eq_true (by omega)
     simp(maxSteps:=9^7) (disch:=try exact dI) only[hltI,hb,bl,a1,a3,hzI,push_cast,seval]
     exact⟨i+1,aN qsZ,⟨by omega,by rw[hsn,hok],fun _=>hlt0 (by omega)⟩,by omega⟩
    ·rw[go (by simp[okC,kr];omega)]
     have a1:(97:Int)<=(b.toNat:Int):=by omega
     have a2:¬ (b.toNat:Int)<=122:=by omega
     have a3:¬ (b.toNat:Int)=95:=by omega
     simp(maxSteps:=9^7) (disch:=try exact dI) only[hltI,hb,bl,a1,a2,a3,hzI,push_cast,seval]
 ·have he:s.take i=s:=Ux (by omega)
  rw[he] at hall
  have e:aE s=true:=by
   simp only[aE,hall,hlt0 (by omega),decide_eq_true (show 0<s.length by omega),decide_eq_true (show s.length<=32 by omega),Vz]
  rw[e]
  have hnI:¬ (i:Int)<(s.length:Int):=by omega
  simp(maxSteps:=9^7) (disch:=try exact dI) only[hnI,push_cast,seval]

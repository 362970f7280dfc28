/- A part of the proof for CodecUsualCardSaid. -/
import Derived.Test.YtfepkhlgopjaoaaGreatDoorUsKR1
import Derived.Test.YtfepkhlgopjaoaaGreatDoorUsCore6
set_option linter.unusedVariables false
set_option linter.unusedSimpArgs false
set_option maxRecDepth 100000
namespace Go.Proofs.YtfepkhlgopjaoaaGreatDoor
open Go Go.Ab Go.RowKit Go.Shelf
attribute [local irreducible] vc
attribute [local go_sem] Oper.semAt_some
theorem DH {l:Nat}{xs:List (List PV)}{base:Nat→Nat→Prop}{n0:Nat}{J:Nat→(Nat→Nat→Prop)→World→Prop}{Jx:World→Prop}(h:Iter l xs base n0 J Jx):∀ n,Hv l xs base n0 J Jx n
 | 0=>fun v hd=>hd.elim
 | n+1=>pQ h n (DH h n)
set_option maxHeartbeats 4000000 in
theorem fE (n:Nat)(v:Val)(hd:g8 n v)(hv:v.ok):Nc Tryz.prog az 226 [.eptr [v.pv] 0 0] ((dj n 1 v).map tc):=by
 refine⟨by kernel_rfl,fun w imm lbv l J Jx O hG himm hsz hlb hgrow hlt hround hJ=>?_⟩
 have hI:Iter l ((dj n 1 v).map tc) imm w.heap.size J Jx:=⟨hgrow,hlt,hround⟩
 have hp:=hlb 0 _ rfl
 obtain⟨p,rfl⟩:∃ p,lbv = #[p]:=by
  obtain⟨l⟩:=lbv
  match l,hsz with
  | [p],_=>exact⟨p,rfl⟩
 simp only[Array.getD_eq_getD_getElem?,List.size_toArray,List.length_cons,List.length_nil] at hp
 replace hp:PRel w imm (.eptr [v.pv] 0 0) p:=by simpa using hp
 cases hp with
 | eptr _ b off cc sz g _ _ h1 h2 h3 h4 h5 h6=>
   have hs6:sz=6:=by rw[← h3 0 _ rfl,v.cells_len]
   subst hs6
   obtain⟨cs,e1,e2,e3⟩:=v.row
   have hcs:v.pv.cells=cs:=by rw[e1];rfl
   have hel:∀ j,j<6→imm b (off+0*6+j)∧w.cell? ⟨b,off+0*6+j,none⟩=some (g 0 j)∧(g 0 j).oneCell'=true:=fun j hj=>by
    obtain⟨y,hy⟩:∃ y,cs[j]? = some y:=⟨_,List.getElem?_eq_getElem (by omega)⟩
    exact h4 0 _ j y rfl (by rw[hcs];exact hy)
   have hu:PRel w imm v.pv (.agg #[g 0 0,g 0 1,g 0 2,g 0 3,g 0 4,g 0 5]):=by
    rw[e1]
    refine .agg _ _ (by simp[e2]) fun j y hy=>?_
    have hj:j<6:=by have:=(List.getElem?_eq_some_iff.1 hy).1;omega
    have:=h5 0 _ j y rfl (by rw[hcs];exact hy)
    have hc:j=0∨j=1∨j=2∨j=3∨j=4∨j=5:=by omega
    rcases hc with rfl | rfl | rfl | rfl | rfl | rfl<;>exact this
   have hvis:=DH hI n v hd hv 1 0 0 O imm imm w (.agg #[g 0 0,g 0 1,g 0 2,g 0 3,g 0 4,g 0 5]) (fun j q hq=>by simp[hq]) hJ hu hG (fun b o h=>.inl h) (fun b o h=>h) himm (Nat.le_refl _)
   have w0:=(hel 0 (by omega)).2.1;have w1:=(hel 1 (by omega)).2.1;have w2:=(hel 2 (by omega)).2.1;have w3:=(hel 3 (by omega)).2.1;have w4:=(hel 4 (by omega)).2.1;have w5:=(hel 5 (by omega)).2.1
   simp only[Nat.zero_mul,Nat.add_zero] at w0 w1 w2 w3 w4 w5 ⊢
   have hlen:((dj n 1 v).map tc).length=0+(dj n 1 v).length:=by simp
   rw[hlen]
   clear hel hu h4 h5 hround hgrow hlt hI
   simp only[List.append_toArray,List.cons_append,List.nil_append]
   refine callsIn_of_wp Tryz.func226 rfl trivial ?_ rfl
   simp only[Tryz.ntmps226,List.size_toArray,List.length_cons,List.length_nil,Nat.reduceAdd,Nat.reduceSub,Array.replicate_succ,Array.replicate_zero,List.push_toArray,List.append_toArray,List.nil_append,List.cons_append]
   gi_wp2_with (refine⟨trivial,rfl,?_⟩;gi_at_call 227;refine hvis.mono ?_;clear hvis;rintro e W6 (⟨rfl,O6,hJ6,hK6,hG6⟩ | ⟨rfl,hx6⟩))
   ·go_end0
    exact⟨⟨_,rfl⟩,.inl ⟨_,hJ6⟩⟩
   ·go_end0
    exact⟨⟨_,rfl⟩,.inr hx6⟩
end Go.Proofs.YtfepkhlgopjaoaaGreatDoor
namespace Go.Proofs.YtfepkhlgopjaoaaGreatDoor
open Go Go.Ab
attribute [local irreducible] vc
theorem gI (v:Val):ap Tryz.prog az 134 [v.pv] (.clo 226 [] [.eptr [v.pv] 0 0]):=by
 obtain⟨k,n,s,t,l,fs⟩:=v
 refine ap.intro H9 (by simp[NG]) ?_
 simp(disch:=try exact dI) only[NG,Val.pv_mk,push_cast,seval]
def uu:PV:=.agg [.nilf,.clo 212 [] [],.clo 214 [] [],.clo 215 [] [],.clo 217 [] [],.clo 220 [] [],.clo 221 [] [],.clo 222 [] [],.clo 223 [] [],.clo 224 [] [],.clo 225 [] []]
theorem vT (f:Nat)(a b:List PV):PV.one (.clo f a b)=true:=rfl
theorem oN:PV.one .nilf=true:=rfl
theorem AL:ap Tryz.prog az 133 [] uu:=by
 refine ap.intro Ia (by simp[NH]) ?_
 simp(disch:=try exact dI) only[NH,uu,vT,oN,push_cast,seval]
theorem bK (n a b:Int):ap Tryz.prog az 213 [.int .i64 n,.int .i64 a,.int .i64 b] (.int .i64 (if n<a∨b<n then 2 else 0)):=by
 refine ap.intro HS (by simp[LC]) ?_
 by_cases h1:n<a
 ·rw[if_pos (.inl h1)]
  simp(disch:=try exact dI) only[LC,push_cast,seval]
 ·by_cases h2:b<n
  ·rw[if_pos (.inr h2)]
   simp(disch:=try exact dI) only[LC,push_cast,seval]
  ·rw[if_neg (by omega)]
   simp(disch:=try exact dI) only[LC,push_cast,seval]
theorem gz (n m e:Int):ap Tryz.prog az 218 [.int .i64 n,.int .i64 m,.int .i64 e] (.int .i64 (if m<n then e else 0)):=by
 refine ap.intro HN (by simp[L0]) ?_
 by_cases h1:m<n
 ·rw[if_pos h1]
  simp(disch:=try exact dI) only[L0,push_cast,seval]
 ·rw[if_neg h1]
  simp(disch:=try exact dI) only[L0,push_cast,seval]
def dU:Val→Bool
 | .mk k n s t l fs=>decide (k=0)&&(decide (n=0)&&(decide (s=0)&&(decide (t=[])&&(decide (l.length=0)&&decide (fs.length=0)))))
def di:Val→Bool
 | .mk k n s t l fs=>(decide (k=1∨k=2∨k=6∨k=7∨k=3)||decide (n=0))&&((decide (k=3)||decide (s=0))&&((decide (k=4∨k=5∨k=10)||decide (t=[]))&&((decide (k=8∨k=10)||decide (l.length=0))&&(decide (k=9)||decide (fs.length=0)))))
theorem cy {α:Type}{r b c:α}{P:Prop}(hr:r=b)(hb:b=c)(h:r=c→P):P:=h (hr.trans hb)
theorem EP (k n s:Int)(t:List UInt8)(l:List Val)(fs:List Fld)(hk:1≤k∧k≤10) :
  ((k=1∨k=2∨k=6∨k=7∨k=3)∨(¬ (k=1∨k=2∨k=6∨k=7∨k=3)∧¬ n=0)∨(¬ (k=1∨k=2∨k=6∨k=7∨k=3)∧n=0))∧(k=3∨(¬ k=3∧¬ s=0)∨(¬ k=3∧s=0)) ∧
  ((k=4∨k=5∨k=10)∨(¬ (k=4∨k=5∨k=10)∧¬ t=[])∨(¬ (k=4∨k=5∨k=10)∧t=[])) ∧
  ((k=8∨k=10)∨(¬ (k=8∨k=10)∧¬ l.length=0∧¬ (l.length:Int)=0)∨(¬ (k=8∨k=10)∧l.length=0∧(l.length:Int)=0)) ∧
  (k=9∨(¬ k=9∧¬ fs.length=0∧¬ (fs.length:Int)=0)∨(¬ k=9∧fs.length=0∧(fs.length:Int)=0)):=by
 refine⟨by omega,by omega,?_,by omega,by omega⟩
 by_cases h:t=[]<;>simp only[h,true_and,and_true,not_true,not_false_iff,and_false,false_or,or_false]<;>exact Classical.em _
set_option maxHeartbeats 8000000 in
theorem Gf (v:Val):ap Tryz.prog az 19 [v.pv] (.bool (dU v)):=by
 obtain⟨k,n,s,t,l,fs⟩:=v
 have h5:(l.length=0∧(l.length:Int)=0)∨(¬ l.length=0∧¬ (l.length:Int)=0):=by omega
 have h6:(fs.length=0∧(fs.length:Int)=0)∨(¬ fs.length=0∧¬ (fs.length:Int)=0):=by omega
 obtain⟨r,hr⟩:∃ r,r=dU (.mk k n s t l fs):=⟨_,rfl⟩
 rw[← hr]
 refine ap.intro LD (by simp[F19]) ?_
 rcases Classical.em (k=0) with a | a
 all_goals first | (have:=hend;skip) | (refine cy (c:=false) hr ?_ ?_;(focus (simp[dU, *];done));rintro rfl;have hend:=trivial;clear h5 h6) | rcases Classical.em (n=0) with b | b
 all_goals first | (have:=hend;skip) | (refine cy (c:=false) hr ?_ ?_;(focus (simp[dU, *];done));rintro rfl;have hend:=trivial;clear h5 h6) | rcases Classical.em (s=0) with c | c
 all_goals first | (have:=hend;skip) | (refine cy (c:=false) hr ?_ ?_;(focus (simp[dU, *];done));rintro rfl;have hend:=trivial;clear h5 h6) | rcases Classical.em (t=[]) with d | d
 all_goals first | (have:=hend;skip) | (refine cy (c:=false) hr ?_ ?_;(focus (simp[dU, *];done));rintro rfl;have hend:=trivial;clear h5 h6) | rcases h5 with ⟨e,e1⟩ | ⟨e,e1⟩
 all_goals first | (have:=hend;skip) | (refine cy (c:=false) hr ?_ ?_;(focus (simp[dU, *];done));rintro rfl;have hend:=trivial;clear h6) | rcases h6 with ⟨f,f1⟩ | ⟨f,f1⟩
 all_goals first | (have:=hend;skip) | (refine cy (c:=true) hr ?_ ?_;(focus (simp[dU, *];done));rintro rfl) | (refine cy (c:=false) hr ?_ ?_;(focus (simp[dU, *];done));rintro rfl)
 all_goals clear hr
 all_goals simp(disch:=try exact dI) only[F19,Val.pv_mk, *,push_cast,seval]
set_option maxHeartbeats 8000000 in
theorem EQ (v:Val)(hk:1≤v.kind∧v.kind≤10):ap Tryz.prog az 135 [v.pv] (.bool (di v)):=by
 obtain⟨k,n,s,t,l,fs⟩:=v
 simp only[Val.kind] at hk
 obtain⟨h1,h2,h3,h4,h5⟩:=EP k n s t l fs hk
 obtain⟨r,hr⟩:∃ r,r=di (.mk k n s t l fs):=⟨_,rfl⟩
 rw[← hr]
 refine ap.intro H8 (by simp[NF]) ?_
 have hc:k=1∨k=2∨k=3∨k=4∨k=5∨k=6∨k=7∨k=8∨k=9∨k=10:=by omega
 clear hk
 rcases hc with rfl | rfl | rfl | rfl | rfl | rfl | rfl | rfl | rfl | rfl
 all_goals rcases h1 with a | ⟨a,b⟩ | ⟨a,b⟩
 all_goals try omega
 all_goals first | (have:=hend;skip) | (refine cy (c:=false) hr ?_ ?_;(focus (simp[di, *];done));rintro rfl;have hend:=trivial;clear h2 h3 h4 h5) | rcases h2 with a2 | ⟨a2,b2⟩ | ⟨a2,b2⟩
 all_goals try omega
 all_goals first | (have:=hend;skip) | (refine cy (c:=false) hr ?_ ?_;(focus (simp[di, *];done));rintro rfl;have hend:=trivial;clear h3 h4 h5) | rcases h3 with a3 | ⟨a3,b3⟩ | ⟨a3,b3⟩
 all_goals try omega
 all_goals first | (have:=hend;skip) | (refine cy (c:=false) hr ?_ ?_;(focus (simp[di, *];done));rintro rfl;have hend:=trivial;clear h4 h5) | rcases h4 with a4 | ⟨a4,b4,c4⟩ | ⟨a4,b4,c4⟩
 all_goals try omega
 all_goals first | (have:=hend;skip) | (refine cy (c:=false) hr ?_ ?_;(focus (simp[di, *];done));rintro rfl;have hend:=trivial;clear h5) | rcases h5 with a5 | ⟨a5,b5,c5⟩ | ⟨a5,b5,c5⟩
 all_goals try omega
 all_goals first | (have:=hend;skip) | (refine cy (c:=true) hr ?_ ?_;(focus (simp[di, *];done));rintro rfl) | (refine cy (c:=false) hr ?_ ?_;(focus (simp[di, *];done));rintro rfl)
 all_goals clear hr
 all_goals simp(disch:=try exact dI) only[NF,Val.pv_mk, *,push_cast,seval]
end Go.Proofs.YtfepkhlgopjaoaaGreatDoor
-- many steps
namespace Go.Proofs.YtfepkhlgopjaoaaGreatDoor
open Go Go.Ab
attribute [local irreducible] vc
theorem pJ (e:List (Nat×AV))(σ:List (Nat×Blk))(new:Nat)(x:AX):e5 e σ new (.ofStr x)=dZ new (evE e x):=_root_.id rfl
theorem uP (new:Nat){k:List UInt8}(h:k.length≤140737488355328):dZ new (.pv (.str k))=some (.pv (.list (aE k)),[(new,.none)]):=by simp only[dZ];rw[if_pos h]
def wF (c:UInt8):Bool:=decide (97≤c.toNat)&&decide (c.toNat≤122)
def okC (c:UInt8):Bool:=wF c||(decide (48≤c.toNat)&&decide (c.toNat≤57))||decide (c.toNat=95)
def ct (s:List UInt8):Bool:=decide (0<s.length)&&(decide (s.length≤32)&&(wF (s.headD 0)&&s.all okC))
theorem sM (s:List UInt8):(aE s).length=s.length:=by simp[aE]
theorem yF {s:List UInt8}{i:Nat}{c:UInt8}(h:s[i]? = some c):(aE s)[i]? = some (.int .u8 (c.toNat:Int)):=by simp[aE,h]
theorem Do {s:List UInt8}{i:Nat}{c:UInt8}(h:s[i]? = some c):(s.take (i+1)).all okC=((s.take i).all okC&&okC c):=by rw[aR h];simp
theorem n8 {s:List UInt8}{i:Nat}{c:UInt8}(h:s[i]? = some c)(hc:okC c=false):s.all okC=false:=by
 rw[Bool.eq_false_iff]
 intro ha
 have:=List.all_eq_true.1 ha c (List.mem_of_getElem? h)
 rw[hc] at this;cases this
set_option maxHeartbeats 2000000 in
theorem jx (s:List UInt8):ap Tryz.prog az 43 [.str s] (.bool (ct s)):=by
 cases s with
 | nil=>
   rw[show ct []=false from rfl]
   refine ap.intro Ew (by simp[F43]) ?_
   simp(maxSteps:=9^7) (disch:=try exact dI) only[F43,push_cast,seval]
 | cons c r=>
   generalize hs:c::r=s
   have hne:¬ s=[]:=by rw[← hs];simp
   have h0:s[0]? = some c:=by rw[← hs];rfl
   have hh:s.headD 0=c:=by rw[← hs];rfl
   have hlen:0<s.length:=by rw[← hs];simp
   clear hs
   refine ap.intro Ew (by simp[F43]) ?_
   by_cases h32:s.length≤32
   ·by_cases ha:97≤c.toNat
    ·by_cases hz:c.toNat≤122
     ·have e:ct s=s.all okC:=by simp only[ct,hh,wF,decide_eq_true hlen,decide_eq_true h32,decide_eq_true ha,decide_eq_true hz,Bool.true_and]
      rw[e]
      simp(maxSteps:=9^7) (disch:=try exact dI) only[F43,hne,h0,dO,pJ,uP,sM,push_cast,seval]
      refine aB ([]) (fun i:Nat=>[(25,.pv (.int .i64 (i:Int)))]) (fun _=>[]) (fun i=>i≤s.length∧(s.take i).all okC=true) (fun i=>s.length - i) (0) ?_;intro e0 σ0 n0 h0;simp(maxSteps:=9^7) (disch:=try exact dI) only[push_cast,seval] at h0;obtain⟨rfl,rfl,rfl⟩:=h0;refine⟨?_,?_,?_⟩
      ·simp(maxSteps:=9^7) (disch:=try exact dI) only[push_cast,seval]
      ·exact⟨by omega,by simp⟩
      rintro i ⟨hi,hall⟩
      by_cases hlt:i<s.length
      ·have hltI:(i:Int)<(s.length:Int):=by omega
       obtain⟨b,hb⟩:∃ b,s[i]? = some b:=⟨_,List.getElem?_eq_getElem hlt⟩
       have hbp:=yF hb
       have hbn:=b.toNat_lt
       have hsn:=Do hb
       rw[hall,Bool.true_and] at hsn
       have hc:b.toNat<48∨(48≤b.toNat∧b.toNat≤57)∨(57<b.toNat∧b.toNat<97∧b.toNat≠95)∨b.toNat=95∨(97≤b.toNat∧b.toNat≤122)∨122<b.toNat:=by omega
       rcases hc with hc | hc | hc | hc | hc | hc
       ·have hbad:s.all okC=false:=n8 hb (by simp[okC,wF];omega)
        rw[hbad]
        simp(maxSteps:=9^7) (disch:=try exact dI) only[hbp,push_cast,seval]
       ·have hok:okC b=true:=by simp[okC,wF];omega
        simp(maxSteps:=9^7) (disch:=try exact dI) only[hbp,push_cast,seval]
        exact⟨i+1,bH qsZ,⟨by omega,by rw[hsn,hok]⟩,by omega⟩
       ·have hbad:s.all okC=false:=n8 hb (by simp[okC,wF];omega)
        rw[hbad]
        simp(maxSteps:=9^7) (disch:=try exact dI) only[hbp,push_cast,seval]
       ·have hok:okC b=true:=by simp[okC,wF];omega
        simp(maxSteps:=9^7) (disch:=try exact dI) only[hbp,push_cast,seval]
        exact⟨i+1,bH qsZ,⟨by omega,by rw[hsn,hok]⟩,by omega⟩
       ·have hok:okC b=true:=by simp[okC,wF];omega
        simp(maxSteps:=9^7) (disch:=try exact dI) only[hbp,push_cast,seval]
        exact⟨i+1,bH qsZ,⟨by omega,by rw[hsn,hok]⟩,by omega⟩
       ·have hbad:s.all okC=false:=n8 hb (by simp[okC,wF];omega)
        rw[hbad]
        simp(maxSteps:=9^7) (disch:=try exact dI) only[hbp,push_cast,seval]
      ·have he:s.take i=s:=List.take_of_length_le (by omega)
       rw[he] at hall
       rw[hall]
       simp(maxSteps:=9^7) (disch:=try exact dI) only[push_cast,seval]
     ·have e:ct s=false:=by simp only[ct,hh,wF,decide_eq_false hz,Bool.and_false,Bool.false_and]
      rw[e]
      simp(maxSteps:=9^7) (disch:=try exact dI) only[F43,hne,h0,dO,push_cast,seval]
    ·have e:ct s=false:=by simp only[ct,hh,wF,decide_eq_false ha,Bool.and_false,Bool.false_and]
     rw[e]
     simp(maxSteps:=9^7) (disch:=try exact dI) only[F43,hne,h0,dO,push_cast,seval]
   ·have e:ct s=false:=by simp[ct,h32]
    rw[e]
    simp(maxSteps:=9^7) (disch:=try exact dI) only[F43,hne,push_cast,seval]
end Go.Proofs.YtfepkhlgopjaoaaGreatDoor

/- A part of the proof. -/
import Derived.Test.YtbojpfpliibfbaaGreatDoorMxRR0
set_option maxHeartbeats 16000000
set_option maxRecDepth 100000
set_option linter.unusedVariables false
set_option linter.unusedSimpArgs false
namespace Go.Proofs.YtbojpfpliibfbaaGreatDoor
open Go Go.Ab
attribute [local irreducible] vc
theorem j1 (v:Val):ag Tryz.prog aq 261 [v.pv] (.clo 295 [] [.eptr [v.pv] 0 0]):=by
 obtain⟨k,n,s,t,l,fs⟩:=v
 refine ag.intro S1.2 (by simp[S1]) ?_
 simp(disch:=try exact dI) only[S1,Val.pv_mk,push_cast,seval]
def Av:PV:=.agg [.nilf,.clo 282 [] [],.clo 284 [] [],.clo 285 [] [],.clo 287 [] [],.clo 289 [] [],.clo 290 [] [],.clo 291 [] [],.clo 292 [] [],.clo 293 [] [],.clo 294 [] []]
theorem BJ (f:Nat)(a b:List PV):PV.one (.clo f a b)=true:=rfl
theorem tv:PV.one .nilf=true:=rfl
theorem FM:ag Tryz.prog aq 260 [] Av:=by
 refine ag.intro S2.2 (by simp[S2]) ?_
 simp(disch:=try exact dI) only[S2,Av,BJ,tv,push_cast,seval]
theorem cU (n a b:Int):ag Tryz.prog aq 283 [.int .i64 n,.int .i64 a,.int .i64 b] (.int .i64 (if n<a\/b<n then 2 else 0)):=by
 refine ag.intro QJ.2 (by simp[QJ]) ?_
 by_cases h1:n<a
 ·rw[if_pos (.inl h1)]
  simp(disch:=try exact dI) only[QJ,push_cast,seval]
 ·by_cases h2:b<n
  ·rw[if_pos (.inr h2)]
   simp(disch:=try exact dI) only[QJ,push_cast,seval]
  ·rw[if_neg (by omega)]
   simp(disch:=try exact dI) only[QJ,push_cast,seval]
theorem jQ (n m e:Int):ag Tryz.prog aq 288 [.int .i64 n,.int .i64 m,.int .i64 e] (.int .i64 (if m<n then e else 0)):=by
 refine ag.intro Q8.2 (by simp[Q8]) ?_
 by_cases h1:m<n
 ·rw[if_pos h1]
  simp(disch:=try exact dI) only[Q8,push_cast,seval]
 ·rw[if_neg h1]
  simp(disch:=try exact dI) only[Q8,push_cast,seval]
def bv:Val->Bool
 | .mk k n s t l fs=>decide (k=0)&&(decide (n=0)&&(decide (s=0)&&(decide (t=[])&&(decide (l.length=0)&&decide (fs.length=0)))))
def eN:Val->Bool
 | .mk k n s t l fs=>(decide (k=1\/k=2\/k=6\/k=7\/k=3)||decide (n=0))&&((decide (k=3)||decide (s=0))&&((decide (k=4\/k=5\/k=10)||decide (t=[]))&&((decide (k=8\/k=10)||decide (l.length=0))&&(decide (k=9)||decide (fs.length=0)))))
theorem bN {α:Type}{r b c:α}{P:Prop}(hr:r=b)(hb:b=c)(h:r=c->P):P:=h (hr.trans hb)
theorem J0 (k n s:Int)(t:List UInt8)(l:List Val)(fs:List Fld)(hk:1<=k/\k<=10) :
  ((k=1\/k=2\/k=6\/k=7\/k=3)\/(¬ (k=1\/k=2\/k=6\/k=7\/k=3)/\¬ n=0)\/(¬ (k=1\/k=2\/k=6\/k=7\/k=3)/\n=0))/\(k=3\/(¬ k=3/\¬ s=0)\/(¬ k=3/\s=0)) /\
  ((k=4\/k=5\/k=10)\/(¬ (k=4\/k=5\/k=10)/\¬ t=[])\/(¬ (k=4\/k=5\/k=10)/\t=[])) /\
  ((k=8\/k=10)\/(¬ (k=8\/k=10)/\¬ l.length=0/\¬ (l.length:Int)=0)\/(¬ (k=8\/k=10)/\l.length=0/\(l.length:Int)=0)) /\
  (k=9\/(¬ k=9/\¬ fs.length=0/\¬ (fs.length:Int)=0)\/(¬ k=9/\fs.length=0/\(fs.length:Int)=0)):=by
 refine⟨by omega,by omega,?_,by omega,by omega⟩
 by_cases h:t=[]<;>simp only[h,true_and,and_true,not_true,not_false_iff,and_false,false_or,or_false]<;>exact Classical.em _
theorem rA (v:Val):ag Tryz.prog aq 110 [v.pv] (.bool (bv v)):=by
 obtain⟨k,n,s,t,l,fs⟩:=v
 have h5:(l.length=0/\(l.length:Int)=0)\/(¬ l.length=0/\¬ (l.length:Int)=0):=by omega
 have h6:(fs.length=0/\(fs.length:Int)=0)\/(¬ fs.length=0/\¬ (fs.length:Int)=0):=by omega
 obtain⟨r,hr⟩:∃ r,r=bv (.mk k n s t l fs):=⟨_,rfl⟩
 rw[<- hr]
 refine ag.intro Tz.2 (by simp[Tz]) ?_
 rcases Classical.em (k=0) with a | a
 all_goals first | (have:=hend;skip) | (refine bN (c:=false) hr ?_ ?_;(focus (simp[bv, *];done));rintro rfl;have hend:=trivial;clear h5 h6) | rcases Classical.em (n=0) with b | b
 all_goals first | (have:=hend;skip) | (refine bN (c:=false) hr ?_ ?_;(focus (simp[bv, *];done));rintro rfl;have hend:=trivial;clear h5 h6) | rcases Classical.em (s=0) with c | c
 all_goals first | (have:=hend;skip) | (refine bN (c:=false) hr ?_ ?_;(focus (simp[bv, *];done));rintro rfl;have hend:=trivial;clear h5 h6) | rcases Classical.em (t=[]) with d | d
 all_goals first | (have:=hend;skip) | (refine bN (c:=false) hr ?_ ?_;(focus (simp[bv, *];done));rintro rfl;have hend:=trivial;clear h5 h6) | rcases h5 with ⟨e,e1⟩ | ⟨e,e1⟩
 all_goals first | (have:=hend;skip) | (refine bN (c:=false) hr ?_ ?_;(focus (simp[bv, *];done));rintro rfl;have hend:=trivial;clear h6) | rcases h6 with ⟨f,f1⟩ | ⟨f,f1⟩
 all_goals first | (have:=hend;skip) | (refine bN (c:=true) hr ?_ ?_;(focus (simp[bv, *];done));rintro rfl) | (refine bN (c:=false) hr ?_ ?_;(focus (simp[bv, *];done));rintro rfl)
 all_goals clear hr
 all_goals simp(disch:=try exact dI) only[Tz,Val.pv_mk, *,push_cast,seval]
theorem J1 (v:Val)(hk:1<=v.kind/\v.kind<=10):ag Tryz.prog aq 262 [v.pv] (.bool (eN v)):=by
 obtain⟨k,n,s,t,l,fs⟩:=v
 simp only[Val.kind] at hk
 obtain⟨h1,h2,h3,h4,h5⟩:=J0 k n s t l fs hk
 obtain⟨r,hr⟩:∃ r,r=eN (.mk k n s t l fs):=⟨_,rfl⟩
 rw[<- hr]
 refine ag.intro S0.2 (by simp[S0]) ?_
 have hc:k=1\/k=2\/k=3\/k=4\/k=5\/k=6\/k=7\/k=8\/k=9\/k=10:=by omega
 clear hk
 rcases hc with rfl | rfl | rfl | rfl | rfl | rfl | rfl | rfl | rfl | rfl
 all_goals rcases h1 with a | ⟨a,b⟩ | ⟨a,b⟩
 all_goals try omega
 all_goals first | (have:=hend;skip) | (refine bN (c:=false) hr ?_ ?_;(focus (simp[eN, *];done));rintro rfl;have hend:=trivial;clear h2 h3 h4 h5) | rcases h2 with a2 | ⟨a2,b2⟩ | ⟨a2,b2⟩
 all_goals try omega
 all_goals first | (have:=hend;skip) | (refine bN (c:=false) hr ?_ ?_;(focus (simp[eN, *];done));rintro rfl;have hend:=trivial;clear h3 h4 h5) | rcases h3 with a3 | ⟨a3,b3⟩ | ⟨a3,b3⟩
 all_goals try omega
 all_goals first | (have:=hend;skip) | (refine bN (c:=false) hr ?_ ?_;(focus (simp[eN, *];done));rintro rfl;have hend:=trivial;clear h4 h5) | rcases h4 with a4 | ⟨a4,b4,c4⟩ | ⟨a4,b4,c4⟩
 all_goals try omega
 all_goals first | (have:=hend;skip) | (refine bN (c:=false) hr ?_ ?_;(focus (simp[eN, *];done));rintro rfl;have hend:=trivial;clear h5) | rcases h5 with a5 | ⟨a5,b5,c5⟩ | ⟨a5,b5,c5⟩
 all_goals try omega
 all_goals first | (have:=hend;skip) | (refine bN (c:=true) hr ?_ ?_;(focus (simp[eN, *];done));rintro rfl) | (refine bN (c:=false) hr ?_ ?_;(focus (simp[eN, *];done));rintro rfl)
 all_goals clear hr
 all_goals simp(disch:=try exact dI) only[S0,Val.pv_mk, *,push_cast,seval]
theorem uO (e:List (Nat×AV))(σ:List (Nat×Blk))(new:Nat)(x:AX):lD e σ new (.ofStr x)=dJ new (evE e x):=_root_.id rfl
theorem AZ (new:Nat){k:List UInt8}(h:k.length<=140737488355328):dJ new (.pv (.str k))=some (.pv (.list (aw k)),[(new,.none)]):=by simp only[dJ];rw[if_pos h]
def iU (c:UInt8):Bool:=decide (97<=c.toNat)&&decide (c.toNat<=122)
def okC (c:UInt8):Bool:=iU c||(decide (48<=c.toNat)&&decide (c.toNat<=57))||decide (c.toNat=95)
def bw (s:List UInt8):Bool:=decide (0<s.length)&&(decide (s.length<=32)&&(iU (s.headD 0)&&s.all okC))
theorem yb (s:List UInt8):(aw s).length=s.length:=by simp[aw]
theorem Ea {s:List UInt8}{i:Nat}{c:UInt8}(h:s[i]? = some c):(aw s)[i]? = some (.int .u8 (c.toNat:Int)):=by simp[aw,h]
theorem uI {s:List UInt8}{i:Nat}{c:UInt8}(h:s[i]? = some c):(s.take (i+1)).all okC=((s.take i).all okC&&okC c):=by rw[aH h];simp
theorem iL {s:List UInt8}{i:Nat}{c:UInt8}(h:s[i]? = some c)(hc:okC c=false):s.all okC=false:=by
 rw[Bool.eq_false_iff]
 intro ha
 have:=List.all_eq_true.1 ha c (List.mem_of_getElem? h)
 rw[hc] at this;cases this
theorem rF (s:List UInt8):ag Tryz.prog aq 258 [.str s] (.bool (bw s)):=by
 cases s with
 | nil=>
   rw[show bw []=false from rfl]
   refine ag.intro IE.2 (by simp[IE]) ?_
   simp(disch:=try exact dI) only[IE,push_cast,seval]
 | cons c r=>
   generalize hs:c::r=s
   have hne:¬ s=[]:=by rw[<- hs];simp
   have h0:s[0]? = some c:=by rw[<- hs];rfl
   have hh:s.headD 0=c:=by rw[<- hs];rfl
   have hlen:0<s.length:=by rw[<- hs];simp
   clear hs
   refine ag.intro IE.2 (by simp[IE]) ?_
   by_cases h32:s.length<=32
   ·by_cases ha:97<=c.toNat
    ·by_cases hz:c.toNat<=122
     ·have e:bw s=s.all okC:=by simp only[bw,hh,iU,decide_eq_true hlen,decide_eq_true h32,decide_eq_true ha,decide_eq_true hz,Bool.true_and]
      rw[e]
      simp(disch:=try exact dI) only[IE,hne,h0,aG,uO,AZ,yb,push_cast,seval]
      refine az ([]) (fun i:Nat=>[(25,.pv (.int .i64 (i:Int)))]) (fun _=>[]) (fun i=>i<=s.length/\(s.take i).all okC=true) (fun i=>s.length - i) (0) ?_;intro e0 σ0 n0 h0;simp(disch:=try exact dI) only[push_cast,seval] at h0;obtain⟨rfl,rfl,rfl⟩:=h0;refine⟨?_,?_,?_⟩
      ·exact qsZ
      ·exact⟨by omega,by simp⟩
      rintro i ⟨hi,hall⟩
      by_cases hlt:i<s.length
      ·have hltI:(i:Int)<(s.length:Int):=by omega
       obtain⟨b,hb⟩:∃ b,s[i]? = some b:=⟨_,List.getElem?_eq_getElem hlt⟩
       have hbp:=Ea hb
       have hbn:=b.toNat_lt
       have hsn:=uI hb
       rw[hall,Bool.true_and] at hsn
       have hc:b.toNat<48\/(48<=b.toNat/\b.toNat<=57)\/(57<b.toNat/\b.toNat<97/\b.toNat≠95)\/b.toNat=95\/(97<=b.toNat/\b.toNat<=122)\/122<b.toNat:=by omega
       rcases hc with hc | hc | hc | hc | hc | hc
       ·have hbad:s.all okC=false:=iL hb (by simp[okC,iU];omega)
        rw[hbad]
        simp(disch:=try exact dI) only[hbp,push_cast,seval]
       ·have hok:okC b=true:=by simp[okC,iU];omega
        simp(disch:=try exact dI) only[hbp,push_cast,seval]
        exact⟨i+1,aV qsZ,⟨by omega,by rw[hsn,hok]⟩,by omega⟩
       ·have hbad:s.all okC=false:=iL hb (by simp[okC,iU];omega)
        rw[hbad]
        simp(disch:=try exact dI) only[hbp,push_cast,seval]
       ·have hok:okC b=true:=by simp[okC,iU];omega
        simp(disch:=try exact dI) only[hbp,push_cast,seval]
        exact⟨i+1,aV qsZ,⟨by omega,by rw[hsn,hok]⟩,by omega⟩
       ·have hok:okC b=true:=by simp[okC,iU];omega
        simp(disch:=try exact dI) only[hbp,push_cast,seval]
        exact⟨i+1,aV qsZ,⟨by omega,by rw[hsn,hok]⟩,by omega⟩
       ·have hbad:s.all okC=false:=iL hb (by simp[okC,iU];omega)
        rw[hbad]
        simp(disch:=try exact dI) only[hbp,push_cast,seval]
      ·have he:s.take i=s:=List.take_of_length_le (by omega)
       rw[he] at hall
       rw[hall]
       exact qsZ
     ·have e:bw s=false:=by simp only[bw,hh,iU,decide_eq_false hz,Bool.and_false,Bool.false_and]
      rw[e]
      simp(disch:=try exact dI) only[IE,hne,h0,aG,push_cast,seval]
    ·have e:bw s=false:=by simp only[bw,hh,iU,decide_eq_false ha,Bool.and_false,Bool.false_and]
     rw[e]
     simp(disch:=try exact dI) only[IE,hne,h0,aG,push_cast,seval]
   ·have e:bw s=false:=by simp[bw,h32]
    rw[e]
    simp(disch:=try exact dI) only[IE,hne,push_cast,seval]
end Go.Proofs.YtbojpfpliibfbaaGreatDoor

/- A part of the proof. -/
import Derived.Test.YtbaaokocnegdoaaGreatDoorAgVR1
set_option linter.unusedVariables false
set_option linter.unusedSimpArgs false
set_option maxHeartbeats 16000000
set_option maxRecDepth 100000
namespace Go.Proofs.YtbaaokocnegdoaaGreatDoor
open Go Go.Ab
attribute [local irreducible] vc
theorem kE (v:Val):ae Tryz.prog au 243 [v.pv] (.clo 281 [] [.eptr [v.pv] 0 0]):=by
 obtain⟨k,n,s,t,l,fs⟩:=v
 refine ae.intro Tp.2 (by simp[Tp]) ?_
 simp(disch:=try exact dI) only[Tp,Val.pv_mk,push_cast,seval]
def BE:PV:=.agg [.nilf,.clo 268 [] [],.clo 270 [] [],.clo 271 [] [],.clo 273 [] [],.clo 275 [] [],.clo 276 [] [],.clo 277 [] [],.clo 278 [] [],.clo 279 [] [],.clo 280 [] []]
theorem CN (f:Nat)(a b:List PV):PV.one (.clo f a b)=true:=rfl
theorem uR:PV.one .nilf=true:=rfl
theorem GC:ae Tryz.prog au 242 [] BE:=by
 refine ae.intro Tq.2 (by simp[Tq]) ?_
 simp(disch:=try exact dI) only[Tq,BE,CN,uR,push_cast,seval]
theorem cP (n a b:Int):ae Tryz.prog au 269 [.int .i64 n,.int .i64 a,.int .i64 b] (.int .i64 (if n<a\/b<n then 2 else 0)):=by
 refine ae.intro Rd.2 (by simp[Rd]) ?_
 by_cases h1:n<a
 ·rw[if_pos (.inl h1)]
  simp(disch:=try exact dI) only[Rd,push_cast,seval]
 ·by_cases h2:b<n
  ·rw[if_pos (.inr h2)]
   simp(disch:=try exact dI) only[Rd,push_cast,seval]
  ·rw[if_neg (by omega)]
   simp(disch:=try exact dI) only[Rd,push_cast,seval]
theorem kk (n m e:Int):ae Tryz.prog au 274 [.int .i64 n,.int .i64 m,.int .i64 e] (.int .i64 (if m<n then e else 0)):=by
 refine ae.intro RE.2 (by simp[RE]) ?_
 by_cases h1:m<n
 ·rw[if_pos h1]
  simp(disch:=try exact dI) only[RE,push_cast,seval]
 ·rw[if_neg h1]
  simp(disch:=try exact dI) only[RE,push_cast,seval]
def bz:Val->Bool
 | .mk k n s t l fs=>decide (k=0)&&(decide (n=0)&&(decide (s=0)&&(decide (t=[])&&(decide (l.length=0)&&decide (fs.length=0)))))
def ce:Val->Bool
 | .mk k n s t l fs=>(decide (k=1\/k=2\/k=6\/k=7\/k=3)||decide (n=0))&&((decide (k=3)||decide (s=0))&&((decide (k=4\/k=5\/k=10)||decide (t=[]))&&((decide (k=8\/k=10)||decide (l.length=0))&&(decide (k=9)||decide (fs.length=0)))))
theorem bT {α:Type}{r b c:α}{P:Prop}(hr:r=b)(hb:b=c)(h:r=c->P):P:=h (hr.trans hb)
theorem K2 (k n s:Int)(t:List UInt8)(l:List Val)(fs:List Fld)(hk:1<=k/\k<=10) :
  ((k=1\/k=2\/k=6\/k=7\/k=3)\/(¬ (k=1\/k=2\/k=6\/k=7\/k=3)/\¬ n=0)\/(¬ (k=1\/k=2\/k=6\/k=7\/k=3)/\n=0))/\(k=3\/(¬ k=3/\¬ s=0)\/(¬ k=3/\s=0)) /\
  ((k=4\/k=5\/k=10)\/(¬ (k=4\/k=5\/k=10)/\¬ t=[])\/(¬ (k=4\/k=5\/k=10)/\t=[])) /\
  ((k=8\/k=10)\/(¬ (k=8\/k=10)/\¬ l.length=0/\¬ (l.length:Int)=0)\/(¬ (k=8\/k=10)/\l.length=0/\(l.length:Int)=0)) /\
  (k=9\/(¬ k=9/\¬ fs.length=0/\¬ (fs.length:Int)=0)\/(¬ k=9/\fs.length=0/\(fs.length:Int)=0)):=by
 refine⟨by omega,by omega,?_,by omega,by omega⟩
 by_cases h:t=[]<;>simp only[h,true_and,and_true,not_true,not_false_iff,and_false,false_or,or_false]<;>exact Classical.em _
theorem sK (v:Val):ae Tryz.prog au 111 [v.pv] (.bool (bz v)):=by
 obtain⟨k,n,s,t,l,fs⟩:=v
 have h5:(l.length=0/\(l.length:Int)=0)\/(¬ l.length=0/\¬ (l.length:Int)=0):=by omega
 have h6:(fs.length=0/\(fs.length:Int)=0)\/(¬ fs.length=0/\¬ (fs.length:Int)=0):=by omega
 obtain⟨r,hr⟩:∃ r,r=bz (.mk k n s t l fs):=⟨_,rfl⟩
 rw[<- hr]
 refine ae.intro Rm.2 (by simp[Rm]) ?_
 rcases Classical.em (k=0) with a | a
 all_goals first | (have:=hend;skip) | (refine bT (c:=false) hr ?_ ?_;(focus (simp[bz, *];done));rintro rfl;have hend:=trivial;clear h5 h6) | rcases Classical.em (n=0) with b | b
 all_goals first | (have:=hend;skip) | (refine bT (c:=false) hr ?_ ?_;(focus (simp[bz, *];done));rintro rfl;have hend:=trivial;clear h5 h6) | rcases Classical.em (s=0) with c | c
 all_goals first | (have:=hend;skip) | (refine bT (c:=false) hr ?_ ?_;(focus (simp[bz, *];done));rintro rfl;have hend:=trivial;clear h5 h6) | rcases Classical.em (t=[]) with d | d
 all_goals first | (have:=hend;skip) | (refine bT (c:=false) hr ?_ ?_;(focus (simp[bz, *];done));rintro rfl;have hend:=trivial;clear h5 h6) | rcases h5 with ⟨e,e1⟩ | ⟨e,e1⟩
 all_goals first | (have:=hend;skip) | (refine bT (c:=false) hr ?_ ?_;(focus (simp[bz, *];done));rintro rfl;have hend:=trivial;clear h6) | rcases h6 with ⟨f,f1⟩ | ⟨f,f1⟩
 all_goals first | (have:=hend;skip) | (refine bT (c:=true) hr ?_ ?_;(focus (simp[bz, *];done));rintro rfl) | (refine bT (c:=false) hr ?_ ?_;(focus (simp[bz, *];done));rintro rfl)
 all_goals clear hr
 all_goals simp(disch:=try exact dI) only[Rm,Val.pv_mk, *,push_cast,seval]
theorem K3 (v:Val)(hk:1<=v.kind/\v.kind<=10):ae Tryz.prog au 244 [v.pv] (.bool (ce v)):=by
 obtain⟨k,n,s,t,l,fs⟩:=v
 simp only[Val.kind] at hk
 obtain⟨h1,h2,h3,h4,h5⟩:=K2 k n s t l fs hk
 obtain⟨r,hr⟩:∃ r,r=ce (.mk k n s t l fs):=⟨_,rfl⟩
 rw[<- hr]
 refine ae.intro To.2 (by simp[To]) ?_
 have hc:k=1\/k=2\/k=3\/k=4\/k=5\/k=6\/k=7\/k=8\/k=9\/k=10:=by omega
 clear hk
 rcases hc with rfl | rfl | rfl | rfl | rfl | rfl | rfl | rfl | rfl | rfl
 all_goals rcases h1 with a | ⟨a,b⟩ | ⟨a,b⟩
 all_goals try omega
 all_goals first | (have:=hend;skip) | (refine bT (c:=false) hr ?_ ?_;(focus (simp[ce, *];done));rintro rfl;have hend:=trivial;clear h2 h3 h4 h5) | rcases h2 with a2 | ⟨a2,b2⟩ | ⟨a2,b2⟩
 all_goals try omega
 all_goals first | (have:=hend;skip) | (refine bT (c:=false) hr ?_ ?_;(focus (simp[ce, *];done));rintro rfl;have hend:=trivial;clear h3 h4 h5) | rcases h3 with a3 | ⟨a3,b3⟩ | ⟨a3,b3⟩
 all_goals try omega
 all_goals first | (have:=hend;skip) | (refine bT (c:=false) hr ?_ ?_;(focus (simp[ce, *];done));rintro rfl;have hend:=trivial;clear h4 h5) | rcases h4 with a4 | ⟨a4,b4,c4⟩ | ⟨a4,b4,c4⟩
 all_goals try omega
 all_goals first | (have:=hend;skip) | (refine bT (c:=false) hr ?_ ?_;(focus (simp[ce, *];done));rintro rfl;have hend:=trivial;clear h5) | rcases h5 with a5 | ⟨a5,b5,c5⟩ | ⟨a5,b5,c5⟩
 all_goals try omega
 all_goals first | (have:=hend;skip) | (refine bT (c:=true) hr ?_ ?_;(focus (simp[ce, *];done));rintro rfl) | (refine bT (c:=false) hr ?_ ?_;(focus (simp[ce, *];done));rintro rfl)
 all_goals clear hr
 all_goals simp(disch:=try exact dI) only[To,Val.pv_mk, *,push_cast,seval]
theorem wq (e:List (Nat×AV))(σ:List (Nat×Blk))(new:Nat)(x:AX):mw e σ new (.ofStr x)=kB new (evE e x):=_root_.id rfl
theorem B2 (new:Nat){k:List UInt8}(h:k.length<=140737488355328):kB new (.pv (.str k))=some (.pv (.list (aF k)),[(new,.none)]):=by simp only[kB];rw[if_pos h]
def Dn (c:UInt8):Bool:=decide (97<=c.toNat)&&decide (c.toNat<=122)
def okC (c:UInt8):Bool:=Dn c||(decide (48<=c.toNat)&&decide (c.toNat<=57))||decide (c.toNat=95)
def dB (s:List UInt8):Bool:=decide (0<s.length)&&(decide (s.length<=32)&&(Dn (s.headD 0)&&s.all okC))
theorem An (s:List UInt8):(aF s).length=s.length:=by simp[aF]
theorem E0 {s:List UInt8}{i:Nat}{c:UInt8}(h:s[i]? = some c):(aF s)[i]? = some (.int .u8 (c.toNat:Int)):=by simp[aF,h]
theorem Jo {s:List UInt8}{i:Nat}{c:UInt8}(h:s[i]? = some c):(s.take (i+1)).all okC=((s.take i).all okC&&okC c):=by rw[aG h];simp
theorem tX {s:List UInt8}{i:Nat}{c:UInt8}(h:s[i]? = some c)(hc:okC c=false):s.all okC=false:=by
 rw[Bool.eq_false_iff]
 intro ha
 have:=List.all_eq_true.1 ha c (List.mem_of_getElem? h)
 rw[hc] at this;cases this
theorem sP (s:List UInt8):ae Tryz.prog au 240 [.str s] (.bool (dB s)):=by
 cases s with
 | nil=>
   rw[show dB []=false from rfl]
   refine ae.intro Fv.2 (by simp[Fv]) ?_
   simp(disch:=try exact dI) only[Fv,push_cast,seval]
 | cons c r=>
   generalize hs:c::r=s
   have hne:¬ s=[]:=by rw[<- hs];simp
   have h0:s[0]? = some c:=by rw[<- hs];rfl
   have hh:s.headD 0=c:=by rw[<- hs];rfl
   have hlen:0<s.length:=by rw[<- hs];simp
   clear hs
   refine ae.intro Fv.2 (by simp[Fv]) ?_
   by_cases h32:s.length<=32
   ·by_cases ha:97<=c.toNat
    ·by_cases hz:c.toNat<=122
     ·have e:dB s=s.all okC:=by simp only[dB,hh,Dn,decide_eq_true hlen,decide_eq_true h32,decide_eq_true ha,decide_eq_true hz,Bool.true_and]
      rw[e]
      simp(disch:=try exact dI) only[Fv,hne,h0,aq,wq,B2,An,push_cast,seval]
      refine aC ([]) (fun i:Nat=>[(25,.pv (.int .i64 (i:Int)))]) (fun _=>[]) (fun i=>i<=s.length/\(s.take i).all okC=true) (fun i=>s.length - i) (0) ?_;intro e0 σ0 n0 h0;simp(disch:=try exact dI) only[push_cast,seval] at h0;obtain⟨rfl,rfl,rfl⟩:=h0;refine⟨?_,?_,?_⟩
      ·exact qsZ
      ·exact⟨by omega,by simp⟩
      rintro i ⟨hi,hall⟩
      by_cases hlt:i<s.length
      ·have hltI:(i:Int)<(s.length:Int):=by omega
       obtain⟨b,hb⟩:∃ b,s[i]? = some b:=⟨_,List.getElem?_eq_getElem hlt⟩
       have hbp:=E0 hb
       have hbn:=b.toNat_lt
       have hsn:=Jo hb
       rw[hall,Bool.true_and] at hsn
       have hc:b.toNat<48\/(48<=b.toNat/\b.toNat<=57)\/(57<b.toNat/\b.toNat<97/\b.toNat≠95)\/b.toNat=95\/(97<=b.toNat/\b.toNat<=122)\/122<b.toNat:=by omega
       rcases hc with hc | hc | hc | hc | hc | hc
       ·have hbad:s.all okC=false:=tX hb (by simp[okC,Dn];omega)
        rw[hbad]
        simp(disch:=try exact dI) only[hbp,push_cast,seval]
       ·have hok:okC b=true:=by simp[okC,Dn];omega
        simp(disch:=try exact dI) only[hbp,push_cast,seval]
        exact⟨i+1,aR qsZ,⟨by omega,by rw[hsn,hok]⟩,by omega⟩
       ·have hbad:s.all okC=false:=tX hb (by simp[okC,Dn];omega)
        rw[hbad]
        simp(disch:=try exact dI) only[hbp,push_cast,seval]
       ·have hok:okC b=true:=by simp[okC,Dn];omega
        simp(disch:=try exact dI) only[hbp,push_cast,seval]
        exact⟨i+1,aR qsZ,⟨by omega,by rw[hsn,hok]⟩,by omega⟩
       ·have hok:okC b=true:=by simp[okC,Dn];omega
        simp(disch:=try exact dI) only[hbp,push_cast,seval]
        exact⟨i+1,aR qsZ,⟨by omega,by rw[hsn,hok]⟩,by omega⟩
       ·have hbad:s.all okC=false:=tX hb (by simp[okC,Dn];omega)
        rw[hbad]
        simp(disch:=try exact dI) only[hbp,push_cast,seval]
      ·have he:s.take i=s:=List.take_of_length_le (by omega)
       rw[he] at hall
       rw[hall]
       exact qsZ
     ·have e:dB s=false:=by simp only[dB,hh,Dn,decide_eq_false hz,Bool.and_false,Bool.false_and]
      rw[e]
      simp(disch:=try exact dI) only[Fv,hne,h0,aq,push_cast,seval]
    ·have e:dB s=false:=by simp only[dB,hh,Dn,decide_eq_false ha,Bool.and_false,Bool.false_and]
     rw[e]
     simp(disch:=try exact dI) only[Fv,hne,h0,aq,push_cast,seval]
   ·have e:dB s=false:=by simp[dB,h32]
    rw[e]
    simp(disch:=try exact dI) only[Fv,hne,push_cast,seval]
end Go.Proofs.YtbaaokocnegdoaaGreatDoor

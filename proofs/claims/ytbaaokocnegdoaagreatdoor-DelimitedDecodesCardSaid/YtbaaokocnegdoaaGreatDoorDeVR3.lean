/- A part of the proof. -/
import Derived.Test.YtbaaokocnegdoaaGreatDoorDeVR0
set_option linter.unusedVariables false
set_option linter.unusedSimpArgs false
set_option maxHeartbeats 16000000
set_option maxRecDepth 100000
namespace Go.Proofs.YtbaaokocnegdoaaGreatDoor
open Go Go.Ab
attribute [local irreducible] vc
theorem kN (v:Val):ak Tryz.prog aq 243 [v.pv] (.clo 281 [] [.eptr [v.pv] 0 0]):=by
 obtain⟨k,n,s,t,l,fs⟩:=v
 refine ak.intro T5.2 (by simp[T5]) ?_
 simp(disch:=try exact dI) only[T5,Val.pv_mk,push_cast,seval]
def By:PV:=.agg [.nilf,.clo 268 [] [],.clo 270 [] [],.clo 271 [] [],.clo 273 [] [],.clo 275 [] [],.clo 276 [] [],.clo 277 [] [],.clo 278 [] [],.clo 279 [] [],.clo 280 [] []]
theorem CN (f:Nat)(a b:List PV):PV.one (.clo f a b)=true:=rfl
theorem uD:PV.one .nilf=true:=rfl
theorem GV:ak Tryz.prog aq 242 [] By:=by
 refine ak.intro T6.2 (by simp[T6]) ?_
 simp(disch:=try exact dI) only[T6,By,CN,uD,push_cast,seval]
theorem dj (n a b:Int):ak Tryz.prog aq 269 [.int .i64 n,.int .i64 a,.int .i64 b] (.int .i64 (if n<a\/b<n then 2 else 0)):=by
 refine ak.intro RP.2 (by simp[RP]) ?_
 by_cases h1:n<a
 ·rw[if_pos (.inl h1)]
  simp(disch:=try exact dI) only[RP,push_cast,seval]
 ·by_cases h2:b<n
  ·rw[if_pos (.inr h2)]
   simp(disch:=try exact dI) only[RP,push_cast,seval]
  ·rw[if_neg (by omega)]
   simp(disch:=try exact dI) only[RP,push_cast,seval]
theorem kq (n m e:Int):ak Tryz.prog aq 274 [.int .i64 n,.int .i64 m,.int .i64 e] (.int .i64 (if m<n then e else 0)):=by
 refine ak.intro Se.2 (by simp[Se]) ?_
 by_cases h1:m<n
 ·rw[if_pos h1]
  simp(disch:=try exact dI) only[Se,push_cast,seval]
 ·rw[if_neg h1]
  simp(disch:=try exact dI) only[Se,push_cast,seval]
def bf:Val->Bool
 | .mk k n s t l fs=>decide (k=0)&&(decide (n=0)&&(decide (s=0)&&(decide (t=[])&&(decide (l.length=0)&&decide (fs.length=0)))))
def bl:Val->Bool
 | .mk k n s t l fs=>(decide (k=1\/k=2\/k=6\/k=7\/k=3)||decide (n=0))&&((decide (k=3)||decide (s=0))&&((decide (k=4\/k=5\/k=10)||decide (t=[]))&&((decide (k=8\/k=10)||decide (l.length=0))&&(decide (k=9)||decide (fs.length=0)))))
theorem aM {α:Type}{r b c:α}{P:Prop}(hr:r=b)(hb:b=c)(h:r=c->P):P:=h (hr.trans hb)
theorem AW (k n s:Int)(t:List UInt8)(l:List Val)(fs:List Fld)(hk:1<=k/\k<=10) :
  ((k=1\/k=2\/k=6\/k=7\/k=3)\/(¬ (k=1\/k=2\/k=6\/k=7\/k=3)/\¬ n=0)\/(¬ (k=1\/k=2\/k=6\/k=7\/k=3)/\n=0))/\(k=3\/(¬ k=3/\¬ s=0)\/(¬ k=3/\s=0)) /\
  ((k=4\/k=5\/k=10)\/(¬ (k=4\/k=5\/k=10)/\¬ t=[])\/(¬ (k=4\/k=5\/k=10)/\t=[])) /\
  ((k=8\/k=10)\/(¬ (k=8\/k=10)/\¬ l.length=0/\¬ (l.length:Int)=0)\/(¬ (k=8\/k=10)/\l.length=0/\(l.length:Int)=0)) /\
  (k=9\/(¬ k=9/\¬ fs.length=0/\¬ (fs.length:Int)=0)\/(¬ k=9/\fs.length=0/\(fs.length:Int)=0)):=by
 refine⟨by omega,by omega,?_,by omega,by omega⟩
 by_cases h:t=[]<;>simp only[h,true_and,and_true,not_true,not_false_iff,and_false,false_or,or_false]<;>exact Classical.em _
theorem sG (v:Val):ak Tryz.prog aq 111 [v.pv] (.bool (bf v)):=by
 obtain⟨k,n,s,t,l,fs⟩:=v
 have h5:(l.length=0/\(l.length:Int)=0)\/(¬ l.length=0/\¬ (l.length:Int)=0):=by omega
 have h6:(fs.length=0/\(fs.length:Int)=0)\/(¬ fs.length=0/\¬ (fs.length:Int)=0):=by omega
 obtain⟨r,hr⟩:∃ r,r=bf (.mk k n s t l fs):=⟨_,rfl⟩
 rw[<- hr]
 refine ak.intro RY.2 (by simp[RY]) ?_
 rcases Classical.em (k=0) with a | a
 all_goals first | (have:=hend;skip) | (refine aM (c:=false) hr ?_ ?_;(focus (simp[bf, *];done));rintro rfl;have hend:=trivial;clear h5 h6) | rcases Classical.em (n=0) with b | b
 all_goals first | (have:=hend;skip) | (refine aM (c:=false) hr ?_ ?_;(focus (simp[bf, *];done));rintro rfl;have hend:=trivial;clear h5 h6) | rcases Classical.em (s=0) with c | c
 all_goals first | (have:=hend;skip) | (refine aM (c:=false) hr ?_ ?_;(focus (simp[bf, *];done));rintro rfl;have hend:=trivial;clear h5 h6) | rcases Classical.em (t=[]) with d | d
 all_goals first | (have:=hend;skip) | (refine aM (c:=false) hr ?_ ?_;(focus (simp[bf, *];done));rintro rfl;have hend:=trivial;clear h5 h6) | rcases h5 with ⟨e,e1⟩ | ⟨e,e1⟩
 all_goals first | (have:=hend;skip) | (refine aM (c:=false) hr ?_ ?_;(focus (simp[bf, *];done));rintro rfl;have hend:=trivial;clear h6) | rcases h6 with ⟨f,f1⟩ | ⟨f,f1⟩
 all_goals first | (have:=hend;skip) | (refine aM (c:=true) hr ?_ ?_;(focus (simp[bf, *];done));rintro rfl) | (refine aM (c:=false) hr ?_ ?_;(focus (simp[bf, *];done));rintro rfl)
 all_goals clear hr
 all_goals simp(disch:=try exact dI) only[RY,Val.pv_mk, *,push_cast,seval]
theorem Lm (v:Val)(hk:1<=v.kind/\v.kind<=10):ak Tryz.prog aq 244 [v.pv] (.bool (bl v)):=by
 obtain⟨k,n,s,t,l,fs⟩:=v
 simp only[Val.kind] at hk
 obtain⟨h1,h2,h3,h4,h5⟩:=AW k n s t l fs hk
 obtain⟨r,hr⟩:∃ r,r=bl (.mk k n s t l fs):=⟨_,rfl⟩
 rw[<- hr]
 refine ak.intro T4.2 (by simp[T4]) ?_
 have hc:k=1\/k=2\/k=3\/k=4\/k=5\/k=6\/k=7\/k=8\/k=9\/k=10:=by omega
 clear hk
 rcases hc with rfl | rfl | rfl | rfl | rfl | rfl | rfl | rfl | rfl | rfl
 all_goals rcases h1 with a | ⟨a,b⟩ | ⟨a,b⟩
 all_goals try omega
 all_goals first | (have:=hend;skip) | (refine aM (c:=false) hr ?_ ?_;(focus (simp[bl, *];done));rintro rfl;have hend:=trivial;clear h2 h3 h4 h5) | rcases h2 with a2 | ⟨a2,b2⟩ | ⟨a2,b2⟩
 all_goals try omega
 all_goals first | (have:=hend;skip) | (refine aM (c:=false) hr ?_ ?_;(focus (simp[bl, *];done));rintro rfl;have hend:=trivial;clear h3 h4 h5) | rcases h3 with a3 | ⟨a3,b3⟩ | ⟨a3,b3⟩
 all_goals try omega
 all_goals first | (have:=hend;skip) | (refine aM (c:=false) hr ?_ ?_;(focus (simp[bl, *];done));rintro rfl;have hend:=trivial;clear h4 h5) | rcases h4 with a4 | ⟨a4,b4,c4⟩ | ⟨a4,b4,c4⟩
 all_goals try omega
 all_goals first | (have:=hend;skip) | (refine aM (c:=false) hr ?_ ?_;(focus (simp[bl, *];done));rintro rfl;have hend:=trivial;clear h5) | rcases h5 with a5 | ⟨a5,b5,c5⟩ | ⟨a5,b5,c5⟩
 all_goals try omega
 all_goals first | (have:=hend;skip) | (refine aM (c:=true) hr ?_ ?_;(focus (simp[bl, *];done));rintro rfl) | (refine aM (c:=false) hr ?_ ?_;(focus (simp[bl, *];done));rintro rfl)
 all_goals clear hr
 all_goals simp(disch:=try exact dI) only[T4,Val.pv_mk, *,push_cast,seval]
theorem wl (e:List (Nat×AV))(σ:List (Nat×Blk))(new:Nat)(x:AX):mB e σ new (.ofStr x)=kJ new (evE e x):=_root_.id rfl
theorem BS (new:Nat){k:List UInt8}(h:k.length<=140737488355328):kJ new (.pv (.str k))=some (.pv (.list (aF k)),[(new,.none)]):=by simp only[kJ];rw[if_pos h]
def jp (c:UInt8):Bool:=decide (97<=c.toNat)&&decide (c.toNat<=122)
def okC (c:UInt8):Bool:=jp c||(decide (48<=c.toNat)&&decide (c.toNat<=57))||decide (c.toNat=95)
def bN (s:List UInt8):Bool:=decide (0<s.length)&&(decide (s.length<=32)&&(jp (s.headD 0)&&s.all okC))
theorem z7 (s:List UInt8):(aF s).length=s.length:=by simp[aF]
theorem E9 {s:List UInt8}{i:Nat}{c:UInt8}(h:s[i]? = some c):(aF s)[i]? = some (.int .u8 (c.toNat:Int)):=by simp[aF,h]
theorem wa {s:List UInt8}{i:Nat}{c:UInt8}(h:s[i]? = some c):(s.take (i+1)).all okC=((s.take i).all okC&&okC c):=by rw[aD h];simp
theorem jg {s:List UInt8}{i:Nat}{c:UInt8}(h:s[i]? = some c)(hc:okC c=false):s.all okC=false:=by
 rw[Bool.eq_false_iff]
 intro ha
 have:=List.all_eq_true.1 ha c (List.mem_of_getElem? h)
 rw[hc] at this;cases this
theorem sL (s:List UInt8):ak Tryz.prog aq 240 [.str s] (.bool (bN s)):=by
 cases s with
 | nil=>
   rw[show bN []=false from rfl]
   refine ak.intro FE.2 (by simp[FE]) ?_
   simp(disch:=try exact dI) only[FE,push_cast,seval]
 | cons c r=>
   generalize hs:c::r=s
   have hne:¬ s=[]:=by rw[<- hs];simp
   have h0:s[0]? = some c:=by rw[<- hs];rfl
   have hh:s.headD 0=c:=by rw[<- hs];rfl
   have hlen:0<s.length:=by rw[<- hs];simp
   clear hs
   refine ak.intro FE.2 (by simp[FE]) ?_
   by_cases h32:s.length<=32
   ·by_cases ha:97<=c.toNat
    ·by_cases hz:c.toNat<=122
     ·have e:bN s=s.all okC:=by simp only[bN,hh,jp,decide_eq_true hlen,decide_eq_true h32,decide_eq_true ha,decide_eq_true hz,Bool.true_and]
      rw[e]
      simp(disch:=try exact dI) only[FE,hne,h0,am,wl,BS,z7,push_cast,seval]
      refine ap ([]) (fun i:Nat=>[(25,.pv (.int .i64 (i:Int)))]) (fun _=>[]) (fun i=>i<=s.length/\(s.take i).all okC=true) (fun i=>s.length - i) (0) ?_;intro e0 σ0 n0 h0;simp(disch:=try exact dI) only[push_cast,seval] at h0;obtain⟨rfl,rfl,rfl⟩:=h0;refine⟨?_,?_,?_⟩
      ·exact qsZ
      ·exact⟨by omega,by simp⟩
      rintro i ⟨hi,hall⟩
      by_cases hlt:i<s.length
      ·have hltI:(i:Int)<(s.length:Int):=by omega
       obtain⟨b,hb⟩:∃ b,s[i]? = some b:=⟨_,List.getElem?_eq_getElem hlt⟩
       have hbp:=E9 hb
       have hbn:=b.toNat_lt
       have hsn:=wa hb
       rw[hall,Bool.true_and] at hsn
       have hc:b.toNat<48\/(48<=b.toNat/\b.toNat<=57)\/(57<b.toNat/\b.toNat<97/\b.toNat≠95)\/b.toNat=95\/(97<=b.toNat/\b.toNat<=122)\/122<b.toNat:=by omega
       rcases hc with hc | hc | hc | hc | hc | hc
       ·have hbad:s.all okC=false:=jg hb (by simp[okC,jp];omega)
        rw[hbad]
        simp(disch:=try exact dI) only[hbp,push_cast,seval]
       ·have hok:okC b=true:=by simp[okC,jp];omega
        simp(disch:=try exact dI) only[hbp,push_cast,seval]
        exact⟨i+1,aK qsZ,⟨by omega,by rw[hsn,hok]⟩,by omega⟩
       ·have hbad:s.all okC=false:=jg hb (by simp[okC,jp];omega)
        rw[hbad]
        simp(disch:=try exact dI) only[hbp,push_cast,seval]
       ·have hok:okC b=true:=by simp[okC,jp];omega
        simp(disch:=try exact dI) only[hbp,push_cast,seval]
        exact⟨i+1,aK qsZ,⟨by omega,by rw[hsn,hok]⟩,by omega⟩
       ·have hok:okC b=true:=by simp[okC,jp];omega
        simp(disch:=try exact dI) only[hbp,push_cast,seval]
        exact⟨i+1,aK qsZ,⟨by omega,by rw[hsn,hok]⟩,by omega⟩
       ·have hbad:s.all okC=false:=jg hb (by simp[okC,jp];omega)
        rw[hbad]
        simp(disch:=try exact dI) only[hbp,push_cast,seval]
      ·have he:s.take i=s:=List.take_of_length_le (by omega)
       rw[he] at hall
       rw[hall]
       exact qsZ
     ·have e:bN s=false:=by simp only[bN,hh,jp,decide_eq_false hz,Bool.and_false,Bool.false_and]
      rw[e]
      simp(disch:=try exact dI) only[FE,hne,h0,am,push_cast,seval]
    ·have e:bN s=false:=by simp only[bN,hh,jp,decide_eq_false ha,Bool.and_false,Bool.false_and]
     rw[e]
     simp(disch:=try exact dI) only[FE,hne,h0,am,push_cast,seval]
   ·have e:bN s=false:=by simp[bN,h32]
    rw[e]
    simp(disch:=try exact dI) only[FE,hne,push_cast,seval]
theorem sK (s:List UInt8):ak Tryz.prog aq 249 [.str s] (.bool (bN s)):=by
 refine ak.intro RQ.2 (by simp[RQ]) ?_
 by_cases h1:0<s.length
 ·by_cases h32:s.length<=32
  ·have e:bN s=(jp (s.headD 0)&&s.all okC):=by simp only[bN,decide_eq_true h1,decide_eq_true h32,Bool.true_and]
   rw[e]
   have hd0:s[0]? = some (s.headD 0):=by cases s with
    | nil=>simp at h1
    | cons a b=>rfl
   simp(disch:=try exact dI) only[RQ,push_cast,seval]
   refine ap ([]) (fun i:Nat=>[(3,.pv (.int .i64 (i:Int)))]) (fun _=>[]) (fun i=>i<=s.length/\(s.take i).all okC=true/\(0<i->jp (s.headD 0)=true)) (fun i=>s.length - i) (0) ?_;intro e0 σ0 n0 h0;simp(disch:=try exact dI) only[push_cast,seval] at h0;obtain⟨rfl,rfl,rfl⟩:=h0;refine⟨?_,?_,?_⟩
   ·exact qsZ
   ·exact⟨by omega,by simp,by omega⟩
   rintro i ⟨hi,hall,hl0⟩
   by_cases hlt:i<s.length
   ·have hltI:(i:Int)<(s.length:Int):=by omega
    obtain⟨b,hb⟩:∃ b,s[i]? = some b:=⟨_,List.getElem?_eq_getElem hlt⟩
    have hbn:=b.toNat_lt
    have hsn:=wa hb
    rw[hall,Bool.true_and] at hsn
    by_cases hlt2:97<=b.toNat/\b.toNat<=122
    ·have hok:okC b=true:=by simp[okC,jp];omega
     have hlet:0<i+1->jp (s.headD 0)=true:=by
      intro _
      by_cases hi0:i=0
      ·subst hi0
       rw[hb] at hd0
       rw[<- Option.some.inj hd0]
       simp[jp];omega
      ·exact hl0 (by omega)
     simp(disch:=try exact dI) only[hb,am,push_cast,seval]
     exact⟨i+1,aK qsZ,⟨by omega,by rw[hsn,hok],hlet⟩,by omega⟩
    ·by_cases hi0:i=0
     ·subst hi0
      have hbad:(jp (s.headD 0)&&s.all okC)=false:=by
       rw[hb] at hd0
       rw[<- Option.some.inj hd0]
       simp only[jp,Bool.and_eq_false_iff,decide_eq_false_iff_not];left;omega
      rw[hbad]
      have hc:b.toNat<97\/122<b.toNat:=by omega
      rcases hc with hc | hc
      ·simp(disch:=try exact dI) only[hb,am,push_cast,seval]
      ·simp(disch:=try exact dI) only[hb,am,push_cast,seval]
     ·have hi0I:¬ (i:Int)=0:=by omega
      have hl:=hl0 (by omega)
      have hc:b.toNat<48\/(48<=b.toNat/\b.toNat<=57)\/(57<b.toNat/\b.toNat<97/\b.toNat≠95)\/b.toNat=95\/122<b.toNat:=by omega
      rcases hc with hc | hc | hc | hc | hc
      ·have hbad:(jp (s.headD 0)&&s.all okC)=false:=by rw[jg hb (by simp[okC,jp];omega),Bool.and_false]
       rw[hbad]
       simp(disch:=try exact dI) only[hb,am,push_cast,seval]
      ·have hok:okC b=true:=by simp[okC,jp];omega
       simp(disch:=try exact dI) only[hb,am,push_cast,seval]
       exact⟨i+1,aK qsZ,⟨by omega,by rw[hsn,hok],fun _=>hl⟩,by omega⟩
      ·have hbad:(jp (s.headD 0)&&s.all okC)=false:=by rw[jg hb (by simp[okC,jp];omega),Bool.and_false]
       rw[hbad]
       simp(disch:=try exact dI) only[hb,am,push_cast,seval]
      ·have hok:okC b=true:=by simp[okC,jp];omega
       simp(disch:=try exact dI) only[hb,am,push_cast,seval]
       exact⟨i+1,aK qsZ,⟨by omega,by rw[hsn,hok],fun _=>hl⟩,by omega⟩
      ·have hbad:(jp (s.headD 0)&&s.all okC)=false:=by rw[jg hb (by simp[okC,jp];omega),Bool.and_false]
       rw[hbad]
       simp(disch:=try exact dI) only[hb,am,push_cast,seval]
   ·have he:s.take i=s:=List.take_of_length_le (by omega)
    rw[he] at hall
    rw[hall,hl0 (by omega)]
    exact qsZ
  ·have e:bN s=false:=by simp[bN,h32]
   rw[e]
   simp(disch:=try exact dI) only[RQ,push_cast,seval]
 ·have e:bN s=false:=by simp[bN,h1]
  rw[e]
  simp(disch:=try exact dI) only[RQ,push_cast,seval]
def eB (n a b:Int):Int:=if n<a\/b<n then 2 else 0
def cW (n m e:Int):Int:=if m<n then e else 0
def eO:Option (List UInt8)->List (List UInt8)->Int
 | _,[]=>0
 | p,s::r=>if bN s=false then 12 else if p=some s then 7 else if (p.any fun q=>bc s q)=true then 24 else eO (some s) r
def be:Val->Int
 | .mk k n s t l fs=>
   if k=1 then eB n 0 1
   else if k=2 then eB n (-999999999999999) 999999999999999
   else if k=3 then (if eB n (-999999999999999) 999999999999999=0 then eB s 0 12 else eB n (-999999999999999) 999999999999999)
   else if k=4 then (if cW t.length 1024 5=0 then (if Lib.validD t=true then 0 else 16) else cW t.length 1024 5)
   else if k=5 then cW t.length 1024 5
   else if k=6 then eB n (-719162) 2932896
   else if k=7 then eB n (-62135596800000) 253402300799999
   else if k=8 then cW l.length 256 9
   else if k=9 then (if cW fs.length 64 9=0 then eO none (fs.map Fld.name) else cW fs.length 64 9)
   else if k=10 then (if bN t=false then 12 else if l.length=0 then 4 else cW l.length 1 3)
   else 0
theorem L8 (v:Val)(hk:v.kind=1):ak Tryz.prog aq 268 [v.pv] (.int .i64 (be v)):=by
 obtain⟨k,n,s,t,l,fs⟩:=v
 simp only[Val.kind] at hk;subst hk
 rw[show be (.mk 1 n s t l fs)=eB n 0 1 from rfl]
 have h:=dj n 0 1
 change ak _ _ _ _ (.int .i64 (eB n 0 1)) at h
 generalize eB n 0 1=e at *
 refine ak.intro TY.2 (by simp[TY]) ?_
 simp(disch:=try exact dI) only[TY,Val.pv_mk,push_cast,seval]
 refine ab.pure h rfl ?_
 exact qsZ
theorem L7 (v:Val)(hk:v.kind=2):ak Tryz.prog aq 270 [v.pv] (.int .i64 (be v)):=by
 obtain⟨k,n,s,t,l,fs⟩:=v
 simp only[Val.kind] at hk;subst hk
 rw[show be (.mk 2 n s t l fs)=eB n (-999999999999999) 999999999999999 from rfl]
 have h:=dj n (-999999999999999) 999999999999999
 change ak _ _ _ _ (.int .i64 (eB n (-999999999999999) 999999999999999)) at h
 generalize eB n (-999999999999999) 999999999999999=e at *
 refine ak.intro TX.2 (by simp[TX]) ?_
 simp(disch:=try exact dI) only[TX,Val.pv_mk,push_cast,seval]
 refine ab.pure h rfl ?_
 exact qsZ
def il:List Int->Int
 | []=>0
 | a::r=>if a=0 then il r else a
theorem qK:∀ {L:List Int} {i:Nat} {x:Int},L[i]? = some x->x≠0->(∀ j,j<i->∀ y,L[j]? = some y->y=0)->il L=x
 | [],i,x,h,_,_=>by simp at h
 | a::r,0,x,h,hx,_=>by simp at h;subst h;exact if_neg hx
 | a::r,i+1,x,h,hx,h0=>by
   have ha:=h0 0 (by omega) a rfl
   subst ha
   rw[il,if_pos rfl]
   exact qK (by simpa using h) hx fun j hj y hy=>h0 (j+1) (by omega) y (by simpa using hy)
theorem lE:∀ {L:List Int},(∀ (j:Nat) y,L[j]? = some y->y=0)->il L=0
 | [],_=>rfl
 | a::r,h=>by
   rw[il,if_pos (h 0 a rfl)]
   exact lE fun j y hy=>h (j+1) y (by simpa using hy)
theorem Eb (L:List Int)(hL:L.length<=1000):ak Tryz.prog aq 272 [.list (L.map fun n=>.int .i64 n)] (.int .i64 (il L)):=by
 generalize hr:il L=e
 refine ak.intro TV.2 (by simp[TV]) ?_
 simp(disch:=try exact dI) only[TV,push_cast,seval]
 refine ap ([]) (fun i:Nat=>[(7,.pv (.int .i64 (i:Int)))]) (fun _=>[]) (fun i=>i<=L.length/\(∀ j,j<i->∀ y,L[j]? = some y->y=0)) (fun i=>L.length - i) (0) ?_;intro e0 σ0 n0 h0;simp(disch:=try exact dI) only[push_cast,seval] at h0;obtain⟨rfl,rfl,rfl⟩:=h0;refine⟨?_,?_,?_⟩
 ·exact qsZ
 ·exact⟨by omega,by omega⟩
 rintro i ⟨hi,h0⟩
 by_cases hlt:i<L.length
 ·have hltI:(i:Int)<(L.length:Int):=by omega
  obtain⟨x,hx⟩:∃ x,L[i]? = some x:=⟨_,List.getElem?_eq_getElem hlt⟩
  have hcp:(L.map fun n=>PV.int .i64 n)[i]? = some (.int .i64 x):=by simp[hx]
  by_cases hx0:x=0
  ·subst hx0
   simp(disch:=try exact dI) only[hcp,push_cast,seval]
   exact⟨i+1,aK qsZ,⟨by omega,fun j hj y hy=>by
    rcases Nat.lt_or_ge j i with h | h
    ·exact h0 j h y hy
    ·have:j=i:=by omega
     subst this
     rw[hx] at hy;exact (Option.some.inj hy).symm⟩,by omega⟩
  ·have:=qK hx hx0 h0
   rw[this] at hr
   subst hr
   simp(disch:=try exact dI) only[hcp,push_cast,seval]
 ·have:=lE (L:=L) fun j y hy=>h0 j (by have:=(List.getElem?_eq_some_iff.1 hy).1;omega) y hy
  rw[this] at hr
  subst hr
  exact qsZ
theorem Jc (a b:Int):ak Tryz.prog aq 272 [.list [.int .i64 a,.int .i64 b]] (.int .i64 (if a=0 then b else a)):=by
 have:=Eb [a,b] (by simp)
 have e:il [a,b]=if a=0 then b else a:=by
  simp only[il]
  by_cases hb:b=0
  ·subst hb;simp
  ·simp[hb]
 rw[e] at this
 exact this
theorem L6 (v:Val)(hk:v.kind=3):ak Tryz.prog aq 271 [v.pv] (.int .i64 (be v)):=by
 obtain⟨k,n,s,t,l,fs⟩:=v
 simp only[Val.kind] at hk;subst hk
 rw[show be (.mk 3 n s t l fs)=(if eB n (-999999999999999) 999999999999999=0 then eB s 0 12 else eB n (-999999999999999) 999999999999999) from rfl]
 have h:=dj n (-999999999999999) 999999999999999
 have h':=dj s 0 12
 change ak _ _ _ _ (.int .i64 (eB n (-999999999999999) 999999999999999)) at h
 change ak _ _ _ _ (.int .i64 (eB s 0 12)) at h'
 generalize eB n (-999999999999999) 999999999999999=e at *
 generalize eB s 0 12=e' at *
 have h2:=Jc e e'
 generalize (if e=0 then e' else e)=e2 at *
 refine ak.intro TW.2 (by simp[TW]) ?_
 simp(disch:=try exact dI) only[TW,Val.pv_mk,push_cast,seval]
 refine ae h rfl ?_
 refine zgZ ?_
 refine ab.pure h' rfl ?_
 refine zgZ ?_
 refine ab.pure h2 rfl ?_
 exact qsZ
theorem L4 (v:Val)(hk:v.kind=5):ak Tryz.prog aq 275 [v.pv] (.int .i64 (be v)):=by
 obtain⟨k,n,s,t,l,fs⟩:=v
 simp only[Val.kind] at hk;subst hk
 rw[show be (.mk 5 n s t l fs)=cW t.length 1024 5 from rfl]
 have h:=kq t.length 1024 5
 change ak _ _ _ _ (.int .i64 (cW t.length 1024 5)) at h
 generalize cW t.length 1024 5=e at *
 refine ak.intro TU.2 (by simp[TU]) ?_
 simp(disch:=try exact dI) only[TU,Val.pv_mk,push_cast,seval]
 refine ab.pure h rfl ?_
 exact qsZ
theorem L3 (v:Val)(hk:v.kind=6):ak Tryz.prog aq 276 [v.pv] (.int .i64 (be v)):=by
 obtain⟨k,n,s,t,l,fs⟩:=v
 simp only[Val.kind] at hk;subst hk
 rw[show be (.mk 6 n s t l fs)=eB n (-719162) 2932896 from rfl]
 have h:=dj n (-719162) 2932896
 change ak _ _ _ _ (.int .i64 (eB n (-719162) 2932896)) at h
 generalize eB n (-719162) 2932896=e at *
 refine ak.intro TT.2 (by simp[TT]) ?_
 simp(disch:=try exact dI) only[TT,Val.pv_mk,push_cast,seval]
 refine ab.pure h rfl ?_
 exact qsZ
theorem L2 (v:Val)(hk:v.kind=7):ak Tryz.prog aq 277 [v.pv] (.int .i64 (be v)):=by
 obtain⟨k,n,s,t,l,fs⟩:=v
 simp only[Val.kind] at hk;subst hk
 rw[show be (.mk 7 n s t l fs)=eB n (-62135596800000) 253402300799999 from rfl]
 have h:=dj n (-62135596800000) 253402300799999
 change ak _ _ _ _ (.int .i64 (eB n (-62135596800000) 253402300799999)) at h
 generalize eB n (-62135596800000) 253402300799999=e at *
 refine ak.intro TS.2 (by simp[TS]) ?_
 simp(disch:=try exact dI) only[TS,Val.pv_mk,push_cast,seval]
 refine ab.pure h rfl ?_
 exact qsZ
theorem L1 (v:Val)(hk:v.kind=8):ak Tryz.prog aq 278 [v.pv] (.int .i64 (be v)):=by
 obtain⟨k,n,s,t,l,fs⟩:=v
 simp only[Val.kind] at hk;subst hk
 rw[show be (.mk 8 n s t l fs)=cW l.length 256 9 from rfl]
 have h:=kq l.length 256 9
 change ak _ _ _ _ (.int .i64 (cW l.length 256 9)) at h
 generalize cW l.length 256 9=e at *
 refine ak.intro TR.2 (by simp[TR]) ?_
 simp(disch:=try exact dI) only[TR,Val.pv_mk,push_cast,seval]
 refine ab.pure h rfl ?_
 exact qsZ
theorem L5 (v:Val)(hk:v.kind=4):ak Tryz.prog aq 273 [v.pv] (.int .i64 (be v)):=by
 obtain⟨k,n,s,t,l,fs⟩:=v
 simp only[Val.kind] at hk;subst hk
 rw[show be (.mk 4 n s t l fs)=(if cW t.length 1024 5=0 then (if Lib.validD t=true then 0 else 16) else cW t.length 1024 5) from rfl]
 have h:=kq t.length 1024 5
 have hv:=dL t
 change ak _ _ _ _ (.int .i64 (cW t.length 1024 5)) at h
 generalize cW t.length 1024 5=e at *
 refine ak.intro RO.2 (by simp[RO]) ?_
 by_cases he:e=0
 ·subst he
  rw[if_pos rfl]
  cases hb:Lib.validD t with
  | true=>
    rw[hb] at hv
    rw[if_pos rfl]
    simp(disch:=try exact dI) only[RO,Val.pv_mk,push_cast,seval]
    refine ab.pure h rfl ?_
    refine zgZ ?_
    refine ab.pure hv rfl ?_
    exact qsZ
  | false=>
    rw[hb] at hv
    rw[if_neg (by simp)]
    simp(disch:=try exact dI) only[RO,Val.pv_mk,push_cast,seval]
    refine ab.pure h rfl ?_
    refine zgZ ?_
    refine ab.pure hv rfl ?_
    exact qsZ
 ·rw[if_neg he]
  simp(disch:=try exact dI) only[RO,Val.pv_mk,push_cast,seval]
  refine ab.pure h rfl ?_
  exact qsZ
theorem kZ {fs:List (List UInt8)}{i:Nat}{s:List UInt8}(h:fs[i]? = some s)(p:Option (List UInt8)):eO p (fs.drop i)=if bN s=false then 12 else if p=some s then 7 else if (p.any fun q=>bc s q)=true then 24 else eO (some s) (fs.drop (i+1)):=by
 have hi:i<fs.length:=(List.getElem?_eq_some_iff.1 h).1
 have he:fs[i]=s:=(List.getElem?_eq_some_iff.1 h).2
 rw[List.drop_eq_getElem_cons hi,he,eO]
def gY (fs:List Fld)(i:Nat):Option (List UInt8):=if i=0 then none else (fs[i - 1]?).map Fld.name
theorem L0 (v:Val)(hk:v.kind=9):ak Tryz.prog aq 279 [v.pv] (.int .i64 (be v)):=by
 obtain⟨k,n,s,t,l,fs⟩:=v
 simp only[Val.kind] at hk;subst hk
 rw[show be (.mk 9 n s t l fs)=(if cW fs.length 64 9=0 then eO none (fs.map Fld.name) else cW fs.length 64 9) from rfl]
 have h:=kq fs.length 64 9
 change ak _ _ _ _ (.int .i64 (cW fs.length 64 9)) at h
 by_cases h64:(64:Int)<fs.length
 ·have e:cW fs.length 64 9=9:=if_pos h64
  rw[e] at h ⊢
  rw[if_neg (by omega)]
  refine ak.intro OV.2 (by simp[OV]) ?_
  simp(disch:=try exact dI) only[OV,Val.pv_mk,push_cast,seval]
  refine ab.pure h rfl ?_
  exact qsZ
 ·have e:cW fs.length 64 9=0:=if_neg h64
  rw[e] at h ⊢
  rw[if_pos rfl]
  have hfl:fs.length<=64:=by omega
  obtain⟨R,hR⟩:∃ R,R=eO none (fs.map Fld.name):=⟨_,rfl⟩
  rw[<- hR]
  refine ak.intro OV.2 (by simp[OV]) ?_
  simp(disch:=try exact dI) only[OV,Val.pv_mk,push_cast,seval]
  refine ab.pure h rfl ?_
  refine zgZ ?_
  refine ap ([]) (fun i:Nat=>[(16,.pv (.int .i64 (i:Int)))]) (fun _=>[]) (fun i=>i<=fs.length/\R=eO (gY fs i) ((fs.map Fld.name).drop i)) (fun i=>fs.length - i) (0) ?_;intro e0 σ0 n0 h0;simp(disch:=try exact dI) only[push_cast,seval] at h0;obtain⟨rfl,rfl,rfl⟩:=h0;refine⟨?_,?_,?_⟩
  ·exact qsZ
  ·exact⟨by omega,by simpa[gY] using hR⟩
  rintro i ⟨hi,hr⟩
  by_cases hlt:i<fs.length
  ·have hltI:(i:Int)<(fs.length:Int):=by omega
   obtain⟨c,hc⟩:∃ c,fs[i]? = some c:=⟨_,List.getElem?_eq_getElem hlt⟩
   obtain⟨nm,⟨k',n',s',t',l',f'⟩⟩:=c
   have hcp:(fs.map Fld.pv)[i]? = some (.agg [.str nm,.int .i64 k',.int .i64 n',.int .i64 s',.str t',.list (l'.map Val.pv),.list (f'.map Fld.pv)]):=by simp[hc,Fld.pv_mk,Val.pv_mk,ag]
   have hnm:(fs.map Fld.name)[i]? = some nm:=by simp[hc,Fld.name]
   have hn:=sL nm
   rw[kZ hnm] at hr
   have hnext:gY fs (i+1)=some nm:=by simp[gY,hc,Fld.name]
   cases hb:bN nm with
   | false=>
     rw[hb] at hn hr
     rw[if_pos rfl] at hr
     subst hr
     simp(disch:=try exact dI) only[hcp,push_cast,seval]
     refine ab.pure hn rfl ?_
     exact qsZ
   | true=>
     rw[hb] at hn hr
     rw[if_neg (by simp)] at hr
     by_cases hi0:i=0
     ·have hiI:¬ (0:Int)<(i:Int):=by omega
      have hpn:gY fs i=none:=if_pos hi0
      rw[hpn,if_neg (by simp),if_neg (by simp),<- hnext] at hr
      simp(disch:=try exact dI) only[hcp,push_cast,seval]
      refine ab.pure hn rfl ?_
      refine zgZ ?_
      exact⟨i+1,aK qsZ,⟨by omega,by rw[List.map_drop];exact hr⟩,by omega⟩
     ·obtain⟨j,rfl⟩:∃ j,i=j+1:=⟨i - 1,by omega⟩
      obtain⟨c,hc'⟩:∃ c,fs[j]? = some c:=⟨_,List.getElem?_eq_getElem (by omega)⟩
      have hpn:gY fs (j+1)=some c.name:=by simp[gY,hc']
      obtain⟨q,⟨k2,n2,s2,t2,l2,f2⟩⟩:=c
      have hcq:(fs.map Fld.pv)[j]? = some (.agg [.str q,.int .i64 k2,.int .i64 n2,.int .i64 s2,.str t2,.list (l2.map Val.pv),.list (f2.map Fld.pv)]):=by simp[hc',Fld.pv_mk,Val.pv_mk,ag]
      simp only[Fld.name] at hpn
      rw[hpn] at hr
      by_cases hq:nm=q
      ·subst hq
       rw[if_pos rfl] at hr
       subst hr
       simp(disch:=try exact dI) only[hcp,Int.add_sub_cancel,push_cast,seval]
       refine ab.pure hn rfl ?_
       simp(disch:=try exact dI) only[hcq,Int.add_sub_cancel,push_cast,seval]
      ·rw[if_neg (by simpa using fun e=>hq e.symm)] at hr
       cases hlt2:bc nm q with
       | true=>
         rw[if_pos (by simpa using hlt2)] at hr
         subst hr
         simp(disch:=try exact dI) only[hcp,Int.add_sub_cancel,push_cast,seval]
         refine ab.pure hn rfl ?_
         simp(disch:=try exact dI) only[hcq,Int.add_sub_cancel,hq,hlt2,push_cast,seval]
       | false=>
         rw[if_neg (by simp[hlt2]),<- hnext] at hr
         simp(disch:=try exact dI) only[hcp,Int.add_sub_cancel,push_cast,seval]
         refine ab.pure hn rfl ?_
         simp(disch:=try exact dI) only[hcq,Int.add_sub_cancel,hq,hlt2,push_cast,seval]
         exact⟨j+1+1,aK qsZ,⟨by omega,by rw[List.map_drop];exact hr⟩,by omega⟩
  ·have hie:i=fs.length:=by omega
   subst hie
   rw[List.drop_of_length_le (by simp)] at hr
   rw[show R=0 from hr]
   exact qsZ
theorem LZ (v:Val)(hk:v.kind=10):ak Tryz.prog aq 280 [v.pv] (.int .i64 (be v)):=by
 obtain⟨k,n,s,t,l,fs⟩:=v
 simp only[Val.kind] at hk;subst hk
 rw[show be (.mk 10 n s t l fs)=(if bN t=false then 12 else if l.length=0 then 4 else cW l.length 1 3) from rfl]
 have h:=kq l.length 1 3
 have hn:=sL t
 change ak _ _ _ _ (.int .i64 (cW l.length 1 3)) at h
 generalize cW l.length 1 3=e at *
 refine ak.intro RN.2 (by simp[RN]) ?_
 cases hb:bN t with
 | false=>
   rw[hb] at hn
   rw[if_pos rfl]
   simp(disch:=try exact dI) only[RN,Val.pv_mk,push_cast,seval]
   refine ab.pure hn rfl ?_
   exact qsZ
 | true=>
   rw[hb] at hn
   rw[if_neg (by simp)]
   by_cases hl:l.length=0
   ·have hlI:(l.length:Int)=0:=by omega
    rw[if_pos hl]
    simp(disch:=try exact dI) only[RN,Val.pv_mk,push_cast,seval]
    refine ab.pure hn rfl ?_
    exact qsZ
   ·have hlI:¬ (l.length:Int)=0:=by omega
    rw[if_neg hl]
    simp(disch:=try exact dI) only[RN,Val.pv_mk,push_cast,seval]
    refine ab.pure hn rfl ?_
    refine zgZ ?_
    refine ab.pure h rfl ?_
    exact qsZ
end Go.Proofs.YtbaaokocnegdoaaGreatDoor

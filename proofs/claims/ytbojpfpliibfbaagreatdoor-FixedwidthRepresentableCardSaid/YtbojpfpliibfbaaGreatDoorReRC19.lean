/- A part of the proof for FixedwidthRepresentableCardSaid. -/
import Derived.Test.YtbojpfpliibfbaaGreatDoorReRC14
import Derived.Test.YtbojpfpliibfbaaGreatDoorReRSg
import Derived.Test.YtbojpfpliibfbaaGreatDoorReRWC
import Derived.Test.YtbojpfpliibfbaaGreatDoorReF
set_option maxRecDepth 100000
set_option linter.unusedVariables false
set_option linter.unusedSimpArgs false
-- many steps
namespace Go.Proofs.YtbojpfpliibfbaaGreatDoor
open Go Go.Ab
attribute [local irreducible] vc
def jn (a sc i:Nat):List UInt8:=if i≤sc then dP i a else dP (i - sc) (a / 10 ^ sc)++(if sc=0 then [] else 46::dP sc a)
theorem lO (i a:Nat):dP (i+1) a=UInt8.ofNat (48+a / 10 ^ i % 10)::dP i a:=by
 rw[Nat.add_comm,fS 1 i a]
 simp[dP]
theorem tt (a sc i:Nat):jn a sc (i+1)=UInt8.ofNat (48+a / 10 ^ i % 10)::(if i=sc∧0<i then [46]++jn a sc i else jn a sc i):=by
 by_cases h:i<sc
 ·have e1:jn a sc (i+1)=dP (i+1) a:=by unfold jn;rw[if_pos (by omega)]
  have e2:jn a sc i=dP i a:=by unfold jn;rw[if_pos (by omega)]
  rw[e1,e2,lO,if_neg (by omega)]
 ·have e1:jn a sc (i+1)=dP (i - sc+1) (a / 10 ^ sc)++(if sc=0 then [] else 46::dP sc a):=by
   unfold jn
   rw[if_neg (show ¬ i+1≤sc by omega),show i+1 - sc=i - sc+1 by omega]
  rw[e1,lO,Nat.div_div_eq_div_mul,← Nat.pow_add,show sc+(i - sc)=i by omega]
  by_cases he:i=sc
  ·subst he
   have e2:jn a i i=dP i a:=by unfold jn;rw[if_pos (Nat.le_refl i)]
   rw[e2,Nat.sub_self]
   by_cases h0:i=0
   ·subst h0;simp[dP]
   ·rw[if_neg h0,if_pos (show i=i∧0<i from⟨rfl,by omega⟩)]
    simp[dP]
  ·have e2:jn a sc i=dP (i - sc) (a / 10 ^ sc)++(if sc=0 then [] else 46::dP sc a):=by unfold jn;rw[if_neg (show ¬ i≤sc by omega)]
   rw[e2,if_neg (show ¬ (i=sc∧0<i) by omega)]
   rfl
theorem Ca (n:Int)(sc:Nat):jZ n sc=(if n<0 then [45] else [])++jn n.natAbs sc (max (dl n.natAbs) (sc+1)):=by
 have e:jn n.natAbs sc (max (dl n.natAbs) (sc+1))=dP (max (dl n.natAbs) (sc+1) - sc) (n.natAbs / 10 ^ sc)++(if sc=0 then [] else 46::dP sc n.natAbs):=by
  unfold jn
  rw[if_neg (show ¬ max (dl n.natAbs) (sc+1)≤sc by omega)]
 rw[e]
 rfl
theorem yJ (a sc i:Nat):(jn a sc i).length≤i+1:=by
 unfold jn
 split
 ·rw[dO];omega
 ·split
  ·simp[dO];omega
  ·simp[dO];omega
theorem Mp {a:Nat}(h:a<10 ^ 15)(sc:Nat):max (dd 20 a).length (sc+1)=max (dl a) (sc+1):=by
 have h20:a<10 ^ 20:=Nat.lt_of_lt_of_le h (Nat.pow_le_pow_right (by omega) (by omega))
 by_cases h0:a=0
 ·subst h0
  have e1:(dd 20 0).length=0:=by simp[dd]
  have e2:dl 0=1:=by decide
  omega
 ·rw[Dj 20 a h20 h0]
  rfl
theorem DX {n:Int}{sc:Nat}(hn:IsN n sc):ag Tryz.prog aD 128 [.agg [.int .i64 n,.int .i64 (sc:Int)]] (.str (jZ n sc)):=by
 obtain⟨h1,h2,h3⟩:=hn
 have ho:=L3 h1 h2
 have hlt:n.natAbs<10 ^ 15:=by simp;omega
 have hlt20:n.natAbs<10 ^ 20:=by simp;omega
 have hdl:=n5 hlt
 have hmx:=Mp hlt sc
 have hget:=fun i=>Dk 20 n.natAbs i hlt20
 have hdg:=fun i=>B8 (sgn n) (dd 20 n.natAbs) i
 have hDl:=er 20 n.natAbs
 rw[Ca]
 have hstep:=tt n.natAbs sc
 have hlen:=yJ n.natAbs sc
 have hx0:jn n.natAbs sc 0=[]:=by simp[jn,dP]
 obtain⟨K,hK⟩:∃ K,K=max (dl n.natAbs) (sc+1):=⟨_,rfl⟩
 rw[← hK] at hmx ⊢
 have hmxI:max (((dd 20 n.natAbs).length:Nat):Int) ((sc:Int)+1)=(K:Int):=by omega
 have hK15:K≤15:=by omega
 generalize sgn n=SG at *
 generalize dd 20 n.natAbs=D at *
 obtain⟨T,hT⟩:∃ T,T=jn n.natAbs sc:=⟨_,rfl⟩
 rw[← hT] at hstep hlen hx0 ⊢
 obtain⟨a,ha⟩:∃ a,a=n.natAbs:=⟨_,rfl⟩
 rw[← ha] at hget hstep
 clear hT hdl hK hmx hDl ha
 have hlT:=hlen K
 refine ag.intro Hu (by simp[Nj]) ?_
 simp(maxSteps:=9^7) (disch:=try exact dI) only[Nj,push_cast,seval]
 refine ab.pure ho rfl ?_
 simp(maxSteps:=9^7) (disch:=try exact dI) only[push_cast,seval]
 refine aw ([]) (fun i:Nat=>[(4,.pv (.str (T i))),(5,.pv (.int .i64 (i:Int)))]) (fun _=>[]) (fun i=>i≤K) (fun i=>K - i) (0) ?_;intro e0 σ0 n0 h0;simp(maxSteps:=9^7) (disch:=try exact dI) only[push_cast,seval] at h0;obtain⟨rfl,rfl,rfl⟩:=h0;refine⟨?_,?_,?_⟩
 ·simp(maxSteps:=9^7) (disch:=try exact dI) only[hx0,push_cast,seval]
 ·omega
 intro i hi
 have hli:=hlen i
 have hg:=hget i
 have hd:=hdg i
 rw[hg] at hd
 have hs:=hstep i
 by_cases hlti:i<K
 ·have hltI:(i:Int)<(K:Int):=by omega
  have hb:a / 10 ^ i % 10<10:=Nat.mod_lt _ (by omega)
  generalize a / 10 ^ i % 10=x at *
  simp only[mI] at hd
  have hw:IntKind.u8.wrap (48+(x:Int))=48+(x:Int):=by
   unfold IntKind.wrap;simp[IntKind.bits,IntKind.signed];omega
  have hu:(48+(x:Int)).toNat=48+x:=by omega
  by_cases hc:i=sc∧0<i
  ·obtain⟨rfl,hp⟩:=hc
   have hpI:(0:Int)<(i:Int):=by omega
   rw[if_pos ⟨rfl,hp⟩] at hs
   simp(maxSteps:=9^7) (disch:=try exact dI) only[hmxI,push_cast,seval]
   refine ab.pure hd rfl ?_
   simp(maxSteps:=9^7) (disch:=try exact dI) only[hw,push_cast,seval]
   exact⟨i+1,aT (by simp(maxSteps:=9^7) (disch:=try exact dI) only[hs,hu,push_cast,seval]),by omega,by omega⟩
  ·rw[if_neg hc] at hs
   by_cases he:i=sc
   ·have h0:i=0:=Decidable.of_not_not fun h=>hc ⟨he,by omega⟩
    subst he
    have h0I:¬ (0:Int)<(i:Int):=by omega
    simp(maxSteps:=9^7) (disch:=try exact dI) only[hmxI,push_cast,seval]
    refine ab.pure hd rfl ?_
    simp(maxSteps:=9^7) (disch:=try exact dI) only[hw,push_cast,seval]
    exact⟨i+1,aT (by simp(maxSteps:=9^7) (disch:=try exact dI) only[hs,hu,push_cast,seval]),by omega,by omega⟩
   ·have heI:¬ (i:Int)=(sc:Int):=by omega
    simp(maxSteps:=9^7) (disch:=try exact dI) only[hmxI,push_cast,seval]
    refine ab.pure hd rfl ?_
    simp(maxSteps:=9^7) (disch:=try exact dI) only[hw,push_cast,seval]
    exact⟨i+1,aT (by simp(maxSteps:=9^7) (disch:=try exact dI) only[hs,hu,push_cast,seval]),by omega,by omega⟩
 ·have hiK:i=K:=by omega
  subst hiK
  by_cases hneg:n<0
  ·rw[if_pos hneg]
   simp(maxSteps:=9^7) (disch:=try exact dI) only[hmxI,push_cast,seval]
  ·rw[if_neg hneg]
   simp(maxSteps:=9^7) (disch:=try exact dI) only[hmxI,push_cast,seval]
end Go.Proofs.YtbojpfpliibfbaaGreatDoor
-- many steps
namespace Go.Proofs.YtbojpfpliibfbaaGreatDoor
open Go Go.Ab
attribute [local irreducible] vc
def scB (k:Int):Bool:=decide (1≤k)&&decide (k≤7)
theorem Cz (k:Int):ag Tryz.prog aD 29 [.int .i64 k] (.bool (scB k)):=by
 unfold scB
 refine ag.intro KB (by simp[F29]) ?_
 by_cases h1:1≤k
 ·by_cases h2:k≤7
  ·rw[decide_eq_true h1,decide_eq_true h2]
   simp(maxSteps:=9^7) (disch:=try exact dI) only[F29,h1,h2,push_cast,seval]
  ·rw[decide_eq_true h1,decide_eq_false h2]
   simp(maxSteps:=9^7) (disch:=try exact dI) only[F29,h1,h2,push_cast,seval]
 ·rw[decide_eq_false h1]
  simp(maxSteps:=9^7) (disch:=try exact dI) only[F29,h1,push_cast,seval]
theorem wX (g:TFd):gF g=!scB g.typ.kind:=by
 unfold gF scB
 by_cases h1:1≤g.typ.kind
 ·by_cases h2:g.typ.kind≤7
  ·simp[h1,h2]<;>omega
  ·simp[h1,h2]<;>omega
 ·simp[h1]<;>omega
theorem Dv (t:Typ)(ht:t.ok):ag Tryz.prog aD 31 [t.pv] (.bool (e5 t)):=by
 obtain⟨k,m,M,s,w,e,f⟩:=t
 rw[Typ.ok_mk] at ht
 have hf:f.length≤9000000000000:=by omega
 clear ht
 obtain⟨R,hR⟩:∃ R,R=e5 (.mk k m M s w e f):=⟨_,rfl⟩
 rw[← hR]
 refine ag.intro KA (by simp[F31]) ?_
 simp(maxSteps:=9^7) (disch:=try exact dI) only[F31,Typ.pv_mk,push_cast,seval]
 refine aw ([]) (fun i:Nat=>[(3,.pv (.int .i64 (i:Int)))]) (fun _=>[]) (fun i=>i≤f.length∧(f.take i).any gF=false) (fun i=>f.length - i) (0) ?_;intro e0 σ0 n0 h0;simp(maxSteps:=9^7) (disch:=try exact dI) only[push_cast,seval] at h0;obtain⟨rfl,rfl,rfl⟩:=h0;refine⟨?_,?_,?_⟩
 ·simp(maxSteps:=9^7) (disch:=try exact dI) only[push_cast,seval]
 ·exact⟨by omega,by simp⟩
 rintro i ⟨hi,hn⟩
 by_cases hlt:i<f.length
 ·have hltI:(i:Int)<(f.length:Int):=by omega
  obtain⟨g,hg⟩:∃ g,f[i]? = some g:=⟨_,List.getElem?_eq_getElem hlt⟩
  have hc:=Cz g.typ.kind
  have hd:=wX g
  have hsn:(f.take (i+1)).any gF=gF g:=by rw[aI hg,List.any_append,hn];simp
  have hall:gF g=true→f.any gF=true:=fun h=>List.any_eq_true.2 ⟨g,List.mem_of_getElem? hg,h⟩
  generalize gF g=z at hd hsn hall
  obtain⟨n',nm',nd',⟨k',m',M',s',w',e',f'⟩,d'⟩:=g
  simp only[TFd.typ,Typ.kind] at hc hd
  generalize scB k'=b at hc hd
  subst hd
  cases b with
  | true=>
    simp(maxSteps:=9^7) (disch:=try exact dI) only[hg,Option.map_some,TFd.pv_mk,Typ.pv_mk,ae,push_cast,seval]
    refine ab.pure hc rfl ?_
    simp(maxSteps:=9^7) (disch:=try exact dI) only[push_cast,seval]
    exact⟨i+1,aT qsZ,⟨by omega,by rw[hsn];rfl⟩,by omega⟩
  | false=>
    have:R=false:=by rw[hR];simp only[e5];rw[hall rfl];simp
    subst this
    simp(maxSteps:=9^7) (disch:=try exact dI) only[hg,Option.map_some,TFd.pv_mk,Typ.pv_mk,ae,push_cast,seval]
    refine ab.pure hc rfl ?_
    simp(maxSteps:=9^7) (disch:=try exact dI) only[push_cast,seval]
 ·obtain rfl:i=f.length:=by omega
  rw[List.take_length] at hn
  have hR2:R=(decide (k=9)&&decide (0<f.length)):=by rw[hR];simp only[e5];rw[hn];simp
  subst hR2
  by_cases h9:k=9
  ·by_cases h0:0<f.length
   ·have h0I:(0:Int)<(f.length:Int):=by omega
    rw[decide_eq_true h9,decide_eq_true h0]
    simp(maxSteps:=9^7) (disch:=try exact dI) only[Int.lt_irrefl,h9,h0I,push_cast,seval]
   ·have h0I:¬ (0:Int)<(f.length:Int):=by omega
    rw[decide_eq_true h9,decide_eq_false h0]
    simp(maxSteps:=9^7) (disch:=try exact dI) only[Int.lt_irrefl,h9,h0I,push_cast,seval]
  ·rw[decide_eq_false h9]
   simp(maxSteps:=9^7) (disch:=try exact dI) only[Int.lt_irrefl,h9,push_cast,seval]
noncomputable def flE (t:Typ):Int:=if oA t=0 then (if e5 t=true then 0 else 11) else oA t
theorem Df (t:Typ)(ht:t.ok):ag Tryz.prog aD 34 [t.pv] (.int .i64 (flE t)):=by
 have h69:=FX t ht
 have h74:=I7 t (by obtain⟨k,m,M,s,w,e,f⟩:=t;rw[Typ.ok_mk] at ht;simp only[Typ.fields];omega)
 unfold flE
 generalize oA t=z at *
 generalize e5 t=b at *
 obtain⟨k,m,M,s,w,e,f⟩:=t
 simp only[Typ.pv_mk] at h69 h74
 refine ag.intro Kz (by simp[F34]) ?_
 by_cases hz:z=0
 ·subst hz
  rw[if_pos rfl]
  cases b with
  | true=>
    rw[if_pos rfl]
    simp(maxSteps:=9^7) (disch:=try exact dI) only[F34,Typ.pv_mk,push_cast,seval]
    refine ab.pure h69 rfl ?_
    simp(maxSteps:=9^7) (disch:=try exact dI) only[push_cast,seval]
    refine ab.pure h74 rfl ?_
    simp(maxSteps:=9^7) (disch:=try exact dI) only[push_cast,seval]
  | false=>
    rw[if_neg (by decide)]
    simp(maxSteps:=9^7) (disch:=try exact dI) only[F34,Typ.pv_mk,push_cast,seval]
    refine ab.pure h69 rfl ?_
    simp(maxSteps:=9^7) (disch:=try exact dI) only[push_cast,seval]
    refine ab.pure h74 rfl ?_
    simp(maxSteps:=9^7) (disch:=try exact dI) only[push_cast,seval]
 ·rw[if_neg hz]
  simp(maxSteps:=9^7) (disch:=try exact dI) only[F34,Typ.pv_mk,push_cast,seval]
  refine ab.pure h69 rfl ?_
  simp(maxSteps:=9^7) (disch:=try exact dI) only[hz,push_cast,seval]
end Go.Proofs.YtbojpfpliibfbaaGreatDoor
-- many steps
namespace Go.Proofs.YtbojpfpliibfbaaGreatDoor
open Go Go.Ab
attribute [local irreducible] vc
theorem A2 (f:Nat)(a b:List PV):PV.one (.clo f a b)=true:=rfl
theorem ve:PV.one .nilf=true:=rfl
theorem sN:ag Tryz.prog aD 43 [] (.agg [.nilf,.clo 84 [] [],.clo 82 [] [],.clo 82 [] [],.clo 85 [] [],.clo 86 [] [],.clo 87 [] [],.clo 89 [] []]):=by
 refine ag.intro Ks (by simp[F43]) ?_
 simp(maxSteps:=9^7) (disch:=try exact dI) only[F43,A2,ve,push_cast,seval]
def LA:PV:=.agg [.nilf,.clo 84 [] [],.clo 82 [] [],.clo 82 [] [],.clo 85 [] [],.clo 86 [] [],.clo 87 [] [],.clo 89 [] []]
theorem Lz:bv false 8 1 (.pv LA) (.pv (.int .i64 2))=some (.pv (.clo 82 [] [])):=rfl
theorem Ly:bv false 8 1 (.pv LA) (.pv (.int .i64 3))=some (.pv (.clo 82 [] [])):=rfl
theorem ot {n:Int}{sc:Nat}(hn:IsN n sc):ag Tryz.prog aD 82 [.agg [.int .i64 0,.int .i64 n,.int .i64 (sc:Int),.str [],.nils,.nils]] (.str (jZ n sc)):=by
 have h:=H2 hn
 generalize jZ n sc=d at h ⊢
 refine ag.intro Kb (by simp[F82]) ?_
 simp(maxSteps:=9^7) (disch:=try exact dI) only[F82,push_cast,seval]
 refine ab.pure h rfl ?_
 simp(maxSteps:=9^7) (disch:=try exact dI) only[push_cast,seval]
theorem oX {k m M:Int}{sc:Nat}{w:List (List UInt8)}{e:List Typ}{f:List TFd}{n:Int}(hn:IsN n sc):ag Tryz.prog aD 73 [(Typ.mk k m M (sc:Int) w e f).pv,.int .i64 n] (.str (jZ n sc)):=by
 have h:=DX hn
 generalize jZ n sc=d at h ⊢
 refine ag.intro Ki (by simp[F73]) ?_
 simp(maxSteps:=9^7) (disch:=try exact dI) only[F73,Typ.pv_mk,push_cast,seval]
 refine ab.pure h rfl ?_
 simp(maxSteps:=9^7) (disch:=try exact dI) only[push_cast,seval]
theorem oR {k m M s:Int}{w:List (List UInt8)}{e:List Typ}{f:List TFd}(h:bh (.mk k m M s w e f)=0):aQ k (.mk k m M s w e f)=false:=by
 rw[bh] at h
 by_cases a:inB k 1 10=false
 ·rw[if_pos a] at h;exact absurd h (by decide)
 rw[if_neg a] at h
 by_cases b:aQ k (.mk k m M s w e f)=true
 ·rw[if_pos b] at h;exact absurd h (by decide)
 ·simpa using b
theorem uU {k m M s:Int}{w:List (List UInt8)}{e:List Typ}{f:List TFd}(h:bh (.mk k m M s w e f)=0)(hk:k=2∨k=3):∃ sc:Nat,s=(sc:Int)∧IsN m sc∧IsN M sc:=by
 have hb:=(bA h).2.1
 have hf:=oR h
 unfold aB at hb
 have h4:¬ (k=4∧0<w.length):=by omega
 rw[if_neg h4] at hb
 by_cases hc:(2≤k∧k≤8)∧(M<m∨m<loK k∨hiK k<M)
 ·rw[if_pos hc] at hb;exact absurd hb (by decide)
 rw[if_neg hc] at hb
 have h1:¬ (M<m∨m<loK k∨hiK k<M):=fun hh=>hc ⟨by omega,hh⟩
 have hs:0≤s∧s≤12:=by
  rcases hk with rfl | rfl
  ·simp only[aQ,aq,Bool.or_eq_false_iff] at hf
   have:s=0:=by simpa using hf.2.1
   omega
  ·by_cases hi:inB s 0 12=false
   ·rw[if_pos ⟨rfl,hi⟩] at hb;exact absurd hb (by decide)
   ·simpa[inB] using hi
 have hl:loK k = -999999999999999∧hiK k=999999999999999:=by rcases hk with rfl | rfl<;>exact⟨rfl,rfl⟩
 rw[hl.1,hl.2] at h1
 refine⟨s.toNat,by omega,?_,?_⟩
 ·unfold IsN;omega
 ·unfold IsN;omega
theorem uT {m M s:Int}{w:List (List UInt8)}{e:List Typ}{f:List TFd}(h:bh (.mk 5 m M s w e f)=0):0≤M∧M≤1024:=by
 have hb:=(bA h).2.1
 unfold aB at hb
 rw[if_neg (fun hh=>absurd hh.1 (by decide))] at hb
 by_cases hc:(2≤(5:Int)∧(5:Int)≤8)∧(M<m∨m<loK 5∨hiK 5<M)
 ·rw[if_pos hc] at hb;exact absurd hb (by decide)
 have h1:¬ (M<m∨m<loK 5∨hiK 5<M):=fun hh=>hc ⟨by decide,hh⟩
 rw[show loK 5=0 from rfl,show hiK 5=1024 from rfl] at h1
 omega
theorem lP:∀ (k a:Nat),(dP k a).length=k
 | 0,_=>rfl
 | k+1,a=>by rw[dP,List.length_append,lP k];rfl
theorem Cb {n:Int}{sc:Nat}(hn:IsN n sc):1≤((jZ n sc).length:Int):=by
 simp only[jZ,List.length_append,lP]
 omega
def pY (w:List (List UInt8))(a:Int):Int:=w.foldl (fun (a:Int) (x:List UInt8)=>max a (x.length:Int)) a
theorem ou:∀ (w:List (List UInt8)) (a:Int),pY w (max 1 a)=max (pY w a) 1
 | [],a=>by simp only[pY,List.foldl_nil];omega
 | x::r,a=>by
   have h:=ou r (max a (x.length:Int))
   simp only[pY,List.foldl_cons] at h ⊢
   rw[← h];congr 1;omega
theorem ld {w:List (List UInt8)}{i:Nat}{x:List UInt8}(h:w[i]? = some x)(a:Int):pY (w.take (i+1)) a=max (pY (w.take i) a) (x.length:Int):=dF h a
def gw:Typ→Int
 | .mk k m M s w _ _=>if k=2∨k=3 then max ((jZ m s.toNat).length:Int) ((jZ M s.toNat).length:Int) else if k=4 then max (pY w M) 1 else if k=5 then max (2*M) 1 else if k=6 then 10 else if k=7 then 24 else 1
set_option maxHeartbeats 4000000 in
theorem DF (k m M s:Int)(w:List (List UInt8))(e:List Typ)(f:List TFd)(ho:bh (.mk k m M s w e f)=0)(ht:(Typ.mk k m M s w e f).ok)(hk:1≤k∧k≤7):ag Tryz.prog aD 35 [(Typ.mk k m M s w e f).pv] (.int .i64 (gw (.mk k m M s w e f))):=by
 rw[Typ.ok_mk] at ht
 have hwl:w.length≤9000000000000:=by omega
 clear ht
 by_cases h23:k=2∨k=3
 ·obtain⟨sc,rfl,hm,hM⟩:=uU ho h23
  have h1:=ot hm
  have h2:=ot hM
  have hw:ag Tryz.prog aD 43 [] LA:=sN
  have hp:=Cb hm
  rw[show gw (.mk k m M (sc:Int) w e f)=max ((jZ m sc).length:Int) ((jZ M sc).length:Int) by simp only[gw,if_pos h23,Int.toNat_natCast]]
  generalize jZ m sc=a at *
  generalize jZ M sc=b at *
  have hx:max (max (a.length:Int) (b.length:Int)) 1=max (a.length:Int) (b.length:Int):=by omega
  refine ag.intro j8 (by simp[F35]) ?_
  rcases h23 with rfl | rfl
  ·simp(maxSteps:=9^7) (disch:=try exact dI) only[F35,Typ.pv_mk,push_cast,seval]
   refine aA hw rfl ?_
   simp(maxSteps:=9^7) (disch:=try exact dI) only[Lz,push_cast,seval]
   refine aA h1 rfl ?_
   simp(maxSteps:=9^7) (disch:=try exact dI) only[push_cast,seval]
   refine aA h2 rfl ?_
   simp(maxSteps:=9^7) (disch:=try exact dI) only[hx,push_cast,seval]
  ·simp(maxSteps:=9^7) (disch:=try exact dI) only[F35,Typ.pv_mk,push_cast,seval]
   refine aA hw rfl ?_
   simp(maxSteps:=9^7) (disch:=try exact dI) only[Ly,push_cast,seval]
   refine aA h1 rfl ?_
   simp(maxSteps:=9^7) (disch:=try exact dI) only[push_cast,seval]
   refine aA h2 rfl ?_
   simp(maxSteps:=9^7) (disch:=try exact dI) only[hx,push_cast,seval]
 by_cases h4:k=4
 ·subst h4
  rw[show gw (.mk 4 m M s w e f)=max (pY w M) 1 from rfl]
  refine ag.intro j8 (by simp[F35]) ?_
  simp(maxSteps:=9^7) (disch:=try exact dI) only[F35,Typ.pv_mk,push_cast,seval]
  refine aw ([]) (fun i:Nat=>[(3,.pv (.int .i64 (pY (w.take i) M))),(40,.pv (.int .i64 (i:Int)))]) (fun _=>[]) (fun i=>i≤w.length) (fun i=>w.length - i) (0) ?_;intro e0 σ0 n0 h0;simp(maxSteps:=9^7) (disch:=try exact dI) only[push_cast,seval] at h0;obtain⟨rfl,rfl,rfl⟩:=h0;refine⟨?_,?_,?_⟩
  ·simp(maxSteps:=9^7) (disch:=try exact dI) only[List.take_zero,pY,List.foldl_nil,push_cast,seval]
  ·omega
  rintro i hi
  by_cases hlt:i<w.length
  ·have hltI:(i:Int)<(w.length:Int):=by omega
   obtain⟨x,hx⟩:∃ x,w[i]? = some x:=⟨_,List.getElem?_eq_getElem hlt⟩
   have hst:=ld hx M
   simp(maxSteps:=9^7) (disch:=try exact dI) only[hx,Option.map_some,push_cast,seval]
   exact⟨i+1,aT (by simp(maxSteps:=9^7) (disch:=try exact dI) only[hst,push_cast,seval]),by omega,by omega⟩
  ·obtain rfl:i=w.length:=by omega
   rw[List.take_length]
   simp(maxSteps:=9^7) (disch:=try exact dI) only[Int.lt_irrefl,push_cast,seval]
 by_cases h5:k=5
 ·subst h5
  have hM:=uT ho
  rw[show gw (.mk 5 m M s w e f)=max (2*M) 1 from rfl]
  refine ag.intro j8 (by simp[F35]) ?_
  simp(maxSteps:=9^7) (disch:=try exact dI) only[F35,Typ.pv_mk,push_cast,seval]
 by_cases h6:k=6
 ·subst h6
  rw[show gw (.mk 6 m M s w e f)=10 from rfl]
  refine ag.intro j8 (by simp[F35]) ?_
  simp(maxSteps:=9^7) (disch:=try exact dI) only[F35,Typ.pv_mk,show max (10:Int) 1=10 from rfl,push_cast,seval]
 by_cases h7:k=7
 ·subst h7
  rw[show gw (.mk 7 m M s w e f)=24 from rfl]
  refine ag.intro j8 (by simp[F35]) ?_
  simp(maxSteps:=9^7) (disch:=try exact dI) only[F35,Typ.pv_mk,show max (24:Int) 1=24 from rfl,push_cast,seval]
 ·obtain rfl:k=1:=by omega
  rw[show gw (.mk 1 m M s w e f)=1 from rfl]
  refine ag.intro j8 (by simp[F35]) ?_
  simp(maxSteps:=9^7) (disch:=try exact dI) only[F35,Typ.pv_mk,show max (1:Int) 1=1 from rfl,push_cast,seval]
end Go.Proofs.YtbojpfpliibfbaaGreatDoor

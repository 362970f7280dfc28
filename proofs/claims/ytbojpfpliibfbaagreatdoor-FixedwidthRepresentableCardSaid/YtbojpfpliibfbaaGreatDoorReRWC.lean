/- A part of the proof for FixedwidthRepresentableCardSaid. -/
import Derived.Test.YtbojpfpliibfbaaGreatDoorReF
import Derived.Test.YtbojpfpliibfbaaGreatDoorReRSh
import Derived.Test.YtbojpfpliibfbaaGreatDoorReRD2
import Derived.Test.YtbojpfpliibfbaaGreatDoorReCore6
set_option maxRecDepth 100000
set_option linter.unusedVariables false
set_option linter.unusedSimpArgs false
namespace Go.Proofs.YtbojpfpliibfbaaGreatDoor
open Go Go.Ab
set_option maxHeartbeats 4000000 in
theorem mr:∀ (n:Nat) (v:Val),SizeOf.sizeOf v<n→v.ok→ag Tryz.prog aD 92 [v.pv] v.pv:=by
 intro n
 induction n with
 | zero=>intro v h;omega
 | succ n ih=>
 intro v hn hv
 obtain⟨k,i,s,t,l,f⟩:=v
 rw[Val.ok_mk] at hv
 obtain⟨h1,h2,h3,h4,h5,h7,h6,h8⟩:=hv
 simp only[Val.mk.sizeOf_spec] at hn
 have hl:∀ x∈l,ag Tryz.prog aD 92 [x.pv] x.pv:=fun x hx=>ih x (by have:=List.sizeOf_lt_of_mem hx;omega) (h7 x hx)
 have hf:∀ a v,Fld.mk a v∈f→ag Tryz.prog aD 92 [v.pv] v.pv:=fun a v hx=>ih v (by have:=List.sizeOf_lt_of_mem hx;simp only[Fld.mk.sizeOf_spec] at this;omega) (by have:=h8 _ hx;rw[Fld.ok_mk] at this;exact this.2)
 refine ag.intro J8 (by simp[F92]) ?_
 simp(disch:=try exact dI) only[F92,Val.pv_mk,push_cast,seval]
 refine aw ([(3,5,36,6)]) (fun m:Nat=>[(14,.pv (.int .i64 (m:Int)))]) (fun m=>[(1,.cells 36 true [.pv (.int .i64 k),.pv (.int .i64 i),.pv (.int .i64 s),.pv (.str t),.olist 2 6 ((l.take m).map Val.pv),.pv .nils])]) (fun m=>m≤l.length) (fun m=>l.length - m) (0) ?_;intro e0 σ0 n0 h0;simp(disch:=try exact dI) only[push_cast,seval] at h0;obtain⟨rfl,rfl,rfl⟩:=h0;refine⟨?_,?_,?_⟩
 ·simp(disch:=try exact dI) only[push_cast,seval]
 ·omega
 ·intro m hm
  by_cases hlt:m<l.length
  ·have hltI:(m:Int)<l.length:=by omega
   obtain⟨x,hx⟩:∃ x,l[m]? = some x:=⟨_,List.getElem?_eq_getElem hlt⟩
   have hts:=aI hx
   have hlt2:(l.take m).length=m:=by rw[List.length_take];omega
   have hcall:=hl x (List.mem_of_getElem? hx)
   obtain⟨w1,w2,w3,w4,w5,w6⟩:=x
   rw[Val.pv_mk] at hcall
   simp(disch:=try exact dI) only[hx,Val.pv_mk,push_cast,seval]
   refine aA hcall rfl ?_
   simp(disch:=try exact dI) only[hlt2,push_cast,seval]
   exact⟨m+1,aT (by simp(disch:=try exact dI) only[hts,List.map_append,Val.pv_mk,push_cast,seval]),by omega,by omega⟩
  ·have hltI:¬ (m:Int)<l.length:=by omega
   have hle:l.take m=l:=List.take_of_length_le (by omega)
   simp(disch:=try exact dI) only[hle,push_cast,seval]
   refine aw ([(3,6,60,7)]) (fun m:Nat=>[(29,.pv (.int .i64 (m:Int)))]) (fun m=>[(1,.cells 36 true [.pv (.int .i64 k),.pv (.int .i64 i),.pv (.int .i64 s),.pv (.str t),.olist 2 6 (l.map Val.pv),.olist 3 7 ((f.take m).map Fld.pv)])]) (fun m=>m≤f.length) (fun m=>f.length - m) (0) ?_;intro e0 σ0 n0 h0;simp(disch:=try exact dI) only[push_cast,seval] at h0;obtain⟨rfl,rfl,rfl⟩:=h0;refine⟨?_,?_,?_⟩
   ·simp(disch:=try exact dI) only[push_cast,seval]
   ·omega
   ·intro m hm
    by_cases hlt:m<f.length
    ·have hltI:(m:Int)<f.length:=by omega
     obtain⟨⟨a,v⟩,hx⟩:∃ x,f[m]? = some x:=⟨_,List.getElem?_eq_getElem hlt⟩
     have hts:=aI hx
     have hlt2:(f.take m).length=m:=by rw[List.length_take];omega
     have hcall:=hf a v (List.mem_of_getElem? hx)
     obtain⟨w1,w2,w3,w4,w5,w6⟩:=v
     rw[Val.pv_mk] at hcall
     simp(disch:=try exact dI) only[hx,Fld.pv_mk,Val.pv_mk,push_cast,seval]
     refine aA hcall rfl ?_
     simp(disch:=try exact dI) only[hlt2,push_cast,seval]
     exact⟨m+1,aT (by simp(disch:=try exact dI) only[hts,List.map_append,Fld.pv_mk,Val.pv_mk,push_cast,seval]),by omega,by omega⟩
    ·have hltI:¬ (m:Int)<f.length:=by omega
     have hle:f.take m=f:=List.take_of_length_le (by omega)
     simp(disch:=try exact dI) only[hle,push_cast,seval]
end Go.Proofs.YtbojpfpliibfbaaGreatDoor
namespace Go.Proofs.YtbojpfpliibfbaaGreatDoor
open Go Go.Ab
attribute [local irreducible] vc
theorem we (l:List TFd)(g:Nat)(cs:List PV)(q:TFd→Bool)(hq:∀ x∈l,ag Tryz.prog aD g (x.pv::cs) (.bool (q x)))(hl:l.length≤9000000000000) :
  ag Tryz.prog aD 193 [.list (l.map TFd.pv),.clo g [] cs] (.int .i64 (dy q l 0)):=by
 refine ag.intro yc (by simp[KU]) ?_
 simp(disch:=try exact dI) only[KU,push_cast,seval]
 refine aw ([]) (fun m:Nat=>[(8,.pv (.int .i64 (m:Int)))]) (fun m=>[]) (fun m=>m≤l.length∧dy q l 0=dy q (l.drop m) m) (fun m=>l.length - m) (0) ?_;intro e0 σ0 n0 h0;simp(disch:=try exact dI) only[push_cast,seval] at h0;obtain⟨rfl,rfl,rfl⟩:=h0;refine⟨?_,?_,?_⟩
 ·simp(disch:=try exact dI) only[push_cast,seval]
 ·exact⟨by omega,by simp⟩
 ·rintro m ⟨hm,he⟩
  by_cases hlt:m<l.length
  ·have hltI:(m:Int)<l.length:=by omega
   obtain⟨x,hx⟩:∃ x,l[m]? = some x:=⟨_,List.getElem?_eq_getElem hlt⟩
   have hcall:=hq x (List.mem_of_getElem? hx)
   simp(disch:=try exact dI) only[hx,TFd.cells_len,TFd.isAgg,push_cast,seval]
   refine ab.pure hcall (by exact oN (x.pv::cs)) ?_
   cases hqx:q x with
   | true=>
     rw[he,dn hx hqx]
     simp(disch:=try exact dI) only[push_cast,seval]
   | false=>
     rw[cl hx hqx] at he
     simp(disch:=try exact dI) only[push_cast,seval]
     exact⟨m+1,aT qsZ,⟨by omega,he⟩,by omega⟩
  ·have hltI:¬ (m:Int)<l.length:=by omega
   rw[he,dp hlt]
   simp(disch:=try exact dI) only[push_cast,seval]
theorem j1 (l:List TFd)(g:Nat)(cs:List PV)(q:TFd→Bool)(hq:∀ x∈l,ag Tryz.prog aD g (x.pv::cs) (.bool (q x)))(hl:l.length≤9000000000000) :
  ag Tryz.prog aD 129 [.list (l.map TFd.pv),.clo g [] cs] (.bool (l.any q)):=by
 have h94:=we l g cs q hq hl
 have hfa:=dS (p:=q) l
 refine ag.intro ym (by simp[Ht]) ?_
 rcases bB (p:=q) l 0 with ⟨h1,h2⟩ | ⟨k,x,h1,h2,h3⟩
 ·rw[h2] at h94
  rw[h1] at hfa
  rw[← hfa]
  simp(disch:=try exact dI) only[Ht,push_cast,seval]
  refine ab.pure h94 rfl ?_
  simp(disch:=try exact dI) only[push_cast,seval]
  exact .refl _
 ·rw[h3] at h94
  rw[h2] at hfa
  rw[← hfa]
  have hk:(0:Int)≤((0+k:Nat):Int):=by omega
  generalize ((0+k:Nat):Int)=z at *
  simp(disch:=try exact dI) only[Ht,push_cast,seval]
  refine ab.pure h94 rfl ?_
  simp(disch:=try exact dI) only[push_cast,seval]
  exact .refl _
def gF (f:TFd):Bool:=decide (f.typ.kind<1)||decide (7<f.typ.kind)
theorem Jn (f:TFd):ag Tryz.prog aD 130 [f.pv] (.bool (gF f)):=by
 obtain⟨a,b,c,⟨k,m,n,s,w,e,fs⟩,d⟩:=f
 refine ag.intro Hs (by simp[K6]) ?_
 simp only[gF,TFd.typ,Typ.kind]
 by_cases h1:k<1
 ·simp(disch:=try exact dI) only[K6,TFd.pv_mk,Typ.pv_mk,push_cast,seval]
  simp[h1]
 ·by_cases h2:7<k
  ·simp(disch:=try exact dI) only[K6,TFd.pv_mk,Typ.pv_mk,push_cast,seval]
   simp[h1,h2]
  ·simp(disch:=try exact dI) only[K6,TFd.pv_mk,Typ.pv_mk,push_cast,seval]
   simp[h1,h2]
def e5:Typ→Bool
 | .mk k _ _ _ _ _ f=>decide (k=9)&&(decide (0<f.length)&&!(f.any gF))
theorem I7 (t:Typ)(h:t.fields.length≤9000000000000):ag Tryz.prog aD 74 [t.pv] (.bool (e5 t)):=by
 obtain⟨k,m,n,s,w,e,f⟩:=t
 simp only[Typ.fields] at h
 have h64:=j1 f 130 [] gF (fun x _=>Jn x) (by omega)
 refine ag.intro Kh (by simp[F74]) ?_
 simp only[e5]
 by_cases h1:k=9
 ·by_cases h2:0<f.length
  ·have h2I:(0:Int)<f.length:=by omega
   simp(disch:=try exact dI) only[F74,Typ.pv_mk,h1,push_cast,seval]
   refine ab.pure h64 rfl ?_
   simp(disch:=try exact dI) only[push_cast,seval]
  ·have h2I:¬ (0:Int)<f.length:=by omega
   simp(disch:=try exact dI) only[F74,Typ.pv_mk,h1,push_cast,seval]
 ·simp(disch:=try exact dI) only[F74,Typ.pv_mk,h1,push_cast,seval]
end Go.Proofs.YtbojpfpliibfbaaGreatDoor
namespace Go.Proofs.YtbojpfpliibfbaaGreatDoor
open Go Go.Ab
attribute [local irreducible] vc
def named (name:List UInt8)(x:TFd):Bool:=decide (x.name=name)
def cG (name:List UInt8)(x:Fld):Bool:=decide (x.name=name)
def ju:TFd:=.mk 0 [] 0 (.mk 0 0 0 0 [] [] []) []
def Dy:Val:=.mk 0 0 0 [] [] []
def tfR (o:Option TFd):PV:=.tup [(o.getD ju).pv,.bool o.isSome]
def vlR (o:Option Val):PV:=.tup [(o.getD Dy).pv,.bool o.isSome]
theorem BF (l:List (List UInt8))(s:List UInt8)(h:l.length≤9000000000000):ag Tryz.prog aD 131 [.list (l.map PV.str),.str s] (.int .i64 (dy (fun x=>decide (x=s)) l 0)):=by
 refine ag.intro Hr (by simp[Ni]) ?_
 generalize hR:dy (fun x=>decide (x=s)) l 0=R
 simp(disch:=try exact dI) only[Ni,push_cast,seval]
 refine aw ([]) (fun m:Nat=>[(8,.pv (.int .i64 (m:Int)))]) (fun m=>[]) (fun m=>m≤l.length∧R=dy (fun x=>decide (x=s)) (l.drop m) m) (fun m=>l.length - m) (0) ?_;intro e0 σ0 n0 h0;simp(disch:=try exact dI) only[push_cast,seval] at h0;obtain⟨rfl,rfl,rfl⟩:=h0;refine⟨?_,?_,?_⟩
 ·simp(disch:=try exact dI) only[push_cast,seval]
 ·exact⟨by omega,hR.symm⟩
 ·rintro i ⟨hi,he⟩
  by_cases hlt:i<l.length
  ·have hltI:(i:Int)<l.length:=by omega
   obtain⟨x,hx⟩:∃ x,l[i]? = some x:=⟨_,List.getElem?_eq_getElem hlt⟩
   by_cases hn:s=x
   ·rw[he,dn hx (by simp[hn])]
    simp(disch:=try exact dI) only[hx,hn,push_cast,seval]
   ·rw[cl hx (by simp;exact fun h=>hn h.symm)] at he
    simp(disch:=try exact dI) only[hx,hn,push_cast,seval]
    exact⟨i+1,aT qsZ,⟨by omega,he⟩,by omega⟩
  ·have hltI:¬ (i:Int)<l.length:=by omega
   rw[he,dp hlt]
   simp(disch:=try exact dI) only[push_cast,seval]
theorem j0 (l:List (List UInt8))(s:List UInt8)(h:l.length≤9000000000000):ag Tryz.prog aD 75 [.list (l.map PV.str),.str s] (.bool (l.any fun x=>decide (x=s))):=by
 have h111:=BF l s h
 have hfa:=dS (p:=fun x=>decide (x=s)) l
 refine ag.intro Kg (by simp[F75]) ?_
 rcases bB (p:=fun x=>decide (x=s)) l 0 with ⟨h1,h2⟩ | ⟨k,x,h1,h2,h3⟩
 ·rw[h2] at h111
  rw[h1] at hfa
  rw[← hfa]
  simp(disch:=try exact dI) only[F75,push_cast,seval]
  refine ab.pure h111 rfl ?_
  simp(disch:=try exact dI) only[push_cast,seval]
  exact .refl _
 ·rw[h3] at h111
  rw[h2] at hfa
  rw[← hfa]
  have hk:(0:Int)≤((0+k:Nat):Int):=by omega
  generalize ((0+k:Nat):Int)=z at *
  simp(disch:=try exact dI) only[F75,push_cast,seval]
  refine ab.pure h111 rfl ?_
  simp(disch:=try exact dI) only[push_cast,seval]
  exact .refl _
theorem Jv (x:Fld)(name:List UInt8):ag Tryz.prog aD 146 [x.pv,.eptr [.str name] 0 0] (.bool (cG name x)):=by
 obtain⟨a,⟨k,m,n,s,w,e⟩⟩:=x
 refine ag.intro Hm (by simp[Nd]) ?_
 simp(disch:=try exact dI) only[Nd,Fld.pv_mk,Val.pv_mk,cG,Fld.name,push_cast,seval]
 exact decide_eq_decide.2 Iff.rfl
theorem BD (l:List Fld)(g:Nat)(cs:List PV)(q:Fld→Bool)(hq:∀ x∈l,ag Tryz.prog aD g (x.pv::cs) (.bool (q x)))(hl:l.length≤9000000000000) :
  ag Tryz.prog aD 145 [.list (l.map Fld.pv),.clo g [] cs] (.int .i64 (dy q l 0)):=by
 refine ag.intro Hn (by simp[Nf]) ?_
 simp(disch:=try exact dI) only[Nf,push_cast,seval]
 refine aw ([]) (fun m:Nat=>[(8,.pv (.int .i64 (m:Int)))]) (fun m=>[]) (fun m=>m≤l.length∧dy q l 0=dy q (l.drop m) m) (fun m=>l.length - m) (0) ?_;intro e0 σ0 n0 h0;simp(disch:=try exact dI) only[push_cast,seval] at h0;obtain⟨rfl,rfl,rfl⟩:=h0;refine⟨?_,?_,?_⟩
 ·simp(disch:=try exact dI) only[push_cast,seval]
 ·exact⟨by omega,by simp⟩
 ·rintro m ⟨hm,he⟩
  by_cases hlt:m<l.length
  ·have hltI:(m:Int)<l.length:=by omega
   obtain⟨x,hx⟩:∃ x,l[m]? = some x:=⟨_,List.getElem?_eq_getElem hlt⟩
   have hcall:=hq x (List.mem_of_getElem? hx)
   simp(disch:=try exact dI) only[hx,Fld.cells_len,Fld.isAgg,push_cast,seval]
   refine ab.pure hcall (by exact oN (x.pv::cs)) ?_
   cases hqx:q x with
   | true=>
     rw[he,dn hx hqx]
     simp(disch:=try exact dI) only[push_cast,seval]
   | false=>
     rw[cl hx hqx] at he
     simp(disch:=try exact dI) only[push_cast,seval]
     exact⟨m+1,aT qsZ,⟨by omega,he⟩,by omega⟩
  ·have hltI:¬ (m:Int)<l.length:=by omega
   rw[he,dp hlt]
   simp(disch:=try exact dI) only[push_cast,seval]
theorem BB (v:Val)(name:List UInt8)(h:v.fields.length≤9000000000000):ag Tryz.prog aD 91 [v.pv,.str name] (.int .i64 (dy (cG name) v.fields 0)):=by
 obtain⟨k,i,s,t,l,f⟩:=v
 simp only[Val.fields] at h ⊢
 have h117:=BD f 146 [.eptr [.str name] 0 0] (cG name) (fun x _=>Jv x name) (by omega)
 refine ag.intro Ka (by simp[F91]) ?_
 simp(disch:=try exact dI) only[F91,Val.pv_mk,push_cast,seval]
 refine ab.pure h117 rfl ?_
 simp(disch:=try exact dI) only[push_cast,seval]
theorem BZ (v:Val)(name:List UInt8)(hv:v.ok)(hk:v.kind=9)(h:v.fields.length≤9000000000000):ag Tryz.prog aD 44 [v.pv,.str name] (vlR ((v.fields.find? (cG name)).map Fld.value)):=by
 have h127:=BB v name h
 obtain⟨k,i,s,t,l,f⟩:=v
 rw[Val.ok_mk] at hv
 simp only[Val.fields,Val.kind] at h hk h127 ⊢
 rw[Val.pv_mk] at h127
 refine ag.intro Kr (by simp[F44]) ?_
 rcases bB (p:=cG name) f 0 with ⟨h1,h2⟩ | ⟨i',x,h1,h2,h3⟩
 ·rw[h1]
  rw[h2] at h127
  simp(disch:=try exact dI) only[F44,Val.pv_mk,push_cast,seval]
  refine ab.pure h127 rfl ?_
  simp(disch:=try exact dI) only[hk,vlR,Option.map_none,Option.getD_none,Option.isSome_none,Dy,Val.pv_mk,push_cast,seval]
 ·rw[h2]
  rw[h3,Nat.zero_add] at h127
  have hxo:=hv.2.2.2.2.2.2.2 x (List.mem_of_getElem? h1)
  obtain⟨x1,x2⟩:=x
  rw[Fld.ok_mk] at hxo
  have hcl:=mr _ x2 (Nat.lt_succ_self _) hxo.2
  obtain⟨y1,y2,y3,y4,y5,y6⟩:=x2
  rw[Val.pv_mk] at hcl
  have hi:¬ (i':Int)<0:=by omega
  simp(disch:=try exact dI) only[F44,Val.pv_mk,push_cast,seval]
  refine ab.pure h127 rfl ?_
  simp(disch:=try exact dI) only[h1,hk,Fld.pv_mk,Val.pv_mk,push_cast,seval]
  refine ab.pure hcl rfl ?_
  simp(disch:=try exact dI) only[vlR,Option.map_some,Fld.value,Option.getD_some,Option.isSome_some,Val.pv_mk,push_cast,seval]
end Go.Proofs.YtbojpfpliibfbaaGreatDoor

/- A part of the proof for FixedwidthRefusesCardSaid. -/
import Derived.Test.YtedanlflegfomaaGreatDoorRefGSh
import Derived.Test.YtedanlflegfomaaGreatDoorRefF
import Derived.Test.YtedanlflegfomaaGreatDoorRefGD2
import Derived.Test.YtedanlflegfomaaGreatDoorCore5
set_option maxRecDepth 100000
set_option linter.unusedVariables false
namespace Go.Proofs.YtedanlflegfomaaGreatDoor
open Go Go.Ab
def eqL (p:PV→PV→Bool):List PV→List PV→Bool
 | [],[]=>true
 | x::r,y::q=>p x y&&eqL p r q
 | _,_=>false
def eqP:Nat→PV→PV→Bool
 | n+1,.int k a,.int k' b=>decide (k=k')&&decide (a=b)
 | n+1,.str a,.str b=>decide (a=b)
 | n+1,.nils,.nils=>true
 | n+1,.agg a,.agg b=>eqL (eqP n) a b
 | n+1,.list a,.list b=>eqL (eqP n) a b
 | _,_,_=>false
theorem vm {p:PV→PV→Bool}(hp:∀ x y,p x y=true→x=y):∀ a b,eqL p a b=true→a=b
 | [],[],_=>rfl
 | x::r,y::q,h=>by
   simp only[eqL,Bool.and_eq_true] at h
   rw[hp x y h.1,vm hp r q h.2]
 | [],y::q,h=>by simp[eqL] at h
 | x::r,[],h=>by simp[eqL] at h
theorem kV:∀ n x y,eqP n x y=true→x=y
 | 0,x,y,h=>by simp[eqP] at h
 | n+1,x,y,h=>by
   unfold eqP at h
   split at h
   ·simp only[Bool.and_eq_true,decide_eq_true_eq] at h;rw[h.1,h.2]
   ·simp only[decide_eq_true_eq] at h;rw[h]
   ·rfl
   ·rw[vm (kV _) _ _ h]
   ·rw[vm (kV _) _ _ h]
   ·cases h
def Gb:List PV:=[.agg [.int .i64 1,.str [105,100],.int .i64 1,.int .i64 2,.int .i64 0,.int .i64 999,.int .i64 0,.nils,.nils,.nils,.nils],.agg [.int .i64 2,.str [110,97,109,101],.int .i64 2,.int .i64 4,.int .i64 1,.int .i64 5,.int .i64 0,.nils,.nils,.nils,.nils],.agg [.int .i64 3,.str [100,97,121],.int .i64 1,.int .i64 6,.int .i64 0,.int .i64 30000,.int .i64 0,.nils,.nils,.nils,.nils]]
def HX:PV:=.agg [.int .i64 9,.int .i64 0,.int .i64 0,.int .i64 0,.nils,.nils,.list Gb]
def JK:List PV:=[.agg [.str [105,100],.int .i64 2,.int .i64 7,.int .i64 0,.str [],.nils,.nils],.agg [.str [110,97,109,101],.int .i64 4,.int .i64 0,.int .i64 0,.str [97,98],.nils,.nils],.agg [.str [100,97,121],.int .i64 6,.int .i64 20773,.int .i64 0,.str [],.nils,.nils]]
def Ga:PV:=.agg [.int .i64 9,.int .i64 0,.int .i64 0,.str [],.nils,.list [.agg [.str [100,97,121],.int .i64 6,.int .i64 20773,.int .i64 0,.str [],.nils,.nils],.agg [.str [105,100],.int .i64 2,.int .i64 7,.int .i64 0,.str [],.nils,.nils],.agg [.str [110,97,109,101],.int .i64 4,.int .i64 0,.int .i64 0,.str [97,98],.nils,.nils]]]
def Da:PV:=.str [32,32,55,97,98,32,32,32,50,48,50,54,45,49,49,45,49,54]
def EU:PV:=.list [.int .i64 3,.int .i64 5,.int .i64 10]
def HS (f:Nat)(ps:List PV):Option PV:=
 match f with
 | 102=>match ps with
   | [.int .i64 n]=>if -9223372036854775808≤n∧n≤9223372036854775807 then some (.str (eh n)) else none
   | _=>none
 | 89=>match ps with
   | [.str a,.str b]=>some (.int .i64 (Lib.compareBytes a b))
   | _=>none
 | 161=>match ps with
   | [.str a]=>some (.bool (Lib.validD a))
   | _=>none
 | 25=>match ps with
   | [.str a,.int .i64 n]=>if 0≤n∧n≤9223372036854775807∧a.length*n.toNat≤140737488355328 then some (.str (Lib.repeatL a n.toNat)) else none
   | _=>none
 | _=>none
theorem cR:∀ f ps r,HS f ps=some r→aq Tryz.prog aA f ps r:=by
 intro f ps r h
 unfold HS at h
 split at h
 ·split at h
  ·split at h
   ·rename_i hh;cases h;exact uF _ hh.1 hh.2
   ·cases h
  ·cases h
 ·split at h
  ·cases h;exact qM _ _
  ·cases h
 ·split at h
  ·cases h;exact dV _
  ·cases h
 ·split at h
  ·split at h
   ·rename_i hh;cases h;exact jW _ _ hh.1 hh.2.1 hh.2.2
   ·cases h
  ·cases h
 ·cases h
noncomputable def gFn (p:Nat×List Nat):TabRow:=⟨p.1,p.2,(cFn Tryz.prog p.2 p.1).getD ⟨0,[],.skip⟩⟩
theorem eo {l:List (Nat×List Nat)}(h:(l.all fun p=>(cFn Tryz.prog p.2 p.1).isSome)=true):∀ r∈l.map gFn,cFn Tryz.prog r.muts r.f=some r.fn:=by
 intro r hr
 obtain⟨p,hp,rfl⟩:=List.mem_map.1 hr
 have h:=List.all_eq_true.1 h p hp
 simp only[gFn]
 cases h':cFn Tryz.prog p.2 p.1 with
 | some x=>rfl
 | none=>rw[h'] at h;cases h
def su:List (Nat×List Nat):=[(7,[]),(8,[]),(20,[]),(21,[]),(22,[]),(23,[]),(24,[]),(26,[14]),(27,[]),(28,[]),(29,[]),(38,[]),(40,[33]),(48,[]),(49,[]),(50,[]),(51,[]),(54,[]),(55,[]),(56,[]),(58,[]),(60,[]),(61,[]),(64,[]),(65,[]),(66,[]),(67,[]),(68,[]),(73,[19]),(81,[]),(82,[]),(83,[]),(84,[]),(85,[]),(86,[]),(87,[]),(88,[]),(95,[]),(96,[]),(98,[]),(100,[]),(101,[]),(103,[]),(104,[]),(105,[]),(106,[]),(107,[]),(108,[]),(110,[]),(111,[]),(112,[]),(113,[]),(116,[]),(121,[]),(125,[]),(129,[]),(130,[]),(131,[]),(133,[]),(135,[]),(136,[]),(142,[]),(143,[]),(144,[]),(145,[]),(147,[]),(148,[]),(149,[]),(150,[]),(151,[]),(152,[]),(160,[44]),(164,[]),(165,[]),(166,[]),(167,[]),(169,[]),(178,[]),(182,[]),(183,[]),(186,[]),(187,[]),(188,[]),(190,[]),(194,[]),(195,[12]),(197,[]),(198,[]),(199,[]),(212,[]),(213,[]),(215,[]),(224,[]),(225,[]),(247,[]),(252,[])]
theorem ep:(su.all fun p=>(cFn Tryz.prog p.2 p.1).isSome)=true:=by kernel_rfl
theorem GA:aq Tryz.prog aA 38 [.str [32,32,55],Gb.getD 0 .undef] (.tup [.agg [.int .i64 2,.int .i64 7,.int .i64 0,.str [],.nils,.nils],.int .i64 0]):=aq.of_ex (m:=5000) (n:=60) (eo ep) cR (by kernel_rfl)
theorem Gz:aq Tryz.prog aA 38 [.str [97,98,32,32,32],Gb.getD 1 .undef] (.tup [.agg [.int .i64 4,.int .i64 0,.int .i64 0,.str [97,98],.nils,.nils],.int .i64 0]):=aq.of_ex (m:=5000) (n:=60) (eo ep) cR (by kernel_rfl)
theorem Gy:aq Tryz.prog aA 38 [.str [50,48,50,54,45,49,49,45,49,54],Gb.getD 2 .undef] (.tup [.agg [.int .i64 6,.int .i64 20773,.int .i64 0,.str [],.nils,.nils],.int .i64 0]):=aq.of_ex (m:=5000) (n:=60) (eo ep) cR (by kernel_rfl)
theorem xV:aq Tryz.prog aA 40 [.list JK] Ga:=aq.of_ex (m:=5000) (n:=60) (eo ep) cR (by kernel_rfl)
theorem Fw:aq Tryz.prog aA 20 [HX,EU] (.int .i64 0):=aq.of_ex (m:=5000) (n:=60) (eo ep) cR (by kernel_rfl)
end Go.Proofs.YtedanlflegfomaaGreatDoor
set_option maxRecDepth 100000
set_option linter.unusedVariables false
set_option linter.unusedSimpArgs false
namespace Go.Proofs.YtedanlflegfomaaGreatDoor
open Go Go.Ab
attribute [local irreducible] vc
theorem Df (l:List TFd)(g:Nat)(cs:List PV)(q:TFd→Bool)(hq:∀ x∈l,aq Tryz.prog aA g (x.pv::cs) (.bool (q x)))(hl:l.length≤1000000000) :
  aq Tryz.prog aA 148 [.list (l.map TFd.pv),.clo g [] cs] (.int .i64 (fi q l 0)):=by
 refine aq.intro Em (by simp[Jg]) ?_
 simp(disch:=first|exact dI|fail) only[Jg,push_cast,seval]
 refine az ([]) (fun m:Nat=>[(8,.pv (.int .i64 (m:Int)))]) (fun m=>[]) (fun m=>m≤l.length∧fi q l 0=fi q (l.drop m) m) (fun m=>l.length - m) (0) ?_;intro e0 σ0 n0 h0;simp(disch:=first|exact dI|fail) only[push_cast,seval] at h0;obtain⟨rfl,rfl,rfl⟩:=h0;refine⟨?_,?_,?_⟩
 ·simp(disch:=first|exact dI|fail) only[push_cast,seval]
 ·exact⟨by omega,by simp⟩
 ·rintro m ⟨hm,he⟩
  by_cases hlt:m<l.length
  ·have hltI:(m:Int)<l.length:=by omega
   obtain⟨x,hx⟩:∃ x,l[m]? = some x:=⟨_,List.getElem?_eq_getElem hlt⟩
   have hcall:=hq x (List.mem_of_getElem? hx)
   simp(disch:=first|exact dI|fail) only[hx,TFd.cells_len,TFd.isAgg,push_cast,seval]
   refine ae.pure hcall (by exact nE (x.pv::cs)) ?_
   cases hqx:q x with
   | true=>
     rw[he,gI hx hqx]
     simp(disch:=first|exact dI|fail) only[push_cast,seval]
   | false=>
     rw[eF hx hqx] at he
     simp(disch:=first|exact dI|fail) only[push_cast,seval]
     exact⟨m+1,bl (by simp(disch:=first|exact dI|fail) only[push_cast,seval]),⟨by omega,he⟩,by omega⟩
  ·have hltI:¬ (m:Int)<l.length:=by omega
   rw[he,gJ hlt]
   simp(disch:=first|exact dI|fail) only[push_cast,seval]
end Go.Proofs.YtedanlflegfomaaGreatDoor
set_option maxRecDepth 100000
set_option linter.unusedVariables false
set_option linter.unusedSimpArgs false
namespace Go.Proofs.YtedanlflegfomaaGreatDoor
open Go Go.Ab
set_option maxHeartbeats 4000000 in
theorem vH:∀ (n:Nat) (v:Val),SizeOf.sizeOf v<n→v.ok→aq Tryz.prog aA 65 [v.pv] v.pv:=by
 intro n
 induction n with
 | zero=>intro v h;omega
 | succ n ih=>
 intro v hn hv
 obtain⟨k,i,s,t,l,f⟩:=v
 rw[Val.ok_mk] at hv
 obtain⟨h1,h2,h3,h4,h5,h7,h6,h8⟩:=hv
 simp only[Val.mk.sizeOf_spec] at hn
 have hl:∀ x∈l,aq Tryz.prog aA 65 [x.pv] x.pv:=fun x hx=>ih x (by have:=List.sizeOf_lt_of_mem hx;omega) (h7 x hx)
 have hf:∀ a v,Fld.mk a v∈f→aq Tryz.prog aA 65 [v.pv] v.pv:=fun a v hx=>ih v (by have:=List.sizeOf_lt_of_mem hx;simp only[Fld.mk.sizeOf_spec] at this;omega) (by have:=h8 _ hx;rw[Fld.ok_mk] at this;exact this.2)
 refine aq.intro He (by simp[F65]) ?_
 simp(disch:=first|exact dI|fail) only[F65,Val.pv_mk,push_cast,seval]
 refine az ([(3,5,32,6)]) (fun m:Nat=>[(14,.pv (.int .i64 (m:Int)))]) (fun m=>[(1,.cells 32 true [.pv (.int .i64 k),.pv (.int .i64 i),.pv (.int .i64 s),.pv (.str t),.olist 2 6 ((l.take m).map Val.pv),.pv .nils])]) (fun m=>m≤l.length) (fun m=>l.length - m) (0) ?_;intro e0 σ0 n0 h0;simp(disch:=first|exact dI|fail) only[push_cast,seval] at h0;obtain⟨rfl,rfl,rfl⟩:=h0;refine⟨?_,?_,?_⟩
 ·simp(disch:=first|exact dI|fail) only[push_cast,seval]
 ·omega
 ·intro m hm
  by_cases hlt:m<l.length
  ·have hltI:(m:Int)<l.length:=by omega
   obtain⟨x,hx⟩:∃ x,l[m]? = some x:=⟨_,List.getElem?_eq_getElem hlt⟩
   have hts:=a8 hx
   have hlt2:(l.take m).length=m:=by rw[List.length_take];omega
   have hcall:=hl x (List.mem_of_getElem? hx)
   obtain⟨w1,w2,w3,w4,w5,w6⟩:=x
   rw[Val.pv_mk] at hcall
   simp(disch:=first|exact dI|fail) only[hx,Val.pv_mk,push_cast,seval]
   refine au hcall rfl ?_
   simp(disch:=first|exact dI|fail) only[hlt2,push_cast,seval]
   exact⟨m+1,bl (by simp(disch:=first|exact dI|fail) only[hts,List.map_append,Val.pv_mk,push_cast,seval]),by omega,by omega⟩
  ·have hltI:¬ (m:Int)<l.length:=by omega
   have hle:l.take m=l:=List.take_of_length_le (by omega)
   simp(disch:=first|exact dI|fail) only[hle,push_cast,seval]
   refine az ([(3,6,34,7)]) (fun m:Nat=>[(29,.pv (.int .i64 (m:Int)))]) (fun m=>[(1,.cells 32 true [.pv (.int .i64 k),.pv (.int .i64 i),.pv (.int .i64 s),.pv (.str t),.olist 2 6 (l.map Val.pv),.olist 3 7 ((f.take m).map Fld.pv)])]) (fun m=>m≤f.length) (fun m=>f.length - m) (0) ?_;intro e0 σ0 n0 h0;simp(disch:=first|exact dI|fail) only[push_cast,seval] at h0;obtain⟨rfl,rfl,rfl⟩:=h0;refine⟨?_,?_,?_⟩
   ·simp(disch:=first|exact dI|fail) only[push_cast,seval]
   ·omega
   ·intro m hm
    by_cases hlt:m<f.length
    ·have hltI:(m:Int)<f.length:=by omega
     obtain⟨⟨a,v⟩,hx⟩:∃ x,f[m]? = some x:=⟨_,List.getElem?_eq_getElem hlt⟩
     have hts:=a8 hx
     have hlt2:(f.take m).length=m:=by rw[List.length_take];omega
     have hcall:=hf a v (List.mem_of_getElem? hx)
     obtain⟨w1,w2,w3,w4,w5,w6⟩:=v
     rw[Val.pv_mk] at hcall
     simp(disch:=first|exact dI|fail) only[hx,Fld.pv_mk,Val.pv_mk,push_cast,seval]
     refine au hcall rfl ?_
     simp(disch:=first|exact dI|fail) only[hlt2,push_cast,seval]
     exact⟨m+1,bl (by simp(disch:=first|exact dI|fail) only[hts,List.map_append,Fld.pv_mk,Val.pv_mk,push_cast,seval]),by omega,by omega⟩
    ·have hltI:¬ (m:Int)<f.length:=by omega
     have hle:f.take m=f:=List.take_of_length_le (by omega)
     simp(disch:=first|exact dI|fail) only[hle,push_cast,seval]
end Go.Proofs.YtedanlflegfomaaGreatDoor

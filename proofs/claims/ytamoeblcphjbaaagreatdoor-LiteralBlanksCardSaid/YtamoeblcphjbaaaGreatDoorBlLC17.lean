/- A part. -/
import Derived.Test.YtamoeblcphjbaaaGreatDoorBlLC2
import Derived.Shelf.Strconv.Atoi
import Derived.Shelf.LaysM
import Derived.Shelf.Strconv.AtoiErr
import Derived.Test.YtamoeblcphjbaaaGreatDoorProg
set_option linter.unusedVariables false
set_option linter.unusedSimpArgs false
set_option maxRecDepth 100000
open Nat renaming pow_succ->Vq,mul_comm->Vm,lt_of_lt_of_le->UG,pow_le_pow_right->Vd
open List renaming length_append->Us,length->Vl,replicate->U4,take_length->U2
namespace Go.Proofs.YtamoeblcphjbaaaGreatDoor
open Go Go.Ab
attribute [local irreducible] vc
def IsN (n:Int)(sc:Nat):Prop:=-999999999999999<=n/\n<=999999999999999/\sc<=12
instance (n:Int) (sc:Nat):Decidable (IsN n sc):=by unfold IsN;infer_instance
def dl (a:Nat):Nat:=(cP 20 a).length
theorem Jt:∀ (f a:Nat),a<10 ^ f->0<f->1<=(cP f a).length/\a<10 ^ (cP f a).length
 | 0,a,_,h=>absurd h (by omega)
 | f+1,a,hf,_=>by
   rw[cP]
   by_cases h:a<10
   ·rw[if_pos h];simp;omega
   ·rw[if_neg h]
    have hf':a / 10<10 ^ f:=by rw[Vq] at hf;exact Nat.div_lt_of_lt_mul (by rw[Vm];exact hf)
    have h0:0<f:=by
     cases f with
     | zero=>simp at hf;omega
     | succ f=>omega
    have ih:=Jt f (a / 10) hf' h0
    rw[Us,List.length_cons,List.length_nil,Vq]
    omega
theorem tz {a:Nat}(h:a<10 ^ 15):1<=dl a/\dl a<=15/\a<10 ^ dl a:=by
 have h20:a<10 ^ 20:=UG h (Vd (by omega) (by omega))
 have h1:=Jt 20 a h20 (by omega)
 have h2:=congrArg Vl (fc 14 20 a h20 h (by omega))
 rw[Us,List.length_replicate,bG] at h2
 unfold dl
 exact⟨h1.1,by omega,h1.2⟩
theorem DP {a K:Nat}(h:a<10 ^ 15)(hK:dl a<=K):U4 (K - dl a) 48++cP 20 a=bQ K a:=by
 have h20:a<10 ^ 20:=UG h (Vd (by omega) (by omega))
 have hs:=tz h
 obtain⟨k,rfl⟩:∃ k,K=k+1:=⟨K - 1,by omega⟩
 exact fc k 20 a h20 (UG hs.2.2 (Vd (by omega) hK)) (by omega)
theorem gi (i:Nat):∀ (j a:Nat),bQ (i+j) a=bQ i (a / 10 ^ j)++bQ j a
 | 0,a=>by simp[bQ]
 | j+1,a=>by
   rw[<- Nat.add_assoc,bQ,gi i j (a / 10),bQ,List.append_assoc,Nat.div_div_eq_div_mul,Vq,Vm 10]
def nL (n:Int)(sc:Nat):List UInt8:=
 (if n<0 then [45] else [])++(bQ (max (dl n.natAbs) (sc+1) - sc) (n.natAbs / 10 ^ sc)++(if sc=0 then [] else 46::bQ sc n.natAbs))
theorem QD {n:Int}(h:-9223372036854775808<n)(h2:n<=9223372036854775807):au Tryz.prog aH 87 [.int .i64 n] (.int .i64 (n.natAbs:Int)):=by
 have e:max n (0 - n)=(n.natAbs:Int):=by omega
 refine au.intro Q87.2 (by simp[Q87]) ?_
 simp(disch:=try exact dI) only[Q87,e,push_cast,seval]
theorem D9 {n:Int}(h:-9223372036854775808<n)(h2:n<=9223372036854775807)(sc:Nat):au Tryz.prog aH 86 [.agg [.int .i64 n,.int .i64 (sc:Int)]] (.int .i64 (if IsN n sc then 0 else 2)):=by
 have ha:=QD h h2
 by_cases h1:(999999999999999:Int)<(n.natAbs:Int)
 ·rw[if_neg (by unfold IsN;omega)]
  refine au.intro Q86.2 (by simp[Q86]) ?_
  simp(disch:=try exact dI) only[Q86,push_cast,seval]
  refine ae.pure ha rfl ?_
  exact qsZ
 have h2:¬ n < -999999999999999:=by omega
 have h3:¬ (sc:Int)<0:=by omega
 by_cases h4:(12:Int)<(sc:Int)
 ·rw[if_neg (by unfold IsN;omega)]
  refine au.intro Q86.2 (by simp[Q86]) ?_
  simp(disch:=try exact dI) only[Q86,push_cast,seval]
  refine ae.pure ha rfl ?_
  exact qsZ
 ·rw[if_pos (by unfold IsN;omega)]
  refine au.intro Q86.2 (by simp[Q86]) ?_
  simp(disch:=try exact dI) only[Q86,push_cast,seval]
  refine ae.pure ha rfl ?_
  exact qsZ
theorem Az {n:Int}(h:-9223372036854775808<n)(h2:n<=9223372036854775807){sc:Nat}(hn:¬ IsN n sc):au Tryz.prog aH 42 [.agg [.int .i64 n,.int .i64 (sc:Int)]] (.tup [.str [],.int .i64 2]):=by
 have hc:=D9 h h2 sc
 rw[if_neg hn] at hc
 refine au.intro Q42.2 (by simp[Q42]) ?_
 simp(disch:=try exact dI) only[Q42,push_cast,seval]
 refine ae.pure hc rfl ?_
 exact qsZ
theorem Oa {n:Int}{sc:Nat}(hn:IsN n sc):au Tryz.prog aH 42 [.agg [.int .i64 n,.int .i64 (sc:Int)]] (.tup [.str (nL n sc),.int .i64 0]):=by
 obtain⟨hn1,hn2,hn3⟩:=hn
 have hc:=D9 (n:=n) (by omega) (by omega) sc
 rw[if_pos ⟨hn1,hn2,hn3⟩] at hc
 have ha:=QD (n:=n) (by omega) (by omega)
 have hi:=tg (n.natAbs:Int) (by omega) (by omega)
 have hlt:n.natAbs<10 ^ 15:=by simp;omega
 have hdl:=tz hlt
 have hL:=DP hlt (K:=max (dl n.natAbs) (sc+1)) (by omega)
 have hL2:=gi (max (dl n.natAbs) (sc+1) - sc) sc n.natAbs
 rw[show max (dl n.natAbs) (sc+1) - sc+sc=max (dl n.natAbs) (sc+1) by omega] at hL2
 have hr:=uz (sc+1 - dl n.natAbs) (by omega)
 rw[show max (dl n.natAbs) (sc+1) - dl n.natAbs=sc+1 - dl n.natAbs by omega] at hL
 have e1:gR (n.natAbs:Int)=cP 20 n.natAbs:=by unfold gR;rw[if_neg (by omega),Int.toNat_natCast]
 rw[e1] at hi
 have l1:=bG (max (dl n.natAbs) (sc+1) - sc) (n.natAbs / 10 ^ sc)
 have l2:=bG sc n.natAbs
 have l0:(cP 20 n.natAbs).length=dl n.natAbs:=rfl
 have lZ:(U4 (sc+1 - dl n.natAbs) (48:UInt8)).length=sc+1 - dl n.natAbs:=by simp
 unfold nL
 rw[hL2] at hL
 have hm:max (0:Int) ((sc:Int)+1 - ((dl n.natAbs:Nat):Int))=((sc+1 - dl n.natAbs:Nat):Int):=by omega
 rw[<- hm] at hr
 generalize bQ (max (dl n.natAbs) (sc+1) - sc) (n.natAbs / 10 ^ sc)=A at *
 generalize bQ sc n.natAbs=B at *
 generalize cP 20 n.natAbs=D at *
 generalize dl n.natAbs=k at *
 generalize U4 (sc+1 - k) (48:UInt8)=Z at *
 have lA:1<=A.length:=by omega
 clear hL2 e1 hlt
 by_cases hs:sc=0
 ·subst hs
  rw[if_pos rfl,List.append_nil]
  have hB:B=[]:=List.length_eq_zero_iff.1 l2
  have hDA:D=A:=by
   have hz:Z=[]:=by
    have:=congrArg Vl hL
    simp only[Us] at this
    exact List.length_eq_zero_iff.1 (by omega)
   rw[hz,hB] at hL
   simpa using hL
  subst hDA
  by_cases hneg:n<0
  ·rw[if_pos hneg]
   refine au.intro Q42.2 (by simp[Q42]) ?_
   simp(disch:=try exact dI) only[Q42,push_cast,seval]
   refine ae.pure hc rfl ?_
   refine zgZ ?_
   refine ae.pure ha rfl ?_
   refine zgZ ?_
   refine ae.pure hi rfl ?_
   exact qsZ
  ·rw[if_neg hneg]
   refine au.intro Q42.2 (by simp[Q42]) ?_
   simp(disch:=try exact dI) only[Q42,push_cast,seval]
   refine ae.pure hc rfl ?_
   refine zgZ ?_
   refine ae.pure ha rfl ?_
   refine zgZ ?_
   refine ae.pure hi rfl ?_
   exact qsZ
 ·rw[if_neg hs]
  have hsI:(0:Int)<(sc:Int):=by omega
  have el:((A.length:Int)+(B.length:Int)) - (sc:Int)=(A.length:Int):=by omega
  have et:(((A++B).length:Int) - (sc:Int)).toNat=A.length:=by rw[Us];omega
  have t1:(A++B).take A.length=A:=by simp
  have t2:(A++B).drop A.length=B:=by simp
  by_cases hneg:n<0
  ·rw[if_pos hneg]
   refine au.intro Q42.2 (by simp[Q42]) ?_
   simp(disch:=try exact dI) only[Q42,push_cast,seval]
   refine ae.pure hc rfl ?_
   refine zgZ ?_
   refine ae.pure ha rfl ?_
   refine zgZ ?_
   refine ae.pure hi rfl ?_
   simp(disch:=try exact dI) only[l0,push_cast,seval]
   refine ae.pure hr rfl ?_
   simp(disch:=try exact dI) only[hL,el,t1,t2,push_cast,seval]
   rw[et,U2,t1,t2]
  ·rw[if_neg hneg]
   refine au.intro Q42.2 (by simp[Q42]) ?_
   simp(disch:=try exact dI) only[Q42,push_cast,seval]
   refine ae.pure hc rfl ?_
   refine zgZ ?_
   refine ae.pure ha rfl ?_
   refine zgZ ?_
   refine ae.pure hi rfl ?_
   simp(disch:=try exact dI) only[l0,push_cast,seval]
   refine ae.pure hr rfl ?_
   simp(disch:=try exact dI) only[hL,el,t1,t2,push_cast,seval]
   rw[et,U2,t1,t2]
theorem Cc (i a:Nat):bQ (i+1) a=UInt8.ofNat (48+a / 10 ^ i % 10)::bQ i a:=by
 rw[Nat.add_comm,gi 1 i a]
 simp[bQ]
def rdS:Bool->Nat->Nat->List UInt8->Nat×Nat
 | _,v,c,[]=>(v,c)
 | p,v,c,b::r=>if isD b=true then rdS (p||decide (b=46)) (10*v+(b.toNat - 48)) (if (p||decide (b=46))=true then c+1 else c) r else rdS (p||decide (b=46)) v c r
def sgI (s:List UInt8)(v:Nat):Int:=if s.head? = some 45 then -(v:Int) else v
def aW (s:List UInt8):(Int×Nat)×Int:=
 if s=[] then ((0,0),4) else if 17<s.length then ((0,0),5) else
  if IsN (sgI s (rdS false 0 0 s).1) (rdS false 0 0 s).2/\nL (sgI s (rdS false 0 0 s).1) (rdS false 0 0 s).2=s then ((sgI s (rdS false 0 0 s).1,(rdS false 0 0 s).2),0) else ((0,0),13)
theorem vw (s:List UInt8)(c:Int):au Tryz.prog aH 206 [.str s,.int .u8 c] (.int .i64 (fA c.toNat.toUInt8 s 0)):=by
 generalize hq:fA c.toNat.toUInt8 s 0=q
 refine au.intro Nt (by simp[TE]) ?_
 simp(disch:=try exact dI) only[TE,po,pS,hq,push_cast,seval]
theorem ku (s:List UInt8)(c:UInt8):au Tryz.prog aH 159 [.str s,.int .u8 (c.toNat:Int)] (.int .i64 (fA c s 0)):=by
 have h22:=vw s (c.toNat:Int)
 rw[show ((c.toNat:Int)).toNat.toUInt8=c by simp] at h22
 generalize fA c s 0=q at *
 refine au.intro Ti.2 (by simp[Ti]) ?_
 simp(disch:=try exact dI) only[Ti,push_cast,seval]
 refine ae.pure h22 rfl ?_
 exact qsZ
end Go.Proofs.YtamoeblcphjbaaaGreatDoor
/-
 DERIVED: THE SHELF's CONTRACTS AT THIS DUMP,IN PLAIN WORDS (tools/lay-plain.mjs out of 'TryzC8.lean',which tools/lay-shelf.mjs wrote): THE SAME DECLARATIONS UNDER THE SAME NAMES: 'import','namespace','open','def','theorem' AND NOTHING ELSE: no command of the shelf's: FOR A HAND-IN. Each laying: the table of numbers ('.._ren') and one theorem,a field a fact of the dump's own or the kernel's comparison;each kA: ONE APPLICATION.
-/
namespace Go.Proofs
open Go.Shelf
def Tryz.lays172_ren:Go.Shelf.Ren:=⟨fun | 172=>185 | 244=>221 | 245=>222 | 247=>249 | 279=>250 | 280=>251 | 281=>252 | 282=>253 | 287=>270 | 316=>271 | 171=>66 | 205=>272 | 321=>278 | 322=>279 | 243=>147 | 246=>108 | 283=>176 | 284=>177 | 285=>178 | 286=>179 | 129=>215 | 317=>214 | 318=>216 | 319=>217 | 320=>218 | 337=>246 | 338=>247 | n=>n,fun | 9=>9 | 3=>3 | 75=>85 | 76=>87 | 4=>4 | 5=>5 | 167=>240 | 37=>37 | 0=>0 | 85=>241 | 2=>2 | 168=>243 | 53=>181 | 175=>258 | 46=>163 | 210=>261 | 127=>131 | 145=>272 | 143=>270 | 21=>21 | 171=>180 | 173=>184 | 212=>219 | 51=>206 | 20=>20 | 213=>220 | 232=>256 | 233=>257 | 80=>90 | n=>n,fun | 15=>6 | 16=>7 | 17=>3 | 18=>4 | 19=>5 | n=>n⟩
theorem Tryz.lays172:Go.Proofs.Lays.n172 Tryz.prog Tryz.lays172_ren:={
 mixed:=by kernel_rfl
 f129:=Tryz.func215.trans (congrArg some (by kernel_rfl))
 f171:=Tryz.func66.trans (congrArg some (by kernel_rfl))
 f172:=Tryz.func185.trans (congrArg some (by kernel_rfl))
 f205:=Tryz.func272.trans (congrArg some (by kernel_rfl))
 f243:=Tryz.func147.trans (congrArg some (by kernel_rfl))
 f244:=Tryz.func221.trans (congrArg some (by kernel_rfl))
 f245:=Tryz.func222.trans (congrArg some (by kernel_rfl))
 f246:=Tryz.func108.trans (congrArg some (by kernel_rfl))
 f247:=Tryz.func249.trans (congrArg some (by kernel_rfl))
 f279:=Tryz.func250.trans (congrArg some (by kernel_rfl))
 f280:=Tryz.func251.trans (congrArg some (by kernel_rfl))
 f281:=Tryz.func252.trans (congrArg some (by kernel_rfl))
 f282:=Tryz.func253.trans (congrArg some (by kernel_rfl))
 f283:=Tryz.func176.trans (congrArg some (by kernel_rfl))
 f284:=Tryz.func177.trans (congrArg some (by kernel_rfl))
 f285:=Tryz.func178.trans (congrArg some (by kernel_rfl))
 f286:=Tryz.func179.trans (congrArg some (by kernel_rfl))
 f287:=Tryz.func270.trans (congrArg some (by kernel_rfl))
 f316:=Tryz.func271.trans (congrArg some (by kernel_rfl))
 f317:=Tryz.func214.trans (congrArg some (by kernel_rfl))
 f318:=Tryz.func216.trans (congrArg some (by kernel_rfl))
 f319:=Tryz.func217.trans (congrArg some (by kernel_rfl))
 f320:=Tryz.func218.trans (congrArg some (by kernel_rfl))
 f321:=Tryz.func278.trans (congrArg some (by kernel_rfl))
 f322:=Tryz.func279.trans (congrArg some (by kernel_rfl))
 f337:=Tryz.func246.trans (congrArg some (by kernel_rfl))
 f338:=Tryz.func247.trans (congrArg some (by kernel_rfl))
 t0:=Tryz.underlying0
 a0:=Tryz.isAgg0
 z0:=Tryz.sizeOf0
 v0:=Tryz.zeroValue0
 t2:=Tryz.underlying2
 a2:=Tryz.isAgg2
 z2:=Tryz.sizeOf2
 v2:=Tryz.zeroValue2
 t3:=Tryz.underlying3
 a3:=Tryz.isAgg3
 z3:=Tryz.sizeOf3
 v3:=Tryz.zeroValue3
 t4:=Tryz.underlying4
 a4:=Tryz.isAgg4
 z4:=Tryz.sizeOf4
 v4:=Tryz.zeroValue4
 t5:=Tryz.underlying5
 a5:=Tryz.isAgg5
 z5:=Tryz.sizeOf5
 v5:=Tryz.zeroValue5
 t9:=Tryz.underlying9
 a9:=Tryz.isAgg9
 z9:=Tryz.sizeOf9
 v9:=Tryz.zeroValue9
 t20:=Tryz.underlying20
 a20:=Tryz.isAgg20
 z20:=Tryz.sizeOf20
 v20:=Tryz.zeroValue20
 t21:=Tryz.underlying21
 a21:=Tryz.isAgg21
 z21:=Tryz.sizeOf21
 v21:=Tryz.zeroValue21
 t37:=Tryz.underlying37
 a37:=Tryz.isAgg37
 z37:=Tryz.sizeOf37
 v37:=Tryz.zeroValue37
 t46:=Tryz.underlying163
 a46:=Tryz.isAgg163
 z46:=Tryz.sizeOf163
 v46:=Tryz.zeroValue163
 t51:=Tryz.underlying206
 a51:=Tryz.isAgg206
 z51:=Tryz.sizeOf206
 v51:=Tryz.zeroValue206
 t53:=Tryz.underlying181
 a53:=Tryz.isAgg181
 z53:=Tryz.sizeOf181
 v53:=Tryz.zeroValue181
 t75:=Tryz.underlying85
 a75:=Tryz.isAgg85
 z75:=Tryz.sizeOf85
 v75:=Tryz.zeroValue85
 t76:=Tryz.underlying87
 a76:=Tryz.isAgg87
 z76:=Tryz.sizeOf87
 v76:=Tryz.zeroValue87
 t85:=Tryz.underlying241
 a85:=Tryz.isAgg241
 z85:=Tryz.sizeOf241
 v85:=Tryz.zeroValue241
 t127:=Tryz.underlying131
 a127:=Tryz.isAgg131
 z127:=Tryz.sizeOf131
 v127:=Tryz.zeroValue131
 t143:=Tryz.underlying270
 a143:=Tryz.isAgg270
 z143:=Tryz.sizeOf270
 v143:=Tryz.zeroValue270
 t145:=Tryz.underlying272
 a145:=Tryz.isAgg272
 z145:=Tryz.sizeOf272
 v145:=Tryz.zeroValue272
 t167:=Tryz.underlying240
 a167:=Tryz.isAgg240
 z167:=Tryz.sizeOf240
 v167:=Tryz.zeroValue240
 t168:=Tryz.underlying243
 a168:=Tryz.isAgg243
 z168:=Tryz.sizeOf243
 v168:=Tryz.zeroValue243
 t171:=Tryz.underlying180
 a171:=Tryz.isAgg180
 z171:=Tryz.sizeOf180
 v171:=Tryz.zeroValue180
 t173:=Tryz.underlying184
 a173:=Tryz.isAgg184
 z173:=Tryz.sizeOf184
 v173:=Tryz.zeroValue184
 t175:=Tryz.underlying258
 a175:=Tryz.isAgg258
 z175:=Tryz.sizeOf258
 v175:=Tryz.zeroValue258
 t210:=Tryz.underlying261
 a210:=Tryz.isAgg261
 z210:=Tryz.sizeOf261
 v210:=Tryz.zeroValue261
 t212:=Tryz.underlying219
 a212:=Tryz.isAgg219
 z212:=Tryz.sizeOf219
 v212:=Tryz.zeroValue219
 t213:=Tryz.underlying220
 a213:=Tryz.isAgg220
 z213:=Tryz.sizeOf220
 t232:=Tryz.underlying256
 a232:=Tryz.isAgg256
 z232:=Tryz.sizeOf256
 v232:=Tryz.zeroValue256
 t233:=Tryz.underlying257
 a233:=Tryz.isAgg257
 z233:=Tryz.sizeOf257
 v233:=Tryz.zeroValue257
 g15:=by kernel_rfl
 g16:=by kernel_rfl
 g17:=by kernel_rfl
 g18:=by kernel_rfl
 g19:=by kernel_rfl }
def Tryz.laysC172_ren:Go.Shelf.Ren:=⟨fun | 172=>185 | 244=>221 | 245=>222 | 247=>249 | 279=>250 | 280=>251 | 281=>252 | 282=>253 | 287=>270 | 316=>271 | 171=>66 | 205=>272 | 321=>278 | 322=>279 | 243=>147 | 246=>108 | 283=>176 | 284=>177 | 285=>178 | 286=>179 | 129=>215 | 317=>214 | 318=>216 | 319=>217 | 320=>218 | 337=>246 | 338=>247 | n=>n,fun | 9=>9 | 3=>3 | 75=>85 | 76=>87 | 4=>4 | 5=>5 | 167=>240 | 37=>37 | 0=>0 | 85=>241 | 2=>2 | 168=>243 | 53=>181 | 175=>258 | 46=>163 | 210=>261 | 127=>131 | 145=>272 | 143=>270 | 21=>21 | 171=>180 | 173=>184 | 212=>219 | 51=>206 | 20=>20 | 213=>220 | 232=>256 | 233=>257 | 80=>90 | n=>n,fun | 15=>6 | 16=>7 | 17=>3 | 18=>4 | 19=>5 | n=>n⟩
theorem Tryz.laysC172:Go.Proofs.LaysC.n172 Tryz.prog Tryz.laysC172_ren:={
 mixed:=by kernel_rfl
 f129:=Tryz.func215.trans (congrArg some (by kernel_rfl))
 f171:=Tryz.func66.trans (congrArg some (by kernel_rfl))
 f172:=Tryz.func185.trans (congrArg some (by kernel_rfl))
 f205:=Tryz.func272.trans (congrArg some (by kernel_rfl))
 f243:=Tryz.func147.trans (congrArg some (by kernel_rfl))
 f244:=Tryz.func221.trans (congrArg some (by kernel_rfl))
 f245:=Tryz.func222.trans (congrArg some (by kernel_rfl))
 f246:=Tryz.func108.trans (congrArg some (by kernel_rfl))
 f247:=Tryz.func249.trans (congrArg some (by kernel_rfl))
 f279:=Tryz.func250.trans (congrArg some (by kernel_rfl))
 f280:=Tryz.func251.trans (congrArg some (by kernel_rfl))
 f281:=Tryz.func252.trans (congrArg some (by kernel_rfl))
 f282:=Tryz.func253.trans (congrArg some (by kernel_rfl))
 f283:=Tryz.func176.trans (congrArg some (by kernel_rfl))
 f284:=Tryz.func177.trans (congrArg some (by kernel_rfl))
 f285:=Tryz.func178.trans (congrArg some (by kernel_rfl))
 f286:=Tryz.func179.trans (congrArg some (by kernel_rfl))
 f287:=Tryz.func270.trans (congrArg some (by kernel_rfl))
 f316:=Tryz.func271.trans (congrArg some (by kernel_rfl))
 f317:=Tryz.func214.trans (congrArg some (by kernel_rfl))
 f318:=Tryz.func216.trans (congrArg some (by kernel_rfl))
 f319:=Tryz.func217.trans (congrArg some (by kernel_rfl))
 f320:=Tryz.func218.trans (congrArg some (by kernel_rfl))
 f321:=Tryz.func278.trans (congrArg some (by kernel_rfl))
 f322:=Tryz.func279.trans (congrArg some (by kernel_rfl))
 f337:=Tryz.func246.trans (congrArg some (by kernel_rfl))
 f338:=Tryz.func247.trans (congrArg some (by kernel_rfl))
 t0:=Tryz.underlying0
 a0:=Tryz.isAgg0
 z0:=Tryz.sizeOf0
 v0:=Tryz.zeroValue0
 t2:=Tryz.underlying2
 a2:=Tryz.isAgg2
 z2:=Tryz.sizeOf2
 v2:=Tryz.zeroValue2
 t3:=Tryz.underlying3
 a3:=Tryz.isAgg3
 z3:=Tryz.sizeOf3
 v3:=Tryz.zeroValue3
 t4:=Tryz.underlying4
 a4:=Tryz.isAgg4
 z4:=Tryz.sizeOf4
 v4:=Tryz.zeroValue4
 t5:=Tryz.underlying5
 a5:=Tryz.isAgg5
 z5:=Tryz.sizeOf5
 v5:=Tryz.zeroValue5
 t9:=Tryz.underlying9
 a9:=Tryz.isAgg9
 z9:=Tryz.sizeOf9
 v9:=Tryz.zeroValue9
 t20:=Tryz.underlying20
 a20:=Tryz.isAgg20
 z20:=Tryz.sizeOf20
 v20:=Tryz.zeroValue20
 t21:=Tryz.underlying21
 a21:=Tryz.isAgg21
 z21:=Tryz.sizeOf21
 v21:=Tryz.zeroValue21
 t37:=Tryz.underlying37
 a37:=Tryz.isAgg37
 z37:=Tryz.sizeOf37
 v37:=Tryz.zeroValue37
 t46:=Tryz.underlying163
 a46:=Tryz.isAgg163
 z46:=Tryz.sizeOf163
 v46:=Tryz.zeroValue163
 t51:=Tryz.underlying206
 a51:=Tryz.isAgg206
 z51:=Tryz.sizeOf206
 v51:=Tryz.zeroValue206
 t53:=Tryz.underlying181
 a53:=Tryz.isAgg181
 z53:=Tryz.sizeOf181
 v53:=Tryz.zeroValue181
 t75:=Tryz.underlying85
 a75:=Tryz.isAgg85
 z75:=Tryz.sizeOf85
 v75:=Tryz.zeroValue85
 t76:=Tryz.underlying87
 a76:=Tryz.isAgg87
 z76:=Tryz.sizeOf87
 v76:=Tryz.zeroValue87
 t85:=Tryz.underlying241
 a85:=Tryz.isAgg241
 z85:=Tryz.sizeOf241
 v85:=Tryz.zeroValue241
 t127:=Tryz.underlying131
 a127:=Tryz.isAgg131
 z127:=Tryz.sizeOf131
 v127:=Tryz.zeroValue131
 t143:=Tryz.underlying270
 a143:=Tryz.isAgg270
 z143:=Tryz.sizeOf270
 v143:=Tryz.zeroValue270
 t145:=Tryz.underlying272
 a145:=Tryz.isAgg272
 z145:=Tryz.sizeOf272
 v145:=Tryz.zeroValue272
 t167:=Tryz.underlying240
 a167:=Tryz.isAgg240
 z167:=Tryz.sizeOf240
 v167:=Tryz.zeroValue240
 t168:=Tryz.underlying243
 a168:=Tryz.isAgg243
 z168:=Tryz.sizeOf243
 v168:=Tryz.zeroValue243
 t171:=Tryz.underlying180
 a171:=Tryz.isAgg180
 z171:=Tryz.sizeOf180
 v171:=Tryz.zeroValue180
 t173:=Tryz.underlying184
 a173:=Tryz.isAgg184
 z173:=Tryz.sizeOf184
 v173:=Tryz.zeroValue184
 t175:=Tryz.underlying258
 a175:=Tryz.isAgg258
 z175:=Tryz.sizeOf258
 v175:=Tryz.zeroValue258
 t210:=Tryz.underlying261
 a210:=Tryz.isAgg261
 z210:=Tryz.sizeOf261
 v210:=Tryz.zeroValue261
 t212:=Tryz.underlying219
 a212:=Tryz.isAgg219
 z212:=Tryz.sizeOf219
 v212:=Tryz.zeroValue219
 t213:=Tryz.underlying220
 a213:=Tryz.isAgg220
 z213:=Tryz.sizeOf220
 t232:=Tryz.underlying256
 a232:=Tryz.isAgg256
 z232:=Tryz.sizeOf256
 v232:=Tryz.zeroValue256
 t233:=Tryz.underlying257
 a233:=Tryz.isAgg257
 z233:=Tryz.sizeOf257
 v233:=Tryz.zeroValue257
 g15:=by kernel_rfl
 g16:=by kernel_rfl
 g17:=by kernel_rfl
 g18:=by kernel_rfl
 g19:=by kernel_rfl
 t80:=Tryz.underlying90
 a80:=Tryz.isAgg90
 z80:=Tryz.sizeOf90
 v80:=Tryz.zeroValue90
 i0:=by kernel_rfl
 i2:=by kernel_rfl
 i3:=by kernel_rfl
 i4:=by kernel_rfl
 i5:=by kernel_rfl
 i9:=by kernel_rfl
 i20:=by kernel_rfl
 i21:=by kernel_rfl
 i37:=by kernel_rfl
 i46:=by kernel_rfl
 i51:=by kernel_rfl
 i53:=by kernel_rfl
 i75:=by kernel_rfl
 i76:=by kernel_rfl
 i80:=by kernel_rfl
 i85:=by kernel_rfl
 i127:=by kernel_rfl
 i143:=by kernel_rfl
 i145:=by kernel_rfl
 i167:=by kernel_rfl
 i168:=by kernel_rfl
 i171:=by kernel_rfl
 i173:=by kernel_rfl
 i175:=by kernel_rfl
 i210:=by kernel_rfl
 i212:=by kernel_rfl
 i232:=by kernel_rfl
 i233:=by kernel_rfl
 m15:=by kernel_rfl
 m16:=by kernel_rfl
 m17:=by kernel_rfl
 m18:=by kernel_rfl
 m19:=by kernel_rfl
 c0:=by kernel_rfl
 c2:=by kernel_rfl
 c3:=by kernel_rfl
 c4:=by kernel_rfl
 c5:=by kernel_rfl
 c9:=by kernel_rfl
 c20:=by kernel_rfl
 c21:=by kernel_rfl
 c37:=by kernel_rfl
 c46:=by kernel_rfl
 c51:=by kernel_rfl
 c53:=by kernel_rfl
 c75:=by kernel_rfl
 c76:=by kernel_rfl
 c80:=by kernel_rfl
 c85:=by kernel_rfl
 c127:=by kernel_rfl
 c143:=by kernel_rfl
 c145:=by kernel_rfl
 c167:=by kernel_rfl
 c168:=by kernel_rfl
 c171:=by kernel_rfl
 c173:=by kernel_rfl
 c175:=by kernel_rfl
 c210:=by kernel_rfl
 c212:=by kernel_rfl
 c213:=by kernel_rfl
 c232:=by kernel_rfl
 c233:=by kernel_rfl }
open Go.RowKit in
theorem Tryz.strconv_Atoi_err (s:ByteArray)(hl:s.size<=18)(h:Lib.atoi s.data.toList=none)(ev:Value)(w:World)(hv:w.cell? ⟨6,0,none⟩=some ev)(hev:ev = .nilIface\/∃ te pe,ev = .iface te pe) :
  Calls Tryz.prog 185 #[.string s] w fun e w'=>∃ N,e = .returned (.tuple #[.int .i64 0,.iface 243 (.pointer (some ⟨N,0,none⟩))])/\w.heap.size<=N/\w'.heap[N]? = some (.cells #[.string ⟨#[65,116,111,105]⟩,.string s,ev] 261 (0,0))/\Below w.heap.size w w':=Any.strconv_Atoi_err Tryz.laysC172 s hl h ev w hv hev
end Go.Proofs
namespace Go.Proofs.YtamoeblcphjbaaaGreatDoor
open Go Go.Ab
attribute [local irreducible] vc
def bE (T:Nat)(p:PV):Nat->List PV:=fun g=>if g=6 then [.iface T p] else aH g
theorem Sh {T:Nat}{p:PV}{w:World}{imm:Nat->Nat->Prop}(h:cZ (bE T p) w imm):cZ aH w imm:=by
 have key:∀ g,aH g≠[]->bE T p g=aH g:=by
  intro g hg
  unfold bE
  by_cases h0:g=6
  ·subst h0;exact absurd rfl hg
  ·rw[if_neg h0]
 refine⟨fun g o p hp=>h.1 g o p ?_,fun g hg=>?_⟩
 ·rw[key g (by intro e;rw[e] at hp;simp at hp)];exact hp
 ·rw[<- key g hg]
  exact h.2 g (by rw[key g hg];exact hg)
theorem toE {T:Nat}{p:PV}{f:Nat}{args:List PV}{r:PV}(h:au Tryz.prog aH f args r):au Tryz.prog (bE T p) f args r:=
 ⟨h.1,fun w imm vals hG=>h.2 w imm vals (Sh hG)⟩
theorem j1 {T:Nat}{p:PV}{k f:Nat}{args:List AV}{bs:List Blk}{v:AV}{bs':List Blk}(h:aI Tryz.prog aH k f args bs v bs'):aI Tryz.prog (bE T p) k f args bs v bs':=by
 have key:∀ g,aH g≠[]->bE T p g=aH g:=by
  intro g hg
  unfold bE
  by_cases h0:g=6
  ·subst h0;exact absurd rfl hg
  ·rw[if_neg h0]
 obtain⟨hc,h⟩:=h
 refine⟨hc,fun κ vals hS hf hsz hv=>?_⟩
 have hS1:SRel (cD κ (fun r=>lookB r (cl bs 0)) aH) κ (fun r=>lookB r (cl bs 0)):=by
  refine⟨hS.blk,hS.apart,hS.mine,hS.immLt,fun g o p hp=>hS.glob.1 g o p ?_,fun g hg=>?_⟩
  ·show (bE T _ g)[o]? = some p
   have hp':(aH g)[o]? = some p:=hp
   rw[key g (by intro e;rw[e] at hp';simp at hp')];exact hp'
  ·have hg':aH g≠[]:=hg
   have:=hS.glob.2 g (show bE T _ g≠[] by rw[key g hg'];exact hg')
   obtain⟨h1,h2,cs,T',fz,h3,h4⟩:=this
   exact⟨h1,h2,cs,T',fz,h3,h4.trans (congrArg Vl (key g hg'))⟩
 refine (h κ vals hS1 hf hsz hv).mono ?_
 rintro e w' ⟨u,v',κ',sto',next',h1,h2,he,hL,hv',hS',hf',hQ⟩
 exact⟨u,v',κ',sto',next',h1,h2,he,⟨hL.os,hL.tape,hL.output,hL.size,hL.block,hL.imm⟩,hv',⟨hS'.blk,hS'.apart,hS'.mine,hS'.immLt,Uc (κ:=κ.cut k) he hS.glob hL.block⟩,hf',hQ⟩
def Ey:PV:=.iface 243 (.eptr [.str [65,116,111,105]] 0 0)
def MY:Option Int->PV
 | some n=>.tup [.int .i64 n,.nili]
 | none=>.tup [.int .i64 0,Ey]
theorem MZ {T:Nat}{p:PV}(s:List UInt8)(hl:s.length<=18):au Tryz.prog (bE T p) 185 [.str s] (MY (Lib.atoi s)):=by
 refine⟨by kernel_rfl,fun w imm vals hG hlt hsz hargs=>?_⟩
 have hv:=Ah hsz
 obtain⟨h1,_⟩:=i8 (hargs 0 (.str s) rfl)
 rw[hv,h1]
 have hbl:(⟨s.toArray⟩:ByteArray).size<=18:=by show s.toArray.size<=18;simpa using hl
 have hbd:(⟨s.toArray⟩:ByteArray).data.toList=s:=rfl
 cases ha:Lib.atoi s with
 | some n=>
   refine (Any.strconv_Atoi Tryz.lays172 ⟨s.toArray⟩ n hbl (by rw[hbd];exact ha) w).mono ?_
   rintro e w' ⟨rfl,t,rfl⟩
   have hb:=Lib.bytesWorld_below w (Tryz.lays172_ren.t 5) t
   refine⟨_,imm,rfl,hb,fun _ _ h=>h,fun _ _ h=>.inl h,fun b o h=>UG (hlt b o h) hb.size,?_⟩
   refine PRel.tup _ _ rfl fun i x hx=>?_
   match i,hx with
   | 0,hx=>cases hx;exact .int _ _
   | 1,hx=>cases hx;exact .nili
   | i+2,hx=>simp at hx
 | none=>
   obtain⟨_,ev,hev,_,hrel⟩:=hG.1 6 0 (.iface T p) rfl
   have hev2:ev = .nilIface\/∃ te pe,ev = .iface te pe:=by cases hrel;exact .inr ⟨_,_,rfl⟩
   refine (Tryz.strconv_Atoi_err ⟨s.toArray⟩ hbl (by rw[hbd];exact ha) ev w hev hev2).mono ?_
   rintro e w' ⟨N,rfl,hN,hcells,hb⟩
   have hNl:N<w'.heap.size:=(Array.getElem?_eq_some_iff.1 hcells).1
   refine⟨_,fun b o=>imm b o\/b=N,rfl,hb,fun _ _ h=>.inl h,fun b o h=>h.elim .inl fun e=>.inr (e▸hN),fun b o h=>h.elim (fun h=>UG (hlt b o h) hb.size) fun e=>e▸hNl,?_⟩
   refine PRel.tup _ _ rfl fun i x hx=>?_
   match i,hx with
   | 0,hx=>cases hx;exact .int _ _
   | 1,hx=>
     cases hx
     refine .iface _ _ _ ?_
     refine PRel.eptr [.str [65,116,111,105]] N 0 1 1 (fun _ _=>.string ⟨#[65,116,111,105]⟩) 0 0 (by simp) (by unfold maxLen;omega) ?_ ?_ ?_ (by simp)
     ·intro i x hx
      match i,hx with
      | 0,hx=>cases hx;rfl
      | i+1,hx=>simp at hx
     ·intro i x j y hx hy
      match i,hx with
      | 0,hx=>
        cases hx
        match j,hy with
        | 0,hy=>
          refine⟨.inr rfl,?_,rfl⟩
          have:=cell_of_row w' N 0 _ _ _ hcells
          simpa using this
        | j+1,hy=>simp[PV.cells] at hy
      | i+1,hx=>simp at hx
     ·intro i x j y hx hy
      match i,hx with
      | 0,hx=>
        cases hx
        match j,hy with
        | 0,hy=>
          cases hy
          exact PRel.str ⟨#[65,116,111,105]⟩ (by unfold maxLen;decide)
        | j+1,hy=>simp[PV.cells] at hy
      | i+1,hx=>simp at hx
   | i+2,hx=>simp at hx

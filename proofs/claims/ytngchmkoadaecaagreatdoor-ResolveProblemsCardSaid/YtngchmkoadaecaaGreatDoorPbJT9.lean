/- A part. -/
import Derived.Test.YtngchmkoadaecaaGreatDoorPbJMj
import Derived.Stop.LaidErr
import Derived.WalkKit
import Derived.Lib.LaidTab
import Derived.SevenTiedAt
import Derived.Test.YtngchmkoadaecaaGreatDoorCards
import Derived.Test.YtngchmkoadaecaaGreatDoorTie
set_option linter.unusedVariables false
set_option linter.unusedSimpArgs false
set_option maxHeartbeats 16000000
set_option maxRecDepth 100000
open List renaming length_map->XB,mem_map->Xp,getElem?_map->Xd,getElem?_eq_some_iff->WU
namespace Go.Proofs.YtngchmkoadaecaaGreatDoor
open Go Go.Ab
def Bd:List PV->Option (List (List UInt8))
 | []=>some []
 | .str s::r=>match Bd r with
   | some l=>some (s::l)
   | none=>none
 | _=>none
theorem tP:∀ {l:List PV} {ss:List (List UInt8)},Bd l=some ss->l=ss.map .str
 | [],ss,h=>by simp only[Bd,Option.some.injEq] at h;subst h;rfl
 | x::r,ss,h=>by
   unfold Bd at h
   split at h
   ·cases ‹_::_=[]›
   ·rename_i s r' he
    cases he
    split at h
    ·rename_i l hl
     cases h
     rw[tP hl];rfl
    ·cases h
   ·cases h
def orc (f:Nat)(ps:List PV):Option PV:=
 match f with
 | 99=>match ps with
   | [.int .i64 n]=>if -9223372036854775808<=n/\n<=9223372036854775807 then some (.str (el n)) else none
   | _=>none
 | 100=>match ps with
   | [.list l,.str s]=>match Bd l with
     | some ss=>if ss.length<=140737488355328/\(dB s ss).length<=140737488355328 then some (.str (dB s ss)) else none
     | none=>none
   | _=>none
 | _=>none
theorem QR:∀ f ps r,orc f ps=some r->ap Tryz.prog aC f ps r:=by
 intro f ps r h
 unfold orc at h
 split at h
 ·split at h
  ·split at h
   ·rename_i hh
    cases h
    exact Dx _ hh.1 hh.2
   ·cases h
  ·cases h
 ·split at h
  ·split at h
   ·rename_i hs
    split at h
    ·rename_i hh
     cases h
     rw[tP hs]
     exact Du _ _ hh.1 hh.2
    ·cases h
   ·cases h
  ·cases h
 ·cases h
noncomputable def tab:List TabRow:=[
 ⟨6,[],gF Tryz.prog 6 []⟩,
 ⟨20,[],gF Tryz.prog 20 []⟩,
 ⟨21,[],gF Tryz.prog 21 []⟩,
 ⟨22,[1],Q22.1⟩,
 ⟨47,[2,3],Q47.1⟩,
 ⟨96,[],Q96.1⟩,
 ⟨113,[15,34],Lc.1⟩,
 ⟨97,[],Q97.1⟩,
 ⟨85,[],Q85.1⟩,
 ⟨98,[],Q98.1⟩,
 ⟨121,[],SZ.1⟩,
 ⟨114,[],S8.1⟩,
 ⟨117,[],S5.1⟩,
 ⟨118,[],S4.1⟩,
 ⟨119,[],S3.1⟩,
 ⟨120,[1],S0.1⟩,
 ⟨115,[1],S7.1⟩,
 ⟨116,[1],S6.1⟩,
 ⟨23,[],Q23.1⟩,
 ⟨24,[],Q24.1⟩,
 ⟨48,[],Q48.1⟩,
 ⟨25,[],Q25.1⟩,
 ⟨26,[1],Q26.1⟩,
 ⟨49,[],Q49.1⟩,
 ⟨50,[1],Q50.1⟩,
 ⟨101,[],Tb.1⟩]
theorem PY:∀ r∈tab,cFn Tryz.prog r.muts r.f=some r.fn:=by
 intro r hr
 simp only[tab,List.mem_cons,List.not_mem_nil,or_false] at hr
 rcases hr with rfl | rfl | rfl | rfl | rfl | rfl | rfl | rfl | rfl | rfl | rfl | rfl | rfl | rfl | rfl | rfl | rfl | rfl | rfl | rfl | rfl | rfl | rfl | rfl | rfl | rfl
 ·kernel_rfl
 ·kernel_rfl
 ·kernel_rfl
 ·exact Q22.2
 ·exact Q47.2
 ·exact Q96.2
 ·exact Lc.2
 ·exact Q97.2
 ·exact Q85.2
 ·exact Q98.2
 ·exact SZ.2
 ·exact S8.2
 ·exact S5.2
 ·exact S4.2
 ·exact S3.2
 ·exact S0.2
 ·exact S7.2
 ·exact S6.2
 ·exact Q23.2
 ·exact Q24.2
 ·exact Q48.2
 ·exact Q25.2
 ·exact Q26.2
 ·exact Q49.2
 ·exact Q50.2
 ·exact Tb.2
theorem IH:Cv (exF tab orc aC 2000 30) 6 []=some (.bool true):=by kernel_rfl
theorem IG:ap Tryz.prog aC 6 [] (.bool true):=ap.of_ex PY QR IH
theorem lK {rec:Val->Val}{on:Bool}(hr:on=true->∀ v,v.ok->(rec v).ok)(v:Val)(h:v.ok):(ij rec on v).ok:=by
 obtain⟨a,b,c,d,e,f⟩:=v
 rw[WP] at h
 rw[ij,WP]
 obtain⟨h1,h2,h3,h4,h5,h6,h7,h8⟩:=h
 refine⟨h1,h2,h3,(by first | exact aR h4 | exact aK h4),?_,?_,?_,?_⟩
 ·split
  ·rw[XB];exact (by first | exact aR h5 | exact aK h5)
  ·simp
 ·split
  ·rename_i hon
   intro x hx
   obtain⟨y,hy,rfl⟩:=Xp.1 hx
   exact hr hon y (bA h6 _ hy)
  ·simp
 ·split
  ·rw[XB];exact (by first | exact aR h7 | exact aK h7)
  ·simp
 ·split
  ·rename_i hon
   intro x hx
   obtain⟨⟨y,z⟩,hy,rfl⟩:=Xp.1 hx
   have:=bA h8 _ hy
   rw[Wp] at this
   rw[jS,Wp]
   exact⟨(by first | exact aR this.1 | exact aK this.1),hr hon z this.2⟩
  ·simp
theorem n8:∀ (n:Nat) (v:Val),v.ok->(ci n v).ok
 | 0,v,h=>lK (fun h=>by cases h) v h
 | n+1,v,h=>lK (fun _ v hv=>n8 n v hv) v h
theorem lL {rec:Typ->Typ}{on:Bool}(hr:on=true->∀ v,v.ok->(rec v).ok)(v:Typ)(h:v.ok):(ik rec on v).ok:=by
 obtain⟨a,b,c,d,w,e,f⟩:=v
 rw[WN] at h
 rw[ik,WN]
 obtain⟨h1,h2,h3,h4,h5,h6,h7,h8,h9,h10⟩:=h
 refine⟨h1,h2,h3,h4,?_,?_,?_,?_,?_,?_⟩
 ·rw[XB];exact (by first | exact aR h5 | exact aK h5)
 ·intro x hx
  obtain⟨y,hy,rfl⟩:=Xp.1 hx
  exact (by first | exact aR (bA h6 _ hy) | exact aK (bA h6 _ hy))
 ·split
  ·rw[XB];exact (by first | exact aR h7 | exact aK h7)
  ·simp
 ·split
  ·rename_i hon
   intro x hx
   obtain⟨y,hy,rfl⟩:=Xp.1 hx
   exact hr hon y (bA h8 _ hy)
  ·simp
 ·split
  ·rw[XB];exact (by first | exact aR h9 | exact aK h9)
  ·simp
 ·split
  ·rename_i hon
   intro x hx
   obtain⟨⟨a,b,c,t,d⟩,hy,rfl⟩:=Xp.1 hx
   have:=bA h10 _ hy
   rw[WI] at this
   rw[gq,WI]
   obtain⟨k1,k2,k3,k4,k5,k6⟩:=this
   refine⟨k1,(by first | exact aR k2 | exact aK k2),k3,hr hon t k4,by rw[XB];exact (by first | exact aR k5 | exact aK k5),fun x hx=>?_⟩
   obtain⟨y,hy,rfl⟩:=Xp.1 hx
   exact n8 3 y (bA k6 _ hy)
  ·simp
theorem n9:∀ (n:Nat) (v:Typ),v.ok->(cE n v).ok
 | 0,v,h=>lL (fun h=>by cases h) v h
 | n+1,v,h=>lL (fun _ v hv=>n9 n v hv) v h
theorem Bs (p:Prg)(h:p.ok):(eU p).ok:=by
 obtain⟨v,ss,es,ws,rs⟩:=p
 rw[Wu] at h
 rw[eU,Wu]
 obtain⟨h1,h2,h3,h4,h5,h6,h7,h8,h9⟩:=h
 refine⟨h1,?_,?_,?_,?_,?_,?_,?_,?_⟩
 ·rw[XB];exact (by first | exact aR h2 | exact aK h2)
 ·intro x hx
  obtain⟨⟨a,b,c⟩,hy,rfl⟩:=Xp.1 hx
  have:=bA h3 _ hy
  rw[WC] at this
  rw[kE,WC]
  exact⟨(by first | exact aR this.1 | exact aK this.1),this.2.1,n9 4 _ this.2.2⟩
 ·rw[XB];exact (by first | exact aR h4 | exact aK h4)
 ·intro x hx
  obtain⟨⟨a,b,c,d,⟨e,f,g⟩⟩,hy,rfl⟩:=Xp.1 hx
  have:=bA h5 _ hy
  rw[Wl,Wr] at this
  rw[kG,ED,Wl,Wr]
  obtain⟨k1,k2,k3,k4,k5,k6,k7,k8⟩:=this
  exact⟨(by first | exact aR k1 | exact aK k1),k2,(by first | exact aR k3 | exact aK k3),k4,k5,k6,(by first | exact aR k7 | exact aK k7),bA k8⟩
 ·rw[XB];exact (by first | exact aR h6 | exact aK h6)
 ·intro x hx
  obtain⟨⟨a,b,c,d⟩,hy,rfl⟩:=Xp.1 hx
  have:=bA h7 _ hy
  rw[WG] at this
  rw[kD,WG]
  exact⟨(by first | exact aR this.1 | exact aK this.1),(by first | exact aR this.2.1 | exact aK this.2.1),(by first | exact aR this.2.2 | exact aK this.2.2)⟩
 ·rw[XB];exact (by first | exact aR h8 | exact aK h8)
 ·intro x hx
  obtain⟨⟨a,b,c⟩,hy,rfl⟩:=Xp.1 hx
  have:=bA h9 _ hy
  rw[Ww] at this
  rw[g5,Ww]
  have hq:=jQ 4 c ⟨this.2.2.1,this.2.2.2⟩
  exact⟨(by first | exact aR this.1 | exact aK this.1),(by first | exact aR this.2.1 | exact aK this.2.1),hq.1,hq.2⟩
theorem lN:∀ (n:Nat) (l:List Stp),Bnd (n+1) (bM n l)
 | 0,l=>by
   refine⟨fI 0 l,fun s hs=>?_⟩
   rw[bM] at hs
   obtain⟨y,hy,rfl⟩:=Xp.1 hs
   obtain⟨a,b,c,d,e,f,g,h,i,j,k⟩:=y
   have hb:(dQ id false (Stp.mk a b c d e f g h i j k)).branches=[]:=_root_.id rfl
   rw[hb]
   exact⟨by simp,by simp⟩
 | n+1,l=>by
   refine⟨fI (n+1) l,fun s hs=>?_⟩
   rw[bM] at hs
   obtain⟨y,hy,rfl⟩:=Xp.1 hs
   obtain⟨a,b,c,d,e,f,g,h,i,j,k⟩:=y
   have hb:(dQ (bM n) true (Stp.mk a b c d e f g h i j k)).branches=(k.take 4).map (OG (bM n)):=_root_.id rfl
   rw[hb]
   refine⟨by simp;omega,fun x hx=>?_⟩
   obtain⟨⟨w,m⟩,_,rfl⟩:=Xp.1 hx
   exact lN n m
theorem i6 (r:Rou):(g5 r).steps=bM 4 r.steps:=by
 obtain⟨a,b,c⟩:=r;rfl
theorem gE (p:Prg):(eU p).routes=(p.routes.take 6).map g5:=by
 obtain⟨v,ss,es,ws,rs⟩:=p;rfl
theorem wK (p:Prg)(hp:p.ok):okW 5 (eU p):=by
 rw[okW,gE]
 refine⟨by simp;omega,fun r hr=>?_⟩
 obtain⟨y,hy,rfl⟩:=Xp.1 hr
 rw[i6]
 refine⟨lN 4 _,jQ 4 _ ?_⟩
 obtain⟨v,ss,es,ws,rs⟩:=p
 rw[Wu] at hp
 obtain⟨_,_,_,_,_,_,_,_,hro⟩:=hp
 have:=hro y (List.mem_of_mem_take hy)
 obtain⟨a,b,c⟩:=y
 rw[Ww] at this
 exact⟨this.2.2.1,this.2.2.2⟩
theorem lM:∀ (n:Nat) (l:List Stp),F4 (n+1) (bM n l)
 | 0,l=>by
   intro s hs
   rw[bM] at hs
   obtain⟨y,hy,rfl⟩:=Xp.1 hs
   obtain⟨a,b,c,d,e,f,g,h,i,j,k⟩:=y
   have h1:(dQ id false (Stp.mk a b c d e f g h i j k)).calls=(j.take 18).map Au:=_root_.id rfl
   have h2:(dQ id false (Stp.mk a b c d e f g h i j k)).branches=[]:=_root_.id rfl
   rw[h1,h2]
   exact⟨by simp;omega,by simp⟩
 | n+1,l=>by
   intro s hs
   rw[bM] at hs
   obtain⟨y,hy,rfl⟩:=Xp.1 hs
   obtain⟨a,b,c,d,e,f,g,h,i,j,k⟩:=y
   have h1:(dQ (bM n) true (Stp.mk a b c d e f g h i j k)).calls=(j.take 18).map Au:=_root_.id rfl
   have h2:(dQ (bM n) true (Stp.mk a b c d e f g h i j k)).branches=(k.take 4).map (OG (bM n)):=_root_.id rfl
   rw[h1,h2]
   refine⟨by simp;omega,fun x hx=>?_⟩
   obtain⟨⟨w,m⟩,_,rfl⟩:=Xp.1 hx
   exact lM n m
theorem wM (p:Prg):∀ r∈(eU p).routes,F4 5 r.steps:=by
 intro r hr
 rw[gE] at hr
 obtain⟨y,hy,rfl⟩:=Xp.1 hr
 rw[i6]
 exact lM 4 _
theorem wL (p:Prg):(eU p).schemas.length<=1000/\(eU p).endpoints.length<=1000/\(eU p).services.length<=1000:=by
 obtain⟨v,ss,es,ws,rs⟩:=p
 refine⟨?_,?_,?_⟩<;>simp[eU,Prg.schemas,Prg.endpoints,Prg.services]<;>omega
theorem HN (p:Prg)(n:Nat)(hcn:cnt n<=20000000)(hp:okW n p)(hcal:∀ r∈p.routes,F4 n r.steps)(hs1:p.schemas.length<=1000)(hs2:p.endpoints.length<=1000)(hs3:p.services.length<=1000):(lm az di p n).length<=9000000000:=by
 unfold lm
 split
 ·unfold BE
  have h1:=A4 p hs1 hs2 hs3
  have h2:=cH (G3 az p n) (6+42*cnt n) p.routes (thO az di p).2 0 fun x hx N i=>aA (mP az p x i) (cN az p i x.name n [] x.steps N (hp.2 x hx).1 (hcal x hx))
  have h3:p.routes.length*(6+42*cnt n)<=6*(6+42*cnt n):=Nat.mul_le_mul_right _ hp.1
  rw[List.length_append]
  omega
 ·have:=iD p (cW n p)
  omega
theorem oE (p:Prg)(hp:p.ok):ap Tryz.prog aC 3 [p.pv] (.bool true):=by
 have hW:=wK p hp
 have hO:=Bs p hp
 have hC:=wM p
 obtain⟨hs1,hs2,hs3⟩:=wL p
 have hS:=GP p hp
 have hK:=IG
 have hcnt:cnt 5=8659208:=by decide
 generalize eU p=q at *
 have h7:=LY 5 (by omega) (by omega) q hW
 have h9:=Cq 5 (by omega) (by omega) q hW hC hO hs1 hs2 hs3
 have h10:=xv 5 (by omega) (by omega) q hW hC hO hs1 hs2 hs3
 have h8:=TW (lm az di q 5) (by have:=HN q 5 (by omega) hW hC hs1 hs2 hs3;omega) (fun x hx=>by have:=Pp az di q 5 x hx;omega)
 generalize lm az di q 5=L at *
 generalize decide ((cW 5 q).length<=300)=sm at *
 obtain⟨pv,ps,pe,pw,pr⟩:=p
 obtain⟨qv,qs,qe,qw,qr⟩:=q
 simp only[Wv] at hS h7 h9 h10
 refine ap.intro Q3.2 (by simp[Q3]) ?_
 simp(maxSteps:=9^7) (disch:=try exact dI) only[Q3,Wv,push_cast,seval]
 refine ab.pure hS rfl ?_
 cases sm with
 | false=>
   simp(maxSteps:=9^7) (disch:=try exact dI) only[push_cast,seval]
   refine ag hK rfl ?_
   simp(maxSteps:=9^7) (disch:=try exact dI) only[push_cast,seval]
   refine ag h7 rfl ?_
   simp(maxSteps:=9^7) (disch:=try exact dI) only[push_cast,seval]
 | true=>
   simp(maxSteps:=9^7) (disch:=try exact dI) only[push_cast,seval]
   refine ag hK rfl ?_
   simp(maxSteps:=9^7) (disch:=try exact dI) only[push_cast,seval]
   refine ag h7 rfl ?_
   simp(maxSteps:=9^7) (disch:=try exact dI) only[push_cast,seval]
   refine ag h9 rfl ?_
   simp(maxSteps:=9^7) (disch:=try exact dI) only[push_cast,seval]
   refine ab.pure h10 rfl ?_
   simp(maxSteps:=9^7) (disch:=try exact dI) only[push_cast,seval]
   refine ab.pure h8 rfl ?_
   simp(maxSteps:=9^7) (disch:=try exact dI) only[push_cast,seval]
theorem rS (p0:PV)(h0:HasT Tryz.prog 27 p0):ap Tryz.prog aC 3 [p0] (.bool true):=by
 obtain⟨p,rfl,hp⟩:=I2 h0
 exact oE p hp
open Go.Lib Go.Proofs
theorem u8X:U8Extra Tryz.prog Tryz.lays196_ren:=⟨by kernel_rfl,by kernel_rfl,by kernel_rfl,by kernel_rfl,by kernel_rfl,by kernel_rfl,by kernel_rfl⟩
theorem Ja {W:World}(h1:VarReads Tryz.prog W "unicode/utf8.first" firstData) (h2:VarReads Tryz.prog W "unicode/utf8.acceptRanges" acceptData)
  (h3:VarReads Tryz.prog W "internal/strconv.uint64pow10" (tabData .u64 pow10Tab)):dN aC W (pm W):=by
 have hu:=utf8Tabs_of_readsT (U8Types.of196 WM) u8X h1 h2
 refine DQ fun g hg=>?_
 unfold aC at hg ⊢
 by_cases e3:g=2
 ·subst e3
  exact wv (t:=227) (e:=202) (m:=20) h3 (by kernel_rfl) (by kernel_rfl) (by kernel_rfl) (by kernel_rfl) (by kernel_rfl) (by kernel_rfl) (by kernel_rfl)
 rw[if_neg e3] at hg ⊢
 by_cases e1:g=0
 ·subst e1
  rw[if_pos rfl] at hg ⊢
  refine mL (t:=187) (e:=5) (m:=256) h1 (by kernel_rfl) (by kernel_rfl) (by kernel_rfl) (by kernel_rfl) fun o p hp=>?_
  rw[Ty,Xd,Option.map_eq_some_iff] at hp
  obtain⟨c,hc,rfl⟩:=hp
  obtain⟨hlt,hcc⟩:=WU.1 hc
  simp at hlt hcc
  subst hcc
  exact⟨_,_,rfl,hu.1 o hlt⟩
 rw[if_neg e1] at hg ⊢
 by_cases e2:g=1
 ·subst e2
  rw[if_pos rfl] at hg ⊢
  refine mL (t:=190) (e:=189) (m:=16) h2 (by kernel_rfl) (by kernel_rfl) (by kernel_rfl) (by kernel_rfl) fun o p hp=>?_
  rw[Pu,Xd,Option.map_eq_some_iff] at hp
  obtain⟨c,hc,rfl⟩:=hp
  obtain⟨hlt,hcc⟩:=WU.1 hc
  simp at hlt hcc
  subst hcc
  have:=hu.2 (o / 2) (by omega)
  by_cases ho:o % 2=0
  ·rw[if_pos ho]
   refine⟨_,_,rfl,?_⟩
   have:=this.1
   rwa [show 2*(o / 2)=o by omega] at this
  ·rw[if_neg ho]
   refine⟨_,_,rfl,?_⟩
   have:=this.2
   rwa [show 2*(o / 2)+1=o by omega] at this
 rw[if_neg e2] at hg
 exact absurd rfl hg
end Go.Proofs.YtngchmkoadaecaaGreatDoor
namespace Go.Proofs.YtngchmkoadaecaaGreatDoor.resolveProblemsDone
open Go Go.Ab Go.RowKit Go.ChangeShapes Go.WideShapes Go.ChangeAt
theorem own:ownKnob Tryz.prog.godebug=none:=by kernel_rfl
theorem N5:laidOutB Tryz.prog=true:=by kernel_rfl
theorem Uu {W:World}(h:laidMetH Tryz.prog Rows.resolveProblemsRow.laid W):dN aC W (pm W):=by
 have h':laidMet Tryz.prog Rows.resolveProblemsRow.laid W:=h
 exact Ja (Go.Lib.laidMet.reads h' (n:= "unicode/utf8.first") (d:=Go.Lib.firstData) (by rw[show Go.Lib.firstData=(Rows.laid_unicode_utf8_first:DataW Unit) by kernel_rfl];exact List.Mem.tail _ (List.Mem.tail _ (List.Mem.tail _ (List.Mem.tail _ (List.Mem.head _))))))
  (Go.Lib.laidMet.reads h' (n:= "unicode/utf8.acceptRanges") (d:=Go.Lib.acceptData) (by rw[show Go.Lib.acceptData=(Rows.laid_unicode_utf8_acceptRanges:DataW Unit) by kernel_rfl];exact List.Mem.tail _ (List.Mem.tail _ (List.Mem.tail _ (List.Mem.head _)))))
  (Go.Lib.laidMet.reads h' (n:= "internal/strconv.uint64pow10") (d:=(Go.Lib.tabData .u64 Go.Lib.pow10Tab)) (by rw[show (Go.Lib.tabData .u64 Go.Lib.pow10Tab)=(Rows.laid_internal_strconv_uint64pow10:DataW Unit) by kernel_rfl];exact List.Mem.tail _ (List.Mem.tail _ (List.Mem.head _))))
theorem Ut:Tryz.f3.params = #[27]:=by kernel_rfl
theorem uU (H:Type)(enc:TypeId×Value->H)(W:World)(base:Nat)(args:Array Value)(ds gs:List (DataW H))(before:List MemPlace)
  (hval:∀ (j:Nat) t v,Tryz.f3.params[j]? = some t->args[j]? = some v->Value.okWide Tryz.prog W .any base t v)
  (hW:DataW.Whole enc Tryz.prog Tryz.f3.params.toList Rows.resolveProblemsSpec.vars false W args.toList ds gs before) (hsz:(DataW.weightsEach Tryz.prog (Tryz.f3.params.toList++Rows.resolveProblemsSpec.plain.varTypes Tryz.prog) (ds++gs)).all (·<=reachBytes)=true) (hL:laidMetH Tryz.prog Rows.resolveProblemsRow.laid W) :
  Calls Tryz.prog 3 args W fun e W'=>∃ v,e = .returned v/\Rows.resolveProblemsSpec.post enc Tryz.prog Tryz.f3 false true false false W args v W':=by
 refine IC (ts:=[27,3,22,72,9,70,66,67,68,105,103,108,106,138,23,39,37,35,24,41,4,25,64,62,51,44,159,47,45,183,48,61,49,111]) (tb:=4) (G:=aC) rfl N5 (by decide +kernel) (by kernel_rfl) (by decide +kernel) (by kernel_rfl) (by kernel_rfl) ?_ hval hW hsz (Uu hL) ?_
 ·intro ds hd
  rw[Ut] at hd
  match ds,hd with
  | [d0],_=>rfl
 ·intro ps hp hT
  rw[Ut] at hp hT
  match ps,hp with
  | [p0],_=>
    exact rS p0 (hT 0 27 p0 rfl rfl)
def yu:DataW Unit->List Value
 | .lit (.int k n)=>[Value.int k n]
 | .agg xs=>xs.map fun x=>match x with
   | .lit (.int k n)=>Value.int k n
   | _=>Go.undef
 | _=>[]
def Di:DataW Unit->Array Value
 | .agg xs=>(xs.flatMap yu).toArray
 | _=>#[]
def od (d:DataW Unit):Obj->Obj
 | .cells _ t frozen=>.cells (Di d) t frozen
 | o=>o
noncomputable def eh (os:Os):World:=
 { World.holding Tryz.prog os ⟨#[],#[],[]⟩ with heap:=((((((World.holding Tryz.prog os ⟨#[],#[],[]⟩).heap.modify 4 (od Rows.laid_math_bits_deBruijn32tab)).modify 5 (od Rows.laid_math_bits_deBruijn64tab)).modify 2 (od Rows.laid_internal_strconv_uint64pow10)).modify 1 (od Rows.laid_unicode_utf8_acceptRanges)).modify 0 (od Rows.laid_unicode_utf8_first)) }
theorem IE (os:Os):laidMet Tryz.prog Rows.resolveProblemsRow.laid ((eh os).forCall (fun _ _=>0) ⟨#[],#[.agg #[.int .i64 0,.slice none 0 0,.slice none 0 0,.slice none 0 0,.slice none 0 0]],[]⟩).memory:=
 laidMet_of_run' 8 (by kernel_rfl) (by kernel_rfl)
theorem reads (os:Os){H:Type}(enc:TypeId×Value->H):∃ places,DataW.whole enc Tryz.prog ((eh os).forCall (fun _ _=>0) ⟨#[],#[.agg #[.int .i64 0,.slice none 0 0,.slice none 0 0,.slice none 0 0,.slice none 0 0]],[]⟩).memory Tryz.f3.params.toList Rows.resolveProblemsSpec.vars false (#[.agg #[.int .i64 0,.slice none 0 0,.slice none 0 0,.slice none 0 0,.slice none 0 0]]:Array Value).toList 8=some ([.agg [.lit (.int .i64 0),.nil,.nil,.nil,.nil]],[],places):=
 ⟨[],by kernel_rfl⟩
theorem TR:Tryz.checked.prog.inits.idxOf? 3=none:=by kernel_rfl
theorem TP (os:Os):World.variablesB Tryz.checked.prog ((eh os).forCall (fun _ _=>0) ⟨#[],#[.agg #[.int .i64 0,.slice none 0 0,.slice none 0 0,.slice none 0 0,.slice none 0 0]],[]⟩)=true:=by kernel_rfl
theorem TQ (os:Os):List.take ((begin Tryz.checked.prog (fun _ _=>0) default).world.heap.size - Tryz.checked.prog.globals.size) (List.drop Tryz.checked.prog.globals.size ((eh os).forCall (fun _ _=>0) ⟨#[],#[.agg #[.int .i64 0,.slice none 0 0,.slice none 0 0,.slice none 0 0,.slice none 0 0]],[]⟩).heap.toList)=List.drop Tryz.checked.prog.globals.size (begin Tryz.checked.prog (fun _ _=>0) default).world.heap.toList:=by kernel_rfl
theorem TN (os:Os):Input.okWideB Tryz.checked.prog ((eh os).forCall (fun _ _=>0) ⟨#[],#[.agg #[.int .i64 0,.slice none 0 0,.slice none 0 0,.slice none 0 0,.slice none 0 0]],[]⟩) 3 ⟨#[],#[.agg #[.int .i64 0,.slice none 0 0,.slice none 0 0,.slice none 0 0,.slice none 0 0]],[]⟩=true:=by kernel_rfl
theorem Rb (os:Os)(started:os.Started)(H:Type)(enc:TypeId×Value->H)(F:Stop.Interp) :
  ReturnsInHanded {} Tryz.checked os 3 .any ((OpenSpec.ofChange Rows.resolveProblemsSpec).preRow enc Tryz.prog Tryz.f3 Rows.resolveProblemsRow.domain false Rows.resolveProblemsRow.laid) (((OpenSpec.ofChange Rows.resolveProblemsSpec).at F).post enc Tryz.prog Tryz.f3 false true false false):=by
 obtain⟨places,hx⟩:=reads os enc
 refine returnsInHanded_of_row (C:=Tryz.checked) (s:=OpenSpec.ofChange Rows.resolveProblemsSpec) own started TR Tryz.func3
  (witness_row_at (enc:=enc) (C:=Tryz.checked) false (eh os) #[.agg #[.int .i64 0,.slice none 0 0,.slice none 0 0,.slice none 0 0,.slice none 0 0]] rfl (TP os) (TQ os) (TN os)
   (OpenSpec.preRow_of_cond 8 hx (by kernel_rfl) (fun k hk=>by cases hk) (by kernel_rfl) (IE os))) ?_
 intro W base args ds gs before hval hW _ _ hsz hL _ _
 exact uU H enc W base args ds gs before hval hW hsz hL
theorem Ux:joinedFacts Tryz.pinned.checked.prog 3 Tryz.f3 (OpenSpec.ofChange Rows.resolveProblemsSpec).bare Rows.resolveProblemsRow=true:=by
 unfold joinedFacts
 repeat' (with_reducible refine Bool.and_eq_true_iff.2 ⟨?_,?_⟩)
 all_goals as_aux_lemma=>kernel_rfl

/- A part of the proof. -/
import Derived.Test.YtbojpfpliibfbaaGreatDoorEnRWQ
set_option maxRecDepth 100000
set_option linter.unusedVariables false
set_option linter.unusedSimpArgs false
-- many steps
namespace Go.Proofs.YtbojpfpliibfbaaGreatDoor
open Go Go.Ab
attribute [local irreducible] vc
theorem mW:∀ (f a b:Nat),a<=b->(br f a).length<=(br f b).length
 | 0,_,_,_=>by simp[br]
 | f+1,a,b,h=>by
   have ih:=mW f (a / 10) (b / 10) (Nat.div_le_div_right h)
   rw[br,br]
   by_cases ha:a<10
   ·rw[if_pos ha]
    by_cases hb:b<10
    ·rw[if_pos hb];simp
    ·rw[if_neg hb];simp
   ·rw[if_neg ha,if_neg (by omega)]
    simp only[List.length_append,List.length_cons,List.length_nil];omega
theorem mY (n:Int)(sc:Nat):(gW n sc).length=(if n<0 then 1 else 0)+(max (dl n.natAbs) (sc+1) - sc)+(if sc=0 then 0 else sc+1):=by
 unfold gW
 rw[List.length_append,List.length_append,fm]
 by_cases h:n<0
 ·rw[if_pos h,if_pos h]
  by_cases h0:sc=0
  ·rw[if_pos h0,if_pos h0];simp
  ·rw[if_neg h0,if_neg h0];simp only[List.length_cons,List.length_nil,fm];omega
 ·rw[if_neg h,if_neg h]
  by_cases h0:sc=0
  ·rw[if_pos h0,if_pos h0];simp
  ·rw[if_neg h0,if_neg h0];simp only[List.length_cons,List.length_nil,fm];omega
theorem Jm {n m M:Int}(sc:Nat)(h1:m<=n)(h2:n<=M):((gW n sc).length:Int)<=max ((gW m sc).length:Int) ((gW M sc).length:Int):=by
 rw[mY,mY,mY]
 by_cases h:n<0
 ·have hm:=mW 20 n.natAbs m.natAbs (by omega)
  rw[if_pos h,if_pos (show m<0 by omega)]
  unfold dl;omega
 ·have hm:=mW 20 n.natAbs M.natAbs (by omega)
  rw[if_neg h,if_neg (show ¬ M<0 by omega)]
  unfold dl;omega
theorem eH {t:Typ}{x:Val}{p:List UInt8}(h:aT 1 t x p=[]):x.kind=t.kind/\ae x=true:=by
 rw[aG] at h
 by_cases a:t.kind<1\/10<t.kind\/¬ x.kind=t.kind
 ·rw[eh a] at h;cases h
 ·cases b:ae x with
  | false=>rw[gL a b] at h;cases h
  | true=>exact⟨Decidable.byContradiction fun hh=>a (.inr (.inr hh)),rfl⟩
theorem jZ {a b:Int}{p:List UInt8}{n:Int}(h:rK a b p n=[]):a<=n/\n<=b:=by
 unfold rK at h
 by_cases c:n<a\/b<n
 ·rw[if_pos c] at h;cases h
 ·omega
def hH (f:Nat)(t:Typ)(x:Val)(tx:List UInt8):Prop:=am Tryz.prog az f [x.pv] (.str tx)/\am Tryz.prog az 48 [t.pv,x.pv] (.str tx)/\(tx.length:Int)<=eW t
theorem Ax {t:Typ}{x:Val}{p:List UInt8}(hk:t.kind=2\/t.kind=6\/t.kind=7)(h:aT 1 t x p=[]):t.min<=x.num/\x.num<=t.max:=by
 obtain⟨h1,h2⟩:=eH h
 rw[aG,cU (by omega) h2 hk] at h
 exact jZ h
theorem KQ {m M s:Int}{w:List (List UInt8)}{e:List Typ}{f:List TFd}{x:Val}{p:List UInt8}(h:aT 1 (.mk 1 m M s w e f) x p=[]):hH 84 (.mk 1 m M s w e f) x (if x.num=1 then [84] else [70]):=by
 obtain⟨h1,h2⟩:=eH h
 obtain⟨k,n,sc,tx,l,fs⟩:=x
 simp only[Val.kind,Typ.kind] at h1
 subst h1
 have hn:n=0\/n=1:=by
  simp only[ae,Bool.and_eq_true] at h2
  rw[if_pos trivial] at h2
  simp only[Bool.and_eq_true,Bool.or_eq_true,decide_eq_true_eq] at h2
  exact h2.1
 change hH 84 _ _ (if n=1 then [84] else [70])
 rcases hn with rfl | rfl
 ·rw[if_neg (by decide)]
  refine⟨?_,?_,by simp[eW]⟩
  ·refine am.intro Q84.2 (by simp[Q84]) ?_
   simp(disch:=try exact dI) only[Q84,Val.pv_mk,push_cast,seval]
  ·refine am.intro Q48.2 (by simp[Q48]) ?_
   simp(disch:=try exact dI) only[Q48,Typ.pv_mk,Val.pv_mk,push_cast,seval]
 ·rw[if_pos rfl]
  refine⟨?_,?_,by simp[eW]⟩
  ·refine am.intro Q84.2 (by simp[Q84]) ?_
   simp(disch:=try exact dI) only[Q84,Val.pv_mk,push_cast,seval]
  ·refine am.intro Q48.2 (by simp[Q48]) ?_
   simp(disch:=try exact dI) only[Q48,Typ.pv_mk,Val.pv_mk,push_cast,seval]
theorem KP {m M s:Int}{w:List (List UInt8)}{e:List Typ}{f:List TFd}{x:Val}{p:List UInt8}(h:aT 1 (.mk 4 m M s w e f) x p=[]):hH 85 (.mk 4 m M s w e f) x x.text:=by
 obtain⟨h1,h2⟩:=eH h
 have hno:¬ ((Typ.mk 4 m M s w e f).kind<1\/10<(Typ.mk 4 m M s w e f).kind\/¬ x.kind=(Typ.mk 4 m M s w e f).kind):=by rw[h1];simp[Typ.kind]
 have hw:∀ (l:List (List UInt8)) (a:Int) (y:List UInt8),(y∈l->(y.length:Int)<=mb l a)/\a<=mb l a:=by
  intro l
  induction l with
  | nil=>intro a y;exact⟨fun h=>(by cases h),by simp[mb]⟩
  | cons z r ih=>
    intro a y
    have i1:=ih (max a (z.length:Int)) y
    rw[show mb (z::r) a=mb r (max a (z.length:Int)) from rfl]
    refine⟨fun hy=>?_,by omega⟩
    rcases List.mem_cons.1 hy with rfl | hy
    ·omega
    ·exact i1.1 hy
 have hlen:(x.text.length:Int)<=eW (.mk 4 m M s w e f):=by
  rw[show eW (.mk 4 m M s w e f)=max (mb w M) 1 from rfl]
  by_cases h0:w.length=0
  ·rw[aG,dp hno h2 (.inl rfl) (fun _=>h0)] at h
   have:=(jZ h).2
   simp only[Typ.max] at this
   have:=(hw w M []).2
   omega
  ·cases ha:(w.any fun y=>decide (y=x.text)) with
   | true=>
     obtain⟨y,hy,hye⟩:=List.any_eq_true.1 ha
     rw[<- of_decide_eq_true hye]
     have:=(hw w M y).1 hy
     omega
   | false=>
     rw[aG,fo hno h2 rfl (by simp only[Typ.words];omega) ha] at h
     cases h
 obtain⟨k,n,sc,tx,l,fs⟩:=x
 simp only[Val.kind,Typ.kind] at h1
 subst h1
 simp only[Val.text] at hlen ⊢
 refine⟨?_,?_,hlen⟩
 ·refine am.intro Q85.2 (by simp[Q85]) ?_
  simp(disch:=try exact dI) only[Q85,Val.pv_mk,push_cast,seval]
 ·refine am.intro Q48.2 (by simp[Q48]) ?_
  simp(disch:=try exact dI) only[Q48,Typ.pv_mk,Val.pv_mk,push_cast,seval]
theorem KO {m M s:Int}{w:List (List UInt8)}{e:List Typ}{f:List TFd}{x:Val}{p:List UInt8}(ho:bm (.mk 5 m M s w e f)=0)(h:aT 1 (.mk 5 m M s w e f) x p=[]):hH 86 (.mk 5 m M s w e f) x (iR x.text):=by
 obtain⟨h1,h2⟩:=eH h
 have hM:=pT ho
 have hno:¬ ((Typ.mk 5 m M s w e f).kind<1\/10<(Typ.mk 5 m M s w e f).kind\/¬ x.kind=(Typ.mk 5 m M s w e f).kind):=by rw[h1];simp[Typ.kind]
 rw[aG,dp hno h2 (.inr rfl) (fun hh=>absurd hh (by simp[Typ.kind]))] at h
 have hb:=(jZ h).2
 simp only[Typ.max] at hb
 have hl:=jt x.text
 have hwr:=Ca x (by omega)
 have hdg:=Fb x.text (by omega)
 refine⟨hwr,?_,by rw[show eW (.mk 5 m M s w e f)=max (2*M) 1 from rfl];omega⟩
 obtain⟨k,n,sc,tx,l,fs⟩:=x
 simp only[Val.kind,Typ.kind] at h1
 subst h1
 simp only[Val.text] at hdg ⊢
 refine am.intro Q48.2 (by simp[Q48]) ?_
 simp(disch:=try exact dI) only[Q48,Typ.pv_mk,Val.pv_mk,push_cast,seval]
 refine ab.pure hdg rfl ?_
 exact qsZ
end Go.Proofs.YtbojpfpliibfbaaGreatDoor
-- many steps
namespace Go.Proofs.YtbojpfpliibfbaaGreatDoor
open Go Go.Ab
attribute [local irreducible] vc
theorem ww (k:Int){n:Int}{sc:Nat}(t:List UInt8)(l:List Val)(f:List Fld)(hn:IsN n sc):am Tryz.prog az 82 [(Val.mk k n (sc:Int) t l f).pv] (.str (gW n sc)):=by
 have h:=FZ hn
 generalize gW n sc=d at h ⊢
 refine am.intro Q82.2 (by simp[Q82]) ?_
 simp(disch:=try exact dI) only[Q82,Val.pv_mk,push_cast,seval]
 refine ab.pure h rfl ?_
 exact qsZ
theorem mC {k m M s:Int}{w:List (List UInt8)}{e:List Typ}{f:List TFd}(h:bm (.mk k m M s w e f)=0)(hk:k=2\/k=3\/k=6\/k=7):loK k<=m/\M<=hiK k/\(k=2->s=0):=by
 have hb:=(bu h).2.1
 have hf:=mB h
 unfold aD at hb
 have h4:¬ (k=4/\0<w.length):=by omega
 rw[if_neg h4] at hb
 by_cases hc:(2<=k/\k<=8)/\(M<m\/m<loK k\/hiK k<M)
 ·rw[if_pos hc] at hb;exact absurd hb (by decide)
 have h1:¬ (M<m\/m<loK k\/hiK k<M):=fun hh=>hc ⟨by omega,hh⟩
 refine⟨by omega,by omega,fun h2=>?_⟩
 subst h2
 simp only[aY,aw,Bool.or_eq_false_iff] at hf
 simpa using hf.2.1
theorem w8 {k m M s:Int}{w:List (List UInt8)}{e:List Typ}{f:List TFd}{x:Val}{p:List UInt8}(hk:k=2\/k=3)(ho:bm (.mk k m M s w e f)=0)(h:aT 1 (.mk k m M s w e f) x p=[]):hH 82 (.mk k m M s w e f) x (gW x.num x.scale.toNat):=by
 obtain⟨h1,h2⟩:=eH h
 obtain⟨sc,rfl,hm,hM⟩:=pU ho hk
 have hs2:=(mC ho (by omega)).2.2
 have hno:¬ ((Typ.mk k m M (sc:Int) w e f).kind<1\/10<(Typ.mk k m M (sc:Int) w e f).kind\/¬ x.kind=(Typ.mk k m M (sc:Int) w e f).kind):=by
  rw[h1]
  intro hh
  rcases hh with a | a | a
  ·have:k<1:=a
   omega
  ·have:10<k:=a
   omega
  ·exact a rfl
 have hx:x.scale=(sc:Int)/\m<=x.num/\x.num<=M:=by
  rcases hk with rfl | rfl
  ·rw[aG,cU hno h2 (.inl rfl)] at h
   refine⟨?_,jZ h⟩
   have hs:=hs2 rfl
   obtain⟨vk,n,xs,tx,l,fs⟩:=x
   simp only[Val.kind,Typ.kind] at h1
   subst h1
   simp only[ae] at h2
   rw[if_neg (by decide),if_pos (.inl trivial)] at h2
   simp only[Bool.and_eq_true,decide_eq_true_eq] at h2
   simp only[Val.scale];omega
  ·by_cases hsc:x.scale=(Typ.mk 3 m M (sc:Int) w e f).scale
   ·rw[aG,ka hno h2 rfl hsc] at h
    exact⟨hsc,jZ h⟩
   ·rw[aG,ga hno h2 rfl hsc] at h;cases h
 obtain⟨hxs,hx1,hx2⟩:=hx
 have hN:IsN x.num sc:=by unfold IsN at *;omega
 have hle:=Jm sc hx1 hx2
 have hnum:=mF (k:=k) (m:=m) (M:=M) (w:=w) (e:=e) (f:=f) hN
 obtain⟨vk,n,xs,tx,l,fs⟩:=x
 simp only[Val.num,Val.scale,Val.kind,Typ.kind] at *
 subst hxs h1
 simp only[Int.toNat_natCast]
 refine⟨ww vk tx l fs hN,?_,by simp only[eW,if_pos hk,Int.toNat_natCast];exact hle⟩
 generalize gW n sc=T at *
 simp only[Typ.pv_mk] at hnum
 refine am.intro Q48.2 (by simp[Q48]) ?_
 rcases hk with rfl | rfl
 ·simp(disch:=try exact dI) only[Q48,Typ.pv_mk,Val.pv_mk,push_cast,seval]
  refine ab.pure hnum rfl ?_
  exact qsZ
 ·simp(disch:=try exact dI) only[Q48,Typ.pv_mk,Val.pv_mk,push_cast,seval]
  refine ab.pure hnum rfl ?_
  exact qsZ
theorem KN {m M s:Int}{w:List (List UInt8)}{e:List Typ}{f:List TFd}{x:Val}{p:List UInt8}(ho:bm (.mk 6 m M s w e f)=0)(h:aT 1 (.mk 6 m M s w e f) x p=[]):∃ tx,hH 87 (.mk 6 m M s w e f) x tx:=by
 obtain⟨h1,h2⟩:=eH h
 have hb:=mC ho (by omega)
 have hn:=Ax (.inr (.inl rfl)) h
 simp only[Typ.min,Typ.max] at hn
 rw[show loK 6 = -719162 from rfl,show hiK 6=2932896 from rfl] at hb
 obtain⟨y,mo,d,hD,hd⟩:=GF (n:=x.num+719162) (by omega) (by omega)
 have ht:=FY hD
 have hr:=xG hD
 have hl:=gu y mo d
 rw[<- hd,show x.num+719162 - 719162=x.num by omega] at ht hr
 refine⟨fg y mo d,?_,?_,by rw[hl,show eW (.mk 6 m M s w e f)=10 from rfl];decide⟩
 ·generalize fg y mo d=T at *
  obtain⟨vk,n,xs,tx,l,fs⟩:=x
  simp only[Val.num] at ht
  refine am.intro Q87.2 (by simp[Q87]) ?_
  simp(disch:=try exact dI) only[Q87,Val.pv_mk,push_cast,seval]
  refine ab.pure ht rfl ?_
  exact qsZ
 ·generalize fg y mo d=T at *
  obtain⟨vk,n,xs,tx,l,fs⟩:=x
  simp only[Val.num,Val.kind,Typ.kind] at hr h1
  subst h1
  refine am.intro Q48.2 (by simp[Q48]) ?_
  simp(disch:=try exact dI) only[Q48,Typ.pv_mk,Val.pv_mk,push_cast,seval]
  refine ab.pure hr rfl ?_
  exact qsZ
theorem w9 (t:List UInt8)(h mi s ms:Nat):(mj t h mi s ms).length<=t.length+14:=by
 unfold mj
 simp only[List.length_append,List.length_cons,List.length_nil,aQ]
 split<;>simp[aQ]<;>omega
theorem KM {m M s:Int}{w:List (List UInt8)}{e:List Typ}{f:List TFd}{x:Val}{p:List UInt8}(ho:bm (.mk 7 m M s w e f)=0)(h:aT 1 (.mk 7 m M s w e f) x p=[]):∃ tx,hH 89 (.mk 7 m M s w e f) x tx:=by
 obtain⟨h1,h2⟩:=eH h
 have hb:=mC ho (by omega)
 have hn:=Ax (.inr (.inr rfl)) h
 simp only[Typ.min,Typ.max] at hn
 rw[show loK 7 = -62135596800000 from rfl,show hiK 7=253402300799999 from rfl] at hb
 obtain⟨y,mo,d,hD,hd⟩:=GF (n:=x.num / 86400000+719162) (by omega) (by omega)
 obtain⟨r,hr⟩:∃ r:Nat,r=(x.num % 86400000).toNat:=⟨_,rfl⟩
 have e1:r / 3600000<=23:=by omega
 have e2:r / 60000 % 60<=59:=by omega
 have e3:r / 1000 % 60<=59:=by omega
 have e4:r % 1000<=999:=by omega
 have ht:=tn hD e1 e2 e3 e4
 have hrt:=CT hD e1 e2 e3 e4
 have hl:=gu y mo d
 have hl2:=w9 (fg y mo d) (r / 3600000) (r / 60000 % 60) (r / 1000 % 60) (r % 1000)
 have hx:(fR y mo d - 719162)*86400000+(((60*((r / 3600000:Nat):Int)+((r / 60000 % 60:Nat):Int))*60+((r / 1000 % 60:Nat):Int))*1000+((r % 1000:Nat):Int))=x.num:=by
  rw[<- hd];omega
 rw[hx] at ht hrt
 refine⟨mj (fg y mo d) (r / 3600000) (r / 60000 % 60) (r / 1000 % 60) (r % 1000),?_,?_,by rw[show eW (.mk 7 m M s w e f)=24 from rfl];omega⟩
 ·generalize mj (fg y mo d) (r / 3600000) (r / 60000 % 60) (r / 1000 % 60) (r % 1000)=T at *
  obtain⟨vk,n,xs,tx,l,fs⟩:=x
  simp only[Val.num] at ht
  refine am.intro Q89.2 (by simp[Q89]) ?_
  simp(disch:=try exact dI) only[Q89,Val.pv_mk,push_cast,seval]
  refine ab.pure ht rfl ?_
  exact qsZ
 ·generalize mj (fg y mo d) (r / 3600000) (r / 60000 % 60) (r / 1000 % 60) (r % 1000)=T at *
  obtain⟨vk,n,xs,tx,l,fs⟩:=x
  simp only[Val.num,Val.kind,Typ.kind] at hrt h1
  subst h1
  refine am.intro Q48.2 (by simp[Q48]) ?_
  simp(disch:=try exact dI) only[Q48,Typ.pv_mk,Val.pv_mk,push_cast,seval]
  refine ab.pure hrt rfl ?_
  exact qsZ
def wrF (k:Int):Nat:=if k=1 then 84 else if k=2 then 82 else if k=3 then 82 else if k=4 then 85 else if k=5 then 86 else if k=6 then 87 else 89
theorem Hi {t:Typ}{x:Val}{p:List UInt8}(ho:bm t=0)(hs:scB t.kind=true)(h:aT 1 t x p=[]):∃ tx,hH (wrF t.kind) t x tx/\(t.kind=4->tx=x.text):=by
 obtain⟨k,m,M,s,w,e,f⟩:=t
 have hk:1<=k/\k<=7:=by
  simp only[scB,Typ.kind,Bool.and_eq_true] at hs
  exact⟨of_decide_eq_true hs.1,of_decide_eq_true hs.2⟩
 have hc:k=1\/k=2\/k=3\/k=4\/k=5\/k=6\/k=7:=by omega
 rcases hc with rfl | rfl | rfl | rfl | rfl | rfl | rfl
 ·exact⟨_,KQ h,fun hh=>absurd hh (by simp[Typ.kind])⟩
 ·exact⟨_,w8 (.inl rfl) ho h,fun hh=>absurd hh (by simp[Typ.kind])⟩
 ·exact⟨_,w8 (.inr rfl) ho h,fun hh=>absurd hh (by simp[Typ.kind])⟩
 ·exact⟨_,KP h,fun _=>rfl⟩
 ·exact⟨_,KO ho h,fun hh=>absurd hh (by simp[Typ.kind])⟩
 ·obtain⟨tx,hx⟩:=KN ho h
  exact⟨tx,hx,fun hh=>absurd hh (by simp[Typ.kind])⟩
 ·obtain⟨tx,hx⟩:=KM ho h
  exact⟨tx,hx,fun hh=>absurd hh (by simp[Typ.kind])⟩
end Go.Proofs.YtbojpfpliibfbaaGreatDoor
-- many steps
namespace Go.Proofs.YtbojpfpliibfbaaGreatDoor
open Go Go.Ab
attribute [local irreducible] vc
def spS (n:Nat):List UInt8:=List.replicate n 32
theorem xw:∀ n,Lib.repeatL [32] n=spS n
 | 0=>rfl
 | n+1=>by rw[Lib.repeatL,xw n];rfl
def yI (k:Int)(s:List UInt8)(n:Int):List UInt8:=if k=2\/k=3 then spS (n - s.length).toNat++s else s++spS (n - s.length).toNat
theorem mA (k:Int)(s:List UInt8)(n:Int)(h:(s.length:Int)<=n):((yI k s n).length:Int)=n:=by
 unfold yI spS
 split
 ·rw[List.length_append,List.length_replicate];omega
 ·rw[List.length_append,List.length_replicate];omega
theorem xx (n:Nat):spS (n+1)=32::spS n:=rfl
theorem CK (n:Nat):spS (n+1)=spS n++[32]:=List.replicate_succ'
theorem Mr (k:Int)(s:List UInt8)(n:Int)(hs:s.length<=100000)(hn:n<=100000):am Tryz.prog az 49 [.int .i64 k,.str s,.int .i64 n] (.str (yI k s n)):=by
 have hr:=CU k
 refine am.intro Q49.2 (by simp[Q49]) ?_
 by_cases hk:k=2\/k=3
 ·rw[decide_eq_true hk] at hr
  rw[yI,if_pos hk]
  simp(disch:=try exact dI) only[Q49,push_cast,seval]
  refine au ([]) (fun j:Nat=>[(1,.pv (.str (spS j++s)))]) (fun _=>[]) (fun j=>j<=(n - s.length).toNat) (fun j=>(n - s.length).toNat - j) (0) ?_;intro e0 σ0 n0 h0;simp(disch:=try exact dI) only[push_cast,seval] at h0;obtain⟨rfl,rfl,rfl⟩:=h0;refine⟨?_,?_,?_⟩
  ·simp(disch:=try exact dI) only[spS,List.replicate_zero,List.nil_append,push_cast,seval]
  ·omega
  rintro j hj
  have hl:(((spS j++s).length:Nat):Int)=(j:Int)+(s.length:Int):=by rw[List.length_append,spS,List.length_replicate];omega
  by_cases hlt:j<(n - s.length).toNat
  ·have hc:(j:Int)+(s.length:Int)<n:=by omega
   have hf:spS (j+1)++s=32::(spS j++s):=by rw[xx];rfl
   generalize spS j++s=T at *
   simp(disch:=try exact dI) only[hl,hc,push_cast,seval]
   refine ab.pure hr rfl ?_
   refine zgZ ?_
   exact⟨j+1,aM (by simp(disch:=try exact dI) only[hf,push_cast,seval]),by omega,by omega⟩
  ·obtain rfl:j=(n - s.length).toNat:=by omega
   have hc:¬ (((n - s.length).toNat:Nat):Int)+(s.length:Int)<n:=by omega
   generalize spS (n - s.length).toNat++s=T at *
   simp(disch:=try exact dI) only[hl,hc,push_cast,seval]
 ·rw[decide_eq_false hk] at hr
  rw[yI,if_neg hk]
  simp(disch:=try exact dI) only[Q49,push_cast,seval]
  refine au ([]) (fun j:Nat=>[(1,.pv (.str (s++spS j)))]) (fun _=>[]) (fun j=>j<=(n - s.length).toNat) (fun j=>(n - s.length).toNat - j) (0) ?_;intro e0 σ0 n0 h0;simp(disch:=try exact dI) only[push_cast,seval] at h0;obtain⟨rfl,rfl,rfl⟩:=h0;refine⟨?_,?_,?_⟩
  ·simp(disch:=try exact dI) only[spS,List.replicate_zero,List.append_nil,push_cast,seval]
  ·omega
  rintro j hj
  have hl:(((s++spS j).length:Nat):Int)=(s.length:Int)+(j:Int):=by rw[List.length_append,spS,List.length_replicate];omega
  by_cases hlt:j<(n - s.length).toNat
  ·have hc:(s.length:Int)+(j:Int)<n:=by omega
   have hf:s++spS (j+1)=(s++spS j)++[32]:=by rw[CK,List.append_assoc]
   generalize s++spS j=T at *
   simp(disch:=try exact dI) only[hl,hc,push_cast,seval]
   refine ab.pure hr rfl ?_
   refine zgZ ?_
   exact⟨j+1,aM (by simp(disch:=try exact dI) only[hf,push_cast,seval]),by omega,by omega⟩
  ·obtain rfl:j=(n - s.length).toNat:=by omega
   have hc:¬ (s.length:Int)+(((n - s.length).toNat:Nat):Int)<n:=by omega
   generalize s++spS (n - s.length).toNat=T at *
   simp(disch:=try exact dI) only[hl,hc,push_cast,seval]
end Go.Proofs.YtbojpfpliibfbaaGreatDoor
-- many steps
namespace Go.Proofs.YtbojpfpliibfbaaGreatDoor
open Go Go.Ab
attribute [local irreducible] vc
def FTx (v:Val)(g:TFd)(tx:List UInt8):Prop:=(v.fields.find? (bc g.name)=none/\tx=[])\/∃ y,v.fields.find? (bc g.name)=some y/\hH (wrF g.typ.kind) g.typ y.value tx/\(g.typ.kind=4->tx=y.value.text)
def np (T:TFd->List UInt8):List TFd->List Int->List UInt8->List UInt8×Int
 | g::f,n::w,acc=>if g.typ.kind=4/\wrB (T g)=false then ([],6) else np T f w (acc++yI g.typ.kind (T g) n)
 | [],_,acc=>(acc,0)
 | _,[],acc=>(acc,0)
theorem oD {T:TFd->List UInt8}{f:List TFd}{w:List Int}{i:Nat}{g:TFd}{n:Int}(hg:f[i]? = some g)(hn:w[i]? = some n)(acc:List UInt8):np T (f.drop i) (w.drop i) acc=if g.typ.kind=4/\wrB (T g)=false then ([],6) else np T (f.drop (i+1)) (w.drop (i+1)) (acc++yI g.typ.kind (T g) n):=by
 obtain⟨hi,he⟩:=List.getElem?_eq_some_iff.1 hg
 obtain⟨hj,hf⟩:=List.getElem?_eq_some_iff.1 hn
 rw[List.drop_eq_getElem_cons hi,List.drop_eq_getElem_cons hj,he,hf,np]
theorem jn:∀ (f:List TFd) (w:List Int) (s:Int),f.length=w.length->oX f w s=0->∀ (i:Nat) (g:TFd) (n:Int),f[i]? = some g->w[i]? = some n->ii g n=0
 | [],_,_,_,_,i,g,n,hg,_=>by simp at hg
 | _::_,[],_,hl,_,i,g,n,_,hn=>by simp at hl
 | x::f,m::w,s,hl,h,i,g,n,hg,hn=>by
   rw[oX] at h
   by_cases h0:ii x m=0
   ·rw[if_pos h0] at h
    cases i with
    | zero=>simp at hg hn;subst hg hn;exact h0
    | succ i=>exact jn f w _ (by simpa using hl) h i g n (by simpa using hg) (by simpa using hn)
   ·rw[if_neg h0] at h;exact absurd h h0
theorem fD {g:TFd}{n:Int}(h:ii g n=0):1<=n/\n<=4096/\eW g.typ<=n:=by
 unfold ii at h
 by_cases c1:n<1\/4096<n
 ·rw[if_pos c1] at h;cases h
 rw[if_neg c1] at h
 by_cases c2:n<eW g.typ
 ·rw[if_pos c2] at h;cases h
 ·omega
theorem qZ {v:Val}{g:TFd}{tx:List UInt8}{n:Int}(h:FTx v g tx)(h1:1<=n)(h2:eW g.typ<=n):(tx.length:Int)<=n:=by
 rcases h with ⟨_,rfl⟩ | ⟨y,_,h3,_⟩
 ·simp;omega
 ·have:=h3.2.2;omega
theorem Cr {t:Typ}{v:Val}(h0:ni t=0)(ht:t.ok)(hfl:eF t=true)(hf:wi t v=true):∃ T:TFd->List UInt8,∀ g∈t.fields,FTx v g (T g):=by
 classical
 have key:∀ g∈t.fields,∃ tx,FTx v g tx:=fun g hg=>by
  have hty:=ln h0
  obtain⟨h9,_,hs⟩:=dP hfl
  have hsg:=hs g hg
  have hm:aT 2 t v []=[]:=by
   unfold wi at hf
   cases hm:aT 2 t v [] with
   | nil=>rfl
   | cons a b=>rw[hm] at hf;cases hf
  cases hfd:v.fields.find? (bc g.name) with
  | none=>exact⟨[],.inl ⟨hfd,rfl⟩⟩
  | some y=>
    have hown:bm g.typ=0:=by
     obtain⟨k,m,M,s,w,e,f⟩:=t
     exact lh (hty.2.2 (.inl h9) g hg).1
    have hmy:aT 1 g.typ y.value (cp [] g.name)=[]:=by
     rw[aG] at hm
     by_cases a:t.kind<1\/10<t.kind\/¬ v.kind=t.kind
     ·rw[eh a] at hm;cases hm
     ·cases b:ae v with
      | false=>rw[gL a b] at hm;cases hm
      | true=>
        rw[j9 a b h9,H4] at hm
        have h1:=(List.append_eq_nil_iff.1 hm).1
        have h2:=List.flatMap_eq_nil_iff.1 h1 g hg
        rw[eJ hfd] at h2
        exact h2
    obtain⟨tx,h1,h2⟩:=Hi hown hsg hmy
    exact⟨tx,.inr ⟨y,hfd,h1,h2⟩⟩
 exact⟨fun g=>if h:∃ tx,FTx v g tx then h.choose else [],fun g hg=>by
  have h:=key g hg
  simp only[dif_pos h]
  exact h.choose_spec⟩
theorem Aw {t:Typ}{v:Val}(h9:t.kind=9)(hf:wi t v=true):v.kind=9:=by
 unfold wi at hf
 by_cases a:t.kind<1\/10<t.kind\/¬ v.kind=t.kind
 ·rw[aG,eh a] at hf;cases hf
 ·omega
theorem fi {t:Typ}{w:List Int}(h:nk t w=0):flE t=0/\w.length=t.fields.length/\oX t.fields w 0=0:=by
 unfold nk at h
 by_cases he:flE t=0
 ·rw[if_pos he] at h
  by_cases h1:w.length<t.fields.length
  ·rw[if_pos h1] at h;cases h
  rw[if_neg h1] at h
  by_cases h2:t.fields.length<w.length
  ·rw[if_pos h2] at h;cases h
  rw[if_neg h2] at h
  exact⟨he,by omega,h⟩
 ·rw[if_neg he] at h;exact absurd h he
end Go.Proofs.YtbojpfpliibfbaaGreatDoor

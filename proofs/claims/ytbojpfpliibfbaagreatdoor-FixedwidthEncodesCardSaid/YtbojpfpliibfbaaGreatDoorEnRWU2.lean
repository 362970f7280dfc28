/- A part of the proof. -/
import Derived.Test.YtbojpfpliibfbaaGreatDoorEnRWU
set_option maxRecDepth 100000
set_option linter.unusedVariables false
set_option linter.unusedSimpArgs false
namespace Go.Proofs.YtbojpfpliibfbaaGreatDoor
open Go Go.Ab
attribute [local irreducible] vc
theorem qC {l:List UInt8}{i:Nat}(h:i<l.length):∃ b,l[i]? = some b:=⟨_,List.getElem?_eq_getElem h⟩
theorem A6 (l:List UInt8)(hmax:l.length<=9223372036854775807):am Tryz.prog az 174 [.str l] (.tup [.int .i64 (kE l).1,.int .i64 (kE l).2]):=by
 by_cases hne:l=[]
 ·subst hne;exact A7
 have hl0:0<l.length:=List.length_pos_iff.2 hne
 obtain⟨b,hb⟩:=qC hl0
 have h0:=f5 hb
 have hbl:b.toNat<256:=UInt8.toNat_lt _
 by_cases c1:b.toNat<128
 ·refine Qh l b hb c1 hmax (kE l) ?_
  rw[OJ hne (by omega),h0,if_pos (by omega),eX,if_pos (show dk l 1=true from rfl)]
  have e1:l.take 1=[b]:=by rw[aK hb];rfl
  have e2:o6 b.toNat=[b]:=by rw[o6,if_pos c1];simp
  have e3:i6 b.toNat=true:=by simp[i6];omega
  show _=if i6 b.toNat=true/\o6 b.toNat=l.take 1 then (b.toNat,1) else (0,0)
  rw[if_pos ⟨e3,by rw[e1,e2]⟩]
 by_cases c2:b.toNat<192
 ·have:=sB l b hb (.inl ⟨by omega,c2⟩)
  rwa [A8 hne (by omega)]
 by_cases c3:b.toNat<224
 ·refine Qg l b hb (b.toNat - 192) (by omega) ⟨by omega,c3⟩ hmax (kE l) ?_
  rw[OI hne (by omega),h0]
  by_cases hlen:2<=l.length
  ·obtain⟨c,hc⟩:=qC (l:=l) (i:=1) (by omega)
   have h1:=f5 hc
   rw[if_pos hlen,h1,eX]
   by_cases k1:128<=c.toNat/\c.toNat<192
   ·have hcu:dk l 2=true:=by simp[dk,fS,h1,k1]
    have hacc:accP l (b.toNat - 192) (2 - 1)=64*(b.toNat - 192)+(c.toNat - 128):=by simp[accP,h1]
    have henc:=Oy ⟨by omega,c3⟩ k1
    rw[if_pos hcu,hacc,F3 hb hc]
    have hpt:i6 (64*(b.toNat - 192)+(c.toNat - 128))=true:=by simp[i6];omega
    by_cases k2:128<=64*(b.toNat - 192)+(c.toNat - 128)
    ·rw[if_pos ⟨by omega,k1,k2⟩,if_pos ⟨hpt,henc.2 k2⟩]
    ·rw[if_neg (fun h=>k2 h.2.2),if_neg (fun h=>k2 (henc.1 h.2))]
   ·have hcu:dk l 2=false:=by
     refine bi (k:=0) ?_ (by omega)
     simp[h1];omega
    rw[if_neg (fun h=>k1 h.2.1),if_neg (by rw[hcu];simp)]
  ·rw[if_neg hlen,if_neg (by omega)]
 by_cases c4:b.toNat<240
 ·refine Qf l b hb (b.toNat - 224) (by omega) ⟨by omega,c4⟩ hmax (kE l) ?_
  rw[OH hne (by omega),h0]
  by_cases hlen:3<=l.length
  ·obtain⟨c,hc⟩:=qC (l:=l) (i:=1) (by omega)
   obtain⟨d,hd⟩:=qC (l:=l) (i:=2) (by omega)
   have h1:=f5 hc
   have h2:=f5 hd
   rw[if_pos hlen,h1,h2,eX]
   by_cases k1:128<=c.toNat/\c.toNat<192
   ·by_cases k2:128<=d.toNat/\d.toNat<192
    ·have hcu:dk l 3=true:=by simp[dk,fS,h1,h2,k1,k2]
     have hacc:accP l (b.toNat - 224) (3 - 1)=4096*(b.toNat - 224)+64*(c.toNat - 128)+(d.toNat - 128):=by simp[accP,h1,h2];omega
     have henc:=Ox ⟨by omega,c4⟩ k1 k2
     rw[if_pos hcu,hacc,F0 hb hc hd]
     have hp:4096*(b.toNat - 224)+64*(c.toNat - 128)+(d.toNat - 128)<=65535:=by omega
     generalize 4096*(b.toNat - 224)+64*(c.toNat - 128)+(d.toNat - 128)=p at *
     have hpt:i6 p=true↔(p<55296\/57343<p):=by simp[i6];omega
     by_cases k3:2048<=p/\(p<55296\/57343<p)
     ·rw[if_pos ⟨by omega,k1,k2,k3⟩,if_pos ⟨hpt.2 k3.2,henc.2 k3.1⟩]
     ·rw[if_neg (fun h=>k3 h.2.2.2),if_neg (fun h=>k3 ⟨henc.1 h.2,hpt.1 h.1⟩)]
    ·have hcu:dk l 3=false:=by
      refine bi (k:=1) ?_ (by omega)
      simp[h2];omega
     rw[if_neg (fun h=>k2 h.2.2.1),if_neg (by rw[hcu];simp)]
   ·have hcu:dk l 3=false:=by
     refine bi (k:=0) ?_ (by omega)
     simp[h1];omega
    rw[if_neg (fun h=>k1 h.2.1),if_neg (by rw[hcu];simp)]
  ·rw[if_neg hlen,if_neg (by omega)]
 by_cases c5:b.toNat<248
 ·refine Qe l b hb (b.toNat - 240) (by omega) ⟨by omega,c5⟩ hmax (kE l) ?_
  rw[OG hne (by omega),h0]
  by_cases hlen:4<=l.length
  ·obtain⟨c,hc⟩:=qC (l:=l) (i:=1) (by omega)
   obtain⟨d,hd⟩:=qC (l:=l) (i:=2) (by omega)
   obtain⟨e,he⟩:=qC (l:=l) (i:=3) (by omega)
   have h1:=f5 hc
   have h2:=f5 hd
   have h3:=f5 he
   rw[if_pos hlen,h1,h2,h3,eX]
   by_cases k1:128<=c.toNat/\c.toNat<192
   ·by_cases k2:128<=d.toNat/\d.toNat<192
    ·by_cases k3:128<=e.toNat/\e.toNat<192
     ·have hcu:dk l 4=true:=by simp[dk,fS,h1,h2,h3,k1,k2,k3]
      have hacc:accP l (b.toNat - 240) (4 - 1)=262144*(b.toNat - 240)+4096*(c.toNat - 128)+64*(d.toNat - 128)+(e.toNat - 128):=by simp[accP,h1,h2,h3];omega
      have henc:=Ow ⟨by omega,c5⟩ k1 k2 k3
      rw[if_pos hcu,hacc,KR hb hc hd he]
      have hp:262144*(b.toNat - 240)+4096*(c.toNat - 128)+64*(d.toNat - 128)+(e.toNat - 128)<=2097151:=by omega
      generalize 262144*(b.toNat - 240)+4096*(c.toNat - 128)+64*(d.toNat - 128)+(e.toNat - 128)=p at *
      by_cases k5:p<=1114111
      ·have henc:=henc k5
       by_cases k4:65536<=p
       ·have hpt:i6 p=true:=by simp[i6];omega
        rw[if_pos ⟨by omega,k1,k2,k3,k4,k5⟩,if_pos ⟨hpt,henc.2 k4⟩]
       ·rw[if_neg (fun h=>k4 h.2.2.2.2.1),if_neg (fun h=>k4 (henc.1 h.2))]
      ·have hpt:¬ i6 p=true:=by simp[i6];omega
       rw[if_neg (fun h=>k5 h.2.2.2.2.2),if_neg (fun h=>hpt h.1)]
     ·have hcu:dk l 4=false:=by
       refine bi (k:=2) ?_ (by omega)
       simp[h3];omega
      rw[if_neg (fun h=>k3 h.2.2.2.1),if_neg (by rw[hcu];simp)]
    ·have hcu:dk l 4=false:=by
      refine bi (k:=1) ?_ (by omega)
      simp[h2];omega
     rw[if_neg (fun h=>k2 h.2.2.1),if_neg (by rw[hcu];simp)]
   ·have hcu:dk l 4=false:=by
     refine bi (k:=0) ?_ (by omega)
     simp[h1];omega
    rw[if_neg (fun h=>k1 h.2.1),if_neg (by rw[hcu];simp)]
  ·rw[if_neg hlen,if_neg (by omega)]
 ·have:=sB l b hb (.inr (by omega))
  rwa [A8 hne (by omega)]
def eU (l:List UInt8):Nat->Nat->Int
 | 0,_=>-1
 | f+1,m=>if m<l.length then (if (kE (l.drop m)).2=0 then (m:Int) else eU l f (m+(kE (l.drop m)).2)) else -1
theorem ft (l:List UInt8):∀ (f m:Nat),l.length - m<=f->m<=l.length->(Lib.validD (l.drop m)=true->eU l f m = -1)/\(Lib.validD (l.drop m)=false->0<=eU l f m)
 | 0,m,h,hm=>by
   have e:l.drop m=[]:=List.drop_eq_nil_of_le (by omega)
   rw[e,Lib.validD_nil]
   exact⟨fun _=>rfl,fun h=>by cases h⟩
 | f+1,m,h,hm=>by
   by_cases hlt:m<l.length
   ·have hne:l.drop m≠[]:=by intro e;have:=congrArg List.length e;rw[List.length_drop,List.length_nil] at this;omega
    rw[tk hne,eU,if_pos hlt]
    by_cases hw:(kE (l.drop m)).2=0
    ·rw[if_pos hw,if_pos hw]
     exact⟨fun h=>(by cases h),fun _=>by omega⟩
    ·rw[if_neg hw,if_neg hw,List.drop_drop]
     have hle:=GC (l.drop m)
     rw[List.length_drop] at hle
     have:=ft l f (m+(kE (l.drop m)).2) (by omega) (by omega)
     exact this
   ·have e:l.drop m=[]:=List.drop_eq_nil_of_le (by omega)
    rw[e,Lib.validD_nil,eU,if_neg hlt]
    exact⟨fun _=>rfl,fun h=>by cases h⟩
theorem Ay (l:List UInt8)(hmax:l.length<=9223372036854775807):am Tryz.prog az 115 [.str l] (.int .i64 (eU l l.length 0)):=by
 refine am.intro PM.2 (by simp[PM]) ?_
 generalize hZ:eU l l.length 0=Z
 simp(disch:=try exact dI) only[PM,push_cast,seval]
 refine au ([]) (fun m:Nat=>[(3,.pv (.int .i64 (m:Int)))]) (fun m=>[]) (fun m=>m<=l.length/\∃ f,l.length - m<=f/\Z=eU l f m) (fun m=>l.length - m) (0) ?_;intro e0 σ0 n0 h0;simp(disch:=try exact dI) only[push_cast,seval] at h0;obtain⟨rfl,rfl,rfl⟩:=h0;refine⟨?_,?_,?_⟩
 ·exact qsZ
 ·exact⟨by omega,l.length,by omega,hZ.symm⟩
 ·rintro m ⟨hm,f,hf,he⟩
  by_cases hlt:m<l.length
  ·have hltI:(m:Int)<l.length:=by omega
   have hcall:=A6 (l.drop m) (by rw[List.length_drop];omega)
   have hle:=GC (l.drop m)
   rw[List.length_drop] at hle
   obtain⟨f',rfl⟩:∃ f',f=f'+1:=⟨f - 1,by omega⟩
   rw[eU,if_pos hlt] at he
   generalize hw:kE (l.drop m)=w at *
   obtain⟨w1,w2⟩:=w
   simp only at hcall hle he
   simp(disch:=try exact dI) only[List.take_length,push_cast,seval]
   refine ab.pure hcall rfl ?_
   by_cases h0:w2=0
   ·have h0I:(w2:Int)=0:=by omega
    rw[if_pos h0] at he
    rw[he]
    exact qsZ
   ·have h0I:¬ (w2:Int)=0:=by omega
    rw[if_neg h0] at he
    refine zgZ ?_
    exact⟨m+w2,aM qsZ,⟨by omega,f',by omega,he⟩,by omega⟩
  ·have hltI:¬ (m:Int)<l.length:=by omega
   have:Z = -1:=by
    rw[he]
    cases f with
    | zero=>rfl
    | succ f=>rw[eU,if_neg hlt]
   rw[this]
   exact qsZ
end Go.Proofs.YtbojpfpliibfbaaGreatDoor

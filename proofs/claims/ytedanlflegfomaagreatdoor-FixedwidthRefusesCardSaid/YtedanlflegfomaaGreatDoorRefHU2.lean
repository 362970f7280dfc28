/- A part of the proof for FixedwidthRefusesCardSaid. -/
import Derived.Test.YtedanlflegfomaaGreatDoorRefHU
set_option maxRecDepth 100000
set_option linter.unusedVariables false
set_option linter.unusedSimpArgs false
namespace Go.Proofs.YtedanlflegfomaaGreatDoor
open Go Go.Ab
attribute [local irreducible] vc
theorem mQ {l:List UInt8}{i:Nat}(h:i<l.length):∃ b,l[i]? = some b:=⟨_,List.getElem?_eq_getElem h⟩
theorem vD (l:List UInt8)(hmax:l.length≤9223372036854775807):aq Tryz.prog aA 119 [.str l] (.tup [.int .i64 (gS l).1,.int .i64 (gS l).2]):=by
 by_cases hne:l=[]
 ·subst hne;exact vE
 have hl0:0<l.length:=List.length_pos_iff.2 hne
 obtain⟨b,hb⟩:=mQ hl0
 have h0:=dY hb
 have hbl:b.toNat<256:=UInt8.toNat_lt _
 by_cases c1:b.toNat<128
 ·refine JP l b hb c1 hmax (gS l) ?_
  rw[IT hne (by omega),h0,if_pos (by omega),de,if_pos (show bQ l 1=true from rfl)]
  have e1:l.take 1=[b]:=by rw[a8 hb];rfl
  have e2:lz b.toNat=[b]:=by rw[lz,if_pos c1];simp
  have e3:fG b.toNat=true:=by simp[fG];omega
  show _=if fG b.toNat=true∧lz b.toNat=l.take 1 then (b.toNat,1) else (0,0)
  rw[if_pos ⟨e3,by rw[e1,e2]⟩]
 by_cases c2:b.toNat<192
 ·have:=og l b hb (.inl ⟨by omega,c2⟩)
  rwa [vF hne (by omega)]
 by_cases c3:b.toNat<224
 ·refine JO l b hb (b.toNat - 192) (by omega) ⟨by omega,c3⟩ hmax (gS l) ?_
  rw[IS hne (by omega),h0]
  by_cases hlen:2≤l.length
  ·obtain⟨c,hc⟩:=mQ (l:=l) (i:=1) (by omega)
   have h1:=dY hc
   rw[if_pos hlen,h1,de]
   by_cases k1:128≤c.toNat∧c.toNat<192
   ·have hcu:bQ l 2=true:=by simp[bQ,dR,h1,k1]
    have hacc:accP l (b.toNat - 192) (2 - 1)=64*(b.toNat - 192)+(c.toNat - 128):=by simp[accP,h1]
    have henc:=II ⟨by omega,c3⟩ k1
    rw[if_pos hcu,hacc,A7 hb hc]
    have hpt:fG (64*(b.toNat - 192)+(c.toNat - 128))=true:=by simp[fG];omega
    by_cases k2:128≤64*(b.toNat - 192)+(c.toNat - 128)
    ·rw[if_pos ⟨by omega,k1,k2⟩,if_pos ⟨hpt,henc.2 k2⟩]
    ·rw[if_neg (fun h=>k2 h.2.2),if_neg (fun h=>k2 (henc.1 h.2))]
   ·have hcu:bQ l 2=false:=by
     refine aT (k:=0) ?_ (by omega)
     simp[h1];omega
    rw[if_neg (fun h=>k1 h.2.1),if_neg (by rw[hcu];simp)]
  ·rw[if_neg hlen,if_neg (by omega)]
 by_cases c4:b.toNat<240
 ·refine JN l b hb (b.toNat - 224) (by omega) ⟨by omega,c4⟩ hmax (gS l) ?_
  rw[IR hne (by omega),h0]
  by_cases hlen:3≤l.length
  ·obtain⟨c,hc⟩:=mQ (l:=l) (i:=1) (by omega)
   obtain⟨d,hd⟩:=mQ (l:=l) (i:=2) (by omega)
   have h1:=dY hc
   have h2:=dY hd
   rw[if_pos hlen,h1,h2,de]
   by_cases k1:128≤c.toNat∧c.toNat<192
   ·by_cases k2:128≤d.toNat∧d.toNat<192
    ·have hcu:bQ l 3=true:=by simp[bQ,dR,h1,h2,k1,k2]
     have hacc:accP l (b.toNat - 224) (3 - 1)=4096*(b.toNat - 224)+64*(c.toNat - 128)+(d.toNat - 128):=by simp[accP,h1,h2];omega
     have henc:=IH ⟨by omega,c4⟩ k1 k2
     rw[if_pos hcu,hacc,A6 hb hc hd]
     have hp:4096*(b.toNat - 224)+64*(c.toNat - 128)+(d.toNat - 128)≤65535:=by omega
     generalize 4096*(b.toNat - 224)+64*(c.toNat - 128)+(d.toNat - 128)=p at *
     have hpt:fG p=true↔(p<55296∨57343<p):=by simp[fG];omega
     by_cases k3:2048≤p∧(p<55296∨57343<p)
     ·rw[if_pos ⟨by omega,k1,k2,k3⟩,if_pos ⟨hpt.2 k3.2,henc.2 k3.1⟩]
     ·rw[if_neg (fun h=>k3 h.2.2.2),if_neg (fun h=>k3 ⟨henc.1 h.2,hpt.1 h.1⟩)]
    ·have hcu:bQ l 3=false:=by
      refine aT (k:=1) ?_ (by omega)
      simp[h2];omega
     rw[if_neg (fun h=>k2 h.2.2.1),if_neg (by rw[hcu];simp)]
   ·have hcu:bQ l 3=false:=by
     refine aT (k:=0) ?_ (by omega)
     simp[h1];omega
    rw[if_neg (fun h=>k1 h.2.1),if_neg (by rw[hcu];simp)]
  ·rw[if_neg hlen,if_neg (by omega)]
 by_cases c5:b.toNat<248
 ·refine JM l b hb (b.toNat - 240) (by omega) ⟨by omega,c5⟩ hmax (gS l) ?_
  rw[IQ hne (by omega),h0]
  by_cases hlen:4≤l.length
  ·obtain⟨c,hc⟩:=mQ (l:=l) (i:=1) (by omega)
   obtain⟨d,hd⟩:=mQ (l:=l) (i:=2) (by omega)
   obtain⟨e,he⟩:=mQ (l:=l) (i:=3) (by omega)
   have h1:=dY hc
   have h2:=dY hd
   have h3:=dY he
   rw[if_pos hlen,h1,h2,h3,de]
   by_cases k1:128≤c.toNat∧c.toNat<192
   ·by_cases k2:128≤d.toNat∧d.toNat<192
    ·by_cases k3:128≤e.toNat∧e.toNat<192
     ·have hcu:bQ l 4=true:=by simp[bQ,dR,h1,h2,h3,k1,k2,k3]
      have hacc:accP l (b.toNat - 240) (4 - 1)=262144*(b.toNat - 240)+4096*(c.toNat - 128)+64*(d.toNat - 128)+(e.toNat - 128):=by simp[accP,h1,h2,h3];omega
      have henc:=IG ⟨by omega,c5⟩ k1 k2 k3
      rw[if_pos hcu,hacc,E2 hb hc hd he]
      have hp:262144*(b.toNat - 240)+4096*(c.toNat - 128)+64*(d.toNat - 128)+(e.toNat - 128)≤2097151:=by omega
      generalize 262144*(b.toNat - 240)+4096*(c.toNat - 128)+64*(d.toNat - 128)+(e.toNat - 128)=p at *
      by_cases k5:p≤1114111
      ·have henc:=henc k5
       by_cases k4:65536≤p
       ·have hpt:fG p=true:=by simp[fG];omega
        rw[if_pos ⟨by omega,k1,k2,k3,k4,k5⟩,if_pos ⟨hpt,henc.2 k4⟩]
       ·rw[if_neg (fun h=>k4 h.2.2.2.2.1),if_neg (fun h=>k4 (henc.1 h.2))]
      ·have hpt:¬ fG p=true:=by simp[fG];omega
       rw[if_neg (fun h=>k5 h.2.2.2.2.2),if_neg (fun h=>hpt h.1)]
     ·have hcu:bQ l 4=false:=by
       refine aT (k:=2) ?_ (by omega)
       simp[h3];omega
      rw[if_neg (fun h=>k3 h.2.2.2.1),if_neg (by rw[hcu];simp)]
    ·have hcu:bQ l 4=false:=by
      refine aT (k:=1) ?_ (by omega)
      simp[h2];omega
     rw[if_neg (fun h=>k2 h.2.2.1),if_neg (by rw[hcu];simp)]
   ·have hcu:bQ l 4=false:=by
     refine aT (k:=0) ?_ (by omega)
     simp[h1];omega
    rw[if_neg (fun h=>k1 h.2.1),if_neg (by rw[hcu];simp)]
  ·rw[if_neg hlen,if_neg (by omega)]
 ·have:=og l b hb (.inr (by omega))
  rwa [vF hne (by omega)]
def dc (l:List UInt8):Nat→Nat→Int
 | 0,_=>-1
 | f+1,m=>if m<l.length then (if (gS (l.drop m)).2=0 then (m:Int) else dc l f (m+(gS (l.drop m)).2)) else -1
theorem dr (l:List UInt8):∀ (f m:Nat),l.length - m≤f→m≤l.length→(Lib.validD (l.drop m)=true→dc l f m = -1)∧(Lib.validD (l.drop m)=false→0≤dc l f m)
 | 0,m,h,hm=>by
   have e:l.drop m=[]:=List.drop_eq_nil_of_le (by omega)
   rw[e,Lib.validD_nil]
   exact⟨fun _=>rfl,fun h=>by cases h⟩
 | f+1,m,h,hm=>by
   by_cases hlt:m<l.length
   ·have hne:l.drop m≠[]:=by intro e;have:=congrArg List.length e;rw[List.length_drop,List.length_nil] at this;omega
    rw[oF hne,dc,if_pos hlt]
    by_cases hw:(gS (l.drop m)).2=0
    ·rw[if_pos hw,if_pos hw]
     exact⟨fun h=>(by cases h),fun _=>by omega⟩
    ·rw[if_neg hw,if_neg hw,List.drop_drop]
     have hle:=Bz (l.drop m)
     rw[List.length_drop] at hle
     have:=dr l f (m+(gS (l.drop m)).2) (by omega) (by omega)
     exact this
   ·have e:l.drop m=[]:=List.drop_eq_nil_of_le (by omega)
    rw[e,Lib.validD_nil,dc,if_neg hlt]
    exact⟨fun _=>rfl,fun h=>by cases h⟩
theorem uW (l:List UInt8)(hmax:l.length≤9223372036854775807):aq Tryz.prog aA 74 [.str l] (.int .i64 (dc l l.length 0)):=by
 refine aq.intro G8 (by simp[F74]) ?_
 generalize hZ:dc l l.length 0=Z
 simp(disch:=first|exact dI|fail) only[F74,push_cast,seval]
 refine az ([]) (fun m:Nat=>[(3,.pv (.int .i64 (m:Int)))]) (fun m=>[]) (fun m=>m≤l.length∧∃ f,l.length - m≤f∧Z=dc l f m) (fun m=>l.length - m) (0) ?_;intro e0 σ0 n0 h0;simp(disch:=first|exact dI|fail) only[push_cast,seval] at h0;obtain⟨rfl,rfl,rfl⟩:=h0;refine⟨?_,?_,?_⟩
 ·simp(disch:=first|exact dI|fail) only[push_cast,seval]
 ·exact⟨by omega,l.length,by omega,hZ.symm⟩
 ·rintro m ⟨hm,f,hf,he⟩
  by_cases hlt:m<l.length
  ·have hltI:(m:Int)<l.length:=by omega
   have hcall:=vD (l.drop m) (by rw[List.length_drop];omega)
   have hle:=Bz (l.drop m)
   rw[List.length_drop] at hle
   obtain⟨f',rfl⟩:∃ f',f=f'+1:=⟨f - 1,by omega⟩
   rw[dc,if_pos hlt] at he
   generalize hw:gS (l.drop m)=w at *
   obtain⟨w1,w2⟩:=w
   simp only at hcall hle he
   simp(disch:=first|exact dI|fail) only[List.take_length,push_cast,seval]
   refine ae.pure hcall rfl ?_
   by_cases h0:w2=0
   ·have h0I:(w2:Int)=0:=by omega
    rw[if_pos h0] at he
    rw[he]
    simp(disch:=first|exact dI|fail) only[push_cast,seval]
   ·have h0I:¬ (w2:Int)=0:=by omega
    rw[if_neg h0] at he
    simp(disch:=first|exact dI|fail) only[push_cast,seval]
    exact⟨m+w2,bl (by simp(disch:=first|exact dI|fail) only[push_cast,seval]),⟨by omega,f',by omega,he⟩,by omega⟩
  ·have hltI:¬ (m:Int)<l.length:=by omega
   have:Z = -1:=by
    rw[he]
    cases f with
    | zero=>rfl
    | succ f=>rw[dc,if_neg hlt]
   rw[this]
   simp(disch:=first|exact dI|fail) only[push_cast,seval]
end Go.Proofs.YtedanlflegfomaaGreatDoor

/- A part. -/
import Derived.Shelf.Strings.IndexAnyAll
import Derived.Shelf.Small.Utf8
import Derived.Laws.RangeAny
import Derived.Laws.Runes
import Derived.WalkMore
import Derived.Laws.Strings3
import Derived.Shelf.RegionOpenPlain
import Derived.WalkKit
import Derived.Deep.LoopGhost
import Derived.Deep.Draws
import Derived.Lib.OthersKept
import Derived.Lib.CountLaws
import Derived.Lib.SplitLaws
import Derived.Test.YtbaaokocnegdoaaGreatDoorEnV6
set_option linter.unusedVariables false
set_option linter.unusedSimpArgs false
set_option maxHeartbeats 16000000
open Nat renaming le_refl->Vw
open List renaming take->Wt,mem_of_mem_take->VU,getElem?_of_mem->Wl
open Bool renaming and_eq_true->Vr
namespace Go.Ab
open Go Go.Shelf Go.RowKit Go.Lib Go.Proofs
variable {P:Program}{ρ:Ren}
theorem eZ {l:List UInt8}{c:UInt8}(h:∀ b,b∈l->b≠c):Lib.indexByte l c = -1:=by
 have h1:=Lib.contains_iff_indexByte l c
 have h2:=Lib.indexByte_ge l c
 have h3:l.contains c=false:=by
  rw[Bool.eq_false_iff]
  intro hc
  rw[List.contains_iff_mem] at hc
  exact h c hc rfl
 rw[h3] at h1
 have:=of_decide_eq_false h1.symm
 omega
set_option maxRecDepth 1000000 in
theorem pa (L:Lays.n152 P ρ)(s:ByteArray)(w:World)(hascii:∀ (j:Nat) b,s.data.toList[j]? = some b->b.toNat<128) :
  Calls P (ρ.f 152) #[.string s,.int .i32 65533] w fun e w'=>e = .returned (.int .i64 (-1))/\Below w.heap.size w w':=by
 have HA:Aside (∀ (j:Nat) b,s.data.toList[j]? = some b->b.toNat<128):=hascii
 clear hascii
 have t3:=L.t3;have a3:=L.a3;have z3:=L.z3;have v3:=L.v3
 have t4:=L.t4;have a4:=L.a4;have z4:=L.z4;have v4:=L.v4
 have t5:=L.t5;have a5:=L.a5;have z5:=L.z5;have v5:=L.v5
 have t9:=L.t9;have a9:=L.a9;have z9:=L.z9;have v9:=L.v9
 have t21:=L.t21;have a21:=L.a21;have z21:=L.z21;have v21:=L.v21
 go_enter L.f152,Body.n152_ntmps ρ
 go_wp2
 go_loopg [5,6] s.size (fun g _ _ wx=>∃ i:Nat,i+g=s.size/\wx=w.iter s i)
 case atStart=>exact⟨0,by omega,rfl⟩
 case round=>
  obtain⟨i,hig,rfl⟩:=hrel
  cases gk with
  | zero=>
    obtain rfl:i=s.size:=by omega
    have hnx:=run_next_end (P:=P) w s s.size
    go_wp2
    go_ret
    exact⟨rfl,(Below.refl _ _).alloc (Vw _) _⟩
  | succ g=>
    have hi:i<s.size:=by omega
    obtain⟨x,hx⟩:∃ x:UInt8,s[i]'hi=x:=⟨_,rfl⟩
    have hxl:s.data.toList[i]? = some x:=by rw[<- hx];exact Lib.data_getElem? s i hi
    have hx128:x.toNat<128:=HA.out i x hxl
    have hnx:=fun ty=>run_next_ascii (P:=P) w s i ty hi (by rw[hx];exact hx128)
    rw[hx] at hnx
    clear hxl hx
    go_wp2
    go_roundg g
    case measure=>omega
    case rel=>exact⟨i+1,by omega,rfl⟩
set_option maxRecDepth 1000000 in
theorem nk (L:Lays.n152 P ρ)(s:ByteArray)(r:Int)(w:World)(h1:128<=r)(h2:r<=2147483647)(h3:r≠65533)(hascii:∀ (j:Nat) b,s.data.toList[j]? = some b->b.toNat<128) :
  Calls P (ρ.f 152) #[.string s,.int .i32 r] w fun e w'=>e = .returned (.int .i64 (-1))/\Below w.heap.size w w':=by
 have HA:Aside (∀ (j:Nat) b,s.data.toList[j]? = some b->b.toNat<128):=hascii
 clear hascii
 have t3:=L.t3;have a3:=L.a3;have z3:=L.z3;have v3:=L.v3
 have t4:=L.t4;have a4:=L.a4;have z4:=L.z4;have v4:=L.v4
 have t5:=L.t5;have a5:=L.a5;have z5:=L.z5;have v5:=L.v5
 have t9:=L.t9;have a9:=L.a9;have z9:=L.z9;have v9:=L.v9
 have t21:=L.t21;have a21:=L.a21;have z21:=L.z21;have v21:=L.v21
 have mixed:=L.mixed
 have u3:=run_underlying L.t3;have u4:=run_underlying L.t4;have u5:=run_underlying L.t5;have u9:=run_underlying L.t9;have u21:=run_underlying L.t21
 have e137:∀ args w,(callFunc (ρ.f 137) args).run P w = .ok (.enter (ρ.f 137) args) w:=enters_of L.f137 (by kernel_rfl) rfl
 have e119:∀ args w,(callFunc (ρ.f 119) args).run P w = .ok (.enter (ρ.f 119) args) w:=enters_of L.f119 (by kernel_rfl) rfl
 have hr1:¬ r<128:=by omega
 have hr2:(r == 65533)=false:=beq_eq_false_iff_ne.2 h3
 go_enter L.f152,Body.n152_ntmps ρ
 cases hv:Lib.validRune r with
 | false=>
   go_wp2_with (go_at_fn (ρ.f 119);refine (Any.utf8_ValidRune { L with } r _).mono ?_;rintro e w' ⟨rfl,hw⟩;rw[hw,hv])
   go_ret
   exact⟨rfl,Below.refl _ _⟩
 | true=>
   obtain⟨f1,f2,f3⟩:=encode_facts r (by rw[validRune_eq];simpa[Go.validRune,Lib.validRune] using hv) h1
   obtain⟨k,hk⟩:∃ k,(Utf8.encode r).size=k+1:=⟨(Utf8.encode r).size - 1,by omega⟩
   have hkl:k<=3/\1<=k:=by omega
   have hw1:wrap64 (((k+1:Nat):Int) - 1)=(k:Int):=by unfold wrap64;omega
   obtain⟨rs,hrs⟩:∃ rs,rs=Utf8.encode r:=⟨_,rfl⟩
   rw[<- hrs] at f1 f2 f3 hk
   have hk1:k<rs.size:=hk▸Nat.lt_succ_self k
   have hconv:∀ w',(convert (ρ.t 21) (ρ.t 9) (.int .i32 r)).run P w' = .ok (.string rs) w':=fun w'=>by
    rw[hrs];exact run_convert_int_string w' _ _ _ _ (by rw[t21];rfl) t9
   have hc:128<=(rs[k]'hk1).toNat:=by
    have:=f3 (by omega)
    simpa[hk] using this
   obtain⟨c,hcx⟩:∃ c:UInt8,rs[k]'hk1=c:=⟨_,rfl⟩
   rw[hcx] at hc
   clear f1 f2 f3
   go_wp2_with (go_at_fn (ρ.f 119);refine (Any.utf8_ValidRune { L with } r _).mono ?_;rintro e w' ⟨rfl,hw⟩;rw[hw,hv])
   go_step3
   go_wp2
   rw[<- hrs,hk,hw1]
   clear hrs hconv hw1
   go_loopg [9,10] 1 (fun g s9 s10 wx=>g=1/\s9 = .int .i64 (k:Int)/\wx=w)
   case atStart=>exact⟨rfl,rfl,rfl⟩
   case round=>
    obtain⟨rfl,rfl,rfl⟩:=hrel
    by_cases hlt:k<s.size
    ·obtain⟨x,hx⟩:∃ x:UInt8,s[k]'hlt=x:=⟨_,rfl⟩
     have hxl:s.data.toList[k]? = some x:=by rw[<- hx];exact Lib.data_getElem? s k hlt
     have hx128:x.toNat<128:=HA.out k x hxl
     have hk2:(k:Int)<(rs.size:Int):=by omega
     have hlt2:(k:Int)<(s.size:Int):=by omega
     have hk0:(0:Int)<=(k:Int):=by omega
     have hk5:k+1<=s.size:=hlt
     have hk6:(k:Int)+1<=(s.size:Int):=by omega
     have hk7:(0:Int)<=(k:Int)+1:=by omega
     have hne:((x.toNat:Int) == (c.toNat:Int))=false:=beq_eq_false_iff_ne.2 (by omega)
     have hk123:k=1\/k=2\/k=3:=by omega
     clear hk5 hk6 hk7 hk2 hlt2 hk0
     rcases hk123 with rfl | rfl | rfl
     ·have hq:(2:Int)<=(s.size:Int):=by omega
      have hw2:IntKind.i64.wrap 2=2:=by decide
      have hix:Lib.indexByte (Wt (s.size - 2) (List.drop 2 s.data.toList)) c = -1:=by
       refine eZ fun b hb=>?_
       have hb2:=List.mem_of_mem_drop (VU hb)
       obtain⟨j,hj⟩:=Wl hb2
       have:=HA.out j b hj
       intro e
       rw[e] at this
       omega
      go_wp2_with fail
      go_step3
      go_wp2_with fail
      go_region_o
      go_wp2_with fail
      go_region_with_o (first | (go_at_fn (ρ.f 137);refine (Any.strings_IndexByte { L with } _ _ _).mono ?_;rintro e w' ⟨rfl,hw⟩;rw[hw]))
      go_wp2
      rw[Exit.noGoto_ret]
      go_wp2
      rw[Exit.noGoto_ret]
      go_ret
      exact⟨rfl,(Below.drew (Below.refl _ _)).drew⟩
     ·have hq:(3:Int)<=(s.size:Int):=by omega
      have hw2:IntKind.i64.wrap 3=3:=by decide
      have hix:Lib.indexByte (Wt (s.size - 3) (List.drop 3 s.data.toList)) c = -1:=by
       refine eZ fun b hb=>?_
       have hb2:=List.mem_of_mem_drop (VU hb)
       obtain⟨j,hj⟩:=Wl hb2
       have:=HA.out j b hj
       intro e
       rw[e] at this
       omega
      go_wp2_with fail
      go_step3
      go_wp2_with fail
      go_region_o
      go_wp2_with fail
      go_region_with_o (first | (go_at_fn (ρ.f 137);refine (Any.strings_IndexByte { L with } _ _ _).mono ?_;rintro e w' ⟨rfl,hw⟩;rw[hw]))
      go_wp2
      rw[Exit.noGoto_ret]
      go_wp2
      rw[Exit.noGoto_ret]
      go_ret
      exact⟨rfl,(Below.drew (Below.refl _ _)).drew⟩
     ·have hq:(4:Int)<=(s.size:Int):=by omega
      have hw2:IntKind.i64.wrap 4=4:=by decide
      have hix:Lib.indexByte (Wt (s.size - 4) (List.drop 4 s.data.toList)) c = -1:=by
       refine eZ fun b hb=>?_
       have hb2:=List.mem_of_mem_drop (VU hb)
       obtain⟨j,hj⟩:=Wl hb2
       have:=HA.out j b hj
       intro e
       rw[e] at this
       omega
      go_wp2_with fail
      go_step3
      go_wp2_with fail
      go_region_o
      go_wp2_with fail
      go_region_with_o (first | (go_at_fn (ρ.f 137);refine (Any.strings_IndexByte { L with } _ _ _).mono ?_;rintro e w' ⟨rfl,hw⟩;rw[hw]))
      go_wp2
      rw[Exit.noGoto_ret]
      go_wp2
      rw[Exit.noGoto_ret]
      go_ret
      exact⟨rfl,(Below.drew (Below.refl _ _)).drew⟩
    ·go_wp2
     rw[Exit.noGoto_ret]
     go_ret
     exact⟨rfl,Below.refl _ _⟩
variable {P:Program}{ρ:Ren}
theorem jN {A B:Nat}{a w:World}(h:Below A a w)(hab:B<=A):Below B a w:=⟨h.os,h.tape,h.output,h.size,fun k hk=>h.block k (Nat.lt_of_lt_of_le hk hab)⟩
theorem eY (L:Lays.n152 P ρ)(s:ByteArray)(r:Nat)(w:World)(h2:(r:Int)<=2147483647)(hascii:∀ (j:Nat) b,s.data.toList[j]? = some b->b.toNat<128) :
  Calls P (ρ.f 152) #[.string s,.int .i32 r] w fun e w'=>e = .returned (.int .i64 (if r<128 then Lib.indexByte s.data.toList r.toUInt8 else -1))/\Below w.heap.size w w':=by
 by_cases h:r<128
 ·rw[if_pos h]
  exact (Any.strings_IndexRune_ascii L s r w (by omega) (by omega)).mono fun e w' ⟨a,b⟩=>⟨a,b▸Below.refl _ _⟩
 ·rw[if_neg h]
  by_cases h3:(r:Int)=65533
  ·rw[h3];exact pa L s w hascii
  ·exact nk L s r w (by omega) h2 h3 hascii
theorem mJ (s:ByteArray)(i:Nat):∀ k,1<=k->k<(Utf8.decode s i).2->i+k<s.size/\128<=(s.get! (i+k)).toNat:=by
 intro k h1 h2
 simp only[Utf8.decode] at h2
 have key:∀ j,(decide (i+j<s.size)&&((s.get! (i+j)).toNat / 64 == 2))=true->i+j<s.size/\128<=(s.get! (i+j)).toNat:=by
  intro j hj
  simp only[Vr,decide_eq_true_eq,beq_iff_eq] at hj
  exact⟨hj.1,by omega⟩
 split at h2
 ·simp only at h2;omega
 ·split at h2
  ·rename_i hc
   simp only[Vr] at hc
   split at h2
   ·simp only at h2
    obtain rfl:k=1:=by omega
    exact key 1 (by simpa using hc.2)
   ·simp only at h2;omega
  ·split at h2
   ·rename_i hc
    simp only[Vr] at hc
    split at h2
    ·simp only at h2
     obtain rfl | rfl:k=1\/k=2:=by omega
     ·exact key 1 (by simpa using hc.1.2)
     ·exact key 2 (by simpa using hc.2)
    ·simp only at h2;omega
   ·split at h2
    ·rename_i hc
     simp only[Vr] at hc
     split at h2
     ·simp only at h2
      obtain rfl | rfl | rfl:k=1\/k=2\/k=3:=by omega
      ·exact key 1 (by simpa using hc.1.1.2)
      ·exact key 2 (by simpa using hc.1.2)
      ·exact key 3 (by simpa using hc.2)
     ·simp only at h2;omega
    ·simp only at h2;omega
theorem ub (s:ByteArray)(i:Nat)(hi:i<s.size)(h1:1<=(Utf8.decode s i).2):i+(Utf8.decode s i).2<=s.size:=by
 by_cases h:(Utf8.decode s i).2=1
 ·omega
 ·have:=(mJ s i ((Utf8.decode s i).2 - 1) (by omega) (by omega)).1
  omega
theorem IH (s:ByteArray)(k:Nat)(h:k<s.size):s.get! k=s[k]'h:=by
 have:=get_at s k h
 simpa using this
theorem yI {s:ByteArray}{chars:List UInt8}{i n:Nat}(h:Lib.NoAny s.data.toList chars i)(hac:∀ (j:Nat) b,chars[j]? = some b->b.toNat<128)(hi:i<s.size)(h0:128<=(s[i]'hi).toNat)
  (hc:∀ k,1<=k->k<n->i+k<s.size/\128<=(s.get! (i+k)).toNat):Lib.NoAny s.data.toList chars (i+n):=by
 intro j b hj hb
 by_cases hji:j<i
 ·exact h j b hji hb
 ·have hb128:128<=b.toNat:=by
   by_cases e:j=i
   ·subst e
    have:=Lib.data_getElem? s j hi
    rw[this] at hb;cases hb;exact h0
   ·obtain⟨g1,g2⟩:=hc (j - i) (by omega) (by omega)
    have e2:i+(j - i)=j:=by omega
    rw[e2] at g1 g2
    have:=Lib.data_getElem? s j g1
    rw[this] at hb;cases hb
    rw[IH s j g1] at g2
    exact g2
  rw[Bool.eq_false_iff]
  intro hm
  rw[List.contains_iff_mem] at hm
  obtain⟨q,hq⟩:=Wl hm
  have:=hac q b hq
  omega
set_option maxRecDepth 1000000 in
theorem rk (L:Lays.n153 P ρ)(s chars:ByteArray)(w:World)(h2:2<=chars.size)(h8:s.size<=8)(hac:∀ (j:Nat) b,chars.data.toList[j]? = some b->b.toNat<128) :
  Calls P (ρ.f 153) #[.string s,.string chars] w fun e w'=>e = .returned (.int .i64 (Lib.indexAny s.data.toList chars.data.toList))/\Below w.heap.size w w':=by
 have HA:Aside (∀ (j:Nat) b,chars.data.toList[j]? = some b->b.toNat<128):=hac
 clear hac
 have hemp:chars.toList.isEmpty=false:=by
  rw[Lib.toList_data]
  cases h:chars.data.toList with
  | nil=>have:=Lib.size_eq chars;rw[h,List.length_nil] at this;omega
  | cons _ _=>rfl
 have hn1:((chars.size:Int) == 1)=false:=beq_eq_false_iff_ne.2 (by omega)
 have h8z:decide ((8:Int)<(s.size:Int))=false:=decide_eq_false (by omega)
 have t3:=L.t3;have a3:=L.a3;have z3:=L.z3;have v3:=L.v3
 have t4:=L.t4;have a4:=L.a4;have z4:=L.z4;have v4:=L.v4
 have t5:=L.t5;have a5:=L.a5;have z5:=L.z5;have v5:=L.v5
 have t9:=L.t9;have a9:=L.a9;have z9:=L.z9;have v9:=L.v9
 have t21:=L.t21;have a21:=L.a21;have z21:=L.z21;have v21:=L.v21
 have e152:∀ args w,(callFunc (ρ.f 152) args).run P w = .ok (.enter (ρ.f 152) args) w:=enters_of L.f152 (by kernel_rfl) rfl
 have e226:∀ args w,(callFunc (ρ.f 226) args).run P w = .ok (.enter (ρ.f 226) args) w:=enters_of L.f226 (by kernel_rfl) rfl
 go_enter L.f153,Body.n153_ntmps ρ
 go_wp2_with (go_at_fn (ρ.f 226);refine (Any.strings_shouldUseASCIISet { L with } _ _).mono ?_;rintro e w' ⟨rfl,hw⟩;rw[hw,h8z])
 go_loopg [9,10] s.size (fun g _ _ wx=>∃ i:Nat,i+g=s.size/\wx.heap[w.heap.size]? = some (.stringIter s i)/\Below w.heap.size w wx/\Lib.NoAny s.data.toList chars.data.toList i)
 case atStart=>exact⟨0,by omega,by simp[World.iter_heap],(Below.refl _ _).alloc (Vw _) _,Lib.NoAny.zero _ _⟩
 case round=>
  obtain⟨i,hig,hk,hbw,hno⟩:=hrel
  have HN:Aside (Lib.NoAny s.data.toList chars.data.toList i):=hno
  clear hno
  have HB:Aside (Below w.heap.size w wr):=hbw
  clear hbw
  cases gk with
  | zero=>
    obtain rfl:i=s.size:=by omega
    have hnx:=fun ty=>run_next_end_at (P:=P) wr w.heap.size s s.size ty hk (by omega)
    go_wp2
    go_ret
    exact⟨by rw[Lib.indexAny_none (by rw[<- Lib.size_eq];exact HN.out)];rfl,HB.out⟩
  | succ g=>
    have hi:i<s.size:=by omega
    obtain⟨x,hx⟩:∃ x:UInt8,s[i]'hi=x:=⟨_,rfl⟩
    have Hx:Aside (s.data.toList[i]? = some x):=by rw[<- hx];exact Lib.data_getElem? s i hi
    obtain⟨r,n,hd⟩:∃ r n,Utf8.decode s i=(r,n):=⟨_,_,rfl⟩
    have hnx:=fun ty=>run_next_any_at (P:=P) wr w.heap.size s i ty hk hi
    rw[hd] at hnx
    simp only at hnx
    have hrl:(r:Int)<=2147483647:=by
     have:=decode_le s i
     rw[hd] at this
     simp only at this
     omega
    have hsz:w.heap.size<wr.heap.size:=(Array.getElem?_eq_some_iff.1 hk).1
    have hk1:=iterAt_heap wr w.heap.size s i (i+n) hk
    have hb1:=below_iterAt HB.out (Vw _) s (i+n)
    have hs1:w.heap.size<(wr.iterAt w.heap.size s (i+n)).heap.size:=by rw[iterAt_size];exact hsz
    by_cases hx128:x.toNat<128
    ·have hda:=decode_ascii s i hi (by rw[hx];exact hx128)
     rw[hd,hx] at hda
     obtain⟨rfl,rfl⟩:=Prod.mk.inj hda
     have hback:x.toNat.toUInt8=x:=by simp
     have hcon:=Lib.contains_iff_indexByte chars.data.toList x
     generalize wr.iterAt w.heap.size s (i+1)=W1 at *
     have HK:Aside (W1.heap[w.heap.size]? = some (.stringIter s (i+1))/\Below w.heap.size w W1/\w.heap.size<W1.heap.size):=⟨hk1,hb1,hs1⟩
     clear hk1 hb1 hs1 hd hda hx hk hsz
     cases hin:chars.data.toList.contains x
     ·rw[hin] at hcon
      have hlt:¬ ((0:Int)<=Lib.indexByte chars.data.toList x):=of_decide_eq_false hcon.symm
      clear hcon
      go_wp2_with (go_at_fn (ρ.f 152);refine (eY { L with } _ x.toNat _ hrl HA.out).mono ?_;rintro e w' ⟨rfl,hw⟩;rw[if_pos hx128,hback])
      go_roundg g
      case measure=>omega
      case rel=>exact⟨i+1,by omega,(hw.block _ HK.out.2.2).trans HK.out.1,HK.out.2.1.trans (jN hw (Nat.le_of_lt HK.out.2.2)),HN.out.succ Hx.out hin⟩
     ·rw[hin] at hcon
      have hge:(0:Int)<=Lib.indexByte chars.data.toList x:=of_decide_eq_true hcon.symm
      clear hcon
      go_wp2_with (go_at_fn (ρ.f 152);refine (eY { L with } _ x.toNat _ hrl HA.out).mono ?_;rintro e w' ⟨rfl,hw⟩;rw[if_pos hx128,hback])
      go_ret
      exact⟨by rw[Lib.indexAny_hit HN.out Hx.out hin];rfl,HK.out.2.1.trans (jN hw (Nat.le_of_lt HK.out.2.2))⟩
    ·have hx2:128<=(s[i]'hi).toNat:=by rw[hx];omega
     obtain⟨hr128,hn⟩:=decode_high s i hi hx2
     have hsize:=ub s i hi hn
     have hcont:=mJ s i
     rw[hd] at hr128 hn hsize hcont
     simp only at hr128 hn hsize hcont
     have HNn:Aside (Lib.NoAny s.data.toList chars.data.toList (i+n)):=yI HN.out HA.out hi hx2 hcont
     have hr2:¬ r<128:=by omega
     generalize wr.iterAt w.heap.size s (i+n)=W1 at *
     have HK:Aside (W1.heap[w.heap.size]? = some (.stringIter s (i+n))/\Below w.heap.size w W1/\w.heap.size<W1.heap.size):=⟨hk1,hb1,hs1⟩
     clear hk1 hb1 hs1 hd hx hk hsz hcont hx2
     go_wp2_with (go_at_fn (ρ.f 152);refine (eY { L with } _ r _ hrl HA.out).mono ?_;rintro e w' ⟨rfl,hw⟩;rw[if_neg hr2])
     go_roundg (s.size - (i+n))
     case measure=>omega
     case rel=>exact⟨i+n,by omega,(hw.block _ HK.out.2.2).trans HK.out.1,HK.out.2.1.trans (jN hw (Nat.le_of_lt HK.out.2.2)),HNn.out⟩
theorem rm (L:Lays.n153 P ρ)(h116:(P.info? (ρ.t 116)).map (fun i=>(i.zero,i.size))=some (some (.agg (Array.replicate 256 (.bool false))),256))(s chars:ByteArray)(w:World)(h2:2<=chars.size)(hs:s.size<4294967281)(hcs:chars.size<4294967281)
  (hac:∀ (j:Nat) b,chars.data.toList[j]? = some b->b.toNat<128) :
  Calls P (ρ.f 153) #[.string s,.string chars] w fun e w'=>e = .returned (.int .i64 (Lib.indexAny s.data.toList chars.data.toList))/\Below w.heap.size w w':=by
 by_cases h8:s.size<=8
 ·exact rk L s chars w h2 h8 hac
 ·refine (Any.strings_IndexAny_long L (zero_of_info h116).1 (zero_of_info h116).2 s chars w h2 (by omega) hs hcs hac).mono fun e w' ⟨h1,h2⟩=>⟨h1,?_⟩
  rw[h2]
  exact ((Below.refl _ _).alloc (Vw _) _).alloc (by simp) _
theorem mQ (L:Lays.n150 P ρ)(h116:(P.info? (ρ.t 116)).map (fun i=>(i.zero,i.size))=some (some (.agg (Array.replicate 256 (.bool false))),256))(s chars:ByteArray)(w:World)(h2:2<=chars.size)(hs:s.size<4294967281)(hcs:chars.size<4294967281)
  (hac:∀ (j:Nat) b,chars.data.toList[j]? = some b->b.toNat<128) :
  Calls P (ρ.f 150) #[.string s,.string chars] w fun e w'=>e = .returned (.bool (Lib.containsAny s.data.toList chars.data.toList))/\Below w.heap.size w w':=by
 have c:=rm { L with } h116 s chars w h2 hs hcs hac
 have t3:=L.t3;have a3:=L.a3;have z3:=L.z3;have v3:=L.v3
 have t4:=L.t4;have a4:=L.a4;have z4:=L.z4;have v4:=L.v4
 have t9:=L.t9;have a9:=L.a9;have z9:=L.z9;have v9:=L.v9
 have e153:∀ args w,(callFunc (ρ.f 153) args).run P w = .ok (.enter (ρ.f 153) args) w:=enters_of L.f153 (by kernel_rfl) rfl
 go_enter L.f150,Body.n150_ntmps ρ
 go_wp2_with (go_at_fn (ρ.f 153);refine c.mono ?_;rintro e w' ⟨rfl,hw⟩)
 go_ret
 exact⟨rfl,hw⟩
end Go.Ab
set_option maxRecDepth 100000
namespace Go.Proofs.YtbaaokocnegdoaaGreatDoor
open Go Go.Ab
attribute [local irreducible] vc
theorem j4 (a b:List UInt8)(ha:a.length<4294967281)(hb:b.length<4294967281)(h2:2<=b.length)(hb1:b.all (fun c=>decide (c.toNat<128))=true) :
  ae Tryz.prog aq 101 [.str a,.str b] (.bool (Lib.containsAny a b)):=by
 refine bM (by kernel_rfl) fun w imm vals hGl hsz hargs=>?_
 have hv:=uH hsz
 obtain⟨h1,_⟩:=dX (hargs 0 (.str a) rfl)
 obtain⟨h2',_⟩:=dX (hargs 1 (.str b) rfl)
 rw[hv,h1,h2']
 have asc:∀ (j:Nat) c,(⟨b.toArray⟩:ByteArray).data.toList[j]? = some c->c.toNat<128:=by
  intro j c hc
  have:=List.all_eq_true.1 hb1 c (List.mem_of_getElem? hc)
  simpa using this
 refine (mQ U8 (by kernel_rfl) ⟨a.toArray⟩ ⟨b.toArray⟩ w (by simpa[ByteArray.size] using h2) (by simpa[ByteArray.size] using ha) (by simpa[ByteArray.size] using hb) asc).mono ?_
 rintro e w' ⟨rfl,hB⟩
 exact⟨_,rfl,hB,by simpa using PRel.bool (w:=w') (imm:=imm) (Lib.containsAny a b)⟩
def m6 (m:Int):Nat->List PV:=fun g=>if g=0 then [.int .i64 m] else aq g
theorem S2 {m:Int}{w:World}{imm:Nat->Nat->Prop}(h:bG (m6 m) w imm):bG aq w imm:=by
 have key:∀ g,aq g≠[]->m6 m g=aq g:=by
  intro g hg
  unfold m6
  by_cases h0:g=0
  ·subst h0;exact absurd rfl hg
  ·rw[if_neg h0]
 refine⟨fun g o p hp=>h.1 g o p ?_,fun g hg=>?_⟩
 ·rw[key g (by intro e;rw[e] at hp;simp at hp)];exact hp
 ·rw[<- key g hg]
  exact h.2 g (by rw[key g hg];exact hg)
theorem toM {m:Int}{f:Nat}{args:List PV}{r:PV}(h:ae Tryz.prog aq f args r):ae Tryz.prog (m6 m) f args r:=
 ⟨h.1,fun w imm vals hG=>h.2 w imm vals (S2 hG)⟩
theorem mL:∀ t:List UInt8,Lib.replaceK [34] [34,34] (t.count 34) t=dbl t
 | []=>rfl
 | c::r=>by
   have ih:=mL r
   by_cases hc:c=34
   ·subst hc
    rw[List.count_cons_self,Lib.replaceK_hit _ _ _ _ 0 (by rw[Lib.index_one];simp[Lib.indexByte])]
    simp[dbl,ih]
   ·have hcb:(c == 34)=false:=by simpa using hc
    have h1:(c::r).count 34=r.count 34:=List.count_cons_of_ne hc
    have hx:Lib.indexByte (c::r) 34=if Lib.indexByte r 34 == -1 then -1 else Lib.indexByte r 34+1:=by simp[Lib.indexByte,hcb]
    rw[h1]
    simp only[dbl,if_neg hc]
    cases hn:r.count 34 with
    | zero=>rw[hn] at ih;simp only[Lib.replaceK] at ih ⊢;rw[<- ih]
    | succ n=>
      rw[hn] at ih
      have hmem:r.contains 34=true:=by
       rw[List.contains_iff_mem]
       exact List.count_pos_iff.1 (by omega)
      have hcon:=Lib.contains_iff_indexByte r 34
      rw[hmem] at hcon
      have hge:=of_decide_eq_true hcon.symm
      obtain⟨i,hi⟩:∃ i:Nat,Lib.indexByte r 34=i:=⟨(Lib.indexByte r 34).toNat,by omega⟩
      rw[Lib.replaceK_hit _ _ _ _ i (by rw[Lib.index_one];exact hi)] at ih
      have hx2:Lib.indexByte (c::r) 34=((i+1:Nat):Int):=by
       rw[hx,hi,if_neg (by rw[beq_iff_eq];omega)];omega
      rw[Lib.replaceK_hit _ _ _ _ (i+1) (by rw[Lib.index_one];exact hx2),<- ih]
      simp
theorem O0 {vals:Array Value}(h:vals.size=3):vals = #[vals.getD 0 Go.undef,vals.getD 1 Go.undef,vals.getD 2 Go.undef]:=by
 apply Array.ext
 ·simpa using h
 ·intro i h1 h2
  have:i=0\/i=1\/i=2:=by omega
  rcases this with rfl | rfl | rfl<;>simp[Array.getD,h]
theorem xS (m:Int)(t:List UInt8)(ht:t.length<=1000000):ae Tryz.prog (m6 m) 67 [.str t,.str [34],.str [34,34]] (.str (dbl t)):=by
 refine bM (by kernel_rfl) fun w imm vals hGl hsz hargs=>?_
 have hv:=O0 hsz
 obtain⟨h1,_⟩:=dX (hargs 0 (.str t) rfl)
 obtain⟨h2,_⟩:=dX (hargs 1 (.str [34]) rfl)
 obtain⟨h3,_⟩:=dX (hargs 2 (.str [34,34]) rfl)
 rw[hv,h1,h2,h3]
 have hm:w.cell? ⟨0,0,none⟩=some (.int .i64 m):=by
  obtain⟨_,v,hc,_,hp⟩:=hGl.1 0 0 (.int .i64 m) rfl
  cases hp
  exact hc
 have hst:(⟨t.toArray⟩:ByteArray).size=t.length:=by simp[ByteArray.size]
 have hcl:=Lib.countB_le ⟨[34].toArray⟩ (by decide) _ ⟨t.toArray⟩ (Vw _)
 refine (Tryz.strings_ReplaceAll ⟨t.toArray⟩ ⟨[34].toArray⟩ ⟨[34,34].toArray⟩ m w (by rw[hst];omega) hm (by decide) (by
  rw[hst] at hcl ⊢
  have:(⟨[34,34].toArray⟩:ByteArray).size=2:=rfl
  rw[this]
  omega)).mono ?_
 rintro e w' ⟨rfl,hB⟩
 refine⟨_,rfl,hB,?_⟩
 have hr:Lib.replaceAll t [34] [34,34]=dbl t:=by
  have hnum:Lib.replaceNum t [34] (-1)=t.count 34:=by
   unfold Lib.replaceNum
   rw[if_pos (Or.inl (by decide)),Lib.count_one]
  unfold Lib.replaceAll Lib.replace
  rw[if_neg (by decide),hnum]
  exact mL t
 have hdl:=mM t
 simp only[List.toList_toArray] at *
 rw[hr]
 exact lf (by unfold maxLen;omega)

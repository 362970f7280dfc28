/- A part of the proof for LiteralAgainCardSaid. -/
import Derived.Test.YtamoeblcphjbaaaGreatDoorAgLK13
set_option maxRecDepth 100000
set_option linter.unusedVariables false
set_option linter.unusedSimpArgs false
namespace Go.Proofs.YtamoeblcphjbaaaGreatDoor
open Go Go.Ab Go.RowKit
def kN:Nat→Val→Nat
 | 0,_=>0
 | f+1,.mk k n s t l fs=>if k=4∨k=5 then 1+t.length else if k=6∨k=7 then 2 else if k=8∨k=10 then 1+(l.map (kN f)).sum else if k=9 then 1+(fs.map fun x=>1+kN f x.value).sum else 1
theorem mX {α:Type}(g:α→List UInt8)(h:α→Nat):∀ l:List α,(∀ x∈l,(g x).length+2≤80*h x)→(aJ [44,32] (l.map g)).length≤80*(l.map h).sum
 | [],_=>by simp[aJ]
 | [x],hx=>by
   have:=hx x (by simp)
   simp only[List.map_cons,List.map_nil,aJ,List.sum_cons,List.sum_nil]
   omega
 | x::y::r,hx=>by
   have h1:=hx x (by simp)
   have ih:=mX g h (y::r) fun z hz=>hx z (List.mem_cons_of_mem _ hz)
   rw[show aJ [44,32] ((x::y::r).map g)=g x++[44,32]++aJ [44,32] ((y::r).map g) from rfl,List.length_append,List.length_append,List.map_cons (f:=h),List.sum_cons]
   simp only[List.length_cons,List.length_nil] at ih ⊢
   omega
theorem nU:∀ (f:Nat) (lv:Int) (v:Val),gm f v→Hz f lv v→(au f v).length+4≤80*kN f v
 | 0,lv,v,hd,_=>hd.elim
 | f+1,lv,v,hd,hg=>by
   obtain⟨k1,k2,hu,hr⟩:=gT hg
   have ih:∀ x∈bf v,(au f x).length+4≤80*kN f x:=fun x hx=>nU f _ x (hd x hx) (ef hg hx)
   clear hg hd
   refine Fv (P:=fun v=>bi v=0→(∀ x∈bf v,(au f x).length+4≤80*kN f x)→(au (f+1) v).length+4≤80*kN (f+1) v) v ⟨k1,k2⟩ ?_ ?_ ?_ ?_ ?_ ?_ ?_ ?_ ?_ ?_ hr ih<;>(rintro n s t l fs rfl hr ih)
   ·rw[show au (f+1) (.mk 1 n s t l fs)=(if n=1 then [116,114,117,101] else [102,97,108,115,101]) from rfl,show kN (f+1) (.mk 1 n s t l fs)=1 from rfl]
    split<;>simp
   ·rw[show au (f+1) (.mk 2 n s t l fs)=cS n from rfl,show kN (f+1) (.mk 2 n s t l fs)=1 from rfl]
    have:=gQ n;omega
   ·rw[show au (f+1) (.mk 3 n s t l fs)=c8 n s.toNat++(if s=0 then [100] else []) from rfl,List.length_append,show kN (f+1) (.mk 3 n s t l fs)=1 from rfl]
    have:=mm (j6 hr).1
    split<;>simp<;>omega
   ·rw[show au (f+1) (.mk 4 n s t l fs)=aL t from rfl,show kN (f+1) (.mk 4 n s t l fs)=1+t.length from rfl]
    have:=cl t
    omega
   ·rw[show au (f+1) (.mk 5 n s t l fs)=lC t from rfl,tB,show kN (f+1) (.mk 5 n s t l fs)=1+t.length from rfl]
    omega
   ·rw[show au (f+1) (.mk 6 n s t l fs)=[100,97,116,101,32]++aL (nN n) from rfl,List.length_append,show kN (f+1) (.mk 6 n s t l fs)=2 from rfl]
    have h1:=(nr (oc hr)).2.2
    have:=cl (nN n)
    simp only[List.length_cons,List.length_nil];omega
   ·rw[show au (f+1) (.mk 7 n s t l fs)=[116,105,109,101,32]++aL (eY n) from rfl,List.length_append,show kN (f+1) (.mk 7 n s t l fs)=2 from rfl]
    have h1:=(ju (ob hr)).2.2
    have:=cl (eY n)
    simp only[List.length_cons,List.length_nil];omega
   ·rw[show au (f+1) (.mk 8 n s t l fs)=[91]++aJ [44,32] (l.map (au f))++[93] from rfl,show kN (f+1) (.mk 8 n s t l fs)=1+(l.map (kN f)).sum from rfl]
    rw[bW (.inl rfl)] at ih
    have:=mX (au f) (kN f) l fun x hx=>by have:=ih x hx;omega
    simp only[List.length_append,List.length_cons,List.length_nil];omega
   ·rw[show au (f+1) (.mk 9 n s t l fs)=[123]++aJ [44,32] (fs.map (fE f))++[125] from rfl,show kN (f+1) (.mk 9 n s t l fs)=1+(fs.map fun x=>1+kN f x.value).sum from rfl]
    rw[d7 rfl] at ih
    obtain⟨_,hn⟩:=sG hr
    have:=mX (fE f) (fun x=>1+kN f x.value) fs fun x hx=>by
     have h1:=ih x.value (List.mem_map.2 ⟨x,hx,rfl⟩)
     have h2:=hn x hx
     unfold fE
     simp only[List.length_append,List.length_cons,List.length_nil];omega
    simp only[List.length_append,List.length_cons,List.length_nil];omega
   ·obtain⟨h1,x,rfl⟩:=j7 hr
    rw[show au (f+1) (.mk 10 n s t [x] fs)=t++[40]++au f x++[41] from rfl,show kN (f+1) (.mk 10 n s t [x] fs)=1+([x].map (kN f)).sum from rfl]
    rw[bW (.inr rfl)] at ih
    have:=ih x (by simp[Val.lst])
    simp only[List.map_cons,List.map_nil,List.sum_cons,List.sum_nil,List.length_append,List.length_cons,List.length_nil];omega
def BT (R:Rd):Prop:=R.e=0→R.now.kind≠0→R.now.bytes.length+R.now.pos<R.next
theorem Bs {r:List UInt8}(h:(wg r).2=0):(wg r).1.1.length≤(wg r).1.2:=by
 unfold wg at h ⊢
 split
 ·exact Nat.le_refl _
 ·rename_i q hq
  rw[hq] at h
  simp only at h ⊢
  split
  ·exact Nat.le_refl _
  ·rename_i hl
   rw[if_neg hl] at h
   split
   ·exact Nat.le_refl _
   ·split
    ·exact Nat.le_refl _
    ·rename_i t ht
     have:=lS ht
     simp only
     omega
theorem Bv {s:List UInt8}(h:(gl s).2=0):(gl s).1.1.length≤(gl s).1.2:=by
 unfold gl at h ⊢
 split
 ·exact Nat.le_refl _
 ·split
  ·exact Nat.le_refl _
  ·rename_i c r hk
   simp only[hk] at h
   split
   ·rename_i hp
    rw[if_pos hp] at h
    exact Bs h
   ·exact Nat.le_refl _
theorem jY:∀ (f:Nat) (l:List UInt8) (i:Nat) (o:List UInt8) {o':List UInt8} {j:Nat},ji f l i o = .done o' j→o'.length+i<o.length+j
 | 0,l,i,o,o',j,h=>by cases h
 | f+1,[],i,o,o',j,h=>by cases h
 | f+1,c::r,i,o,o',j,h=>by
   by_cases h1:c.toNat=34
   ·rw[fX h1] at h;cases h;omega
   by_cases h2:c.toNat<32∨c.toNat=127
   ·rw[fx h1 h2] at h;cases h
   by_cases h3:c.toNat=92
   ·by_cases h4:r=[]
    ·subst h4;rw[dY h3] at h;cases h
    ·rw[dF h3 h4] at h
     split at h
     ·rename_i he
      have:=Bv he
      have ih:=jY f _ _ _ h
      rw[List.length_append] at ih
      omega
     ·cases h
   ·rw[cH h1 h2 h3] at h
    have ih:=jY f _ _ _ h
    rw[List.length_append,List.length_singleton] at ih
    omega
theorem kO:∀ (l:List UInt8) (i:Nat) (q:Option Nat) (o:List UInt8) {o':List UInt8} {j:Nat},i7 l i q o = .done o' j→o'.length+i<o.length+j
 | [],i,q,o,o',j,h=>by cases h
 | c::r,i,q,o,o',j,h=>by
   rw[i7] at h
   split at h
   ·cases h;omega
   ·split at h
    ·cases h
    ·split at h
     ·have ih:=kO r _ _ _ h
      omega
     ·have ih:=kO r _ _ _ h
      rw[List.length_append,List.length_singleton] at ih
      omega
end Go.Proofs.YtamoeblcphjbaaaGreatDoor

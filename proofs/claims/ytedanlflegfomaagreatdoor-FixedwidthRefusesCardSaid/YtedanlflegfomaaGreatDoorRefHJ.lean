/- A part of the proof for FixedwidthRefusesCardSaid. -/
import Derived.Test.YtedanlflegfomaaGreatDoorRefHH
import Derived.Test.YtedanlflegfomaaGreatDoorRefHG
set_option maxRecDepth 100000
set_option linter.unusedVariables false
set_option linter.unusedSimpArgs false
namespace Go.Proofs.YtedanlflegfomaaGreatDoor
open Go Go.Ab
attribute [local irreducible] vc
def bc (p n:List UInt8):List UInt8:=if p=[] then n else p++(46::n)
theorem nt (p n:List UInt8)(hp:p.length≤1000000)(hn:n.length≤1000000):aq Tryz.prog aA 147 [.str p,.str n] (.str (bc p n)):=by
 refine aq.intro En (by simp[H0]) ?_
 by_cases h:p=[]
 ·rw[bc,if_pos h]
  simp(disch:=first|exact dI|fail) only[H0,h,push_cast,seval]
 ·rw[bc,if_neg h]
  simp(disch:=first|exact dI|fail) only[H0,h,push_cast,seval]
theorem Bs (p n:List UInt8)(hp:p.length≤1000000)(hn:n.length≤1000000):aq Tryz.prog aA 77 [.str p,.str n] (.str (bc p n)):=by
 refine aq.intro G5 (by simp[F77]) ?_
 by_cases h:p=[]
 ·rw[bc,if_pos h]
  simp(disch:=first|exact dI|fail) only[F77,h,push_cast,seval]
 ·rw[bc,if_neg h]
  simp(disch:=first|exact dI|fail) only[F77,h,push_cast,seval]
def jF (mn mx:Int)(p:List UInt8)(n:Int):List Mis:=if n<mn∨mx<n then [.mk p 2] else []
theorem bL {mn mx n:Int}{p:List UInt8}(h:n<mn∨mx<n):jF mn mx p n=[.mk p 2]:=if_pos h
theorem fv {mn mx n:Int}{p:List UInt8}(h:¬ (n<mn∨mx<n)):jF mn mx p n=[]:=if_neg h
end Go.Proofs.YtedanlflegfomaaGreatDoor
set_option maxRecDepth 100000
set_option linter.unusedVariables false
set_option linter.unusedSimpArgs false
namespace Go.Proofs.YtedanlflegfomaaGreatDoor
open Go Go.Ab
attribute [local irreducible] vc
def ixM {α β:Type}(F:α→Nat→List β)(l:List α):List β:=l.zipIdx.flatMap fun q=>F q.1 q.2
theorem jk {α β:Type}(F:α→Nat→List β):ixM F []=[]:=_root_.id rfl
theorem fT {α β:Type}(F:α→Nat→List β){l:List α}{m:Nat}{x:α}(h:l[m]? = some x):ixM F (l.take (m+1))=ixM F (l.take m)++F x m:=by
 have hm:m<l.length:=(List.getElem?_eq_some_iff.1 h).1
 have hl:(l.take m).length=m:=by rw[List.length_take];omega
 rw[a8 h]
 simp[ixM,List.zipIdx_append,List.flatMap_append,hl]
theorem eG {α β:Type}(F:α→List β){l:List α}{m:Nat}{x:α}(h:l[m]? = some x):(l.take (m+1)).flatMap F=(l.take m).flatMap F++F x:=by
 rw[a8 h];simp
def atT (p:List UInt8)(i:Nat):List UInt8:=p++(91::(eh i++[93]))
def eJ (R:Typ→Val→List UInt8→List Mis)(e:List Typ)(p:List UInt8)(x:Val)(i:Nat):List Mis:=
 match e with
 | [t]=>R t x (atT p i)
 | _=>[.mk (atT p i) 1]
def cp (R:Typ→Val→List UInt8→List Mis)(fs:List Fld)(p:List UInt8)(x:TFd):List Mis:=
 match fs.find? (bf x.name) with
 | some y=>R x.typ y.value (bc p x.name)
 | none=>if x.need=2 then [] else [.mk (bc p x.name) 5]
def cz (ts:List TFd)(p:List UInt8)(x:Fld):List Mis:=if (ts.find? (named x.name)).isSome=true then [] else [.mk (bc p x.name) 6]
theorem cY {R:Typ→Val→List UInt8→List Mis}{fs:List Fld}{p:List UInt8}{x:TFd}{y:Fld}(h:fs.find? (bf x.name)=some y):cp R fs p x=R x.typ y.value (bc p x.name):=by
 unfold cp;rw[h]
theorem fk {R:Typ→Val→List UInt8→List Mis}{fs:List Fld}{p:List UInt8}{x:TFd}(h:fs.find? (bf x.name)=none)(hn:x.need=2):cp R fs p x=[]:=by
 unfold cp;rw[h];exact if_pos hn
theorem em {R:Typ→Val→List UInt8→List Mis}{fs:List Fld}{p:List UInt8}{x:TFd}(h:fs.find? (bf x.name)=none)(hn:¬ x.need=2):cp R fs p x=[.mk (bc p x.name) 5]:=by
 unfold cp;rw[h];exact if_neg hn
theorem ec {ts:List TFd}{p:List UInt8}{x:Fld}{z:TFd}(h:ts.find? (named x.name)=some z):cz ts p x=[]:=by
 unfold cz;rw[h];exact if_pos rfl
theorem gr {ts:List TFd}{p:List UInt8}{x:Fld}(h:ts.find? (named x.name)=none):cz ts p x=[.mk (bc p x.name) 6]:=by
 unfold cz;rw[h];exact if_neg (by simp)
def wI (R:Typ→Val→List UInt8→List Mis)(t:Typ)(v:Val)(p:List UInt8):List Mis:=t.fields.flatMap (cp R v.fields p)++v.fields.flatMap (cz t.fields p)
def ED (R:Typ→Val→List UInt8→List Mis)(t:Typ)(v:Val)(p:List UInt8):List Mis:=
 match t.fields.find? (named v.text) with
 | some c=>R c.typ (v.lst.headD lC) (p++(63::v.text))
 | none=>[.mk p 7]
def bt (R:Typ→Val→List UInt8→List Mis)(t:Typ)(v:Val)(p:List UInt8):List Mis:=
 if t.kind<1∨10<t.kind∨¬ v.kind=t.kind then [.mk p 1]
 else if ab v=false then [.mk p 8]
 else if t.kind=2∨t.kind=6∨t.kind=7 then jF t.min t.max p v.num
 else if t.kind=3 then (if v.scale=t.scale then jF t.min t.max p v.num else [.mk p 3])
 else if t.kind=4∨t.kind=5 then (if t.kind=4∧0<t.words.length then (if (t.words.any fun x=>decide (x=v.text))=true then [] else [.mk p 4]) else jF t.min t.max p v.text.length)
 else if t.kind=8 then jF t.min t.max p v.lst.length++ixM (eJ R t.elem p) v.lst
 else if t.kind=9 then wI R t v p
 else if t.kind=10 then ED R t v p
 else []
def aF:Nat→Typ→Val→List UInt8→List Mis
 | 0=>fun _ _ _=>[]
 | n+1=>bt (aF n)
def dep:Nat→Val→Prop
 | 0,_=>False
 | n+1,v=>v.lst.length≤300∧v.fields.length≤300∧v.text.length≤100∧(∀ x∈v.lst,dep n x)∧∀ f∈v.fields,f.name.length≤100∧dep n f.value
def aQ:Nat→Typ→Prop
 | 0,_=>True
 | n+1,t=>t.fields.length≤300∧t.words.length≤300∧(∀ e∈t.elem,aQ n e)∧∀ f∈t.fields,f.name.length≤100∧aQ n f.typ
def It (d:Bool)(l:List Mis):Prop:=l.length≤64∧(d=false→l.length<64)
theorem dB (p n:List UInt8):(bc p n).length≤p.length+n.length+1:=by
 unfold bc;split
 ·omega
 ·simp only[List.length_append,List.length_cons];omega
end Go.Proofs.YtedanlflegfomaaGreatDoor
set_option maxRecDepth 100000
set_option linter.unusedVariables false
set_option linter.unusedSimpArgs false
namespace Go.Proofs.YtedanlflegfomaaGreatDoor
open Go Go.Ab
attribute [local irreducible] vc
section
variable {R:Typ→Val→List UInt8→List Mis}{t:Typ}{v:Val}{p:List UInt8}
theorem ff (h:t.kind<1∨10<t.kind∨¬ v.kind=t.kind):bt R t v p=[.mk p 1]:=if_pos h
theorem gB (h:¬ (t.kind<1∨10<t.kind∨¬ v.kind=t.kind))(hf:ab v=false):bt R t v p=[.mk p 8]:=by
 unfold bt;rw[if_neg h,if_pos hf]
theorem bv (h:¬ (t.kind<1∨10<t.kind∨¬ v.kind=t.kind))(hf:ab v=true)(hk:t.kind=2∨t.kind=6∨t.kind=7):bt R t v p=jF t.min t.max p v.num:=by
 unfold bt;rw[if_neg h,if_neg (by rw[hf];simp),if_pos hk]
theorem gA (h:¬ (t.kind<1∨10<t.kind∨¬ v.kind=t.kind))(hf:ab v=true)(hk:t.kind=3)(hs:v.scale=t.scale):bt R t v p=jF t.min t.max p v.num:=by
 unfold bt;rw[if_neg h,if_neg (by rw[hf];simp),if_neg (by omega),if_pos hk,if_pos hs]
theorem ef (h:¬ (t.kind<1∨10<t.kind∨¬ v.kind=t.kind))(hf:ab v=true)(hk:t.kind=3)(hs:¬ v.scale=t.scale):bt R t v p=[.mk p 3]:=by
 unfold bt;rw[if_neg h,if_neg (by rw[hf];simp),if_neg (by omega),if_pos hk,if_neg hs]
theorem fb (h:¬ (t.kind<1∨10<t.kind∨¬ v.kind=t.kind))(hf:ab v=true)(hk:t.kind=4)(hw:0<t.words.length)(ha:(t.words.any fun x=>decide (x=v.text))=true):bt R t v p=[]:=by
 unfold bt;rw[if_neg h,if_neg (by rw[hf];simp),if_neg (by omega),if_neg (by omega),if_pos (.inl hk),if_pos ⟨hk,hw⟩,if_pos ha]
theorem dq (h:¬ (t.kind<1∨10<t.kind∨¬ v.kind=t.kind))(hf:ab v=true)(hk:t.kind=4)(hw:0<t.words.length)(ha:(t.words.any fun x=>decide (x=v.text))=false):bt R t v p=[.mk p 4]:=by
 unfold bt;rw[if_neg h,if_neg (by rw[hf];simp),if_neg (by omega),if_neg (by omega),if_pos (.inl hk),if_pos ⟨hk,hw⟩,if_neg (by rw[ha];simp)]
theorem bT (h:¬ (t.kind<1∨10<t.kind∨¬ v.kind=t.kind))(hf:ab v=true)(hk:t.kind=4∨t.kind=5)(hw:t.kind=4→t.words.length=0):bt R t v p=jF t.min t.max p v.text.length:=by
 unfold bt;rw[if_neg h,if_neg (by rw[hf];simp),if_neg (by omega),if_neg (by omega),if_pos hk,if_neg (by intro hh;have:=hw hh.1;omega)]
theorem fe (h:¬ (t.kind<1∨10<t.kind∨¬ v.kind=t.kind))(hf:ab v=true)(hk:t.kind=8):bt R t v p=jF t.min t.max p v.lst.length++ixM (eJ R t.elem p) v.lst:=by
 unfold bt;rw[if_neg h,if_neg (by rw[hf];simp),if_neg (by omega),if_neg (by omega),if_neg (by omega),if_pos hk]
theorem gz (h:¬ (t.kind<1∨10<t.kind∨¬ v.kind=t.kind))(hf:ab v=true)(hk:t.kind=9):bt R t v p=wI R t v p:=by
 unfold bt;rw[if_neg h,if_neg (by rw[hf];simp),if_neg (by omega),if_neg (by omega),if_neg (by omega),if_neg (by omega),if_pos hk]
theorem dp (h:¬ (t.kind<1∨10<t.kind∨¬ v.kind=t.kind))(hf:ab v=true)(hk:t.kind=10):bt R t v p=ED R t v p:=by
 unfold bt;rw[if_neg h,if_neg (by rw[hf];simp),if_neg (by omega),if_neg (by omega),if_neg (by omega),if_neg (by omega),if_neg (by omega),if_pos hk]
theorem fc (h:¬ (t.kind<1∨10<t.kind∨¬ v.kind=t.kind))(hf:ab v=true)(hk:t.kind=1):bt R t v p=[]:=by
 unfold bt;rw[if_neg h,if_neg (by rw[hf];simp),if_neg (by omega),if_neg (by omega),if_neg (by omega),if_neg (by omega),if_neg (by omega),if_neg (by omega)]
theorem f5 {c:TFd}(h:t.fields.find? (named v.text)=some c):ED R t v p=R c.typ (v.lst.headD lC) (p++(63::v.text)):=by
 unfold ED;rw[h]
theorem f6 (h:t.fields.find? (named v.text)=none):ED R t v p=[.mk p 7]:=by
 unfold ED;rw[h]
theorem dt {e:List Typ}{y:Typ}{x:Val}{i:Nat}(h:e=[y]):eJ R e p x i=R y x (atT p i):=by subst h;rfl
theorem du {e:List Typ}{x:Val}{i:Nat}(h:¬ e.length=1):eJ R e p x i=[.mk (atT p i) 1]:=by
 match e,h with
 | [],_=>rfl
 | [_],h=>exact absurd rfl h
 | _::_::_,_=>rfl
end
theorem jy (p:List UInt8)(i:Nat):(atT p i).length≤p.length+23:=by
 have:=cD i
 unfold atT
 simp only[List.length_append,List.length_cons,List.length_nil];omega
theorem aw (n:Nat)(t:Typ)(v:Val)(p:List UInt8):aF (n+1) t v p=bt (aF n) t v p:=rfl
end Go.Proofs.YtedanlflegfomaaGreatDoor
set_option maxRecDepth 100000
set_option linter.unusedVariables false
set_option linter.unusedSimpArgs false
namespace Go.Proofs.YtedanlflegfomaaGreatDoor
open Go Go.Ab
attribute [local irreducible] vc
theorem jm {v:Val}(hk:v.kind=10)(hf:ab v=true):v.lst.length=1:=by
 obtain⟨vk,vi,vs,vt,vl,vf⟩:=v
 simp only[Val.kind,Val.lst] at *
 subst hk
 simp[ab] at hf
 omega
end Go.Proofs.YtedanlflegfomaaGreatDoor

/- A part of the proof. -/
import Derived.Test.YtbojpfpliibfbaaGreatDoorCaRWG
set_option maxRecDepth 100000
set_option linter.unusedVariables false
set_option linter.unusedSimpArgs false
namespace Go.Proofs.YtbojpfpliibfbaaGreatDoor
open Go Go.Ab
attribute [local irreducible] vc
def ixM {α β:Type}(F:α->Nat->List β)(l:List α):List β:=l.zipIdx.flatMap fun q=>F q.1 q.2
theorem pf {α β:Type}(F:α->List β){l:List α}{m:Nat}{x:α}(h:l[m]? = some x):(l.take (m+1)).flatMap F=(l.take m).flatMap F++F x:=by
 rw[aM h];simp
def atT (p:List UInt8)(i:Nat):List UInt8:=p++(91::(fX i++[93]))
def QC (R:Typ->Val->List UInt8->List Mis)(e:List Typ)(p:List UInt8)(x:Val)(i:Nat):List Mis:=
 match e with
 | [t]=>R t x (atT p i)
 | _=>[.mk (atT p i) 1]
def fL (R:Typ->Val->List UInt8->List Mis)(fs:List Fld)(p:List UInt8)(x:TFd):List Mis:=
 match fs.find? (bc x.name) with
 | some y=>R x.typ y.value (dn p x.name)
 | none=>if x.need=2 then [] else [.mk (dn p x.name) 5]
def j9 (ts:List TFd)(p:List UInt8)(x:Fld):List Mis:=if (ts.find? (named x.name)).isSome=true then [] else [.mk (dn p x.name) 6]
theorem f0 {R:Typ->Val->List UInt8->List Mis}{fs:List Fld}{p:List UInt8}{x:TFd}{y:Fld}(h:fs.find? (bc x.name)=some y):fL R fs p x=R x.typ y.value (dn p x.name):=by
 unfold fL;rw[h]
theorem mm {R:Typ->Val->List UInt8->List Mis}{fs:List Fld}{p:List UInt8}{x:TFd}(h:fs.find? (bc x.name)=none)(hn:x.need=2):fL R fs p x=[]:=by
 unfold fL;rw[h];exact if_pos hn
theorem kK {R:Typ->Val->List UInt8->List Mis}{fs:List Fld}{p:List UInt8}{x:TFd}(h:fs.find? (bc x.name)=none)(hn:¬ x.need=2):fL R fs p x=[.mk (dn p x.name) 5]:=by
 unfold fL;rw[h];exact if_neg hn
theorem j7 {ts:List TFd}{p:List UInt8}{x:Fld}{z:TFd}(h:ts.find? (named x.name)=some z):j9 ts p x=[]:=by
 unfold j9;rw[h];exact if_pos rfl
theorem j8 {ts:List TFd}{p:List UInt8}{x:Fld}(h:ts.find? (named x.name)=none):j9 ts p x=[.mk (dn p x.name) 6]:=by
 unfold j9;rw[h];exact if_neg (by simp)
def Jw (R:Typ->Val->List UInt8->List Mis)(t:Typ)(v:Val)(p:List UInt8):List Mis:=t.fields.flatMap (fL R v.fields p)++v.fields.flatMap (j9 t.fields p)
def R5 (R:Typ->Val->List UInt8->List Mis)(t:Typ)(v:Val)(p:List UInt8):List Mis:=
 match t.fields.find? (named v.text) with
 | some c=>R c.typ (v.lst.headD ef) (p++(63::v.text))
 | none=>[.mk p 7]
def dD (R:Typ->Val->List UInt8->List Mis)(t:Typ)(v:Val)(p:List UInt8):List Mis:=
 if t.kind<1\/10<t.kind\/¬ v.kind=t.kind then [.mk p 1]
 else if ae v=false then [.mk p 8]
 else if t.kind=2\/t.kind=6\/t.kind=7 then vF t.min t.max p v.num
 else if t.kind=3 then (if v.scale=t.scale then vF t.min t.max p v.num else [.mk p 3])
 else if t.kind=4\/t.kind=5 then (if t.kind=4/\0<t.words.length then (if (t.words.any fun x=>decide (x=v.text))=true then [] else [.mk p 4]) else vF t.min t.max p v.text.length)
 else if t.kind=8 then vF t.min t.max p v.lst.length++ixM (QC R t.elem p) v.lst
 else if t.kind=9 then Jw R t v p
 else if t.kind=10 then R5 R t v p
 else []
def bw:Nat->Typ->Val->List UInt8->List Mis
 | 0=>fun _ _ _=>[]
 | n+1=>dD (bw n)
def dep:Nat->Val->Prop
 | 0,_=>True
 | n+1,v=>v.lst.length<=9000000000000/\v.fields.length<=9000000000000/\v.text.length<=140737488351232/\(∀ x∈v.lst,dep n x)/\∀ f∈v.fields,f.name.length<=140737488351232/\dep n f.value
theorem tN:∀ (n:Nat) (v:Val),v.ok->dep n v
 | 0,_,_=>trivial
 | n+1,.mk k a b t l f,h=>by
   rw[Val.ok_mk] at h
   obtain⟨_,_,_,h1,h2,h3,h4,h5⟩:=h
   refine⟨by simp only[Val.lst];omega,by simp only[Val.fields];omega,h1,fun x hx=>tN n x (h3 x hx),fun g hg=>?_⟩
   have:=h5 g hg
   obtain⟨nm,y⟩:=g
   rw[Fld.ok_mk] at this
   exact⟨this.1,tN n y this.2⟩
def eJ:Nat->Typ->Prop
 | 0,_=>False
 | n+1,t=>t.fields.length<=9000000000000/\t.words.length<=9000000000000/\(∀ e∈t.elem,eJ n e)/\∀ f∈t.fields,f.name.length<=100/\eJ n f.typ
def Qp (d:Bool)(l:List Mis):Prop:=l.length<=64/\(d=false->l.length<64)
theorem lG (p n:List UInt8):(dn p n).length<=p.length+n.length+1:=by
 unfold dn;split
 ·omega
 ·simp only[List.length_append,List.length_cons];omega
section
variable {R:Typ->Val->List UInt8->List Mis}{t:Typ}{v:Val}{p:List UInt8}
theorem dX (h:t.kind<1\/10<t.kind\/¬ v.kind=t.kind):dD R t v p=[.mk p 1]:=if_pos h
theorem gE (h:¬ (t.kind<1\/10<t.kind\/¬ v.kind=t.kind))(hf:ae v=false):dD R t v p=[.mk p 8]:=by
 unfold dD;rw[if_neg h,if_pos hf]
theorem fb (h:¬ (t.kind<1\/10<t.kind\/¬ v.kind=t.kind))(hf:ae v=true)(hk:t.kind=2\/t.kind=6\/t.kind=7):dD R t v p=vF t.min t.max p v.num:=by
 unfold dD;rw[if_neg h,if_neg (by rw[hf];simp),if_pos hk]
theorem kq (h:¬ (t.kind<1\/10<t.kind\/¬ v.kind=t.kind))(hf:ae v=true)(hk:t.kind=3)(hs:v.scale=t.scale):dD R t v p=vF t.min t.max p v.num:=by
 unfold dD;rw[if_neg h,if_neg (by rw[hf];simp),if_neg (by omega),if_pos hk,if_pos hs]
theorem ko (h:¬ (t.kind<1\/10<t.kind\/¬ v.kind=t.kind))(hf:ae v=true)(hk:t.kind=3)(hs:¬ v.scale=t.scale):dD R t v p=[.mk p 3]:=by
 unfold dD;rw[if_neg h,if_neg (by rw[hf];simp),if_neg (by omega),if_pos hk,if_neg hs]
theorem l6 (h:¬ (t.kind<1\/10<t.kind\/¬ v.kind=t.kind))(hf:ae v=true)(hk:t.kind=4)(hw:0<t.words.length)(ha:(t.words.any fun x=>decide (x=v.text))=true):dD R t v p=[]:=by
 unfold dD;rw[if_neg h,if_neg (by rw[hf];simp),if_neg (by omega),if_neg (by omega),if_pos (.inl hk),if_pos ⟨hk,hw⟩,if_pos ha]
theorem iV (h:¬ (t.kind<1\/10<t.kind\/¬ v.kind=t.kind))(hf:ae v=true)(hk:t.kind=4)(hw:0<t.words.length)(ha:(t.words.any fun x=>decide (x=v.text))=false):dD R t v p=[.mk p 4]:=by
 unfold dD;rw[if_neg h,if_neg (by rw[hf];simp),if_neg (by omega),if_neg (by omega),if_pos (.inl hk),if_pos ⟨hk,hw⟩,if_neg (by rw[ha];simp)]
theorem dW (h:¬ (t.kind<1\/10<t.kind\/¬ v.kind=t.kind))(hf:ae v=true)(hk:t.kind=4\/t.kind=5)(hw:t.kind=4->t.words.length=0):dD R t v p=vF t.min t.max p v.text.length:=by
 unfold dD;rw[if_neg h,if_neg (by rw[hf];simp),if_neg (by omega),if_neg (by omega),if_pos hk,if_neg (by intro hh;have:=hw hh.1;omega)]
theorem gD (h:¬ (t.kind<1\/10<t.kind\/¬ v.kind=t.kind))(hf:ae v=true)(hk:t.kind=9):dD R t v p=Jw R t v p:=by
 unfold dD;rw[if_neg h,if_neg (by rw[hf];simp),if_neg (by omega),if_neg (by omega),if_neg (by omega),if_neg (by omega),if_pos hk]
theorem l7 (h:¬ (t.kind<1\/10<t.kind\/¬ v.kind=t.kind))(hf:ae v=true)(hk:t.kind=1):dD R t v p=[]:=by
 unfold dD;rw[if_neg h,if_neg (by rw[hf];simp),if_neg (by omega),if_neg (by omega),if_neg (by omega),if_neg (by omega),if_neg (by omega),if_neg (by omega)]
end
theorem aK (n:Nat)(t:Typ)(v:Val)(p:List UInt8):bw (n+1) t v p=dD (bw n) t v p:=rfl
end Go.Proofs.YtbojpfpliibfbaaGreatDoor

/- A part of the proof. -/
import Derived.Test.YtbojpfpliibfbaaGreatDoorRtRWG
set_option maxRecDepth 100000
set_option linter.unusedVariables false
set_option linter.unusedSimpArgs false
namespace Go.Proofs.YtbojpfpliibfbaaGreatDoor
open Go Go.Ab
attribute [local irreducible] vc
def ixM {α β:Type}(F:α->Nat->List β)(l:List α):List β:=l.zipIdx.flatMap fun q=>F q.1 q.2
theorem oA {α β:Type}(F:α->List β){l:List α}{m:Nat}{x:α}(h:l[m]? = some x):(l.take (m+1)).flatMap F=(l.take m).flatMap F++F x:=by
 rw[aL h];simp
def atT (p:List UInt8)(i:Nat):List UInt8:=p++(91::(fJ i++[93]))
def Pr (R:Typ->Val->List UInt8->List Mis)(e:List Typ)(p:List UInt8)(x:Val)(i:Nat):List Mis:=
 match e with
 | [t]=>R t x (atT p i)
 | _=>[.mk (atT p i) 1]
def fu (R:Typ->Val->List UInt8->List Mis)(fs:List Fld)(p:List UInt8)(x:TFd):List Mis:=
 match fs.find? (bn x.name) with
 | some y=>R x.typ y.value (cZ p x.name)
 | none=>if x.need=2 then [] else [.mk (cZ p x.name) 5]
def jG (ts:List TFd)(p:List UInt8)(x:Fld):List Mis:=if (ts.find? (named x.name)).isSome=true then [] else [.mk (cZ p x.name) 6]
theorem j6 {R:Typ->Val->List UInt8->List Mis}{fs:List Fld}{p:List UInt8}{x:TFd}{y:Fld}(h:fs.find? (bn x.name)=some y):fu R fs p x=R x.typ y.value (cZ p x.name):=by
 unfold fu;rw[h]
theorem vz {R:Typ->Val->List UInt8->List Mis}{fs:List Fld}{p:List UInt8}{x:TFd}(h:fs.find? (bn x.name)=none)(hn:x.need=2):fu R fs p x=[]:=by
 unfold fu;rw[h];exact if_pos hn
theorem j7 {R:Typ->Val->List UInt8->List Mis}{fs:List Fld}{p:List UInt8}{x:TFd}(h:fs.find? (bn x.name)=none)(hn:¬ x.need=2):fu R fs p x=[.mk (cZ p x.name) 5]:=by
 unfold fu;rw[h];exact if_neg hn
theorem p6 {ts:List TFd}{p:List UInt8}{x:Fld}{z:TFd}(h:ts.find? (named x.name)=some z):jG ts p x=[]:=by
 unfold jG;rw[h];exact if_pos rfl
theorem jF {ts:List TFd}{p:List UInt8}{x:Fld}(h:ts.find? (named x.name)=none):jG ts p x=[.mk (cZ p x.name) 6]:=by
 unfold jG;rw[h];exact if_neg (by simp)
def KH (R:Typ->Val->List UInt8->List Mis)(t:Typ)(v:Val)(p:List UInt8):List Mis:=t.fields.flatMap (fu R v.fields p)++v.fields.flatMap (jG t.fields p)
def QX (R:Typ->Val->List UInt8->List Mis)(t:Typ)(v:Val)(p:List UInt8):List Mis:=
 match t.fields.find? (named v.text) with
 | some c=>R c.typ (v.lst.headD eC) (p++(63::v.text))
 | none=>[.mk p 7]
def dq (R:Typ->Val->List UInt8->List Mis)(t:Typ)(v:Val)(p:List UInt8):List Mis:=
 if t.kind<1\/10<t.kind\/¬ v.kind=t.kind then [.mk p 1]
 else if ae v=false then [.mk p 8]
 else if t.kind=2\/t.kind=6\/t.kind=7 then uB t.min t.max p v.num
 else if t.kind=3 then (if v.scale=t.scale then uB t.min t.max p v.num else [.mk p 3])
 else if t.kind=4\/t.kind=5 then (if t.kind=4/\0<t.words.length then (if (t.words.any fun x=>decide (x=v.text))=true then [] else [.mk p 4]) else uB t.min t.max p v.text.length)
 else if t.kind=8 then uB t.min t.max p v.lst.length++ixM (Pr R t.elem p) v.lst
 else if t.kind=9 then KH R t v p
 else if t.kind=10 then QX R t v p
 else []
def bq:Nat->Typ->Val->List UInt8->List Mis
 | 0=>fun _ _ _=>[]
 | n+1=>dq (bq n)
def dep:Nat->Val->Prop
 | 0,_=>True
 | n+1,v=>v.lst.length<=9000000000000/\v.fields.length<=9000000000000/\v.text.length<=140737488351232/\(∀ x∈v.lst,dep n x)/\∀ f∈v.fields,f.name.length<=140737488351232/\dep n f.value
theorem sP:∀ (n:Nat) (v:Val),v.ok->dep n v
 | 0,_,_=>trivial
 | n+1,.mk k a b t l f,h=>by
   rw[Val.ok_mk] at h
   obtain⟨_,_,_,h1,h2,h3,h4,h5⟩:=h
   refine⟨by simp only[Val.lst];omega,by simp only[Val.fields];omega,h1,fun x hx=>sP n x (h3 x hx),fun g hg=>?_⟩
   have:=h5 g hg
   obtain⟨nm,y⟩:=g
   rw[Fld.ok_mk] at this
   exact⟨this.1,sP n y this.2⟩
def eq:Nat->Typ->Prop
 | 0,_=>False
 | n+1,t=>t.fields.length<=9000000000000/\t.words.length<=9000000000000/\(∀ e∈t.elem,eq n e)/\∀ f∈t.fields,f.name.length<=100/\eq n f.typ
def Pe (d:Bool)(l:List Mis):Prop:=l.length<=64/\(d=false->l.length<64)
theorem kQ (p n:List UInt8):(cZ p n).length<=p.length+n.length+1:=by
 unfold cZ;split
 ·omega
 ·simp only[List.length_append,List.length_cons];omega
section
variable {R:Typ->Val->List UInt8->List Mis}{t:Typ}{v:Val}{p:List UInt8}
theorem dJ (h:t.kind<1\/10<t.kind\/¬ v.kind=t.kind):dq R t v p=[.mk p 1]:=if_pos h
theorem f7 (h:¬ (t.kind<1\/10<t.kind\/¬ v.kind=t.kind))(hf:ae v=false):dq R t v p=[.mk p 8]:=by
 unfold dq;rw[if_neg h,if_pos hf]
theorem eU (h:¬ (t.kind<1\/10<t.kind\/¬ v.kind=t.kind))(hf:ae v=true)(hk:t.kind=2\/t.kind=6\/t.kind=7):dq R t v p=uB t.min t.max p v.num:=by
 unfold dq;rw[if_neg h,if_neg (by rw[hf];simp),if_pos hk]
theorem jS (h:¬ (t.kind<1\/10<t.kind\/¬ v.kind=t.kind))(hf:ae v=true)(hk:t.kind=3)(hs:v.scale=t.scale):dq R t v p=uB t.min t.max p v.num:=by
 unfold dq;rw[if_neg h,if_neg (by rw[hf];simp),if_neg (by omega),if_pos hk,if_pos hs]
theorem jQ (h:¬ (t.kind<1\/10<t.kind\/¬ v.kind=t.kind))(hf:ae v=true)(hk:t.kind=3)(hs:¬ v.scale=t.scale):dq R t v p=[.mk p 3]:=by
 unfold dq;rw[if_neg h,if_neg (by rw[hf];simp),if_neg (by omega),if_pos hk,if_neg hs]
theorem lk (h:¬ (t.kind<1\/10<t.kind\/¬ v.kind=t.kind))(hf:ae v=true)(hk:t.kind=4)(hw:0<t.words.length)(ha:(t.words.any fun x=>decide (x=v.text))=true):dq R t v p=[]:=by
 unfold dq;rw[if_neg h,if_neg (by rw[hf];simp),if_neg (by omega),if_neg (by omega),if_pos (.inl hk),if_pos ⟨hk,hw⟩,if_pos ha]
theorem ir (h:¬ (t.kind<1\/10<t.kind\/¬ v.kind=t.kind))(hf:ae v=true)(hk:t.kind=4)(hw:0<t.words.length)(ha:(t.words.any fun x=>decide (x=v.text))=false):dq R t v p=[.mk p 4]:=by
 unfold dq;rw[if_neg h,if_neg (by rw[hf];simp),if_neg (by omega),if_neg (by omega),if_pos (.inl hk),if_pos ⟨hk,hw⟩,if_neg (by rw[ha];simp)]
theorem dH (h:¬ (t.kind<1\/10<t.kind\/¬ v.kind=t.kind))(hf:ae v=true)(hk:t.kind=4\/t.kind=5)(hw:t.kind=4->t.words.length=0):dq R t v p=uB t.min t.max p v.text.length:=by
 unfold dq;rw[if_neg h,if_neg (by rw[hf];simp),if_neg (by omega),if_neg (by omega),if_pos hk,if_neg (by intro hh;have:=hw hh.1;omega)]
theorem jR (h:¬ (t.kind<1\/10<t.kind\/¬ v.kind=t.kind))(hf:ae v=true)(hk:t.kind=9):dq R t v p=KH R t v p:=by
 unfold dq;rw[if_neg h,if_neg (by rw[hf];simp),if_neg (by omega),if_neg (by omega),if_neg (by omega),if_neg (by omega),if_pos hk]
theorem ll (h:¬ (t.kind<1\/10<t.kind\/¬ v.kind=t.kind))(hf:ae v=true)(hk:t.kind=1):dq R t v p=[]:=by
 unfold dq;rw[if_neg h,if_neg (by rw[hf];simp),if_neg (by omega),if_neg (by omega),if_neg (by omega),if_neg (by omega),if_neg (by omega),if_neg (by omega)]
end
theorem aK (n:Nat)(t:Typ)(v:Val)(p:List UInt8):bq (n+1) t v p=dq (bq n) t v p:=rfl
end Go.Proofs.YtbojpfpliibfbaaGreatDoor

/- A part of the proof. -/
import Derived.Test.YtbojpfpliibfbaaGreatDoorEnR18
import Derived.Test.YtbojpfpliibfbaaGreatDoorEnRWG
set_option maxRecDepth 100000
set_option linter.unusedVariables false
set_option linter.unusedSimpArgs false
namespace Go.Proofs.YtbojpfpliibfbaaGreatDoor
open Go Go.Ab
attribute [local irreducible] vc
def cp (p n:List UInt8):List UInt8:=if p=[] then n else p++(46::n)
theorem rh (p n:List UInt8)(hp:p.length<=4000)(hn:n.length<=140737488351232):am Tryz.prog az 195 [.str p,.str n] (.str (cp p n)):=by
 refine am.intro Nx.2 (by simp[Nx]) ?_
 by_cases h:p=[]
 ·rw[cp,if_pos h]
  simp(disch:=try exact dI) only[Nx,h,push_cast,seval]
 ·rw[cp,if_neg h]
  simp(disch:=try exact dI) only[Nx,h,push_cast,seval]
theorem Gr (p n:List UInt8)(hp:p.length<=4000)(hn:n.length<=140737488351232):am Tryz.prog az 122 [.str p,.str n] (.str (cp p n)):=by
 refine am.intro ND.2 (by simp[ND]) ?_
 by_cases h:p=[]
 ·rw[cp,if_pos h]
  simp(disch:=try exact dI) only[ND,h,push_cast,seval]
 ·rw[cp,if_neg h]
  simp(disch:=try exact dI) only[ND,h,push_cast,seval]
def rK (mn mx:Int)(p:List UInt8)(n:Int):List Mis:=if n<mn\/mx<n then [.mk p 2] else []
theorem dN {mn mx n:Int}{p:List UInt8}(h:n<mn\/mx<n):rK mn mx p n=[.mk p 2]:=if_pos h
theorem j0 {mn mx n:Int}{p:List UInt8}(h:¬ (n<mn\/mx<n)):rK mn mx p n=[]:=if_neg h
def ixM {α β:Type}(F:α->Nat->List β)(l:List α):List β:=l.zipIdx.flatMap fun q=>F q.1 q.2
theorem gQ {α β:Type}(F:α->List β){l:List α}{m:Nat}{x:α}(h:l[m]? = some x):(l.take (m+1)).flatMap F=(l.take m).flatMap F++F x:=by
 rw[aK h];simp
def atT (p:List UInt8)(i:Nat):List UInt8:=p++(91::(gh i++[93]))
def Oz (R:Typ->Val->List UInt8->List Mis)(e:List Typ)(p:List UInt8)(x:Val)(i:Nat):List Mis:=
 match e with
 | [t]=>R t x (atT p i)
 | _=>[.mk (atT p i) 1]
def eo (R:Typ->Val->List UInt8->List Mis)(fs:List Fld)(p:List UInt8)(x:TFd):List Mis:=
 match fs.find? (bc x.name) with
 | some y=>R x.typ y.value (cp p x.name)
 | none=>if x.need=2 then [] else [.mk (cp p x.name) 5]
def eQ (ts:List TFd)(p:List UInt8)(x:Fld):List Mis:=if (ts.find? (named x.name)).isSome=true then [] else [.mk (cp p x.name) 6]
theorem eJ {R:Typ->Val->List UInt8->List Mis}{fs:List Fld}{p:List UInt8}{x:TFd}{y:Fld}(h:fs.find? (bc x.name)=some y):eo R fs p x=R x.typ y.value (cp p x.name):=by
 unfold eo;rw[h]
theorem iG {R:Typ->Val->List UInt8->List Mis}{fs:List Fld}{p:List UInt8}{x:TFd}(h:fs.find? (bc x.name)=none)(hn:x.need=2):eo R fs p x=[]:=by
 unfold eo;rw[h];exact if_pos hn
theorem gl {R:Typ->Val->List UInt8->List Mis}{fs:List Fld}{p:List UInt8}{x:TFd}(h:fs.find? (bc x.name)=none)(hn:¬ x.need=2):eo R fs p x=[.mk (cp p x.name) 5]:=by
 unfold eo;rw[h];exact if_neg hn
theorem j1 {ts:List TFd}{p:List UInt8}{x:Fld}{z:TFd}(h:ts.find? (named x.name)=some z):eQ ts p x=[]:=by
 unfold eQ;rw[h];exact if_pos rfl
theorem j2 {ts:List TFd}{p:List UInt8}{x:Fld}(h:ts.find? (named x.name)=none):eQ ts p x=[.mk (cp p x.name) 6]:=by
 unfold eQ;rw[h];exact if_neg (by simp)
def H4 (R:Typ->Val->List UInt8->List Mis)(t:Typ)(v:Val)(p:List UInt8):List Mis:=t.fields.flatMap (eo R v.fields p)++v.fields.flatMap (eQ t.fields p)
def P2 (R:Typ->Val->List UInt8->List Mis)(t:Typ)(v:Val)(p:List UInt8):List Mis:=
 match t.fields.find? (named v.text) with
 | some c=>R c.typ (v.lst.headD nr) (p++(63::v.text))
 | none=>[.mk p 7]
def dK (R:Typ->Val->List UInt8->List Mis)(t:Typ)(v:Val)(p:List UInt8):List Mis:=
 if t.kind<1\/10<t.kind\/¬ v.kind=t.kind then [.mk p 1]
 else if ae v=false then [.mk p 8]
 else if t.kind=2\/t.kind=6\/t.kind=7 then rK t.min t.max p v.num
 else if t.kind=3 then (if v.scale=t.scale then rK t.min t.max p v.num else [.mk p 3])
 else if t.kind=4\/t.kind=5 then (if t.kind=4/\0<t.words.length then (if (t.words.any fun x=>decide (x=v.text))=true then [] else [.mk p 4]) else rK t.min t.max p v.text.length)
 else if t.kind=8 then rK t.min t.max p v.lst.length++ixM (Oz R t.elem p) v.lst
 else if t.kind=9 then H4 R t v p
 else if t.kind=10 then P2 R t v p
 else []
def aT:Nat->Typ->Val->List UInt8->List Mis
 | 0=>fun _ _ _=>[]
 | n+1=>dK (aT n)
def dep:Nat->Val->Prop
 | 0,_=>True
 | n+1,v=>v.lst.length<=9000000000000/\v.fields.length<=9000000000000/\v.text.length<=140737488351232/\(∀ x∈v.lst,dep n x)/\∀ f∈v.fields,f.name.length<=140737488351232/\dep n f.value
theorem lV:∀ (n:Nat) (v:Val),v.ok->dep n v
 | 0,_,_=>trivial
 | n+1,.mk k a b t l f,h=>by
   rw[Val.ok_mk] at h
   obtain⟨_,_,_,h1,h2,h3,h4,h5⟩:=h
   refine⟨by simp only[Val.lst];omega,by simp only[Val.fields];omega,h1,fun x hx=>lV n x (h3 x hx),fun g hg=>?_⟩
   have:=h5 g hg
   obtain⟨nm,y⟩:=g
   rw[Fld.ok_mk] at this
   exact⟨this.1,lV n y this.2⟩
def bM:Nat->Typ->Prop
 | 0,_=>False
 | n+1,t=>t.fields.length<=9000000000000/\t.words.length<=9000000000000/\(∀ e∈t.elem,bM n e)/\∀ f∈t.fields,f.name.length<=100/\bM n f.typ
def Og (d:Bool)(l:List Mis):Prop:=l.length<=64/\(d=false->l.length<64)
theorem fC (p n:List UInt8):(cp p n).length<=p.length+n.length+1:=by
 unfold cp;split
 ·omega
 ·simp only[List.length_append,List.length_cons];omega
section
variable {R:Typ->Val->List UInt8->List Mis}{t:Typ}{v:Val}{p:List UInt8}
theorem eh (h:t.kind<1\/10<t.kind\/¬ v.kind=t.kind):dK R t v p=[.mk p 1]:=if_pos h
theorem gL (h:¬ (t.kind<1\/10<t.kind\/¬ v.kind=t.kind))(hf:ae v=false):dK R t v p=[.mk p 8]:=by
 unfold dK;rw[if_neg h,if_pos hf]
theorem cU (h:¬ (t.kind<1\/10<t.kind\/¬ v.kind=t.kind))(hf:ae v=true)(hk:t.kind=2\/t.kind=6\/t.kind=7):dK R t v p=rK t.min t.max p v.num:=by
 unfold dK;rw[if_neg h,if_neg (by rw[hf];simp),if_pos hk]
theorem ka (h:¬ (t.kind<1\/10<t.kind\/¬ v.kind=t.kind))(hf:ae v=true)(hk:t.kind=3)(hs:v.scale=t.scale):dK R t v p=rK t.min t.max p v.num:=by
 unfold dK;rw[if_neg h,if_neg (by rw[hf];simp),if_neg (by omega),if_pos hk,if_pos hs]
theorem ga (h:¬ (t.kind<1\/10<t.kind\/¬ v.kind=t.kind))(hf:ae v=true)(hk:t.kind=3)(hs:¬ v.scale=t.scale):dK R t v p=[.mk p 3]:=by
 unfold dK;rw[if_neg h,if_neg (by rw[hf];simp),if_neg (by omega),if_pos hk,if_neg hs]
theorem lB (h:¬ (t.kind<1\/10<t.kind\/¬ v.kind=t.kind))(hf:ae v=true)(hk:t.kind=4)(hw:0<t.words.length)(ha:(t.words.any fun x=>decide (x=v.text))=true):dK R t v p=[]:=by
 unfold dK;rw[if_neg h,if_neg (by rw[hf];simp),if_neg (by omega),if_neg (by omega),if_pos (.inl hk),if_pos ⟨hk,hw⟩,if_pos ha]
theorem fo (h:¬ (t.kind<1\/10<t.kind\/¬ v.kind=t.kind))(hf:ae v=true)(hk:t.kind=4)(hw:0<t.words.length)(ha:(t.words.any fun x=>decide (x=v.text))=false):dK R t v p=[.mk p 4]:=by
 unfold dK;rw[if_neg h,if_neg (by rw[hf];simp),if_neg (by omega),if_neg (by omega),if_pos (.inl hk),if_pos ⟨hk,hw⟩,if_neg (by rw[ha];simp)]
theorem dp (h:¬ (t.kind<1\/10<t.kind\/¬ v.kind=t.kind))(hf:ae v=true)(hk:t.kind=4\/t.kind=5)(hw:t.kind=4->t.words.length=0):dK R t v p=rK t.min t.max p v.text.length:=by
 unfold dK;rw[if_neg h,if_neg (by rw[hf];simp),if_neg (by omega),if_neg (by omega),if_pos hk,if_neg (by intro hh;have:=hw hh.1;omega)]
theorem j9 (h:¬ (t.kind<1\/10<t.kind\/¬ v.kind=t.kind))(hf:ae v=true)(hk:t.kind=9):dK R t v p=H4 R t v p:=by
 unfold dK;rw[if_neg h,if_neg (by rw[hf];simp),if_neg (by omega),if_neg (by omega),if_neg (by omega),if_neg (by omega),if_pos hk]
theorem lC (h:¬ (t.kind<1\/10<t.kind\/¬ v.kind=t.kind))(hf:ae v=true)(hk:t.kind=1):dK R t v p=[]:=by
 unfold dK;rw[if_neg h,if_neg (by rw[hf];simp),if_neg (by omega),if_neg (by omega),if_neg (by omega),if_neg (by omega),if_neg (by omega),if_neg (by omega)]
end
theorem aG (n:Nat)(t:Typ)(v:Val)(p:List UInt8):aT (n+1) t v p=dK (aT n) t v p:=rfl
end Go.Proofs.YtbojpfpliibfbaaGreatDoor

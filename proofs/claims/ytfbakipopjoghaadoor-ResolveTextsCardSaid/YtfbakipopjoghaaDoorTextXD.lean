/- A part of the proof for ResolveTextsCardSaid. -/
import Derived.KernelRfl
import Derived.Test.YtfbakipopjoghaaDoorProg
import Derived.Test.YtfbakipopjoghaaDoorCore4
/- Data of the program, as Lean types. -/
set_option maxRecDepth 100000
set_option linter.unusedVariables false
set_option linter.unusedSimpArgs false
namespace Go.Proofs.YtfbakipopjoghaaDoor
open Go Go.Ab

def I64 (n : Int) : Prop := -9223372036854775808 ≤ n ∧ n ≤ 9223372036854775807
mutual
inductive Val where
  | mk (kind : Int) (num : Int) (scale : Int) (text : List UInt8) (lst : List Val) (fields : List Fld)
inductive Fld where
  | mk (name : List UInt8) (value : Val)
end
def Val.kind : Val → Int
  | .mk kind _ _ _ _ _ => kind
def Val.num : Val → Int
  | .mk _ num _ _ _ _ => num
def Val.scale : Val → Int
  | .mk _ _ scale _ _ _ => scale
def Val.text : Val → List UInt8
  | .mk _ _ _ text _ _ => text
def Val.lst : Val → List Val
  | .mk _ _ _ _ lst _ => lst
def Val.fields : Val → List Fld
  | .mk _ _ _ _ _ fields => fields
def Fld.name : Fld → List UInt8
  | .mk name _ => name
def Fld.value : Fld → Val
  | .mk _ value => value
mutual
def Val.pv : Val → PV
  | .mk kind num scale text lst fields => .agg ([.int .i64 kind, .int .i64 num, .int .i64 scale, .str text, .list (lst.map Val.pv), .list (fields.map Fld.pv)])
def Fld.pv : Fld → PV
  | .mk name value => .agg ([.str name] ++ value.pv.cells)
end
theorem Val.pv_mk (kind : Int) (num : Int) (scale : Int) (text : List UInt8) (lst : List Val) (fields : List Fld) : (Val.mk kind num scale text lst fields).pv = .agg ([.int .i64 kind, .int .i64 num, .int .i64 scale, .str text, .list (lst.map Val.pv), .list (fields.map Fld.pv)]) := by rw [Val.pv]
theorem Fld.pv_mk (name : List UInt8) (value : Val) : (Fld.mk name value).pv = .agg ([.str name] ++ value.pv.cells) := by rw [Fld.pv]
theorem Val.cells_len (x : Val) : x.pv.cells.length = 6 := by
  obtain ⟨kind, num, scale, text, lst, fields⟩ := x
  rw [Val.pv_mk]; simp only [cells_agg, List.length_append, List.length_cons, List.length_nil]
theorem Val.isAgg (x : Val) : x.pv.isAgg = true := by
  obtain ⟨kind, num, scale, text, lst, fields⟩ := x
  rw [Val.pv_mk]; rfl
theorem Fld.cells_len (x : Fld) : x.pv.cells.length = 7 := by
  obtain ⟨name, value⟩ := x
  rw [Fld.pv_mk]; simp only [cells_agg, List.length_append, List.length_cons, List.length_nil, Val.cells_len]
theorem Fld.isAgg (x : Fld) : x.pv.isAgg = true := by
  obtain ⟨name, value⟩ := x
  rw [Fld.pv_mk]; rfl
theorem Val.ones (x : Val) : (x.pv.cells.all PV.one) = true := by
  obtain ⟨kind, num, scale, text, lst, fields⟩ := x
  rw [Val.pv_mk]; simp only [cells_agg, List.all_append, List.all_cons, List.all_nil, one_str, one_int, one_bool, one_list, Bool.and_true, Bool.and_self]
theorem Val.row (x : Val) : ∃ cs, x.pv = .agg cs ∧ cs.length = 6 ∧ ∀ p ∈ cs, p.one = true := by
  have h1 := x.cells_len; have h2 := x.ones; have h3 := x.isAgg
  cases h : x.pv with
  | agg cs => rw [h] at h1 h2; exact ⟨cs, rfl, h1, fun p hp => List.all_eq_true.1 h2 p hp⟩
  | _ => rw [h] at h3; cases h3
theorem Fld.ones (x : Fld) : (x.pv.cells.all PV.one) = true := by
  obtain ⟨name, value⟩ := x
  rw [Fld.pv_mk]; simp only [cells_agg, List.all_append, List.all_cons, List.all_nil, one_str, one_int, one_bool, one_list, Bool.and_true, Bool.and_self, Val.ones]
theorem Fld.row (x : Fld) : ∃ cs, x.pv = .agg cs ∧ cs.length = 7 ∧ ∀ p ∈ cs, p.one = true := by
  have h1 := x.cells_len; have h2 := x.ones; have h3 := x.isAgg
  cases h : x.pv with
  | agg cs => rw [h] at h1 h2; exact ⟨cs, rfl, h1, fun p hp => List.all_eq_true.1 h2 p hp⟩
  | _ => rw [h] at h3; cases h3
mutual
def Val.ok : Val → Prop
  | .mk kind num scale text lst fields => I64 kind ∧ I64 num ∧ I64 scale ∧ text.length ≤ 140737488351232 ∧ lst.length * 88 ≤ 140737488351232 ∧ (∀ x ∈ lst, x.ok) ∧ fields.length * 104 ≤ 140737488351232 ∧ (∀ x ∈ fields, x.ok)
def Fld.ok : Fld → Prop
  | .mk name value => name.length ≤ 140737488351232 ∧ value.ok
end
theorem Val.ok_mk (kind : Int) (num : Int) (scale : Int) (text : List UInt8) (lst : List Val) (fields : List Fld) : (Val.mk kind num scale text lst fields).ok = (I64 kind ∧ I64 num ∧ I64 scale ∧ text.length ≤ 140737488351232 ∧ lst.length * 88 ≤ 140737488351232 ∧ (∀ x ∈ lst, x.ok) ∧ fields.length * 104 ≤ 140737488351232 ∧ (∀ x ∈ fields, x.ok)) := by rw [Val.ok]
theorem Fld.ok_mk (name : List UInt8) (value : Val) : (Fld.mk name value).ok = (name.length ≤ 140737488351232 ∧ value.ok) := by rw [Fld.ok]
mutual
inductive Typ where
  | mk (kind : Int) (min : Int) (max : Int) (scale : Int) (words : List (List UInt8)) (elem : List Typ) (fields : List TFd)
inductive TFd where
  | mk (number : Int) (name : List UInt8) (need : Int) (typ : Typ) (dflt : List Val)
end
def Typ.kind : Typ → Int
  | .mk kind _ _ _ _ _ _ => kind
def Typ.min : Typ → Int
  | .mk _ min _ _ _ _ _ => min
def Typ.max : Typ → Int
  | .mk _ _ max _ _ _ _ => max
def Typ.scale : Typ → Int
  | .mk _ _ _ scale _ _ _ => scale
def Typ.words : Typ → List (List UInt8)
  | .mk _ _ _ _ words _ _ => words
def Typ.elem : Typ → List Typ
  | .mk _ _ _ _ _ elem _ => elem
def Typ.fields : Typ → List TFd
  | .mk _ _ _ _ _ _ fields => fields
def TFd.number : TFd → Int
  | .mk number _ _ _ _ => number
def TFd.name : TFd → List UInt8
  | .mk _ name _ _ _ => name
def TFd.need : TFd → Int
  | .mk _ _ need _ _ => need
def TFd.typ : TFd → Typ
  | .mk _ _ _ typ _ => typ
def TFd.dflt : TFd → List Val
  | .mk _ _ _ _ dflt => dflt
mutual
def Typ.pv : Typ → PV
  | .mk kind min max scale words elem fields => .agg ([.int .i64 kind, .int .i64 min, .int .i64 max, .int .i64 scale, .list (words.map PV.str), .list (elem.map Typ.pv), .list (fields.map TFd.pv)])
def TFd.pv : TFd → PV
  | .mk number name need typ dflt => .agg ([.int .i64 number, .str name, .int .i64 need] ++ typ.pv.cells ++ [.list (dflt.map Val.pv)])
end
theorem Typ.pv_mk (kind : Int) (min : Int) (max : Int) (scale : Int) (words : List (List UInt8)) (elem : List Typ) (fields : List TFd) : (Typ.mk kind min max scale words elem fields).pv = .agg ([.int .i64 kind, .int .i64 min, .int .i64 max, .int .i64 scale, .list (words.map PV.str), .list (elem.map Typ.pv), .list (fields.map TFd.pv)]) := by rw [Typ.pv]
theorem TFd.pv_mk (number : Int) (name : List UInt8) (need : Int) (typ : Typ) (dflt : List Val) : (TFd.mk number name need typ dflt).pv = .agg ([.int .i64 number, .str name, .int .i64 need] ++ typ.pv.cells ++ [.list (dflt.map Val.pv)]) := by rw [TFd.pv]
theorem Typ.cells_len (x : Typ) : x.pv.cells.length = 7 := by
  obtain ⟨kind, min, max, scale, words, elem, fields⟩ := x
  rw [Typ.pv_mk]; simp only [cells_agg, List.length_append, List.length_cons, List.length_nil]
theorem Typ.isAgg (x : Typ) : x.pv.isAgg = true := by
  obtain ⟨kind, min, max, scale, words, elem, fields⟩ := x
  rw [Typ.pv_mk]; rfl
theorem TFd.cells_len (x : TFd) : x.pv.cells.length = 11 := by
  obtain ⟨number, name, need, typ, dflt⟩ := x
  rw [TFd.pv_mk]; simp only [cells_agg, List.length_append, List.length_cons, List.length_nil, Typ.cells_len]
theorem TFd.isAgg (x : TFd) : x.pv.isAgg = true := by
  obtain ⟨number, name, need, typ, dflt⟩ := x
  rw [TFd.pv_mk]; rfl
theorem Typ.ones (x : Typ) : (x.pv.cells.all PV.one) = true := by
  obtain ⟨kind, min, max, scale, words, elem, fields⟩ := x
  rw [Typ.pv_mk]; simp only [cells_agg, List.all_append, List.all_cons, List.all_nil, one_str, one_int, one_bool, one_list, Bool.and_true, Bool.and_self]
theorem Typ.row (x : Typ) : ∃ cs, x.pv = .agg cs ∧ cs.length = 7 ∧ ∀ p ∈ cs, p.one = true := by
  have h1 := x.cells_len; have h2 := x.ones; have h3 := x.isAgg
  cases h : x.pv with
  | agg cs => rw [h] at h1 h2; exact ⟨cs, rfl, h1, fun p hp => List.all_eq_true.1 h2 p hp⟩
  | _ => rw [h] at h3; cases h3
theorem TFd.ones (x : TFd) : (x.pv.cells.all PV.one) = true := by
  obtain ⟨number, name, need, typ, dflt⟩ := x
  rw [TFd.pv_mk]; simp only [cells_agg, List.all_append, List.all_cons, List.all_nil, one_str, one_int, one_bool, one_list, Bool.and_true, Bool.and_self, Typ.ones]
theorem TFd.row (x : TFd) : ∃ cs, x.pv = .agg cs ∧ cs.length = 11 ∧ ∀ p ∈ cs, p.one = true := by
  have h1 := x.cells_len; have h2 := x.ones; have h3 := x.isAgg
  cases h : x.pv with
  | agg cs => rw [h] at h1 h2; exact ⟨cs, rfl, h1, fun p hp => List.all_eq_true.1 h2 p hp⟩
  | _ => rw [h] at h3; cases h3
mutual
def Typ.ok : Typ → Prop
  | .mk kind min max scale words elem fields => I64 kind ∧ I64 min ∧ I64 max ∧ I64 scale ∧ words.length * 16 ≤ 140737488351232 ∧ (∀ x ∈ words, x.length ≤ 140737488351232) ∧ elem.length * 104 ≤ 140737488351232 ∧ (∀ x ∈ elem, x.ok) ∧ fields.length * 160 ≤ 140737488351232 ∧ (∀ x ∈ fields, x.ok)
def TFd.ok : TFd → Prop
  | .mk number name need typ dflt => I64 number ∧ name.length ≤ 140737488351232 ∧ I64 need ∧ typ.ok ∧ dflt.length * 88 ≤ 140737488351232 ∧ (∀ x ∈ dflt, x.ok)
end
theorem Typ.ok_mk (kind : Int) (min : Int) (max : Int) (scale : Int) (words : List (List UInt8)) (elem : List Typ) (fields : List TFd) : (Typ.mk kind min max scale words elem fields).ok = (I64 kind ∧ I64 min ∧ I64 max ∧ I64 scale ∧ words.length * 16 ≤ 140737488351232 ∧ (∀ x ∈ words, x.length ≤ 140737488351232) ∧ elem.length * 104 ≤ 140737488351232 ∧ (∀ x ∈ elem, x.ok) ∧ fields.length * 160 ≤ 140737488351232 ∧ (∀ x ∈ fields, x.ok)) := by rw [Typ.ok]
theorem TFd.ok_mk (number : Int) (name : List UInt8) (need : Int) (typ : Typ) (dflt : List Val) : (TFd.mk number name need typ dflt).ok = (I64 number ∧ name.length ≤ 140737488351232 ∧ I64 need ∧ typ.ok ∧ dflt.length * 88 ≤ 140737488351232 ∧ (∀ x ∈ dflt, x.ok)) := by rw [TFd.ok]
inductive Exp where
  | mk (op : Int) (num : Int) (text : List UInt8) (value : List Val) (args : List Exp)
def Exp.op : Exp → Int
  | .mk op _ _ _ _ => op
def Exp.num : Exp → Int
  | .mk _ num _ _ _ => num
def Exp.text : Exp → List UInt8
  | .mk _ _ text _ _ => text
def Exp.value : Exp → List Val
  | .mk _ _ _ value _ => value
def Exp.args : Exp → List Exp
  | .mk _ _ _ _ args => args
def Exp.pv : Exp → PV
  | .mk op num text value args => .agg ([.int .i64 op, .int .i64 num, .str text, .list (value.map Val.pv), .list (args.map Exp.pv)])
theorem Exp.pv_mk (op : Int) (num : Int) (text : List UInt8) (value : List Val) (args : List Exp) : (Exp.mk op num text value args).pv = .agg ([.int .i64 op, .int .i64 num, .str text, .list (value.map Val.pv), .list (args.map Exp.pv)]) := by rw [Exp.pv]
theorem Exp.cells_len (x : Exp) : x.pv.cells.length = 5 := by
  obtain ⟨op, num, text, value, args⟩ := x
  rw [Exp.pv_mk]; simp only [cells_agg, List.length_append, List.length_cons, List.length_nil]
theorem Exp.isAgg (x : Exp) : x.pv.isAgg = true := by
  obtain ⟨op, num, text, value, args⟩ := x
  rw [Exp.pv_mk]; rfl
theorem Exp.ones (x : Exp) : (x.pv.cells.all PV.one) = true := by
  obtain ⟨op, num, text, value, args⟩ := x
  rw [Exp.pv_mk]; simp only [cells_agg, List.all_append, List.all_cons, List.all_nil, one_str, one_int, one_bool, one_list, Bool.and_true, Bool.and_self]
theorem Exp.row (x : Exp) : ∃ cs, x.pv = .agg cs ∧ cs.length = 5 ∧ ∀ p ∈ cs, p.one = true := by
  have h1 := x.cells_len; have h2 := x.ones; have h3 := x.isAgg
  cases h : x.pv with
  | agg cs => rw [h] at h1 h2; exact ⟨cs, rfl, h1, fun p hp => List.all_eq_true.1 h2 p hp⟩
  | _ => rw [h] at h3; cases h3
def Exp.ok : Exp → Prop
  | .mk op num text value args => I64 op ∧ I64 num ∧ text.length ≤ 140737488351232 ∧ value.length * 88 ≤ 140737488351232 ∧ (∀ x ∈ value, x.ok) ∧ args.length * 80 ≤ 140737488351232 ∧ (∀ x ∈ args, x.ok)
theorem Exp.ok_mk (op : Int) (num : Int) (text : List UInt8) (value : List Val) (args : List Exp) : (Exp.mk op num text value args).ok = (I64 op ∧ I64 num ∧ text.length ≤ 140737488351232 ∧ value.length * 88 ≤ 140737488351232 ∧ (∀ x ∈ value, x.ok) ∧ args.length * 80 ≤ 140737488351232 ∧ (∀ x ∈ args, x.ok)) := by rw [Exp.ok]
inductive Rul where
  | mk (target : List UInt8) (expr : Exp)
def Rul.target : Rul → List UInt8
  | .mk target _ => target
def Rul.expr : Rul → Exp
  | .mk _ expr => expr
def Rul.pv : Rul → PV
  | .mk target expr => .agg ([.str target] ++ expr.pv.cells)
theorem Rul.pv_mk (target : List UInt8) (expr : Exp) : (Rul.mk target expr).pv = .agg ([.str target] ++ expr.pv.cells) := by rw [Rul.pv]
theorem Rul.cells_len (x : Rul) : x.pv.cells.length = 6 := by
  obtain ⟨target, expr⟩ := x
  rw [Rul.pv_mk]; simp only [cells_agg, List.length_append, List.length_cons, List.length_nil, Exp.cells_len]
theorem Rul.isAgg (x : Rul) : x.pv.isAgg = true := by
  obtain ⟨target, expr⟩ := x
  rw [Rul.pv_mk]; rfl
theorem Rul.ones (x : Rul) : (x.pv.cells.all PV.one) = true := by
  obtain ⟨target, expr⟩ := x
  rw [Rul.pv_mk]; simp only [cells_agg, List.all_append, List.all_cons, List.all_nil, one_str, one_int, one_bool, one_list, Bool.and_true, Bool.and_self, Exp.ones]
theorem Rul.row (x : Rul) : ∃ cs, x.pv = .agg cs ∧ cs.length = 6 ∧ ∀ p ∈ cs, p.one = true := by
  have h1 := x.cells_len; have h2 := x.ones; have h3 := x.isAgg
  cases h : x.pv with
  | agg cs => rw [h] at h1 h2; exact ⟨cs, rfl, h1, fun p hp => List.all_eq_true.1 h2 p hp⟩
  | _ => rw [h] at h3; cases h3
def Rul.ok : Rul → Prop
  | .mk target expr => target.length ≤ 140737488351232 ∧ expr.ok
theorem Rul.ok_mk (target : List UInt8) (expr : Exp) : (Rul.mk target expr).ok = (target.length ≤ 140737488351232 ∧ expr.ok) := by rw [Rul.ok]
inductive Cal where
  | mk (service : List UInt8) (mapping : List Rul)
def Cal.service : Cal → List UInt8
  | .mk service _ => service
def Cal.mapping : Cal → List Rul
  | .mk _ mapping => mapping
def Cal.pv : Cal → PV
  | .mk service mapping => .agg ([.str service, .list (mapping.map Rul.pv)])
theorem Cal.pv_mk (service : List UInt8) (mapping : List Rul) : (Cal.mk service mapping).pv = .agg ([.str service, .list (mapping.map Rul.pv)]) := by rw [Cal.pv]
theorem Cal.cells_len (x : Cal) : x.pv.cells.length = 2 := by
  obtain ⟨service, mapping⟩ := x
  rw [Cal.pv_mk]; simp only [cells_agg, List.length_append, List.length_cons, List.length_nil]
theorem Cal.isAgg (x : Cal) : x.pv.isAgg = true := by
  obtain ⟨service, mapping⟩ := x
  rw [Cal.pv_mk]; rfl
theorem Cal.ones (x : Cal) : (x.pv.cells.all PV.one) = true := by
  obtain ⟨service, mapping⟩ := x
  rw [Cal.pv_mk]; simp only [cells_agg, List.all_append, List.all_cons, List.all_nil, one_str, one_int, one_bool, one_list, Bool.and_true, Bool.and_self]
theorem Cal.row (x : Cal) : ∃ cs, x.pv = .agg cs ∧ cs.length = 2 ∧ ∀ p ∈ cs, p.one = true := by
  have h1 := x.cells_len; have h2 := x.ones; have h3 := x.isAgg
  cases h : x.pv with
  | agg cs => rw [h] at h1 h2; exact ⟨cs, rfl, h1, fun p hp => List.all_eq_true.1 h2 p hp⟩
  | _ => rw [h] at h3; cases h3
def Cal.ok : Cal → Prop
  | .mk service mapping => service.length ≤ 140737488351232 ∧ mapping.length * 96 ≤ 140737488351232 ∧ (∀ x ∈ mapping, x.ok)
theorem Cal.ok_mk (service : List UInt8) (mapping : List Rul) : (Cal.mk service mapping).ok = (service.length ≤ 140737488351232 ∧ mapping.length * 96 ≤ 140737488351232 ∧ (∀ x ∈ mapping, x.ok)) := by rw [Cal.ok]
mutual
inductive Bra where
  | mk (when : List Exp) (steps : List Stp)
inductive Stp where
  | mk (name : List UInt8) (kind : Int) (number : Int) (time : Int) (limit : Int) (text : List UInt8) (schema : List UInt8) (exprs : List Exp) (mapping : List Rul) (calls : List Cal) (branches : List Bra)
end
def Bra.when : Bra → List Exp
  | .mk when _ => when
def Bra.steps : Bra → List Stp
  | .mk _ steps => steps
def Stp.name : Stp → List UInt8
  | .mk name _ _ _ _ _ _ _ _ _ _ => name
def Stp.kind : Stp → Int
  | .mk _ kind _ _ _ _ _ _ _ _ _ => kind
def Stp.number : Stp → Int
  | .mk _ _ number _ _ _ _ _ _ _ _ => number
def Stp.time : Stp → Int
  | .mk _ _ _ time _ _ _ _ _ _ _ => time
def Stp.limit : Stp → Int
  | .mk _ _ _ _ limit _ _ _ _ _ _ => limit
def Stp.text : Stp → List UInt8
  | .mk _ _ _ _ _ text _ _ _ _ _ => text
def Stp.schema : Stp → List UInt8
  | .mk _ _ _ _ _ _ schema _ _ _ _ => schema
def Stp.exprs : Stp → List Exp
  | .mk _ _ _ _ _ _ _ exprs _ _ _ => exprs
def Stp.mapping : Stp → List Rul
  | .mk _ _ _ _ _ _ _ _ mapping _ _ => mapping
def Stp.calls : Stp → List Cal
  | .mk _ _ _ _ _ _ _ _ _ calls _ => calls
def Stp.branches : Stp → List Bra
  | .mk _ _ _ _ _ _ _ _ _ _ branches => branches
mutual
def Bra.pv : Bra → PV
  | .mk when steps => .agg ([.list (when.map Exp.pv), .list (steps.map Stp.pv)])
def Stp.pv : Stp → PV
  | .mk name kind number time limit text schema exprs mapping calls branches => .agg ([.str name, .int .i64 kind, .int .i64 number, .int .i64 time, .int .i64 limit, .str text, .str schema, .list (exprs.map Exp.pv), .list (mapping.map Rul.pv), .list (calls.map Cal.pv), .list (branches.map Bra.pv)])
end
theorem Bra.pv_mk (when : List Exp) (steps : List Stp) : (Bra.mk when steps).pv = .agg ([.list (when.map Exp.pv), .list (steps.map Stp.pv)]) := by rw [Bra.pv]
theorem Stp.pv_mk (name : List UInt8) (kind : Int) (number : Int) (time : Int) (limit : Int) (text : List UInt8) (schema : List UInt8) (exprs : List Exp) (mapping : List Rul) (calls : List Cal) (branches : List Bra) : (Stp.mk name kind number time limit text schema exprs mapping calls branches).pv = .agg ([.str name, .int .i64 kind, .int .i64 number, .int .i64 time, .int .i64 limit, .str text, .str schema, .list (exprs.map Exp.pv), .list (mapping.map Rul.pv), .list (calls.map Cal.pv), .list (branches.map Bra.pv)]) := by rw [Stp.pv]
theorem Bra.cells_len (x : Bra) : x.pv.cells.length = 2 := by
  obtain ⟨when, steps⟩ := x
  rw [Bra.pv_mk]; simp only [cells_agg, List.length_append, List.length_cons, List.length_nil]
theorem Bra.isAgg (x : Bra) : x.pv.isAgg = true := by
  obtain ⟨when, steps⟩ := x
  rw [Bra.pv_mk]; rfl
theorem Stp.cells_len (x : Stp) : x.pv.cells.length = 11 := by
  obtain ⟨name, kind, number, time, limit, text, schema, exprs, mapping, calls, branches⟩ := x
  rw [Stp.pv_mk]; simp only [cells_agg, List.length_append, List.length_cons, List.length_nil]
theorem Stp.isAgg (x : Stp) : x.pv.isAgg = true := by
  obtain ⟨name, kind, number, time, limit, text, schema, exprs, mapping, calls, branches⟩ := x
  rw [Stp.pv_mk]; rfl
theorem Bra.ones (x : Bra) : (x.pv.cells.all PV.one) = true := by
  obtain ⟨when, steps⟩ := x
  rw [Bra.pv_mk]; simp only [cells_agg, List.all_append, List.all_cons, List.all_nil, one_str, one_int, one_bool, one_list, Bool.and_true, Bool.and_self]
theorem Bra.row (x : Bra) : ∃ cs, x.pv = .agg cs ∧ cs.length = 2 ∧ ∀ p ∈ cs, p.one = true := by
  have h1 := x.cells_len; have h2 := x.ones; have h3 := x.isAgg
  cases h : x.pv with
  | agg cs => rw [h] at h1 h2; exact ⟨cs, rfl, h1, fun p hp => List.all_eq_true.1 h2 p hp⟩
  | _ => rw [h] at h3; cases h3
theorem Stp.ones (x : Stp) : (x.pv.cells.all PV.one) = true := by
  obtain ⟨name, kind, number, time, limit, text, schema, exprs, mapping, calls, branches⟩ := x
  rw [Stp.pv_mk]; simp only [cells_agg, List.all_append, List.all_cons, List.all_nil, one_str, one_int, one_bool, one_list, Bool.and_true, Bool.and_self]
theorem Stp.row (x : Stp) : ∃ cs, x.pv = .agg cs ∧ cs.length = 11 ∧ ∀ p ∈ cs, p.one = true := by
  have h1 := x.cells_len; have h2 := x.ones; have h3 := x.isAgg
  cases h : x.pv with
  | agg cs => rw [h] at h1 h2; exact ⟨cs, rfl, h1, fun p hp => List.all_eq_true.1 h2 p hp⟩
  | _ => rw [h] at h3; cases h3
mutual
def Bra.ok : Bra → Prop
  | .mk when steps => when.length * 80 ≤ 140737488351232 ∧ (∀ x ∈ when, x.ok) ∧ steps.length * 176 ≤ 140737488351232 ∧ (∀ x ∈ steps, x.ok)
def Stp.ok : Stp → Prop
  | .mk name kind number time limit text schema exprs mapping calls branches => name.length ≤ 140737488351232 ∧ I64 kind ∧ I64 number ∧ I64 time ∧ I64 limit ∧ text.length ≤ 140737488351232 ∧ schema.length ≤ 140737488351232 ∧ exprs.length * 80 ≤ 140737488351232 ∧ (∀ x ∈ exprs, x.ok) ∧ mapping.length * 96 ≤ 140737488351232 ∧ (∀ x ∈ mapping, x.ok) ∧ calls.length * 40 ≤ 140737488351232 ∧ (∀ x ∈ calls, x.ok) ∧ branches.length * 48 ≤ 140737488351232 ∧ (∀ x ∈ branches, x.ok)
end
theorem Bra.ok_mk (when : List Exp) (steps : List Stp) : (Bra.mk when steps).ok = (when.length * 80 ≤ 140737488351232 ∧ (∀ x ∈ when, x.ok) ∧ steps.length * 176 ≤ 140737488351232 ∧ (∀ x ∈ steps, x.ok)) := by rw [Bra.ok]
theorem Stp.ok_mk (name : List UInt8) (kind : Int) (number : Int) (time : Int) (limit : Int) (text : List UInt8) (schema : List UInt8) (exprs : List Exp) (mapping : List Rul) (calls : List Cal) (branches : List Bra) : (Stp.mk name kind number time limit text schema exprs mapping calls branches).ok = (name.length ≤ 140737488351232 ∧ I64 kind ∧ I64 number ∧ I64 time ∧ I64 limit ∧ text.length ≤ 140737488351232 ∧ schema.length ≤ 140737488351232 ∧ exprs.length * 80 ≤ 140737488351232 ∧ (∀ x ∈ exprs, x.ok) ∧ mapping.length * 96 ≤ 140737488351232 ∧ (∀ x ∈ mapping, x.ok) ∧ calls.length * 40 ≤ 140737488351232 ∧ (∀ x ∈ calls, x.ok) ∧ branches.length * 48 ≤ 140737488351232 ∧ (∀ x ∈ branches, x.ok)) := by rw [Stp.ok]
inductive Sch where
  | mk (name : List UInt8) (version : Int) (typ : Typ)
def Sch.name : Sch → List UInt8
  | .mk name _ _ => name
def Sch.version : Sch → Int
  | .mk _ version _ => version
def Sch.typ : Sch → Typ
  | .mk _ _ typ => typ
def Sch.pv : Sch → PV
  | .mk name version typ => .agg ([.str name, .int .i64 version] ++ typ.pv.cells)
theorem Sch.pv_mk (name : List UInt8) (version : Int) (typ : Typ) : (Sch.mk name version typ).pv = .agg ([.str name, .int .i64 version] ++ typ.pv.cells) := by rw [Sch.pv]
theorem Sch.cells_len (x : Sch) : x.pv.cells.length = 9 := by
  obtain ⟨name, version, typ⟩ := x
  rw [Sch.pv_mk]; simp only [cells_agg, List.length_append, List.length_cons, List.length_nil, Typ.cells_len]
theorem Sch.isAgg (x : Sch) : x.pv.isAgg = true := by
  obtain ⟨name, version, typ⟩ := x
  rw [Sch.pv_mk]; rfl
theorem Sch.ones (x : Sch) : (x.pv.cells.all PV.one) = true := by
  obtain ⟨name, version, typ⟩ := x
  rw [Sch.pv_mk]; simp only [cells_agg, List.all_append, List.all_cons, List.all_nil, one_str, one_int, one_bool, one_list, Bool.and_true, Bool.and_self, Typ.ones]
theorem Sch.row (x : Sch) : ∃ cs, x.pv = .agg cs ∧ cs.length = 9 ∧ ∀ p ∈ cs, p.one = true := by
  have h1 := x.cells_len; have h2 := x.ones; have h3 := x.isAgg
  cases h : x.pv with
  | agg cs => rw [h] at h1 h2; exact ⟨cs, rfl, h1, fun p hp => List.all_eq_true.1 h2 p hp⟩
  | _ => rw [h] at h3; cases h3
def Sch.ok : Sch → Prop
  | .mk name version typ => name.length ≤ 140737488351232 ∧ I64 version ∧ typ.ok
theorem Sch.ok_mk (name : List UInt8) (version : Int) (typ : Typ) : (Sch.mk name version typ).ok = (name.length ≤ 140737488351232 ∧ I64 version ∧ typ.ok) := by rw [Sch.ok]
inductive Fmt where
  | mk (kind : Int) (separator : Int) (widths : List Int)
def Fmt.kind : Fmt → Int
  | .mk kind _ _ => kind
def Fmt.separator : Fmt → Int
  | .mk _ separator _ => separator
def Fmt.widths : Fmt → List Int
  | .mk _ _ widths => widths
def Fmt.pv : Fmt → PV
  | .mk kind separator widths => .agg ([.int .i64 kind, .int .i64 separator, .list (widths.map (PV.int .i64))])
theorem Fmt.pv_mk (kind : Int) (separator : Int) (widths : List Int) : (Fmt.mk kind separator widths).pv = .agg ([.int .i64 kind, .int .i64 separator, .list (widths.map (PV.int .i64))]) := by rw [Fmt.pv]
theorem Fmt.cells_len (x : Fmt) : x.pv.cells.length = 3 := by
  obtain ⟨kind, separator, widths⟩ := x
  rw [Fmt.pv_mk]; simp only [cells_agg, List.length_append, List.length_cons, List.length_nil]
theorem Fmt.isAgg (x : Fmt) : x.pv.isAgg = true := by
  obtain ⟨kind, separator, widths⟩ := x
  rw [Fmt.pv_mk]; rfl
theorem Fmt.ones (x : Fmt) : (x.pv.cells.all PV.one) = true := by
  obtain ⟨kind, separator, widths⟩ := x
  rw [Fmt.pv_mk]; simp only [cells_agg, List.all_append, List.all_cons, List.all_nil, one_str, one_int, one_bool, one_list, Bool.and_true, Bool.and_self]
theorem Fmt.row (x : Fmt) : ∃ cs, x.pv = .agg cs ∧ cs.length = 3 ∧ ∀ p ∈ cs, p.one = true := by
  have h1 := x.cells_len; have h2 := x.ones; have h3 := x.isAgg
  cases h : x.pv with
  | agg cs => rw [h] at h1 h2; exact ⟨cs, rfl, h1, fun p hp => List.all_eq_true.1 h2 p hp⟩
  | _ => rw [h] at h3; cases h3
def Fmt.ok : Fmt → Prop
  | .mk kind separator widths => I64 kind ∧ I64 separator ∧ widths.length * 8 ≤ 140737488351232 ∧ (∀ x ∈ widths, I64 x)
theorem Fmt.ok_mk (kind : Int) (separator : Int) (widths : List Int) : (Fmt.mk kind separator widths).ok = (I64 kind ∧ I64 separator ∧ widths.length * 8 ≤ 140737488351232 ∧ (∀ x ∈ widths, I64 x)) := by rw [Fmt.ok]
inductive Enp where
  | mk (name : List UInt8) (kind : Int) (schema : List UInt8) (version : Int) (format : Fmt)
def Enp.name : Enp → List UInt8
  | .mk name _ _ _ _ => name
def Enp.kind : Enp → Int
  | .mk _ kind _ _ _ => kind
def Enp.schema : Enp → List UInt8
  | .mk _ _ schema _ _ => schema
def Enp.version : Enp → Int
  | .mk _ _ _ version _ => version
def Enp.format : Enp → Fmt
  | .mk _ _ _ _ format => format
def Enp.pv : Enp → PV
  | .mk name kind schema version format => .agg ([.str name, .int .i64 kind, .str schema, .int .i64 version] ++ format.pv.cells)
theorem Enp.pv_mk (name : List UInt8) (kind : Int) (schema : List UInt8) (version : Int) (format : Fmt) : (Enp.mk name kind schema version format).pv = .agg ([.str name, .int .i64 kind, .str schema, .int .i64 version] ++ format.pv.cells) := by rw [Enp.pv]
theorem Enp.cells_len (x : Enp) : x.pv.cells.length = 7 := by
  obtain ⟨name, kind, schema, version, format⟩ := x
  rw [Enp.pv_mk]; simp only [cells_agg, List.length_append, List.length_cons, List.length_nil, Fmt.cells_len]
theorem Enp.isAgg (x : Enp) : x.pv.isAgg = true := by
  obtain ⟨name, kind, schema, version, format⟩ := x
  rw [Enp.pv_mk]; rfl
theorem Enp.ones (x : Enp) : (x.pv.cells.all PV.one) = true := by
  obtain ⟨name, kind, schema, version, format⟩ := x
  rw [Enp.pv_mk]; simp only [cells_agg, List.all_append, List.all_cons, List.all_nil, one_str, one_int, one_bool, one_list, Bool.and_true, Bool.and_self, Fmt.ones]
theorem Enp.row (x : Enp) : ∃ cs, x.pv = .agg cs ∧ cs.length = 7 ∧ ∀ p ∈ cs, p.one = true := by
  have h1 := x.cells_len; have h2 := x.ones; have h3 := x.isAgg
  cases h : x.pv with
  | agg cs => rw [h] at h1 h2; exact ⟨cs, rfl, h1, fun p hp => List.all_eq_true.1 h2 p hp⟩
  | _ => rw [h] at h3; cases h3
def Enp.ok : Enp → Prop
  | .mk name kind schema version format => name.length ≤ 140737488351232 ∧ I64 kind ∧ schema.length ≤ 140737488351232 ∧ I64 version ∧ format.ok
theorem Enp.ok_mk (name : List UInt8) (kind : Int) (schema : List UInt8) (version : Int) (format : Fmt) : (Enp.mk name kind schema version format).ok = (name.length ≤ 140737488351232 ∧ I64 kind ∧ schema.length ≤ 140737488351232 ∧ I64 version ∧ format.ok) := by rw [Enp.ok]
inductive Svc where
  | mk (name : List UInt8) (request : List UInt8) (reply : List UInt8) (undo : Bool)
def Svc.name : Svc → List UInt8
  | .mk name _ _ _ => name
def Svc.request : Svc → List UInt8
  | .mk _ request _ _ => request
def Svc.reply : Svc → List UInt8
  | .mk _ _ reply _ => reply
def Svc.undo : Svc → Bool
  | .mk _ _ _ undo => undo
def Svc.pv : Svc → PV
  | .mk name request reply undo => .agg ([.str name, .str request, .str reply, .bool undo])
theorem Svc.pv_mk (name : List UInt8) (request : List UInt8) (reply : List UInt8) (undo : Bool) : (Svc.mk name request reply undo).pv = .agg ([.str name, .str request, .str reply, .bool undo]) := by rw [Svc.pv]
theorem Svc.cells_len (x : Svc) : x.pv.cells.length = 4 := by
  obtain ⟨name, request, reply, undo⟩ := x
  rw [Svc.pv_mk]; simp only [cells_agg, List.length_append, List.length_cons, List.length_nil]
theorem Svc.isAgg (x : Svc) : x.pv.isAgg = true := by
  obtain ⟨name, request, reply, undo⟩ := x
  rw [Svc.pv_mk]; rfl
theorem Svc.ones (x : Svc) : (x.pv.cells.all PV.one) = true := by
  obtain ⟨name, request, reply, undo⟩ := x
  rw [Svc.pv_mk]; simp only [cells_agg, List.all_append, List.all_cons, List.all_nil, one_str, one_int, one_bool, one_list, Bool.and_true, Bool.and_self]
theorem Svc.row (x : Svc) : ∃ cs, x.pv = .agg cs ∧ cs.length = 4 ∧ ∀ p ∈ cs, p.one = true := by
  have h1 := x.cells_len; have h2 := x.ones; have h3 := x.isAgg
  cases h : x.pv with
  | agg cs => rw [h] at h1 h2; exact ⟨cs, rfl, h1, fun p hp => List.all_eq_true.1 h2 p hp⟩
  | _ => rw [h] at h3; cases h3
def Svc.ok : Svc → Prop
  | .mk name request reply undo => name.length ≤ 140737488351232 ∧ request.length ≤ 140737488351232 ∧ reply.length ≤ 140737488351232
theorem Svc.ok_mk (name : List UInt8) (request : List UInt8) (reply : List UInt8) (undo : Bool) : (Svc.mk name request reply undo).ok = (name.length ≤ 140737488351232 ∧ request.length ≤ 140737488351232 ∧ reply.length ≤ 140737488351232) := by rw [Svc.ok]
inductive Rou where
  | mk (name : List UInt8) (src : List UInt8) (steps : List Stp)
def Rou.name : Rou → List UInt8
  | .mk name _ _ => name
def Rou.src : Rou → List UInt8
  | .mk _ src _ => src
def Rou.steps : Rou → List Stp
  | .mk _ _ steps => steps
def Rou.pv : Rou → PV
  | .mk name src steps => .agg ([.str name, .str src, .list (steps.map Stp.pv)])
theorem Rou.pv_mk (name : List UInt8) (src : List UInt8) (steps : List Stp) : (Rou.mk name src steps).pv = .agg ([.str name, .str src, .list (steps.map Stp.pv)]) := by rw [Rou.pv]
theorem Rou.cells_len (x : Rou) : x.pv.cells.length = 3 := by
  obtain ⟨name, src, steps⟩ := x
  rw [Rou.pv_mk]; simp only [cells_agg, List.length_append, List.length_cons, List.length_nil]
theorem Rou.isAgg (x : Rou) : x.pv.isAgg = true := by
  obtain ⟨name, src, steps⟩ := x
  rw [Rou.pv_mk]; rfl
theorem Rou.ones (x : Rou) : (x.pv.cells.all PV.one) = true := by
  obtain ⟨name, src, steps⟩ := x
  rw [Rou.pv_mk]; simp only [cells_agg, List.all_append, List.all_cons, List.all_nil, one_str, one_int, one_bool, one_list, Bool.and_true, Bool.and_self]
theorem Rou.row (x : Rou) : ∃ cs, x.pv = .agg cs ∧ cs.length = 3 ∧ ∀ p ∈ cs, p.one = true := by
  have h1 := x.cells_len; have h2 := x.ones; have h3 := x.isAgg
  cases h : x.pv with
  | agg cs => rw [h] at h1 h2; exact ⟨cs, rfl, h1, fun p hp => List.all_eq_true.1 h2 p hp⟩
  | _ => rw [h] at h3; cases h3
def Rou.ok : Rou → Prop
  | .mk name src steps => name.length ≤ 140737488351232 ∧ src.length ≤ 140737488351232 ∧ steps.length * 176 ≤ 140737488351232 ∧ (∀ x ∈ steps, x.ok)
theorem Rou.ok_mk (name : List UInt8) (src : List UInt8) (steps : List Stp) : (Rou.mk name src steps).ok = (name.length ≤ 140737488351232 ∧ src.length ≤ 140737488351232 ∧ steps.length * 176 ≤ 140737488351232 ∧ (∀ x ∈ steps, x.ok)) := by rw [Rou.ok]
inductive Prg where
  | mk (version : Int) (schemas : List Sch) (endpoints : List Enp) (services : List Svc) (routes : List Rou)
def Prg.version : Prg → Int
  | .mk version _ _ _ _ => version
def Prg.schemas : Prg → List Sch
  | .mk _ schemas _ _ _ => schemas
def Prg.endpoints : Prg → List Enp
  | .mk _ _ endpoints _ _ => endpoints
def Prg.services : Prg → List Svc
  | .mk _ _ _ services _ => services
def Prg.routes : Prg → List Rou
  | .mk _ _ _ _ routes => routes
def Prg.pv : Prg → PV
  | .mk version schemas endpoints services routes => .agg ([.int .i64 version, .list (schemas.map Sch.pv), .list (endpoints.map Enp.pv), .list (services.map Svc.pv), .list (routes.map Rou.pv)])
theorem Prg.pv_mk (version : Int) (schemas : List Sch) (endpoints : List Enp) (services : List Svc) (routes : List Rou) : (Prg.mk version schemas endpoints services routes).pv = .agg ([.int .i64 version, .list (schemas.map Sch.pv), .list (endpoints.map Enp.pv), .list (services.map Svc.pv), .list (routes.map Rou.pv)]) := by rw [Prg.pv]
theorem Prg.cells_len (x : Prg) : x.pv.cells.length = 5 := by
  obtain ⟨version, schemas, endpoints, services, routes⟩ := x
  rw [Prg.pv_mk]; simp only [cells_agg, List.length_append, List.length_cons, List.length_nil]
theorem Prg.isAgg (x : Prg) : x.pv.isAgg = true := by
  obtain ⟨version, schemas, endpoints, services, routes⟩ := x
  rw [Prg.pv_mk]; rfl
theorem Prg.ones (x : Prg) : (x.pv.cells.all PV.one) = true := by
  obtain ⟨version, schemas, endpoints, services, routes⟩ := x
  rw [Prg.pv_mk]; simp only [cells_agg, List.all_append, List.all_cons, List.all_nil, one_str, one_int, one_bool, one_list, Bool.and_true, Bool.and_self]
theorem Prg.row (x : Prg) : ∃ cs, x.pv = .agg cs ∧ cs.length = 5 ∧ ∀ p ∈ cs, p.one = true := by
  have h1 := x.cells_len; have h2 := x.ones; have h3 := x.isAgg
  cases h : x.pv with
  | agg cs => rw [h] at h1 h2; exact ⟨cs, rfl, h1, fun p hp => List.all_eq_true.1 h2 p hp⟩
  | _ => rw [h] at h3; cases h3
def Prg.ok : Prg → Prop
  | .mk version schemas endpoints services routes => I64 version ∧ schemas.length * 128 ≤ 140737488351232 ∧ (∀ x ∈ schemas, x.ok) ∧ endpoints.length * 88 ≤ 140737488351232 ∧ (∀ x ∈ endpoints, x.ok) ∧ services.length * 56 ≤ 140737488351232 ∧ (∀ x ∈ services, x.ok) ∧ routes.length * 56 ≤ 140737488351232 ∧ (∀ x ∈ routes, x.ok)
theorem Prg.ok_mk (version : Int) (schemas : List Sch) (endpoints : List Enp) (services : List Svc) (routes : List Rou) : (Prg.mk version schemas endpoints services routes).ok = (I64 version ∧ schemas.length * 128 ≤ 140737488351232 ∧ (∀ x ∈ schemas, x.ok) ∧ endpoints.length * 88 ≤ 140737488351232 ∧ (∀ x ∈ endpoints, x.ok) ∧ services.length * 56 ≤ 140737488351232 ∧ (∀ x ∈ services, x.ok) ∧ routes.length * 56 ≤ 140737488351232 ∧ (∀ x ∈ routes, x.ok)) := by rw [Prg.ok]
inductive Prb where
  | mk (code : Int) (route : List UInt8) (place : List Int) (name : List UInt8)
def Prb.code : Prb → Int
  | .mk code _ _ _ => code
def Prb.route : Prb → List UInt8
  | .mk _ route _ _ => route
def Prb.place : Prb → List Int
  | .mk _ _ place _ => place
def Prb.name : Prb → List UInt8
  | .mk _ _ _ name => name
def Prb.pv : Prb → PV
  | .mk code route place name => .agg ([.int .i64 code, .str route, .list (place.map (PV.int .i64)), .str name])
theorem Prb.pv_mk (code : Int) (route : List UInt8) (place : List Int) (name : List UInt8) : (Prb.mk code route place name).pv = .agg ([.int .i64 code, .str route, .list (place.map (PV.int .i64)), .str name]) := by rw [Prb.pv]
theorem Prb.cells_len (x : Prb) : x.pv.cells.length = 4 := by
  obtain ⟨code, route, place, name⟩ := x
  rw [Prb.pv_mk]; simp only [cells_agg, List.length_append, List.length_cons, List.length_nil]
theorem Prb.isAgg (x : Prb) : x.pv.isAgg = true := by
  obtain ⟨code, route, place, name⟩ := x
  rw [Prb.pv_mk]; rfl
theorem Prb.ones (x : Prb) : (x.pv.cells.all PV.one) = true := by
  obtain ⟨code, route, place, name⟩ := x
  rw [Prb.pv_mk]; simp only [cells_agg, List.all_append, List.all_cons, List.all_nil, one_str, one_int, one_bool, one_list, Bool.and_true, Bool.and_self]
theorem Prb.row (x : Prb) : ∃ cs, x.pv = .agg cs ∧ cs.length = 4 ∧ ∀ p ∈ cs, p.one = true := by
  have h1 := x.cells_len; have h2 := x.ones; have h3 := x.isAgg
  cases h : x.pv with
  | agg cs => rw [h] at h1 h2; exact ⟨cs, rfl, h1, fun p hp => List.all_eq_true.1 h2 p hp⟩
  | _ => rw [h] at h3; cases h3
def Prb.ok : Prb → Prop
  | .mk code route place name => I64 code ∧ route.length ≤ 140737488351232 ∧ place.length * 8 ≤ 140737488351232 ∧ (∀ x ∈ place, I64 x) ∧ name.length ≤ 140737488351232
theorem Prb.ok_mk (code : Int) (route : List UInt8) (place : List Int) (name : List UInt8) : (Prb.mk code route place name).ok = (I64 code ∧ route.length ≤ 140737488351232 ∧ place.length * 8 ≤ 140737488351232 ∧ (∀ x ∈ place, I64 x) ∧ name.length ≤ 140737488351232) := by rw [Prb.ok]
inductive Wkd where
  | mk (route : Int) (place : List Int) (step : Stp)
def Wkd.route : Wkd → Int
  | .mk route _ _ => route
def Wkd.place : Wkd → List Int
  | .mk _ place _ => place
def Wkd.step : Wkd → Stp
  | .mk _ _ step => step
def Wkd.pv : Wkd → PV
  | .mk route place step => .agg ([.int .i64 route, .list (place.map (PV.int .i64))] ++ step.pv.cells)
theorem Wkd.pv_mk (route : Int) (place : List Int) (step : Stp) : (Wkd.mk route place step).pv = .agg ([.int .i64 route, .list (place.map (PV.int .i64))] ++ step.pv.cells) := by rw [Wkd.pv]
theorem Wkd.cells_len (x : Wkd) : x.pv.cells.length = 13 := by
  obtain ⟨route, place, step⟩ := x
  rw [Wkd.pv_mk]; simp only [cells_agg, List.length_append, List.length_cons, List.length_nil, Stp.cells_len]
theorem Wkd.isAgg (x : Wkd) : x.pv.isAgg = true := by
  obtain ⟨route, place, step⟩ := x
  rw [Wkd.pv_mk]; rfl
theorem Wkd.ones (x : Wkd) : (x.pv.cells.all PV.one) = true := by
  obtain ⟨route, place, step⟩ := x
  rw [Wkd.pv_mk]; simp only [cells_agg, List.all_append, List.all_cons, List.all_nil, one_str, one_int, one_bool, one_list, Bool.and_true, Bool.and_self, Stp.ones]
theorem Wkd.row (x : Wkd) : ∃ cs, x.pv = .agg cs ∧ cs.length = 13 ∧ ∀ p ∈ cs, p.one = true := by
  have h1 := x.cells_len; have h2 := x.ones; have h3 := x.isAgg
  cases h : x.pv with
  | agg cs => rw [h] at h1 h2; exact ⟨cs, rfl, h1, fun p hp => List.all_eq_true.1 h2 p hp⟩
  | _ => rw [h] at h3; cases h3
def Wkd.ok : Wkd → Prop
  | .mk route place step => I64 route ∧ place.length * 8 ≤ 140737488351232 ∧ (∀ x ∈ place, I64 x) ∧ step.ok
theorem Wkd.ok_mk (route : Int) (place : List Int) (step : Stp) : (Wkd.mk route place step).ok = (I64 route ∧ place.length * 8 ≤ 140737488351232 ∧ (∀ x ∈ place, I64 x) ∧ step.ok) := by rw [Wkd.ok]
theorem agg_3 : isAggT Tryd.prog 3 = false := by kernel_rfl
theorem cel_3 : Tryd.prog.cellsOf 3 = 1 := by kernel_rfl
theorem byt_3 : Tryd.prog.bytesOf 3 = 8 := by kernel_rfl
theorem agg_4 : isAggT Tryd.prog 4 = false := by kernel_rfl
theorem cel_4 : Tryd.prog.cellsOf 4 = 1 := by kernel_rfl
theorem byt_4 : Tryd.prog.bytesOf 4 = 1 := by kernel_rfl
theorem agg_5 : isAggT Tryd.prog 5 = false := by kernel_rfl
theorem cel_5 : Tryd.prog.cellsOf 5 = 1 := by kernel_rfl
theorem byt_5 : Tryd.prog.bytesOf 5 = 1 := by kernel_rfl
theorem agg_9 : isAggT Tryd.prog 9 = false := by kernel_rfl
theorem cel_9 : Tryd.prog.cellsOf 9 = 1 := by kernel_rfl
theorem byt_9 : Tryd.prog.bytesOf 9 = 16 := by kernel_rfl
theorem agg_22 : isAggT Tryd.prog 22 = false := by kernel_rfl
theorem cel_22 : Tryd.prog.cellsOf 22 = 1 := by kernel_rfl
theorem byt_22 : Tryd.prog.bytesOf 22 = 24 := by kernel_rfl
theorem agg_25 : isAggT Tryd.prog 25 = false := by kernel_rfl
theorem cel_25 : Tryd.prog.cellsOf 25 = 1 := by kernel_rfl
theorem byt_25 : Tryd.prog.bytesOf 25 = 24 := by kernel_rfl
theorem agg_26 : isAggT Tryd.prog 26 = false := by kernel_rfl
theorem cel_26 : Tryd.prog.cellsOf 26 = 1 := by kernel_rfl
theorem byt_26 : Tryd.prog.bytesOf 26 = 24 := by kernel_rfl
theorem agg_28 : isAggT Tryd.prog 28 = true := by kernel_rfl
theorem cel_28 : Tryd.prog.cellsOf 28 = 1 := by kernel_rfl
theorem byt_28 : Tryd.prog.bytesOf 28 = 24 := by kernel_rfl
theorem agg_29 : isAggT Tryd.prog 29 = false := by kernel_rfl
theorem cel_29 : Tryd.prog.cellsOf 29 = 1 := by kernel_rfl
theorem byt_29 : Tryd.prog.bytesOf 29 = 24 := by kernel_rfl
theorem agg_30 : isAggT Tryd.prog 30 = false := by kernel_rfl
theorem cel_30 : Tryd.prog.cellsOf 30 = 1 := by kernel_rfl
theorem byt_30 : Tryd.prog.bytesOf 30 = 24 := by kernel_rfl
theorem agg_32 : isAggT Tryd.prog 32 = true := by kernel_rfl
theorem cel_32 : Tryd.prog.cellsOf 32 = 11 := by kernel_rfl
theorem byt_32 : Tryd.prog.bytesOf 32 = 176 := by kernel_rfl
theorem agg_35 : isAggT Tryd.prog 35 = false := by kernel_rfl
theorem cel_35 : Tryd.prog.cellsOf 35 = 1 := by kernel_rfl
theorem byt_35 : Tryd.prog.bytesOf 35 = 24 := by kernel_rfl
theorem agg_39 : isAggT Tryd.prog 39 = false := by kernel_rfl
theorem cel_39 : Tryd.prog.cellsOf 39 = 1 := by kernel_rfl
theorem byt_39 : Tryd.prog.bytesOf 39 = 24 := by kernel_rfl
theorem agg_40 : isAggT Tryd.prog 40 = false := by kernel_rfl
theorem cel_40 : Tryd.prog.cellsOf 40 = 1 := by kernel_rfl
theorem byt_40 : Tryd.prog.bytesOf 40 = 24 := by kernel_rfl
theorem agg_41 : isAggT Tryd.prog 41 = false := by kernel_rfl
theorem cel_41 : Tryd.prog.cellsOf 41 = 1 := by kernel_rfl
theorem byt_41 : Tryd.prog.bytesOf 41 = 24 := by kernel_rfl
theorem agg_42 : isAggT Tryd.prog 42 = false := by kernel_rfl
theorem cel_42 : Tryd.prog.cellsOf 42 = 1 := by kernel_rfl
theorem byt_42 : Tryd.prog.bytesOf 42 = 24 := by kernel_rfl
theorem agg_44 : isAggT Tryd.prog 44 = true := by kernel_rfl
theorem cel_44 : Tryd.prog.cellsOf 44 = 5 := by kernel_rfl
theorem byt_44 : Tryd.prog.bytesOf 44 = 104 := by kernel_rfl
theorem agg_50 : isAggT Tryd.prog 50 = true := by kernel_rfl
theorem cel_50 : Tryd.prog.cellsOf 50 = 3 := by kernel_rfl
theorem byt_50 : Tryd.prog.bytesOf 50 = 40 := by kernel_rfl
theorem agg_52 : isAggT Tryd.prog 52 = true := by kernel_rfl
theorem cel_52 : Tryd.prog.cellsOf 52 = 7 := by kernel_rfl
theorem byt_52 : Tryd.prog.bytesOf 52 = 88 := by kernel_rfl
theorem agg_54 : isAggT Tryd.prog 54 = true := by kernel_rfl
theorem cel_54 : Tryd.prog.cellsOf 54 = 4 := by kernel_rfl
theorem byt_54 : Tryd.prog.bytesOf 54 = 56 := by kernel_rfl
theorem agg_56 : isAggT Tryd.prog 56 = true := by kernel_rfl
theorem cel_56 : Tryd.prog.cellsOf 56 = 3 := by kernel_rfl
theorem byt_56 : Tryd.prog.bytesOf 56 = 56 := by kernel_rfl
theorem agg_63 : isAggT Tryd.prog 63 = true := by kernel_rfl
theorem cel_63 : Tryd.prog.cellsOf 63 = 4 := by kernel_rfl
theorem byt_63 : Tryd.prog.bytesOf 63 = 64 := by kernel_rfl
theorem agg_65 : isAggT Tryd.prog 65 = false := by kernel_rfl
theorem cel_65 : Tryd.prog.cellsOf 65 = 1 := by kernel_rfl
theorem byt_65 : Tryd.prog.bytesOf 65 = 24 := by kernel_rfl
theorem agg_73 : isAggT Tryd.prog 73 = false := by kernel_rfl
theorem cel_73 : Tryd.prog.cellsOf 73 = 1 := by kernel_rfl
theorem byt_73 : Tryd.prog.bytesOf 73 = 24 := by kernel_rfl
theorem agg_79 : isAggT Tryd.prog 79 = true := by kernel_rfl
theorem cel_79 : Tryd.prog.cellsOf 79 = 13 := by kernel_rfl
theorem byt_79 : Tryd.prog.bytesOf 79 = 208 := by kernel_rfl
theorem agg_87 : isAggT Tryd.prog 87 = true := by kernel_rfl
theorem cel_87 : Tryd.prog.cellsOf 87 = 2 := by kernel_rfl
theorem byt_87 : Tryd.prog.bytesOf 87 = 40 := by kernel_rfl
theorem agg_89 : isAggT Tryd.prog 89 = true := by kernel_rfl
theorem cel_89 : Tryd.prog.cellsOf 89 = 2 := by kernel_rfl
theorem byt_89 : Tryd.prog.bytesOf 89 = 48 := by kernel_rfl
theorem agg_95 : isAggT Tryd.prog 95 = false := by kernel_rfl
theorem cel_95 : Tryd.prog.cellsOf 95 = 1 := by kernel_rfl
theorem byt_95 : Tryd.prog.bytesOf 95 = 24 := by kernel_rfl
theorem agg_96 : isAggT Tryd.prog 96 = false := by kernel_rfl
theorem cel_96 : Tryd.prog.cellsOf 96 = 1 := by kernel_rfl
theorem byt_96 : Tryd.prog.bytesOf 96 = 24 := by kernel_rfl
theorem agg_98 : isAggT Tryd.prog 98 = true := by kernel_rfl
theorem cel_98 : Tryd.prog.cellsOf 98 = 7 := by kernel_rfl
theorem byt_98 : Tryd.prog.bytesOf 98 = 104 := by kernel_rfl
theorem agg_100 : isAggT Tryd.prog 100 = true := by kernel_rfl
theorem cel_100 : Tryd.prog.cellsOf 100 = 9 := by kernel_rfl
theorem byt_100 : Tryd.prog.bytesOf 100 = 128 := by kernel_rfl
theorem agg_131 : isAggT Tryd.prog 131 = false := by kernel_rfl
theorem cel_131 : Tryd.prog.cellsOf 131 = 1 := by kernel_rfl
theorem byt_131 : Tryd.prog.bytesOf 131 = 24 := by kernel_rfl
theorem agg_132 : isAggT Tryd.prog 132 = false := by kernel_rfl
theorem cel_132 : Tryd.prog.cellsOf 132 = 1 := by kernel_rfl
theorem byt_132 : Tryd.prog.bytesOf 132 = 24 := by kernel_rfl
theorem agg_134 : isAggT Tryd.prog 134 = true := by kernel_rfl
theorem cel_134 : Tryd.prog.cellsOf 134 = 11 := by kernel_rfl
theorem byt_134 : Tryd.prog.bytesOf 134 = 160 := by kernel_rfl
theorem agg_135 : isAggT Tryd.prog 135 = false := by kernel_rfl
theorem cel_135 : Tryd.prog.cellsOf 135 = 1 := by kernel_rfl
theorem byt_135 : Tryd.prog.bytesOf 135 = 24 := by kernel_rfl
theorem agg_137 : isAggT Tryd.prog 137 = true := by kernel_rfl
theorem cel_137 : Tryd.prog.cellsOf 137 = 6 := by kernel_rfl
theorem byt_137 : Tryd.prog.bytesOf 137 = 88 := by kernel_rfl
theorem agg_144 : isAggT Tryd.prog 144 = false := by kernel_rfl
theorem cel_144 : Tryd.prog.cellsOf 144 = 1 := by kernel_rfl
theorem byt_144 : Tryd.prog.bytesOf 144 = 24 := by kernel_rfl
theorem agg_158 : isAggT Tryd.prog 158 = true := by kernel_rfl
theorem cel_158 : Tryd.prog.cellsOf 158 = 5 := by kernel_rfl
theorem byt_158 : Tryd.prog.bytesOf 158 = 80 := by kernel_rfl
theorem agg_167 : isAggT Tryd.prog 167 = true := by kernel_rfl
theorem cel_167 : Tryd.prog.cellsOf 167 = 6 := by kernel_rfl
theorem byt_167 : Tryd.prog.bytesOf 167 = 96 := by kernel_rfl
theorem agg_170 : isAggT Tryd.prog 170 = true := by kernel_rfl
theorem cel_170 : Tryd.prog.cellsOf 170 = 7 := by kernel_rfl
theorem byt_170 : Tryd.prog.bytesOf 170 = 104 := by kernel_rfl
section
variable {t : Nat} {p : PV}
theorem hasT_str (h : HasT Tryd.prog t p) (hu : Tryd.prog.underlying t = some .string) : ∃ s : List UInt8, p = .str s ∧ s.length ≤ 140737488351232 := by
  cases h with
  | str _ s hb hs => exact ⟨s, rfl, hs⟩
  | int _ k n hb => rw [hu] at hb; cases hb
  | bool _ b hb => rw [hu] at hb; cases hb
  | list _ e l hb => rw [hu] at hb; cases hb
  | agg _ fs cs hb => rw [hu] at hb; cases hb
theorem hasT_bool (h : HasT Tryd.prog t p) (hu : Tryd.prog.underlying t = some .bool) : ∃ b : Bool, p = .bool b := by
  cases h with
  | bool _ b hb => exact ⟨b, rfl⟩
  | str _ s hb => rw [hu] at hb; cases hb
  | int _ k n hb => rw [hu] at hb; cases hb
  | list _ e l hb => rw [hu] at hb; cases hb
  | agg _ fs cs hb => rw [hu] at hb; cases hb
theorem hasT_int {k : IntKind} (h : HasT Tryd.prog t p) (hu : Tryd.prog.underlying t = some (.int k)) : ∃ n : Int, p = .int k n ∧ (Lit.int k n).wf = true := by
  cases h with
  | int _ k' n hk hw => rw [hu] at hk; cases hk; exact ⟨n, rfl, hw⟩
  | bool _ b hb => rw [hu] at hb; cases hb
  | str _ s hb => rw [hu] at hb; cases hb
  | list _ e l hb => rw [hu] at hb; cases hb
  | agg _ fs cs hb => rw [hu] at hb; cases hb
theorem hasT_i64 (h : HasT Tryd.prog t p) (hu : Tryd.prog.underlying t = some (.int .i64)) : ∃ n : Int, p = .int .i64 n ∧ I64 n := by
  obtain ⟨n, rfl, hw⟩ := hasT_int h hu
  refine ⟨n, rfl, ?_⟩
  simp only [Lit.wf, Bool.and_eq_true, decide_eq_true_eq] at hw
  exact hw
theorem hasT_list {e : Nat} (h : HasT Tryd.prog t p) (hu : Tryd.prog.underlying t = some (.slice e)) : ∃ l : List PV, p = .list l ∧ l.length ≤ maxLen ∧ l.length * Tryd.prog.bytesOf e ≤ 140737488351232 ∧ ∀ (i : Nat) (x : PV), l[i]? = some x → HasT Tryd.prog e x := by
  cases h with
  | list _ e' l hb hl hl2 hx => rw [hu] at hb; cases hb; exact ⟨l, rfl, hl, hl2, hx⟩
  | int _ k n hb => rw [hu] at hb; cases hb
  | bool _ b hb => rw [hu] at hb; cases hb
  | str _ s hb => rw [hu] at hb; cases hb
  | agg _ fs cs hb => rw [hu] at hb; cases hb
theorem hasT_agg {fs : Array Field} (h : HasT Tryd.prog t p) (hu : Tryd.prog.underlying t = some (.struct fs)) : ∃ cs : List PV, p = .agg cs ∧ cs.length = Tryd.prog.cellsOf t ∧ ∀ (i : Nat) (f : Field), fs.toList[i]? = some f → HasT Tryd.prog f.type (fieldPV Tryd.prog f cs) := by
  cases h with
  | agg _ fs' cs hb hl hx => rw [hu] at hb; cases hb; exact ⟨cs, rfl, hl, hx⟩
  | list _ e' l hb => rw [hu] at hb; cases hb
  | int _ k n hb => rw [hu] at hb; cases hb
  | bool _ b hb => rw [hu] at hb; cases hb
  | str _ s hb => rw [hu] at hb; cases hb
end
theorem slice_inj {t e e' : Nat} (h : Tryd.prog.underlying t = some (.slice e)) (h' : Tryd.prog.underlying t = some (.slice e')) : e = e' := by
  rw [h] at h'; cases h'; rfl
theorem list_of {β : Type} {f : β → PV} {Q : β → Prop} : ∀ (l : List PV), (∀ (i : Nat) (x : PV), l[i]? = some x → ∃ s, x = f s ∧ Q s) → ∃ ss : List β, l = ss.map f ∧ ss.length = l.length ∧ ∀ s ∈ ss, Q s
  | [], _ => ⟨[], rfl, rfl, by simp⟩
  | x :: r, h => by
    obtain ⟨s, rfl, hs⟩ := h 0 x rfl
    obtain ⟨ss, rfl, hl, hss⟩ := list_of r (fun i y hy => h (i + 1) y (by simpa using hy))
    refine ⟨s :: ss, rfl, by simp, fun t ht => ?_⟩
    rcases List.mem_cons.1 ht with rfl | ht
    · exact hs
    · exact hss t ht
theorem list_all {β : Type} {f : β → PV} {Q : β → Prop} {t e b : Nat} {p : PV} (h : HasT Tryd.prog t p) (hu : Tryd.prog.underlying t = some (.slice e)) (hb : Tryd.prog.bytesOf e = b) (hq : ∀ x, HasT Tryd.prog e x → ∃ s, x = f s ∧ Q s) : ∃ ss : List β, p = .list (ss.map f) ∧ ss.length * b ≤ 140737488351232 ∧ ∀ s ∈ ss, Q s := by
  obtain ⟨l, rfl, _, hl, hx⟩ := hasT_list h hu
  obtain ⟨ss, rfl, h1, h2⟩ := list_of (f := f) (Q := Q) l fun i x hi => hq x (hx i x hi)
  exact ⟨ss, rfl, by rw [h1, ← hb]; exact hl, h2⟩
theorem len_1 {l : List PV} (h : l.length = 1) : ∃ c0, l = [c0] := by
  match l, h with
  | [c0], _ => exact ⟨c0, rfl⟩
theorem len_2 {l : List PV} (h : l.length = 2) : ∃ c0 c1, l = [c0, c1] := by
  match l, h with
  | [c0, c1], _ => exact ⟨c0, c1, rfl⟩
theorem len_3 {l : List PV} (h : l.length = 3) : ∃ c0 c1 c2, l = [c0, c1, c2] := by
  match l, h with
  | [c0, c1, c2], _ => exact ⟨c0, c1, c2, rfl⟩
theorem len_4 {l : List PV} (h : l.length = 4) : ∃ c0 c1 c2 c3, l = [c0, c1, c2, c3] := by
  match l, h with
  | [c0, c1, c2, c3], _ => exact ⟨c0, c1, c2, c3, rfl⟩
theorem len_5 {l : List PV} (h : l.length = 5) : ∃ c0 c1 c2 c3 c4, l = [c0, c1, c2, c3, c4] := by
  match l, h with
  | [c0, c1, c2, c3, c4], _ => exact ⟨c0, c1, c2, c3, c4, rfl⟩
theorem len_6 {l : List PV} (h : l.length = 6) : ∃ c0 c1 c2 c3 c4 c5, l = [c0, c1, c2, c3, c4, c5] := by
  match l, h with
  | [c0, c1, c2, c3, c4, c5], _ => exact ⟨c0, c1, c2, c3, c4, c5, rfl⟩
theorem len_7 {l : List PV} (h : l.length = 7) : ∃ c0 c1 c2 c3 c4 c5 c6, l = [c0, c1, c2, c3, c4, c5, c6] := by
  match l, h with
  | [c0, c1, c2, c3, c4, c5, c6], _ => exact ⟨c0, c1, c2, c3, c4, c5, c6, rfl⟩
theorem len_9 {l : List PV} (h : l.length = 9) : ∃ c0 c1 c2 c3 c4 c5 c6 c7 c8, l = [c0, c1, c2, c3, c4, c5, c6, c7, c8] := by
  match l, h with
  | [c0, c1, c2, c3, c4, c5, c6, c7, c8], _ => exact ⟨c0, c1, c2, c3, c4, c5, c6, c7, c8, rfl⟩
theorem len_11 {l : List PV} (h : l.length = 11) : ∃ c0 c1 c2 c3 c4 c5 c6 c7 c8 c9 c10, l = [c0, c1, c2, c3, c4, c5, c6, c7, c8, c9, c10] := by
  match l, h with
  | [c0, c1, c2, c3, c4, c5, c6, c7, c8, c9, c10], _ => exact ⟨c0, c1, c2, c3, c4, c5, c6, c7, c8, c9, c10, rfl⟩
theorem len_13 {l : List PV} (h : l.length = 13) : ∃ c0 c1 c2 c3 c4 c5 c6 c7 c8 c9 c10 c11 c12, l = [c0, c1, c2, c3, c4, c5, c6, c7, c8, c9, c10, c11, c12] := by
  match l, h with
  | [c0, c1, c2, c3, c4, c5, c6, c7, c8, c9, c10, c11, c12], _ => exact ⟨c0, c1, c2, c3, c4, c5, c6, c7, c8, c9, c10, c11, c12, rfl⟩
theorem hasT_all_Val_Fld {t : Nat} {p : PV} (h : HasT Tryd.prog t p) : (t = 137 → ∃ x : Val, p = x.pv ∧ x.ok) ∧ (t = 170 → ∃ x : Fld, p = x.pv ∧ x.ok) ∧ (t = 132 → ∃ l : List Val, p = .list (l.map Val.pv) ∧ l.length * 88 ≤ 140737488351232 ∧ ∀ x ∈ l, x.ok) ∧ (t = 135 → ∃ l : List Fld, p = .list (l.map Fld.pv) ∧ l.length * 104 ≤ 140737488351232 ∧ ∀ x ∈ l, x.ok) := by
  induction h with
  | bool t b hb => refine ⟨?_, ?_, ?_, ?_⟩ <;> (intro h; subst h; simp [Tryd.underlying137, Tryd.underlying170, Tryd.underlying132, Tryd.underlying135] at hb)
  | int t k n hb _ => refine ⟨?_, ?_, ?_, ?_⟩ <;> (intro h; subst h; simp [Tryd.underlying137, Tryd.underlying170, Tryd.underlying132, Tryd.underlying135] at hb)
  | str t s hb _ => refine ⟨?_, ?_, ?_, ?_⟩ <;> (intro h; subst h; simp [Tryd.underlying137, Tryd.underlying170, Tryd.underlying132, Tryd.underlying135] at hb)
  | list t e l hu hl hl2 hx ih =>
    refine ⟨?_, ?_, ?_, ?_⟩
    · intro h; subst h; simp [Tryd.underlying137] at hu
    · intro h; subst h; simp [Tryd.underlying170] at hu
    · intro h; subst h
      obtain rfl := slice_inj hu Tryd.underlying132
      obtain ⟨ss, rfl, hlen, hss⟩ := list_of (f := Val.pv) (Q := Val.ok) l (fun i x hi => (ih i x hi).1 rfl)
      exact ⟨ss, rfl, by rw [hlen, ← byt_137]; exact hl2, hss⟩
    · intro h; subst h
      obtain rfl := slice_inj hu Tryd.underlying135
      obtain ⟨ss, rfl, hlen, hss⟩ := list_of (f := Fld.pv) (Q := Fld.ok) l (fun i x hi => (ih i x hi).2.1 rfl)
      exact ⟨ss, rfl, by rw [hlen, ← byt_170]; exact hl2, hss⟩
  | agg t fs cs hu hl hx ih =>
    refine ⟨?_, ?_, ?_, ?_⟩
    · intro h; subst h
      rw [Tryd.underlying137] at hu; cases hu
      rw [cel_137] at hl
      obtain ⟨c0, c1, c2, c3, c4, c5, rfl⟩ := len_6 hl
      have h0 := hx 0 _ rfl
      have h1 := hx 1 _ rfl
      have h2 := hx 2 _ rfl
      have h3 := hx 3 _ rfl
      have h4 := (ih 4 _ rfl).2.2.1 rfl
      have h5 := (ih 5 _ rfl).2.2.2 rfl
      simp only [fieldPV, agg_3, cel_3, agg_9, cel_9, agg_132, cel_132, agg_135, cel_135, List.drop_zero, List.drop_succ_cons, List.take_succ_cons, List.take_zero, cellPV, List.headD_cons] at h0 h1 h2 h3 h4 h5
      obtain ⟨v0, rfl, ok_v0⟩ := hasT_i64 h0 Tryd.underlying3
      obtain ⟨v1, rfl, ok_v1⟩ := hasT_i64 h1 Tryd.underlying3
      obtain ⟨v2, rfl, ok_v2⟩ := hasT_i64 h2 Tryd.underlying3
      obtain ⟨v3, rfl, ok_v3⟩ := hasT_str h3 Tryd.underlying9
      obtain ⟨v4, rfl, ok_v4, oks_v4⟩ := h4
      obtain ⟨v5, rfl, ok_v5, oks_v5⟩ := h5
      refine ⟨.mk v0 v1 v2 v3 v4 v5, ?_, ?_⟩
      · rw [Val.pv_mk]
      · rw [Val.ok_mk]; exact ⟨ok_v0, ok_v1, ok_v2, ok_v3, ok_v4, oks_v4, ok_v5, oks_v5⟩
    · intro h; subst h
      rw [Tryd.underlying170] at hu; cases hu
      rw [cel_170] at hl
      obtain ⟨c0, c1, c2, c3, c4, c5, c6, rfl⟩ := len_7 hl
      have h0 := hx 0 _ rfl
      have h1 := (ih 1 _ rfl).1 rfl
      simp only [fieldPV, agg_9, cel_9, agg_137, cel_137, List.drop_zero, List.drop_succ_cons, List.take_succ_cons, List.take_zero, cellPV, List.headD_cons] at h0 h1
      obtain ⟨v0, rfl, ok_v0⟩ := hasT_str h0 Tryd.underlying9
      obtain ⟨v1, e1, ok_v1⟩ := h1
      refine ⟨.mk v0 v1, ?_, ?_⟩
      · rw [Fld.pv_mk]; rw [← e1]; rfl
      · rw [Fld.ok_mk]; exact ⟨ok_v0, ok_v1⟩
    · intro h; subst h; simp [Tryd.underlying132] at hu
    · intro h; subst h; simp [Tryd.underlying135] at hu
theorem hasT_Val {p : PV} (h : HasT Tryd.prog 137 p) : ∃ x : Val, p = x.pv ∧ x.ok := (hasT_all_Val_Fld h).1 rfl
theorem hasT_Fld {p : PV} (h : HasT Tryd.prog 170 p) : ∃ x : Fld, p = x.pv ∧ x.ok := (hasT_all_Val_Fld h).2.1 rfl
theorem hasT_all_Typ_TFd {t : Nat} {p : PV} (h : HasT Tryd.prog t p) : (t = 98 → ∃ x : Typ, p = x.pv ∧ x.ok) ∧ (t = 134 → ∃ x : TFd, p = x.pv ∧ x.ok) ∧ (t = 95 → ∃ l : List Typ, p = .list (l.map Typ.pv) ∧ l.length * 104 ≤ 140737488351232 ∧ ∀ x ∈ l, x.ok) ∧ (t = 96 → ∃ l : List TFd, p = .list (l.map TFd.pv) ∧ l.length * 160 ≤ 140737488351232 ∧ ∀ x ∈ l, x.ok) := by
  induction h with
  | bool t b hb => refine ⟨?_, ?_, ?_, ?_⟩ <;> (intro h; subst h; simp [Tryd.underlying98, Tryd.underlying134, Tryd.underlying95, Tryd.underlying96] at hb)
  | int t k n hb _ => refine ⟨?_, ?_, ?_, ?_⟩ <;> (intro h; subst h; simp [Tryd.underlying98, Tryd.underlying134, Tryd.underlying95, Tryd.underlying96] at hb)
  | str t s hb _ => refine ⟨?_, ?_, ?_, ?_⟩ <;> (intro h; subst h; simp [Tryd.underlying98, Tryd.underlying134, Tryd.underlying95, Tryd.underlying96] at hb)
  | list t e l hu hl hl2 hx ih =>
    refine ⟨?_, ?_, ?_, ?_⟩
    · intro h; subst h; simp [Tryd.underlying98] at hu
    · intro h; subst h; simp [Tryd.underlying134] at hu
    · intro h; subst h
      obtain rfl := slice_inj hu Tryd.underlying95
      obtain ⟨ss, rfl, hlen, hss⟩ := list_of (f := Typ.pv) (Q := Typ.ok) l (fun i x hi => (ih i x hi).1 rfl)
      exact ⟨ss, rfl, by rw [hlen, ← byt_98]; exact hl2, hss⟩
    · intro h; subst h
      obtain rfl := slice_inj hu Tryd.underlying96
      obtain ⟨ss, rfl, hlen, hss⟩ := list_of (f := TFd.pv) (Q := TFd.ok) l (fun i x hi => (ih i x hi).2.1 rfl)
      exact ⟨ss, rfl, by rw [hlen, ← byt_134]; exact hl2, hss⟩
  | agg t fs cs hu hl hx ih =>
    refine ⟨?_, ?_, ?_, ?_⟩
    · intro h; subst h
      rw [Tryd.underlying98] at hu; cases hu
      rw [cel_98] at hl
      obtain ⟨c0, c1, c2, c3, c4, c5, c6, rfl⟩ := len_7 hl
      have h0 := hx 0 _ rfl
      have h1 := hx 1 _ rfl
      have h2 := hx 2 _ rfl
      have h3 := hx 3 _ rfl
      have h4 := hx 4 _ rfl
      have h5 := (ih 5 _ rfl).2.2.1 rfl
      have h6 := (ih 6 _ rfl).2.2.2 rfl
      simp only [fieldPV, agg_3, cel_3, agg_65, cel_65, agg_95, cel_95, agg_96, cel_96, List.drop_zero, List.drop_succ_cons, List.take_succ_cons, List.take_zero, cellPV, List.headD_cons] at h0 h1 h2 h3 h4 h5 h6
      obtain ⟨v0, rfl, ok_v0⟩ := hasT_i64 h0 Tryd.underlying3
      obtain ⟨v1, rfl, ok_v1⟩ := hasT_i64 h1 Tryd.underlying3
      obtain ⟨v2, rfl, ok_v2⟩ := hasT_i64 h2 Tryd.underlying3
      obtain ⟨v3, rfl, ok_v3⟩ := hasT_i64 h3 Tryd.underlying3
      obtain ⟨v4, rfl, ok_v4, oks_v4⟩ := list_all (f := PV.str) (Q := (fun x : List UInt8 => x.length ≤ 140737488351232)) h4 Tryd.underlying65 byt_9 (fun x hx => hasT_str hx Tryd.underlying9)
      obtain ⟨v5, rfl, ok_v5, oks_v5⟩ := h5
      obtain ⟨v6, rfl, ok_v6, oks_v6⟩ := h6
      refine ⟨.mk v0 v1 v2 v3 v4 v5 v6, ?_, ?_⟩
      · rw [Typ.pv_mk]
      · rw [Typ.ok_mk]; exact ⟨ok_v0, ok_v1, ok_v2, ok_v3, ok_v4, oks_v4, ok_v5, oks_v5, ok_v6, oks_v6⟩
    · intro h; subst h
      rw [Tryd.underlying134] at hu; cases hu
      rw [cel_134] at hl
      obtain ⟨c0, c1, c2, c3, c4, c5, c6, c7, c8, c9, c10, rfl⟩ := len_11 hl
      have h0 := hx 0 _ rfl
      have h1 := hx 1 _ rfl
      have h2 := hx 2 _ rfl
      have h3 := (ih 3 _ rfl).1 rfl
      have h4 := hx 4 _ rfl
      simp only [fieldPV, agg_3, cel_3, agg_9, cel_9, agg_98, cel_98, agg_132, cel_132, List.drop_zero, List.drop_succ_cons, List.take_succ_cons, List.take_zero, cellPV, List.headD_cons] at h0 h1 h2 h3 h4
      obtain ⟨v0, rfl, ok_v0⟩ := hasT_i64 h0 Tryd.underlying3
      obtain ⟨v1, rfl, ok_v1⟩ := hasT_str h1 Tryd.underlying9
      obtain ⟨v2, rfl, ok_v2⟩ := hasT_i64 h2 Tryd.underlying3
      obtain ⟨v3, e3, ok_v3⟩ := h3
      obtain ⟨v4, rfl, ok_v4, oks_v4⟩ := list_all (f := Val.pv) (Q := (fun x : Val => x.ok)) h4 Tryd.underlying132 byt_137 (fun x hx => hasT_Val hx)
      refine ⟨.mk v0 v1 v2 v3 v4, ?_, ?_⟩
      · rw [TFd.pv_mk]; rw [← e3]; rfl
      · rw [TFd.ok_mk]; exact ⟨ok_v0, ok_v1, ok_v2, ok_v3, ok_v4, oks_v4⟩
    · intro h; subst h; simp [Tryd.underlying95] at hu
    · intro h; subst h; simp [Tryd.underlying96] at hu
theorem hasT_Typ {p : PV} (h : HasT Tryd.prog 98 p) : ∃ x : Typ, p = x.pv ∧ x.ok := (hasT_all_Typ_TFd h).1 rfl
theorem hasT_TFd {p : PV} (h : HasT Tryd.prog 134 p) : ∃ x : TFd, p = x.pv ∧ x.ok := (hasT_all_Typ_TFd h).2.1 rfl
theorem hasT_all_Exp {t : Nat} {p : PV} (h : HasT Tryd.prog t p) : (t = 158 → ∃ x : Exp, p = x.pv ∧ x.ok) ∧ (t = 25 → ∃ l : List Exp, p = .list (l.map Exp.pv) ∧ l.length * 80 ≤ 140737488351232 ∧ ∀ x ∈ l, x.ok) := by
  induction h with
  | bool t b hb => refine ⟨?_, ?_⟩ <;> (intro h; subst h; simp [Tryd.underlying158, Tryd.underlying25] at hb)
  | int t k n hb _ => refine ⟨?_, ?_⟩ <;> (intro h; subst h; simp [Tryd.underlying158, Tryd.underlying25] at hb)
  | str t s hb _ => refine ⟨?_, ?_⟩ <;> (intro h; subst h; simp [Tryd.underlying158, Tryd.underlying25] at hb)
  | list t e l hu hl hl2 hx ih =>
    refine ⟨?_, ?_⟩
    · intro h; subst h; simp [Tryd.underlying158] at hu
    · intro h; subst h
      obtain rfl := slice_inj hu Tryd.underlying25
      obtain ⟨ss, rfl, hlen, hss⟩ := list_of (f := Exp.pv) (Q := Exp.ok) l (fun i x hi => (ih i x hi).1 rfl)
      exact ⟨ss, rfl, by rw [hlen, ← byt_158]; exact hl2, hss⟩
  | agg t fs cs hu hl hx ih =>
    refine ⟨?_, ?_⟩
    · intro h; subst h
      rw [Tryd.underlying158] at hu; cases hu
      rw [cel_158] at hl
      obtain ⟨c0, c1, c2, c3, c4, rfl⟩ := len_5 hl
      have h0 := hx 0 _ rfl
      have h1 := hx 1 _ rfl
      have h2 := hx 2 _ rfl
      have h3 := hx 3 _ rfl
      have h4 := (ih 4 _ rfl).2 rfl
      simp only [fieldPV, agg_3, cel_3, agg_9, cel_9, agg_25, cel_25, agg_132, cel_132, List.drop_zero, List.drop_succ_cons, List.take_succ_cons, List.take_zero, cellPV, List.headD_cons] at h0 h1 h2 h3 h4
      obtain ⟨v0, rfl, ok_v0⟩ := hasT_i64 h0 Tryd.underlying3
      obtain ⟨v1, rfl, ok_v1⟩ := hasT_i64 h1 Tryd.underlying3
      obtain ⟨v2, rfl, ok_v2⟩ := hasT_str h2 Tryd.underlying9
      obtain ⟨v3, rfl, ok_v3, oks_v3⟩ := list_all (f := Val.pv) (Q := (fun x : Val => x.ok)) h3 Tryd.underlying132 byt_137 (fun x hx => hasT_Val hx)
      obtain ⟨v4, rfl, ok_v4, oks_v4⟩ := h4
      refine ⟨.mk v0 v1 v2 v3 v4, ?_, ?_⟩
      · rw [Exp.pv_mk]
      · rw [Exp.ok_mk]; exact ⟨ok_v0, ok_v1, ok_v2, ok_v3, oks_v3, ok_v4, oks_v4⟩
    · intro h; subst h; simp [Tryd.underlying25] at hu
theorem hasT_Exp {p : PV} (h : HasT Tryd.prog 158 p) : ∃ x : Exp, p = x.pv ∧ x.ok := (hasT_all_Exp h).1 rfl
theorem hasT_Rul {p : PV} (h : HasT Tryd.prog 167 p) : ∃ x : Rul, p = x.pv ∧ x.ok := by
  obtain ⟨cs, rfl, hl, hx⟩ := hasT_agg h Tryd.underlying167
  rw [cel_167] at hl
  obtain ⟨c0, c1, c2, c3, c4, c5, rfl⟩ := len_6 hl
  have h0 := hx 0 _ rfl
  have h1 := hx 1 _ rfl
  simp only [fieldPV, agg_9, cel_9, agg_158, cel_158, List.drop_zero, List.drop_succ_cons, List.take_succ_cons, List.take_zero, cellPV, List.headD_cons] at h0 h1
  obtain ⟨v0, rfl, ok_v0⟩ := hasT_str h0 Tryd.underlying9
  obtain ⟨v1, e1, ok_v1⟩ := hasT_Exp h1
  refine ⟨.mk v0 v1, ?_, ?_⟩
  · rw [Rul.pv_mk]; rw [← e1]; rfl
  · rw [Rul.ok_mk]; exact ⟨ok_v0, ok_v1⟩
theorem hasT_one28 {p : PV} (h : HasT Tryd.prog 28 p) : ∃ y : List Rul, p = (fun x => PV.agg [.list (x.map Rul.pv)]) y ∧ y.length * 96 ≤ 140737488351232 ∧ ∀ x ∈ y, x.ok := by
  obtain ⟨cs, rfl, hl, hx⟩ := hasT_agg h Tryd.underlying28
  rw [cel_28] at hl
  obtain ⟨c0, rfl⟩ := len_1 hl
  have h0 := hx 0 _ rfl
  simp only [fieldPV, agg_26, cel_26, List.drop_zero, List.take_succ_cons, List.take_zero, cellPV, List.headD_cons] at h0
  obtain ⟨v, rfl, ok_v, oks_v⟩ := list_all (f := Rul.pv) (Q := (fun x : Rul => x.ok)) h0 Tryd.underlying26 byt_167 (fun x hx => hasT_Rul hx)
  exact ⟨v, rfl, ok_v, oks_v⟩
theorem hasT_Cal {p : PV} (h : HasT Tryd.prog 87 p) : ∃ x : Cal, p = x.pv ∧ x.ok := by
  obtain ⟨cs, rfl, hl, hx⟩ := hasT_agg h Tryd.underlying87
  rw [cel_87] at hl
  obtain ⟨c0, c1, rfl⟩ := len_2 hl
  have h0 := hx 0 _ rfl
  have h1 := hx 1 _ rfl
  simp only [fieldPV, agg_9, cel_9, agg_28, cel_28, List.drop_zero, List.drop_succ_cons, List.take_succ_cons, List.take_zero, cellPV, List.headD_cons] at h0 h1
  obtain ⟨v0, rfl, ok_v0⟩ := hasT_str h0 Tryd.underlying9
  obtain ⟨v1, e1, okk0_v1, okk1_v1⟩ := hasT_one28 h1
  simp only [PV.agg.injEq, List.cons.injEq, and_true] at e1; subst e1
  refine ⟨.mk v0 v1, ?_, ?_⟩
  · rw [Cal.pv_mk]
  · rw [Cal.ok_mk]; exact ⟨ok_v0, okk0_v1, okk1_v1⟩
theorem hasT_all_Bra_Stp {t : Nat} {p : PV} (h : HasT Tryd.prog t p) : (t = 89 → ∃ x : Bra, p = x.pv ∧ x.ok) ∧ (t = 32 → ∃ x : Stp, p = x.pv ∧ x.ok) ∧ (t = 22 → ∃ l : List Stp, p = .list (l.map Stp.pv) ∧ l.length * 176 ≤ 140737488351232 ∧ ∀ x ∈ l, x.ok) ∧ (t = 30 → ∃ l : List Bra, p = .list (l.map Bra.pv) ∧ l.length * 48 ≤ 140737488351232 ∧ ∀ x ∈ l, x.ok) := by
  induction h with
  | bool t b hb => refine ⟨?_, ?_, ?_, ?_⟩ <;> (intro h; subst h; simp [Tryd.underlying89, Tryd.underlying32, Tryd.underlying22, Tryd.underlying30] at hb)
  | int t k n hb _ => refine ⟨?_, ?_, ?_, ?_⟩ <;> (intro h; subst h; simp [Tryd.underlying89, Tryd.underlying32, Tryd.underlying22, Tryd.underlying30] at hb)
  | str t s hb _ => refine ⟨?_, ?_, ?_, ?_⟩ <;> (intro h; subst h; simp [Tryd.underlying89, Tryd.underlying32, Tryd.underlying22, Tryd.underlying30] at hb)
  | list t e l hu hl hl2 hx ih =>
    refine ⟨?_, ?_, ?_, ?_⟩
    · intro h; subst h; simp [Tryd.underlying89] at hu
    · intro h; subst h; simp [Tryd.underlying32] at hu
    · intro h; subst h
      obtain rfl := slice_inj hu Tryd.underlying22
      obtain ⟨ss, rfl, hlen, hss⟩ := list_of (f := Stp.pv) (Q := Stp.ok) l (fun i x hi => (ih i x hi).2.1 rfl)
      exact ⟨ss, rfl, by rw [hlen, ← byt_32]; exact hl2, hss⟩
    · intro h; subst h
      obtain rfl := slice_inj hu Tryd.underlying30
      obtain ⟨ss, rfl, hlen, hss⟩ := list_of (f := Bra.pv) (Q := Bra.ok) l (fun i x hi => (ih i x hi).1 rfl)
      exact ⟨ss, rfl, by rw [hlen, ← byt_89]; exact hl2, hss⟩
  | agg t fs cs hu hl hx ih =>
    refine ⟨?_, ?_, ?_, ?_⟩
    · intro h; subst h
      rw [Tryd.underlying89] at hu; cases hu
      rw [cel_89] at hl
      obtain ⟨c0, c1, rfl⟩ := len_2 hl
      have h0 := hx 0 _ rfl
      have h1 := (ih 1 _ rfl).2.2.1 rfl
      simp only [fieldPV, agg_22, cel_22, agg_25, cel_25, List.drop_zero, List.drop_succ_cons, List.take_succ_cons, List.take_zero, cellPV, List.headD_cons] at h0 h1
      obtain ⟨v0, rfl, ok_v0, oks_v0⟩ := list_all (f := Exp.pv) (Q := (fun x : Exp => x.ok)) h0 Tryd.underlying25 byt_158 (fun x hx => hasT_Exp hx)
      obtain ⟨v1, rfl, ok_v1, oks_v1⟩ := h1
      refine ⟨.mk v0 v1, ?_, ?_⟩
      · rw [Bra.pv_mk]
      · rw [Bra.ok_mk]; exact ⟨ok_v0, oks_v0, ok_v1, oks_v1⟩
    · intro h; subst h
      rw [Tryd.underlying32] at hu; cases hu
      rw [cel_32] at hl
      obtain ⟨c0, c1, c2, c3, c4, c5, c6, c7, c8, c9, c10, rfl⟩ := len_11 hl
      have h0 := hx 0 _ rfl
      have h1 := hx 1 _ rfl
      have h2 := hx 2 _ rfl
      have h3 := hx 3 _ rfl
      have h4 := hx 4 _ rfl
      have h5 := hx 5 _ rfl
      have h6 := hx 6 _ rfl
      have h7 := hx 7 _ rfl
      have h8 := hx 8 _ rfl
      have h9 := hx 9 _ rfl
      have h10 := (ih 10 _ rfl).2.2.2 rfl
      simp only [fieldPV, agg_3, cel_3, agg_9, cel_9, agg_25, cel_25, agg_28, cel_28, agg_29, cel_29, agg_30, cel_30, List.drop_zero, List.drop_succ_cons, List.take_succ_cons, List.take_zero, cellPV, List.headD_cons] at h0 h1 h2 h3 h4 h5 h6 h7 h8 h9 h10
      obtain ⟨v0, rfl, ok_v0⟩ := hasT_str h0 Tryd.underlying9
      obtain ⟨v1, rfl, ok_v1⟩ := hasT_i64 h1 Tryd.underlying3
      obtain ⟨v2, rfl, ok_v2⟩ := hasT_i64 h2 Tryd.underlying3
      obtain ⟨v3, rfl, ok_v3⟩ := hasT_i64 h3 Tryd.underlying3
      obtain ⟨v4, rfl, ok_v4⟩ := hasT_i64 h4 Tryd.underlying3
      obtain ⟨v5, rfl, ok_v5⟩ := hasT_str h5 Tryd.underlying9
      obtain ⟨v6, rfl, ok_v6⟩ := hasT_str h6 Tryd.underlying9
      obtain ⟨v7, rfl, ok_v7, oks_v7⟩ := list_all (f := Exp.pv) (Q := (fun x : Exp => x.ok)) h7 Tryd.underlying25 byt_158 (fun x hx => hasT_Exp hx)
      obtain ⟨v8, e8, okk0_v8, okk1_v8⟩ := hasT_one28 h8
      simp only [PV.agg.injEq, List.cons.injEq, and_true] at e8; subst e8
      obtain ⟨v9, rfl, ok_v9, oks_v9⟩ := list_all (f := Cal.pv) (Q := (fun x : Cal => x.ok)) h9 Tryd.underlying29 byt_87 (fun x hx => hasT_Cal hx)
      obtain ⟨v10, rfl, ok_v10, oks_v10⟩ := h10
      refine ⟨.mk v0 v1 v2 v3 v4 v5 v6 v7 v8 v9 v10, ?_, ?_⟩
      · rw [Stp.pv_mk]
      · rw [Stp.ok_mk]; exact ⟨ok_v0, ok_v1, ok_v2, ok_v3, ok_v4, ok_v5, ok_v6, ok_v7, oks_v7, okk0_v8, okk1_v8, ok_v9, oks_v9, ok_v10, oks_v10⟩
    · intro h; subst h; simp [Tryd.underlying22] at hu
    · intro h; subst h; simp [Tryd.underlying30] at hu
theorem hasT_Bra {p : PV} (h : HasT Tryd.prog 89 p) : ∃ x : Bra, p = x.pv ∧ x.ok := (hasT_all_Bra_Stp h).1 rfl
theorem hasT_Stp {p : PV} (h : HasT Tryd.prog 32 p) : ∃ x : Stp, p = x.pv ∧ x.ok := (hasT_all_Bra_Stp h).2.1 rfl
theorem hasT_Sch {p : PV} (h : HasT Tryd.prog 100 p) : ∃ x : Sch, p = x.pv ∧ x.ok := by
  obtain ⟨cs, rfl, hl, hx⟩ := hasT_agg h Tryd.underlying100
  rw [cel_100] at hl
  obtain ⟨c0, c1, c2, c3, c4, c5, c6, c7, c8, rfl⟩ := len_9 hl
  have h0 := hx 0 _ rfl
  have h1 := hx 1 _ rfl
  have h2 := hx 2 _ rfl
  simp only [fieldPV, agg_3, cel_3, agg_9, cel_9, agg_98, cel_98, List.drop_zero, List.drop_succ_cons, List.take_succ_cons, List.take_zero, cellPV, List.headD_cons] at h0 h1 h2
  obtain ⟨v0, rfl, ok_v0⟩ := hasT_str h0 Tryd.underlying9
  obtain ⟨v1, rfl, ok_v1⟩ := hasT_i64 h1 Tryd.underlying3
  obtain ⟨v2, e2, ok_v2⟩ := hasT_Typ h2
  refine ⟨.mk v0 v1 v2, ?_, ?_⟩
  · rw [Sch.pv_mk]; rw [← e2]; rfl
  · rw [Sch.ok_mk]; exact ⟨ok_v0, ok_v1, ok_v2⟩
theorem hasT_Fmt {p : PV} (h : HasT Tryd.prog 50 p) : ∃ x : Fmt, p = x.pv ∧ x.ok := by
  obtain ⟨cs, rfl, hl, hx⟩ := hasT_agg h Tryd.underlying50
  rw [cel_50] at hl
  obtain ⟨c0, c1, c2, rfl⟩ := len_3 hl
  have h0 := hx 0 _ rfl
  have h1 := hx 1 _ rfl
  have h2 := hx 2 _ rfl
  simp only [fieldPV, agg_3, cel_3, agg_35, cel_35, List.drop_zero, List.drop_succ_cons, List.take_succ_cons, List.take_zero, cellPV, List.headD_cons] at h0 h1 h2
  obtain ⟨v0, rfl, ok_v0⟩ := hasT_i64 h0 Tryd.underlying3
  obtain ⟨v1, rfl, ok_v1⟩ := hasT_i64 h1 Tryd.underlying3
  obtain ⟨v2, rfl, ok_v2, oks_v2⟩ := list_all (f := (PV.int .i64)) (Q := (fun x : Int => I64 x)) h2 Tryd.underlying35 byt_3 (fun x hx => hasT_i64 hx Tryd.underlying3)
  refine ⟨.mk v0 v1 v2, ?_, ?_⟩
  · rw [Fmt.pv_mk]
  · rw [Fmt.ok_mk]; exact ⟨ok_v0, ok_v1, ok_v2, oks_v2⟩
theorem hasT_Enp {p : PV} (h : HasT Tryd.prog 52 p) : ∃ x : Enp, p = x.pv ∧ x.ok := by
  obtain ⟨cs, rfl, hl, hx⟩ := hasT_agg h Tryd.underlying52
  rw [cel_52] at hl
  obtain ⟨c0, c1, c2, c3, c4, c5, c6, rfl⟩ := len_7 hl
  have h0 := hx 0 _ rfl
  have h1 := hx 1 _ rfl
  have h2 := hx 2 _ rfl
  have h3 := hx 3 _ rfl
  have h4 := hx 4 _ rfl
  simp only [fieldPV, agg_3, cel_3, agg_9, cel_9, agg_50, cel_50, List.drop_zero, List.drop_succ_cons, List.take_succ_cons, List.take_zero, cellPV, List.headD_cons] at h0 h1 h2 h3 h4
  obtain ⟨v0, rfl, ok_v0⟩ := hasT_str h0 Tryd.underlying9
  obtain ⟨v1, rfl, ok_v1⟩ := hasT_i64 h1 Tryd.underlying3
  obtain ⟨v2, rfl, ok_v2⟩ := hasT_str h2 Tryd.underlying9
  obtain ⟨v3, rfl, ok_v3⟩ := hasT_i64 h3 Tryd.underlying3
  obtain ⟨v4, e4, ok_v4⟩ := hasT_Fmt h4
  refine ⟨.mk v0 v1 v2 v3 v4, ?_, ?_⟩
  · rw [Enp.pv_mk]; rw [← e4]; rfl
  · rw [Enp.ok_mk]; exact ⟨ok_v0, ok_v1, ok_v2, ok_v3, ok_v4⟩
theorem hasT_Svc {p : PV} (h : HasT Tryd.prog 54 p) : ∃ x : Svc, p = x.pv ∧ x.ok := by
  obtain ⟨cs, rfl, hl, hx⟩ := hasT_agg h Tryd.underlying54
  rw [cel_54] at hl
  obtain ⟨c0, c1, c2, c3, rfl⟩ := len_4 hl
  have h0 := hx 0 _ rfl
  have h1 := hx 1 _ rfl
  have h2 := hx 2 _ rfl
  have h3 := hx 3 _ rfl
  simp only [fieldPV, agg_4, cel_4, agg_9, cel_9, List.drop_zero, List.drop_succ_cons, List.take_succ_cons, List.take_zero, cellPV, List.headD_cons] at h0 h1 h2 h3
  obtain ⟨v0, rfl, ok_v0⟩ := hasT_str h0 Tryd.underlying9
  obtain ⟨v1, rfl, ok_v1⟩ := hasT_str h1 Tryd.underlying9
  obtain ⟨v2, rfl, ok_v2⟩ := hasT_str h2 Tryd.underlying9
  obtain ⟨v3, rfl⟩ := hasT_bool h3 Tryd.underlying4
  refine ⟨.mk v0 v1 v2 v3, ?_, ?_⟩
  · rw [Svc.pv_mk]
  · rw [Svc.ok_mk]; exact ⟨ok_v0, ok_v1, ok_v2⟩
theorem hasT_Rou {p : PV} (h : HasT Tryd.prog 56 p) : ∃ x : Rou, p = x.pv ∧ x.ok := by
  obtain ⟨cs, rfl, hl, hx⟩ := hasT_agg h Tryd.underlying56
  rw [cel_56] at hl
  obtain ⟨c0, c1, c2, rfl⟩ := len_3 hl
  have h0 := hx 0 _ rfl
  have h1 := hx 1 _ rfl
  have h2 := hx 2 _ rfl
  simp only [fieldPV, agg_9, cel_9, agg_22, cel_22, List.drop_zero, List.drop_succ_cons, List.take_succ_cons, List.take_zero, cellPV, List.headD_cons] at h0 h1 h2
  obtain ⟨v0, rfl, ok_v0⟩ := hasT_str h0 Tryd.underlying9
  obtain ⟨v1, rfl, ok_v1⟩ := hasT_str h1 Tryd.underlying9
  obtain ⟨v2, rfl, ok_v2, oks_v2⟩ := list_all (f := Stp.pv) (Q := (fun x : Stp => x.ok)) h2 Tryd.underlying22 byt_32 (fun x hx => hasT_Stp hx)
  refine ⟨.mk v0 v1 v2, ?_, ?_⟩
  · rw [Rou.pv_mk]
  · rw [Rou.ok_mk]; exact ⟨ok_v0, ok_v1, ok_v2, oks_v2⟩
theorem hasT_Prg {p : PV} (h : HasT Tryd.prog 44 p) : ∃ x : Prg, p = x.pv ∧ x.ok := by
  obtain ⟨cs, rfl, hl, hx⟩ := hasT_agg h Tryd.underlying44
  rw [cel_44] at hl
  obtain ⟨c0, c1, c2, c3, c4, rfl⟩ := len_5 hl
  have h0 := hx 0 _ rfl
  have h1 := hx 1 _ rfl
  have h2 := hx 2 _ rfl
  have h3 := hx 3 _ rfl
  have h4 := hx 4 _ rfl
  simp only [fieldPV, agg_3, cel_3, agg_39, cel_39, agg_40, cel_40, agg_41, cel_41, agg_42, cel_42, List.drop_zero, List.drop_succ_cons, List.take_succ_cons, List.take_zero, cellPV, List.headD_cons] at h0 h1 h2 h3 h4
  obtain ⟨v0, rfl, ok_v0⟩ := hasT_i64 h0 Tryd.underlying3
  obtain ⟨v1, rfl, ok_v1, oks_v1⟩ := list_all (f := Sch.pv) (Q := (fun x : Sch => x.ok)) h1 Tryd.underlying39 byt_100 (fun x hx => hasT_Sch hx)
  obtain ⟨v2, rfl, ok_v2, oks_v2⟩ := list_all (f := Enp.pv) (Q := (fun x : Enp => x.ok)) h2 Tryd.underlying40 byt_52 (fun x hx => hasT_Enp hx)
  obtain ⟨v3, rfl, ok_v3, oks_v3⟩ := list_all (f := Svc.pv) (Q := (fun x : Svc => x.ok)) h3 Tryd.underlying41 byt_54 (fun x hx => hasT_Svc hx)
  obtain ⟨v4, rfl, ok_v4, oks_v4⟩ := list_all (f := Rou.pv) (Q := (fun x : Rou => x.ok)) h4 Tryd.underlying42 byt_56 (fun x hx => hasT_Rou hx)
  refine ⟨.mk v0 v1 v2 v3 v4, ?_, ?_⟩
  · rw [Prg.pv_mk]
  · rw [Prg.ok_mk]; exact ⟨ok_v0, ok_v1, oks_v1, ok_v2, oks_v2, ok_v3, oks_v3, ok_v4, oks_v4⟩
theorem hasT_Prb {p : PV} (h : HasT Tryd.prog 63 p) : ∃ x : Prb, p = x.pv ∧ x.ok := by
  obtain ⟨cs, rfl, hl, hx⟩ := hasT_agg h Tryd.underlying63
  rw [cel_63] at hl
  obtain ⟨c0, c1, c2, c3, rfl⟩ := len_4 hl
  have h0 := hx 0 _ rfl
  have h1 := hx 1 _ rfl
  have h2 := hx 2 _ rfl
  have h3 := hx 3 _ rfl
  simp only [fieldPV, agg_3, cel_3, agg_9, cel_9, agg_35, cel_35, List.drop_zero, List.drop_succ_cons, List.take_succ_cons, List.take_zero, cellPV, List.headD_cons] at h0 h1 h2 h3
  obtain ⟨v0, rfl, ok_v0⟩ := hasT_i64 h0 Tryd.underlying3
  obtain ⟨v1, rfl, ok_v1⟩ := hasT_str h1 Tryd.underlying9
  obtain ⟨v2, rfl, ok_v2, oks_v2⟩ := list_all (f := (PV.int .i64)) (Q := (fun x : Int => I64 x)) h2 Tryd.underlying35 byt_3 (fun x hx => hasT_i64 hx Tryd.underlying3)
  obtain ⟨v3, rfl, ok_v3⟩ := hasT_str h3 Tryd.underlying9
  refine ⟨.mk v0 v1 v2 v3, ?_, ?_⟩
  · rw [Prb.pv_mk]
  · rw [Prb.ok_mk]; exact ⟨ok_v0, ok_v1, ok_v2, oks_v2, ok_v3⟩
theorem hasT_Wkd {p : PV} (h : HasT Tryd.prog 79 p) : ∃ x : Wkd, p = x.pv ∧ x.ok := by
  obtain ⟨cs, rfl, hl, hx⟩ := hasT_agg h Tryd.underlying79
  rw [cel_79] at hl
  obtain ⟨c0, c1, c2, c3, c4, c5, c6, c7, c8, c9, c10, c11, c12, rfl⟩ := len_13 hl
  have h0 := hx 0 _ rfl
  have h1 := hx 1 _ rfl
  have h2 := hx 2 _ rfl
  simp only [fieldPV, agg_3, cel_3, agg_32, cel_32, agg_35, cel_35, List.drop_zero, List.drop_succ_cons, List.take_succ_cons, List.take_zero, cellPV, List.headD_cons] at h0 h1 h2
  obtain ⟨v0, rfl, ok_v0⟩ := hasT_i64 h0 Tryd.underlying3
  obtain ⟨v1, rfl, ok_v1, oks_v1⟩ := list_all (f := (PV.int .i64)) (Q := (fun x : Int => I64 x)) h1 Tryd.underlying35 byt_3 (fun x hx => hasT_i64 hx Tryd.underlying3)
  obtain ⟨v2, e2, ok_v2⟩ := hasT_Stp h2
  refine ⟨.mk v0 v1 v2, ?_, ?_⟩
  · rw [Wkd.pv_mk]; rw [← e2]; rfl
  · rw [Wkd.ok_mk]; exact ⟨ok_v0, ok_v1, oks_v1, ok_v2⟩
end Go.Proofs.YtfbakipopjoghaaDoor

/- Single operations on whole rows, guarded or not: loads, comparisons of structs and arrays. -/
import Derived.Test.YtigbmlgllgcbhaaDoorRow
import Derived.Laws.StructEq
namespace Go.Proofs.YtigbmlgllgcbhaaDoor
open Go.RowKit
set_option linter.unusedVariables false
section
variable {P : Program} {w : World} {dst : Option Tmp} {typ : TypeId} {pos : String} {after : Array Edge} {gd : Option (Nat × Bool)} {ev : Operand → Value}
theorem exec_load_g {ty : TypeId} {x : Operand} {b o : Nat} {cs : Array Value} {d : TypeDesc} (hc : w.rangeAt b o cs.toList) (hu : P.underlying ty = some d) (hd : d.isRow = true) (hi : (P.info? ty).map (·.size) = some cs.size) (hx : ev x = .pointer (some ⟨b, o, none⟩)) :
    (execOp ev { dst := dst, op := .load ty x, type := typ, pos := pos, after := after, guard := gd }).run P w = .ok (.value (.agg cs)) w := by
  unfold execOp
  simp only [hx, Instr.loadAt, Instr.sureAddr, Sem.run_bind, Sem.run_pure, Result.andThen_ok, run_loadVar_mid w b o ty cs.toList d hc hu hd (by simpa using hi)]
theorem exec_neq_agg {t t2 : TypeId} {x y : Operand} {X Y : Array Value} {b : Bool} (hm : P.eqGuardType P.depth t = false) (hx : ev x = .agg X) (hy : ev y = .agg Y) (hE : (Op.equalIn 10000 t (.agg X) (.agg Y)).run P w = .ok b w) :
    (execOp ev { dst := dst, op := .binOp .neq t x y t2, type := typ, pos := pos, after := after, guard := gd }).run P w = .ok (.value (.bool (!b))) w := by
  unfold execOp
  simp [hx, hy, run_eqGuard_agg w .neq t x y X Y hm, run_neq_struct, hE]
theorem exec_eql_agg {t t2 : TypeId} {x y : Operand} {X Y : Array Value} {b : Bool} (hm : P.eqGuardType P.depth t = false) (hx : ev x = .agg X) (hy : ev y = .agg Y) (hE : (Op.equalIn 10000 t (.agg X) (.agg Y)).run P w = .ok b w) :
    (execOp ev { dst := dst, op := .binOp .eql t x y t2, type := typ, pos := pos, after := after, guard := gd }).run P w = .ok (.value (.bool b)) w := by
  unfold execOp
  simp [hx, hy, run_eqGuard_agg w .eql t x y X Y hm, run_eql_struct, hE]
variable {ops : Array Oper} {rest : List Oper} {Q : Exit → Act → World → Prop} {a : Act}
/-- A step whose value is told. -/
theorem wp_told_g {o : Oper} {v : Value} (hg : Region.wanted o (yielded ops a.tmps) = true) (hy : (execOp a.eval o).run P w = .ok (.value v) w) (h : wpList P ops Q rest (a.put o.dst v) w) : wpList P ops Q (o :: rest) a w := by
  refine wpList_step fun K hK => ?_
  rw [if_pos hg]
  unfold Oper.wp
  rw [hy]
  exact hK _ _ h
theorem wp_load_g {ty : TypeId} {x : Operand} {b o : Nat} {cs : Array Value} {d : TypeDesc} (hg : Region.wanted { dst := dst, op := .load ty x, type := typ, pos := pos, after := after, guard := gd } (yielded ops a.tmps) = true) (hc : w.rangeAt b o cs.toList) (hu : P.underlying ty = some d) (hd : d.isRow = true) (hi : (P.info? ty).map (·.size) = some cs.size) (hx : a.eval x = .pointer (some ⟨b, o, none⟩))
    (h : wpList P ops Q rest (a.put dst (.agg cs)) w) : wpList P ops Q ({ dst := dst, op := .load ty x, type := typ, pos := pos, after := after, guard := gd } :: rest) a w := wp_told_g hg (exec_load_g hc hu hd hi hx) h
theorem wp_neq_g {t t2 : TypeId} {x y : Operand} {X Y : Array Value} {b : Bool} (hg : Region.wanted { dst := dst, op := .binOp .neq t x y t2, type := typ, pos := pos, after := after, guard := gd } (yielded ops a.tmps) = true) (hm : P.eqGuardType P.depth t = false) (hE : (Op.equalIn 10000 t (.agg X) (.agg Y)).run P w = .ok b w) (hx : a.eval x = .agg X) (hy : a.eval y = .agg Y)
    (h : wpList P ops Q rest (a.put dst (.bool (!b))) w) : wpList P ops Q ({ dst := dst, op := .binOp .neq t x y t2, type := typ, pos := pos, after := after, guard := gd } :: rest) a w := wp_told_g hg (exec_neq_agg hm hx hy hE) h
theorem wp_eql_g {t t2 : TypeId} {x y : Operand} {X Y : Array Value} {b : Bool} (hg : Region.wanted { dst := dst, op := .binOp .eql t x y t2, type := typ, pos := pos, after := after, guard := gd } (yielded ops a.tmps) = true) (hm : P.eqGuardType P.depth t = false) (hE : (Op.equalIn 10000 t (.agg X) (.agg Y)).run P w = .ok b w) (hx : a.eval x = .agg X) (hy : a.eval y = .agg Y)
    (h : wpList P ops Q rest (a.put dst (.bool b)) w) : wpList P ops Q ({ dst := dst, op := .binOp .eql t x y t2, type := typ, pos := pos, after := after, guard := gd } :: rest) a w := wp_told_g hg (exec_eql_agg hm hx hy hE) h
end
theorem results_ct {P : Program} {fn : Func} {p u : Tmp} {ty1 : TypeId} {d1 : TypeDesc} (h : fn.results = #[.cell p ty1, .tmp u]) {tmps : Array Value} {w : World} {g1 : Nat} {t1 : TypeId} {cs1 : Array Value}
    (h1 : tmps.getD p undef = .pointer (some ⟨g1, 0, none⟩)) (r1 : Row w g1 t1 cs1) (u1 : P.underlying ty1 = some d1) (k1 : d1.isRow = true) (i1 : (P.info? ty1).map (·.size) = some cs1.size) :
    (results fn tmps).run P w = .ok (.tuple #[.agg cs1, tmps.getD u undef]) w := by
  have l1 := run_loadVar_mid (P := P) w g1 0 ty1 cs1.toList d1 r1.range u1 k1 (by simpa using i1)
  simp only [Array.toArray_toList] at l1
  simp only [Array.getD_eq_getD_getElem?] at h1
  simp [results, h, h1, asAddr, l1]
end Go.Proofs.YtigbmlgllgcbhaaDoor

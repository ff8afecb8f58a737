/- Own laws for a region that draws its order and hands back whole rows: its loads are taken first, its stores come one by one. -/
import Derived.Test.YthjkhambmgepdaaRow
import Derived.OrdersHeld
namespace Go.Proofs.Ythjkhambmgepdaa
set_option linter.unusedVariables false
open Go.RowKit
section
variable {P : Program} {md : Region.Mode} {ops : Array Oper} {Q : Exit → Act → World → Prop} {S : World → Prop} {fuel : Nat} {listed : Array Bool} {a : Act} {w : World} {dst : Option Tmp} {typ : TypeId} {pos : String} {after : Array Edge}
theorem take_load (i : Nat) {ty : TypeId} {x : Operand} {g : Nat} {t : TypeId} {cs : Array Value} {d : TypeDesc}
    (hi : ops[i]? = some { dst := dst, op := .load ty x, type := typ, pos := pos, after := after, guard := none })
    (hs : Region.noSelect ops = true) (hf : Region.free md ops listed i = true) (hr : (Region.ready md ops listed).contains i = true)
    (hQ : ∀ c a w v, Q (.panic c) (a.put dst v) w → Q (.panic c) a w) (hS : S w) (hrow : ∀ w, S w → Row w g t cs)
    (hu : P.underlying ty = some d) (hd : d.isRow = true) (hn : (P.info? ty).map (·.size) = some cs.size) (hx : a.eval x = .pointer (some ⟨g, 0, none⟩))
    (h : wpAnyH P md ops Q S fuel (listed.setIfInBounds i true) (a.put dst (.agg cs)) w) : wpAnyH P md ops Q S (fuel + 1) listed a w := by
  refine wpAnyH_take (v := .agg cs) hi hs hf hr (fun c a w => hQ c a w _) ?_ hS h
  have := yieldsIf_load_mid (P := P) (ops := ops) (S := S) (op := { dst := dst, op := .load ty x, type := typ, pos := pos, after := after, guard := none }) (a := a) (by simp [Region.wanted]) ty x rfl g 0 hx cs.toList d (fun w hw => (hrow w hw).range) hu hd (by simpa using hn)
  simpa using this
theorem take_move (i : Nat) {x : Operand} (hi : ops[i]? = some { dst := dst, op := .move x, type := typ, pos := pos, after := after, guard := none })
    (hs : Region.noSelect ops = true) (hf : Region.free md ops listed i = true) (hr : (Region.ready md ops listed).contains i = true)
    (hQ : ∀ c a w v, Q (.panic c) (a.put dst v) w → Q (.panic c) a w) (hS : S w)
    (h : wpAnyH P md ops Q S fuel (listed.setIfInBounds i true) (a.put dst (a.eval x)) w) : wpAnyH P md ops Q S (fuel + 1) listed a w :=
  wpAnyH_take (v := a.eval x) hi hs hf hr (fun c a w => hQ c a w _) (.inl ⟨by simp [Region.wanted], fun w _ => by simp [execOp]⟩) hS h
theorem one_op (i : Nat) {o : Oper} (hi : ops[i]? = some o) (hg : o.guard = none) (hr : Region.ready md ops listed = [i])
    (h : o.wp P a w (fun a' w' => S w' ∧ wpAnyH P md ops Q S fuel (listed.setIfInBounds i true) a' w') Q) : wpAnyH P md ops Q S (fuel + 1) listed a w := by
  refine wpAnyH_all hr (by simp) fun j hj => ?_
  obtain rfl : j = i := by simpa using hj
  unfold wpOp
  rw [hi]
  simp only [Region.wanted, hg, if_true]
  exact .inl h
theorem one_assign (i : Nat) {x : Operand} (hi : ops[i]? = some { dst := dst, op := .assign x, type := typ, pos := pos, after := after, guard := none }) (hr : Region.ready md ops listed = [i]) (hS : S w)
    (h : wpAnyH P md ops Q S fuel (listed.setIfInBounds i true) (a.put dst (a.eval x)) w) : wpAnyH P md ops Q S (fuel + 1) listed a w := by
  refine one_op i hi rfl hr ?_
  have e : (execOp a.eval { dst := dst, op := .assign x, type := typ, pos := pos, after := after, guard := none }).run P w = .ok (.value (a.eval x)) w := by simp [execOp]
  unfold Oper.wp
  rw [e]
  exact ⟨hS, h⟩
theorem one_store (i : Nat) {ty : TypeId} {x y : Operand} {g : Nat} {t : TypeId} {cs L : Array Value} (hi : ops[i]? = some { dst := none, op := .store ty x y, type := typ, pos := pos, after := after, guard := none })
    (hr : Region.ready md ops listed = [i]) (hrow : Row w g t cs) (hs : cs.size = L.size) (hn : (P.info? ty).map (·.size) = some L.size) (h1 : L.all (·.oneCell') = true)
    (hx : a.eval x = .pointer (some ⟨g, 0, none⟩)) (hy : a.eval y = .agg L)
    (h : ∀ w', Upd w w' g → Row w' g t L → S w' ∧ wpAnyH P md ops Q S fuel (listed.setIfInBounds i true) a w') : wpAnyH P md ops Q S (fuel + 1) listed a w := by
  refine one_op i hi rfl hr ?_
  refine wp_store_mid (op := { dst := none, op := .store ty x y, type := typ, pos := pos, after := after, guard := none }) ty x y rfl g 0 L hx hy (hrow.there _ (by omega)) hn h1 ?_
  have hr : Row w g t ([] ++ cs.toList ++ []).toArray := by simpa using hrow
  have h2 := Row.setCells (g := g) (t := t) L.toList w [] [] cs.toList hr (by simpa using hs)
  exact h _ (Upd.setCells g _ w 0) (by simpa using h2)
end
end Go.Proofs.Ythjkhambmgepdaa

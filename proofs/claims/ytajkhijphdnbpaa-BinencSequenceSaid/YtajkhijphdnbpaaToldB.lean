/- Words for a region told once: calls that hand back slices of bytes at addresses that hang on the order. -/
import Derived.Test.YtajkhijphdnbpaaAfix
import Derived.Test.YtajkhijphdnbpaaTold
namespace Go.Proofs.Ytajkhijphdnbpaa
open Go.RowKit
set_option linter.unusedVariables false
/-- The value is a slice that reads as X. -/
def BX (X : List UInt8) (u : Value) (w : World) : Prop := ∃ A n c, u = .slice A n c ∧ IsB w A n X
theorem BX.mono {X : List UInt8} (u : Value) (w w' : World) (h : Below w.heap.size w w') (k : BX X u w) : BX X u w' := by
  obtain ⟨A, n, c, e, hi⟩ := k
  exact ⟨A, n, c, e, hi.below h⟩
theorem below_next {a w w' : World} (h : Below a.heap.size a w) (k : Below w.heap.size w w') : Below a.heap.size a w' := h.trans (k.mono h.size)
/-- A call that hands back such a slice, from a world behind B. -/
def GivesS (B w' : World) (X : List UInt8) (e : Ending) (w'' : World) : Prop := ∃ A n c, e = .returned (.slice A n c) ∧ IsB w'' A n X ∧ Below B.heap.size B w'' ∧ Below w'.heap.size w' w''
theorem NewB.gives {W w' : World} {T : TypeId} {bs : List UInt8} {e : Ending} (h : NewB W T bs e w') : GivesB W bs e w' := by
  obtain ⟨g, m, hg, hm, rfl, hr, hb⟩ := h
  exact ⟨_, _, _, rfl, hm.out ▸ IsB.of_row hr, hb⟩
theorem gives_S {P : Program} {f : FuncId} {args : Array Value} {B w' : World} {X : List UInt8} (hS : Below B.heap.size B w') (h : Calls P f args w' (GivesB w' X)) : Calls P f args w' (GivesS B w' X) :=
  h.mono fun e w'' ⟨A, n, c, he, hi, hb⟩ => ⟨A, n, c, he, hi, below_next hS hb, hb⟩
theorem new_S {P : Program} {f : FuncId} {args : Array Value} {B w' : World} {T : TypeId} {X : List UInt8} (hS : Below B.heap.size B w') (h : Calls P f args w' (NewB w' T X)) : Calls P f args w' (GivesS B w' X) :=
  gives_S hS (h.mono fun e w'' h => h.gives)
/-- A call that hands back the bool true and makes memory, from a world behind B. -/
theorem true_S {P : Program} {f : FuncId} {args : Array Value} {B w' : World} (hS : Below B.heap.size B w') (h : Calls P f args w' (True1 w')) :
    Calls P f args w' (fun e w'' => e = .returned (.bool true) ∧ Below B.heap.size B w'' ∧ Below w'.heap.size w' w'') := h.mono fun e w'' r => ⟨r.1, below_next hS r.2, r.2⟩
end Go.Proofs.Ytajkhijphdnbpaa

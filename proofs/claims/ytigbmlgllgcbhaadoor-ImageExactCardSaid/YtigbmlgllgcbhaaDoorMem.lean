/- Own words on memory: a block that is known whole, and how it is kept. -/
import Derived.WalkKit
import Derived.Deep.Draws
import Derived.Laws.OwnMore
namespace Go.Proofs.YtigbmlgllgcbhaaDoor
set_option linter.unusedVariables false
open Go.RowKit

/-- Block g of w is the row cs of element type t; nothing of it is frozen. -/
def Row (w : World) (g : Nat) (t : TypeId) (cs : Array Value) : Prop := w.heap[g]? = some (.cells cs t (0, 0))
section
variable {w w' : World} {g : Nat} {t : TypeId} {cs : Array Value}
theorem Row.lt (h : Row w g t cs) : g < w.heap.size := (Array.getElem?_eq_some_iff.1 h).1
theorem Row.cell (h : Row w g t cs) (i : Nat) : w.cell? ⟨g, i, none⟩ = cs[i]? := cell_of_row w g i cs t (0, 0) h
theorem Row.frozen (h : Row w g t cs) (i : Nat) : w.frozen? ⟨g, i, none⟩ = false := by
  unfold Row at h
  simp [World.frozen?, h]
theorem Row.born (w : World) (t : TypeId) (cs : Array Value) : Row (w.alloc (.cells cs t)) w.heap.size t cs := heap_alloc_new w _
theorem Row.alloc (h : Row w g t cs) (o : Obj) : Row (w.alloc o) g t cs := (Below.heap_alloc w o g h.lt).trans h
theorem Row.set (h : Row w g t cs) (i : Nat) (u : Value) : Row (w.setCell ⟨g, i, none⟩ u) g t (cs.setIfInBounds i u) := by
  unfold Row at h ⊢
  simp [World.setCell, Array.getElem?_modify, h]
theorem Row.other (h : Row w g t cs) {p : Addr} (hp : g ≠ p.block) (u : Value) : Row (w.setCell p u) g t cs := (Below.heap_setCell w p u g hp).trans h
theorem Row.below {B : Nat} (h : Row w g t cs) (hb : Below B w w') (hg : g < B) : Row w' g t cs := (hb.block g hg).trans h
theorem Row.drewN (h : Row w g t cs) (n : Nat) : Row (w.drewN n) g t cs := h
theorem Row.drew (h : Row w g t cs) : Row w.drew g t cs := h
theorem Row.keep (h : Row w g t cs) {o : Obj} (hb : Below (w.alloc o).heap.size (w.alloc o) w') : Row w' g t cs := (h.alloc o).below hb (by have := h.lt; simp; omega)
end
theorem below_drewN {B : Nat} {a w : World} (h : Below B a w) (n : Nat) : Below B a (w.drewN n) := ⟨h.os, h.tape, h.output, h.size, h.block⟩

/-- Behind a call made under two new blocks: both blocks, and the world below them. -/
theorem two_new {W w1 : World} {cs ds : Array Value} {T U : TypeId} (hb : Below ((W.alloc (.cells cs T)).alloc (.cells ds U)).heap.size ((W.alloc (.cells cs T)).alloc (.cells ds U)) w1) :
    Row w1 W.heap.size T cs ∧ Row w1 (W.heap.size + 1) U ds ∧ W.heap.size + 1 < w1.heap.size ∧ Below W.heap.size W w1 := by
  have e : (W.alloc (.cells cs T)).heap.size = W.heap.size + 1 := by simp
  have hs := hb.size
  have h1 : Row (W.alloc (.cells cs T)) W.heap.size T cs := Row.born W T cs
  have h2 : Row ((W.alloc (.cells cs T)).alloc (.cells ds U)) (W.heap.size + 1) U ds := by
    have := Row.born (W.alloc (.cells cs T)) U ds
    rwa [e] at this
  refine ⟨(h1.alloc _).below hb (by simp; omega), h2.below hb (by simp), by simp at hs; omega, ?_⟩
  exact (((Below.refl _ _).alloc (Nat.le_refl _) _).alloc (by simp) _).trans (hb.mono (by simp; omega))
theorem one_new {W w1 : World} {cs : Array Value} {T : TypeId} (hb : Below (W.alloc (.cells cs T)).heap.size (W.alloc (.cells cs T)) w1) :
    Row w1 W.heap.size T cs ∧ W.heap.size < w1.heap.size ∧ Below W.heap.size W w1 := by
  have hs := hb.size
  have h1 : Row (W.alloc (.cells cs T)) W.heap.size T cs := Row.born W T cs
  exact ⟨h1.below hb (by simp), by simp at hs; omega, ((Below.refl _ _).alloc (Nat.le_refl _) _).trans (hb.mono (by simp))⟩
end Go.Proofs.YtigbmlgllgcbhaaDoor

/- Page tables: how a slice of mappings that came in is opened. -/
import Derived.Test.YtonloimepfojdaaTab7
import Derived.Deep.Fields
import Derived.Deep.SlicePairs
namespace Go.Proofs.Ytonloimepfojdaa
open Go.RowKit Go.Deep Go.ChangeShapes Go.WideShapes
set_option linter.unusedVariables false
instance : Inhabited Mp := ⟨⟨0, 0, 0, 0, 0, 0⟩⟩
theorem cells3' : Try.prog.cellsOf 3 = 1 := by kernel_rfl
theorem cells58' : Try.prog.cellsOf 58 = 3 := by kernel_rfl
theorem cells60' : Try.prog.cellsOf 60 = 6 := by kernel_rfl
section
variable {H : Type} {enc : TypeId × Value → H} {W : World} {base : Nat} {spare : Nat → Bool} {held : Bool}
theorem int_of {n : Nat} {l : List Value} {y : DataW H × List MemPlace} (h : DataW.trod enc Try.prog W base spare held n 3 l = some y) : ∃ z, l = [.int .i64 z] := by
  obtain ⟨z, h1, _, _⟩ := DataW.trod_int Try.underlying3 h
  exact ⟨z, h1⟩
theorem id_of {n : Nat} {cs : List Value} {y : DataW H × List MemPlace} (h : DataW.trod enc Try.prog W base spare held n 58 cs = some y) : ∃ a b c : Int, cs = [.int .i64 a, .int .i64 b, .int .i64 c] := by
  obtain ⟨xs, k, _, _, hlen, hxl, hf⟩ := DataW.trod_struct Try.underlying58 h
  rw [cells58'] at hlen
  match xs, hxl, cs, hlen with
  | [x0, x1, x2], _, [a, b, c], _ =>
    have g0 := hf 0 _ rfl
    have g1 := hf 1 _ rfl
    have g2 := hf 2 _ rfl
    simp [cells3'] at g0 g1 g2
    obtain ⟨z0, e0⟩ := int_of g0
    obtain ⟨z1, e1⟩ := int_of g1
    obtain ⟨z2, e2⟩ := int_of g2
    simp only [List.cons.injEq, and_true] at e0 e1 e2
    exact ⟨z0, z1, z2, by rw [e0, e1, e2]⟩
theorem map_of {n : Nat} {cs : List Value} {y : DataW H × List MemPlace} (h : DataW.trod enc Try.prog W base spare held n 60 cs = some y) : ∃ m : Mp, cs = m.cells := by
  obtain ⟨xs, k, _, _, hlen, hxl, hf⟩ := DataW.trod_struct Try.underlying60 h
  rw [cells60'] at hlen
  match xs, hxl, cs, hlen with
  | [x0, x1, x2, x3], _, [a, b, c, d, e, f], _ =>
    have g0 := hf 0 _ rfl
    have g1 := hf 1 _ rfl
    have g2 := hf 2 _ rfl
    have g3 := hf 3 _ rfl
    simp [cells3', cells58'] at g0 g1 g2 g3
    obtain ⟨z0, e0⟩ := int_of g0
    obtain ⟨z1, e1⟩ := int_of g1
    obtain ⟨z2, e2⟩ := int_of g2
    obtain ⟨z3, z4, z5, e3⟩ := id_of g3
    simp only [List.cons.injEq, and_true] at e0 e1 e2 e3
    obtain ⟨e3, e4, e5⟩ := e3
    exact ⟨⟨z0, z1, z2, z3, z4, z5⟩, by rw [e0, e1, e2, e3, e4, e5]; rfl⟩
theorem open_maps {fuel : Nat} {v : Value} {x : DataW H × List MemPlace} (h : DataW.trod enc Try.prog W base spare held fuel 41 [v] = some x) : ∃ A n c ms, v = .slice A n c ∧ IsMs W A n ms := by
  rcases open_slice Try.underlying41 h with ⟨hcs, _⟩ | ⟨a, len, cap, m, n, D, Pl, hcs, _, hl, hm, hmm, _, hall⟩
  · simp only [List.cons.injEq, and_true] at hcs
    exact ⟨none, 0, 0, [], hcs, rfl, fun h => absurd h (by omega)⟩
  · simp only [List.cons.injEq, and_true] at hcs
    have hlm : len ≤ m := by rw [hmm]; split <;> omega
    rw [cells60'] at hall
    have each : ∀ i, i < len → ∃ q : Mp, ∀ j v, q.cells[j]? = some v → W.cell? (a.add (i * 6 + j)) = some v := by
      intro i hi
      obtain ⟨cs', h1, h2⟩ := hall i (by omega)
      obtain ⟨q, rfl⟩ := map_of h2
      obtain ⟨_, hlen, hcell⟩ := World.cells?_some h1
      refine ⟨q, fun j v hv => ?_⟩
      have hj : j < 6 := by have := (List.getElem?_eq_some_iff.1 hv).1; rwa [Mp.cells_len] at this
      have h3 := hcell j hj
      rw [add_add] at h3
      rw [h3]
      exact hv
    obtain ⟨q, hq⟩ := choose_lt each
    refine ⟨some a, len, cap, (List.range len).map q, hcs, by simp, fun h0 => ?_⟩
    obtain ⟨b, o, spot⟩ := a
    have hspot : spot = none := by simpa [Addr.add] using World.cell?_spot (hq 0 h0 0 _ rfl)
    subst hspot
    refine ⟨b, o, rfl, fun i hi j v hv => ?_⟩
    have hi' : i < len := by simpa using hi
    have h4 := hq i hi' j v (by simpa using hv)
    rw [Addr.add_mid, ← Nat.add_assoc] at h4
    exact h4
end
theorem walk_table_exact (W : World) (b w lv : Int) (A : Option Addr) (n c : Nat) (ms : List Mp) (_ : (Lit.int .i64 b).wf = true) (_ : (Lit.int .i64 w).wf = true) (_ : (Lit.int .i64 lv).wf = true) (hA : IsMs W A n ms) :
    Calls Try.prog 7 #[.agg #[.int .i64 b, .int .i64 w, .int .i64 lv, .slice A n c]] W (True1 W) := walk_table b w lv A n c ms W hA
end Go.Proofs.Ytonloimepfojdaa

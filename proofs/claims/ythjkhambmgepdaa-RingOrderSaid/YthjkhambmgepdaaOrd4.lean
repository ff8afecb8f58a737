/- RingOrder: Poll on a Pair's memory. -/
import Derived.Test.YthjkhambmgepdaaOrd3
import Derived.Deep.DeepCutAuto
namespace Go.Proofs.Ythjkhambmgepdaa
open Go.RowKit
set_option linter.unusedVariables false
theorem below_next {a w w' : World} (h : Below a.heap.size a w) (k : Below w.heap.size w w') : Below a.heap.size a w' := h.trans (k.mono h.size)
/-- What Poll hands back: the receiver, the line, the error. -/
def pR (s : St) : Array Value := if s.g < s.t then #[.int .i64 s.N, .int .u64 ((s.g : Int) + 1)] else ZR
def pL (s : St) : Array Value := if s.g < s.t then ordL s.N s.g (s.bs.getD s.g 0) else ZL
def pE (s : St) : Int := if s.g < s.t then 0 else 17
theorem pR_size (s : St) : (pR s).size = 2 := by unfold pR; split <;> rfl
theorem pL_size (s : St) : (pL s).size = 61 := by
  unfold pL
  split
  · exact ordL_size _ _ _
  · exact zl_size
theorem pR_one (s : St) : (pR s).all (·.oneCell') = true := by
  unfold pR
  split
  · exact recv_one _ _
  · exact zr_one
theorem pL_one (s : St) : (pL s).all (·.oneCell') = true := by
  unfold pL
  split
  · exact LV_one _ _ _ _ _ _
  · exact zl_one
theorem poll_inv (gp gm : Nat) (s : St) (w : World) (h : Inv gp gm s w) : Calls Try.prog 26 #[.agg #[.int .i64 s.N, .int .u64 s.g], .slice (some ⟨gm, 0, none⟩) s.N s.N] w
    (fun e w' => e = .returned (.tuple #[.agg (pR s), .agg (pL s), .int .i64 (pE s)]) ∧ Below w.heap.size w w') := by
  have hc := h.cnt
  have h600 : s.g ≤ 600 := by have := hc.gt; have := hc.tm; have := hc.m6; omega
  have hi : (s.g : Int) % (s.N : Int) = ((s.g % s.N : Nat) : Int) := by simp
  rcases Nat.lt_or_ge s.g s.t with hg | hg
  · have e1 : pR s = #[.int .i64 s.N, .int .u64 ((s.g : Int) + 1)] := if_pos hg
    have e2 : pL s = ordL s.N s.g (s.bs.getD s.g 0) := if_pos hg
    have e3 : pE s = 0 := if_pos hg
    rw [e1, e2, e3]
    exact poll_ok s.N s.g gm s.N s.ls (s.g % s.N) (ep s.N s.g) false ((1 : Nat) : Int) 0 _ w (by omega) (by omega) hc.vl h.mem hc.len hi (hc.here hg) (len_pay rfl (by omega)) (by simp) (by omega) (by omega) (by omega)
  · have e1 : pR s = ZR := if_neg (by omega)
    have e2 : pL s = ZL := if_neg (by omega)
    have e3 : pE s = 17 := if_neg (by omega)
    rw [e1, e2, e3]
    rcases hc.away (by have := hc.gt; omega) with h1 | ⟨x, h1, h2⟩
    · exact poll_zero s.N s.g gm s.N s.ls (s.g % s.N) w (by omega) (by omega) hc.vl h.mem hc.len hi h1
    · have hf := ep_flip (n := s.N) (x := ((s.g - s.N : Nat) : Int)) (by have := hc.n0; omega)
      rw [show (((s.g - s.N : Nat) : Int) + s.N) = (s.g : Int) by omega] at hf
      exact poll_none s.N s.g gm s.N s.ls (s.g % s.N) (ep s.N ((s.g - s.N : Nat) : Int)) false ((1 : Nat) : Int) 0 _ w (by omega) (by omega) hc.vl h.mem hc.len hi h1 (len_pay rfl (by omega)) hf
/-- A Pair's cells. -/
structure Cells (w : World) (gp gm : Nat) (s : St) : Prop where
  c0 : w.cell? ⟨gp, 0, none⟩ = some (.int .i64 s.N)
  c1 : w.cell? ⟨gp, 1, none⟩ = some (.int .i64 s.N)
  c2 : w.cell? ⟨gp, 2, none⟩ = some (.int .u64 s.m)
  c3 : w.cell? ⟨gp, 3, none⟩ = some (.int .u64 s.a)
  c4 : w.cell? ⟨gp, 4, none⟩ = some (.int .i64 s.N)
  c5 : w.cell? ⟨gp, 5, none⟩ = some (.int .u64 s.g)
  c6 : w.cell? ⟨gp, 6, none⟩ = some (.slice (some ⟨gm, 0, none⟩) s.N s.N)
  c7 : w.cell? ⟨gp, 7, none⟩ = some (.slice s.AL s.m s.cL)
  c8 : w.cell? ⟨gp, 8, none⟩ = some (.slice s.AI s.m s.cI)
  c9 : w.cell? ⟨gp, 9, none⟩ = some (.int .i64 s.t)
  c10 : w.cell? ⟨gp, 10, none⟩ = some (.slice s.AB s.m s.cB)
  c11 : w.cell? ⟨gp, 11, none⟩ = some (.slice s.AT s.g s.cT)
  fz : ∀ i, w.frozen? ⟨gp, i, none⟩ = false
theorem Inv.cells {gp gm : Nat} {s : St} {w : World} (h : Inv gp gm s w) : Cells w gp gm s :=
  ⟨h.pair.cell 0, h.pair.cell 1, h.pair.cell 2, h.pair.cell 3, h.pair.cell 4, h.pair.cell 5, h.pair.cell 6, h.pair.cell 7, h.pair.cell 8, h.pair.cell 9, h.pair.cell 10, h.pair.cell 11, h.pair.frozen⟩
end Go.Proofs.Ythjkhambmgepdaa

/- How a line that came in is opened. -/
import Derived.Test.YthjkhambmgepdaaLrl
import Derived.Test.YthjkhambmgepdaaIsRow
import Derived.Deep.Fields
import Derived.Deep.SlicePairs
import Derived.Lib.SmallJoins
import Derived.OpenShut
namespace Go.Proofs.Ythjkhambmgepdaa
open Go.RowKit Go.Deep Go.ChangeShapes Go.WideShapes
set_option linter.unusedVariables false
theorem cells3L : Try.prog.cellsOf 3 = 1 := by kernel_rfl
theorem cells4L : Try.prog.cellsOf 4 = 1 := by kernel_rfl
theorem cells23L : Try.prog.cellsOf 23 = 1 := by kernel_rfl
theorem cells40L : Try.prog.cellsOf 40 = 61 := by kernel_rfl
section
variable {H : Type} {enc : TypeId × Value → H} {W : World} {base : Nat} {spare : Nat → Bool} {held : Bool}
theorem wf_u16L {n : Int} (h : (Lit.int .u16 n).wf = true) : 0 ≤ n ∧ n < 65536 := by
  simp [Lit.wf, IntKind.min, IntKind.max, IntKind.bits, IntKind.signed] at h
  omega
theorem bytes_of {m : Nat} {l : List Value} {y : DataW H × List MemPlace} (h : DataW.trod enc Try.prog W base spare held m 38 l = some y) : ∃ p : List UInt8, p.length = 56 ∧ l = p.map bv := by
  obtain ⟨xs, k, _, _, hlen, hxl, hf⟩ := DataW.trod_array Try.underlying38 h
  rw [cells38] at hlen
  rw [cells5] at hf
  have each : ∀ i, i < 56 → ∃ x : UInt8, l[i]? = some (bv x) := by
    intro i hi
    have h1 := hf i hi
    rw [List.getElem?_eq_getElem (by omega)] at h1
    obtain ⟨z, e1, _, w1⟩ := DataW.trod_int Try.underlying5 h1
    obtain ⟨z0, z1⟩ := wf_u8 w1
    have h2 : l[i]? = some (.int .u8 z) := by
      have h3 := congrArg (fun q => q[0]?) e1
      simp only [List.getElem?_take, List.getElem?_drop] at h3
      simpa using h3
    exact ⟨UInt8.ofNat z.toNat, by rw [h2, bv_int z0 z1]⟩
  obtain ⟨q, hq⟩ := choose_lt each
  refine ⟨(List.range 56).map q, by simp, ?_⟩
  apply List.ext_getElem?
  intro i
  rcases Nat.lt_or_ge i 56 with hi | hi
  · rw [hq i hi]
    simp [hi]
  · rw [List.getElem?_eq_none (by omega), List.getElem?_eq_none (by simp; omega)]
set_option maxRecDepth 100000 in
theorem line_of {n : Nat} {cs : List Value} {y : DataW H × List MemPlace} (h : DataW.trod enc Try.prog W base spare held n 40 cs = some y) :
    ∃ (k : Int) (e f : Bool) (m a : Int) (p : List UInt8), cs = (LV k e f m a p).toList ∧ p.length = 56 ∧ 0 ≤ a ∧ a < 65536 := by
  obtain ⟨xs, k, _, _, hlen, hxl, hf⟩ := DataW.trod_struct Try.underlying40 h
  rw [cells40L] at hlen
  match xs, hxl, cs, hlen with
  | [x0, x1, x2, x3, x4, x5], _, c0 :: c1 :: c2 :: c3 :: c4 :: r, hlen =>
    have g0 := hf 0 _ rfl
    have g1 := hf 1 _ rfl
    have g2 := hf 2 _ rfl
    have g3 := hf 3 _ rfl
    have g4 := hf 4 _ rfl
    have g5 := hf 5 _ rfl
    simp [cells3L, cells4L, cells23L, cells38] at g0 g1 g2 g3 g4 g5
    obtain ⟨z0, e0, _, _⟩ := DataW.trod_int Try.underlying3 g0
    obtain ⟨z1, e1, _⟩ := DataW.trod_bool Try.underlying4 g1
    obtain ⟨z2, e2, _⟩ := DataW.trod_bool Try.underlying4 g2
    obtain ⟨z3, e3, _, _⟩ := DataW.trod_int Try.underlying3 g3
    obtain ⟨z4, e4, _, w4⟩ := DataW.trod_int Try.underlying23 g4
    have hr : r.take 56 = r := List.take_of_length_le (by simp at hlen; omega)
    rw [hr] at g5
    obtain ⟨p, hp, e5⟩ := bytes_of g5
    simp only [List.cons.injEq, and_true] at e0 e1 e2 e3 e4
    obtain ⟨a0, a1⟩ := wf_u16L w4
    exact ⟨z0, z1, z2, z3, z4, p, by rw [e0, e1, e2, e3, e4, e5]; rfl, hp, a0, a1⟩
set_option maxRecDepth 100000 in
theorem open_line {rc : Reach} {b0 : Nat} {v : Value} {d : DataW H} {p : List MemPlace} (hv : Value.okWide Try.prog W rc b0 40 v) (h : DataW.Trod enc Try.prog W base spare held 40 v d p) :
    ∃ (k : Int) (e f : Bool) (m a : Int) (q : List UInt8), v = .agg (LV k e f m a q) ∧ q.length = 56 ∧ 0 ≤ a ∧ a < 65536 := by
  obtain ⟨cs, rfl, hsz⟩ := okWide_struct Try.underlying40 hv
  obtain ⟨fuel, hf⟩ := h
  obtain ⟨k, e, f, m, a, q, h1, h2, h3⟩ := line_of hf
  refine ⟨k, e, f, m, a, q, ?_, h2, h3⟩
  have h4 : cs.toList = (LV k e f m a q).toList := h1
  rw [Array.toList_inj.1 h4]
end
theorem walk_lines (k : Int) (e f : Bool) (n a : Int) (p : List UInt8) (at_ by' : Int) (hp : p.length = 56 ∧ 0 ≤ a ∧ a < 65536) (_ : (Lit.int .i64 at_).wf = true) (hb : (Lit.int .u8 by').wf = true) (W : World) : Calls Try.prog 6 #[.agg (LV k e f n a p), .int .i64 at_, .int .u8 by'] W (True1 W) :=
  law_lines k e f n a p at_ by' hp.2.1 hp.2.2 hp.1 (wf_u8 hb).1 (wf_u8 hb).2 W
end Go.Proofs.Ythjkhambmgepdaa

/- The cells of a line, as a word of its own, and what is known of them. -/
import Derived.Test.YthjkhambmgepdaaR1
import Derived.Test.YthjkhambmgepdaaRow
namespace Go.Proofs.Ythjkhambmgepdaa
open Go.RowKit
set_option linter.unusedVariables false
def LV (k : Int) (e f : Bool) (n a : Int) (p : List UInt8) : Array Value := (.int .i64 k :: .bool e :: .bool f :: .int .i64 n :: .int .u16 a :: p.map bv).toArray
def z56 : List UInt8 := List.replicate 56 0
theorem z56_len : z56.length = 56 := by simp [z56]
theorem LV_size (k : Int) (e f : Bool) (n a : Int) {p : List UInt8} (h : p.length = 56) : (LV k e f n a p).size = 61 := by simp [LV, h]
theorem LV_one (k : Int) (e f : Bool) (n a : Int) (p : List UInt8) : (LV k e f n a p).all (·.oneCell') = true := by
  refine Array.all_eq_true_iff_forall_mem.2 fun v hv => ?_
  simp only [LV, List.mem_toArray, List.mem_cons] at hv
  rcases hv with rfl | rfl | rfl | rfl | rfl | hv
  · rfl
  · rfl
  · rfl
  · rfl
  · rfl
  · exact bv_one p v hv
theorem info40 : (Try.prog.info? 40).map (·.size) = some 61 := by kernel_rfl
theorem line_info (k : Int) (e f : Bool) (n a : Int) {p : List UInt8} (h : p.length = 56) : (Try.prog.info? 40).map (·.size) = some (LV k e f n a p).size := by rw [LV_size _ _ _ _ _ h]; exact info40
theorem line_cells {w : World} {g : Nat} {t : TypeId} {k : Int} {e f : Bool} {n a : Int} {p : List UInt8} (h : Row w g t (LV k e f n a p)) :
    w.cell? ⟨g, 0, none⟩ = some (.int .i64 k) ∧ w.cell? ⟨g, 1, none⟩ = some (.bool e) ∧ w.cell? ⟨g, 2, none⟩ = some (.bool f) ∧ w.cell? ⟨g, 3, none⟩ = some (.int .i64 n) ∧ w.cell? ⟨g, 4, none⟩ = some (.int .u16 a) :=
  ⟨h.cell 0, h.cell 1, h.cell 2, h.cell 3, h.cell 4⟩
/-- Behind a call made under three new blocks. -/
theorem three_new {W w1 : World} {cs ds es : Array Value} {T U V : TypeId} (hb : Below (((W.alloc (.cells cs T)).alloc (.cells ds U)).alloc (.cells es V)).heap.size (((W.alloc (.cells cs T)).alloc (.cells ds U)).alloc (.cells es V)) w1) :
    Row w1 W.heap.size T cs ∧ Row w1 (W.heap.size + 1) U ds ∧ Row w1 (W.heap.size + 2) V es ∧ W.heap.size + 2 < w1.heap.size ∧ Below W.heap.size W w1 := by
  have e : (W.alloc (.cells cs T)).heap.size = W.heap.size + 1 := by simp
  have e2 : ((W.alloc (.cells cs T)).alloc (.cells ds U)).heap.size = W.heap.size + 2 := by simp
  have hs := hb.size
  have h1 : Row (W.alloc (.cells cs T)) W.heap.size T cs := Row.born W T cs
  have h2 : Row ((W.alloc (.cells cs T)).alloc (.cells ds U)) (W.heap.size + 1) U ds := by
    have := Row.born (W.alloc (.cells cs T)) U ds
    rwa [e] at this
  have h3 : Row (((W.alloc (.cells cs T)).alloc (.cells ds U)).alloc (.cells es V)) (W.heap.size + 2) V es := by
    have := Row.born ((W.alloc (.cells cs T)).alloc (.cells ds U)) V es
    rwa [e2] at this
  refine ⟨((h1.alloc _).alloc _).below hb (by simp; omega), (h2.alloc _).below hb (by simp), h3.below hb (by simp), by simp at hs; omega, ?_⟩
  exact ((((Below.refl _ _).alloc (Nat.le_refl _) _).alloc (by simp) _).alloc (by simp; omega) _).trans (hb.mono (by simp; omega))
theorem results_ctct {P : Program} {fn : Func} {p t q u : Tmp} {ty1 ty2 : TypeId} {d1 d2 : TypeDesc} (h : fn.results = #[.cell p ty1, .tmp t, .cell q ty2, .tmp u]) {tmps : Array Value} {w : World} {g1 g2 : Nat} {t1 t2 : TypeId} {cs1 cs2 : Array Value}
    (h1 : tmps.getD p undef = .pointer (some ⟨g1, 0, none⟩)) (h2 : tmps.getD q undef = .pointer (some ⟨g2, 0, none⟩)) (r1 : Row w g1 t1 cs1) (r2 : Row w g2 t2 cs2)
    (u1 : P.underlying ty1 = some d1) (u2 : P.underlying ty2 = some d2) (k1 : d1.isRow = true) (k2 : d2.isRow = true) (i1 : (P.info? ty1).map (·.size) = some cs1.size) (i2 : (P.info? ty2).map (·.size) = some cs2.size) :
    (results fn tmps).run P w = .ok (.tuple #[.agg cs1, tmps.getD t undef, .agg cs2, tmps.getD u undef]) w := by
  have l1 := run_loadVar_mid (P := P) w g1 0 ty1 cs1.toList d1 r1.range u1 k1 (by simpa using i1)
  have l2 := run_loadVar_mid (P := P) w g2 0 ty2 cs2.toList d2 r2.range u2 k2 (by simpa using i2)
  simp only [Array.toArray_toList] at l1 l2
  simp only [Array.getD_eq_getD_getElem?] at h1 h2
  simp [results, h, h1, h2, asAddr, l1, l2]
end Go.Proofs.Ythjkhambmgepdaa

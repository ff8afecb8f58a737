/- Page tables: words; contracts of the two ValidId. -/
import Derived.Test.YtonloimepfojdaaEncr
import Derived.Test.YtonloimepfojdaaApp
import Derived.Test.YtonloimepfojdaaIf
import Derived.Deep.DeepCutAuto
namespace Go.Proofs.Ytonloimepfojdaa
open Go.RowKit
set_option linter.unusedVariables false
/-- A mapping. -/
structure Mp where
  (ix bs rt co op pt : Int)
def Mp.cells (m : Mp) : List Value := [.int .i64 m.ix, .int .i64 m.bs, .int .i64 m.rt, .int .i64 m.co, .int .i64 m.op, .int .i64 m.pt]
theorem Mp.cells_len (m : Mp) : m.cells.length = 6 := rfl
/-- The slice at A of n mappings reads in w as ms. -/
def IsMs (w : World) (A : Option Addr) (n : Nat) (ms : List Mp) : Prop :=
  n = ms.length ∧ (0 < n → ∃ b o, A = some ⟨b, o, none⟩ ∧ ∀ i (h : i < ms.length), ∀ j v, ms[i].cells[j]? = some v → w.cell? ⟨b, o + i * 6 + j, none⟩ = some v)
theorem IsMs.below {w w' : World} {A : Option Addr} {n : Nat} {ms : List Mp} (h : IsMs w A n ms) (hb : Below w.heap.size w w') : IsMs w' A n ms := by
  refine ⟨h.1, fun hn => ?_⟩
  obtain ⟨b, o, e, hc⟩ := h.2 hn
  exact ⟨b, o, e, fun i hi j v hv => (hb.cell (p := ⟨b, o + i * 6 + j, none⟩) (block_lt_of_cell (hc i hi j v hv))).trans (hc i hi j v hv)⟩
structure MpAt (w : World) (b o : Nat) (m : Mp) : Prop where
  c0 : w.cell? ⟨b, o, none⟩ = some (.int .i64 m.ix)
  c1 : w.cell? ⟨b, o + 1, none⟩ = some (.int .i64 m.bs)
  c2 : w.cell? ⟨b, o + 2, none⟩ = some (.int .i64 m.rt)
  c3 : w.cell? ⟨b, o + 3, none⟩ = some (.int .i64 m.co)
  c4 : w.cell? ⟨b, o + 4, none⟩ = some (.int .i64 m.op)
  c5 : w.cell? ⟨b, o + 5, none⟩ = some (.int .i64 m.pt)
theorem IsMs.at_ {w : World} {A : Option Addr} {n : Nat} {ms : List Mp} (h : IsMs w A n ms) (i : Nat) (hi : i < n) : ∃ b o m, A = some ⟨b, o, none⟩ ∧ ms.drop i = m :: ms.drop (i + 1) ∧ MpAt w b (o + i * 6) m := by
  obtain ⟨hn, hp⟩ := h
  obtain ⟨b, o, e, hc⟩ := hp (by omega)
  have hl : i < ms.length := by omega
  have c := hc i hl
  exact ⟨b, o, ms[i], e, List.drop_eq_getElem_cons hl, ⟨c 0 _ rfl, c 1 _ rfl, c 2 _ rfl, c 3 _ rfl, c 4 _ rfl, c 5 _ rfl⟩⟩
def vId (c o p : Int) : Bool := decide (0 ≤ c ∧ c < 32 ∧ 1 ≤ o ∧ o ≤ 1073741824 ∧ 0 ≤ p ∧ p < 8)
def VIdPost (c o p : Int) (W : World) (e : Ending) (W' : World) : Prop := e = .returned (.bool (vId c o p)) ∧ Below W.heap.size W W'
set_option maxHeartbeats 4000000 in
theorem valid_id (c o p : Int) (W : World) : Calls Try.prog 38 #[.agg #[.int .i64 c, .int .i64 o, .int .i64 p]] W (VIdPost c o p W) := by
  go_enter Try.func38, Try.ntmps38
  go_wp2
  all_goals
    go_ret
    exact ⟨ret_bool (by rw [Bool.eq_iff_iff]; simp [vId]; try omega), (Below.refl _ _).alloc (Nat.le_refl _) _⟩
set_option maxHeartbeats 4000000 in
theorem valid_id_ref (c o p : Int) (W : World) : Calls Try.prog 39 #[.agg #[.int .i64 c, .int .i64 o, .int .i64 p]] W (VIdPost c o p W) := by
  go_enter Try.func39, Try.ntmps39
  go_wp2
  all_goals
    go_ret
    exact ⟨ret_bool (by rw [Bool.eq_iff_iff]; simp [vId]; try omega), (Below.refl _ _).alloc (Nat.le_refl _) _⟩
/-- Whether one mapping is valid behind the index 'last'; whether all are. -/
def vM (lv B last : Int) (m : Mp) : Bool := decide (last < m.ix ∧ m.ix < B) && vId m.co m.op m.pt && aligned m.bs && decide (0 ≤ m.rt ∧ m.rt ≤ 3) && decide (lv = 0 ∨ m.rt = 0)
def vMs (lv B : Int) : Int → List Mp → Bool
  | _, [] => true
  | last, m :: r => vM lv B last m && vMs lv B m.ix r
def bnd (w : Int) : Int := if w = 32 then 1024 else 512
def vT (b w lv : Int) (ms : List Mp) : Bool := okw w && decide (0 ≤ lv ∧ lv < lev w) && aligned b && decide (0 < ms.length) && vMs lv (bnd w) (-1) ms
end Go.Proofs.Ytonloimepfojdaa

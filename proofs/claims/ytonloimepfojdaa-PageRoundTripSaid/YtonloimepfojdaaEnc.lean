/- Contracts of pageAligned, paged, Encode and its reference, for every argument. -/
import Derived.Test.YtonloimepfojdaaIdx
namespace Go.Proofs.Ytonloimepfojdaa
open Go.RowKit
set_option linter.unusedVariables false
def aligned (b : Int) : Bool := decide (0 ≤ b ∧ b < 1099511627776 ∧ b % 4096 = 0)
theorem page_aligned (b : Int) (W : World) : Calls Try.prog 35 #[.int .i64 b] W fun e W' => e = .returned (.bool (aligned b)) ∧ W = W' := by
  go_enter Try.func35, Try.ntmps35
  go_wp2
  all_goals
    go_ret
    exact ⟨ret_bool (by rw [Bool.eq_iff_iff]; simp [aligned]; try omega), rfl⟩
theorem paged (b : Int) (W : World) : Calls Try.prog 36 #[.int .i64 b] W fun e W' => e = .returned (.bool (aligned b)) ∧ W = W' := by
  go_enter Try.func36, Try.ntmps36
  go_wp2
  all_goals
    go_ret
    exact ⟨ret_bool (by rw [Bool.eq_iff_iff]; simp [aligned]; try omega), rfl⟩
def encGood (p l : Bool) (r b : Int) : Bool := p && aligned b && decide (0 ≤ r) && decide (r ≤ 3) && (l || decide (r = 0))
def encZero (p l : Bool) (r b : Int) : Bool := !p && !l && decide (r = 0) && decide (b = 0)
def encV (w : Int) (p l : Bool) (r b : Int) : Int := if okw w && encGood p l r b then 1 + 4 * r + 16 * (b / 4096) + (if l then 2 else 0) else 0
def encE (w : Int) (p l : Bool) (r b : Int) : Int := if okw w && (encGood p l r b || encZero p l r b) then 0 else 1
def EncPost (w : Int) (p l : Bool) (r b : Int) (W : World) (e : Ending) (W' : World) : Prop :=
  e = .returned (.tuple #[.int .u64 (encV w p l r b), .int .i64 (encE w p l r b)]) ∧ Below W.heap.size W W'
theorem enc_ret {w : Int} {p l : Bool} {r b : Int} {x y : Int} {W W' : World} (hx : x = encV w p l r b) (hy : y = encE w p l r b) (hb : Below W.heap.size W W') :
    EncPost w p l r b W (.returned (.tuple #[.int .u64 x, .int .i64 y])) W' := ⟨by rw [hx, hy], hb⟩
set_option maxHeartbeats 4000000 in
theorem encode (w : Int) (p l : Bool) (r b : Int) (W : World) : Calls Try.prog 21 #[.int .i64 w, .agg #[.bool p, .bool l, .int .i64 r, .int .i64 b]] W (EncPost w p l r b W) := by
  cases hw : okw w
  · go_enter Try.func21, Try.ntmps21
    go_wp2_with (first | (go_at_call 10; refine (geom _ _).mono ?_; rintro e w' ⟨rfl, rfl⟩))
    go_ret2
    exact ⟨by simp [encV, encE, hw], (Below.refl _ _).alloc (Nat.le_refl _) _⟩
  · cases ha : aligned b
    · cases p <;> cases l <;>
      · go_enter Try.func21, Try.ntmps21
        go_wp2_with (first | (go_at_call 10; refine (geom _ _).mono ?_; rintro e w' ⟨rfl, rfl⟩) | (go_at_call 35; refine (page_aligned _ _).mono ?_; rintro e w' ⟨rfl, rfl⟩))
        all_goals
          go_ret2
          refine enc_ret ?_ ?_ ((Below.refl _ _).alloc (Nat.le_refl _) _)
          · simp_all [encV, encGood]
          · simp_all [encE, encGood, encZero]
    · have hb : 0 ≤ b ∧ b < 1099511627776 ∧ b % 4096 = 0 := by simpa [aligned] using ha
      obtain ⟨b1, b2, b3⟩ := hb
      have B3 := Lib.hid b3; clear b3
      cases p <;> cases l <;>
      · rcases (by omega : r < 0 ∨ 3 < r ∨ 0 ≤ r ∧ r ≤ 3) with h | h | ⟨h, h'⟩ <;>
        · go_enter Try.func21, Try.ntmps21
          go_wp2_with (first | (go_at_call 10; refine (geom _ _).mono ?_; rintro e w' ⟨rfl, rfl⟩) | (go_at_call 35; refine (page_aligned _ _).mono ?_; rintro e w' ⟨rfl, rfl⟩))
          all_goals
            go_ret2
            refine enc_ret ?_ ?_ ((Below.refl _ _).alloc (Nat.le_refl _) _)
            · first | (simp [encV, encGood, hw, ha]; omega) | (simp_all [encV, encGood]; done) | (simp_all [encV, encGood]; omega) | trace_state
            · first | (simp [encE, encGood, encZero, hw, ha]; omega) | (simp_all [encE, encGood, encZero]; done) | (simp_all [encE, encGood, encZero]; omega)
end Go.Proofs.Ytonloimepfojdaa

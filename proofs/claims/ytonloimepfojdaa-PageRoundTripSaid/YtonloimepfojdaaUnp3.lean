/- Page tables: SamePtes; width, Id. -/
import Derived.Test.YtonloimepfojdaaUnp2
import Derived.Test.YtonloimepfojdaaLind
namespace Go.Proofs.Ytonloimepfojdaa
open Go.RowKit
set_option linter.unusedVariables false
theorem ptes_len (w : Int) (sz : Nat) (bs : List UInt8) : ∀ k, (ptes w sz bs k).length = k * 4
  | 0 => rfl
  | k + 1 => by rw [ptes_succ, List.length_append, ptes_len w sz bs k]; simp [pteC]; omega
theorem ptes_at (w : Int) (sz : Nat) (bs : List UInt8) : ∀ (k i j : Nat), i < k → j < 4 → (ptes w sz bs k)[i * 4 + j]? = (pteC w (enN sz bs i))[j]?
  | k + 1, i, j, hi, hj => by
    rw [ptes_succ]
    rcases Nat.lt_or_ge i k with h | h
    · rw [List.getElem?_append_left (by rw [ptes_len]; omega)]
      exact ptes_at w sz bs k i j h hj
    · obtain rfl : i = k := by omega
      rw [List.getElem?_append_right (by rw [ptes_len]; omega), ptes_len]
      congr 1
      omega
/-- Rows of entries. -/
def PteRow (n : Nat) (xs : List Value) : Prop := ∀ i, i < n → ∃ (p l : Bool) (r b : Int), xs[i * 4]? = some (.bool p) ∧ xs[i * 4 + 1]? = some (.bool l) ∧ xs[i * 4 + 2]? = some (.int .i64 r) ∧ xs[i * 4 + 3]? = some (.int .i64 b)
theorem upX_row (w : Int) (bs : List UInt8) : PteRow (upN w bs) (upX w bs) := by
  intro i hi
  unfold upN at hi
  unfold upX
  cases h : upOk w bs
  · rw [h] at hi
    exact absurd hi (by simp)
  · rw [h] at hi
    have hi : i < 4096 / (eb w).toNat := by simpa using hi
    rw [if_pos rfl]
    exact ⟨_, _, _, _, ptes_at w _ bs _ i 0 hi (by omega), ptes_at w _ bs _ i 1 hi (by omega), ptes_at w _ bs _ i 2 hi (by omega), ptes_at w _ bs _ i 3 hi (by omega)⟩
theorem upN_le (w : Int) (bs : List UInt8) : upN w bs ≤ 4096 := by
  unfold upN
  split
  · exact Nat.div_le_self _ _
  · omega
theorem IsC.cells4 {w : World} {A : Option Addr} {n : Nat} {xs : List Value} (h : IsC w A n 4 xs) (hx : PteRow n xs) (i : Nat) (hi : i < n) : ∃ (b o : Nat) (p l : Bool) (r s : Int), A = some ⟨b, o, none⟩ ∧ w.cell? ⟨b, o + i * 4, none⟩ = some (.bool p) ∧ w.cell? ⟨b, o + i * 4 + 1, none⟩ = some (.bool l) ∧ w.cell? ⟨b, o + i * 4 + 2, none⟩ = some (.int .i64 r) ∧ w.cell? ⟨b, o + i * 4 + 3, none⟩ = some (.int .i64 s) ∧
    xs[i * 4]? = some (.bool p) ∧ xs[i * 4 + 1]? = some (.bool l) ∧ xs[i * 4 + 2]? = some (.int .i64 r) ∧ xs[i * 4 + 3]? = some (.int .i64 s) := by
  obtain ⟨p, l, r, s, h0, h1, h2, h3⟩ := hx i hi
  obtain ⟨b, o, e, hc⟩ := h.2 (by omega)
  exact ⟨b, o, p, l, r, s, e, hc _ _ h0, hc _ _ h1, hc _ _ h2, hc _ _ h3, h0, h1, h2, h3⟩
set_option maxRecDepth 20000 in
set_option maxHeartbeats 4000000 in
theorem same_ptes (A B : Option Addr) (n c d : Nat) (xs : List Value) (W : World) (hA : IsC W A n 4 xs) (hB : IsC W B n 4 xs) (hx : PteRow n xs) (hn : n ≤ 4096) : Calls Try.prog 33 #[.slice A n c, .slice B n d] W (True1 W) := by
  have hn0 : ((n : Int) == (n : Int)) = true := by simp
  have HB := Below.refl W.heap.size W
  go_enter Try.func33, Try.ntmps33
  go_upto_region 4 with (fail)
  go_loopw [5] (fun i wr => ∃ k : Nat, k ≤ n ∧ i = .int .i64 k ∧ Below W.heap.size W wr) (fun i _ => n - (intOf i).toNat)
  case atStart => exact ⟨0, by omega, rfl, HB⟩
  case round =>
    clear HB
    obtain ⟨k, hk, rfl, HB⟩ := hrel
    rcases Nat.lt_or_ge k n with hkn | hkn
    · have hd : decide (k < n) = true := by simp; omega
      go_upto_region 6 with (fail)
      refine wp_region_told (n := 26) (fun w' => w' = wr.drew) (fun _ _ => True) (by kernel_rfl) (by kernel_rfl) (by rfl) rfl ?_
      have HB := HB.drew
      generalize wr.drew = w2 at *
      obtain ⟨b1, o1, p, l, r, s, rfl, x0, x1, x2, x3, y0, y1, y2, y3⟩ := (hA.below HB).cells4 hx k hkn
      obtain ⟨b2, o2, p', l', r', s', rfl, z0, z1, z2, z3, u0, u1, u2, u3⟩ := (hB.below HB).cells4 hx k hkn
      rw [y0] at u0
      rw [y1] at u1
      rw [y2] at u2
      rw [y3] at u3
      simp only [Option.some.injEq, Value.bool.injEq, Value.int.injEq, true_and] at u0 u1 u2 u3
      subst u0 u1 u2 u3
      clear y0 y1 y2 y3
      repeat (first | (refine walk_pure (v := ?_) (fun _ => trivial) (fun _ => rfl) ?_ ?_; rotate_left; (focus (intro us w9 hS9 hF; subst hS9; go_simp; (try with_reducible rfl); done)); simp only [Act.put, List.setIfInBounds_toArray, List.set_cons_zero, List.set_cons_succ, Nat.reduceAdd]) | (refine walk_skip (fun _ => trivial) (fun _ => rfl) ?_; simp only [Act.put, List.setIfInBounds_toArray, List.set_cons_zero, List.set_cons_succ, Nat.reduceAdd]))
      refine walk_done fun us w9 hS9 hF => ?_
      subst hS9
      clear hF x0 x1 x2 x3 z0 z1 z2 z3
      go_wp2
      exact ⟨⟨k + 1, by omega, by go_num, HB⟩, by simp [intOf]; omega⟩
    · have hd : decide (k < n) = false := by simp; omega
      go_wp2
      go_ret
      exact ⟨rfl, HB⟩
end Go.Proofs.Ytonloimepfojdaa

/- The walk of BinencCanonical. -/
import Derived.Test.YtajkhijphdnbpaaLstr
import Derived.Test.YtajkhijphdnbpaaUvc
namespace Go.Proofs.Ytajkhijphdnbpaa
open Go.RowKit
set_option linter.unusedVariables false
/-- The arguments that the law does not try. -/
theorem can_bad (A : Option Addr) (n c : Nat) (bs : List UInt8) (off : Int) (w : World) (hA : IsB w A n bs) (hc : n ≤ c) (hn : n ≤ 9223372036854775807) (b0 : -9223372036854775808 ≤ off) (b1 : off < 9223372036854775808) (hbad : 1000 < n ∨ off < 0 ∨ (n : Int) < off) :
    Calls Try.prog 12 #[.slice A n c, .int .i64 off] w (True1 w) := by
  have go : ∀ _ : True, Calls Try.prog 13 #[] w (True1 w) := fun _ => awake01 w
  rcases Nat.lt_or_ge 1000 n with h1 | h1
  · clear hbad
    go_enter Try.func12, Try.ntmps12
    go_wp2_with (go_at_call 13; refine (awake01 _).mono ?_; rintro e w1 ⟨rfl, hb1⟩)
    go_ret
    exact ⟨rfl, hb1⟩
  · by_cases h2 : off < 0
    · clear hbad
      go_enter Try.func12, Try.ntmps12
      go_wp2_with (go_at_call 13; refine (awake01 _).mono ?_; rintro e w1 ⟨rfl, hb1⟩)
      go_ret
      exact ⟨rfl, hb1⟩
    · have h3 : (n : Int) < off := by omega
      clear hbad
      go_enter Try.func12, Try.ntmps12
      go_wp2_with (go_at_call 13; refine (awake01 _).mono ?_; rintro e w1 ⟨rfl, hb1⟩)
      go_ret
      exact ⟨rfl, hb1⟩
set_option maxRecDepth 20000 in
set_option maxHeartbeats 4000000 in
/-- Nothing is decoded. -/
theorem can_err (A : Option Addr) (n c : Nat) (bs : List UInt8) (o : Nat) (w : World) (hA : IsB w A n bs) (hc : n ≤ c) (hn : n ≤ 1000) (ho : o ≤ n) (v nx er : Nat) (hR : uvR bs (o : Nat) = (v, nx, er)) (he : er ≠ 0) :
    Calls Try.prog 12 #[.slice A n c, .int .i64 o] w (True1 w) := by
  have C1 := Lib.hid (uvarint01 A n c bs o w hA (by omega) (by omega) (by omega))
  have C2 := Lib.hid (varint01 A n c bs o w hA (by omega) (by omega) (by omega))
  have hV : vR bs (o : Nat) = (0, 0, er) := by unfold vR; rw [hR, if_neg he]
  have hB : bR bs (o : Nat) n = ([], 0, er) := by
    unfold bR
    rw [hR, if_neg (by have := hA.1; omega), if_pos he]
  have C1 := Lib.hid (by have h := C1.out; unfold UvPost at h; rw [hR] at h; exact h)
  have C2 := Lib.hid (by have h := C2.out; unfold VPost at h; rw [hV] at h; exact h)
  have C3 : Hid (∀ w9, Below w.heap.size w w9 → Calls Try.prog 36 #[.slice A n c, .int .i64 o, .int .i64 n] w9 (fun e w10 => ∃ A3 n3 c3, e = .returned (.tuple #[.slice A3 n3 c3, .int .i64 0, .int .i64 (er : Nat)]) ∧ IsB w10 A3 n3 [] ∧ Below w9.heap.size w9 w10)) := Lib.hid (fun w9 h9 => by
    have h := bytes01 A n c bs o n w9 (hA.below h9) hc (by omega) (by omega) (by omega) (by omega) (by omega)
    unfold BPost at h
    rw [hB] at h
    exact h)
  have heb : ((er : Int) == 0) = false := by simpa using he
  have hnb : ((er : Int) != 0) = true := by simpa using he
  have h5 : (o : Int) ≤ n := by omega
  clear hR hV hB he hA
  go_enter Try.func12, Try.ntmps12
  go_wp2_with fail
  refine C1.out.mono ?_
  rintro e w1 ⟨rfl, rfl⟩
  go_wp2_with fail
  refine C2.out.mono ?_
  rintro e w2 ⟨rfl, rfl⟩
  go_upto_region 11 with (fail)
  refine wp_region_told (n := 140) (fun w9 => Below w2.heap.size w2 w9) (fun w1 w2 => Below w1.heap.size w1 w2) (by kernel_rfl) (by kernel_rfl) (by rfl) (below_drewN (Below.refl _ _) 1) ?_
  repeat (first | (refine walk_pure (v := ?_) (fun _ => Below.refl _ _) (fun _ => rfl) ?_ ?_; rotate_left; (focus (intro us w9 hS9 hF; go_simp; (try with_reducible rfl); done)); simp only [Act.put, List.setIfInBounds_toArray, List.set_cons_zero, List.set_cons_succ, Nat.reduceAdd]) | (refine walk_skip (fun _ => Below.refl _ _) (fun _ => rfl) ?_; simp only [Act.put, List.setIfInBounds_toArray, List.set_cons_zero, List.set_cons_succ, Nat.reduceAdd]))
  refine walk_done fun us w9 hS9 hF => ?_
  clear hF
  go_wp2_with fail
  refine (C3.out _ hS9).mono ?_
  rintro e w3 ⟨A3, n3, c3, rfl, hi3, hb3⟩
  have hb13 := below_next hS9 hb3
  have cW : ∀ w9, Below w3.heap.size w3 w9 → Calls Try.prog 13 #[] w9 (fun e w10 => e = .returned (.bool true) ∧ Below w3.heap.size w3 w10 ∧ Below w9.heap.size w9 w10) := fun w9 h => true_S h (awake01 w9)
  go_upto_region 14 with (fail)
  refine wp_region_told (n := 140) (fun w9 => Below w3.heap.size w3 w9) (fun w1 w2 => Below w1.heap.size w1 w2) (by kernel_rfl) (by kernel_rfl) (by rfl) (below_drewN (Below.refl _ _) 1) ?_
  repeat (first | (refine walk_pure (v := ?_) (fun _ => Below.refl _ _) (fun _ => rfl) ?_ ?_; rotate_left; (focus (intro us w9 hS9 hF; go_simp; (try with_reducible rfl); done)); simp only [Act.put, List.setIfInBounds_toArray, List.set_cons_zero, List.set_cons_succ, Nat.reduceAdd]) | (refine walk_skip (fun _ => Below.refl _ _) (fun _ => rfl) ?_; simp only [Act.put, List.setIfInBounds_toArray, List.set_cons_zero, List.set_cons_succ, Nat.reduceAdd]))
  refine walk_fix (v := ?_) ?_ ?_; rotate_left; (focus (intro us w9 hS9 hF K hK; go_simp; refine (cW w9 hS9).mono ?_; rintro e w' ⟨rfl, hS8, hG8⟩; exact hK w' hS8 hG8)); simp only [Act.put, List.setIfInBounds_toArray, List.set_cons_zero, List.set_cons_succ, Nat.reduceAdd]
  repeat (first | (refine walk_pure (v := ?_) (fun _ => Below.refl _ _) (fun _ => rfl) ?_ ?_; rotate_left; (focus (intro us w9 hS9 hF; go_simp; (try with_reducible rfl); done)); simp only [Act.put, List.setIfInBounds_toArray, List.set_cons_zero, List.set_cons_succ, Nat.reduceAdd]) | (refine walk_skip (fun _ => Below.refl _ _) (fun _ => rfl) ?_; simp only [Act.put, List.setIfInBounds_toArray, List.set_cons_zero, List.set_cons_succ, Nat.reduceAdd]))
  refine walk_done fun us w10 hS10 hF => ?_
  clear hF cW
  go_wp2
  go_ret
  exact ⟨rfl, below_next hb13 hS10⟩
end Go.Proofs.Ytajkhijphdnbpaa

/- The walk of BinencStrings. -/
import Derived.Test.YtajkhijphdnbpaaLvar
import Derived.Test.YtajkhijphdnbpaaByt
namespace Go.Proofs.Ytajkhijphdnbpaa
open Go.RowKit
set_option linter.unusedVariables false
theorem SpareB.cap {W w' : World} {bs : List UInt8} {n : Nat} {e : Ending} (hl : n = bs.length) (h : SpareB W bs n e w') : ∃ A c, e = .returned (.slice A n c) ∧ IsB w' A n bs ∧ n ≤ c ∧ Below W.heap.size W w' := by
  obtain ⟨g, c, rfl, ho, hb⟩ := h
  have hi := ho.isB.pre n (by omega)
  rw [List.take_left' hl.symm] at hi
  obtain ⟨_, _, _, _, hc⟩ := ho.form (by omega)
  exact ⟨_, _, rfl, hi, by omega, hb⟩
set_option maxRecDepth 20000 in
set_option maxHeartbeats 4000000 in
theorem law_strings (A : Option Addr) (n c : Nat) (bs : List UInt8) (B : Option Addr) (m d : Nat) (ps : List UInt8) (off limit : Int) (w : World) (hA : IsB w A n bs) (hc : n ≤ c) (hn : n ≤ 9223372036854775807) (hB : IsB w B m ps) (hm : m ≤ 9223372036854775807)
    (b0 : -9223372036854775808 ≤ off) (b1 : off < 9223372036854775808) (z0 : -9223372036854775808 ≤ limit) (z1 : limit < 9223372036854775808) :
    Calls Try.prog 10 #[.slice A n c, .slice B m d, .int .i64 off, .int .i64 limit] w (True1 w) := by
  by_cases hbad : 1000 < n ∨ 1000 < m
  · rcases Nat.lt_or_ge 1000 n with h1 | h1
    · go_enter Try.func10, Try.ntmps10
      go_wp2_with (go_at_call 13; refine (awake01 _).mono ?_; rintro e w1 ⟨rfl, hb1⟩)
      go_ret
      exact ⟨rfl, hb1⟩
    · have h2 : 1000 < m := by omega
      clear hbad
      go_enter Try.func10, Try.ntmps10
      go_wp2_with (go_at_call 13; refine (awake01 _).mono ?_; rintro e w1 ⟨rfl, hb1⟩)
      go_ret
      exact ⟨rfl, hb1⟩
  · have hn1 : n ≤ 1000 := by omega
    have hm1 : m ≤ 1000 := by omega
    clear hbad hn hm
    obtain ⟨s, hg⟩ := Grp.ex m
    have HG := Lib.hid hg
    have HA := Lib.hid hA
    have HB := Lib.hid hB
    have hl := Lib.hid hA.1
    have hl2 := Lib.hid hB.1
    clear hg hA hB
    go_enter Try.func10, Try.ntmps10
    go_wp2_with fail
    refine (spare01 A n c bs _ HA.out (by omega)).mono ?_
    rintro e w1 he1
    obtain ⟨A1, c1, rfl, hi1, hc1, hb1⟩ := he1.cap hl.out
    clear he1
    go_wp2_with fail
    refine (bytes01 A1 n c1 bs off limit w1 hi1 hc1 (by omega) b0 b1 z0 z1).mono ?_
    rintro e w2 ⟨A3, n3, c3, he2, hi3, hb2⟩
    have hb12 := below_next hb1 hb2
    have HC := Lib.hid (bytes_ref A n c bs off limit w2 (HA.out.below hb12) hc (by omega) b0 b1 z0 z1)
    clear hb1 hb2 hi1 hc1
    unfold BPost at HC
    generalize bR bs off limit = r at *
    obtain ⟨xs, nx, er⟩ := r
    simp only at he2 hi3
    subst he2
    go_wp2_with fail
    refine HC.out.mono ?_
    rintro e w3 ⟨A4, n4, c4, rfl, hi4, hb3⟩
    have hb13 := below_next hb12 hb3
    have hi3 := hi3.below hb3
    clear HC hb3 hb12
    have hA3 := HA.out.below hb13
    have hB3 := HB.out.below hb13
    go_upto_region 5 with (fail)
    have cS : ∀ w9, Below w3.heap.size w3 w9 → Calls Try.prog 15 #[.slice A n c] w9 (GivesS w3 w9 bs) := fun w9 h => gives_S h ((spare01 A n c bs w9 (hA3.below h) (by omega)).mono fun e w10 r => r.gives hl.out)
    have cT : ∀ w9, Below w3.heap.size w3 w9 → Calls Try.prog 15 #[.slice B m d] w9 (GivesS w3 w9 ps) := fun w9 h => gives_S h ((spare01 B m d ps w9 (hB3.below h) (by omega)).mono fun e w10 r => r.gives hl2.out)
    have cA : ∀ A8 n8 c8 A7 n7 c7 w9, IsB w9 A8 n8 bs → IsB w9 A7 n7 ps → Below w3.heap.size w3 w9 → Calls Try.prog 38 #[.slice A8 n8 c8, .slice A7 n7 c7] w9 (GivesS w3 w9 (bs ++ (uvB m s ++ ps))) := fun A8 n8 c8 A7 n7 c7 w9 hi hj h => by
      have e : n7 = m := by have := hj.1; have := hl2.out; omega
      subst e
      exact new_S h (append_bytes A8 n8 c8 bs A7 n7 c7 ps s w9 hi (by have := hi.1; have := hl.out; omega) hj (by omega) HG.out)
    have cB : ∀ w9, Below w3.heap.size w3 w9 → Calls Try.prog 39 #[.slice A n c, .slice B m d] w9 (GivesS w3 w9 (bs ++ (uvB m s ++ ps))) := fun w9 h => gives_S h (append_bytes_ref A n c bs B m d ps s w9 (hA3.below h) (by omega) (hB3.below h) (by omega) HG.out)
    have cW : ∀ w9, Below w3.heap.size w3 w9 → Calls Try.prog 13 #[] w9 (fun e w10 => e = .returned (.bool true) ∧ Below w3.heap.size w3 w10 ∧ Below w9.heap.size w9 w10) := fun w9 h => true_S h (awake01 w9)
    clear b0 b1 z0 z1
    refine wp_region_told (n := 72) (fun w9 => Below w3.heap.size w3 w9) (fun w1 w2 => Below w1.heap.size w1 w2) (by kernel_rfl) (by kernel_rfl) (by rfl) (below_drewN (Below.refl _ _) 1) ?_
    repeat (refine walk_pure (v := ?_) (fun _ => Below.refl _ _) (fun _ => rfl) ?_ ?_; rotate_left; (focus (intro us w9 hS9 hF; go_simp; (try with_reducible rfl); done)); simp only [Act.put, List.setIfInBounds_toArray, List.set_cons_zero, List.set_cons_succ, Nat.reduceAdd])
    refine walk_pure (v := ?_) (fun _ => Below.refl _ _) (fun _ => rfl) ?_ ?_; rotate_left; (focus (intro us w9 hS9 hF; have hs := run_str (P := Try.prog) (dst := 9) Try.underlying22 Try.underlying5 Try.underlying9 (c3) ((hi3).below hS9); clear hF; go_simp; (try with_reducible rfl); done)); simp only [Act.put, List.setIfInBounds_toArray, List.set_cons_zero, List.set_cons_succ, Nat.reduceAdd]
    repeat (refine walk_pure (v := ?_) (fun _ => Below.refl _ _) (fun _ => rfl) ?_ ?_; rotate_left; (focus (intro us w9 hS9 hF; go_simp; (try with_reducible rfl); done)); simp only [Act.put, List.setIfInBounds_toArray, List.set_cons_zero, List.set_cons_succ, Nat.reduceAdd])
    refine walk_pure (v := ?_) (fun _ => Below.refl _ _) (fun _ => rfl) ?_ ?_; rotate_left; (focus (intro us w9 hS9 hF; have hs := run_str (P := Try.prog) (dst := 9) Try.underlying22 Try.underlying5 Try.underlying9 (c4) ((hi4).below hS9); clear hF; go_simp; (try with_reducible rfl); done)); simp only [Act.put, List.setIfInBounds_toArray, List.set_cons_zero, List.set_cons_succ, Nat.reduceAdd]
    repeat (refine walk_pure (v := ?_) (fun _ => Below.refl _ _) (fun _ => rfl) ?_ ?_; rotate_left; (focus (intro us w9 hS9 hF; go_simp; (try with_reducible rfl); done)); simp only [Act.put, List.setIfInBounds_toArray, List.set_cons_zero, List.set_cons_succ, Nat.reduceAdd])
    refine walk_free (BX (bs)) BX.mono ?_ ?_; (focus (intro us w9 hS9 hF K hK; go_simp; refine (cS w9 hS9).mono ?_; rintro e w' ⟨A9, n9, c9, rfl, hi9, hS8, hG8⟩; exact hK _ w' hS8 hG8 ⟨A9, n9, c9, rfl, hi9⟩)); simp only [Act.put, List.setIfInBounds_toArray, List.set_cons_zero, List.set_cons_succ, Nat.reduceAdd]
    repeat (refine walk_pure (v := ?_) (fun _ => Below.refl _ _) (fun _ => rfl) ?_ ?_; rotate_left; (focus (intro us w9 hS9 hF; go_simp; (try with_reducible rfl); done)); simp only [Act.put, List.setIfInBounds_toArray, List.set_cons_zero, List.set_cons_succ, Nat.reduceAdd])
    refine walk_free (BX (ps)) BX.mono ?_ ?_; (focus (intro us w9 hS9 hF K hK; go_simp; refine (cT w9 hS9).mono ?_; rintro e w' ⟨A9, n9, c9, rfl, hi9, hS8, hG8⟩; exact hK _ w' hS8 hG8 ⟨A9, n9, c9, rfl, hi9⟩)); simp only [Act.put, List.setIfInBounds_toArray, List.set_cons_zero, List.set_cons_succ, Nat.reduceAdd]
    refine walk_free (BX (bs ++ (uvB m s ++ ps))) BX.mono ?_ ?_; (focus (intro us w9 hS9 hF K hK; obtain ⟨A8, n8, c8, hu, hi⟩ := hF (17, BX (bs)) (by simp) (by kernel_rfl); obtain ⟨A7, n7, c7, hu7, hi7⟩ := hF (19, BX (ps)) (by simp) (by kernel_rfl); clear hF; simp only [hu, hu7] at hK; go_simp; refine (cA A8 n8 c8 A7 n7 c7 w9 hi hi7 hS9).mono ?_; rintro e w' ⟨A9, n9, c9, rfl, hi9, hS8, hG8⟩; exact hK _ w' hS8 hG8 ⟨A9, n9, c9, rfl, hi9⟩)); simp only [Act.put, List.setIfInBounds_toArray, List.set_cons_zero, List.set_cons_succ, Nat.reduceAdd]
    refine walk_pure (v := ?_) (fun _ => Below.refl _ _) (fun _ => rfl) ?_ ?_; rotate_left; (focus (intro us w9 hS9 hF; obtain ⟨A9, n9, c9, hu, hi⟩ := hF (20, BX (bs ++ (uvB m s ++ ps))) (by simp) (by kernel_rfl); have hs := run_str (P := Try.prog) (dst := 9) Try.underlying22 Try.underlying5 Try.underlying9 c9 hi; clear hi hF; go_simp; (try with_reducible rfl); done)); simp only [Act.put, List.setIfInBounds_toArray, List.set_cons_zero, List.set_cons_succ, Nat.reduceAdd]
    repeat (refine walk_pure (v := ?_) (fun _ => Below.refl _ _) (fun _ => rfl) ?_ ?_; rotate_left; (focus (intro us w9 hS9 hF; go_simp; (try with_reducible rfl); done)); simp only [Act.put, List.setIfInBounds_toArray, List.set_cons_zero, List.set_cons_succ, Nat.reduceAdd])
    refine walk_free (BX (bs ++ (uvB m s ++ ps))) BX.mono ?_ ?_; (focus (intro us w9 hS9 hF K hK; go_simp; refine (cB w9 hS9).mono ?_; rintro e w' ⟨A9, n9, c9, rfl, hi9, hS8, hG8⟩; exact hK _ w' hS8 hG8 ⟨A9, n9, c9, rfl, hi9⟩)); simp only [Act.put, List.setIfInBounds_toArray, List.set_cons_zero, List.set_cons_succ, Nat.reduceAdd]
    refine walk_pure (v := ?_) (fun _ => Below.refl _ _) (fun _ => rfl) ?_ ?_; rotate_left; (focus (intro us w9 hS9 hF; obtain ⟨A9, n9, c9, hu, hi⟩ := hF (24, BX (bs ++ (uvB m s ++ ps))) (by simp) (by kernel_rfl); have hs := run_str (P := Try.prog) (dst := 9) Try.underlying22 Try.underlying5 Try.underlying9 c9 hi; clear hi hF; go_simp; (try with_reducible rfl); done)); simp only [Act.put, List.setIfInBounds_toArray, List.set_cons_zero, List.set_cons_succ, Nat.reduceAdd]
    repeat (refine walk_pure (v := ?_) (fun _ => Below.refl _ _) (fun _ => rfl) ?_ ?_; rotate_left; (focus (intro us w9 hS9 hF; go_simp; (try with_reducible rfl); done)); simp only [Act.put, List.setIfInBounds_toArray, List.set_cons_zero, List.set_cons_succ, Nat.reduceAdd])
    refine walk_fix (v := ?_) ?_ ?_; rotate_left; (focus (intro us w9 hS9 hF K hK; go_simp; refine (cW w9 hS9).mono ?_; rintro e w' ⟨rfl, hS8, hG8⟩; exact hK w' hS8 hG8)); simp only [Act.put, List.setIfInBounds_toArray, List.set_cons_zero, List.set_cons_succ, Nat.reduceAdd]
    repeat (refine walk_pure (v := ?_) (fun _ => Below.refl _ _) (fun _ => rfl) ?_ ?_; rotate_left; (focus (intro us w9 hS9 hF; go_simp; (try with_reducible rfl); done)); simp only [Act.put, List.setIfInBounds_toArray, List.set_cons_zero, List.set_cons_succ, Nat.reduceAdd])
    refine walk_done fun us w9 hS9 hF => ?_
    clear hF cS cT cA cB cW
    go_wp2
    go_ret
    exact ⟨rfl, below_next hb13 hS9⟩
theorem walk_strings (W : World) (A : Option Addr) (n c : Nat) (zs : List Int) (B : Option Addr) (m d : Nat) (ys : List Int) (off limit : Int) (h : IsRow .u8 W A n c zs) (h2 : IsRow .u8 W B m d ys) (ho : (Lit.int .i64 off).wf = true) (hv : (Lit.int .i64 limit).wf = true) :
    Calls Try.prog 10 #[.slice A n c, .slice B m d, .int .i64 off, .int .i64 limit] W (True1 W) := by
  obtain ⟨bs, hA, hn⟩ := h.isB
  obtain ⟨ps, hB, hm⟩ := h2.isB
  simp [Lit.wf, IntKind.min, IntKind.max, IntKind.signed, IntKind.bits] at hv ho
  exact law_strings A n c bs B m d ps off limit W hA h.cap hn hB hm (by omega) (by omega) (by omega) (by omega)
end Go.Proofs.Ytajkhijphdnbpaa

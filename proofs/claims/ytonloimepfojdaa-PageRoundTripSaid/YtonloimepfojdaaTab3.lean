/- Page tables: ValidTable. -/
import Derived.Test.YtonloimepfojdaaTab2
namespace Go.Proofs.Ytonloimepfojdaa
open Go.RowKit
set_option linter.unusedVariables false
set_option maxRecDepth 20000 in
set_option maxHeartbeats 8000000 in
theorem valid_ref (b w lv : Int) (A : Option Addr) (n c : Nat) (ms : List Mp) (W : World) (hA : IsMs W A n ms) (hn1 : n ≤ 1000) : Calls Try.prog 29 #[.agg #[.int .i64 b, .int .i64 w, .int .i64 lv, .slice A n c]] W (fun e W' => e = .returned (.bool (vT b w lv ms)) ∧ Below W.heap.size W W') := by
  obtain ⟨L, hL⟩ : ∃ L, lev w = L := ⟨_, rfl⟩
  obtain ⟨bits, hbit⟩ : ∃ x, ib w = x := ⟨_, rfl⟩
  obtain ⟨B, hBB⟩ : ∃ x, bnd w = x := ⟨_, rfl⟩
  have hlim : okw w = false ∧ L = 0 ∨ okw w = true ∧ (bits = 10 ∧ B = 1024 ∨ bits = 9 ∧ B = 512) := by
    rcases w_cases w with rfl | rfl | ⟨h1, h2, h3, h4⟩
    · exact .inr ⟨rfl, .inl ⟨hbit.symm, hBB.symm⟩⟩
    · exact .inr ⟨rfl, .inr ⟨hbit.symm, hBB.symm⟩⟩
    · exact .inl ⟨okw_no h3 h4, by rw [← hL]; simp [lev, h3, h4]⟩
  have HN := Lib.hid hA.1
  have hB := (Below.refl W.heap.size W).alloc (Nat.le_refl _) (.cells #[.int .i64 b, .int .i64 w, .int .i64 lv, .slice A n c] 43)
  have HT : Hid (vT b w lv ms = (okw w && decide (0 ≤ lv ∧ lv < L) && aligned b && decide (0 < n) && vMs lv B (-1) ms)) := Lib.hid (by simp only [vT, hL, hBB, HN.out])
  have r1 := Row.born W 43 #[.int .i64 b, .int .i64 w, .int .i64 lv, .slice A n c]
  obtain ⟨c1, d1⟩ : ∃ c, decide (lv < 0) = c := ⟨_, rfl⟩
  obtain ⟨c2, d2⟩ : ∃ c, decide (L ≤ lv) = c := ⟨_, rfl⟩
  obtain ⟨c3, d3⟩ : ∃ c, aligned b = c := ⟨_, rfl⟩
  obtain ⟨c4, d4⟩ : ∃ c, ((n : Int) == 0) = c := ⟨_, rfl⟩
  go_enter Try.func29, Try.ntmps29
  go_upto_region 1 with (fail)
  generalize W.alloc (.cells #[.int .i64 b, .int .i64 w, .int .i64 lv, .slice A n c] 43) = w1 at *
  have hl1 := r1.lt
  have t0 := r1.cell 0
  have t1 := r1.cell 1
  have t2 := r1.cell 2
  have t3 := r1.cell 3
  simp at t0 t1 t2 t3
  refine wp_region_told (n := 87) (fun w' => Below w1.heap.size w1 w') (fun _ _ => True) (by kernel_rfl) (by kernel_rfl) (by rfl) (Below.refl _ _).drew ?_
  refine walk_pure (v := .pointer (some ⟨W.heap.size, 2, none⟩)) (fun _ => trivial) (fun _ => rfl) ?_ ?_; (focus (as_aux_lemma => (intro us w9 hS9 hF; clear hF; have k0 := (hS9.cell (p := ⟨W.heap.size, 0, none⟩) hl1).trans t0; have k1 := (hS9.cell (p := ⟨W.heap.size, 1, none⟩) hl1).trans t1; have k2 := (hS9.cell (p := ⟨W.heap.size, 2, none⟩) hl1).trans t2; have k3 := (hS9.cell (p := ⟨W.heap.size, 3, none⟩) hl1).trans t3; clear hS9; go_simp; try (with_reducible rfl)))); simp only [Act.put, List.setIfInBounds_toArray, List.set_cons_zero, List.set_cons_succ, Nat.reduceAdd]
  refine walk_pure (v := .int .i64 lv) (fun _ => trivial) (fun _ => rfl) ?_ ?_; (focus (as_aux_lemma => (intro us w9 hS9 hF; clear hF; have k0 := (hS9.cell (p := ⟨W.heap.size, 0, none⟩) hl1).trans t0; have k1 := (hS9.cell (p := ⟨W.heap.size, 1, none⟩) hl1).trans t1; have k2 := (hS9.cell (p := ⟨W.heap.size, 2, none⟩) hl1).trans t2; have k3 := (hS9.cell (p := ⟨W.heap.size, 3, none⟩) hl1).trans t3; clear hS9; go_simp; try (with_reducible rfl)))); simp only [Act.put, List.setIfInBounds_toArray, List.set_cons_zero, List.set_cons_succ, Nat.reduceAdd]
  refine walk_pure (v := .bool c1) (fun _ => trivial) (fun _ => rfl) ?_ ?_; (focus (as_aux_lemma => (intro us w9 hS9 hF; clear hF; have k0 := (hS9.cell (p := ⟨W.heap.size, 0, none⟩) hl1).trans t0; have k1 := (hS9.cell (p := ⟨W.heap.size, 1, none⟩) hl1).trans t1; have k2 := (hS9.cell (p := ⟨W.heap.size, 2, none⟩) hl1).trans t2; have k3 := (hS9.cell (p := ⟨W.heap.size, 3, none⟩) hl1).trans t3; clear hS9; go_simp; try (with_reducible rfl)))); simp only [Act.put, List.setIfInBounds_toArray, List.set_cons_zero, List.set_cons_succ, Nat.reduceAdd]
  refine walk_pure (v := .bool c1) (fun _ => trivial) (fun _ => rfl) ?_ ?_; (focus (as_aux_lemma => (intro us w9 hS9 hF; clear hF; have k0 := (hS9.cell (p := ⟨W.heap.size, 0, none⟩) hl1).trans t0; have k1 := (hS9.cell (p := ⟨W.heap.size, 1, none⟩) hl1).trans t1; have k2 := (hS9.cell (p := ⟨W.heap.size, 2, none⟩) hl1).trans t2; have k3 := (hS9.cell (p := ⟨W.heap.size, 3, none⟩) hl1).trans t3; clear hS9; go_simp; try (with_reducible rfl)))); simp only [Act.put, List.setIfInBounds_toArray, List.set_cons_zero, List.set_cons_succ, Nat.reduceAdd]
  refine walk_if (fun _ => trivial) (!c1) (v := .pointer (some ⟨W.heap.size, 2, none⟩)) (fun _ => by as_aux_lemma => (cases c1 <;> rfl)) ?_ ?_; (focus (as_aux_lemma => (intro hg us w9 hS9 hF; clear hF; have k0 := (hS9.cell (p := ⟨W.heap.size, 0, none⟩) hl1).trans t0; have k1 := (hS9.cell (p := ⟨W.heap.size, 1, none⟩) hl1).trans t1; have k2 := (hS9.cell (p := ⟨W.heap.size, 2, none⟩) hl1).trans t2; have k3 := (hS9.cell (p := ⟨W.heap.size, 3, none⟩) hl1).trans t3; clear hS9; (go_simp; try (with_reducible rfl))))); simp only [Act.put, List.setIfInBounds_toArray, List.set_cons_zero, List.set_cons_succ, Nat.reduceAdd]
  refine walk_if (fun _ => trivial) (!c1) (v := .int .i64 lv) (fun _ => by as_aux_lemma => (cases c1 <;> rfl)) ?_ ?_; (focus (as_aux_lemma => (intro hg us w9 hS9 hF; clear hF; have k0 := (hS9.cell (p := ⟨W.heap.size, 0, none⟩) hl1).trans t0; have k1 := (hS9.cell (p := ⟨W.heap.size, 1, none⟩) hl1).trans t1; have k2 := (hS9.cell (p := ⟨W.heap.size, 2, none⟩) hl1).trans t2; have k3 := (hS9.cell (p := ⟨W.heap.size, 3, none⟩) hl1).trans t3; clear hS9; (go_simp; try (with_reducible rfl))))); simp only [Act.put, List.setIfInBounds_toArray, List.set_cons_zero, List.set_cons_succ, Nat.reduceAdd]
  refine walk_if (fun _ => trivial) (!c1) (v := .pointer (some ⟨W.heap.size, 1, none⟩)) (fun _ => by as_aux_lemma => (cases c1 <;> rfl)) ?_ ?_; (focus (as_aux_lemma => (intro hg us w9 hS9 hF; clear hF; have k0 := (hS9.cell (p := ⟨W.heap.size, 0, none⟩) hl1).trans t0; have k1 := (hS9.cell (p := ⟨W.heap.size, 1, none⟩) hl1).trans t1; have k2 := (hS9.cell (p := ⟨W.heap.size, 2, none⟩) hl1).trans t2; have k3 := (hS9.cell (p := ⟨W.heap.size, 3, none⟩) hl1).trans t3; clear hS9; (go_simp; try (with_reducible rfl))))); simp only [Act.put, List.setIfInBounds_toArray, List.set_cons_zero, List.set_cons_succ, Nat.reduceAdd]
  refine walk_if (fun _ => trivial) (!c1) (v := .int .i64 w) (fun _ => by as_aux_lemma => (cases c1 <;> rfl)) ?_ ?_; (focus (as_aux_lemma => (intro hg us w9 hS9 hF; clear hF; have k0 := (hS9.cell (p := ⟨W.heap.size, 0, none⟩) hl1).trans t0; have k1 := (hS9.cell (p := ⟨W.heap.size, 1, none⟩) hl1).trans t1; have k2 := (hS9.cell (p := ⟨W.heap.size, 2, none⟩) hl1).trans t2; have k3 := (hS9.cell (p := ⟨W.heap.size, 3, none⟩) hl1).trans t3; clear hS9; (go_simp; try (with_reducible rfl))))); simp only [Act.put, List.setIfInBounds_toArray, List.set_cons_zero, List.set_cons_succ, Nat.reduceAdd]
  refine walk_if_call (fun _ => trivial) (!c1) (.int .i64 L) (fun _ => by as_aux_lemma => (cases c1 <;> rfl)) ?_ ?_; (focus (as_aux_lemma => (intro hg us w9 hS9 hF K hK; clear hF; obtain rfl : c1 = false := (by simpa using hg); clear hg; simp only [Bool.not_false, cond_true] at hK; go_simp; refine (levels w w9).mono ?_; rintro e w' ⟨rfl, rfl⟩; rw [hL]; exact hK _ hS9 trivial))); simp only [Act.put, List.setIfInBounds_toArray, List.set_cons_zero, List.set_cons_succ, Nat.reduceAdd]
  refine walk_if (fun _ => trivial) (!c1) (v := .bool c2) (fun _ => by as_aux_lemma => (cases c1 <;> rfl)) ?_ ?_; (focus (as_aux_lemma => (intro hg us w9 hS9 hF; clear hF; have k0 := (hS9.cell (p := ⟨W.heap.size, 0, none⟩) hl1).trans t0; have k1 := (hS9.cell (p := ⟨W.heap.size, 1, none⟩) hl1).trans t1; have k2 := (hS9.cell (p := ⟨W.heap.size, 2, none⟩) hl1).trans t2; have k3 := (hS9.cell (p := ⟨W.heap.size, 3, none⟩) hl1).trans t3; clear hS9; (go_simp; try (with_reducible rfl))))); simp only [Act.put, List.setIfInBounds_toArray, List.set_cons_zero, List.set_cons_succ, Nat.reduceAdd]
  refine walk_pure (v := .bool (c1 || c2)) (fun _ => trivial) (fun _ => rfl) ?_ ?_; (focus (as_aux_lemma => (intro us w9 hS9 hF; clear hF hS9; cases c1 <;> go_simp))); simp only [Act.put, List.setIfInBounds_toArray, List.set_cons_zero, List.set_cons_succ, Nat.reduceAdd]
  generalize hp2 : (c1 || c2) = p2
  have Hp2 := Lib.hid hp2
  clear hp2
  refine walk_pure (v := .bool p2) (fun _ => trivial) (fun _ => rfl) ?_ ?_; (focus (as_aux_lemma => (intro us w9 hS9 hF; clear hF; have k0 := (hS9.cell (p := ⟨W.heap.size, 0, none⟩) hl1).trans t0; have k1 := (hS9.cell (p := ⟨W.heap.size, 1, none⟩) hl1).trans t1; have k2 := (hS9.cell (p := ⟨W.heap.size, 2, none⟩) hl1).trans t2; have k3 := (hS9.cell (p := ⟨W.heap.size, 3, none⟩) hl1).trans t3; clear hS9; go_simp; try (with_reducible rfl)))); simp only [Act.put, List.setIfInBounds_toArray, List.set_cons_zero, List.set_cons_succ, Nat.reduceAdd]
  refine walk_if (fun _ => trivial) (!p2) (v := .pointer (some ⟨W.heap.size, 0, none⟩)) (fun _ => by as_aux_lemma => (cases p2 <;> rfl)) ?_ ?_; (focus (as_aux_lemma => (intro hg us w9 hS9 hF; clear hF; have k0 := (hS9.cell (p := ⟨W.heap.size, 0, none⟩) hl1).trans t0; have k1 := (hS9.cell (p := ⟨W.heap.size, 1, none⟩) hl1).trans t1; have k2 := (hS9.cell (p := ⟨W.heap.size, 2, none⟩) hl1).trans t2; have k3 := (hS9.cell (p := ⟨W.heap.size, 3, none⟩) hl1).trans t3; clear hS9; (go_simp; try (with_reducible rfl))))); simp only [Act.put, List.setIfInBounds_toArray, List.set_cons_zero, List.set_cons_succ, Nat.reduceAdd]
  refine walk_if (fun _ => trivial) (!p2) (v := .int .i64 b) (fun _ => by as_aux_lemma => (cases p2 <;> rfl)) ?_ ?_; (focus (as_aux_lemma => (intro hg us w9 hS9 hF; clear hF; have k0 := (hS9.cell (p := ⟨W.heap.size, 0, none⟩) hl1).trans t0; have k1 := (hS9.cell (p := ⟨W.heap.size, 1, none⟩) hl1).trans t1; have k2 := (hS9.cell (p := ⟨W.heap.size, 2, none⟩) hl1).trans t2; have k3 := (hS9.cell (p := ⟨W.heap.size, 3, none⟩) hl1).trans t3; clear hS9; (go_simp; try (with_reducible rfl))))); simp only [Act.put, List.setIfInBounds_toArray, List.set_cons_zero, List.set_cons_succ, Nat.reduceAdd]
  refine walk_if_call (fun _ => trivial) (!p2) (.bool c3) (fun _ => by as_aux_lemma => (cases p2 <;> rfl)) ?_ ?_; (focus (as_aux_lemma => (intro hg us w9 hS9 hF K hK; clear hF; obtain rfl : p2 = false := (by simpa using hg); clear hg; simp only [Bool.not_false, cond_true, Bool.cond_not] at hK; go_simp; refine (paged b w9).mono ?_; rintro e w' ⟨rfl, rfl⟩; rw [d3]; exact hK _ hS9 trivial))); simp only [Act.put, List.setIfInBounds_toArray, List.set_cons_zero, List.set_cons_succ, Nat.reduceAdd]
  refine walk_if (fun _ => trivial) (!p2) (v := .bool (!c3)) (fun _ => by as_aux_lemma => (cases p2 <;> rfl)) ?_ ?_; (focus (as_aux_lemma => (intro hg us w9 hS9 hF; clear hF; have k0 := (hS9.cell (p := ⟨W.heap.size, 0, none⟩) hl1).trans t0; have k1 := (hS9.cell (p := ⟨W.heap.size, 1, none⟩) hl1).trans t1; have k2 := (hS9.cell (p := ⟨W.heap.size, 2, none⟩) hl1).trans t2; have k3 := (hS9.cell (p := ⟨W.heap.size, 3, none⟩) hl1).trans t3; clear hS9; (go_simp; try (with_reducible rfl))))); simp only [Act.put, List.setIfInBounds_toArray, List.set_cons_zero, List.set_cons_succ, Nat.reduceAdd]
  refine walk_pure (v := .bool (p2 || !c3)) (fun _ => trivial) (fun _ => rfl) ?_ ?_; (focus (as_aux_lemma => (intro us w9 hS9 hF; clear hF hS9; cases p2 <;> go_simp))); simp only [Act.put, List.setIfInBounds_toArray, List.set_cons_zero, List.set_cons_succ, Nat.reduceAdd]
  generalize hp3 : (p2 || !c3) = p3
  have Hp3 := Lib.hid hp3
  clear hp3
  refine walk_pure (v := .bool p3) (fun _ => trivial) (fun _ => rfl) ?_ ?_; (focus (as_aux_lemma => (intro us w9 hS9 hF; clear hF; have k0 := (hS9.cell (p := ⟨W.heap.size, 0, none⟩) hl1).trans t0; have k1 := (hS9.cell (p := ⟨W.heap.size, 1, none⟩) hl1).trans t1; have k2 := (hS9.cell (p := ⟨W.heap.size, 2, none⟩) hl1).trans t2; have k3 := (hS9.cell (p := ⟨W.heap.size, 3, none⟩) hl1).trans t3; clear hS9; go_simp; try (with_reducible rfl)))); simp only [Act.put, List.setIfInBounds_toArray, List.set_cons_zero, List.set_cons_succ, Nat.reduceAdd]
  refine walk_if (fun _ => trivial) (!p3) (v := .pointer (some ⟨W.heap.size, 3, none⟩)) (fun _ => by as_aux_lemma => (cases p3 <;> rfl)) ?_ ?_; (focus (as_aux_lemma => (intro hg us w9 hS9 hF; clear hF; have k0 := (hS9.cell (p := ⟨W.heap.size, 0, none⟩) hl1).trans t0; have k1 := (hS9.cell (p := ⟨W.heap.size, 1, none⟩) hl1).trans t1; have k2 := (hS9.cell (p := ⟨W.heap.size, 2, none⟩) hl1).trans t2; have k3 := (hS9.cell (p := ⟨W.heap.size, 3, none⟩) hl1).trans t3; clear hS9; (go_simp; try (with_reducible rfl))))); simp only [Act.put, List.setIfInBounds_toArray, List.set_cons_zero, List.set_cons_succ, Nat.reduceAdd]
  refine walk_if (fun _ => trivial) (!p3) (v := .slice A n c) (fun _ => by as_aux_lemma => (cases p3 <;> rfl)) ?_ ?_; (focus (as_aux_lemma => (intro hg us w9 hS9 hF; clear hF; have k0 := (hS9.cell (p := ⟨W.heap.size, 0, none⟩) hl1).trans t0; have k1 := (hS9.cell (p := ⟨W.heap.size, 1, none⟩) hl1).trans t1; have k2 := (hS9.cell (p := ⟨W.heap.size, 2, none⟩) hl1).trans t2; have k3 := (hS9.cell (p := ⟨W.heap.size, 3, none⟩) hl1).trans t3; clear hS9; (go_simp; try (with_reducible rfl))))); simp only [Act.put, List.setIfInBounds_toArray, List.set_cons_zero, List.set_cons_succ, Nat.reduceAdd]
  refine walk_if (fun _ => trivial) (!p3) (v := .int .i64 (n : Int)) (fun _ => by as_aux_lemma => (cases p3 <;> rfl)) ?_ ?_; (focus (as_aux_lemma => (intro hg us w9 hS9 hF; clear hF; have k0 := (hS9.cell (p := ⟨W.heap.size, 0, none⟩) hl1).trans t0; have k1 := (hS9.cell (p := ⟨W.heap.size, 1, none⟩) hl1).trans t1; have k2 := (hS9.cell (p := ⟨W.heap.size, 2, none⟩) hl1).trans t2; have k3 := (hS9.cell (p := ⟨W.heap.size, 3, none⟩) hl1).trans t3; clear hS9; (go_simp; try (with_reducible rfl))))); simp only [Act.put, List.setIfInBounds_toArray, List.set_cons_zero, List.set_cons_succ, Nat.reduceAdd]
  refine walk_if (fun _ => trivial) (!p3) (v := .bool c4) (fun _ => by as_aux_lemma => (cases p3 <;> rfl)) ?_ ?_; (focus (as_aux_lemma => (intro hg us w9 hS9 hF; clear hF; have k0 := (hS9.cell (p := ⟨W.heap.size, 0, none⟩) hl1).trans t0; have k1 := (hS9.cell (p := ⟨W.heap.size, 1, none⟩) hl1).trans t1; have k2 := (hS9.cell (p := ⟨W.heap.size, 2, none⟩) hl1).trans t2; have k3 := (hS9.cell (p := ⟨W.heap.size, 3, none⟩) hl1).trans t3; clear hS9; (go_simp; try (with_reducible rfl))))); simp only [Act.put, List.setIfInBounds_toArray, List.set_cons_zero, List.set_cons_succ, Nat.reduceAdd]
  refine walk_pure (v := .bool (p3 || c4)) (fun _ => trivial) (fun _ => rfl) ?_ ?_; (focus (as_aux_lemma => (intro us w9 hS9 hF; clear hF hS9; cases p3 <;> go_simp))); simp only [Act.put, List.setIfInBounds_toArray, List.set_cons_zero, List.set_cons_succ, Nat.reduceAdd]
  generalize hp4 : (p3 || c4) = p4
  have Hp4 := Lib.hid hp4
  clear hp4
  refine walk_done fun us w5 hS9 hF => ?_
  have hz : p4 = !(decide (0 ≤ lv ∧ lv < L) && aligned b && decide (0 < n)) := by
    rw [← Hp4.out, ← Hp3.out, ← Hp2.out, ← d1, ← d2, ← d3, ← d4]
    have e1 : decide (0 ≤ lv ∧ lv < L) = (!decide (lv < 0) && !decide (L ≤ lv)) := by rw [Bool.eq_iff_iff]; simp
    have e2 : decide (0 < n) = !((n : Int) == 0) := by rw [Bool.eq_iff_iff]; simp; omega
    rw [e1, e2]
    simp only [Bool.not_and, Bool.not_not]
  have hB5 := hB.trans (hS9.mono hB.size)
  have r5 := r1.below hS9 hl1
  clear hF t0 t1 t2 t3 d1 d2 d3 d4 r1 hB hS9
  cases p4
  · have hz1 : (decide (0 ≤ lv ∧ lv < L) && aligned b && decide (0 < n)) = true := by simpa only [Bool.not_eq_false'] using hz.symm
    rw [Bool.and_eq_true, Bool.and_eq_true] at hz1
    obtain ⟨⟨z1, z2⟩, z3⟩ := hz1
    have y1 := of_decide_eq_true z1
    have y3 := of_decide_eq_true z3
    obtain ⟨y0, y1⟩ := y1
    rcases hlim with ⟨_, hl0⟩ | ⟨hok, hbits⟩
    · omega
    have H0 : Hid (vT b w lv ms = vMs lv B (-1) ms) := Lib.hid (by rw [HT.out, hok, z1, z2, z3]; rfl)
    have t0 := r5.cell 0
    have t1 := r5.cell 1
    have t2 := r5.cell 2
    have t3 := r5.cell 3
    simp at t0 t1 t2 t3
    clear hz z1 z2 z3 hok hL hBB
    have HBIT := Lib.hid hbit
    clear hbit
    go_upto_region 5 with (fail)
    clear t0 t1 t2 t3
    go_loopw [3, 4] (fun lastv i wr => ∃ (k : Nat) (last : Int), k ≤ n ∧ i = .int .i64 k ∧ lastv = .int .i64 last ∧ Hid (vMs lv B (-1) ms = vMs lv B last (ms.drop k)) ∧ Row wr W.heap.size 43 #[.int .i64 b, .int .i64 w, .int .i64 lv, .slice A n c] ∧ Below W.heap.size W wr) (fun _ i _ => n - (intOf i).toNat)
    case atStart => exact ⟨0, -1, by omega, rfl, rfl, Lib.hid rfl, r5, hB5⟩
    case round =>
      clear r5 hB5
      obtain ⟨k, last, hk, rfl, rfl, HV, hr, hB⟩ := hrel
      have u0 := hr.cell 0
      have u1 := hr.cell 1
      have u2 := hr.cell 2
      have u3 := hr.cell 3
      simp at u0 u1 u2 u3
      rcases Nat.lt_or_ge k n with hkn | hkn
      · have hd : decide (k < n) = true := by simp; omega
        obtain ⟨b0, o, m, rfl, hdr, hm⟩ := (hA.below hB).at_ k hkn
        have HV : Hid (vMs lv B (-1) ms = (vM lv B last m && vMs lv B m.ix (ms.drop (k + 1)))) := Lib.hid (by rw [HV.out, hdr]; rfl)
        clear hdr
        obtain ⟨m0, m1, m2, m3, m4, m5⟩ := hm
        obtain ⟨ix, bs, rt, co, op, pt⟩ := m
        dsimp only at m0 m1 m2 m3 m4 m5
        go_upto_region 8 with (fail)
        have r9 := Row.born wr 60 #[.int .i64 ix, .int .i64 bs, .int .i64 rt, .int .i64 co, .int .i64 op, .int .i64 pt]
        have hr2 := hr.alloc (.cells #[.int .i64 ix, .int .i64 bs, .int .i64 rt, .int .i64 co, .int .i64 op, .int .i64 pt] 60)
        have hB2 := hB.alloc hB.size (.cells #[.int .i64 ix, .int .i64 bs, .int .i64 rt, .int .i64 co, .int .i64 op, .int .i64 pt] 60)
        generalize wr.alloc (.cells #[.int .i64 ix, .int .i64 bs, .int .i64 rt, .int .i64 co, .int .i64 op, .int .i64 pt] 60) = w2 at *
        generalize wr.heap.size = g9 at *
        clear m0 m1 m2 m3 m4 m5 hr hB hd u0 u1 u2 u3
        have hl9 := r9.lt
        have hl1 := hr2.lt
        have e0 := r9.cell 0
        have e1 := r9.cell 1
        have e2 := r9.cell 2
        have e3 := r9.cell 3
        have e4 := r9.cell 4
        have e5 := r9.cell 5
        have t0 := hr2.cell 0
        have t1 := hr2.cell 1
        have t2 := hr2.cell 2
        have t3 := hr2.cell 3
        simp at e0 e1 e2 e3 e4 e5 t0 t1 t2 t3
        obtain ⟨c1, d1⟩ : ∃ c, decide (ix ≤ last) = c := ⟨_, rfl⟩
        obtain ⟨c2, d2⟩ : ∃ c, decide (B ≤ ix) = c := ⟨_, rfl⟩
        obtain ⟨c3, d3⟩ : ∃ c, vId co op pt = c := ⟨_, rfl⟩
        obtain ⟨c4, d4⟩ : ∃ c, aligned bs = c := ⟨_, rfl⟩
        have hbit := HBIT.out
        refine wp_region_told (n := 87) (fun w' => Below w2.heap.size w2 w') (fun _ _ => True) (by kernel_rfl) (by kernel_rfl) (by rfl) (Below.refl _ _).drew ?_
        refine walk_pure (v := .pointer (some ⟨g9, 0, none⟩)) (fun _ => trivial) (fun _ => rfl) ?_ ?_; (focus (as_aux_lemma => (intro us w9 hS9 hF; clear hF; have a0 := (hS9.cell (p := ⟨g9, 0, none⟩) hl9).trans e0; have a1 := (hS9.cell (p := ⟨g9, 1, none⟩) hl9).trans e1; have a2 := (hS9.cell (p := ⟨g9, 2, none⟩) hl9).trans e2; have a3 := (hS9.cell (p := ⟨g9, 3, none⟩) hl9).trans e3; have a4 := (hS9.cell (p := ⟨g9, 4, none⟩) hl9).trans e4; have a5 := (hS9.cell (p := ⟨g9, 5, none⟩) hl9).trans e5; have k1 := (hS9.cell (p := ⟨W.heap.size, 1, none⟩) hl1).trans t1; have k2 := (hS9.cell (p := ⟨W.heap.size, 2, none⟩) hl1).trans t2; clear hS9; go_simp; try (with_reducible rfl)))); simp only [Act.put, List.setIfInBounds_toArray, List.set_cons_zero, List.set_cons_succ, Nat.reduceAdd]
        refine walk_pure (v := .int .i64 ix) (fun _ => trivial) (fun _ => rfl) ?_ ?_; (focus (as_aux_lemma => (intro us w9 hS9 hF; clear hF; have a0 := (hS9.cell (p := ⟨g9, 0, none⟩) hl9).trans e0; have a1 := (hS9.cell (p := ⟨g9, 1, none⟩) hl9).trans e1; have a2 := (hS9.cell (p := ⟨g9, 2, none⟩) hl9).trans e2; have a3 := (hS9.cell (p := ⟨g9, 3, none⟩) hl9).trans e3; have a4 := (hS9.cell (p := ⟨g9, 4, none⟩) hl9).trans e4; have a5 := (hS9.cell (p := ⟨g9, 5, none⟩) hl9).trans e5; have k1 := (hS9.cell (p := ⟨W.heap.size, 1, none⟩) hl1).trans t1; have k2 := (hS9.cell (p := ⟨W.heap.size, 2, none⟩) hl1).trans t2; clear hS9; go_simp; try (with_reducible rfl)))); simp only [Act.put, List.setIfInBounds_toArray, List.set_cons_zero, List.set_cons_succ, Nat.reduceAdd]
        refine walk_pure (v := .int .i64 last) (fun _ => trivial) (fun _ => rfl) ?_ ?_; (focus (as_aux_lemma => (intro us w9 hS9 hF; clear hF; have a0 := (hS9.cell (p := ⟨g9, 0, none⟩) hl9).trans e0; have a1 := (hS9.cell (p := ⟨g9, 1, none⟩) hl9).trans e1; have a2 := (hS9.cell (p := ⟨g9, 2, none⟩) hl9).trans e2; have a3 := (hS9.cell (p := ⟨g9, 3, none⟩) hl9).trans e3; have a4 := (hS9.cell (p := ⟨g9, 4, none⟩) hl9).trans e4; have a5 := (hS9.cell (p := ⟨g9, 5, none⟩) hl9).trans e5; have k1 := (hS9.cell (p := ⟨W.heap.size, 1, none⟩) hl1).trans t1; have k2 := (hS9.cell (p := ⟨W.heap.size, 2, none⟩) hl1).trans t2; clear hS9; go_simp; try (with_reducible rfl)))); simp only [Act.put, List.setIfInBounds_toArray, List.set_cons_zero, List.set_cons_succ, Nat.reduceAdd]
        refine walk_pure (v := .bool c1) (fun _ => trivial) (fun _ => rfl) ?_ ?_; (focus (as_aux_lemma => (intro us w9 hS9 hF; clear hF; have a0 := (hS9.cell (p := ⟨g9, 0, none⟩) hl9).trans e0; have a1 := (hS9.cell (p := ⟨g9, 1, none⟩) hl9).trans e1; have a2 := (hS9.cell (p := ⟨g9, 2, none⟩) hl9).trans e2; have a3 := (hS9.cell (p := ⟨g9, 3, none⟩) hl9).trans e3; have a4 := (hS9.cell (p := ⟨g9, 4, none⟩) hl9).trans e4; have a5 := (hS9.cell (p := ⟨g9, 5, none⟩) hl9).trans e5; have k1 := (hS9.cell (p := ⟨W.heap.size, 1, none⟩) hl1).trans t1; have k2 := (hS9.cell (p := ⟨W.heap.size, 2, none⟩) hl1).trans t2; clear hS9; go_simp; try (with_reducible rfl)))); simp only [Act.put, List.setIfInBounds_toArray, List.set_cons_zero, List.set_cons_succ, Nat.reduceAdd]
        refine walk_pure (v := .bool c1) (fun _ => trivial) (fun _ => rfl) ?_ ?_; (focus (as_aux_lemma => (intro us w9 hS9 hF; clear hF; have a0 := (hS9.cell (p := ⟨g9, 0, none⟩) hl9).trans e0; have a1 := (hS9.cell (p := ⟨g9, 1, none⟩) hl9).trans e1; have a2 := (hS9.cell (p := ⟨g9, 2, none⟩) hl9).trans e2; have a3 := (hS9.cell (p := ⟨g9, 3, none⟩) hl9).trans e3; have a4 := (hS9.cell (p := ⟨g9, 4, none⟩) hl9).trans e4; have a5 := (hS9.cell (p := ⟨g9, 5, none⟩) hl9).trans e5; have k1 := (hS9.cell (p := ⟨W.heap.size, 1, none⟩) hl1).trans t1; have k2 := (hS9.cell (p := ⟨W.heap.size, 2, none⟩) hl1).trans t2; clear hS9; go_simp; try (with_reducible rfl)))); simp only [Act.put, List.setIfInBounds_toArray, List.set_cons_zero, List.set_cons_succ, Nat.reduceAdd]
        refine walk_if (fun _ => trivial) (!c1) (v := .pointer (some ⟨g9, 0, none⟩)) (fun _ => by as_aux_lemma => (cases c1 <;> rfl)) ?_ ?_; (focus (as_aux_lemma => (intro hg us w9 hS9 hF; clear hF; have a0 := (hS9.cell (p := ⟨g9, 0, none⟩) hl9).trans e0; have a1 := (hS9.cell (p := ⟨g9, 1, none⟩) hl9).trans e1; have a2 := (hS9.cell (p := ⟨g9, 2, none⟩) hl9).trans e2; have a3 := (hS9.cell (p := ⟨g9, 3, none⟩) hl9).trans e3; have a4 := (hS9.cell (p := ⟨g9, 4, none⟩) hl9).trans e4; have a5 := (hS9.cell (p := ⟨g9, 5, none⟩) hl9).trans e5; have k1 := (hS9.cell (p := ⟨W.heap.size, 1, none⟩) hl1).trans t1; have k2 := (hS9.cell (p := ⟨W.heap.size, 2, none⟩) hl1).trans t2; clear hS9; (go_simp; try (with_reducible rfl))))); simp only [Act.put, List.setIfInBounds_toArray, List.set_cons_zero, List.set_cons_succ, Nat.reduceAdd]
        refine walk_if (fun _ => trivial) (!c1) (v := .int .i64 ix) (fun _ => by as_aux_lemma => (cases c1 <;> rfl)) ?_ ?_; (focus (as_aux_lemma => (intro hg us w9 hS9 hF; clear hF; have a0 := (hS9.cell (p := ⟨g9, 0, none⟩) hl9).trans e0; have a1 := (hS9.cell (p := ⟨g9, 1, none⟩) hl9).trans e1; have a2 := (hS9.cell (p := ⟨g9, 2, none⟩) hl9).trans e2; have a3 := (hS9.cell (p := ⟨g9, 3, none⟩) hl9).trans e3; have a4 := (hS9.cell (p := ⟨g9, 4, none⟩) hl9).trans e4; have a5 := (hS9.cell (p := ⟨g9, 5, none⟩) hl9).trans e5; have k1 := (hS9.cell (p := ⟨W.heap.size, 1, none⟩) hl1).trans t1; have k2 := (hS9.cell (p := ⟨W.heap.size, 2, none⟩) hl1).trans t2; clear hS9; (go_simp; try (with_reducible rfl))))); simp only [Act.put, List.setIfInBounds_toArray, List.set_cons_zero, List.set_cons_succ, Nat.reduceAdd]
        refine walk_if (fun _ => trivial) (!c1) (v := .pointer (some ⟨W.heap.size, 1, none⟩)) (fun _ => by as_aux_lemma => (cases c1 <;> rfl)) ?_ ?_; (focus (as_aux_lemma => (intro hg us w9 hS9 hF; clear hF; have a0 := (hS9.cell (p := ⟨g9, 0, none⟩) hl9).trans e0; have a1 := (hS9.cell (p := ⟨g9, 1, none⟩) hl9).trans e1; have a2 := (hS9.cell (p := ⟨g9, 2, none⟩) hl9).trans e2; have a3 := (hS9.cell (p := ⟨g9, 3, none⟩) hl9).trans e3; have a4 := (hS9.cell (p := ⟨g9, 4, none⟩) hl9).trans e4; have a5 := (hS9.cell (p := ⟨g9, 5, none⟩) hl9).trans e5; have k1 := (hS9.cell (p := ⟨W.heap.size, 1, none⟩) hl1).trans t1; have k2 := (hS9.cell (p := ⟨W.heap.size, 2, none⟩) hl1).trans t2; clear hS9; (go_simp; try (with_reducible rfl))))); simp only [Act.put, List.setIfInBounds_toArray, List.set_cons_zero, List.set_cons_succ, Nat.reduceAdd]
        refine walk_if (fun _ => trivial) (!c1) (v := .int .i64 w) (fun _ => by as_aux_lemma => (cases c1 <;> rfl)) ?_ ?_; (focus (as_aux_lemma => (intro hg us w9 hS9 hF; clear hF; have a0 := (hS9.cell (p := ⟨g9, 0, none⟩) hl9).trans e0; have a1 := (hS9.cell (p := ⟨g9, 1, none⟩) hl9).trans e1; have a2 := (hS9.cell (p := ⟨g9, 2, none⟩) hl9).trans e2; have a3 := (hS9.cell (p := ⟨g9, 3, none⟩) hl9).trans e3; have a4 := (hS9.cell (p := ⟨g9, 4, none⟩) hl9).trans e4; have a5 := (hS9.cell (p := ⟨g9, 5, none⟩) hl9).trans e5; have k1 := (hS9.cell (p := ⟨W.heap.size, 1, none⟩) hl1).trans t1; have k2 := (hS9.cell (p := ⟨W.heap.size, 2, none⟩) hl1).trans t2; clear hS9; (go_simp; try (with_reducible rfl))))); simp only [Act.put, List.setIfInBounds_toArray, List.set_cons_zero, List.set_cons_succ, Nat.reduceAdd]
        refine walk_if_call (fun _ => trivial) (!c1) (.int .i64 bits) (fun _ => by as_aux_lemma => (cases c1 <;> rfl)) ?_ ?_; (focus (as_aux_lemma => (intro hg us w9 hS9 hF K hK; clear hF; obtain rfl : c1 = false := (by simpa using hg); clear hg; simp only [Bool.not_false, cond_true, Bool.cond_not] at hK; go_simp; refine (ibits w w9).mono ?_; rintro e w' ⟨rfl, rfl⟩; rw [hbit]; exact hK _ hS9 trivial))); simp only [Act.put, List.setIfInBounds_toArray, List.set_cons_zero, List.set_cons_succ, Nat.reduceAdd]
        refine walk_if (fun _ => trivial) (!c1) (v := .int .u64 bits) (fun _ => by as_aux_lemma => (cases c1 <;> rfl)) ?_ ?_; (focus (as_aux_lemma => (intro hg us w9 hS9 hF; clear hF; have a0 := (hS9.cell (p := ⟨g9, 0, none⟩) hl9).trans e0; have a1 := (hS9.cell (p := ⟨g9, 1, none⟩) hl9).trans e1; have a2 := (hS9.cell (p := ⟨g9, 2, none⟩) hl9).trans e2; have a3 := (hS9.cell (p := ⟨g9, 3, none⟩) hl9).trans e3; have a4 := (hS9.cell (p := ⟨g9, 4, none⟩) hl9).trans e4; have a5 := (hS9.cell (p := ⟨g9, 5, none⟩) hl9).trans e5; have k1 := (hS9.cell (p := ⟨W.heap.size, 1, none⟩) hl1).trans t1; have k2 := (hS9.cell (p := ⟨W.heap.size, 2, none⟩) hl1).trans t2; clear hS9; have l8 : IntKind.u64.wrap 10 = 10 := rfl; have l9 : IntKind.u64.wrap 9 = 9 := rfl; rcases hbits with ⟨rfl, rfl⟩ | ⟨rfl, rfl⟩ <;> (go_simp; try (with_reducible rfl))))); simp only [Act.put, List.setIfInBounds_toArray, List.set_cons_zero, List.set_cons_succ, Nat.reduceAdd]
        refine walk_if (fun _ => trivial) (!c1) (v := .int .i64 B) (fun _ => by as_aux_lemma => (cases c1 <;> rfl)) ?_ ?_; (focus (as_aux_lemma => (intro hg us w9 hS9 hF; clear hF; have a0 := (hS9.cell (p := ⟨g9, 0, none⟩) hl9).trans e0; have a1 := (hS9.cell (p := ⟨g9, 1, none⟩) hl9).trans e1; have a2 := (hS9.cell (p := ⟨g9, 2, none⟩) hl9).trans e2; have a3 := (hS9.cell (p := ⟨g9, 3, none⟩) hl9).trans e3; have a4 := (hS9.cell (p := ⟨g9, 4, none⟩) hl9).trans e4; have a5 := (hS9.cell (p := ⟨g9, 5, none⟩) hl9).trans e5; have k1 := (hS9.cell (p := ⟨W.heap.size, 1, none⟩) hl1).trans t1; have k2 := (hS9.cell (p := ⟨W.heap.size, 2, none⟩) hl1).trans t2; clear hS9; have l6 : IntKind.i64.wrap 1024 = 1024 := rfl; have l7 : IntKind.i64.wrap 512 = 512 := rfl; have l8 : IntKind.u64.wrap 10 = 10 := rfl; have l9 : IntKind.u64.wrap 9 = 9 := rfl; rcases hbits with ⟨rfl, rfl⟩ | ⟨rfl, rfl⟩ <;> (go_simp; try (with_reducible rfl))))); simp only [Act.put, List.setIfInBounds_toArray, List.set_cons_zero, List.set_cons_succ, Nat.reduceAdd]
        refine walk_if (fun _ => trivial) (!c1) (v := .bool c2) (fun _ => by as_aux_lemma => (cases c1 <;> rfl)) ?_ ?_; (focus (as_aux_lemma => (intro hg us w9 hS9 hF; clear hF; have a0 := (hS9.cell (p := ⟨g9, 0, none⟩) hl9).trans e0; have a1 := (hS9.cell (p := ⟨g9, 1, none⟩) hl9).trans e1; have a2 := (hS9.cell (p := ⟨g9, 2, none⟩) hl9).trans e2; have a3 := (hS9.cell (p := ⟨g9, 3, none⟩) hl9).trans e3; have a4 := (hS9.cell (p := ⟨g9, 4, none⟩) hl9).trans e4; have a5 := (hS9.cell (p := ⟨g9, 5, none⟩) hl9).trans e5; have k1 := (hS9.cell (p := ⟨W.heap.size, 1, none⟩) hl1).trans t1; have k2 := (hS9.cell (p := ⟨W.heap.size, 2, none⟩) hl1).trans t2; clear hS9; (go_simp; try (with_reducible rfl))))); simp only [Act.put, List.setIfInBounds_toArray, List.set_cons_zero, List.set_cons_succ, Nat.reduceAdd]
        refine walk_pure (v := .bool (c1 || c2)) (fun _ => trivial) (fun _ => rfl) ?_ ?_; (focus (as_aux_lemma => (intro us w9 hS9 hF; clear hF hS9; cases c1 <;> go_simp))); simp only [Act.put, List.setIfInBounds_toArray, List.set_cons_zero, List.set_cons_succ, Nat.reduceAdd]
        generalize hp2 : (c1 || c2) = p2
        have Hp2 := Lib.hid hp2
        clear hp2
        refine walk_pure (v := .bool p2) (fun _ => trivial) (fun _ => rfl) ?_ ?_; (focus (as_aux_lemma => (intro us w9 hS9 hF; clear hF; have a0 := (hS9.cell (p := ⟨g9, 0, none⟩) hl9).trans e0; have a1 := (hS9.cell (p := ⟨g9, 1, none⟩) hl9).trans e1; have a2 := (hS9.cell (p := ⟨g9, 2, none⟩) hl9).trans e2; have a3 := (hS9.cell (p := ⟨g9, 3, none⟩) hl9).trans e3; have a4 := (hS9.cell (p := ⟨g9, 4, none⟩) hl9).trans e4; have a5 := (hS9.cell (p := ⟨g9, 5, none⟩) hl9).trans e5; have k1 := (hS9.cell (p := ⟨W.heap.size, 1, none⟩) hl1).trans t1; have k2 := (hS9.cell (p := ⟨W.heap.size, 2, none⟩) hl1).trans t2; clear hS9; go_simp; try (with_reducible rfl)))); simp only [Act.put, List.setIfInBounds_toArray, List.set_cons_zero, List.set_cons_succ, Nat.reduceAdd]
        refine walk_if (fun _ => trivial) (!p2) (v := .pointer (some ⟨g9, 3, none⟩)) (fun _ => by as_aux_lemma => (cases p2 <;> rfl)) ?_ ?_; (focus (as_aux_lemma => (intro hg us w9 hS9 hF; clear hF; have a0 := (hS9.cell (p := ⟨g9, 0, none⟩) hl9).trans e0; have a1 := (hS9.cell (p := ⟨g9, 1, none⟩) hl9).trans e1; have a2 := (hS9.cell (p := ⟨g9, 2, none⟩) hl9).trans e2; have a3 := (hS9.cell (p := ⟨g9, 3, none⟩) hl9).trans e3; have a4 := (hS9.cell (p := ⟨g9, 4, none⟩) hl9).trans e4; have a5 := (hS9.cell (p := ⟨g9, 5, none⟩) hl9).trans e5; have k1 := (hS9.cell (p := ⟨W.heap.size, 1, none⟩) hl1).trans t1; have k2 := (hS9.cell (p := ⟨W.heap.size, 2, none⟩) hl1).trans t2; clear hS9; (go_simp; try (with_reducible rfl))))); simp only [Act.put, List.setIfInBounds_toArray, List.set_cons_zero, List.set_cons_succ, Nat.reduceAdd]
        refine walk_if (fun _ => trivial) (!p2) (v := .agg #[.int .i64 co, .int .i64 op, .int .i64 pt]) (fun _ => by as_aux_lemma => (cases p2 <;> rfl)) ?_ ?_; (focus (as_aux_lemma => (intro hg us w9 hS9 hF; clear hF; have a0 := (hS9.cell (p := ⟨g9, 0, none⟩) hl9).trans e0; have a1 := (hS9.cell (p := ⟨g9, 1, none⟩) hl9).trans e1; have a2 := (hS9.cell (p := ⟨g9, 2, none⟩) hl9).trans e2; have a3 := (hS9.cell (p := ⟨g9, 3, none⟩) hl9).trans e3; have a4 := (hS9.cell (p := ⟨g9, 4, none⟩) hl9).trans e4; have a5 := (hS9.cell (p := ⟨g9, 5, none⟩) hl9).trans e5; have k1 := (hS9.cell (p := ⟨W.heap.size, 1, none⟩) hl1).trans t1; have k2 := (hS9.cell (p := ⟨W.heap.size, 2, none⟩) hl1).trans t2; clear hS9; (go_simp; try (with_reducible rfl))))); simp only [Act.put, List.setIfInBounds_toArray, List.set_cons_zero, List.set_cons_succ, Nat.reduceAdd]
        refine walk_if_call (fun _ => trivial) (!p2) (.bool c3) (fun _ => by as_aux_lemma => (cases p2 <;> rfl)) ?_ ?_; (focus (as_aux_lemma => (intro hg us w9 hS9 hF K hK; clear hF; obtain rfl : p2 = false := (by simpa using hg); clear hg; simp only [Bool.not_false, cond_true, Bool.cond_not] at hK; go_simp; refine (valid_id_ref co op pt w9).mono ?_; rintro e w' ⟨rfl, hb⟩; rw [d3]; exact hK _ (hS9.trans (hb.mono hS9.size)) trivial))); simp only [Act.put, List.setIfInBounds_toArray, List.set_cons_zero, List.set_cons_succ, Nat.reduceAdd]
        refine walk_if (fun _ => trivial) (!p2) (v := .bool (!c3)) (fun _ => by as_aux_lemma => (cases p2 <;> rfl)) ?_ ?_; (focus (as_aux_lemma => (intro hg us w9 hS9 hF; clear hF; have a0 := (hS9.cell (p := ⟨g9, 0, none⟩) hl9).trans e0; have a1 := (hS9.cell (p := ⟨g9, 1, none⟩) hl9).trans e1; have a2 := (hS9.cell (p := ⟨g9, 2, none⟩) hl9).trans e2; have a3 := (hS9.cell (p := ⟨g9, 3, none⟩) hl9).trans e3; have a4 := (hS9.cell (p := ⟨g9, 4, none⟩) hl9).trans e4; have a5 := (hS9.cell (p := ⟨g9, 5, none⟩) hl9).trans e5; have k1 := (hS9.cell (p := ⟨W.heap.size, 1, none⟩) hl1).trans t1; have k2 := (hS9.cell (p := ⟨W.heap.size, 2, none⟩) hl1).trans t2; clear hS9; (go_simp; try (with_reducible rfl))))); simp only [Act.put, List.setIfInBounds_toArray, List.set_cons_zero, List.set_cons_succ, Nat.reduceAdd]
        refine walk_pure (v := .bool (p2 || !c3)) (fun _ => trivial) (fun _ => rfl) ?_ ?_; (focus (as_aux_lemma => (intro us w9 hS9 hF; clear hF hS9; cases p2 <;> go_simp))); simp only [Act.put, List.setIfInBounds_toArray, List.set_cons_zero, List.set_cons_succ, Nat.reduceAdd]
        generalize hp3 : (p2 || !c3) = p3
        have Hp3 := Lib.hid hp3
        clear hp3
        refine walk_pure (v := .bool p3) (fun _ => trivial) (fun _ => rfl) ?_ ?_; (focus (as_aux_lemma => (intro us w9 hS9 hF; clear hF; have a0 := (hS9.cell (p := ⟨g9, 0, none⟩) hl9).trans e0; have a1 := (hS9.cell (p := ⟨g9, 1, none⟩) hl9).trans e1; have a2 := (hS9.cell (p := ⟨g9, 2, none⟩) hl9).trans e2; have a3 := (hS9.cell (p := ⟨g9, 3, none⟩) hl9).trans e3; have a4 := (hS9.cell (p := ⟨g9, 4, none⟩) hl9).trans e4; have a5 := (hS9.cell (p := ⟨g9, 5, none⟩) hl9).trans e5; have k1 := (hS9.cell (p := ⟨W.heap.size, 1, none⟩) hl1).trans t1; have k2 := (hS9.cell (p := ⟨W.heap.size, 2, none⟩) hl1).trans t2; clear hS9; go_simp; try (with_reducible rfl)))); simp only [Act.put, List.setIfInBounds_toArray, List.set_cons_zero, List.set_cons_succ, Nat.reduceAdd]
        refine walk_if (fun _ => trivial) (!p3) (v := .pointer (some ⟨g9, 1, none⟩)) (fun _ => by as_aux_lemma => (cases p3 <;> rfl)) ?_ ?_; (focus (as_aux_lemma => (intro hg us w9 hS9 hF; clear hF; have a0 := (hS9.cell (p := ⟨g9, 0, none⟩) hl9).trans e0; have a1 := (hS9.cell (p := ⟨g9, 1, none⟩) hl9).trans e1; have a2 := (hS9.cell (p := ⟨g9, 2, none⟩) hl9).trans e2; have a3 := (hS9.cell (p := ⟨g9, 3, none⟩) hl9).trans e3; have a4 := (hS9.cell (p := ⟨g9, 4, none⟩) hl9).trans e4; have a5 := (hS9.cell (p := ⟨g9, 5, none⟩) hl9).trans e5; have k1 := (hS9.cell (p := ⟨W.heap.size, 1, none⟩) hl1).trans t1; have k2 := (hS9.cell (p := ⟨W.heap.size, 2, none⟩) hl1).trans t2; clear hS9; (go_simp; try (with_reducible rfl))))); simp only [Act.put, List.setIfInBounds_toArray, List.set_cons_zero, List.set_cons_succ, Nat.reduceAdd]
        refine walk_if (fun _ => trivial) (!p3) (v := .int .i64 bs) (fun _ => by as_aux_lemma => (cases p3 <;> rfl)) ?_ ?_; (focus (as_aux_lemma => (intro hg us w9 hS9 hF; clear hF; have a0 := (hS9.cell (p := ⟨g9, 0, none⟩) hl9).trans e0; have a1 := (hS9.cell (p := ⟨g9, 1, none⟩) hl9).trans e1; have a2 := (hS9.cell (p := ⟨g9, 2, none⟩) hl9).trans e2; have a3 := (hS9.cell (p := ⟨g9, 3, none⟩) hl9).trans e3; have a4 := (hS9.cell (p := ⟨g9, 4, none⟩) hl9).trans e4; have a5 := (hS9.cell (p := ⟨g9, 5, none⟩) hl9).trans e5; have k1 := (hS9.cell (p := ⟨W.heap.size, 1, none⟩) hl1).trans t1; have k2 := (hS9.cell (p := ⟨W.heap.size, 2, none⟩) hl1).trans t2; clear hS9; (go_simp; try (with_reducible rfl))))); simp only [Act.put, List.setIfInBounds_toArray, List.set_cons_zero, List.set_cons_succ, Nat.reduceAdd]
        refine walk_if_call (fun _ => trivial) (!p3) (.bool c4) (fun _ => by as_aux_lemma => (cases p3 <;> rfl)) ?_ ?_; (focus (as_aux_lemma => (intro hg us w9 hS9 hF K hK; clear hF; obtain rfl : p3 = false := (by simpa using hg); clear hg; simp only [Bool.not_false, cond_true, Bool.cond_not] at hK; go_simp; refine (paged bs w9).mono ?_; rintro e w' ⟨rfl, rfl⟩; rw [d4]; exact hK _ hS9 trivial))); simp only [Act.put, List.setIfInBounds_toArray, List.set_cons_zero, List.set_cons_succ, Nat.reduceAdd]
        refine walk_if (fun _ => trivial) (!p3) (v := .bool (!c4)) (fun _ => by as_aux_lemma => (cases p3 <;> rfl)) ?_ ?_; (focus (as_aux_lemma => (intro hg us w9 hS9 hF; clear hF; have a0 := (hS9.cell (p := ⟨g9, 0, none⟩) hl9).trans e0; have a1 := (hS9.cell (p := ⟨g9, 1, none⟩) hl9).trans e1; have a2 := (hS9.cell (p := ⟨g9, 2, none⟩) hl9).trans e2; have a3 := (hS9.cell (p := ⟨g9, 3, none⟩) hl9).trans e3; have a4 := (hS9.cell (p := ⟨g9, 4, none⟩) hl9).trans e4; have a5 := (hS9.cell (p := ⟨g9, 5, none⟩) hl9).trans e5; have k1 := (hS9.cell (p := ⟨W.heap.size, 1, none⟩) hl1).trans t1; have k2 := (hS9.cell (p := ⟨W.heap.size, 2, none⟩) hl1).trans t2; clear hS9; (go_simp; try (with_reducible rfl))))); simp only [Act.put, List.setIfInBounds_toArray, List.set_cons_zero, List.set_cons_succ, Nat.reduceAdd]
        refine walk_pure (v := .bool (p3 || !c4)) (fun _ => trivial) (fun _ => rfl) ?_ ?_; (focus (as_aux_lemma => (intro us w9 hS9 hF; clear hF hS9; cases p3 <;> go_simp))); simp only [Act.put, List.setIfInBounds_toArray, List.set_cons_zero, List.set_cons_succ, Nat.reduceAdd]
        generalize hp4 : (p3 || !c4) = p4
        have Hp4 := Lib.hid hp4
        clear hp4
        refine walk_done fun us w9 hS9 hF => ?_
        have hz : p4 = !(decide (last < ix ∧ ix < B) && vId co op pt && aligned bs) := by
          rw [← Hp4.out, ← Hp3.out, ← Hp2.out, ← d1, ← d2, ← d3, ← d4]
          have e1 : decide (last < ix ∧ ix < B) = (!decide (ix ≤ last) && !decide (B ≤ ix)) := by rw [Bool.eq_iff_iff]; simp
          rw [e1]
          simp only [Bool.not_and, Bool.not_not]
        have f0 := (hS9.cell (p := ⟨g9, 0, none⟩) hl9).trans e0
        have f2 := (hS9.cell (p := ⟨g9, 2, none⟩) hl9).trans e2
        have s2 := (hS9.cell (p := ⟨W.heap.size, 2, none⟩) hl1).trans t2
        have hrr := hr2.below hS9 hl1
        have hB9 := hB2.trans (hS9.mono hB2.size)
        clear hF e0 e1 e2 e3 e4 e5 t0 t1 t2 t3 d1 d2 d3 d4 hbit hB2 hr2
        cases p4
        · have hz1 : (decide (last < ix ∧ ix < B) && vId co op pt && aligned bs) = true := by simpa only [Bool.not_eq_false'] using hz.symm
          rw [Bool.and_eq_true, Bool.and_eq_true] at hz1
          obtain ⟨⟨z1, z2⟩, z3⟩ := hz1
          have HZ : Hid (vM lv B last ⟨ix, bs, rt, co, op, pt⟩ = (decide (0 ≤ rt ∧ rt ≤ 3) && decide (lv = 0 ∨ rt = 0))) := Lib.hid (by unfold vM; dsimp only; rw [z1, z2, z3]; rfl)
          clear hz z1 z2 z3
          rcases (by omega : rt < 0 ∨ 3 < rt ∨ (0 ≤ rt ∧ rt ≤ 3 ∧ 0 < lv ∧ 0 < rt) ∨ (0 ≤ rt ∧ rt ≤ 3 ∧ (lv = 0 ∨ rt = 0))) with i5 | i5 | ⟨i5, i6, i7, i8⟩ | ⟨i5, i6, i7⟩
          · have hd5 : decide (rt < 0) = true := by simp; omega
            go_wp2
            go_ret
            exact ⟨ret_bool (by rw [H0.out, HV.out, HZ.out, decide_eq_false (by omega : ¬ (0 ≤ rt ∧ rt ≤ 3))]; rfl), hB9⟩
          · have hd5 : decide (rt < 0) = false := by simp; omega
            have hd6 : decide (3 < rt) = true := by simp; omega
            go_wp2
            go_ret
            exact ⟨ret_bool (by rw [H0.out, HV.out, HZ.out, decide_eq_false (by omega : ¬ (0 ≤ rt ∧ rt ≤ 3))]; rfl), hB9⟩
          · have hd5 : decide (rt < 0) = false := by simp; omega
            have hd6 : decide (3 < rt) = false := by simp; omega
            have hd7 : decide (0 < lv) = true := by simp; omega
            have hd8 : (rt == 0) = false := by simp; omega
            go_wp2
            go_ret
            exact ⟨ret_bool (by rw [H0.out, HV.out, HZ.out, decide_eq_false (by omega : ¬ (lv = 0 ∨ rt = 0)), Bool.and_false]; rfl), hB9⟩
          · have HV2 : Hid (vMs lv B (-1) ms = vMs lv B ix (ms.drop (k + 1))) := Lib.hid (by rw [HV.out, HZ.out, decide_eq_true (by omega : 0 ≤ rt ∧ rt ≤ 3), decide_eq_true i7]; rfl)
            clear HV HZ
            have hd5 : decide (rt < 0) = false := by simp; omega
            have hd6 : decide (3 < rt) = false := by simp; omega
            rcases (by omega : lv = 0 ∨ 0 < lv ∧ rt = 0) with rfl | ⟨i9, rfl⟩
            · go_wp2
              exact ⟨⟨k + 1, ix, by omega, by go_num, rfl, HV2, hrr, hB9⟩, by simp [intOf]; omega⟩
            · have hd7 : decide (0 < lv) = true := by simp; omega
              go_wp2
              exact ⟨⟨k + 1, ix, by omega, by go_num, rfl, HV2, hrr, hB9⟩, by simp [intOf]; omega⟩
        · have hz1 : (decide (last < ix ∧ ix < B) && vId co op pt && aligned bs) = false := by simpa only [Bool.not_eq_true'] using hz.symm
          have HZ : Hid (vM lv B last ⟨ix, bs, rt, co, op, pt⟩ = false) := Lib.hid (by unfold vM; dsimp only; rw [hz1]; rfl)
          clear hz hz1
          go_wp2
          go_ret
          exact ⟨ret_bool (by rw [H0.out, HV.out, HZ.out]; rfl), hB9⟩
      · have hd : decide (k < n) = false := by simp; omega
        go_wp2
        go_ret
        exact ⟨ret_bool (by rw [H0.out, HV.out, List.drop_eq_nil_of_le (by have := HN.out; omega)]; rfl), hB⟩
  · have hz1 : (decide (0 ≤ lv ∧ lv < L) && aligned b && decide (0 < n)) = false := by simpa only [Bool.not_eq_true'] using hz.symm
    have H0 : Hid (vT b w lv ms = false) := Lib.hid (by rw [HT.out, Bool.and_assoc (okw w), Bool.and_assoc (okw w), hz1]; simp)
    clear hz hz1
    go_wp2
    go_ret
    exact ⟨ret_bool H0.out.symm, hB5⟩
end Go.Proofs.Ytonloimepfojdaa

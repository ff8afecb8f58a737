/- Page tables: the walk of PageTableExact. -/
import Derived.Test.YtonloimepfojdaaTab6
import Derived.Test.YtonloimepfojdaaLgeo
namespace Go.Proofs.Ytonloimepfojdaa
open Go.RowKit
set_option linter.unusedVariables false
section
variable {b w lv : Int} {A : Option Addr} {n c : Nat} {ms : List Mp} {W : World}
theorem pack_no (hA : IsMs W A n ms) (hn : n ≤ 1000) (hv : vT b w lv ms = false) : Calls Try.prog 25 #[.agg #[.int .i64 b, .int .i64 w, .int .i64 lv, .slice A n c]] W (fun e W' => e = .returned (.tuple #[.slice none 0 0, .int .i64 1]) ∧ Below W.heap.size W W') :=
  (pack b w lv A n c ms W hA hn).mono (by
    rintro e w' ⟨hb, ⟨h, rfl⟩ | ⟨h, _⟩⟩
    · exact ⟨rfl, hb⟩
    · rw [hv] at h; cases h)
theorem pack_ref_no (hA : IsMs W A n ms) (hn : n ≤ 1000) (hv : vT b w lv ms = false) : Calls Try.prog 27 #[.agg #[.int .i64 b, .int .i64 w, .int .i64 lv, .slice A n c]] W (fun e W' => e = .returned (.tuple #[.slice none 0 0, .int .i64 1]) ∧ Below W.heap.size W W') :=
  (pack_ref b w lv A n c ms W hA hn).mono (by
    rintro e w' ⟨hb, ⟨h, rfl⟩ | ⟨h, _⟩⟩
    · exact ⟨rfl, hb⟩
    · rw [hv] at h; cases h)
def PackYes (L : List UInt8) (W : World) (e : Ending) (W' : World) : Prop := ∃ g, W.heap.size ≤ g ∧ e = .returned (.tuple #[.slice (some ⟨g, 0, none⟩) 4096 4096, .int .i64 0]) ∧ Hid (L.length = 4096) ∧ Row W' g 5 (L.map bv).toArray ∧ Below W.heap.size W W'
theorem pack_yes {L : List UInt8} (hA : IsMs W A n ms) (hn : n ≤ 1000) (hv : vT b w lv ms = true) (hL : packL w lv (eb w).toNat (eb w).toNat (List.replicate 4096 0) ms = L) : Calls Try.prog 25 #[.agg #[.int .i64 b, .int .i64 w, .int .i64 lv, .slice A n c]] W (PackYes L W) :=
  (pack b w lv A n c ms W hA hn).mono (by
    rintro e w' ⟨hb, ⟨h, rfl⟩ | ⟨h, g, h1, rfl, h2, h3⟩⟩
    · rw [hv] at h; cases h
    · rw [hL] at h2 h3
      exact ⟨g, h1, rfl, Lib.hid h2, h3, hb⟩)
theorem pack_ref_yes {L : List UInt8} (hA : IsMs W A n ms) (hn : n ≤ 1000) (hv : vT b w lv ms = true) (hL : packL w lv (eb w).toNat (eb w).toNat (List.replicate 4096 0) ms = L) : Calls Try.prog 27 #[.agg #[.int .i64 b, .int .i64 w, .int .i64 lv, .slice A n c]] W (PackYes L W) :=
  (pack_ref b w lv A n c ms W hA hn).mono (by
    rintro e w' ⟨hb, ⟨h, rfl⟩ | ⟨h, g, h1, rfl, h2, h3⟩⟩
    · rw [hv] at h; cases h
    · rw [← pack_one hv, hL] at h2 h3
      exact ⟨g, h1, rfl, Lib.hid h2, h3, hb⟩)
end
section
variable {ev : Operand → Value} {x : Operand} {dst : Option Tmp} {typ : TypeId} {pos : String} {after : Array Edge} {gd : Option (Nat × Bool)} {w : World}
theorem exec_str {A : Option Addr} {n c : Nat} {bs : List UInt8} (h : IsB w A n bs) (hx : ev x = .slice A n c) : (execOp ev { dst := dst, op := .convert 44 9 x, type := typ, pos := pos, after := after, guard := gd }).run Try.prog w = .ok (.value (.string ⟨bs.toArray⟩)) w := by
  unfold execOp
  simp only [hx, Sem.run_bind, run_str (P := Try.prog) Try.underlying44 Try.underlying5 Try.underlying9 c h, Result.andThen_ok, Sem.run_pure]
theorem run_str_nil (hx : ev x = .slice none 0 0 := by rfl) : (execOp ev { dst := dst, op := .convert 44 9 x, type := typ, pos := pos, after := after, guard := gd }).run Try.prog w = .ok (.value (.string ⟨#[]⟩)) w := exec_str (IsB.nil w none) hx
theorem run_str_row {g : Nat} {L : List UInt8} (hr : Row w g 5 (L.map bv).toArray) (hl : Hid (L.length = 4096)) (hx : ev x = .slice (some ⟨g, 0, none⟩) 4096 4096 := by rfl) : (execOp ev { dst := dst, op := .convert 44 9 x, type := typ, pos := pos, after := after, guard := gd }).run Try.prog w = .ok (.value (.string ⟨L.toArray⟩)) w :=
  exec_str (by have h := IsB.of_row hr; rwa [hl.out] at h) hx
end
set_option maxRecDepth 20000 in
set_option maxHeartbeats 8000000 in
theorem walk_table (b w lv : Int) (A : Option Addr) (n c : Nat) (ms : List Mp) (W : World) (hA : IsMs W A n ms) : Calls Try.prog 7 #[.agg #[.int .i64 b, .int .i64 w, .int .i64 lv, .slice A n c]] W (True1 W) := by
  have hB := (Below.refl W.heap.size W).alloc (Nat.le_refl _) (.cells #[.int .i64 b, .int .i64 w, .int .i64 lv, .slice A n c] 43)
  have r1 := Row.born W 43 #[.int .i64 b, .int .i64 w, .int .i64 lv, .slice A n c]
  rcases Nat.lt_or_ge 100 n with h100 | h100
  · have hd : decide ((100 : Int) < (n : Int)) = true := by simp; omega
    go_enter Try.func7, Try.ntmps7
    go_wp2_with (go_at_call 18; refine (awake_ok _).mono ?_; rintro e w5 ⟨rfl, hb5⟩)
    go_ret
    exact ⟨rfl, hB.trans (hb5.mono hB.size)⟩
  have hn : n ≤ 1000 := by omega
  have hd : decide ((100 : Int) < (n : Int)) = false := by simp; omega
  go_enter Try.func7, Try.ntmps7
  go_upto_region 3 with (fail)
  generalize W.alloc (.cells #[.int .i64 b, .int .i64 w, .int .i64 lv, .slice A n c] 43) = w1 at *
  have hA1 := hA.below hB
  have hl1 := r1.lt
  have t0 := r1.cell 0
  have t1 := r1.cell 1
  have t2 := r1.cell 2
  have t3 := r1.cell 3
  simp at t0 t1 t2 t3
  clear hd
  obtain ⟨vt, hv⟩ : ∃ x, vT b w lv ms = x := ⟨_, rfl⟩
  cases vt
  · have HV := Lib.hid hv
    clear hv
    go_upto_region 4 with (first | (go_at_call 26; refine (copied b w lv A n c ms _ hA1 hn).mono ?_; rintro e w2 ⟨A2, c2, rfl, hA2, hb2⟩) | (go_at_call 25; refine (pack_no hA2 hn HV.out).mono ?_; rintro e w3 ⟨rfl, hb3⟩))
    have hb13 := hb2.trans (hb3.mono hb2.size)
    have r3 := r1.below hb13 hl1
    have hB3 := hB.trans (hb13.mono hB.size)
    have hA3 := hA1.below hb13
    have hl3 := r3.lt
    clear t0 t1 t2 t3 r1 hB hb2 hb3 hb13 hA2 hA1
    have t0 := r3.cell 0
    have t1 := r3.cell 1
    have t2 := r3.cell 2
    have t3 := r3.cell 3
    simp at t0 t1 t2 t3
    go_upto_region 5 with ((go_at_call 27; refine (pack_ref_no hA3 hn HV.out).mono ?_; rintro e w4 ⟨rfl, hb4⟩))
    have r5 := r3.below hb4 hl3

    have hB5 := hB3.trans (hb4.mono hB3.size)
    have hA5 := hA3.below hb4
    have hl1 := r5.lt
    clear t0 t1 t2 t3 r3 hB3 hb4 hA3
    have t0 := r5.cell 0
    have t1 := r5.cell 1
    have t2 := r5.cell 2
    have t3 := r5.cell 3
    simp at t0 t1 t2 t3
    have hv := HV.out
    refine wp_region_told (n := 44) (fun w' => Below w4.heap.size w4 w') (fun w1 w2 => Below w1.heap.size w1 w2) (by kernel_rfl) (by kernel_rfl) (by rfl) (Below.refl _ _).drew ?_
    refine walk_pure (v := .agg #[.int .i64 b, .int .i64 w, .int .i64 lv, .slice A n c]) (fun w => Below.refl _ w) (fun _ => rfl) ?_ ?_; (focus (intro us w9 hS9 hF; clear hF; have k0 := (hS9.cell (p := ⟨W.heap.size, 0, none⟩) hl1).trans t0; have k1 := (hS9.cell (p := ⟨W.heap.size, 1, none⟩) hl1).trans t1; have k2 := (hS9.cell (p := ⟨W.heap.size, 2, none⟩) hl1).trans t2; have k3 := (hS9.cell (p := ⟨W.heap.size, 3, none⟩) hl1).trans t3; clear hS9; go_simp; try (with_reducible rfl))); simp only [Act.put, List.setIfInBounds_toArray, List.set_cons_zero, List.set_cons_succ, Nat.reduceAdd]
    refine walk_free (fun u w' => ∃ A' c', u = .agg #[.int .i64 b, .int .i64 w, .int .i64 lv, .slice A' n c'] ∧ IsMs w' A' n ms) (fun u w1 w2 hg ⟨A', c', e, h⟩ => ⟨A', c', e, h.below hg⟩) ?_ ?_; (focus (intro us w9 hS9 hF K hK; clear hF; go_simp; refine (copied b w lv A n c ms w9 (hA5.below hS9) hn).mono ?_; rintro e w' ⟨A', c', rfl, hA', hb⟩; exact hK _ _ (hS9.trans (hb.mono hS9.size)) hb ⟨A', c', rfl, hA'⟩)); simp only [Act.put, List.setIfInBounds_toArray, List.set_cons_zero, List.set_cons_succ, Nat.reduceAdd]
    refine walk_fix (v := .bool false) ?_ ?_; (focus (intro us w9 hS9 hF K hK; obtain ⟨A', c', hu, hA'⟩ := hF _ (List.mem_cons_self ..) (by kernel_rfl); dsimp only at hu; clear hF; simp only [hu] at hK ⊢; go_simp; refine (valid b w lv A' n c' ms w9 hA' hn).mono ?_; rintro e w' ⟨rfl, hb⟩; rw [hv]; exact hK _ (hS9.trans (hb.mono hS9.size)) hb)); simp only [Act.put, List.setIfInBounds_toArray, List.set_cons_zero, List.set_cons_succ, Nat.reduceAdd]
    refine walk_pure (v := .agg #[.int .i64 b, .int .i64 w, .int .i64 lv, .slice A n c]) (fun w => Below.refl _ w) (fun _ => rfl) ?_ ?_; (focus (intro us w9 hS9 hF; clear hF; have k0 := (hS9.cell (p := ⟨W.heap.size, 0, none⟩) hl1).trans t0; have k1 := (hS9.cell (p := ⟨W.heap.size, 1, none⟩) hl1).trans t1; have k2 := (hS9.cell (p := ⟨W.heap.size, 2, none⟩) hl1).trans t2; have k3 := (hS9.cell (p := ⟨W.heap.size, 3, none⟩) hl1).trans t3; clear hS9; go_simp; try (with_reducible rfl))); simp only [Act.put, List.setIfInBounds_toArray, List.set_cons_zero, List.set_cons_succ, Nat.reduceAdd]
    refine walk_fix (v := .bool false) ?_ ?_; (focus (intro us w9 hS9 hF K hK; clear hF; go_simp; refine (valid_ref b w lv A n c ms w9 (hA5.below hS9) hn).mono ?_; rintro e w' ⟨rfl, hb⟩; rw [hv]; exact hK _ (hS9.trans (hb.mono hS9.size)) hb)); simp only [Act.put, List.setIfInBounds_toArray, List.set_cons_zero, List.set_cons_succ, Nat.reduceAdd]
    refine walk_pure (v := .bool true) (fun w => Below.refl _ w) (fun _ => rfl) ?_ ?_; (focus (intro us w9 hS9 hF; clear hF; have k0 := (hS9.cell (p := ⟨W.heap.size, 0, none⟩) hl1).trans t0; have k1 := (hS9.cell (p := ⟨W.heap.size, 1, none⟩) hl1).trans t1; have k2 := (hS9.cell (p := ⟨W.heap.size, 2, none⟩) hl1).trans t2; have k3 := (hS9.cell (p := ⟨W.heap.size, 3, none⟩) hl1).trans t3; clear hS9; go_simp; try (with_reducible rfl))); simp only [Act.put, List.setIfInBounds_toArray, List.set_cons_zero, List.set_cons_succ, Nat.reduceAdd]
    refine walk_pure (v := .bool true) (fun w => Below.refl _ w) (fun _ => rfl) ?_ ?_; (focus (intro us w9 hS9 hF; clear hF; have k0 := (hS9.cell (p := ⟨W.heap.size, 0, none⟩) hl1).trans t0; have k1 := (hS9.cell (p := ⟨W.heap.size, 1, none⟩) hl1).trans t1; have k2 := (hS9.cell (p := ⟨W.heap.size, 2, none⟩) hl1).trans t2; have k3 := (hS9.cell (p := ⟨W.heap.size, 3, none⟩) hl1).trans t3; clear hS9; go_simp; try (with_reducible rfl))); simp only [Act.put, List.setIfInBounds_toArray, List.set_cons_zero, List.set_cons_succ, Nat.reduceAdd]
    refine walk_pure (v := .slice none 0 0) (fun w => Below.refl _ w) (fun _ => rfl) ?_ ?_; (focus (intro us w9 hS9 hF; clear hF; have k0 := (hS9.cell (p := ⟨W.heap.size, 0, none⟩) hl1).trans t0; have k1 := (hS9.cell (p := ⟨W.heap.size, 1, none⟩) hl1).trans t1; have k2 := (hS9.cell (p := ⟨W.heap.size, 2, none⟩) hl1).trans t2; have k3 := (hS9.cell (p := ⟨W.heap.size, 3, none⟩) hl1).trans t3; clear hS9; go_simp; try (with_reducible rfl))); simp only [Act.put, List.setIfInBounds_toArray, List.set_cons_zero, List.set_cons_succ, Nat.reduceAdd]
    refine walk_pure (v := .string ⟨#[]⟩) (fun w => Below.refl _ w) (fun _ => rfl) ?_ ?_; (focus (intro us w9 hS9 hF; exact run_str_nil)); simp only [Act.put, List.setIfInBounds_toArray, List.set_cons_zero, List.set_cons_succ, Nat.reduceAdd]
    refine walk_pure (v := .slice none 0 0) (fun w => Below.refl _ w) (fun _ => rfl) ?_ ?_; (focus (intro us w9 hS9 hF; clear hF; have k0 := (hS9.cell (p := ⟨W.heap.size, 0, none⟩) hl1).trans t0; have k1 := (hS9.cell (p := ⟨W.heap.size, 1, none⟩) hl1).trans t1; have k2 := (hS9.cell (p := ⟨W.heap.size, 2, none⟩) hl1).trans t2; have k3 := (hS9.cell (p := ⟨W.heap.size, 3, none⟩) hl1).trans t3; clear hS9; go_simp; try (with_reducible rfl))); simp only [Act.put, List.setIfInBounds_toArray, List.set_cons_zero, List.set_cons_succ, Nat.reduceAdd]
    refine walk_pure (v := .string ⟨#[]⟩) (fun w => Below.refl _ w) (fun _ => rfl) ?_ ?_; (focus (intro us w9 hS9 hF; exact run_str_nil)); simp only [Act.put, List.setIfInBounds_toArray, List.set_cons_zero, List.set_cons_succ, Nat.reduceAdd]
    refine walk_pure (v := .bool true) (fun w => Below.refl _ w) (fun _ => rfl) ?_ ?_; (focus (intro us w9 hS9 hF; clear hF; have k0 := (hS9.cell (p := ⟨W.heap.size, 0, none⟩) hl1).trans t0; have k1 := (hS9.cell (p := ⟨W.heap.size, 1, none⟩) hl1).trans t1; have k2 := (hS9.cell (p := ⟨W.heap.size, 2, none⟩) hl1).trans t2; have k3 := (hS9.cell (p := ⟨W.heap.size, 3, none⟩) hl1).trans t3; clear hS9; go_simp; try (with_reducible rfl))); simp only [Act.put, List.setIfInBounds_toArray, List.set_cons_zero, List.set_cons_succ, Nat.reduceAdd]
    refine walk_pure (v := .bool true) (fun w => Below.refl _ w) (fun _ => rfl) ?_ ?_; (focus (intro us w9 hS9 hF; clear hF; have k0 := (hS9.cell (p := ⟨W.heap.size, 0, none⟩) hl1).trans t0; have k1 := (hS9.cell (p := ⟨W.heap.size, 1, none⟩) hl1).trans t1; have k2 := (hS9.cell (p := ⟨W.heap.size, 2, none⟩) hl1).trans t2; have k3 := (hS9.cell (p := ⟨W.heap.size, 3, none⟩) hl1).trans t3; clear hS9; go_simp; try (with_reducible rfl))); simp only [Act.put, List.setIfInBounds_toArray, List.set_cons_zero, List.set_cons_succ, Nat.reduceAdd]
    refine walk_pure (v := .bool true) (fun w => Below.refl _ w) (fun _ => rfl) ?_ ?_; (focus (intro us w9 hS9 hF; clear hF; have k0 := (hS9.cell (p := ⟨W.heap.size, 0, none⟩) hl1).trans t0; have k1 := (hS9.cell (p := ⟨W.heap.size, 1, none⟩) hl1).trans t1; have k2 := (hS9.cell (p := ⟨W.heap.size, 2, none⟩) hl1).trans t2; have k3 := (hS9.cell (p := ⟨W.heap.size, 3, none⟩) hl1).trans t3; clear hS9; go_simp; try (with_reducible rfl))); simp only [Act.put, List.setIfInBounds_toArray, List.set_cons_zero, List.set_cons_succ, Nat.reduceAdd]
    refine walk_pure (v := .int .i64 1) (fun w => Below.refl _ w) (fun _ => rfl) ?_ ?_; (focus (intro us w9 hS9 hF; clear hF; have k0 := (hS9.cell (p := ⟨W.heap.size, 0, none⟩) hl1).trans t0; have k1 := (hS9.cell (p := ⟨W.heap.size, 1, none⟩) hl1).trans t1; have k2 := (hS9.cell (p := ⟨W.heap.size, 2, none⟩) hl1).trans t2; have k3 := (hS9.cell (p := ⟨W.heap.size, 3, none⟩) hl1).trans t3; clear hS9; go_simp; try (with_reducible rfl))); simp only [Act.put, List.setIfInBounds_toArray, List.set_cons_zero, List.set_cons_succ, Nat.reduceAdd]
    refine walk_pure (v := .int .i64 1) (fun w => Below.refl _ w) (fun _ => rfl) ?_ ?_; (focus (intro us w9 hS9 hF; clear hF; have k0 := (hS9.cell (p := ⟨W.heap.size, 0, none⟩) hl1).trans t0; have k1 := (hS9.cell (p := ⟨W.heap.size, 1, none⟩) hl1).trans t1; have k2 := (hS9.cell (p := ⟨W.heap.size, 2, none⟩) hl1).trans t2; have k3 := (hS9.cell (p := ⟨W.heap.size, 3, none⟩) hl1).trans t3; clear hS9; go_simp; try (with_reducible rfl))); simp only [Act.put, List.setIfInBounds_toArray, List.set_cons_zero, List.set_cons_succ, Nat.reduceAdd]
    refine walk_pure (v := .bool true) (fun w => Below.refl _ w) (fun _ => rfl) ?_ ?_; (focus (intro us w9 hS9 hF; clear hF; have k0 := (hS9.cell (p := ⟨W.heap.size, 0, none⟩) hl1).trans t0; have k1 := (hS9.cell (p := ⟨W.heap.size, 1, none⟩) hl1).trans t1; have k2 := (hS9.cell (p := ⟨W.heap.size, 2, none⟩) hl1).trans t2; have k3 := (hS9.cell (p := ⟨W.heap.size, 3, none⟩) hl1).trans t3; clear hS9; go_simp; try (with_reducible rfl))); simp only [Act.put, List.setIfInBounds_toArray, List.set_cons_zero, List.set_cons_succ, Nat.reduceAdd]
    refine walk_pure (v := .bool true) (fun w => Below.refl _ w) (fun _ => rfl) ?_ ?_; (focus (intro us w9 hS9 hF; clear hF; have k0 := (hS9.cell (p := ⟨W.heap.size, 0, none⟩) hl1).trans t0; have k1 := (hS9.cell (p := ⟨W.heap.size, 1, none⟩) hl1).trans t1; have k2 := (hS9.cell (p := ⟨W.heap.size, 2, none⟩) hl1).trans t2; have k3 := (hS9.cell (p := ⟨W.heap.size, 3, none⟩) hl1).trans t3; clear hS9; go_simp; try (with_reducible rfl))); simp only [Act.put, List.setIfInBounds_toArray, List.set_cons_zero, List.set_cons_succ, Nat.reduceAdd]
    refine walk_pure (v := .bool true) (fun w => Below.refl _ w) (fun _ => rfl) ?_ ?_; (focus (intro us w9 hS9 hF; clear hF; have k0 := (hS9.cell (p := ⟨W.heap.size, 0, none⟩) hl1).trans t0; have k1 := (hS9.cell (p := ⟨W.heap.size, 1, none⟩) hl1).trans t1; have k2 := (hS9.cell (p := ⟨W.heap.size, 2, none⟩) hl1).trans t2; have k3 := (hS9.cell (p := ⟨W.heap.size, 3, none⟩) hl1).trans t3; clear hS9; go_simp; try (with_reducible rfl))); simp only [Act.put, List.setIfInBounds_toArray, List.set_cons_zero, List.set_cons_succ, Nat.reduceAdd]
    refine walk_fix (v := .bool true) ?_ ?_; (focus (intro us w9 hS9 hF K hK; clear hF; go_simp; refine (awake_ok w9).mono ?_; rintro e w' ⟨rfl, hb⟩; exact hK _ (hS9.trans (hb.mono hS9.size)) hb)); simp only [Act.put, List.setIfInBounds_toArray, List.set_cons_zero, List.set_cons_succ, Nat.reduceAdd]
    refine walk_pure (v := .bool true) (fun w => Below.refl _ w) (fun _ => rfl) ?_ ?_; (focus (intro us w9 hS9 hF; clear hF; have k0 := (hS9.cell (p := ⟨W.heap.size, 0, none⟩) hl1).trans t0; have k1 := (hS9.cell (p := ⟨W.heap.size, 1, none⟩) hl1).trans t1; have k2 := (hS9.cell (p := ⟨W.heap.size, 2, none⟩) hl1).trans t2; have k3 := (hS9.cell (p := ⟨W.heap.size, 3, none⟩) hl1).trans t3; clear hS9; go_simp; try (with_reducible rfl))); simp only [Act.put, List.setIfInBounds_toArray, List.set_cons_zero, List.set_cons_succ, Nat.reduceAdd]
    refine walk_pure (v := .bool true) (fun w => Below.refl _ w) (fun _ => rfl) ?_ ?_; (focus (intro us w9 hS9 hF; clear hF; have k0 := (hS9.cell (p := ⟨W.heap.size, 0, none⟩) hl1).trans t0; have k1 := (hS9.cell (p := ⟨W.heap.size, 1, none⟩) hl1).trans t1; have k2 := (hS9.cell (p := ⟨W.heap.size, 2, none⟩) hl1).trans t2; have k3 := (hS9.cell (p := ⟨W.heap.size, 3, none⟩) hl1).trans t3; clear hS9; go_simp; try (with_reducible rfl))); simp only [Act.put, List.setIfInBounds_toArray, List.set_cons_zero, List.set_cons_succ, Nat.reduceAdd]
    refine walk_done fun us w9 hS9 hF => ?_
    clear hF t0 t1 t2 t3 hv
    go_wp2
    go_ret
    exact ⟨rfl, hB5.trans (hS9.mono hB5.size)⟩
  · obtain ⟨L, hLL⟩ : ∃ L, packL w lv (eb w).toNat (eb w).toNat (List.replicate 4096 0) ms = L := ⟨_, rfl⟩
    have HLL := Lib.hid hLL
    clear hLL
    have HV := Lib.hid hv
    clear hv
    go_upto_region 4 with (first | (go_at_call 26; refine (copied b w lv A n c ms _ hA1 hn).mono ?_; rintro e w2 ⟨A2, c2, rfl, hA2, hb2⟩) | (go_at_call 25; refine (pack_yes hA2 hn HV.out HLL.out).mono ?_; rintro e w3 ⟨g1, hg1, rfl, hL4, q1, hb3⟩))
    have hb13 := hb2.trans (hb3.mono hb2.size)
    have r3 := r1.below hb13 hl1
    have hB3 := hB.trans (hb13.mono hB.size)
    have hA3 := hA1.below hb13
    have hl3 := r3.lt
    clear t0 t1 t2 t3 r1 hB hb2 hb3 hb13 hA2 hA1
    have t0 := r3.cell 0
    have t1 := r3.cell 1
    have t2 := r3.cell 2
    have t3 := r3.cell 3
    simp at t0 t1 t2 t3
    go_upto_region 5 with ((go_at_call 27; refine (pack_ref_yes hA3 hn HV.out HLL.out).mono ?_; rintro e w4 ⟨g2, hg2, rfl, _, q2, hb4⟩))
    have r5 := r3.below hb4 hl3
    have q1 := q1.below hb4 q1.lt
    have hB5 := hB3.trans (hb4.mono hB3.size)
    have hA5 := hA3.below hb4
    have hl1 := r5.lt
    clear t0 t1 t2 t3 r3 hB3 hb4 hA3
    have t0 := r5.cell 0
    have t1 := r5.cell 1
    have t2 := r5.cell 2
    have t3 := r5.cell 3
    simp at t0 t1 t2 t3
    have hv := HV.out
    refine wp_region_told (n := 44) (fun w' => Below w4.heap.size w4 w') (fun w1 w2 => Below w1.heap.size w1 w2) (by kernel_rfl) (by kernel_rfl) (by rfl) (Below.refl _ _).drew ?_
    refine walk_pure (v := .agg #[.int .i64 b, .int .i64 w, .int .i64 lv, .slice A n c]) (fun w => Below.refl _ w) (fun _ => rfl) ?_ ?_; (focus (intro us w9 hS9 hF; clear hF; have k0 := (hS9.cell (p := ⟨W.heap.size, 0, none⟩) hl1).trans t0; have k1 := (hS9.cell (p := ⟨W.heap.size, 1, none⟩) hl1).trans t1; have k2 := (hS9.cell (p := ⟨W.heap.size, 2, none⟩) hl1).trans t2; have k3 := (hS9.cell (p := ⟨W.heap.size, 3, none⟩) hl1).trans t3; clear hS9; go_simp; try (with_reducible rfl))); simp only [Act.put, List.setIfInBounds_toArray, List.set_cons_zero, List.set_cons_succ, Nat.reduceAdd]
    refine walk_free (fun u w' => ∃ A' c', u = .agg #[.int .i64 b, .int .i64 w, .int .i64 lv, .slice A' n c'] ∧ IsMs w' A' n ms) (fun u w1 w2 hg ⟨A', c', e, h⟩ => ⟨A', c', e, h.below hg⟩) ?_ ?_; (focus (intro us w9 hS9 hF K hK; clear hF; go_simp; refine (copied b w lv A n c ms w9 (hA5.below hS9) hn).mono ?_; rintro e w' ⟨A', c', rfl, hA', hb⟩; exact hK _ _ (hS9.trans (hb.mono hS9.size)) hb ⟨A', c', rfl, hA'⟩)); simp only [Act.put, List.setIfInBounds_toArray, List.set_cons_zero, List.set_cons_succ, Nat.reduceAdd]
    refine walk_fix (v := .bool true) ?_ ?_; (focus (intro us w9 hS9 hF K hK; obtain ⟨A', c', hu, hA'⟩ := hF _ (List.mem_cons_self ..) (by kernel_rfl); dsimp only at hu; clear hF; simp only [hu] at hK ⊢; go_simp; refine (valid b w lv A' n c' ms w9 hA' hn).mono ?_; rintro e w' ⟨rfl, hb⟩; rw [hv]; exact hK _ (hS9.trans (hb.mono hS9.size)) hb)); simp only [Act.put, List.setIfInBounds_toArray, List.set_cons_zero, List.set_cons_succ, Nat.reduceAdd]
    refine walk_pure (v := .agg #[.int .i64 b, .int .i64 w, .int .i64 lv, .slice A n c]) (fun w => Below.refl _ w) (fun _ => rfl) ?_ ?_; (focus (intro us w9 hS9 hF; clear hF; have k0 := (hS9.cell (p := ⟨W.heap.size, 0, none⟩) hl1).trans t0; have k1 := (hS9.cell (p := ⟨W.heap.size, 1, none⟩) hl1).trans t1; have k2 := (hS9.cell (p := ⟨W.heap.size, 2, none⟩) hl1).trans t2; have k3 := (hS9.cell (p := ⟨W.heap.size, 3, none⟩) hl1).trans t3; clear hS9; go_simp; try (with_reducible rfl))); simp only [Act.put, List.setIfInBounds_toArray, List.set_cons_zero, List.set_cons_succ, Nat.reduceAdd]
    refine walk_fix (v := .bool true) ?_ ?_; (focus (intro us w9 hS9 hF K hK; clear hF; go_simp; refine (valid_ref b w lv A n c ms w9 (hA5.below hS9) hn).mono ?_; rintro e w' ⟨rfl, hb⟩; rw [hv]; exact hK _ (hS9.trans (hb.mono hS9.size)) hb)); simp only [Act.put, List.setIfInBounds_toArray, List.set_cons_zero, List.set_cons_succ, Nat.reduceAdd]
    refine walk_pure (v := .bool true) (fun w => Below.refl _ w) (fun _ => rfl) ?_ ?_; (focus (intro us w9 hS9 hF; clear hF; have k0 := (hS9.cell (p := ⟨W.heap.size, 0, none⟩) hl1).trans t0; have k1 := (hS9.cell (p := ⟨W.heap.size, 1, none⟩) hl1).trans t1; have k2 := (hS9.cell (p := ⟨W.heap.size, 2, none⟩) hl1).trans t2; have k3 := (hS9.cell (p := ⟨W.heap.size, 3, none⟩) hl1).trans t3; clear hS9; go_simp; try (with_reducible rfl))); simp only [Act.put, List.setIfInBounds_toArray, List.set_cons_zero, List.set_cons_succ, Nat.reduceAdd]
    refine walk_pure (v := .bool true) (fun w => Below.refl _ w) (fun _ => rfl) ?_ ?_; (focus (intro us w9 hS9 hF; clear hF; have k0 := (hS9.cell (p := ⟨W.heap.size, 0, none⟩) hl1).trans t0; have k1 := (hS9.cell (p := ⟨W.heap.size, 1, none⟩) hl1).trans t1; have k2 := (hS9.cell (p := ⟨W.heap.size, 2, none⟩) hl1).trans t2; have k3 := (hS9.cell (p := ⟨W.heap.size, 3, none⟩) hl1).trans t3; clear hS9; go_simp; try (with_reducible rfl))); simp only [Act.put, List.setIfInBounds_toArray, List.set_cons_zero, List.set_cons_succ, Nat.reduceAdd]
    refine walk_pure (v := .slice (some ⟨g1, 0, none⟩) 4096 4096) (fun w => Below.refl _ w) (fun _ => rfl) ?_ ?_; (focus (intro us w9 hS9 hF; clear hF; have k0 := (hS9.cell (p := ⟨W.heap.size, 0, none⟩) hl1).trans t0; have k1 := (hS9.cell (p := ⟨W.heap.size, 1, none⟩) hl1).trans t1; have k2 := (hS9.cell (p := ⟨W.heap.size, 2, none⟩) hl1).trans t2; have k3 := (hS9.cell (p := ⟨W.heap.size, 3, none⟩) hl1).trans t3; clear hS9; go_simp; try (with_reducible rfl))); simp only [Act.put, List.setIfInBounds_toArray, List.set_cons_zero, List.set_cons_succ, Nat.reduceAdd]
    refine walk_pure (v := .string ⟨L.toArray⟩) (fun w => Below.refl _ w) (fun _ => rfl) ?_ ?_; (focus (intro us w9 hS9 hF; exact run_str_row (q1.below hS9 q1.lt) hL4)); simp only [Act.put, List.setIfInBounds_toArray, List.set_cons_zero, List.set_cons_succ, Nat.reduceAdd]
    refine walk_pure (v := .slice (some ⟨g2, 0, none⟩) 4096 4096) (fun w => Below.refl _ w) (fun _ => rfl) ?_ ?_; (focus (intro us w9 hS9 hF; clear hF; have k0 := (hS9.cell (p := ⟨W.heap.size, 0, none⟩) hl1).trans t0; have k1 := (hS9.cell (p := ⟨W.heap.size, 1, none⟩) hl1).trans t1; have k2 := (hS9.cell (p := ⟨W.heap.size, 2, none⟩) hl1).trans t2; have k3 := (hS9.cell (p := ⟨W.heap.size, 3, none⟩) hl1).trans t3; clear hS9; go_simp; try (with_reducible rfl))); simp only [Act.put, List.setIfInBounds_toArray, List.set_cons_zero, List.set_cons_succ, Nat.reduceAdd]
    refine walk_pure (v := .string ⟨L.toArray⟩) (fun w => Below.refl _ w) (fun _ => rfl) ?_ ?_; (focus (intro us w9 hS9 hF; exact run_str_row (q2.below hS9 q2.lt) hL4)); simp only [Act.put, List.setIfInBounds_toArray, List.set_cons_zero, List.set_cons_succ, Nat.reduceAdd]
    refine walk_pure (v := .bool true) (fun w => Below.refl _ w) (fun _ => rfl) ?_ ?_; (focus (intro us w9 hS9 hF; clear hF; have k0 := (hS9.cell (p := ⟨W.heap.size, 0, none⟩) hl1).trans t0; have k1 := (hS9.cell (p := ⟨W.heap.size, 1, none⟩) hl1).trans t1; have k2 := (hS9.cell (p := ⟨W.heap.size, 2, none⟩) hl1).trans t2; have k3 := (hS9.cell (p := ⟨W.heap.size, 3, none⟩) hl1).trans t3; clear hS9; go_simp; try (with_reducible rfl))); simp only [Act.put, List.setIfInBounds_toArray, List.set_cons_zero, List.set_cons_succ, Nat.reduceAdd]
    refine walk_pure (v := .bool true) (fun w => Below.refl _ w) (fun _ => rfl) ?_ ?_; (focus (intro us w9 hS9 hF; clear hF; have k0 := (hS9.cell (p := ⟨W.heap.size, 0, none⟩) hl1).trans t0; have k1 := (hS9.cell (p := ⟨W.heap.size, 1, none⟩) hl1).trans t1; have k2 := (hS9.cell (p := ⟨W.heap.size, 2, none⟩) hl1).trans t2; have k3 := (hS9.cell (p := ⟨W.heap.size, 3, none⟩) hl1).trans t3; clear hS9; go_simp; try (with_reducible rfl))); simp only [Act.put, List.setIfInBounds_toArray, List.set_cons_zero, List.set_cons_succ, Nat.reduceAdd]
    refine walk_pure (v := .bool true) (fun w => Below.refl _ w) (fun _ => rfl) ?_ ?_; (focus (intro us w9 hS9 hF; clear hF; have k0 := (hS9.cell (p := ⟨W.heap.size, 0, none⟩) hl1).trans t0; have k1 := (hS9.cell (p := ⟨W.heap.size, 1, none⟩) hl1).trans t1; have k2 := (hS9.cell (p := ⟨W.heap.size, 2, none⟩) hl1).trans t2; have k3 := (hS9.cell (p := ⟨W.heap.size, 3, none⟩) hl1).trans t3; clear hS9; go_simp; try (with_reducible rfl))); simp only [Act.put, List.setIfInBounds_toArray, List.set_cons_zero, List.set_cons_succ, Nat.reduceAdd]
    refine walk_pure (v := .int .i64 0) (fun w => Below.refl _ w) (fun _ => rfl) ?_ ?_; (focus (intro us w9 hS9 hF; clear hF; have k0 := (hS9.cell (p := ⟨W.heap.size, 0, none⟩) hl1).trans t0; have k1 := (hS9.cell (p := ⟨W.heap.size, 1, none⟩) hl1).trans t1; have k2 := (hS9.cell (p := ⟨W.heap.size, 2, none⟩) hl1).trans t2; have k3 := (hS9.cell (p := ⟨W.heap.size, 3, none⟩) hl1).trans t3; clear hS9; go_simp; try (with_reducible rfl))); simp only [Act.put, List.setIfInBounds_toArray, List.set_cons_zero, List.set_cons_succ, Nat.reduceAdd]
    refine walk_pure (v := .int .i64 0) (fun w => Below.refl _ w) (fun _ => rfl) ?_ ?_; (focus (intro us w9 hS9 hF; clear hF; have k0 := (hS9.cell (p := ⟨W.heap.size, 0, none⟩) hl1).trans t0; have k1 := (hS9.cell (p := ⟨W.heap.size, 1, none⟩) hl1).trans t1; have k2 := (hS9.cell (p := ⟨W.heap.size, 2, none⟩) hl1).trans t2; have k3 := (hS9.cell (p := ⟨W.heap.size, 3, none⟩) hl1).trans t3; clear hS9; go_simp; try (with_reducible rfl))); simp only [Act.put, List.setIfInBounds_toArray, List.set_cons_zero, List.set_cons_succ, Nat.reduceAdd]
    refine walk_pure (v := .bool true) (fun w => Below.refl _ w) (fun _ => rfl) ?_ ?_; (focus (intro us w9 hS9 hF; clear hF; have k0 := (hS9.cell (p := ⟨W.heap.size, 0, none⟩) hl1).trans t0; have k1 := (hS9.cell (p := ⟨W.heap.size, 1, none⟩) hl1).trans t1; have k2 := (hS9.cell (p := ⟨W.heap.size, 2, none⟩) hl1).trans t2; have k3 := (hS9.cell (p := ⟨W.heap.size, 3, none⟩) hl1).trans t3; clear hS9; go_simp; try (with_reducible rfl))); simp only [Act.put, List.setIfInBounds_toArray, List.set_cons_zero, List.set_cons_succ, Nat.reduceAdd]
    refine walk_pure (v := .bool true) (fun w => Below.refl _ w) (fun _ => rfl) ?_ ?_; (focus (intro us w9 hS9 hF; clear hF; have k0 := (hS9.cell (p := ⟨W.heap.size, 0, none⟩) hl1).trans t0; have k1 := (hS9.cell (p := ⟨W.heap.size, 1, none⟩) hl1).trans t1; have k2 := (hS9.cell (p := ⟨W.heap.size, 2, none⟩) hl1).trans t2; have k3 := (hS9.cell (p := ⟨W.heap.size, 3, none⟩) hl1).trans t3; clear hS9; go_simp; try (with_reducible rfl))); simp only [Act.put, List.setIfInBounds_toArray, List.set_cons_zero, List.set_cons_succ, Nat.reduceAdd]
    refine walk_pure (v := .bool true) (fun w => Below.refl _ w) (fun _ => rfl) ?_ ?_; (focus (intro us w9 hS9 hF; clear hF; have k0 := (hS9.cell (p := ⟨W.heap.size, 0, none⟩) hl1).trans t0; have k1 := (hS9.cell (p := ⟨W.heap.size, 1, none⟩) hl1).trans t1; have k2 := (hS9.cell (p := ⟨W.heap.size, 2, none⟩) hl1).trans t2; have k3 := (hS9.cell (p := ⟨W.heap.size, 3, none⟩) hl1).trans t3; clear hS9; go_simp; try (with_reducible rfl))); simp only [Act.put, List.setIfInBounds_toArray, List.set_cons_zero, List.set_cons_succ, Nat.reduceAdd]
    refine walk_fix (v := .bool true) ?_ ?_; (focus (intro us w9 hS9 hF K hK; clear hF; go_simp; refine (awake_ok w9).mono ?_; rintro e w' ⟨rfl, hb⟩; exact hK _ (hS9.trans (hb.mono hS9.size)) hb)); simp only [Act.put, List.setIfInBounds_toArray, List.set_cons_zero, List.set_cons_succ, Nat.reduceAdd]
    refine walk_pure (v := .bool true) (fun w => Below.refl _ w) (fun _ => rfl) ?_ ?_; (focus (intro us w9 hS9 hF; clear hF; have k0 := (hS9.cell (p := ⟨W.heap.size, 0, none⟩) hl1).trans t0; have k1 := (hS9.cell (p := ⟨W.heap.size, 1, none⟩) hl1).trans t1; have k2 := (hS9.cell (p := ⟨W.heap.size, 2, none⟩) hl1).trans t2; have k3 := (hS9.cell (p := ⟨W.heap.size, 3, none⟩) hl1).trans t3; clear hS9; go_simp; try (with_reducible rfl))); simp only [Act.put, List.setIfInBounds_toArray, List.set_cons_zero, List.set_cons_succ, Nat.reduceAdd]
    refine walk_pure (v := .bool true) (fun w => Below.refl _ w) (fun _ => rfl) ?_ ?_; (focus (intro us w9 hS9 hF; clear hF; have k0 := (hS9.cell (p := ⟨W.heap.size, 0, none⟩) hl1).trans t0; have k1 := (hS9.cell (p := ⟨W.heap.size, 1, none⟩) hl1).trans t1; have k2 := (hS9.cell (p := ⟨W.heap.size, 2, none⟩) hl1).trans t2; have k3 := (hS9.cell (p := ⟨W.heap.size, 3, none⟩) hl1).trans t3; clear hS9; go_simp; try (with_reducible rfl))); simp only [Act.put, List.setIfInBounds_toArray, List.set_cons_zero, List.set_cons_succ, Nat.reduceAdd]
    refine walk_done fun us w9 hS9 hF => ?_
    clear hF t0 t1 t2 t3 hv
    go_wp2
    go_ret
    exact ⟨rfl, hB5.trans (hS9.mono hB5.size)⟩
end Go.Proofs.Ytonloimepfojdaa

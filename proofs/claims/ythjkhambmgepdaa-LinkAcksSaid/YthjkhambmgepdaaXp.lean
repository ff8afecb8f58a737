/- The law LinkProgress: a link is never stuck. -/
import Derived.Test.YthjkhambmgepdaaXo
namespace Go.Proofs.Ythjkhambmgepdaa
open Go.RowKit
set_option linter.unusedVariables false
def trT (S : WrS) (s : Nat) : WrS := if nxE (S.E s) = 0 then trS S s else S
theorem trT_inv {c : Nat} {S : WrS} (h : WInv c S) (hc : c ≤ 100000) {s : Nat} (hs : s < 2) : WInv (c + 1) (trT S s) ∧ (pot (trT S s) < pot S ∨ (trT S s = S ∧ nxE (S.E s) = 17)) := by
  unfold trT
  rcases nx_zero (h.g s hs) (by have := h.bs s hs; omega) with h0 | h0
  · rw [if_pos h0]
    exact ⟨h.tr hs h0, .inl (pot_tr h hs h0)⟩
  · rw [if_neg (by omega)]
    exact ⟨h.mono (by omega), .inr ⟨rfl, h0⟩⟩
theorem deT0_inv {c : Nat} {S : WrS} (h : WInv c S) (hc : c ≤ 100000) : WInv (c + 1) (deT0 S) ∧ (pot (deT0 S) < pot S ∨ (deT0 S = S ∧ S.Y 0 = [])) := by
  unfold deT0
  cases hY : S.Y 0 with
  | nil => exact ⟨h.mono (by omega), .inr ⟨rfl, rfl⟩⟩
  | cons l ls => exact ⟨(h.de (by omega) (by omega) hY).mono (by omega), .inl (pot_de (by omega) hY)⟩
theorem deT1_inv {c : Nat} {S : WrS} (h : WInv c S) (hc : c ≤ 100000) : WInv (c + 1) (deT1 S) ∧ (pot (deT1 S) < pot S ∨ (deT1 S = S ∧ S.Y 1 = [])) := by
  unfold deT1
  cases hY : S.Y 1 with
  | nil => exact ⟨h.mono (by omega), .inr ⟨rfl, rfl⟩⟩
  | cons l ls => exact ⟨(h.de (by omega) (by omega) hY).mono (by omega), .inl (pot_de (by omega) hY)⟩
def roundS (S : WrS) : WrS := deT1 (deT0 (trT (trT S 0) 1))
/-- A round moves on, or everything stands still. -/
theorem round_inv {c : Nat} {S : WrS} (h : WInv c S) (hc : c + 4 ≤ 100000) : WInv (c + 4) (roundS S) ∧ (pot (roundS S) < pot S ∨ (roundS S = S ∧ (∀ s, s < 2 → nxE (S.E s) = 17) ∧ ∀ s, s < 2 → S.Y s = [])) := by
  obtain ⟨i1, p1⟩ := trT_inv h (by omega) (s := 0) (by omega)
  obtain ⟨i2, p2⟩ := trT_inv i1 (by omega) (s := 1) (by omega)
  obtain ⟨i3, p3⟩ := deT0_inv i2 (by omega)
  obtain ⟨i4, p4⟩ := deT1_inv i3 (by omega)
  refine ⟨i4, ?_⟩
  unfold roundS
  have l1 : pot (trT S 0) ≤ pot S := by
    rcases p1 with h | ⟨h, _⟩
    · omega
    · rw [h]; exact Nat.le_refl _
  have l2 : pot (trT (trT S 0) 1) ≤ pot (trT S 0) := by
    rcases p2 with h | ⟨h, _⟩
    · omega
    · rw [h]; exact Nat.le_refl _
  have l3 : pot (deT0 (trT (trT S 0) 1)) ≤ pot (trT (trT S 0) 1) := by
    rcases p3 with h | ⟨h, _⟩
    · omega
    · rw [h]; exact Nat.le_refl _
  have l4 : pot (deT1 (deT0 (trT (trT S 0) 1))) ≤ pot (deT0 (trT (trT S 0) 1)) := by
    rcases p4 with h | ⟨h, _⟩
    · omega
    · rw [h]; exact Nat.le_refl _
  rcases p1 with p1 | ⟨e1, n1⟩
  · exact .inl (by omega)
  rcases p2 with p2 | ⟨e2, n2⟩
  · exact .inl (by omega)
  rcases p3 with p3 | ⟨e3, y3⟩
  · exact .inl (by omega)
  rcases p4 with p4 | ⟨e4, y4⟩
  · exact .inl (by omega)
  rw [e1] at n2
  rw [e2, e1] at y3
  rw [e3, e2, e1] at y4
  refine .inr ⟨e4.trans (e3.trans (e2.trans e1)), fun s hs => ?_, fun s hs => ?_⟩ <;> rcases (by omega : s = 0 ∨ s = 1) with rfl | rfl
  · exact n1
  · exact n2
  · exact y3
  · exact y4
theorem round_dec {c : Nat} {S : WrS} (h : WInv c S) (hc : c + 4 ≤ 100000) : WInv (c + 4) (roundS S) ∧ (pot (roundS S) < pot S ∨ (roundS S = S ∧ S.Y 0 = [] ∧ S.Y 1 = [] ∧ (S.E 0).q = [] ∧ (S.E 1).q = [])) := by
  obtain ⟨h1, h2⟩ := round_inv h hc
  refine ⟨h1, ?_⟩
  rcases h2 with h2 | ⟨h2, h3, h4⟩
  · exact .inl h2
  · exact .inr ⟨h2, h4 0 (by omega), h4 1 (by omega), still h h3 h4 (by omega), still h h3 h4 (by omega)⟩
theorem WM.sent {base g : Nat} {col : Nat → Nat} {w : World} {S : WrS} {p : WrP} (h : WM base g col w S p) : w.cell? ⟨g, 1, none⟩ = some (.int .u64 (S.E 0).s) ∧ w.cell? ⟨g, 11, none⟩ = some (.int .u64 (S.E 1).s) := ⟨h.row.now.cell 1, h.row.now.cell 11⟩
set_option maxRecDepth 100000 in
set_option maxHeartbeats 8000000 in
theorem walk_progress (W : World) (t : Int) (A : Option Addr) (n cc : Nat) (_ : (Lit.int .i64 t).wf = true) (hT : IsTr W A n) : Calls Try.prog 12 #[.int .i64 t, .slice A n cc] W (True1 W) := by
  go_enter Try.func12, Try.ntmps12
  go_upto_region 2 with (go_at_call 57; refine (wire_open W.heap.size t _ (Nat.le_refl _)).mono ?_; rintro en w0 ⟨g, N, col0, p0, -, hv, rfl, hM0, hc0, hb0⟩)
  have hT1 := trips_behind hT hb0 hM0 hM0.bg hc0
  go_upto_region 5 with (go_at_call 58; refine (run_any W.heap.size g col0 w0 _ p0 hM0 A n cc 0 (newS_inv hv) (by omega) hT1).mono ?_; rintro en w1 ⟨rfl, S, col, p, hI, hM, hw, hcc⟩)
  have hB1 := hM0.white hw hb0
  have hp := hI.p
  clear hM0 hT1 hw hcc hb0 hv hT
  go_loopw [7] (fun i wr => ∃ r : Nat, ∃ S1 col1 p1, i = .int .i64 r ∧ WInv (400 + 4 * r) S1 ∧ pot S1 + r ≤ 12800 ∧ WM W.heap.size g col1 wr S1 p1 ∧ White col w1 wr ∧ (∀ x, x < w1.heap.size → col x = 0 → col1 x = 0)) (fun i _ => 20000 - (intOf i).toNat)
  case atStart => exact ⟨0, S, col, p, rfl, hI, hp, hM, White.refl _ _, fun _ _ h => h⟩
  case round =>
    obtain ⟨r, S1, col1, p1, rfl, hI1, hp1, hM1, hw1, hc1⟩ := hrel
    have hMb := hM
    clear hp hM
    have hr : r ≤ 12800 := by omega
    have dr : decide (r < 20000) = true := decide_eq_true (by omega)
    have dri : decide ((r : Int) < 20000) = true := decide_eq_true (by omega)
    have hlg := hM1.lt
    have hy0 := hI1.bY 0 (by omega)
    have hy1 := hI1.bY 1 (by omega)
    have hw2 : IntKind.i64.wrap (((S1.Y 0).length : Int) + ((S1.Y 1).length : Int)) = ((S1.Y 0).length : Int) + ((S1.Y 1).length : Int) := by rw [IntKind.wrap_i64]; omega
    go_upto_region 7 with (fail)
    have hM1d := hM1.drew
    have hw1d := hw1.trans (White.below ((Below.refl _ _).drew))
    obtain ⟨⟨y0, y1, v0, v1, t0, t1⟩, fz, e0, e1⟩ := hM1d.cells
    obtain ⟨sc0, sc1⟩ := hM1d.sent
    refine wp_region_told (n := 176) (fun w' => w' = wr.drew) (fun _ _ => True) (by kernel_rfl) (by kernel_rfl) (by rfl) rfl ?_
    repeat (first | (refine walk_pure (v := ?_) (fun _ => trivial) (fun _ => rfl) ?_ ?_; rotate_left; (focus (intro us w9 hS9 hF; subst hS9; clear hF; go_simp; (try with_reducible rfl); done)); simp only [Act.put, List.setIfInBounds_toArray, List.set_cons_zero, List.set_cons_succ, Nat.reduceAdd]) | (refine walk_skip (fun _ => trivial) (fun _ => rfl) ?_; simp only [Act.put, List.setIfInBounds_toArray, List.set_cons_zero, List.set_cons_succ, Nat.reduceAdd]))
    refine walk_done fun us w9 hS9 hF => ?_
    subst hS9
    clear hF
    clear hw2 y0 y1 v0 v1 t0 t1 fz e0 e1 sc0 sc1
    generalize wr.drew = wa at *
    go_upto_region 8 with (fail)
    have hM1dd := hM1d.drew
    have hw1dd := hw1d.trans (White.below ((Below.refl _ _).drew))
    obtain ⟨⟨y0, y1, v0, v1, t0, t1⟩, fz, e0, e1⟩ := hM1dd.cells
    obtain ⟨sc0, sc1⟩ := hM1dd.sent
    refine wp_region_told (n := 176) (fun w' => w' = wa.drew) (fun _ _ => True) (by kernel_rfl) (by kernel_rfl) (by rfl) rfl ?_
    repeat (first | (refine walk_pure (v := ?_) (fun _ => trivial) (fun _ => rfl) ?_ ?_; rotate_left; (focus (intro us w9 hS9 hF; subst hS9; clear hF; go_simp; (try with_reducible rfl); done)); simp only [Act.put, List.setIfInBounds_toArray, List.set_cons_zero, List.set_cons_succ, Nat.reduceAdd]) | (refine walk_skip (fun _ => trivial) (fun _ => rfl) ?_; simp only [Act.put, List.setIfInBounds_toArray, List.set_cons_zero, List.set_cons_succ, Nat.reduceAdd]))
    refine walk_done fun us w9 hS9 hF => ?_
    subst hS9
    clear hF
    clear y0 y1 v0 v1 t0 t1 fz e0 e1 sc0 sc1
    generalize wa.drew = wb at *
    have hM1 : WM W.heap.size g col1 wb S1 p1 := hM1dd
    have hw1 : White col w1 wb := hw1dd
    obtain ⟨i1, -⟩ := trT_inv hI1 (by omega) (s := 0) (by omega)
    obtain ⟨i2, -⟩ := trT_inv i1 (by omega) (s := 1) (by omega)
    obtain ⟨i3, -⟩ := deT0_inv i2 (by omega)
    obtain ⟨hI2, hrd⟩ := round_dec hI1 (by omega)
    go_upto_region 11 with (first | (go_at_call 59; (with_reducible refine (step_tr0 hM1 hI1 (by omega)).mono ?_); rintro en w3 ⟨-, rfl, col3, p3, hM3, hw3, hc3⟩; have hM3 : WM W.heap.size g col3 w3 (trT S1 0) p3 := hM3) | (go_at_call 59; (with_reducible refine (step_tr1 hM3 i1 (by omega)).mono ?_); rintro en w4 ⟨-, rfl, col4, p4, hM4, hw4, hc4⟩; have hM4 : WM W.heap.size g col4 w4 (trT (trT S1 0) 1) p4 := hM4) | (go_at_call 60; (with_reducible refine (step_de0 hM4 i2 (by omega)).mono ?_); rintro en w5 ⟨-, rfl, col5, p5, hM5, hw5, hc5⟩) | (go_at_call 60; (with_reducible refine (step_de1 hM5 i3 (by omega)).mono ?_); rintro en w6 ⟨-, rfl, col6, p6, hM6, hw6, hc6⟩))
    have hA3 := hw1.step hc1 hw3
    have cA3 := fun x (hx : x < w1.heap.size) (h0 : col x = 0) => hc3 x (Nat.lt_of_lt_of_le hx hw1.size) (hc1 x hx h0)
    have hA4 := hA3.step cA3 hw4
    have cA4 := fun x (hx : x < w1.heap.size) (h0 : col x = 0) => hc4 x (Nat.lt_of_lt_of_le hx hA3.size) (cA3 x hx h0)
    have hA5 := hA4.step cA4 hw5
    have cA5 := fun x (hx : x < w1.heap.size) (h0 : col x = 0) => hc5 x (Nat.lt_of_lt_of_le hx hA4.size) (cA4 x hx h0)
    have hA6 := hA5.step cA5 hw6
    have cA6 := fun x (hx : x < w1.heap.size) (h0 : col x = 0) => hc6 x (Nat.lt_of_lt_of_le hx hA5.size) (cA5 x hx h0)
    have hM2 : WM W.heap.size g col6 w6 (roundS S1) p6 := hM6
    clear hM3 hM4 hM5 hM6 hA3 hA4 hA5 cA3 cA4 cA5 hw3 hw4 hw5 hw6 hc3 hc4 hc5 hc6 i1 i2 i3 hM1 hM1d hM1dd hw1d hw1dd hw1 hc1
    obtain ⟨S2, hS2⟩ : ∃ S2, roundS S1 = S2 := ⟨_, rfl⟩
    rw [hS2] at hM2 hI2 hrd
    clear hS2
    have HRD := Lib.hid hrd
    clear hrd
    have hz0 := hI2.bY 0 (by omega)
    have hz1 := hI2.bY 1 (by omega)
    have hql0 := (hI2.g 0 (by omega)).ve.ql
    have hql1 := (hI2.g 1 (by omega)).ve.ql
    go_cut [128] from 24 to 128 (fun u wx => ∃ kb, u = .bool kb ∧ (kb = true → (∀ s, s < 2 → S2.Y s = []) ∧ ∀ s, s < 2 → (S2.E s).q = []) ∧ (kb = false → pot S2 < pot S1) ∧ Below w6.heap.size w6 wx)
    case first =>
      have hlg := hM2.lt
      have hM2d := hM2.drew
      have hA6d := hA6.trans (White.below ((Below.refl _ _).drew))
      obtain ⟨⟨y0, y1, v0, v1, t0, t1⟩, fz, e0, e1⟩ := hM2d.cells
      obtain ⟨sc0, sc1⟩ := hM2d.sent
      have hB0 : Below w6.heap.size w6 w6.drew := (Below.refl _ _).drew
      have hlg : g < w6.drew.heap.size := hlg
      have hw3 : IntKind.i64.wrap (((S2.Y 0).length : Int) + ((S2.Y 1).length : Int)) = ((S2.Y 0).length : Int) + ((S2.Y 1).length : Int) := by rw [IntKind.wrap_i64]; omega
      have hw4 : IntKind.i64.wrap (((S2.E 0).q.length : Int) + ((S2.E 1).q.length : Int)) = ((S2.E 0).q.length : Int) + ((S2.E 1).q.length : Int) := by rw [IntKind.wrap_i64]; omega
      have HPE0 := Lib.hid (WrS.pend (hI2.g 0 (by omega)))
      have HPE1 := Lib.hid (WrS.pend (hI2.g 1 (by omega)))
      have ty0 := (hI2.g 0 (by omega)).ty
      have ty1 := (hI2.g 1 (by omega)).ty
      by_cases k0 : ((S2.Y 0).length : Int) + ((S2.Y 1).length : Int) = 0
      rotate_left
      · have dk : (((S2.Y 0).length : Int) + ((S2.Y 1).length : Int) == 0) = false := by rw [beq_eq_false_iff_ne]; exact k0
        have HK := Lib.hid k0
        clear k0
        refine wp_region_told (n := 176) (fun w' => Below w6.drew.heap.size w6.drew w') (fun _ _ => True) (by kernel_rfl) (by kernel_rfl) (by rfl) (Below.refl _ _) ?_
        repeat (first | (refine walk_pure (v := ?_) (fun _ => trivial) (fun _ => rfl) ?_ ?_; rotate_left; (focus (intro us w9 hS9 hF; clear hF; have b20 := (hS9.cell (p := ⟨g, 20, none⟩) hlg).trans y0; have b21 := (hS9.cell (p := ⟨g, 21, none⟩) hlg).trans y1; have bs0 := (hS9.cell (p := ⟨g, 1, none⟩) hlg).trans sc0; have bs1 := (hS9.cell (p := ⟨g, 11, none⟩) hlg).trans sc1; go_simp; (try with_reducible rfl); done)); simp only [Act.put, List.setIfInBounds_toArray, List.set_cons_zero, List.set_cons_succ, Nat.reduceAdd]) | (refine walk_skip (fun _ => trivial) (fun _ => rfl) ?_; simp only [Act.put, List.setIfInBounds_toArray, List.set_cons_zero, List.set_cons_succ, Nat.reduceAdd]))
        refine walk_done fun us w9 hS9 hF => ?_
        clear hF y0 y1 v0 v1 t0 t1 fz e0 e1 sc0 sc1
        go_wp2
        go_meet
        exact ⟨false, rfl, (fun h => by cases h), (fun _ => by rcases HRD.out with h | ⟨h0, h1, h2, h3, h4⟩; exact h; exact absurd (by rw [h0, h1, h2]; rfl) HK.out), below_on hB0 hS9⟩
      have dk0 : (((S2.Y 0).length : Int) + ((S2.Y 1).length : Int) == 0) = true := by rw [beq_iff_eq]; exact k0
      have HK0 := Lib.hid k0
      clear k0
      by_cases k1 : ((S1.Y 0).length : Int) + ((S1.Y 1).length : Int) = 0
      rotate_left
      · have dk : (((S1.Y 0).length : Int) + ((S1.Y 1).length : Int) == 0) = false := by rw [beq_eq_false_iff_ne]; exact k1
        have HK := Lib.hid k1
        clear k1
        refine wp_region_told (n := 176) (fun w' => Below w6.drew.heap.size w6.drew w') (fun _ _ => True) (by kernel_rfl) (by kernel_rfl) (by rfl) (Below.refl _ _) ?_
        repeat (first | (refine walk_pure (v := ?_) (fun _ => trivial) (fun _ => rfl) ?_ ?_; rotate_left; (focus (intro us w9 hS9 hF; clear hF; have b20 := (hS9.cell (p := ⟨g, 20, none⟩) hlg).trans y0; have b21 := (hS9.cell (p := ⟨g, 21, none⟩) hlg).trans y1; have bs0 := (hS9.cell (p := ⟨g, 1, none⟩) hlg).trans sc0; have bs1 := (hS9.cell (p := ⟨g, 11, none⟩) hlg).trans sc1; go_simp; (try with_reducible rfl); done)); simp only [Act.put, List.setIfInBounds_toArray, List.set_cons_zero, List.set_cons_succ, Nat.reduceAdd]) | (refine walk_skip (fun _ => trivial) (fun _ => rfl) ?_; simp only [Act.put, List.setIfInBounds_toArray, List.set_cons_zero, List.set_cons_succ, Nat.reduceAdd]))
        refine walk_done fun us w9 hS9 hF => ?_
        clear hF y0 y1 v0 v1 t0 t1 fz e0 e1 sc0 sc1
        go_wp2
        go_meet
        exact ⟨false, rfl, (fun h => by cases h), (fun _ => by rcases HRD.out with h | ⟨h0, h1, h2, h3, h4⟩; exact h; exact absurd (by rw [h1, h2]; rfl) HK.out), below_on hB0 hS9⟩
      have dk1 : (((S1.Y 0).length : Int) + ((S1.Y 1).length : Int) == 0) = true := by rw [beq_iff_eq]; exact k1
      have HK1 := Lib.hid k1
      clear k1
      by_cases k2 : (S1.E 0).s = (S2.E 0).s
      rotate_left
      · have dk : ((S1.E 0).s == (S2.E 0).s) = false := by rw [beq_eq_false_iff_ne]; exact k2
        have HK := Lib.hid k2
        clear k2
        refine wp_region_told (n := 176) (fun w' => Below w6.drew.heap.size w6.drew w') (fun _ _ => True) (by kernel_rfl) (by kernel_rfl) (by rfl) (Below.refl _ _) ?_
        repeat (first | (refine walk_pure (v := ?_) (fun _ => trivial) (fun _ => rfl) ?_ ?_; rotate_left; (focus (intro us w9 hS9 hF; clear hF; have b20 := (hS9.cell (p := ⟨g, 20, none⟩) hlg).trans y0; have b21 := (hS9.cell (p := ⟨g, 21, none⟩) hlg).trans y1; have bs0 := (hS9.cell (p := ⟨g, 1, none⟩) hlg).trans sc0; have bs1 := (hS9.cell (p := ⟨g, 11, none⟩) hlg).trans sc1; go_simp; (try with_reducible rfl); done)); simp only [Act.put, List.setIfInBounds_toArray, List.set_cons_zero, List.set_cons_succ, Nat.reduceAdd]) | (refine walk_skip (fun _ => trivial) (fun _ => rfl) ?_; simp only [Act.put, List.setIfInBounds_toArray, List.set_cons_zero, List.set_cons_succ, Nat.reduceAdd]))
        refine walk_done fun us w9 hS9 hF => ?_
        clear hF y0 y1 v0 v1 t0 t1 fz e0 e1 sc0 sc1
        go_wp2
        go_meet
        exact ⟨false, rfl, (fun h => by cases h), (fun _ => by rcases HRD.out with h | ⟨h0, h1, h2, h3, h4⟩; exact h; exact absurd (by rw [h0]) HK.out), below_on hB0 hS9⟩
      have dk2 : ((S1.E 0).s == (S2.E 0).s) = true := by rw [beq_iff_eq]; exact k2
      have HK2 := Lib.hid k2
      clear k2
      by_cases k3 : (S1.E 1).s = (S2.E 1).s
      rotate_left
      · have dk : ((S1.E 1).s == (S2.E 1).s) = false := by rw [beq_eq_false_iff_ne]; exact k3
        have HK := Lib.hid k3
        clear k3
        refine wp_region_told (n := 176) (fun w' => Below w6.drew.heap.size w6.drew w') (fun _ _ => True) (by kernel_rfl) (by kernel_rfl) (by rfl) (Below.refl _ _) ?_
        repeat (first | (refine walk_pure (v := ?_) (fun _ => trivial) (fun _ => rfl) ?_ ?_; rotate_left; (focus (intro us w9 hS9 hF; clear hF; have b20 := (hS9.cell (p := ⟨g, 20, none⟩) hlg).trans y0; have b21 := (hS9.cell (p := ⟨g, 21, none⟩) hlg).trans y1; have bs0 := (hS9.cell (p := ⟨g, 1, none⟩) hlg).trans sc0; have bs1 := (hS9.cell (p := ⟨g, 11, none⟩) hlg).trans sc1; go_simp; (try with_reducible rfl); done)); simp only [Act.put, List.setIfInBounds_toArray, List.set_cons_zero, List.set_cons_succ, Nat.reduceAdd]) | (refine walk_skip (fun _ => trivial) (fun _ => rfl) ?_; simp only [Act.put, List.setIfInBounds_toArray, List.set_cons_zero, List.set_cons_succ, Nat.reduceAdd]))
        refine walk_done fun us w9 hS9 hF => ?_
        clear hF y0 y1 v0 v1 t0 t1 fz e0 e1 sc0 sc1
        go_wp2
        go_meet
        exact ⟨false, rfl, (fun h => by cases h), (fun _ => by rcases HRD.out with h | ⟨h0, h1, h2, h3, h4⟩; exact h; exact absurd (by rw [h0]) HK.out), below_on hB0 hS9⟩
      have dk3 : ((S1.E 1).s == (S2.E 1).s) = true := by rw [beq_iff_eq]; exact k3
      have HK3 := Lib.hid k3
      clear k3
      by_cases k4 : ((S2.E 0).q.length : Int) + ((S2.E 1).q.length : Int) = 0
      rotate_left
      · have dk : (((S2.E 0).q.length : Int) + ((S2.E 1).q.length : Int) == 0) = false := by rw [beq_eq_false_iff_ne]; exact k4
        have HK := Lib.hid k4
        clear k4
        refine wp_region_told (n := 176) (fun w' => Below w6.drew.heap.size w6.drew w') (fun _ _ => True) (by kernel_rfl) (by kernel_rfl) (by rfl) (Below.refl _ _) ?_
        repeat (first | (refine walk_pure (v := ?_) (fun _ => trivial) (fun _ => rfl) ?_ ?_; rotate_left; (focus (intro us w9 hS9 hF; clear hF; have b20 := (hS9.cell (p := ⟨g, 20, none⟩) hlg).trans y0; have b21 := (hS9.cell (p := ⟨g, 21, none⟩) hlg).trans y1; have bs0 := (hS9.cell (p := ⟨g, 1, none⟩) hlg).trans sc0; have bs1 := (hS9.cell (p := ⟨g, 11, none⟩) hlg).trans sc1; go_simp; (try with_reducible rfl); done)); simp only [Act.put, List.setIfInBounds_toArray, List.set_cons_zero, List.set_cons_succ, Nat.reduceAdd]) | (refine walk_skip (fun _ => trivial) (fun _ => rfl) ?_; simp only [Act.put, List.setIfInBounds_toArray, List.set_cons_zero, List.set_cons_succ, Nat.reduceAdd]))
        refine walk_pure (v := .agg (LEV (S2.E 0) (p6.A 0) (p6.c 0) (p6.B 0) (p6.d 0))) (fun _ => trivial) (fun _ => rfl) ?_ ?_; (focus (intro us w9 hS9 hF; exact exec_load_g (fun j v hv => (hS9.cell (p := ⟨g, 0 + j, none⟩) hlg).trans (e0 j v hv)) Try.underlying69 rfl (lev_info _ _ _ _ _) rfl)); simp only [Act.put, List.setIfInBounds_toArray, List.set_cons_zero, List.set_cons_succ, Nat.reduceAdd]
        refine walk_fix (v := .int .i64 ((S2.E 0).q.length : Int)) ?_ ?_; (focus (intro us w9 hS9 hF K hK; clear hF; go_simp; refine (pend_is HPE0.out ty0 ((hM2d.held 0 (by omega)).now.below hS9)).mono ?_; rintro en w' ⟨rfl, hb⟩; exact hK _ (below_on hS9 hb) trivial)); simp only [Act.put, List.setIfInBounds_toArray, List.set_cons_zero, List.set_cons_succ, Nat.reduceAdd]
        repeat (first | (refine walk_pure (v := ?_) (fun _ => trivial) (fun _ => rfl) ?_ ?_; rotate_left; (focus (intro us w9 hS9 hF; clear hF; have b20 := (hS9.cell (p := ⟨g, 20, none⟩) hlg).trans y0; have b21 := (hS9.cell (p := ⟨g, 21, none⟩) hlg).trans y1; have bs0 := (hS9.cell (p := ⟨g, 1, none⟩) hlg).trans sc0; have bs1 := (hS9.cell (p := ⟨g, 11, none⟩) hlg).trans sc1; go_simp; (try with_reducible rfl); done)); simp only [Act.put, List.setIfInBounds_toArray, List.set_cons_zero, List.set_cons_succ, Nat.reduceAdd]) | (refine walk_skip (fun _ => trivial) (fun _ => rfl) ?_; simp only [Act.put, List.setIfInBounds_toArray, List.set_cons_zero, List.set_cons_succ, Nat.reduceAdd]))
        refine walk_pure (v := .agg (LEV (S2.E 1) (p6.A 1) (p6.c 1) (p6.B 1) (p6.d 1))) (fun _ => trivial) (fun _ => rfl) ?_ ?_; (focus (intro us w9 hS9 hF; exact exec_load_g (fun j v hv => (hS9.cell (p := ⟨g, 10 + j, none⟩) hlg).trans (e1 j v hv)) Try.underlying69 rfl (lev_info _ _ _ _ _) rfl)); simp only [Act.put, List.setIfInBounds_toArray, List.set_cons_zero, List.set_cons_succ, Nat.reduceAdd]
        refine walk_fix (v := .int .i64 ((S2.E 1).q.length : Int)) ?_ ?_; (focus (intro us w9 hS9 hF K hK; clear hF; go_simp; refine (pend_is HPE1.out ty1 ((hM2d.held 1 (by omega)).now.below hS9)).mono ?_; rintro en w' ⟨rfl, hb⟩; exact hK _ (below_on hS9 hb) trivial)); simp only [Act.put, List.setIfInBounds_toArray, List.set_cons_zero, List.set_cons_succ, Nat.reduceAdd]
        repeat (first | (refine walk_pure (v := ?_) (fun _ => trivial) (fun _ => rfl) ?_ ?_; rotate_left; (focus (intro us w9 hS9 hF; clear hF; have b20 := (hS9.cell (p := ⟨g, 20, none⟩) hlg).trans y0; have b21 := (hS9.cell (p := ⟨g, 21, none⟩) hlg).trans y1; have bs0 := (hS9.cell (p := ⟨g, 1, none⟩) hlg).trans sc0; have bs1 := (hS9.cell (p := ⟨g, 11, none⟩) hlg).trans sc1; go_simp; (try with_reducible rfl); done)); simp only [Act.put, List.setIfInBounds_toArray, List.set_cons_zero, List.set_cons_succ, Nat.reduceAdd]) | (refine walk_skip (fun _ => trivial) (fun _ => rfl) ?_; simp only [Act.put, List.setIfInBounds_toArray, List.set_cons_zero, List.set_cons_succ, Nat.reduceAdd]))
        refine walk_done fun us w9 hS9 hF => ?_
        clear hF y0 y1 v0 v1 t0 t1 fz e0 e1 sc0 sc1
        go_wp2
        go_meet
        exact ⟨false, rfl, (fun h => by cases h), (fun _ => by rcases HRD.out with h | ⟨h0, h1, h2, h3, h4⟩; exact h; exact absurd (by rw [h0, h3, h4]; rfl) HK.out), below_on hB0 hS9⟩
      have dk4 : (((S2.E 0).q.length : Int) + ((S2.E 1).q.length : Int) == 0) = true := by rw [beq_iff_eq]; exact k4
      have HK4 := Lib.hid k4
      clear k4
      refine wp_region_told (n := 176) (fun w' => Below w6.drew.heap.size w6.drew w') (fun _ _ => True) (by kernel_rfl) (by kernel_rfl) (by rfl) (Below.refl _ _) ?_
      repeat (first | (refine walk_pure (v := ?_) (fun _ => trivial) (fun _ => rfl) ?_ ?_; rotate_left; (focus (intro us w9 hS9 hF; clear hF; have b20 := (hS9.cell (p := ⟨g, 20, none⟩) hlg).trans y0; have b21 := (hS9.cell (p := ⟨g, 21, none⟩) hlg).trans y1; have bs0 := (hS9.cell (p := ⟨g, 1, none⟩) hlg).trans sc0; have bs1 := (hS9.cell (p := ⟨g, 11, none⟩) hlg).trans sc1; go_simp; (try with_reducible rfl); done)); simp only [Act.put, List.setIfInBounds_toArray, List.set_cons_zero, List.set_cons_succ, Nat.reduceAdd]) | (refine walk_skip (fun _ => trivial) (fun _ => rfl) ?_; simp only [Act.put, List.setIfInBounds_toArray, List.set_cons_zero, List.set_cons_succ, Nat.reduceAdd]))
      refine walk_pure (v := .agg (LEV (S2.E 0) (p6.A 0) (p6.c 0) (p6.B 0) (p6.d 0))) (fun _ => trivial) (fun _ => rfl) ?_ ?_; (focus (intro us w9 hS9 hF; exact exec_load_g (fun j v hv => (hS9.cell (p := ⟨g, 0 + j, none⟩) hlg).trans (e0 j v hv)) Try.underlying69 rfl (lev_info _ _ _ _ _) rfl)); simp only [Act.put, List.setIfInBounds_toArray, List.set_cons_zero, List.set_cons_succ, Nat.reduceAdd]
      refine walk_fix (v := .int .i64 ((S2.E 0).q.length : Int)) ?_ ?_; (focus (intro us w9 hS9 hF K hK; clear hF; go_simp; refine (pend_is HPE0.out ty0 ((hM2d.held 0 (by omega)).now.below hS9)).mono ?_; rintro en w' ⟨rfl, hb⟩; exact hK _ (below_on hS9 hb) trivial)); simp only [Act.put, List.setIfInBounds_toArray, List.set_cons_zero, List.set_cons_succ, Nat.reduceAdd]
      repeat (first | (refine walk_pure (v := ?_) (fun _ => trivial) (fun _ => rfl) ?_ ?_; rotate_left; (focus (intro us w9 hS9 hF; clear hF; have b20 := (hS9.cell (p := ⟨g, 20, none⟩) hlg).trans y0; have b21 := (hS9.cell (p := ⟨g, 21, none⟩) hlg).trans y1; have bs0 := (hS9.cell (p := ⟨g, 1, none⟩) hlg).trans sc0; have bs1 := (hS9.cell (p := ⟨g, 11, none⟩) hlg).trans sc1; go_simp; (try with_reducible rfl); done)); simp only [Act.put, List.setIfInBounds_toArray, List.set_cons_zero, List.set_cons_succ, Nat.reduceAdd]) | (refine walk_skip (fun _ => trivial) (fun _ => rfl) ?_; simp only [Act.put, List.setIfInBounds_toArray, List.set_cons_zero, List.set_cons_succ, Nat.reduceAdd]))
      refine walk_pure (v := .agg (LEV (S2.E 1) (p6.A 1) (p6.c 1) (p6.B 1) (p6.d 1))) (fun _ => trivial) (fun _ => rfl) ?_ ?_; (focus (intro us w9 hS9 hF; exact exec_load_g (fun j v hv => (hS9.cell (p := ⟨g, 10 + j, none⟩) hlg).trans (e1 j v hv)) Try.underlying69 rfl (lev_info _ _ _ _ _) rfl)); simp only [Act.put, List.setIfInBounds_toArray, List.set_cons_zero, List.set_cons_succ, Nat.reduceAdd]
      refine walk_fix (v := .int .i64 ((S2.E 1).q.length : Int)) ?_ ?_; (focus (intro us w9 hS9 hF K hK; clear hF; go_simp; refine (pend_is HPE1.out ty1 ((hM2d.held 1 (by omega)).now.below hS9)).mono ?_; rintro en w' ⟨rfl, hb⟩; exact hK _ (below_on hS9 hb) trivial)); simp only [Act.put, List.setIfInBounds_toArray, List.set_cons_zero, List.set_cons_succ, Nat.reduceAdd]
      repeat (first | (refine walk_pure (v := ?_) (fun _ => trivial) (fun _ => rfl) ?_ ?_; rotate_left; (focus (intro us w9 hS9 hF; clear hF; have b20 := (hS9.cell (p := ⟨g, 20, none⟩) hlg).trans y0; have b21 := (hS9.cell (p := ⟨g, 21, none⟩) hlg).trans y1; have bs0 := (hS9.cell (p := ⟨g, 1, none⟩) hlg).trans sc0; have bs1 := (hS9.cell (p := ⟨g, 11, none⟩) hlg).trans sc1; go_simp; (try with_reducible rfl); done)); simp only [Act.put, List.setIfInBounds_toArray, List.set_cons_zero, List.set_cons_succ, Nat.reduceAdd]) | (refine walk_skip (fun _ => trivial) (fun _ => rfl) ?_; simp only [Act.put, List.setIfInBounds_toArray, List.set_cons_zero, List.set_cons_succ, Nat.reduceAdd]))
      refine walk_done fun us w9 hS9 hF => ?_
      clear hF y0 y1 v0 v1 t0 t1 fz e0 e1 sc0 sc1
      go_wp2
      go_meet
      exact ⟨true, rfl, (fun _ => ⟨fun s hs => List.eq_nil_of_length_eq_zero (by have := HK0.out; rcases (by omega : s = 0 ∨ s = 1) with rfl | rfl <;> omega), fun s hs => List.eq_nil_of_length_eq_zero (by have := HK4.out; rcases (by omega : s = 0 ∨ s = 1) with rfl | rfl <;> omega)⟩), (fun h => by cases h), below_on hB0 hS9⟩
    case rest =>
    obtain ⟨kb, rfl, hk1, hk2, hb7⟩ := hcut
    have hM7 := hM2.below hb7
    have hA7 := hA6.step cA6 (White.below (col := col6) hb7)
    clear hM2 hA6 hb7 HRD hz0 hz1 hql0 hql1
    cases kb
    · have hpl := hk2 rfl
      clear hk1 hk2
      go_wp2
      exact ⟨⟨r + 1, S2, col6, p6, by go_num, hI2.mono (by omega), by omega, hM7, hA7, cA6⟩, by simp [intOf]; omega⟩
    · obtain ⟨hYe, hqe⟩ := hk1 rfl
      clear hk2
      have h0 := all_come hI2 hYe hqe (s := 0) (by omega)
      have h1 := all_come hI2 hYe hqe (s := 1) (by omega)
      have hT0 : S2.T 0 = (S2.V 1).length := h0.1
      have hT1 : S2.T 1 = (S2.V 0).length := h1.1
      have HI0 := Lib.hid h0.2
      have HI1 := Lib.hid h1.2
      have ty0 := (hI2.g 0 (by omega)).ty
      have ty1 := (hI2.g 1 (by omega)).ty
      clear h0 h1 hYe hqe hk1
      have hlg := hM7.lt
      have hBc := hMb.white hA7 hB1
      clear hA7 hMb hB1
      go_upto_region 12 with (fail)
      obtain ⟨⟨y0, y1, v0, v1, t0, t1⟩, fz, e0, e1⟩ := hM7.drew.cells
      have hM7d := hM7.drew
      have hlg : g < wc.drew.heap.size := hlg
      have hBc : Below W.heap.size W wc.drew := hBc.drew
      refine wp_region_told (n := 176) (fun w' => Below wc.drew.heap.size wc.drew w') (fun _ _ => True) (by kernel_rfl) (by kernel_rfl) (by rfl) (Below.refl _ _) ?_
      repeat (first | (refine walk_pure (v := ?_) (fun _ => trivial) (fun _ => rfl) ?_ ?_; rotate_left; (focus (intro us w9 hS9 hF; clear hF; have b22 := (hS9.cell (p := ⟨g, 22, none⟩) hlg).trans v0; have b23 := (hS9.cell (p := ⟨g, 23, none⟩) hlg).trans v1; have b24 := (hS9.cell (p := ⟨g, 24, none⟩) hlg).trans t0; have b25 := (hS9.cell (p := ⟨g, 25, none⟩) hlg).trans t1; go_simp; (try with_reducible rfl); done)); simp only [Act.put, List.setIfInBounds_toArray, List.set_cons_zero, List.set_cons_succ, Nat.reduceAdd]) | (refine walk_skip (fun _ => trivial) (fun _ => rfl) ?_; simp only [Act.put, List.setIfInBounds_toArray, List.set_cons_zero, List.set_cons_succ, Nat.reduceAdd]))
      refine walk_pure (v := .agg (LEV (S2.E 0) (p6.A 0) (p6.c 0) (p6.B 0) (p6.d 0))) (fun _ => trivial) (fun _ => rfl) ?_ ?_; (focus (intro us w9 hS9 hF; exact exec_load_g (fun j v hv => (hS9.cell (p := ⟨g, 0 + j, none⟩) hlg).trans (e0 j v hv)) Try.underlying69 rfl (lev_info _ _ _ _ _) rfl)); simp only [Act.put, List.setIfInBounds_toArray, List.set_cons_zero, List.set_cons_succ, Nat.reduceAdd]
      refine walk_fix (v := .bool true) ?_ ?_; (focus (intro us w9 hS9 hF K hK; clear hF; go_simp; refine (idle_is HI0.out ty0 ((hM7d.held 0 (by omega)).now.below hS9)).mono ?_; rintro en w' ⟨rfl, hb⟩; exact hK _ (below_on hS9 hb) trivial)); simp only [Act.put, List.setIfInBounds_toArray, List.set_cons_zero, List.set_cons_succ, Nat.reduceAdd]
      repeat (first | (refine walk_pure (v := ?_) (fun _ => trivial) (fun _ => rfl) ?_ ?_; rotate_left; (focus (intro us w9 hS9 hF; clear hF; have b22 := (hS9.cell (p := ⟨g, 22, none⟩) hlg).trans v0; have b23 := (hS9.cell (p := ⟨g, 23, none⟩) hlg).trans v1; have b24 := (hS9.cell (p := ⟨g, 24, none⟩) hlg).trans t0; have b25 := (hS9.cell (p := ⟨g, 25, none⟩) hlg).trans t1; go_simp; (try with_reducible rfl); done)); simp only [Act.put, List.setIfInBounds_toArray, List.set_cons_zero, List.set_cons_succ, Nat.reduceAdd]) | (refine walk_skip (fun _ => trivial) (fun _ => rfl) ?_; simp only [Act.put, List.setIfInBounds_toArray, List.set_cons_zero, List.set_cons_succ, Nat.reduceAdd]))
      refine walk_pure (v := .agg (LEV (S2.E 1) (p6.A 1) (p6.c 1) (p6.B 1) (p6.d 1))) (fun _ => trivial) (fun _ => rfl) ?_ ?_; (focus (intro us w9 hS9 hF; exact exec_load_g (fun j v hv => (hS9.cell (p := ⟨g, 10 + j, none⟩) hlg).trans (e1 j v hv)) Try.underlying69 rfl (lev_info _ _ _ _ _) rfl)); simp only [Act.put, List.setIfInBounds_toArray, List.set_cons_zero, List.set_cons_succ, Nat.reduceAdd]
      refine walk_fix (v := .bool true) ?_ ?_; (focus (intro us w9 hS9 hF K hK; clear hF; go_simp; refine (idle_is HI1.out ty1 ((hM7d.held 1 (by omega)).now.below hS9)).mono ?_; rintro en w' ⟨rfl, hb⟩; exact hK _ (below_on hS9 hb) trivial)); simp only [Act.put, List.setIfInBounds_toArray, List.set_cons_zero, List.set_cons_succ, Nat.reduceAdd]
      repeat (first | (refine walk_pure (v := ?_) (fun _ => trivial) (fun _ => rfl) ?_ ?_; rotate_left; (focus (intro us w9 hS9 hF; clear hF; have b22 := (hS9.cell (p := ⟨g, 22, none⟩) hlg).trans v0; have b23 := (hS9.cell (p := ⟨g, 23, none⟩) hlg).trans v1; have b24 := (hS9.cell (p := ⟨g, 24, none⟩) hlg).trans t0; have b25 := (hS9.cell (p := ⟨g, 25, none⟩) hlg).trans t1; go_simp; (try with_reducible rfl); done)); simp only [Act.put, List.setIfInBounds_toArray, List.set_cons_zero, List.set_cons_succ, Nat.reduceAdd]) | (refine walk_skip (fun _ => trivial) (fun _ => rfl) ?_; simp only [Act.put, List.setIfInBounds_toArray, List.set_cons_zero, List.set_cons_succ, Nat.reduceAdd]))
      refine walk_fix (v := .bool true) ?_ ?_; (focus (intro us w9 hS9 hF K hK; clear hF; go_simp; refine (awake20 _).mono ?_; rintro en w' ⟨rfl, hb⟩; exact hK _ (below_on hS9 hb) trivial)); simp only [Act.put, List.setIfInBounds_toArray, List.set_cons_zero, List.set_cons_succ, Nat.reduceAdd]
      repeat (first | (refine walk_pure (v := ?_) (fun _ => trivial) (fun _ => rfl) ?_ ?_; rotate_left; (focus (intro us w9 hS9 hF; clear hF; have b22 := (hS9.cell (p := ⟨g, 22, none⟩) hlg).trans v0; have b23 := (hS9.cell (p := ⟨g, 23, none⟩) hlg).trans v1; have b24 := (hS9.cell (p := ⟨g, 24, none⟩) hlg).trans t0; have b25 := (hS9.cell (p := ⟨g, 25, none⟩) hlg).trans t1; go_simp; (try with_reducible rfl); done)); simp only [Act.put, List.setIfInBounds_toArray, List.set_cons_zero, List.set_cons_succ, Nat.reduceAdd]) | (refine walk_skip (fun _ => trivial) (fun _ => rfl) ?_; simp only [Act.put, List.setIfInBounds_toArray, List.set_cons_zero, List.set_cons_succ, Nat.reduceAdd]))
      refine walk_done fun us w9 hS9 hF => ?_
      clear hF y0 y1 v0 v1 t0 t1 fz e0 e1
      go_wp2
      go_ret
      exact ⟨rfl, below_on hBc hS9⟩
end Go.Proofs.Ythjkhambmgepdaa

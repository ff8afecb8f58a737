/- Texts Fe Lm Fo Fn Opl, without what this claim does not use. -/
import Derived.Deep.Fields
import Derived.Deep.Matrix
import Derived.Deep.SlicePairs
import Derived.Lib.SmallJoins
import Derived.OpenShut
import Derived.Test.YthjkhambmgepdaaKas
import Derived.Test.YthjkhambmgepdaaKav
namespace Go.Proofs.Ythjkhambmgepdaa
section
open Go.RowKit
set_option linter.unusedVariables false
set_option linter.unusedSimpArgs false
/-- What few says of an end that it lets pass. -/
def FewP (e : LE) (W : World) (en : Ending) (W' : World) : Prop := ∃ b : Bool, en = .returned (.bool b) ∧ (b = true → e.q.length ≤ 70 ∧ e.pt.length ≤ 2000 ∧ ∀ m ∈ e.q, m.length ≤ 2000) ∧ Below W.heap.size W W'
theorem few_no {e : LE} {W W' : World} (hb : Below W.heap.size W W') : FewP e W (.returned (.bool false)) W' := ⟨false, rfl, (fun h => by cases h), hb⟩
set_option maxRecDepth 100000 in
set_option maxHeartbeats 8000000 in
theorem few_q (e : LE) (A B : Option Addr) (c d : Nat) (W : World) (hH : Held W e A c B d) (h : 70 < e.q.length) : Calls Try.prog 46 #[.agg (LEV e A c B d)] W (FewP e W) := by
  have d1 : decide (70 < e.q.length) = true := decide_eq_true (by omega)
  have d1i : decide ((70 : Int) < (e.q.length : Int)) = true := decide_eq_true (by omega)
  have hB1 := (Below.refl W.heap.size W).alloc (Nat.le_refl _) (.cells (LEV e A c B d) 69)
  have r1 := Row.born W 69 (LEV e A c B d)
  go_enter Try.func46, Try.ntmps46
  go_upto_region 1 with (fail)
  generalize W.alloc (.cells (LEV e A c B d) 69) = w1 at *
  have c5 : w1.cell? ⟨W.heap.size, 5, none⟩ = some (.slice A e.q.length c) := r1.cell 5
  have c8 : w1.cell? ⟨W.heap.size, 8, none⟩ = some (.slice B e.pt.length d) := r1.cell 8
  go_wp2
  go_ret
  exact few_no hB1
set_option maxRecDepth 100000 in
set_option maxHeartbeats 8000000 in
theorem few_p (e : LE) (A B : Option Addr) (c d : Nat) (W : World) (hH : Held W e A c B d) (h1 : e.q.length ≤ 70) (h : 2000 < e.pt.length) : Calls Try.prog 46 #[.agg (LEV e A c B d)] W (FewP e W) := by
  have d1 : decide (70 < e.q.length) = false := decide_eq_false (by omega)
  have d1i : decide ((70 : Int) < (e.q.length : Int)) = false := decide_eq_false (by omega)
  have d2 : decide (2000 < e.pt.length) = true := decide_eq_true (by omega)
  have d2i : decide ((2000 : Int) < (e.pt.length : Int)) = true := decide_eq_true (by omega)
  have hB1 := (Below.refl W.heap.size W).alloc (Nat.le_refl _) (.cells (LEV e A c B d) 69)
  have r1 := Row.born W 69 (LEV e A c B d)
  go_enter Try.func46, Try.ntmps46
  go_upto_region 1 with (fail)
  generalize W.alloc (.cells (LEV e A c B d) 69) = w1 at *
  have c5 : w1.cell? ⟨W.heap.size, 5, none⟩ = some (.slice A e.q.length c) := r1.cell 5
  have c8 : w1.cell? ⟨W.heap.size, 8, none⟩ = some (.slice B e.pt.length d) := r1.cell 8
  go_wp2
  go_ret
  exact few_no hB1
set_option maxRecDepth 100000 in
set_option maxHeartbeats 8000000 in
theorem few_ok (e : LE) (A B : Option Addr) (c d : Nat) (W : World) (hH : Held W e A c B d) (h1 : e.q.length ≤ 70) (h2 : e.pt.length ≤ 2000) : Calls Try.prog 46 #[.agg (LEV e A c B d)] W (FewP e W) := by
  have d1 : decide (70 < e.q.length) = false := decide_eq_false (by omega)
  have d1i : decide ((70 : Int) < (e.q.length : Int)) = false := decide_eq_false (by omega)
  have d2 : decide (2000 < e.pt.length) = false := decide_eq_false (by omega)
  have d2i : decide ((2000 : Int) < (e.pt.length : Int)) = false := decide_eq_false (by omega)
  have hB1 := (Below.refl W.heap.size W).alloc (Nat.le_refl _) (.cells (LEV e A c B d) 69)
  have r1 := Row.born W 69 (LEV e A c B d)
  go_enter Try.func46, Try.ntmps46
  go_upto_region 1 with (fail)
  generalize W.alloc (.cells (LEV e A c B d) 69) = w1 at *
  have c5 : w1.cell? ⟨W.heap.size, 5, none⟩ = some (.slice A e.q.length c) := r1.cell 5
  have c8 : w1.cell? ⟨W.heap.size, 8, none⟩ = some (.slice B e.pt.length d) := r1.cell 8
  have hq1 := hH.q.below hB1
  go_upto_region 5 with (fail)
  clear d1 d1i d2 d2i c8
  go_loop [3, 4] (fun n i => ∃ (j v : Nat), j ≤ e.q.length ∧ v ≤ 2000 * j ∧ n = .int .i64 v ∧ i = .int .i64 j ∧ ∀ k (h : k < e.q.length), k < j → (e.q[k]).length ≤ 2000) (fun n i => e.q.length - (intOf i).toNat)
  case atStart => exact ⟨0, 0, by omega, by omega, rfl, rfl, fun k h h2 => by omega⟩
  case round =>
    obtain ⟨j, v, hj, hv, rfl, rfl, hall⟩ := hrel
    rcases Nat.lt_or_ge j e.q.length with hjl | hjl
    · have hd1 : decide (j < e.q.length) = true := by simpa using hjl
      have hji : (j : Int) < e.q.length := by omega
      obtain ⟨b, o, hA, hrow⟩ := hq1.2 (by omega)
      subst hA
      obtain ⟨Ar, Cr, x, -, -, -⟩ := hrow j hjl
      have hnew := fun (h : (e.q[j]).length ≤ 2000) => (fun k (h3 : k < e.q.length) (h4 : k < j + 1) => (by
        rcases Nat.lt_or_ge k j with h5 | h5
        · exact hall k h3 h5
        · obtain rfl : k = j := by omega
          exact h : (e.q[k]).length ≤ 2000))
      have HN := Lib.hid hnew
      clear hrow hnew hall
      generalize hL : e.q[j].length = L at x
      by_cases hL2 : 2000 < L
      · have hd2 : decide (2000 < L) = true := by simpa using hL2
        have hd2i : decide ((2000 : Int) < (L : Int)) = true := decide_eq_true (by omega)
        clear hL hL2 HN
        go_wp2
        go_ret
        exact few_no hB1
      · have hd2 : decide (2000 < L) = false := by simpa using hL2
        have hd2i : decide ((2000 : Int) < (L : Int)) = false := decide_eq_false (by omega)
        have HL := Lib.hid (show e.q[j].length ≤ 2000 by omega)
        have hw : IntKind.i64.wrap ((v : Int) + (L : Int)) = ((v + L : Nat) : Int) := by rw [IntKind.wrap_i64]; omega
        clear hL
        go_wp2
        go_round
        case rel => exact ⟨j + 1, v + L, by omega, by omega, by first | rfl | (rw [hw]) | (congr 1; omega), by go_num, HN.out HL.out⟩
        case measure => simp [intOf]; omega
    · have hd1 : decide (e.q.length < e.q.length) = false := by simp
      have hd3 : decide (j < e.q.length) = false := by simpa using hjl
      have hm : ∀ m ∈ e.q, m.length ≤ 2000 := fun m hm => by
        obtain ⟨k, hk, rfl⟩ := List.getElem_of_mem hm
        exact hall k hk (by omega)
      have HM := Lib.hid hm
      clear hm hall
      cases hz : decide ((v : Int) ≤ 6000)
      all_goals
        go_wp2
        go_ret
        exact ⟨_, rfl, fun _ => ⟨h1, h2, HM.out⟩, hB1⟩
theorem few_ref (e : LE) (A B : Option Addr) (c d : Nat) (W : World) (hH : Held W e A c B d) : Calls Try.prog 46 #[.agg (LEV e A c B d)] W (FewP e W) := by
  rcases Nat.lt_or_ge 70 e.q.length with h1 | h1
  · exact few_q e A B c d W hH h1
  rcases Nat.lt_or_ge 2000 e.pt.length with h2 | h2
  · exact few_p e A B c d W hH h1 h2
  exact few_ok e A B c d W hH h1 h2
end
section
open Go.RowKit
set_option linter.unusedVariables false
def zer (n : Nat) : List UInt8 := List.replicate n 0
def aw1 : LE := { newL 4 with q := [zer 100] }
def aw2 : LE := ⟨4, 1, 0, 4, 0, [zer 100], 52, -1, [], 0⟩
def aw3 : LE := ⟨4, 2, 0, 4, 0, [], -1, -1, [], 0⟩
def awL1 : Array Value := LV 1 true true 56 0 (frP aw1 ++ z56.drop (frP aw1).length)
def awL2 : Array Value := LV 1 true false 48 0 (frP aw2 ++ z56.drop (frP aw2).length)
theorem ty_new (n : Int) : (newL n).ty := ⟨by simp [newL], by simp [newL], by simp [newL], by simp [newL], by simp [newL], by simp [newL], by simp [newL], by simp [newL], by simp [newL], by simp [newL], by simp [newL], by simp [newL], by simp [newL], by simp [newL], by simp [newL]⟩
theorem ty_aw1 : aw1.ty := ⟨by decide, by decide, by decide, by decide, by decide, by decide, by decide, by decide, by decide, by decide, by decide, by decide, by decide, by simp [aw1, zer], by decide⟩
theorem ty_aw2 : aw2.ty := ⟨by decide, by decide, by decide, by decide, by decide, by decide, by decide, by decide, by decide, by decide, by decide, by decide, by decide, by simp [aw2, zer], by decide⟩
theorem ty_aw3 : aw3.ty := ⟨by decide, by decide, by decide, by decide, by decide, by decide, by decide, by decide, by decide, by decide, by decide, by decide, by decide, by simp [aw3], by decide⟩
theorem aw_e0 : enqE (newL 4) (zer 100) = 0 := by decide +kernel
theorem aw_l0 : enqL (newL 4) (zer 100) = aw1 := by unfold enqL; rw [if_pos aw_e0]; rfl
theorem aw_e1 : nxE aw1 = 0 := by decide +kernel
theorem aw_e2 : nxE aw2 = 0 := by decide +kernel
theorem aw_e3 : nxE aw3 = 17 := by decide +kernel
theorem aw_g1 : nxGo aw1 = true := by decide +kernel
theorem aw_g2 : nxGo aw2 = true := by decide +kernel
theorem aw_n1 : nxG aw1 = aw2 := by kernel_rfl
theorem aw_n2 : nxG aw2 = aw3 := by kernel_rfl
theorem aw_l1 : nxL aw1 = aw2 := by unfold nxL; rw [if_pos aw_e1, if_pos aw_g1, aw_n1]
theorem aw_l2 : nxL aw2 = aw3 := by unfold nxL; rw [if_pos aw_e2, if_pos aw_g2, aw_n2]
theorem aw_l3 : nxL aw3 = zeL := by unfold nxL; rw [if_neg (by rw [aw_e3]; decide)]
theorem aw_d1 : nxD aw1 = awL1 := by kernel_rfl
theorem aw_d2 : nxD aw2 = awL2 := by kernel_rfl
theorem aw_v1 : nxV aw1 = awL1 := by unfold nxV; rw [if_pos aw_e1, if_pos aw_g1, aw_d1]
theorem aw_v2 : nxV aw2 = awL2 := by unfold nxV; rw [if_pos aw_e2, if_pos aw_g2, aw_d2]
theorem aw_v3 : nxV aw3 = ZL := by unfold nxV; rw [if_neg (by rw [aw_e3]; decide)]
theorem aw_i3 : idleE aw3 = true := by decide +kernel
theorem aw_p1 : (frP aw1 ++ z56.drop (frP aw1).length).length = 56 := by decide +kernel
theorem aw_p2 : (frP aw2 ++ z56.drop (frP aw2).length).length = 56 := by decide +kernel
theorem awL1_sz : awL1.size = 61 := LV_size _ _ _ _ _ aw_p1
theorem awL1_info : (Try.prog.info? 40).map (·.size) = some awL1.size := line_info _ _ _ _ _ aw_p1
theorem awL1_one : awL1.all (·.oneCell') = true := LV_one _ _ _ _ _ _
theorem awL2_sz : awL2.size = 61 := LV_size _ _ _ _ _ aw_p2
theorem awL2_info : (Try.prog.info? 40).map (·.size) = some awL2.size := line_info _ _ _ _ _ aw_p2
theorem awL2_one : awL2.all (·.oneCell') = true := LV_one _ _ _ _ _ _
theorem vl4 : vl 4 = true := by decide
/-- The end's variable in block g: its cells, and that what they name does not lie there. -/
def EvI (w : World) (g : Nat) (e : LE) (A : Option Addr) (c : Nat) (B : Option Addr) (d : Nat) : Prop := Row w g 69 (LEV e A c B d) ∧ ∃ lo hi, (g < lo ∨ hi ≤ g) ∧ HeldI w lo hi e A c B d
theorem EvI.below {w w' : World} {g : Nat} {e : LE} {A B : Option Addr} {c d : Nat} (h : EvI w g e A c B d) (hb : Below w.heap.size w w') : EvI w' g e A c B d := by
  obtain ⟨h1, lo, hi, h2, h3⟩ := h
  exact ⟨h1.below hb h1.lt, lo, hi, h2, h3.below hb⟩
theorem EvI.held {w : World} {g : Nat} {e : LE} {A B : Option Addr} {c d : Nat} (h : EvI w g e A c B d) : Held w e A c B d := by
  obtain ⟨h1, lo, hi, h2, h3⟩ := h
  exact h3.held
/-- Stored behind a call. -/
theorem EvI.put {w0 w1 w2 : World} {g : Nat} {e : LE} {A B : Option Addr} {c d : Nat} (hg : g < w0.heap.size) (h : HeldI w1 w0.heap.size w1.heap.size e A c B d) (hb : Below w1.heap.size w1 w2) {w3 : World} (u : Upd w2 w3 g) (r : Row w3 g 69 (LEV e A c B d)) : EvI w3 g e A c B d :=
  ⟨r, _, _, .inl hg, (h.below hb).upd u (.inl hg)⟩
set_option maxRecDepth 100000 in
set_option maxHeartbeats 8000000 in
theorem awake20 (W : World) : Calls Try.prog 44 #[] W (True1 W) := by
  go_enter Try.func44, Try.ntmps44
  go_upto_region 2 with (first | (go_at_call 41; refine (new_is vl4 _).mono ?_; rintro en w1 ⟨rfl, hb⟩) | ((with_reducible refine wp_row_store (L := LEV (newL 4) none 0 none 0) (Row.bornAt (g := w1.heap.size) rfl 69 _) ?_ (lev_info _ _ _ _ _) (lev_one _ _ _ _ _) ?_ ?_ ?_); rfl; rfl; rfl; intro wa ua ra))
  have hBW := Upd.below (hb.trans (((Below.refl w1.heap.size w1).alloc (Nat.le_refl _) _).mono hb.size)) ua hb.size
  have hgW := hb.size
  have hg1 := ra.lt
  generalize w1.heap.size = g1 at *
  clear hb ua
  have hBW : Below W.heap.size W wa.drew := hBW.drew
  have hg1 : g1 < wa.drew.heap.size := hg1
  have hev : EvI wa.drew g1 (newL 4) none 0 none 0 := ⟨ra, 0, 0, .inr (Nat.zero_le _), Nat.zero_le _, fun w' _ => held_new 4 w'⟩
  obtain ⟨w1, hw1⟩ : ∃ w1, wa.drew = w1 := ⟨_, rfl⟩
  refine wp_region_late (n := 80) [1, 2, 3, 4, 6] (Ch5 (fun w => Below wa.drew.heap.size wa.drew w ∧ EvI w g1 (newL 4) none 0 none 0) 1 (fun u w => Below wa.drew.heap.size wa.drew w ∧ EvI w g1 (newL 4) none 0 none 0 ∧ CpB 100 (zer 100) u w) 2 (fun u w => Below wa.drew.heap.size wa.drew w ∧ Row w g1 69 (LEV (newL 4) none 0 none 0) ∧ ∃ A c B d, u = .tuple #[.agg (LEV aw1 A c B d), .int .i64 0] ∧ HeldI w wa.drew.heap.size w.heap.size aw1 A c B d) 3 (fun u w => Below wa.drew.heap.size wa.drew w ∧ Row w g1 69 (LEV (newL 4) none 0 none 0) ∧ ∃ A c B d, u = .tuple #[.agg (LEV aw1 A c B d), .int .i64 0] ∧ HeldI w wa.drew.heap.size w.heap.size aw1 A c B d) 4 (fun u w => Below wa.drew.heap.size wa.drew w ∧ Row w g1 69 (LEV (newL 4) none 0 none 0) ∧ ∃ A c B d, u = .agg (LEV aw1 A c B d) ∧ HeldI w wa.drew.heap.size w.heap.size aw1 A c B d) 4 (fun _ w => Below W.heap.size W w ∧ ∃ A c B d, EvI w g1 aw1 A c B d)) (fun _ _ => True) (by kernel_rfl) (by kernel_rfl) (by rfl) (Ch5.loc (by decide) (by decide) (by decide) (by decide) (fun c hc => mayAt_no (d := 4) (by kernel_rfl) (by omega) (by decide))) (Ch5.zero ⟨Below.refl _ _, hev⟩) ?_
  refine late_pure (by simp) (fun _ => trivial) (v := .agg (LEV (newL 4) none 0 none 0)) (fun _ => rfl) ?_ ?_; (focus (intro c9 us w9 hm9 hS9 hF; have hc9 : c9 < 2 := (by rcases Nat.lt_or_ge c9 2 with h9 | h9; exact h9; exact absurd hm9 (by rw [mayAt_no (d := 1) (by kernel_rfl) (by omega) (by decide)]; decide)); have hrow : Row w9 g1 69 (LEV (newL 4) none 0 none 0) := (by rcases (show c9 = 0 ∨ c9 = 1 by omega) with h | h; exact (hS9.1 h).2.1; exact (hS9.2.1 h).2.1.1); exact exec_load_g hrow.range Try.underlying69 rfl (lev_info _ _ _ _ _) rfl)); simp only [Act.put, List.setIfInBounds_toArray, List.set_cons_zero, List.set_cons_succ, Nat.reduceAdd]
  refine late_chain_is (fun _ => True) (by simp) ?_ ?_; (focus (intro us w9 hS9 hF K hK; clear hF; have h0 := hS9.1 rfl; rw [if_pos (by rfl)]; exact step_make (P := Try.prog) 100 Try.underlying44 info_b (by decide) (by decide) rfl rfl rfl rfl (fun w' h1 h2 => hK _ w' trivial (Ch5.one ⟨below_on h0.1 h2, h0.2.below h2, ⟨some ⟨w9.heap.size, 0, none⟩, 100, by simp, Nat.le_refl _, h1⟩⟩) trivial))); simp only [Act.put, List.setIfInBounds_toArray, List.set_cons_zero, List.set_cons_succ, Nat.reduceAdd]
  refine late_chain_is (fun _ => True) (by simp) ?_ ?_; (focus (intro us w9 hS9 hF K hK; clear hF; obtain ⟨hb0, hev9, A9, c9, hu, hc9, hI⟩ := hS9.2.1 rfl; simp only [hu] at hK ⊢; go_simp; refine (enq_is aw_e0 aw_l0 (by simp [zer]) (ty_new 4) hev9.held hI).mono ?_; rintro en w' ⟨A, c, B, d, rfl, hH, hb⟩; exact hK _ w' trivial (Ch5.two ⟨below_on hb0 hb, hev9.1.below hb hev9.1.lt, A, c, B, d, by simp, hH.lower hb0.size⟩) trivial)); simp only [Act.put, List.setIfInBounds_toArray, List.set_cons_zero, List.set_cons_succ, Nat.reduceAdd]
  refine late_chain_is (fun u => ∃ X, u = .tuple #[X, .int .i64 0]) (by simp) ?_ ?_; (focus (intro us w9 hS9 hF K hK; clear hF; obtain ⟨hb0, hr, A, c, B, d, hu, hH⟩ := hS9.2.2.1 rfl; simp only [hu] at hK ⊢; go_simp; exact hK _ w9 ⟨_, rfl⟩ (Ch5.three ⟨hb0, hr, A, c, B, d, by simp, hH⟩) trivial)); simp only [Act.put, List.setIfInBounds_toArray, List.set_cons_zero, List.set_cons_succ, Nat.reduceAdd]
  refine late_chain_is (fun _ => True) (by simp) ?_ ?_; (focus (intro us w9 hS9 hF K hK; clear hF; obtain ⟨hb0, hr, A, c, B, d, hu, hH⟩ := hS9.2.2.2.1 rfl; simp only [hu] at hK ⊢; go_simp; exact hK _ w9 trivial (Ch5.four ⟨hb0, hr, A, c, B, d, by simp, hH⟩) trivial)); simp only [Act.put, List.setIfInBounds_toArray, List.set_cons_zero, List.set_cons_succ, Nat.reduceAdd]
  refine late_pure (by simp) (fun _ => trivial) (v := .int .i64 0) (fun _ => rfl) ?_ ?_; (focus (intro c9 us w9 hm9 hS9 hF; obtain ⟨X, hu⟩ := hF (3, fun u _ => ∃ X, u = .tuple #[X, .int .i64 0]) (by simp) (by kernel_rfl); dsimp only at hu; simp only [hu]; go_simp)); simp only [Act.put, List.setIfInBounds_toArray, List.set_cons_zero, List.set_cons_succ, Nat.reduceAdd]
  refine late_store rfl ?_ ?_; (focus (intro us w9 hS9 hF K hK; clear hF; obtain ⟨hb0, hr, A, c, B, d, hu, hH⟩ := hS9.2.2.2.2.1 rfl; simp only [hu] at hK ⊢; rw [if_pos (by rfl)]; exact step_put (L := LEV aw1 A c B d) hr rfl (lev_info _ _ _ _ _) (lev_one _ _ _ _ _) rfl rfl (fun w' u' r' => hK w' (Ch5.five ⟨Upd.below (hBW.trans (hb0.mono hBW.size)) u' hgW, A, c, B, d, r', _, _, .inl hg1, hH.upd u' (.inl hg1)⟩) trivial))); simp only [Nat.reduceAdd]
  refine late_pure (by simp) (fun _ => trivial) (v := ?_) (fun _ => rfl) ?_ ?_; rotate_left; (focus (intro c9 us w9 hm9 hS9 hF; clear hF hm9; go_simp; (try with_reducible rfl); done)); simp only [Act.put, List.setIfInBounds_toArray, List.set_cons_zero, List.set_cons_succ, Nat.reduceAdd]
  refine late_done fun us2 w2 hS2 hF => ?_
  obtain ⟨hB2, A2, c2, B2, d2, hev2⟩ := hS2.2.2.2.2.2 (by omega)
  clear hF hS2
  clear hev hBW hw1
  have rv2 := hev2.1
  have hh2 := hev2.held
  go_upto_region 4 with (first | ((with_reducible refine wp_load_g ?_ rv2.range Try.underlying69 rfl (lev_info _ _ _ _ _) ?_ ?_); rfl; rfl) | (go_at_call 45; refine (next_is aw_e1 aw_l1 aw_v1 ty_aw1 hh2).mono ?_; rintro en w3 ⟨A3, c3, B3, d3, rfl, hH3, hb3⟩; have r3 := rv2.below hb3 rv2.lt) | ((with_reducible refine wp_row_store (L := LEV aw2 A3 c3 B3 d3) (r3.alloc _) ?_ (lev_info _ _ _ _ _) (lev_one _ _ _ _ _) ?_ ?_ ?_); rfl; rfl; rfl; intro w4 u4 r4) | ((with_reducible refine wp_row_store (L := awL1) ((Row.bornAt (g := w3.heap.size) rfl 40 _).upd u4 (by have := r3.lt; omega)) ?_ awL1_info awL1_one ?_ ?_ ?_); exact awL1_sz.symm; rfl; rfl; intro w5 u5 r5))
  have hal := (Below.refl w3.heap.size w3).alloc (Nat.le_refl _) (.cells ZL 40)
  have hgl := rv2.lt
  have hg3 := hb3.size
  have hB3 : Below W.heap.size W w5 := Upd.below (Upd.below (hB2.trans ((hb3.trans (hal.mono hb3.size)).mono hB2.size)) u4 hgW) u5 (by have := hB2.size; omega)
  have hev3 : EvI w5 g1 aw2 A3 c3 B3 d3 := ⟨r4.upd u5 (by omega), _, _, .inl hgl, ((hH3.below hal).upd u4 (.inl hgl)).upd u5 (.inr (Nat.le_refl _))⟩
  have rl1 := r5
  have hgl1 : g1 < w3.heap.size := by omega
  generalize w3.heap.size = gl1 at *
  clear r3 r4 u4 u5 hal hb3 hH3 hh2 rv2 hev2 hg3 hgl
  generalize w5 = w6 at *
  have rv3 := hev3.1
  have hh3 := hev3.held
  go_upto_region 5 with (first | ((with_reducible refine wp_load_g ?_ rv3.range Try.underlying69 rfl (lev_info _ _ _ _ _) ?_ ?_); rfl; rfl) | (go_at_call 45; refine (next_is aw_e2 aw_l2 aw_v2 ty_aw2 hh3).mono ?_; rintro en w7 ⟨A5, c5, B5, d5, rfl, hH5, hb5⟩; have r7 := rv3.below hb5 rv3.lt) | ((with_reducible refine wp_row_store (L := LEV aw3 A5 c5 B5 d5) (r7.alloc _) ?_ (lev_info _ _ _ _ _) (lev_one _ _ _ _ _) ?_ ?_ ?_); rfl; rfl; rfl; intro w8 u8 r8) | ((with_reducible refine wp_row_store (L := awL2) ((Row.bornAt (g := w7.heap.size) rfl 40 _).upd u8 (by have := r7.lt; omega)) ?_ awL2_info awL2_one ?_ ?_ ?_); exact awL2_sz.symm; rfl; rfl; intro w9 u9 r9))
  have hal := (Below.refl w7.heap.size w7).alloc (Nat.le_refl _) (.cells ZL 40)
  have hgl := rv3.lt
  have hg3 := hb5.size
  have hB4 : Below W.heap.size W w9 := Upd.below (Upd.below (hB3.trans ((hb5.trans (hal.mono hb5.size)).mono hB3.size)) u8 hgW) u9 (by have := hB3.size; omega)
  have hev4 : EvI w9 g1 aw3 A5 c5 B5 d5 := ⟨r8.upd u9 (by omega), _, _, .inl hgl, ((hH5.below hal).upd u8 (.inl hgl)).upd u9 (.inr (Nat.le_refl _))⟩
  have hl1 := rl1.lt
  have rl1 := rl1.below ((hb5.trans (hal.mono hb5.size))) rl1.lt
  have rl1 := (rl1.upd u8 (by omega)).upd u9 (by omega)
  have rl2 := r9
  generalize w7.heap.size = gl2 at *
  clear r7 r8 r9 u8 u9 hal hb5 hH5 hh3 rv3 hev3 hg3 hgl
  have rv4 := hev4.1
  have hh4 := hev4.held
  go_upto_region 6 with (first | ((with_reducible refine wp_load_g ?_ rv4.range Try.underlying69 rfl (lev_info _ _ _ _ _) ?_ ?_); rfl; rfl) | (go_at_call 45; refine (next_is aw_e3 aw_l3 aw_v3 ty_aw3 hh4).mono ?_; rintro en w3 ⟨A7, c7, B7, d7, rfl, hH7, hb7⟩) | ((with_reducible refine wp_row_store (L := LEV zeL A7 c7 B7 d7) ((Row.bornAt (g := w3.heap.size) rfl 69 _).alloc _) ?_ (lev_info _ _ _ _ _) (lev_one _ _ _ _ _) ?_ ?_ ?_); rfl; rfl; rfl; intro w4 u4 r4) | ((with_reducible refine wp_row_store (L := ZL) ((Row.bornAt (g := w3.heap.size + 1) (by simp) 40 _).upd u4 (by omega)) ?_ zl_info zl_one ?_ ?_ ?_); exact zl_61.symm; rfl; rfl; intro w5 u5 r5))
  have hal := ((Below.refl w3.heap.size w3).alloc (Nat.le_refl _) (.cells ZE 69)).alloc (by simp) (.cells ZL 40)
  have hal2 := Upd.below (Upd.below (hb7.trans (hal.mono hb7.size)) u4 hb7.size) u5 (by have := hb7.size; omega)
  have hev5 := hev4.below hal2
  have hB5 := hB4.trans (hal2.mono hB4.size)
  have rl1 := rl1.below hal2 rl1.lt
  have rl2 := rl2.below hal2 rl2.lt
  clear hal hal2 hb7 hH7 u4 u5 r4 r5 hev4 rv4 hh4 hB4
  have rv5 := hev5.1
  have hh5 := hev5.held
  obtain ⟨-, -, k2, k3, -⟩ := line_cells (show Row w5 gl1 40 (LV 1 true true 56 0 (frP aw1 ++ z56.drop (frP aw1).length)) from rl1)
  obtain ⟨-, -, m2, m3, -⟩ := line_cells (show Row w5 gl2 40 (LV 1 true false 48 0 (frP aw2 ++ z56.drop (frP aw2).length)) from rl2)
  go_wp2_with (first | ((with_reducible refine wp_load_g ?_ rv5.range Try.underlying69 rfl (lev_info _ _ _ _ _) ?_ ?_); rfl; rfl) | (go_at_call 54; refine (idle_is aw_i3 ty_aw3 hh5).mono ?_; rintro en wz ⟨rfl, hbz⟩))
  go_ret
  exact ⟨rfl, hB5.trans (hbz.mono hB5.size)⟩
end
section
open Go.RowKit Go.Deep Go.ChangeShapes Go.WideShapes
set_option linter.unusedVariables false
set_option linter.unusedSimpArgs false
theorem cellsK3 : Try.prog.cellsOf 3 = 1 := by kernel_rfl
theorem cellsK22 : Try.prog.cellsOf 22 = 1 := by kernel_rfl
theorem cellsK44 : Try.prog.cellsOf 44 = 1 := by kernel_rfl
theorem cellsK67 : Try.prog.cellsOf 67 = 1 := by kernel_rfl
theorem cellsK27 : Try.prog.cellsOf 27 = 3 := by kernel_rfl
theorem cellsK35 : Try.prog.cellsOf 35 = 2 := by kernel_rfl
theorem cellsK69 : Try.prog.cellsOf 69 = 10 := by kernel_rfl
/-- What the types say of an end's numbers. -/
structure LE.nums (e : LE) : Prop where
  s0 : 0 ≤ e.s
  s1 : e.s < 18446744073709551616
  a0 : 0 ≤ e.a
  a1 : e.a < 18446744073709551616
  r0 : 0 ≤ e.rc
  r1 : e.rc < 18446744073709551616
  t0 : 0 ≤ e.told
  t1 : e.told < 18446744073709551616
  o0 : -9223372036854775808 ≤ e.off
  o1 : e.off < 9223372036854775808
  w0 : -9223372036854775808 ≤ e.want
  w1 : e.want < 9223372036854775808
theorem wf_i64K {n : Int} (h : (Lit.int .i64 n).wf = true) : -9223372036854775808 ≤ n ∧ n < 9223372036854775808 := by
  simp [Lit.wf, IntKind.min, IntKind.max, IntKind.bits, IntKind.signed] at h
  omega
theorem wf_u64K {n : Int} (h : (Lit.int .u64 n).wf = true) : 0 ≤ n ∧ n < 18446744073709551616 := by
  simp [Lit.wf, IntKind.min, IntKind.max, IntKind.bits, IntKind.signed] at h
  omega
section
variable {H : Type} {enc : TypeId × Value → H} {W : World} {base : Nat} {held : Bool}
set_option maxRecDepth 100000 in
theorem bytes_slK {spare : Nat → Bool} {n : Nat} {l : List Value} {y : DataW H × List MemPlace} (h : DataW.trod enc Try.prog W base spare held n 44 l = some y) : ∃ A len c bs, l = [.slice A len c] ∧ IsB W A len bs ∧ len ≤ c := by
  rcases open_ints Try.underlying44 Try.underlying5 (by kernel_rfl) h with ⟨rfl, _⟩ | ⟨x, len, c, zs, rfl, _, hl, hm, hz, _, hcell, hwz⟩
  · exact ⟨none, 0, 0, [], rfl, IsB.nil _ _, Nat.le_refl _⟩
  · have hz' : len ≤ zs.length := by rw [hz]; split <;> omega
    refine ⟨some x, len, c, (zs.take len).map (fun z => UInt8.ofNat z.toNat), rfl, ⟨by simp; omega, fun hn => ?_⟩, hl⟩
    have h0 := hcell 0 (by omega)
    obtain ⟨b, o, sp⟩ := x
    have hsp : sp = none := by simpa [Addr.add] using World.cell?_spot h0
    subst hsp
    refine ⟨b, o, rfl, fun i hi => ?_⟩
    have hi' : i < zs.length := by simp at hi; omega
    have := hcell i hi'
    rw [Addr.add_mid] at this
    rw [this]
    have hg : zs.getD i 0 = zs[i] := by simp [hi']
    have hwi := wf_u8 (hwz zs[i] (List.getElem_mem hi'))
    rw [hg]
    congr 2
    simp only [List.getElem_map, List.getElem_take, UInt8.toNat_ofNat']
    omega
set_option maxRecDepth 100000 in
theorem mat_sl {n : Nat} {l : List Value} {y : DataW H × List MemPlace} (h : DataW.trod enc Try.prog W base (fun _ => true) held n 67 l = some y) : ∃ A len c q, l = [.slice A len c] ∧ IsM W A len q ∧ len ≤ c := by
  rcases Go.Deep.open_int_rows Try.underlying67 Try.underlying44 Try.underlying5 (by kernel_rfl) (by kernel_rfl) h with ⟨rfl, _⟩ | ⟨x, l, c, A, L, C, Z, rfl, _, hl, hm, _, hr⟩
  · exact ⟨none, 0, 0, [], rfl, ⟨rfl, fun h => absurd h (by omega)⟩, Nat.le_refl _⟩
  · have hR : IsRows .u8 W (some x) l c A L C Z := by
      refine .inr ⟨x, rfl, hl, hm, fun r hrc => ?_⟩
      obtain ⟨r1, r2, r3, r4, r5, r6, r7⟩ := hr r hrc
      refine ⟨r1, ?_⟩
      cases hA : A r with
      | none =>
        have h0 := r6 hA
        exact .inl ⟨rfl, by omega, h0, List.eq_nil_of_length_eq_zero (by omega)⟩
      | some y => exact .inr ⟨y, rfl, r2, r3, r4, fun i hi => (r7 y hA).2 i (by omega), r5⟩
    obtain ⟨q, hq, -⟩ := hR.isM
    exact ⟨some x, l, c, q, rfl, hq, hl⟩
set_option maxRecDepth 100000 in
theorem out_sl {spare : Nat → Bool} {n : Nat} {l : List Value} {y : DataW H × List MemPlace} (h : DataW.trod enc Try.prog W base spare held n 27 l = some y) : ∃ a b c : Int, l = [.int .i64 a, .int .u64 b, .int .u64 c] ∧ (0 ≤ b ∧ b < 18446744073709551616) ∧ (0 ≤ c ∧ c < 18446744073709551616) := by
  obtain ⟨xs, k, _, _, hlen, hxl, hf⟩ := DataW.trod_struct Try.underlying27 h
  rw [cellsK27] at hlen
  match xs, hxl, l, hlen with
  | [x0, x1, x2], _, [c0, c1, c2], hlen =>
    have g0 := hf 0 _ rfl
    have g1 := hf 1 _ rfl
    have g2 := hf 2 _ rfl
    simp [cellsK3, cellsK22] at g0 g1 g2
    obtain ⟨z0, e0, _, _⟩ := DataW.trod_int Try.underlying3 g0
    obtain ⟨z1, e1, _, w1⟩ := DataW.trod_int Try.underlying22 g1
    obtain ⟨z2, e2, _, w2⟩ := DataW.trod_int Try.underlying22 g2
    simp only [List.cons.injEq, and_true] at e0 e1 e2
    exact ⟨z0, z1, z2, by rw [e0, e1, e2], wf_u64K w1, wf_u64K w2⟩
set_option maxRecDepth 100000 in
theorem in_sl {spare : Nat → Bool} {n : Nat} {l : List Value} {y : DataW H × List MemPlace} (h : DataW.trod enc Try.prog W base spare held n 35 l = some y) : ∃ a b : Int, l = [.int .i64 a, .int .u64 b] ∧ (0 ≤ b ∧ b < 18446744073709551616) := by
  obtain ⟨xs, k, _, _, hlen, hxl, hf⟩ := DataW.trod_struct Try.underlying35 h
  rw [cellsK35] at hlen
  match xs, hxl, l, hlen with
  | [x0, x1], _, [c0, c1], hlen =>
    have g0 := hf 0 _ rfl
    have g1 := hf 1 _ rfl
    simp [cellsK3, cellsK22] at g0 g1
    obtain ⟨z0, e0, _, _⟩ := DataW.trod_int Try.underlying3 g0
    obtain ⟨z1, e1, _, w1⟩ := DataW.trod_int Try.underlying22 g1
    simp only [List.cons.injEq, and_true] at e0 e1
    exact ⟨z0, z1, by rw [e0, e1], wf_u64K w1⟩
set_option maxRecDepth 100000 in
theorem end_of {n : Nat} {cs : List Value} {y : DataW H × List MemPlace} (h : DataW.trod enc Try.prog W base (fun _ => true) held n 69 cs = some y) : ∃ (e : LE) (A : Option Addr) (c : Nat) (B : Option Addr) (d : Nat), cs = (LEV e A c B d).toList ∧ Held W e A c B d ∧ e.nums := by
  obtain ⟨xs, k, _, _, hlen, hxl, hf⟩ := DataW.trod_struct Try.underlying69 h
  rw [cellsK69] at hlen
  match xs, hxl, cs, hlen with
  | [x0, x1, x2, x3, x4, x5, x6], _, [c0, c1, c2, c3, c4, c5, c6, c7, c8, c9], hlen =>
    have g0 := hf 0 _ rfl
    have g1 := hf 1 _ rfl
    have g2 := hf 2 _ rfl
    have g3 := hf 3 _ rfl
    have g4 := hf 4 _ rfl
    have g5 := hf 5 _ rfl
    have g6 := hf 6 _ rfl
    simp [cellsK3, cellsK22, cellsK44, cellsK67, cellsK27, cellsK35] at g0 g1 g2 g3 g4 g5 g6
    obtain ⟨n1, s1, a1, e0, hs, ha⟩ := out_sl g0
    obtain ⟨n2, r2, e1, hr⟩ := in_sl g1
    obtain ⟨A, la, c, q, e2, hA, hAc⟩ := mat_sl g2
    obtain ⟨z3, e3, _, w3⟩ := DataW.trod_int Try.underlying3 g3
    obtain ⟨z4, e4, _, w4⟩ := DataW.trod_int Try.underlying3 g4
    obtain ⟨B, lb, d, bs, e5, hB, hBd⟩ := bytes_slK g5
    obtain ⟨z6, e6, _, w6⟩ := DataW.trod_int Try.underlying22 g6
    simp only [List.cons.injEq, and_true] at e0 e1 e2 e3 e4 e5 e6
    obtain rfl := hA.1
    obtain rfl := hB.1
    have t3 := wf_i64K w3
    have t4 := wf_i64K w4
    have t6 := wf_u64K w6
    exact ⟨⟨n1, s1, a1, n2, r2, q, z3, z4, bs, z6⟩, A, c, B, d, by rw [e0.1, e0.2.1, e0.2.2, e1.1, e1.2, e2, e3, e4, e5, e6]; rfl, ⟨hA, hAc, hB, hBd⟩, ⟨hs.1, hs.2, ha.1, ha.2, hr.1, hr.2, t6.1, t6.2, t3.1, t3.2, t4.1, t4.2⟩⟩
set_option maxRecDepth 100000 in
theorem open_end {rc : Reach} {b0 : Nat} {v : Value} {dt : DataW H} {p : List MemPlace} (hv : Value.okWide Try.prog W rc b0 69 v) (h : DataW.Trod enc Try.prog W base (fun _ => true) held 69 v dt p) :
    ∃ (e : LE) (A : Option Addr) (c : Nat) (B : Option Addr) (d : Nat), v = .agg (LEV e A c B d) ∧ Held W e A c B d ∧ e.nums := by
  obtain ⟨cs, rfl, hsz⟩ := okWide_struct Try.underlying69 hv
  obtain ⟨fuel, hf⟩ := h
  obtain ⟨e, A, c, B, d, h1, h2, h3⟩ := end_of hf
  refine ⟨e, A, c, B, d, ?_, h2, h3⟩
  have h4 : cs.toList = (LEV e A c B d).toList := h1
  rw [Array.toList_inj.1 h4]
end
end
section
open Go.RowKit
set_option linter.unusedVariables false
set_option linter.unusedSimpArgs false
/-- The queue and the part in memory that no box is part of. -/
def HV (w : World) (v : LE) (A : Option Addr) (c : Nat) (B : Option Addr) (d : Nat) : Prop := ∃ lo hi, HeldI w lo hi v A c B d
theorem HV.below {w w' : World} {v : LE} {A B : Option Addr} {c d : Nat} (h : HV w v A c B d) (hb : Below w.heap.size w w') : HV w' v A c B d := by
  obtain ⟨lo, hi, h⟩ := h
  exact ⟨lo, hi, h.below hb⟩
theorem HV.keeps {ts : List TypeId} {w w' : World} {v : LE} {A B : Option Addr} {c d : Nat} (h : HV w v A c B d) (k : Keeps ts w w') (n5 : 5 ∉ ts) (n44 : 44 ∉ ts) : HV w' v A c B d := by
  obtain ⟨lo, hi, h⟩ := h
  exact ⟨lo, hi, h.keeps k n5 n44⟩
theorem HV.held {w : World} {v : LE} {A B : Option Addr} {c d : Nat} (h : HV w v A c B d) : Held w v A c B d := by
  obtain ⟨lo, hi, h⟩ := h
  exact h.held
theorem HV.zero {v : LE} (h : ∀ w, Held w v none 0 none 0) (w : World) : HV w v none 0 none 0 := ⟨0, 0, Nat.zero_le _, fun w' _ => h w'⟩
/-- A box that holds an end. -/
def SL (w : World) (g : Nat) (v : LE) : Prop := ∃ A c B d, Row w g 69 (LEV v A c B d) ∧ HV w v A c B d
theorem SL.below {w w' : World} {g : Nat} {v : LE} (h : SL w g v) (hb : Below w.heap.size w w') : SL w' g v := by
  obtain ⟨A, c, B, d, r, h⟩ := h
  exact ⟨A, c, B, d, r.below hb r.lt, h.below hb⟩
theorem SL.lt {w : World} {g : Nat} {v : LE} (h : SL w g v) : g < w.heap.size := by
  obtain ⟨A, c, B, d, r, h⟩ := h
  exact r.lt
def ER (w : World) (g : Nat) : Prop := ∃ v A c B d, Row w g 69 (LEV v A c B d)
/-- How the law's drawn region may change memory. -/
structure G9 (w w' : World) : Prop where
  k : Keeps [69, 40] w w'
  u : ∀ b, ER w b → ER w' b
theorem G9.refl (w : World) : G9 w w := ⟨Keeps.refl _ _, fun _ h => h⟩
theorem G9.below {w w' : World} (h : Below w.heap.size w w') : G9 w w' := ⟨Keeps.below h, fun b ⟨v, A, c, B, d, hr⟩ => ⟨v, A, c, B, d, hr.below h hr.lt⟩⟩
theorem G9.put {w w' : World} {b : Nat} {v : LE} {A B : Option Addr} {c d : Nat} (h : ER w b) (u : Upd w w' b) (hr : Row w' b 69 (LEV v A c B d)) : G9 w w' := by
  obtain ⟨v0, A0, c0, B0, d0, r0⟩ := h
  refine ⟨Keeps.upd u r0 (by simp), fun b' h' => ?_⟩
  by_cases hb : b' = b
  · subst hb
    exact ⟨v, A, c, B, d, hr⟩
  · obtain ⟨v1, A1, c1, B1, d1, r1⟩ := h'
    exact ⟨v1, A1, c1, B1, d1, r1.upd u hb⟩
def EvE (v : LE) (u : Value) (w : World) : Prop := ∃ A c B d, u = .agg (LEV v A c B d) ∧ HV w v A c B d
theorem EvE.mono {v : LE} (u : Value) (w w' : World) (hg : G9 w w') (h : EvE v u w) : EvE v u w' := by
  obtain ⟨A, c, B, d, h1, h2⟩ := h
  exact ⟨A, c, B, d, h1, h2.keeps hg.k (by decide) (by decide)⟩
def TuE (v : LE) (x : Int) (u : Value) (w : World) : Prop := ∃ A c B d, u = .tuple #[.agg (LEV v A c B d), .int .i64 x] ∧ HV w v A c B d
theorem TuE.mono {v : LE} {x : Int} (u : Value) (w w' : World) (hg : G9 w w') (h : TuE v x u w) : TuE v x u w' := by
  obtain ⟨A, c, B, d, h1, h2⟩ := h
  exact ⟨A, c, B, d, h1, h2.keeps hg.k (by decide) (by decide)⟩
def CyO (bs : List UInt8) (u : Value) (w : World) : Prop := ∃ base D dc, u = .slice D bs.length dc ∧ OwnB w base 5 D bs.length dc bs
theorem CyO.mono {bs : List UInt8} (u : Value) (w w' : World) (hg : G9 w w') (h : CyO bs u w) : CyO bs u w' := by
  obtain ⟨base, D, dc, h1, h2⟩ := h
  exact ⟨base, D, dc, h1, h2.keeps hg.k (by decide)⟩
def PtE (base : Nat) (u : Value) (w : World) : Prop := ∃ g, u = .pointer (some ⟨g, 0, none⟩) ∧ base ≤ g ∧ ER w g
theorem PtE.mono {base : Nat} (u : Value) (w w' : World) (hg : G9 w w') (h : PtE base u w) : PtE base u w' := by
  obtain ⟨g, h1, h2, h3⟩ := h
  exact ⟨g, h1, h2, hg.u g h3⟩
/-- The chain of the drawn region which stores an end in a new box (number ia allocates it). -/
def EnS (w0 : World) (ia : Nat) (v : LE) (k : Nat) (us : Nat → Value) (w : World) : Prop := Below w0.heap.size w0 w ∧ (1 ≤ k → ∃ g, us ia = .pointer (some ⟨g, 0, none⟩) ∧ w0.heap.size ≤ g ∧ SL w g v)
theorem EnS.loc {w0 : World} {ia is : Nat} {v : LE} {ops : Array Oper} (hw : waits (opOf ops is) ia = true) : ∀ c us us' w, (∀ k, mayAt ops [is] c k = false ∨ k ∈ [is].take c → us k = us' k) → EnS w0 ia v c us w → EnS w0 ia v c us' w := by
  intro c us us' w hk ⟨a, b⟩
  refine ⟨a, fun hc => ?_⟩
  rw [← hk ia (.inl (mayAt_no (d := 0) hw (by omega) (by simp)))]
  exact b hc
-- the contracts
def NwC (F : Nat) (n : Int) (v : LE) (x : Int) : Prop := ∀ W : World, Calls Try.prog F #[.int .i64 n] W (fun en W' => en = .returned (.tuple #[.agg (LEV v none 0 none 0), .int .i64 x]) ∧ Below W.heap.size W W')
def EqC (F : Nat) (e : LE) (m : List UInt8) (v : LE) (x : Int) : Prop := ∀ (W : World) (A : Option Addr) (c : Nat) (B : Option Addr) (d : Nat) (M : Option Addr) (mc : Nat), Held W e A c B d → IsB W M m.length m →
  Calls Try.prog F #[.agg (LEV e A c B d), .slice M m.length mc] W (fun en W' => ∃ A c B d, en = .returned (.tuple #[.agg (LEV v A c B d), .int .i64 x]) ∧ HV W' v A c B d ∧ Below W.heap.size W W')
def NtC (F : Nat) (e v : LE) (L : Array Value) (x : Int) : Prop := ∀ (W : World) (A : Option Addr) (c : Nat) (B : Option Addr) (d : Nat), Held W e A c B d →
  Calls Try.prog F #[.agg (LEV e A c B d)] W (fun en W' => ∃ A c B d, en = .returned (.tuple #[.agg (LEV v A c B d), .agg L, .int .i64 x]) ∧ HV W' v A c B d ∧ Below W.heap.size W W')
def DlC (F : Nat) (e : LE) (l : Array Value) (v : LE) (bs : List UInt8) (t : Bool) (x : Int) : Prop := ∀ (W : World) (A : Option Addr) (c : Nat) (B : Option Addr) (d : Nat), Held W e A c B d →
  Calls Try.prog F #[.agg (LEV e A c B d), .agg l] W (fun en W' => ∃ A c B d M mc, en = .returned (.tuple #[.agg (LEV v A c B d), .slice M bs.length mc, .bool t, .int .i64 x]) ∧ HV W' v A c B d ∧ IsB W' M bs.length bs ∧ Below W.heap.size W W')
def IdC (F : Nat) (e : LE) (t : Bool) : Prop := ∀ (W : World) (A : Option Addr) (c : Nat) (B : Option Addr) (d : Nat), Held W e A c B d → Calls Try.prog F #[.agg (LEV e A c B d)] W (fun en W' => en = .returned (.bool t) ∧ Below W.heap.size W W')
def PdC (F : Nat) (e : LE) (n : Int) : Prop := ∀ (W : World) (A : Option Addr) (c : Nat) (B : Option Addr) (d : Nat), Held W e A c B d → Calls Try.prog F #[.agg (LEV e A c B d)] W (fun en W' => en = .returned (.int .i64 n) ∧ Below W.heap.size W W')
theorem nx_line (e : LE) (hp : vE e = true → 0 < e.q.length → (frP e).length ≤ 56) : ∃ (k : Int) (el fl : Bool) (n a : Int) (p : List UInt8), nxV e = LV k el fl n a p ∧ p.length = 56 := by
  unfold nxV
  split
  · next h0 =>
    split
    · next hg =>
      have hv : vE e = true := by
        cases hv : vE e
        · unfold nxE at h0
          rw [hv] at h0
          simp at h0
        · rfl
      have hq : 0 < e.q.length := by
        unfold nxGo at hg
        simp at hg
        omega
      have := hp hv hq
      exact ⟨_, _, _, _, _, _, rfl, by rw [List.length_append, List.length_drop, z56_len]; omega⟩
    · exact ⟨_, _, _, _, _, _, rfl, z56_len⟩
  · exact ⟨_, _, _, _, _, _, rfl, z56_len⟩
theorem eq_c {F : Nat} {e : LE} {m : List UInt8} (h : ∀ (W : World) (A : Option Addr) (c : Nat) (B : Option Addr) (d : Nat) (M : Option Addr) (mc : Nat), Held W e A c B d → IsB W M m.length m → Calls Try.prog F #[.agg (LEV e A c B d), .slice M m.length mc] W (EnP e m W)) : EqC F e m (enqL e m) (enqE e m) :=
  fun W A c B d M mc hH hm => (h W A c B d M mc hH hm).mono fun en W' ⟨A, c, B, d, h1, h2, h3⟩ => ⟨A, c, B, d, h1, ⟨_, _, h2⟩, h3⟩
theorem enr_enp {e : LE} {m : List UInt8} {W W' : World} {en : Ending} (hq : ∀ x ∈ (enqL e m).q, x.length ≤ 1000000000) (h : EnR e m W en W') : EnP e m W en W' := by
  obtain ⟨A, c, B, d, h1, h2, h3⟩ := h
  exact ⟨A, c, B, d, h1, h2.heldI hq, h3⟩
theorem nt_c {F : Nat} {e : LE} (h : ∀ (W : World) (A : Option Addr) (c : Nat) (B : Option Addr) (d : Nat), Held W e A c B d → Calls Try.prog F #[.agg (LEV e A c B d)] W (NxP e W)) : NtC F e (nxL e) (nxV e) (nxE e) :=
  fun W A c B d hH => (h W A c B d hH).mono fun en W' ⟨A, c, B, d, h1, h2, h3⟩ => ⟨A, c, B, d, h1, ⟨_, _, h2⟩, h3⟩
def dvL (e : LE) (k : Int) (el fl : Bool) (len ack : Int) (p : List UInt8) : LE := if dvE e k el fl len ack p = 0 then dvG e k fl len ack p else zeL
def dvB (e : LE) (k : Int) (el fl : Bool) (len ack : Int) (p : List UInt8) : List UInt8 := if dvE e k el fl len ack p = 0 then dvM e k fl len p else []
def dvT (e : LE) (k : Int) (el fl : Bool) (len ack : Int) (p : List UInt8) : Bool := if dvE e k el fl len ack p = 0 then dvC e k fl len p else false
theorem dl_c {F : Nat} {e : LE} {k : Int} {el fl : Bool} {len ack : Int} {p : List UInt8} (h : ∀ (W : World) (A : Option Addr) (c : Nat) (B : Option Addr) (d : Nat), Held W e A c B d → Calls Try.prog F #[.agg (LEV e A c B d), .agg (LV k el fl len ack p)] W (DvI e k el fl len ack p W)) :
    DlC F e (LV k el fl len ack p) (dvL e k el fl len ack p) (dvB e k el fl len ack p) (dvT e k el fl len ack p) (dvE e k el fl len ack p) := by
  intro W A c B d hH
  refine (h W A c B d hH).mono ?_
  rintro en W' (⟨h0, h1, h2⟩ | ⟨h0, A, c, B, d, M, mc, h1, h2, h3, h4⟩)
  · refine ⟨none, 0, none, 0, none, 0, ?_, ?_, ?_, h2⟩
    · rw [h1]
      unfold dvL dvB dvT
      rw [if_neg h0, if_neg h0, if_neg h0]
      rfl
    · unfold dvL
      rw [if_neg h0]
      exact HV.zero held_zero _
    · unfold dvB
      rw [if_neg h0]
      exact IsB.nil _ _
  · refine ⟨A, c, B, d, M, mc, ?_, ?_, ?_, h4⟩
    · rw [h1, h0]
      unfold dvL dvB dvT
      rw [if_pos h0, if_pos h0, if_pos h0]
    · unfold dvL
      rw [if_pos h0]
      exact ⟨_, _, h2⟩
    · unfold dvB
      rw [if_pos h0]
      exact h3.isB
theorem LE.nums.ty {e : LE} (h : e.nums) (h1 : e.q.length ≤ 70) (h2 : e.pt.length ≤ 2000) (h3 : ∀ m ∈ e.q, m.length ≤ 2000) : e.ty :=
  ⟨h.s0, h.s1, h.a0, h.a1, h.r0, h.r1, h.t0, h.t1, h.o0, h.o1, h.w0, h.w1, by omega, fun m hm => by have := h3 m hm; omega, by omega⟩
theorem nw_held (n : Int) (w : World) : Held w (nwE n) none 0 none 0 := by
  unfold nwE
  split
  · exact ⟨⟨rfl, fun h => by simp [newL] at h⟩, Nat.le_refl _, IsB.nil _ _, Nat.le_refl _⟩
  · exact held_zero _
/-- All answers, in letters. -/
theorem link_letters (n : Int) (e : LE) (m : List UInt8) (k : Int) (el fl : Bool) (len ack : Int) (p : List UInt8) (ht : e.ty) (h70 : e.q.length ≤ 70) (hm : m.length ≤ 2000) (hl : p.length = 56) (ha : 0 ≤ ack ∧ ack < 65536) :
    ∃ (v1 : LE) (x1 : Int) (v4 : LE) (x4 : Int) (v5 : LE) (k5 : Int) (e5 f5 : Bool) (n5 a5 : Int) (p5 : List UInt8) (x5 : Int) (v6 : LE) (b6 : List UInt8) (t6 : Bool) (x6 : Int) (t7 : Bool) (n8 : Int),
      (NwC 41 n v1 x1 ∧ NwC 48 n v1 x1 ∧ (∀ w, Held w v1 none 0 none 0)) ∧ (EqC 42 e m v4 x4 ∧ EqC 49 e m v4 x4) ∧ (NtC 45 e v5 (LV k5 e5 f5 n5 a5 p5) x5 ∧ NtC 50 e v5 (LV k5 e5 f5 n5 a5 p5) x5 ∧ p5.length = 56) ∧
      (DlC 51 e (LV k el fl len ack p) v6 b6 t6 x6 ∧ DlC 52 e (LV k el fl len ack p) v6 b6 t6 x6) ∧ (IdC 54 e t7 ∧ IdC 55 e t7) ∧ (PdC 43 e n8 ∧ PdC 56 e n8) ∧
      v1.q.length ≤ 1000000 ∧ v4.q.length ≤ 1000000 ∧ v5.q.length ≤ 1000000 ∧ v6.q.length ≤ 1000000 := by
  obtain ⟨k5, e5, f5, n5, a5, p5, h5, hp5⟩ := nx_line e (fun hv hq => frP_len (vE_yes hv) hq)
  have hqm := ht.qm
  have henq : ∀ x ∈ (enqL e m).q, x.length ≤ 1000000000 := by
    unfold enqL
    split
    · intro x hx
      rcases List.mem_append.1 hx with h | h
      · exact hqm x h
      · simp at h; subst h; omega
    · intro x hx; simp [zeL] at hx
  refine ⟨nwE n, nsE n, enqL e m, enqE e m, nxL e, k5, e5, f5, n5, a5, p5, nxE e, dvL e k el fl len ack p, dvB e k el fl len ack p, dvT e k el fl len ack p, dvE e k el fl len ack p, idleE e, pendE e, ⟨fun W => new_any n W, fun W => newL_any n W, nw_held n⟩,
    ⟨eq_c fun W A c B d M mc hH hI => enqueue e A B c d M mc m W ht hH hI, eq_c fun W A c B d M mc hH hI => (enqueueR e A B c d M mc m W ht hH hI).mono fun en W' h => enr_enp henq h⟩,
    ⟨h5 ▸ nt_c fun W A c B d hH => next e A B c d W ht hH, h5 ▸ nt_c fun W A c B d hH => nextR e A B c d W ht hH, hp5⟩,
    ⟨dl_c fun W A c B d hH => (deliver e A B c d k el fl len ack p W ht hH hl ha).mono fun en W' h => h.dvI, dl_c fun W A c B d hH => deliverR e A B c d k el fl len ack p W ht hH hl ha⟩,
    ⟨fun W A c B d hH => idle e A B c d W ht hH, fun W A c B d hH => idle_r e A B c d W ht hH⟩, ⟨fun W A c B d hH => pending e A B c d W ht hH, fun W A c B d hH => pending_r e A B c d W ht hH⟩, ?_, ?_, ?_, ?_⟩
  · unfold nwE; split <;> simp [newL, zeL]
  · unfold enqL; split
    · simp; omega
    · simp [zeL]
  · unfold nxL nxG nxA; split
    · split
      · show (if nxEnd e = true then e.q.tail else e.q).length ≤ _
        split
        · simp; omega
        · omega
      · show e.q.length ≤ _; omega
    · simp [zeL]
  · unfold dvL dvG; split
    · split <;> (show e.q.length ≤ _; omega)
    · simp [zeL]
end
section
open Go.RowKit Go.Deep Go.ChangeShapes Go.WideShapes
set_option linter.unusedVariables false
theorem cells3L : Try.prog.cellsOf 3 = 1 := by kernel_rfl
theorem cells4L : Try.prog.cellsOf 4 = 1 := by kernel_rfl
theorem cells23L : Try.prog.cellsOf 23 = 1 := by kernel_rfl
theorem cells40L : Try.prog.cellsOf 40 = 61 := by kernel_rfl
section
variable {H : Type} {enc : TypeId × Value → H} {W : World} {base : Nat} {spare : Nat → Bool} {held : Bool}
theorem wf_u16L {n : Int} (h : (Lit.int .u16 n).wf = true) : 0 ≤ n ∧ n < 65536 := by
  simp [Lit.wf, IntKind.min, IntKind.max, IntKind.bits, IntKind.signed] at h
  omega
theorem bytes_of {m : Nat} {l : List Value} {y : DataW H × List MemPlace} (h : DataW.trod enc Try.prog W base spare held m 38 l = some y) : ∃ p : List UInt8, p.length = 56 ∧ l = p.map bv := by
  obtain ⟨xs, k, _, _, hlen, hxl, hf⟩ := DataW.trod_array Try.underlying38 h
  rw [cells38] at hlen
  rw [cells5] at hf
  have each : ∀ i, i < 56 → ∃ x : UInt8, l[i]? = some (bv x) := by
    intro i hi
    have h1 := hf i hi
    rw [List.getElem?_eq_getElem (by omega)] at h1
    obtain ⟨z, e1, _, w1⟩ := DataW.trod_int Try.underlying5 h1
    obtain ⟨z0, z1⟩ := wf_u8 w1
    have h2 : l[i]? = some (.int .u8 z) := by
      have h3 := congrArg (fun q => q[0]?) e1
      simp only [List.getElem?_take, List.getElem?_drop] at h3
      simpa using h3
    exact ⟨UInt8.ofNat z.toNat, by rw [h2, bv_int z0 z1]⟩
  obtain ⟨q, hq⟩ := choose_lt each
  refine ⟨(List.range 56).map q, by simp, ?_⟩
  apply List.ext_getElem?
  intro i
  rcases Nat.lt_or_ge i 56 with hi | hi
  · rw [hq i hi]
    simp [hi]
  · rw [List.getElem?_eq_none (by omega), List.getElem?_eq_none (by simp; omega)]
set_option maxRecDepth 100000 in
theorem line_of {n : Nat} {cs : List Value} {y : DataW H × List MemPlace} (h : DataW.trod enc Try.prog W base spare held n 40 cs = some y) :
    ∃ (k : Int) (e f : Bool) (m a : Int) (p : List UInt8), cs = (LV k e f m a p).toList ∧ p.length = 56 ∧ 0 ≤ a ∧ a < 65536 := by
  obtain ⟨xs, k, _, _, hlen, hxl, hf⟩ := DataW.trod_struct Try.underlying40 h
  rw [cells40L] at hlen
  match xs, hxl, cs, hlen with
  | [x0, x1, x2, x3, x4, x5], _, c0 :: c1 :: c2 :: c3 :: c4 :: r, hlen =>
    have g0 := hf 0 _ rfl
    have g1 := hf 1 _ rfl
    have g2 := hf 2 _ rfl
    have g3 := hf 3 _ rfl
    have g4 := hf 4 _ rfl
    have g5 := hf 5 _ rfl
    simp [cells3L, cells4L, cells23L, cells38] at g0 g1 g2 g3 g4 g5
    obtain ⟨z0, e0, _, _⟩ := DataW.trod_int Try.underlying3 g0
    obtain ⟨z1, e1, _⟩ := DataW.trod_bool Try.underlying4 g1
    obtain ⟨z2, e2, _⟩ := DataW.trod_bool Try.underlying4 g2
    obtain ⟨z3, e3, _, _⟩ := DataW.trod_int Try.underlying3 g3
    obtain ⟨z4, e4, _, w4⟩ := DataW.trod_int Try.underlying23 g4
    have hr : r.take 56 = r := List.take_of_length_le (by simp at hlen; omega)
    rw [hr] at g5
    obtain ⟨p, hp, e5⟩ := bytes_of g5
    simp only [List.cons.injEq, and_true] at e0 e1 e2 e3 e4
    obtain ⟨a0, a1⟩ := wf_u16L w4
    exact ⟨z0, z1, z2, z3, z4, p, by rw [e0, e1, e2, e3, e4, e5]; rfl, hp, a0, a1⟩
set_option maxRecDepth 100000 in
theorem open_line {rc : Reach} {b0 : Nat} {v : Value} {d : DataW H} {p : List MemPlace} (hv : Value.okWide Try.prog W rc b0 40 v) (h : DataW.Trod enc Try.prog W base spare held 40 v d p) :
    ∃ (k : Int) (e f : Bool) (m a : Int) (q : List UInt8), v = .agg (LV k e f m a q) ∧ q.length = 56 ∧ 0 ≤ a ∧ a < 65536 := by
  obtain ⟨cs, rfl, hsz⟩ := okWide_struct Try.underlying40 hv
  obtain ⟨fuel, hf⟩ := h
  obtain ⟨k, e, f, m, a, q, h1, h2, h3⟩ := line_of hf
  refine ⟨k, e, f, m, a, q, ?_, h2, h3⟩
  have h4 : cs.toList = (LV k e f m a q).toList := h1
  rw [Array.toList_inj.1 h4]
end
end
end Go.Proofs.Ythjkhambmgepdaa

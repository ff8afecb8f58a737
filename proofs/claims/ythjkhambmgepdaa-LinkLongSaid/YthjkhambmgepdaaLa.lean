/- Links: isCut, the reference's cut, sound. -/
import Derived.Test.YthjkhambmgepdaaLk
import Derived.Test.YthjkhambmgepdaaCal
import Derived.Test.YthjkhambmgepdaaR4
import Derived.IntWalk
namespace Go.Proofs.Ythjkhambmgepdaa
open Go.RowKit
set_option linter.unusedVariables false
set_option maxRecDepth 100000 in
set_option maxHeartbeats 4000000 in
theorem is_cut (k n : Int) (k1 : k < 9223372036854775808) (W : World) : Calls Try.prog 143 #[.int .i64 k, .int .i64 n] W fun e W' => e = .returned (.bool (cutB k n)) ∧ W = W' := by
  by_cases h1 : 52 ≤ k
  · have k2 : k - 52 < 9223372036854775808 := by omega
    have e1 : (k - 52).tmod 56 = (k - 52) % 56 := Int.tmod_eq_emod_of_nonneg (by omega)
    have e2 : wrap64 (k - 52) = k - 52 := IntWalk.wrap64_in _ (by omega)
    by_cases h2 : k < n
    · cases h3 : ((k - 52) % 56 == 0)
      all_goals
        have HC := Lib.hid (show cutB k n = ((k - 52) % 56 == 0) by simp [cutB, h1, h2])
        go_enter Try.func143, Try.ntmps143
        go_wp2
        go_ret
        exact ⟨ret_bool (by rw [HC.out, h3]), rfl⟩
    · have h2' : n ≤ k := by omega
      have h2d : decide (k < n) = false := decide_eq_false h2
      have HC := Lib.hid (show cutB k n = false by unfold cutB; rw [decide_eq_false h2]; simp)
      cases h3 : ((k - 52) % 56 == 0)
      all_goals
        clear h2
        go_enter Try.func143, Try.ntmps143
        go_wp2
        go_ret
        exact ⟨ret_bool (by rw [HC.out]), rfl⟩
  · have h1' : k < 52 := by omega
    have HC := Lib.hid (show cutB k n = false by unfold cutB; rw [decide_eq_false h1]; simp)
    clear h1
    go_enter Try.func143, Try.ntmps143
    go_wp2
    go_ret
    exact ⟨ret_bool (by rw [HC.out]), rfl⟩
set_option maxRecDepth 100000 in
set_option maxHeartbeats 4000000 in
theorem cut_ref (k n : Int) (k1 : k < 9223372036854775808) (W : World) : Calls Try.prog 139 #[.int .i64 k, .int .i64 n] W fun e W' => e = .returned (.bool (cutB k n)) ∧ W = W' := by
  by_cases h1 : 52 ≤ k
  · have k2 : k - 52 < 9223372036854775808 := by omega
    have e1 : (k - 52).tmod 56 = (k - 52) % 56 := Int.tmod_eq_emod_of_nonneg (by omega)
    have e2 : wrap64 (k - 52) = k - 52 := IntWalk.wrap64_in _ (by omega)
    by_cases h2 : k < n
    · cases h3 : ((k - 52) % 56 == 0)
      all_goals
        have HC := Lib.hid (show cutB k n = ((k - 52) % 56 == 0) by simp [cutB, h1, h2])
        go_enter Try.func139, Try.ntmps139
        go_wp2
        go_ret
        exact ⟨ret_bool (by rw [HC.out, h3]), rfl⟩
    · have h2' : n ≤ k := by omega
      have h2d : decide (k < n) = false := decide_eq_false h2
      have HC := Lib.hid (show cutB k n = false by unfold cutB; rw [decide_eq_false h2]; simp)
      cases h3 : ((k - 52) % 56 == 0)
      all_goals
        clear h2
        go_enter Try.func139, Try.ntmps139
        go_wp2
        go_ret
        exact ⟨ret_bool (by rw [HC.out]), rfl⟩
  · have h1' : k < 52 := by omega
    have HC := Lib.hid (show cutB k n = false by unfold cutB; rw [decide_eq_false h1]; simp)
    clear h1
    go_enter Try.func139, Try.ntmps139
    go_wp2
    go_ret
    exact ⟨ret_bool (by rw [HC.out]), rfl⟩
theorem headD_len : ∀ {q : List (List UInt8)} (h : 0 < q.length), (q.headD []).length = q[0].length
  | _ :: _, _ => rfl
theorem u16_rng (x : Int) : 0 ≤ IntKind.u16.wrap x ∧ IntKind.u16.wrap x < 65536 := by rw [IntKind.wrap_u16]; omega
theorem both_cells {w : World} {g : Nat} {e : LE} {A B : Option Addr} {c d : Nat} (h : Row w g 155 (LBV e A c B d)) :
    (w.cell? ⟨g, 0, none⟩ = some (.int .i64 e.n) ∧ w.cell? ⟨g, 1, none⟩ = some (.int .u64 e.s) ∧ w.cell? ⟨g, 2, none⟩ = some (.int .u64 e.a) ∧ w.cell? ⟨g, 3, none⟩ = some (.slice A e.q.length c) ∧ w.cell? ⟨g, 4, none⟩ = some (.int .i64 e.off)) ∧
    (w.cell? ⟨g, 5, none⟩ = some (.int .i64 e.rn) ∧ w.cell? ⟨g, 6, none⟩ = some (.int .u64 e.rc) ∧ w.cell? ⟨g, 7, none⟩ = some (.int .i64 e.want) ∧ w.cell? ⟨g, 8, none⟩ = some (.slice B e.pt.length d) ∧ w.cell? ⟨g, 9, none⟩ = some (.int .u64 e.told)) ∧ ∀ i, w.frozen? ⟨g, i, none⟩ = false :=
  ⟨⟨h.cell 0, h.cell 1, h.cell 2, h.cell 3, h.cell 4⟩, ⟨h.cell 5, h.cell 6, h.cell 7, h.cell 8, h.cell 9⟩, h.frozen⟩
def SoundP (e : LE) (W : World) (en : Ending) (W' : World) : Prop := en = .returned (.bool (soundB e)) ∧ Below W.heap.size W W'
theorem sound_no {e : LE} {W W' : World} (h : soundB e = false) (hb : Below W.heap.size W W') : SoundP e W (.returned (.bool false)) W' := ⟨by rw [h], hb⟩
set_option maxRecDepth 100000 in
set_option maxHeartbeats 4000000 in
theorem sound_any (g : Nat) (e : LE) (A B : Option Addr) (c d : Nat) (W : World) (ht : e.ty) (hr : Row W g 155 (LBV e A c B d)) (hH : Held W e A c B d) : Calls Try.prog 136 #[.pointer (some ⟨g, 0, none⟩)] W (SoundP e W) := by
  have hlt := hr.lt
  obtain ⟨⟨c0, c1, c2, c3, c4⟩, -, fz⟩ := both_cells hr
  obtain ⟨x1, x2, x3, hx1, hx2, hx3⟩ : ∃ x1 x2 x3, x1 = akN e.n e.s e.a (IntKind.u16.wrap e.a) ∧ x2 = akS e.n e.s e.a (IntKind.u16.wrap e.a) ∧ x3 = akA e.n e.s e.a (IntKind.u16.wrap e.a) := ⟨_, _, _, rfl, rfl, rfl⟩
  obtain ⟨E, hE⟩ : ∃ E, E = akE e.n e.s e.a (IntKind.u16.wrap e.a) := ⟨_, rfl⟩
  have hk := u16_rng e.a
  have hcon : Hid (∀ w, Calls Try.prog 21 #[.agg #[.int .i64 e.n, .int .u64 e.s, .int .u64 e.a], .int .u16 (IntKind.u16.wrap e.a)] w fun e' w' => e' = .returned (.tuple #[.agg #[.int .i64 x1, .int .u64 x2, .int .u64 x3], .int .i64 E]) ∧ Below w.heap.size w w') := Lib.hid (fun w => by
    have h := acknowledge e.n e.s e.a (IntKind.u16.wrap e.a) ht.s0 ht.s1 ht.a0 hk.1 hk.2 w
    unfold AkPost at h
    rwa [← hx1, ← hx2, ← hx3, ← hE] at h)
  rw [ak_self ht.a0] at hE
  have HE := Lib.hid hE
  clear hx1 hx2 hx3 hE
  go_enter Try.func136, Try.ntmps136
  go_upto_region 1 with (fail)
  refine wp_region_late (n := 71) [15] (CalS W 15 (NoC) 1 14 27 #[.int .i64 x1, .int .u64 x2, .int .u64 x3] 1000 14 27 #[.int .i64 x1, .int .u64 x2, .int .u64 x3]) (Shp W.heap.size) (by kernel_rfl) (by kernel_rfl) (by rfl) (CalS.loc (by decide) (fun c hc => mayAt_no (d := 0) (by kernel_rfl) (by omega) (by decide)) (fun c hc => mayAt_no (d := 0) (by kernel_rfl) (by omega) (by decide))) (CalS.start (by decide) (by decide)) ?_
  refine late_pure (by simp) (Shp.refl _) (v := ?_) (fun _ => rfl) ?_ ?_; rotate_left; (focus (intro c9 us w9 hm9 hS9 hF; clear hF hm9; go_simp; (try with_reducible rfl); done)); simp only [Act.put, List.setIfInBounds_toArray, List.set_cons_zero, List.set_cons_succ, Nat.reduceAdd]
  refine late_pure (by simp) (Shp.refl _) (v := ?_) (fun _ => rfl) ?_ ?_; rotate_left; (focus (intro c9 us w9 hm9 hS9 hF; clear hF hm9; go_simp; (try with_reducible rfl); done)); simp only [Act.put, List.setIfInBounds_toArray, List.set_cons_zero, List.set_cons_succ, Nat.reduceAdd]
  refine late_pure (by simp) (Shp.refl _) (v := ?_) (fun _ => rfl) ?_ ?_; rotate_left; (focus (intro c9 us w9 hm9 hS9 hF; clear hF hm9; go_simp; (try with_reducible rfl); done)); simp only [Act.put, List.setIfInBounds_toArray, List.set_cons_zero, List.set_cons_succ, Nat.reduceAdd]
  refine late_pure (by simp) (Shp.refl _) (v := .agg #[.int .i64 e.n, .int .u64 e.s, .int .u64 e.a]) (fun _ => rfl) ?_ ?_; (focus (intro c9 us w9 hm9 hS9 hF; have b0 := (hS9.1.cell (p := ⟨g, 0, none⟩) hlt).trans c0; have b1 := (hS9.1.cell (p := ⟨g, 1, none⟩) hlt).trans c1; have b2 := (hS9.1.cell (p := ⟨g, 2, none⟩) hlt).trans c2; clear hF hm9; go_simp; (try with_reducible rfl); done)); simp only [Act.put, List.setIfInBounds_toArray, List.set_cons_zero, List.set_cons_succ, Nat.reduceAdd]
  refine late_pure (by simp) (Shp.refl _) (v := ?_) (fun _ => rfl) ?_ ?_; rotate_left; (focus (intro c9 us w9 hm9 hS9 hF; clear hF hm9; go_simp; (try with_reducible rfl); done)); simp only [Act.put, List.setIfInBounds_toArray, List.set_cons_zero, List.set_cons_succ, Nat.reduceAdd]
  refine late_pure (by simp) (Shp.refl _) (v := ?_) (fun _ => rfl) ?_ ?_; rotate_left; (focus (intro c9 us w9 hm9 hS9 hF; clear hF hm9; go_simp; (try with_reducible rfl); done)); simp only [Act.put, List.setIfInBounds_toArray, List.set_cons_zero, List.set_cons_succ, Nat.reduceAdd]
  refine late_pure (by simp) (Shp.refl _) (v := ?_) (fun _ => rfl) ?_ ?_; rotate_left; (focus (intro c9 us w9 hm9 hS9 hF; clear hF hm9; go_simp; (try with_reducible rfl); done)); simp only [Act.put, List.setIfInBounds_toArray, List.set_cons_zero, List.set_cons_succ, Nat.reduceAdd]
  refine late_pure (by simp) (Shp.refl _) (v := ?_) (fun _ => rfl) ?_ ?_; rotate_left; (focus (intro c9 us w9 hm9 hS9 hF; clear hF hm9; go_simp; (try with_reducible rfl); done)); simp only [Act.put, List.setIfInBounds_toArray, List.set_cons_zero, List.set_cons_succ, Nat.reduceAdd]
  refine late_pure (by simp) (Shp.refl _) (v := .int .u64 e.a) (fun _ => rfl) ?_ ?_; (focus (intro c9 us w9 hm9 hS9 hF; have b0 := (hS9.1.cell (p := ⟨g, 0, none⟩) hlt).trans c0; have b1 := (hS9.1.cell (p := ⟨g, 1, none⟩) hlt).trans c1; have b2 := (hS9.1.cell (p := ⟨g, 2, none⟩) hlt).trans c2; clear hF hm9; go_simp; (try with_reducible rfl); done)); simp only [Act.put, List.setIfInBounds_toArray, List.set_cons_zero, List.set_cons_succ, Nat.reduceAdd]
  refine late_pure (by simp) (Shp.refl _) (v := .int .u16 (IntKind.u16.wrap e.a)) (fun _ => rfl) ?_ ?_; (focus (intro c9 us w9 hm9 hS9 hF; clear hF hm9; go_simp; (try with_reducible rfl); done)); simp only [Act.put, List.setIfInBounds_toArray, List.set_cons_zero, List.set_cons_succ, Nat.reduceAdd]
  refine late_fix (by simp) (v := .tuple #[.agg #[.int .i64 x1, .int .u64 x2, .int .u64 x3], .int .i64 E]) ?_ ?_; (focus (intro c9 us w9 hm9 hS9 hF K hK; clear hF; go_simp; refine (hcon.out w9).mono ?_; rintro e w' ⟨rfl, hb⟩; exact hK w' (hS9.below hb NoC.mono) (Shp.below hb))); simp only [Act.put, List.setIfInBounds_toArray, List.set_cons_zero, List.set_cons_succ, Nat.reduceAdd]
  refine late_pure (by simp) (Shp.refl _) (v := ?_) (fun _ => rfl) ?_ ?_; rotate_left; (focus (intro c9 us w9 hm9 hS9 hF; clear hF hm9; go_simp; (try with_reducible rfl); done)); simp only [Act.put, List.setIfInBounds_toArray, List.set_cons_zero, List.set_cons_succ, Nat.reduceAdd]
  refine late_pure (by simp) (Shp.refl _) (v := ?_) (fun _ => rfl) ?_ ?_; rotate_left; (focus (intro c9 us w9 hm9 hS9 hF; clear hF hm9; go_simp; (try with_reducible rfl); done)); simp only [Act.put, List.setIfInBounds_toArray, List.set_cons_zero, List.set_cons_succ, Nat.reduceAdd]
  refine late_pure (by simp) (Shp.refl _) (v := ?_) (fun _ => rfl) ?_ ?_; rotate_left; (focus (intro c9 us w9 hm9 hS9 hF; clear hF hm9; go_simp; (try with_reducible rfl); done)); simp only [Act.put, List.setIfInBounds_toArray, List.set_cons_zero, List.set_cons_succ, Nat.reduceAdd]
  refine late_free (by simp) (PtrN W.heap.size 27 3) PtrN.mono ?_ ?_; (focus (intro c9 us w9 hm9 hS9 hF K hK; go_simp; exact hK _ _ (hS9.alloc NoC.mono (.cells ZS 27)) (Shp.alloc _ _ _) ⟨w9.heap.size, ZS, rfl, hS9.1.size, Row.born w9 27 ZS, rfl⟩)); simp only [Act.put, List.setIfInBounds_toArray, List.set_cons_zero, List.set_cons_succ, Nat.reduceAdd]
  refine late_store rfl ?_ ?_; (focus (intro us w9 hS9 hF K hK; obtain ⟨b3, cs, hu, hb3, hr, hn⟩ := hF (14, PtrN W.heap.size 27 3) (by simp) (by kernel_rfl); simp only [hu] at hK ⊢; rw [if_pos (by rfl)]; exact step_put (L := #[.int .i64 x1, .int .u64 x2, .int .u64 x3]) hr hn info27 (sender_one _ _ _) rfl rfl (fun w' u' r' => hK w' (hS9.st1 u' r' hu hb3 (by omega) (by omega) (fun h => trivial)) (Shp.upd u' hr r' hn)))); simp only [Nat.reduceAdd]
  refine late_pure (by simp) (Shp.refl _) (v := ?_) (fun _ => rfl) ?_ ?_; rotate_left; (focus (intro c9 us w9 hm9 hS9 hF; clear hF hm9; go_simp; (try with_reducible rfl); done)); simp only [Act.put, List.setIfInBounds_toArray, List.set_cons_zero, List.set_cons_succ, Nat.reduceAdd]
  refine late_done fun us w1 hS8 hF => ?_
  obtain ⟨g3, hu1, hg3, r3⟩ := hS8.2.2.1 (by omega)
  have hBa := hS8.1
  clear hF hS8
  simp only [hu1]
  clear hu1 r3 hcon hk
  obtain ⟨⟨c0, c1, c2, c3, c4⟩, -, fz⟩ := both_cells (hr.below hBa hlt)
  have hq1 := hH.q.below hBa
  have hE := HE.out
  clear HE
  cases hv : vs e.n e.s e.a
  · rw [hv] at hE
    have hE2 : E = 74 := hE
    clear hE
    subst hE2
    have HS := Lib.hid (show soundB e = false by simp [soundB, hv])
    clear hv
    go_wp2
    go_ret
    exact sound_no HS.out hBa
  rw [hv] at hE
  have hE2 : E = 0 := hE
  clear hE
  subst hE2
  by_cases hl : 64 < e.q.length
  · have HS := Lib.hid (show soundB e = false by unfold soundB; rw [decide_eq_false (by omega : ¬ e.q.length ≤ 64)]; simp)
    have hd : decide (64 < e.q.length) = true := by simpa using hl
    clear hv
    go_wp2
    go_ret
    exact sound_no HS.out hBa
  have hd : decide (64 < e.q.length) = false := by simpa using hl
  have HS := Lib.hid (show soundB e = (qOk (e.q.drop 0) && offOk e.off e.q) by unfold soundB; rw [hv, decide_eq_true (by omega : e.q.length ≤ 64)]; simp)
  clear hv
  go_upto_region 5 with (fail)
  go_loop [36] (fun i => ∃ j : Nat, j ≤ e.q.length ∧ i = .int .i64 j ∧ Hid (soundB e = (qOk (e.q.drop j) && offOk e.off e.q))) (fun i => e.q.length - (intOf i).toNat)
  case atStart => exact ⟨0, by omega, rfl, HS⟩
  case round =>
    clear HS
    obtain ⟨j, hj, rfl, HS⟩ := hrel
    rcases Nat.lt_or_ge j e.q.length with hjl | hjl
    · have hd1 : decide (j < e.q.length) = true := by simpa using hjl
      have hji : (j : Int) < e.q.length := by omega
      obtain ⟨b, o, hA, hrow⟩ := hq1.2 (by omega)
      subst hA
      obtain ⟨Ar, Cr, x, -, -, -⟩ := hrow j hjl
      have hat := qOk_at hjl
      clear hrow
      generalize e.q[j].length = L at *
      by_cases hL : 1048576 < L
      · have hd2 : decide (1048576 < L) = true := by simpa using hL
        have HF := Lib.hid (show soundB e = false by rw [HS.out, hat, decide_eq_false (by omega : ¬ L ≤ 1048576)]; simp)
        clear hat
        go_wp2
        go_ret
        exact sound_no HF.out hBa
      · have hd2 : decide (1048576 < L) = false := by simpa using hL
        have HN := Lib.hid (show soundB e = (qOk (e.q.drop (j + 1)) && offOk e.off e.q) by rw [HS.out, hat, decide_eq_true (by omega : L ≤ 1048576)]; simp)
        clear hat HS
        go_wp2
        go_round
        case rel => exact ⟨j + 1, by omega, by go_num, HN⟩
        case measure => simp [intOf]; omega
    · have hd1 : decide (e.q.length < e.q.length) = false := by simp
      have hd3 : decide (j < e.q.length) = false := by simpa using hjl
      have HN := Lib.hid (show soundB e = offOk e.off e.q by rw [HS.out, List.drop_eq_nil_of_le hjl]; simp [qOk])
      clear HS
      go_upto_region 10 with (fail)
      have c3 : w1.drew.cell? ⟨g, 3, none⟩ = some (.slice A e.q.length c) := c3
      have c4 : w1.drew.cell? ⟨g, 4, none⟩ = some (.int .i64 e.off) := c4
      have hq1 : IsM w1.drew A e.q.length e.q := hq1
      have hBa : Below W.heap.size W w1.drew := hBa.drew
      have e0 := ht.o0
      have e1 := ht.o1
      by_cases hoff : e.off = -1
      · have ho : (e.off == -1) = true := by simpa using hoff
        have HO := Lib.hid (show soundB e = true by rw [HN.out]; unfold offOk; rw [ho]; rfl)
        clear hoff
        refine wp_region_told (n := 71) (fun w' => w' = w1.drew) (fun _ _ => True) (by kernel_rfl) (by kernel_rfl) (by rfl) rfl ?_
        repeat (first | (refine walk_pure (v := ?_) (fun _ => trivial) (fun _ => rfl) ?_ ?_; rotate_left; (focus (intro us w9 hS9 hF; subst hS9; go_simp; (try with_reducible rfl); done)); simp only [Act.put, List.setIfInBounds_toArray, List.set_cons_zero, List.set_cons_succ, Nat.reduceAdd]) | (refine walk_skip (fun _ => trivial) (fun _ => rfl) ?_; simp only [Act.put, List.setIfInBounds_toArray, List.set_cons_zero, List.set_cons_succ, Nat.reduceAdd]))
        refine walk_done fun us w9 hS9 hF => ?_; subst hS9; clear hF; go_wp2; go_ret
        exact ⟨ret_bool HO.out.symm, hBa⟩
      · have ho : (e.off == -1) = false := by simpa using hoff
        clear hoff
        by_cases h0 : e.q.length = 0
        · have h1 : decide (0 < e.q.length) = false := decide_eq_false (by omega)
          have HO := Lib.hid (show soundB e = false by rw [HN.out]; unfold offOk; rw [ho, h1]; rfl)
          clear h0
          refine wp_region_told (n := 71) (fun w' => w' = w1.drew) (fun _ _ => True) (by kernel_rfl) (by kernel_rfl) (by rfl) rfl ?_
          repeat (first | (refine walk_pure (v := ?_) (fun _ => trivial) (fun _ => rfl) ?_ ?_; rotate_left; (focus (intro us w9 hS9 hF; subst hS9; go_simp; (try with_reducible rfl); done)); simp only [Act.put, List.setIfInBounds_toArray, List.set_cons_zero, List.set_cons_succ, Nat.reduceAdd]) | (refine walk_skip (fun _ => trivial) (fun _ => rfl) ?_; simp only [Act.put, List.setIfInBounds_toArray, List.set_cons_zero, List.set_cons_succ, Nat.reduceAdd]))
          refine walk_done fun us w9 hS9 hF => ?_; subst hS9; clear hF; go_wp2; go_ret
          exact ⟨ret_bool HO.out.symm, hBa⟩
        · have h1 : decide (0 < e.q.length) = true := decide_eq_true (by omega)
          have h2 : 0 < e.q.length := by omega
          obtain ⟨b, o, hA, hrow⟩ := hq1.2 h2
          subst hA
          obtain ⟨Ar, Cr, x, -, -, -⟩ := hrow 0 h2
          have hhd := headD_len h2
          have HO := Lib.hid (show soundB e = cutB e.off e.q[0].length by rw [HN.out]; unfold offOk; rw [ho, h1, hhd]; simp)
          have x : w1.drew.cell? ⟨b, o, none⟩ = some (.slice Ar e.q[0].length Cr) := x
          clear hrow hhd
          generalize e.q[0].length = L at *
          refine wp_region_told (n := 71) (fun w' => w' = w1.drew) (fun _ _ => True) (by kernel_rfl) (by kernel_rfl) (by rfl) rfl ?_
          repeat (first | (refine walk_pure (v := ?_) (fun _ => trivial) (fun _ => rfl) ?_ ?_; rotate_left; (focus (intro us w9 hS9 hF; subst hS9; go_simp; (try with_reducible rfl); done)); simp only [Act.put, List.setIfInBounds_toArray, List.set_cons_zero, List.set_cons_succ, Nat.reduceAdd]) | (refine walk_skip (fun _ => trivial) (fun _ => rfl) ?_; simp only [Act.put, List.setIfInBounds_toArray, List.set_cons_zero, List.set_cons_succ, Nat.reduceAdd]))
          refine walk_fix (v := .bool (cutB e.off L)) ?_ ?_; (focus (intro us w9 hS9 hF K hK; subst hS9; go_simp; refine (is_cut _ _ e1 _).mono ?_; rintro e' w' ⟨rfl, rfl⟩; exact hK _ rfl trivial)); simp only [Act.put, List.setIfInBounds_toArray, List.set_cons_zero, List.set_cons_succ, Nat.reduceAdd]
          repeat (first | (refine walk_pure (v := ?_) (fun _ => trivial) (fun _ => rfl) ?_ ?_; rotate_left; (focus (intro us w9 hS9 hF; subst hS9; go_simp; (try with_reducible rfl); done)); simp only [Act.put, List.setIfInBounds_toArray, List.set_cons_zero, List.set_cons_succ, Nat.reduceAdd]) | (refine walk_skip (fun _ => trivial) (fun _ => rfl) ?_; simp only [Act.put, List.setIfInBounds_toArray, List.set_cons_zero, List.set_cons_succ, Nat.reduceAdd]))
          refine walk_done fun us w9 hS9 hF => ?_; subst hS9; clear hF; go_wp2; go_ret
          exact ⟨ret_bool HO.out.symm, hBa⟩
end Go.Proofs.Ythjkhambmgepdaa

/- The walk of BinencCanonical where an integer is decoded. -/
import Derived.Test.YtajkhijphdnbpaaLcan
namespace Go.Proofs.Ytajkhijphdnbpaa
open Go.RowKit
set_option linter.unusedVariables false
set_option maxRecDepth 20000 in
set_option maxHeartbeats 4000000 in
theorem can_ok (A : Option Addr) (n c : Nat) (bs : List UInt8) (o : Nat) (w : World) (hA : IsB w A n bs) (hc : n ≤ c) (hn : n ≤ 1000) (v j X M : Nat) (hR : uvR bs (o : Nat) = (v, X, 0)) (hK : X = o + j) (hM : X = M + 1) (hj : 0 < j) (hon : X ≤ n)
    (hg : Grp v j) (hv : v < 18446744073709551616) (ht : (bs.drop o).take j = uvB v j) (hcut : uvR (bs.take M) (o : Nat) = (0, 0, 52)) :
    Calls Try.prog 12 #[.slice A n c, .int .i64 o] w (True1 w) := by
  obtain ⟨b2, o2, e2, _⟩ := hA.2 (by omega)
  subst e2
  obtain ⟨z1, z2, z3⟩ := zz_unzz hv
  have hV : vR bs (o : Nat) = (unzz v, X, 0) := by unfold vR; rw [hR]; rfl
  have C1 : Hid (Calls Try.prog 28 #[.slice (some ⟨b2, o2, none⟩) n c, .int .i64 o] w (fun e w' => e = .returned (.tuple #[.int .u64 v, .int .i64 (X : Nat), .int .i64 0]) ∧ w' = w)) := Lib.hid (by
    have h := uvarint01 (some ⟨b2, o2, none⟩) n c bs o w hA (by omega) (by omega) (by omega)
    unfold UvPost at h
    rw [hR] at h
    exact h)
  have C2 : Hid (∀ w9, Below w.heap.size w w9 → Calls Try.prog 28 #[.slice (some ⟨b2, o2, none⟩) M c, .int .i64 o] w9 (fun e w' => e = .returned (.tuple #[.int .u64 0, .int .i64 0, .int .i64 52]) ∧ w' = w9)) := Lib.hid (fun w9 h9 => by
    have h := uvarint01 (some ⟨b2, o2, none⟩) M c (bs.take M) o w9 ((hA.below h9).pre M (by omega)) (by omega) (by omega) (by omega)
    unfold UvPost at h
    rw [hcut] at h
    exact h)
  have C3 : Hid (∀ w9, Below w.heap.size w w9 → Calls Try.prog 30 #[.slice (some ⟨b2, o2, none⟩) n c, .int .i64 o] w9 (fun e w' => e = .returned (.tuple #[.int .i64 (unzz v), .int .i64 (X : Nat), .int .i64 0]) ∧ w' = w9)) := Lib.hid (fun w9 h9 => by
    have h := varint01 (some ⟨b2, o2, none⟩) n c bs o w9 (hA.below h9) (by omega) (by omega) (by omega)
    unfold VPost at h
    rw [hV] at h
    exact h)
  have C4 := Lib.hid (fun w9 (h9 : Below w.heap.size w w9) => bytes01 (some ⟨b2, o2, none⟩) n c bs o n w9 (hA.below h9) hc (by omega) (by omega) (by omega) (by omega) (by omega))
  have hsl : IsB w (some ⟨b2, o2 + o, none⟩) (X - o) (uvB v j) := by
    have h := hA.suf (k := o) (v := j) (by omega)
    rw [ht] at h
    rwa [show X - o = j by omega]
  have cU : ∀ w0 w9, Below w0.heap.size w0 w9 → Calls Try.prog 32 #[.slice none 0 0, .int .u64 v] w9 (GivesS w0 w9 (uvB v j)) := fun w0 w9 h => by
    have h1 := new_S h (append_uvarint none 0 0 [] v j w9 (IsB.nil _ _) (by omega) hv hg)
    simpa using h1
  have cV : ∀ w0 w9, Below w0.heap.size w0 w9 → Calls Try.prog 34 #[.slice none 0 0, .int .i64 (unzz v)] w9 (GivesS w0 w9 (uvB v j)) := fun w0 w9 h => by
    have h1 := new_S h (append_varint none 0 0 [] (unzz v) j w9 (IsB.nil _ _) (by omega) z2 z3 (by rw [z1]; exact hg))
    rw [z1] at h1
    simpa using h1
  have HA := Lib.hid hA
  have HCV := Lib.hid cV
  have HCU := Lib.hid cU
  have hB := Lib.hid (fun ps k (h : bR bs (o : Nat) n = (ps, k, 0)) => bR_conv h)
  have hI1 : (X : Int) ≤ n := by omega
  have hI2 : (X : Int) ≤ c := by omega
  have hI4 : (o : Int) ≤ X := by omega
  have hI5 : ¬ c = o := by omega
  have hI6 : o < X := by omega
  have hT1 : decide (X ≤ o) = false := decide_eq_false (by omega)
  have hT2 : decide (n < X) = false := decide_eq_false (by omega)
  have hsub : (X : Int) - 1 = (M : Int) := by omega
  have hMc : M ≤ c := by omega
  have HK := Lib.hid hK
  have HM := Lib.hid hM
  have hl := Lib.hid hA.1
  clear hK hM hV hcut ht hg cU cV hv hR z1 hA
  go_enter Try.func12, Try.ntmps12
  go_wp2_with fail
  refine C1.out.mono ?_
  rintro e w1 ⟨rfl, rfl⟩
  go_upto_region 5 with (fail)
  have cU1 := HCU.out w1
  refine wp_region_told (n := 140) (fun w9 => Below w1.heap.size w1 w9) (fun w1 w2 => Below w1.heap.size w1 w2) (by kernel_rfl) (by kernel_rfl) (by rfl) (below_drewN (Below.refl _ _) 1) ?_
  repeat (first | (refine walk_pure (v := ?_) (fun _ => Below.refl _ _) (fun _ => rfl) ?_ ?_; rotate_left; (focus (intro us w9 hS9 hF; go_simp; (try with_reducible rfl); done)); simp only [Act.put, List.setIfInBounds_toArray, List.set_cons_zero, List.set_cons_succ, Nat.reduceAdd]) | (refine walk_skip (fun _ => Below.refl _ _) (fun _ => rfl) ?_; simp only [Act.put, List.setIfInBounds_toArray, List.set_cons_zero, List.set_cons_succ, Nat.reduceAdd]))
  refine walk_free (BX (uvB v j)) BX.mono ?_ ?_; (focus (intro us w9 hS9 hF K hK; go_simp; refine (cU1 w9 hS9).mono ?_; rintro e w' ⟨A9, n9, c9, rfl, hi9, hS8, hG8⟩; exact hK _ w' hS8 hG8 ⟨A9, n9, c9, rfl, hi9⟩)); simp only [Act.put, List.setIfInBounds_toArray, List.set_cons_zero, List.set_cons_succ, Nat.reduceAdd]
  refine walk_pure (v := ?_) (fun _ => Below.refl _ _) (fun _ => rfl) ?_ ?_; rotate_left; (focus (intro us w9 hS9 hF; obtain ⟨A9, n9, c9, hu, hi⟩ := hF (11, BX (uvB v j)) (by simp) (by kernel_rfl); have hs := run_str (P := Try.prog) (dst := 9) Try.underlying22 Try.underlying5 Try.underlying9 c9 hi; clear hi hF; go_simp; (try with_reducible rfl); done)); simp only [Act.put, List.setIfInBounds_toArray, List.set_cons_zero, List.set_cons_succ, Nat.reduceAdd]
  repeat (first | (refine walk_pure (v := ?_) (fun _ => Below.refl _ _) (fun _ => rfl) ?_ ?_; rotate_left; (focus (intro us w9 hS9 hF; go_simp; (try with_reducible rfl); done)); simp only [Act.put, List.setIfInBounds_toArray, List.set_cons_zero, List.set_cons_succ, Nat.reduceAdd]) | (refine walk_skip (fun _ => Below.refl _ _) (fun _ => rfl) ?_; simp only [Act.put, List.setIfInBounds_toArray, List.set_cons_zero, List.set_cons_succ, Nat.reduceAdd]))
  refine walk_pure (v := ?_) (fun _ => Below.refl _ _) (fun _ => rfl) ?_ ?_; rotate_left; (focus (intro us w9 hS9 hF; have hs := run_str (P := Try.prog) (dst := 9) Try.underlying22 Try.underlying5 Try.underlying9 (c - o) ((hsl).below hS9); clear hF; go_simp; (try with_reducible rfl); done)); simp only [Act.put, List.setIfInBounds_toArray, List.set_cons_zero, List.set_cons_succ, Nat.reduceAdd]
  repeat (first | (refine walk_pure (v := ?_) (fun _ => Below.refl _ _) (fun _ => rfl) ?_ ?_; rotate_left; (focus (intro us w9 hS9 hF; go_simp; (try with_reducible rfl); done)); simp only [Act.put, List.setIfInBounds_toArray, List.set_cons_zero, List.set_cons_succ, Nat.reduceAdd]) | (refine walk_skip (fun _ => Below.refl _ _) (fun _ => rfl) ?_; simp only [Act.put, List.setIfInBounds_toArray, List.set_cons_zero, List.set_cons_succ, Nat.reduceAdd]))
  refine walk_done fun us w2 hb2 hF => ?_
  clear hF cU1
  go_wp2_with fail
  refine (C2.out _ hb2).mono ?_
  rintro e w3 ⟨rfl, rfl⟩
  go_wp2_with fail
  refine (C3.out _ hb2).mono ?_
  rintro e w4 ⟨rfl, rfl⟩
  go_upto_region 11 with (fail)
  have cV1 := HCV.out w4
  have hsl4 := hsl.below hb2
  refine wp_region_told (n := 140) (fun w9 => Below w4.heap.size w4 w9) (fun w1 w2 => Below w1.heap.size w1 w2) (by kernel_rfl) (by kernel_rfl) (by rfl) (below_drewN (Below.refl _ _) 1) ?_
  repeat (first | (refine walk_pure (v := ?_) (fun _ => Below.refl _ _) (fun _ => rfl) ?_ ?_; rotate_left; (focus (intro us w9 hS9 hF; go_simp; (try with_reducible rfl); done)); simp only [Act.put, List.setIfInBounds_toArray, List.set_cons_zero, List.set_cons_succ, Nat.reduceAdd]) | (refine walk_skip (fun _ => Below.refl _ _) (fun _ => rfl) ?_; simp only [Act.put, List.setIfInBounds_toArray, List.set_cons_zero, List.set_cons_succ, Nat.reduceAdd]))
  refine walk_free (BX (uvB v j)) BX.mono ?_ ?_; (focus (intro us w9 hS9 hF K hK; go_simp; refine (cV1 w9 hS9).mono ?_; rintro e w' ⟨A9, n9, c9, rfl, hi9, hS8, hG8⟩; exact hK _ w' hS8 hG8 ⟨A9, n9, c9, rfl, hi9⟩)); simp only [Act.put, List.setIfInBounds_toArray, List.set_cons_zero, List.set_cons_succ, Nat.reduceAdd]
  refine walk_pure (v := ?_) (fun _ => Below.refl _ _) (fun _ => rfl) ?_ ?_; rotate_left; (focus (intro us w9 hS9 hF; obtain ⟨A9, n9, c9, hu, hi⟩ := hF (14, BX (uvB v j)) (by simp) (by kernel_rfl); have hs := run_str (P := Try.prog) (dst := 9) Try.underlying22 Try.underlying5 Try.underlying9 c9 hi; clear hi hF; go_simp; (try with_reducible rfl); done)); simp only [Act.put, List.setIfInBounds_toArray, List.set_cons_zero, List.set_cons_succ, Nat.reduceAdd]
  repeat (first | (refine walk_pure (v := ?_) (fun _ => Below.refl _ _) (fun _ => rfl) ?_ ?_; rotate_left; (focus (intro us w9 hS9 hF; go_simp; (try with_reducible rfl); done)); simp only [Act.put, List.setIfInBounds_toArray, List.set_cons_zero, List.set_cons_succ, Nat.reduceAdd]) | (refine walk_skip (fun _ => Below.refl _ _) (fun _ => rfl) ?_; simp only [Act.put, List.setIfInBounds_toArray, List.set_cons_zero, List.set_cons_succ, Nat.reduceAdd]))
  refine walk_pure (v := ?_) (fun _ => Below.refl _ _) (fun _ => rfl) ?_ ?_; rotate_left; (focus (intro us w9 hS9 hF; have hs := run_str (P := Try.prog) (dst := 9) Try.underlying22 Try.underlying5 Try.underlying9 (c - o) ((hsl4).below hS9); clear hF; go_simp; (try with_reducible rfl); done)); simp only [Act.put, List.setIfInBounds_toArray, List.set_cons_zero, List.set_cons_succ, Nat.reduceAdd]
  repeat (first | (refine walk_pure (v := ?_) (fun _ => Below.refl _ _) (fun _ => rfl) ?_ ?_; rotate_left; (focus (intro us w9 hS9 hF; go_simp; (try with_reducible rfl); done)); simp only [Act.put, List.setIfInBounds_toArray, List.set_cons_zero, List.set_cons_succ, Nat.reduceAdd]) | (refine walk_skip (fun _ => Below.refl _ _) (fun _ => rfl) ?_; simp only [Act.put, List.setIfInBounds_toArray, List.set_cons_zero, List.set_cons_succ, Nat.reduceAdd]))
  refine walk_done fun us w5 hb5 hF => ?_
  clear hF cV1 hsl4 hsl
  have hb15 := below_next hb2 hb5
  go_wp2_with fail
  refine (C4.out _ hb15).mono ?_
  rintro e w6 ⟨A3, n3, c3, he, hi3, hb6⟩
  have hb16 := below_next hb15 hb6
  have hB2 := hB.out
  clear C4 HCV HCU hb6 hb15 hb2 hb5 hB
  generalize bR bs (o : Nat) n = r at *
  obtain ⟨ps, k, er⟩ := r
  simp only at he hi3
  subst he
  have cW : ∀ w9, Below w6.heap.size w6 w9 → Calls Try.prog 13 #[] w9 (fun e w10 => e = .returned (.bool true) ∧ Below w6.heap.size w6 w10 ∧ Below w9.heap.size w9 w10) := fun w9 h => true_S h (awake01 w9)
  by_cases her : er = 0
  · subst her
    obtain ⟨v', j', _, hv', hj', hk, hkl, hg', ht'⟩ := hB2 ps k rfl
    have e3 : v' = n3 := by have := hi3.1; omega
    subst e3
    have hA6 := HA.out.below hb16
    have hkn : k ≤ n := by have := hl.out; omega
    have hok : o ≤ k := by omega
    have hI7 : (o : Int) ≤ k := by omega
    have hI8 : (k : Int) ≤ c := by omega
    have hT3 : decide (o ≤ k) = true := decide_eq_true hok
    have hT4 : decide (k ≤ n) = true := decide_eq_true hkn
    have hsk : IsB w6 (some ⟨b2, o2 + o, none⟩) (k - o) (uvB v' j' ++ ps) := by
      have h := hA6.suf (k := o) (v := j' + v') (by omega)
      rw [ht'] at h
      rwa [show k - o = j' + v' by omega]
    have cB : ∀ w9, Below w6.heap.size w6 w9 → Calls Try.prog 38 #[.slice none 0 0, .slice A3 v' c3] w9 (GivesS w6 w9 (uvB v' j' ++ ps)) := fun w9 h => by
      have h1 := new_S h (append_bytes none 0 0 [] A3 v' c3 ps j' w9 (IsB.nil _ _) (by omega) (hi3.below h) (by omega) hg')
      simpa using h1
    clear hB2 hk hkl hg' ht' hA6 hv'
    go_upto_region 14 with (fail)
    refine wp_region_told (n := 140) (fun w9 => Below w6.heap.size w6 w9) (fun w1 w2 => Below w1.heap.size w1 w2) (by kernel_rfl) (by kernel_rfl) (by rfl) (below_drewN (Below.refl _ _) 1) ?_
    repeat (first | (refine walk_pure (v := ?_) (fun _ => Below.refl _ _) (fun _ => rfl) ?_ ?_; rotate_left; (focus (intro us w9 hS9 hF; go_simp; (try with_reducible rfl); done)); simp only [Act.put, List.setIfInBounds_toArray, List.set_cons_zero, List.set_cons_succ, Nat.reduceAdd]) | (refine walk_skip (fun _ => Below.refl _ _) (fun _ => rfl) ?_; simp only [Act.put, List.setIfInBounds_toArray, List.set_cons_zero, List.set_cons_succ, Nat.reduceAdd]))
    refine walk_free (BX (uvB v' j' ++ ps)) BX.mono ?_ ?_; (focus (intro us w9 hS9 hF K hK; go_simp; refine (cB w9 hS9).mono ?_; rintro e w' ⟨A9, n9, c9, rfl, hi9, hS8, hG8⟩; exact hK _ w' hS8 hG8 ⟨A9, n9, c9, rfl, hi9⟩)); simp only [Act.put, List.setIfInBounds_toArray, List.set_cons_zero, List.set_cons_succ, Nat.reduceAdd]
    refine walk_pure (v := ?_) (fun _ => Below.refl _ _) (fun _ => rfl) ?_ ?_; rotate_left; (focus (intro us w9 hS9 hF; obtain ⟨A9, n9, c9, hu, hi⟩ := hF (14, BX (uvB v' j' ++ ps)) (by simp) (by kernel_rfl); have hs := run_str (P := Try.prog) (dst := 9) Try.underlying22 Try.underlying5 Try.underlying9 c9 hi; clear hi hF; go_simp; (try with_reducible rfl); done)); simp only [Act.put, List.setIfInBounds_toArray, List.set_cons_zero, List.set_cons_succ, Nat.reduceAdd]
    repeat (first | (refine walk_pure (v := ?_) (fun _ => Below.refl _ _) (fun _ => rfl) ?_ ?_; rotate_left; (focus (intro us w9 hS9 hF; go_simp; (try with_reducible rfl); done)); simp only [Act.put, List.setIfInBounds_toArray, List.set_cons_zero, List.set_cons_succ, Nat.reduceAdd]) | (refine walk_skip (fun _ => Below.refl _ _) (fun _ => rfl) ?_; simp only [Act.put, List.setIfInBounds_toArray, List.set_cons_zero, List.set_cons_succ, Nat.reduceAdd]))
    refine walk_pure (v := ?_) (fun _ => Below.refl _ _) (fun _ => rfl) ?_ ?_; rotate_left; (focus (intro us w9 hS9 hF; have hs := run_str (P := Try.prog) (dst := 9) Try.underlying22 Try.underlying5 Try.underlying9 (c - o) ((hsk).below hS9); clear hF; go_simp; (try with_reducible rfl); done)); simp only [Act.put, List.setIfInBounds_toArray, List.set_cons_zero, List.set_cons_succ, Nat.reduceAdd]
    repeat (first | (refine walk_pure (v := ?_) (fun _ => Below.refl _ _) (fun _ => rfl) ?_ ?_; rotate_left; (focus (intro us w9 hS9 hF; go_simp; (try with_reducible rfl); done)); simp only [Act.put, List.setIfInBounds_toArray, List.set_cons_zero, List.set_cons_succ, Nat.reduceAdd]) | (refine walk_skip (fun _ => Below.refl _ _) (fun _ => rfl) ?_; simp only [Act.put, List.setIfInBounds_toArray, List.set_cons_zero, List.set_cons_succ, Nat.reduceAdd]))
    refine walk_fix (v := ?_) ?_ ?_; rotate_left; (focus (intro us w9 hS9 hF K hK; go_simp; refine (cW w9 hS9).mono ?_; rintro e w' ⟨rfl, hS8, hG8⟩; exact hK w' hS8 hG8)); simp only [Act.put, List.setIfInBounds_toArray, List.set_cons_zero, List.set_cons_succ, Nat.reduceAdd]
    repeat (first | (refine walk_pure (v := ?_) (fun _ => Below.refl _ _) (fun _ => rfl) ?_ ?_; rotate_left; (focus (intro us w9 hS9 hF; go_simp; (try with_reducible rfl); done)); simp only [Act.put, List.setIfInBounds_toArray, List.set_cons_zero, List.set_cons_succ, Nat.reduceAdd]) | (refine walk_skip (fun _ => Below.refl _ _) (fun _ => rfl) ?_; simp only [Act.put, List.setIfInBounds_toArray, List.set_cons_zero, List.set_cons_succ, Nat.reduceAdd]))
    refine walk_done fun us w10 hS10 hF => ?_
    clear hF cW cB
    go_wp2
    go_ret
    exact ⟨rfl, below_next hb16 hS10⟩
  · have hnb : ((er : Int) != 0) = true := by simpa using her
    clear hB2
    go_upto_region 14 with (fail)
    refine wp_region_told (n := 140) (fun w9 => Below w6.heap.size w6 w9) (fun w1 w2 => Below w1.heap.size w1 w2) (by kernel_rfl) (by kernel_rfl) (by rfl) (below_drewN (Below.refl _ _) 1) ?_
    repeat (first | (refine walk_pure (v := ?_) (fun _ => Below.refl _ _) (fun _ => rfl) ?_ ?_; rotate_left; (focus (intro us w9 hS9 hF; go_simp; (try with_reducible rfl); done)); simp only [Act.put, List.setIfInBounds_toArray, List.set_cons_zero, List.set_cons_succ, Nat.reduceAdd]) | (refine walk_skip (fun _ => Below.refl _ _) (fun _ => rfl) ?_; simp only [Act.put, List.setIfInBounds_toArray, List.set_cons_zero, List.set_cons_succ, Nat.reduceAdd]))
    refine walk_fix (v := ?_) ?_ ?_; rotate_left; (focus (intro us w9 hS9 hF K hK; go_simp; refine (cW w9 hS9).mono ?_; rintro e w' ⟨rfl, hS8, hG8⟩; exact hK w' hS8 hG8)); simp only [Act.put, List.setIfInBounds_toArray, List.set_cons_zero, List.set_cons_succ, Nat.reduceAdd]
    repeat (first | (refine walk_pure (v := ?_) (fun _ => Below.refl _ _) (fun _ => rfl) ?_ ?_; rotate_left; (focus (intro us w9 hS9 hF; go_simp; (try with_reducible rfl); done)); simp only [Act.put, List.setIfInBounds_toArray, List.set_cons_zero, List.set_cons_succ, Nat.reduceAdd]) | (refine walk_skip (fun _ => Below.refl _ _) (fun _ => rfl) ?_; simp only [Act.put, List.setIfInBounds_toArray, List.set_cons_zero, List.set_cons_succ, Nat.reduceAdd]))
    refine walk_done fun us w10 hS10 hF => ?_
    clear hF cW
    go_wp2
    go_ret
    exact ⟨rfl, below_next hb16 hS10⟩
theorem walk_canonical (W : World) (A : Option Addr) (n c : Nat) (zs : List Int) (off : Int) (h : IsRow .u8 W A n c zs) (ho : (Lit.int .i64 off).wf = true) :
    Calls Try.prog 12 #[.slice A n c, .int .i64 off] W (True1 W) := by
  obtain ⟨bs, hA, hn⟩ := h.isB
  simp [Lit.wf, IntKind.min, IntKind.max, IntKind.signed, IntKind.bits] at ho
  by_cases hbad : 1000 < n ∨ off < 0 ∨ (n : Int) < off
  · exact can_bad A n c bs off W hA h.cap hn (by omega) (by omega) hbad
  · obtain ⟨o, rfl⟩ : ∃ o : Nat, off = (o : Int) := ⟨off.toNat, by omega⟩
    by_cases he : (uvR bs (o : Nat)).2.2 = 0
    · obtain ⟨v, X, hR⟩ : ∃ v X, uvR bs (o : Nat) = (v, X, 0) := ⟨_, _, by rw [← he]⟩
      have hv := uvR_lt bs (o : Nat)
      rw [hR] at hv
      obtain ⟨j, j0, hX, hjl, ht, hg, hcut⟩ := uvR_conv hR
      have hl := hA.1
      exact can_ok A n c bs o W hA h.cap (by omega) v j X (X - 1) hR hX (by omega) j0 (by omega) hg hv ht hcut
    · exact can_err A n c bs o W hA h.cap (by omega) (by omega) _ _ _ rfl he
end Go.Proofs.Ytajkhijphdnbpaa

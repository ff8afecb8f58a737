/- The walk of BinencFixed. -/
import Derived.Test.YtajkhijphdnbpaaUint
import Derived.Test.YtajkhijphdnbpaaToldB
import Derived.Test.YtajkhijphdnbpaaIsRow
namespace Go.Proofs.Ytajkhijphdnbpaa
open Go.RowKit
set_option linter.unusedVariables false
theorem law_fixed (A : Option Addr) (n c : Nat) (bs : List UInt8) (v : Nat) (off : Int) (w : World) (hA : IsB w A n bs) (hn : n ≤ 9223372036854775807) (hv : v < 18446744073709551616) (b0 : -9223372036854775808 ≤ off) (b1 : off < 9223372036854775808) :
    Calls Try.prog 7 #[.slice A n c, .int .u64 v, .int .i64 off] w (True1 w) := by
  rcases Nat.lt_or_ge 1000 n with hbad | hgd
  · go_enter Try.func7, Try.ntmps7
    go_wp2_with (go_at_call 13; refine (awake01 _).mono ?_; rintro e w1 ⟨rfl, hb1⟩)
    go_ret
    exact ⟨rfl, hb1⟩
  · have hn1 : n ≤ 1000000000 := by omega
    go_enter Try.func7, Try.ntmps7
    go_wp2_with fail
    refine (spare01 A n c bs _ hA (by omega)).mono ?_
    rintro e w1 ⟨g, cc, rfl, ho, hb⟩
    have hc1 : n + 1 ≤ cc := by obtain ⟨_, _, _, _, h⟩ := ho.form (by omega); exact h
    have hC : IsB w1 (some ⟨g, 0, none⟩) n bs := by
      have h := ho.isB.pre n (by omega)
      rwa [List.take_left' hA.1.symm] at h
    have hA1 := hA.below hb
    have h16 := uint16_01 (some ⟨g, 0, none⟩) n cc bs off w1 hC hn1 b0 b1
    have h32 := uint32_01 (some ⟨g, 0, none⟩) n cc bs off w1 hC hn1 b0 b1
    have h64 := uint64_01 (some ⟨g, 0, none⟩) n cc bs off w1 hC hn1 b0 b1
    have r16 := uint_ref A n c bs off 2 w1 hA1 hn1 (by omega) (by omega) b0 b1
    have r32 := uint_ref A n c bs off 4 w1 hA1 hn1 (by omega) (by omega) b0 b1
    have r64 := uint_ref A n c bs off 8 w1 hA1 hn1 (by omega) (by omega) b0 b1
    change Calls _ _ #[.slice A n c, .int .i64 off, .int .i64 2] _ _ at r16
    change Calls _ _ #[.slice A n c, .int .i64 off, .int .i64 4] _ _ at r32
    change Calls _ _ #[.slice A n c, .int .i64 off, .int .i64 8] _ _ at r64
    have l16 := fixR_lt bs off 2
    have l32 := fixR_lt bs off 4
    unfold FixPost at *
    generalize fixR bs off 2 = x2 at *
    generalize fixR bs off 4 = x4 at *
    generalize fixR bs off 8 = x8 at *
    obtain ⟨x2, e2⟩ := x2
    obtain ⟨x4, e4⟩ := x4
    obtain ⟨x8, e8⟩ := x8
    have m16 : IntKind.u64.wrap (x2 : Int) = (x2 : Int) := wrap64 (by have h1 : x2 < 65536 := l16; omega)
    have m32 : IntKind.u64.wrap (x4 : Int) = (x4 : Int) := wrap64 (by have h1 : x4 < 4294967296 := l32; omega)
    clear l16 l32
    go_wp2_with fail
    refine h16.mono ?_
    rintro e w' ⟨rfl, rfl⟩
    go_wp2_with fail
    refine h32.mono ?_
    rintro e w' ⟨rfl, rfl⟩
    go_wp2_with fail
    refine h64.mono ?_
    rintro e w' ⟨rfl, rfl⟩
    go_wp2_with fail
    refine r16.mono ?_
    rintro e w' ⟨rfl, rfl⟩
    go_wp2_with fail
    refine r32.mono ?_
    rintro e w' ⟨rfl, rfl⟩
    go_wp2_with fail
    refine r64.mono ?_
    rintro e w' ⟨rfl, rfl⟩
    clear h16 h32 h64 r16 r32 r64
    go_upto_region 12 with (fail)
    have cA2 : ∀ w9, Below w'.heap.size w' w9 → Calls Try.prog 24 #[.slice (some ⟨g, 0, none⟩) n cc, .int .u16 ((v : Int) % 65536)] w9 (GivesS w' w9 (bs ++ fixB v 2)) := fun w9 h => by
      have h1 := app16 (some ⟨g, 0, none⟩) n cc bs (v % 65536) w9 (hC.below h) hn1 (Nat.mod_lt _ (by omega))
      rw [show fixB (v % 65536) 2 = fixB v 2 from fixB_mod v 2] at h1
      exact new_S h h1
    have cB2 : ∀ w9, Below w'.heap.size w' w9 → Calls Try.prog 25 #[.slice A n c, .int .u64 v, .int .i64 2] w9 (GivesS w' w9 (bs ++ fixB v 2)) := fun w9 h => gives_S h (append_ref A n c bs v 2 w9 (hA1.below h) (by omega) hv (by omega))
    have cA4 : ∀ w9, Below w'.heap.size w' w9 → Calls Try.prog 26 #[.slice (some ⟨g, 0, none⟩) n cc, .int .u32 ((v : Int) % 4294967296)] w9 (GivesS w' w9 (bs ++ fixB v 4)) := fun w9 h => by
      have h1 := app32 (some ⟨g, 0, none⟩) n cc bs (v % 4294967296) w9 (hC.below h) hn1 (Nat.mod_lt _ (by omega))
      rw [show fixB (v % 4294967296) 4 = fixB v 4 from fixB_mod v 4] at h1
      exact new_S h h1
    have cB4 : ∀ w9, Below w'.heap.size w' w9 → Calls Try.prog 25 #[.slice A n c, .int .u64 v, .int .i64 4] w9 (GivesS w' w9 (bs ++ fixB v 4)) := fun w9 h => gives_S h (append_ref A n c bs v 4 w9 (hA1.below h) (by omega) hv (by omega))
    have cA8 : ∀ w9, Below w'.heap.size w' w9 → Calls Try.prog 27 #[.slice (some ⟨g, 0, none⟩) n cc, .int .u64 v] w9 (GivesS w' w9 (bs ++ fixB v 8)) := fun w9 h => new_S h (app64 (some ⟨g, 0, none⟩) n cc bs v w9 (hC.below h) hn1 hv)
    have cB8 : ∀ w9, Below w'.heap.size w' w9 → Calls Try.prog 25 #[.slice A n c, .int .u64 v, .int .i64 8] w9 (GivesS w' w9 (bs ++ fixB v 8)) := fun w9 h => gives_S h (append_ref A n c bs v 8 w9 (hA1.below h) (by omega) hv (by omega))
    refine wp_region_told (n := 145) (fun w9 => Below w'.heap.size w' w9) (fun w1 w2 => Below w1.heap.size w1 w2) (by kernel_rfl) (by kernel_rfl) (by rfl) (below_drewN (Below.refl _ _) 1) ?_
    repeat (refine walk_pure (v := ?_) (fun _ => Below.refl _ _) (fun _ => rfl) ?_ ?_; rotate_left; (focus (intro us w9 hS9 hF; go_simp; (try with_reducible rfl); done)); simp only [Act.put, List.setIfInBounds_toArray, List.set_cons_zero, List.set_cons_succ, Nat.reduceAdd])
    refine walk_free (BX (bs ++ fixB v 2)) BX.mono ?_ ?_; (focus (intro us w9 hS9 hF K hK; go_simp; refine (cA2 w9 hS9).mono ?_; rintro e w' ⟨A9, n9, c9, rfl, hi9, hS8, hG8⟩; exact hK _ w' hS8 hG8 ⟨A9, n9, c9, rfl, hi9⟩)); simp only [Act.put, List.setIfInBounds_toArray, List.set_cons_zero, List.set_cons_succ, Nat.reduceAdd]
    refine walk_pure (v := ?_) (fun _ => Below.refl _ _) (fun _ => rfl) ?_ ?_; rotate_left; (focus (intro us w9 hS9 hF; obtain ⟨A9, n9, c9, hu, hi⟩ := hF (3, BX (bs ++ fixB v 2)) (by simp) (by kernel_rfl); have hs := run_str (P := Try.prog) (dst := 9) Try.underlying22 Try.underlying5 Try.underlying9 c9 hi; clear hi hF; go_simp; (try with_reducible rfl); done)); simp only [Act.put, List.setIfInBounds_toArray, List.set_cons_zero, List.set_cons_succ, Nat.reduceAdd]
    repeat (refine walk_pure (v := ?_) (fun _ => Below.refl _ _) (fun _ => rfl) ?_ ?_; rotate_left; (focus (intro us w9 hS9 hF; go_simp; (try with_reducible rfl); done)); simp only [Act.put, List.setIfInBounds_toArray, List.set_cons_zero, List.set_cons_succ, Nat.reduceAdd])
    refine walk_free (BX (bs ++ fixB v 2)) BX.mono ?_ ?_; (focus (intro us w9 hS9 hF K hK; go_simp; refine (cB2 w9 hS9).mono ?_; rintro e w' ⟨A9, n9, c9, rfl, hi9, hS8, hG8⟩; exact hK _ w' hS8 hG8 ⟨A9, n9, c9, rfl, hi9⟩)); simp only [Act.put, List.setIfInBounds_toArray, List.set_cons_zero, List.set_cons_succ, Nat.reduceAdd]
    refine walk_pure (v := ?_) (fun _ => Below.refl _ _) (fun _ => rfl) ?_ ?_; rotate_left; (focus (intro us w9 hS9 hF; obtain ⟨A9, n9, c9, hu, hi⟩ := hF (7, BX (bs ++ fixB v 2)) (by simp) (by kernel_rfl); have hs := run_str (P := Try.prog) (dst := 9) Try.underlying22 Try.underlying5 Try.underlying9 c9 hi; clear hi hF; go_simp; (try with_reducible rfl); done)); simp only [Act.put, List.setIfInBounds_toArray, List.set_cons_zero, List.set_cons_succ, Nat.reduceAdd]
    repeat (refine walk_pure (v := ?_) (fun _ => Below.refl _ _) (fun _ => rfl) ?_ ?_; rotate_left; (focus (intro us w9 hS9 hF; go_simp; (try with_reducible rfl); done)); simp only [Act.put, List.setIfInBounds_toArray, List.set_cons_zero, List.set_cons_succ, Nat.reduceAdd])
    refine walk_free (BX (bs ++ fixB v 4)) BX.mono ?_ ?_; (focus (intro us w9 hS9 hF K hK; go_simp; refine (cA4 w9 hS9).mono ?_; rintro e w' ⟨A9, n9, c9, rfl, hi9, hS8, hG8⟩; exact hK _ w' hS8 hG8 ⟨A9, n9, c9, rfl, hi9⟩)); simp only [Act.put, List.setIfInBounds_toArray, List.set_cons_zero, List.set_cons_succ, Nat.reduceAdd]
    refine walk_pure (v := ?_) (fun _ => Below.refl _ _) (fun _ => rfl) ?_ ?_; rotate_left; (focus (intro us w9 hS9 hF; obtain ⟨A9, n9, c9, hu, hi⟩ := hF (14, BX (bs ++ fixB v 4)) (by simp) (by kernel_rfl); have hs := run_str (P := Try.prog) (dst := 9) Try.underlying22 Try.underlying5 Try.underlying9 c9 hi; clear hi hF; go_simp; (try with_reducible rfl); done)); simp only [Act.put, List.setIfInBounds_toArray, List.set_cons_zero, List.set_cons_succ, Nat.reduceAdd]
    repeat (refine walk_pure (v := ?_) (fun _ => Below.refl _ _) (fun _ => rfl) ?_ ?_; rotate_left; (focus (intro us w9 hS9 hF; go_simp; (try with_reducible rfl); done)); simp only [Act.put, List.setIfInBounds_toArray, List.set_cons_zero, List.set_cons_succ, Nat.reduceAdd])
    refine walk_free (BX (bs ++ fixB v 4)) BX.mono ?_ ?_; (focus (intro us w9 hS9 hF K hK; go_simp; refine (cB4 w9 hS9).mono ?_; rintro e w' ⟨A9, n9, c9, rfl, hi9, hS8, hG8⟩; exact hK _ w' hS8 hG8 ⟨A9, n9, c9, rfl, hi9⟩)); simp only [Act.put, List.setIfInBounds_toArray, List.set_cons_zero, List.set_cons_succ, Nat.reduceAdd]
    refine walk_pure (v := ?_) (fun _ => Below.refl _ _) (fun _ => rfl) ?_ ?_; rotate_left; (focus (intro us w9 hS9 hF; obtain ⟨A9, n9, c9, hu, hi⟩ := hF (18, BX (bs ++ fixB v 4)) (by simp) (by kernel_rfl); have hs := run_str (P := Try.prog) (dst := 9) Try.underlying22 Try.underlying5 Try.underlying9 c9 hi; clear hi hF; go_simp; (try with_reducible rfl); done)); simp only [Act.put, List.setIfInBounds_toArray, List.set_cons_zero, List.set_cons_succ, Nat.reduceAdd]
    repeat (refine walk_pure (v := ?_) (fun _ => Below.refl _ _) (fun _ => rfl) ?_ ?_; rotate_left; (focus (intro us w9 hS9 hF; go_simp; (try with_reducible rfl); done)); simp only [Act.put, List.setIfInBounds_toArray, List.set_cons_zero, List.set_cons_succ, Nat.reduceAdd])
    refine walk_free (BX (bs ++ fixB v 8)) BX.mono ?_ ?_; (focus (intro us w9 hS9 hF K hK; go_simp; refine (cA8 w9 hS9).mono ?_; rintro e w' ⟨A9, n9, c9, rfl, hi9, hS8, hG8⟩; exact hK _ w' hS8 hG8 ⟨A9, n9, c9, rfl, hi9⟩)); simp only [Act.put, List.setIfInBounds_toArray, List.set_cons_zero, List.set_cons_succ, Nat.reduceAdd]
    refine walk_pure (v := ?_) (fun _ => Below.refl _ _) (fun _ => rfl) ?_ ?_; rotate_left; (focus (intro us w9 hS9 hF; obtain ⟨A9, n9, c9, hu, hi⟩ := hF (25, BX (bs ++ fixB v 8)) (by simp) (by kernel_rfl); have hs := run_str (P := Try.prog) (dst := 9) Try.underlying22 Try.underlying5 Try.underlying9 c9 hi; clear hi hF; go_simp; (try with_reducible rfl); done)); simp only [Act.put, List.setIfInBounds_toArray, List.set_cons_zero, List.set_cons_succ, Nat.reduceAdd]
    repeat (refine walk_pure (v := ?_) (fun _ => Below.refl _ _) (fun _ => rfl) ?_ ?_; rotate_left; (focus (intro us w9 hS9 hF; go_simp; (try with_reducible rfl); done)); simp only [Act.put, List.setIfInBounds_toArray, List.set_cons_zero, List.set_cons_succ, Nat.reduceAdd])
    refine walk_free (BX (bs ++ fixB v 8)) BX.mono ?_ ?_; (focus (intro us w9 hS9 hF K hK; go_simp; refine (cB8 w9 hS9).mono ?_; rintro e w' ⟨A9, n9, c9, rfl, hi9, hS8, hG8⟩; exact hK _ w' hS8 hG8 ⟨A9, n9, c9, rfl, hi9⟩)); simp only [Act.put, List.setIfInBounds_toArray, List.set_cons_zero, List.set_cons_succ, Nat.reduceAdd]
    refine walk_pure (v := ?_) (fun _ => Below.refl _ _) (fun _ => rfl) ?_ ?_; rotate_left; (focus (intro us w9 hS9 hF; obtain ⟨A9, n9, c9, hu, hi⟩ := hF (29, BX (bs ++ fixB v 8)) (by simp) (by kernel_rfl); have hs := run_str (P := Try.prog) (dst := 9) Try.underlying22 Try.underlying5 Try.underlying9 c9 hi; clear hi hF; go_simp; (try with_reducible rfl); done)); simp only [Act.put, List.setIfInBounds_toArray, List.set_cons_zero, List.set_cons_succ, Nat.reduceAdd]
    repeat (refine walk_pure (v := ?_) (fun _ => Below.refl _ _) (fun _ => rfl) ?_ ?_; rotate_left; (focus (intro us w9 hS9 hF; go_simp; (try with_reducible rfl); done)); simp only [Act.put, List.setIfInBounds_toArray, List.set_cons_zero, List.set_cons_succ, Nat.reduceAdd])
    refine walk_done fun us w9 hS9 hF => ?_
    clear hF cA2 cA4 cA8 cB2 cB4 cB8
    have hC9 := hC.below hS9
    have hA9 := hA1.below hS9
    have s1 := run_str (P := Try.prog) (dst := 9) Try.underlying22 Try.underlying5 Try.underlying9 cc hC9
    have s2 := run_str (P := Try.prog) (dst := 9) Try.underlying22 Try.underlying5 Try.underlying9 c hA9
    have hcell : w9.cell? ⟨g, n, none⟩ = some (.int .u8 99) := by
      obtain ⟨b5, o5, e5, f5⟩ := (ho.isB.below hS9).2 (by omega)
      injection e5 with e5
      injection e5 with e5 e6
      subst e5 e6
      have h5 := f5 n (by have := hA.1; simp; omega)
      rw [Nat.zero_add] at h5
      rw [h5]
      have h6 : (bs ++ [99])[n]'(by have := hA.1; simp; omega) = 99 := by have := hA.1; subst this; simp
      rw [h6]
      rfl
    have hbw := hb.trans (hS9.mono hb.size)
    clear hC9 hA9 hC hA1 ho
    go_wp2_with fail
    refine (awake01 _).mono ?_
    rintro e w10 ⟨rfl, hb10⟩
    go_wp2
    go_ret
    exact ⟨rfl, below_next hbw hb10⟩
theorem walk_fixed (W : World) (A : Option Addr) (n c : Nat) (zs : List Int) (v off : Int) (h : IsRow .u8 W A n c zs) (hv : (Lit.int .u64 v).wf = true) (ho : (Lit.int .i64 off).wf = true) :
    Calls Try.prog 7 #[.slice A n c, .int .u64 v, .int .i64 off] W (True1 W) := by
  obtain ⟨bs, hA, hn⟩ := h.isB
  simp [Lit.wf, IntKind.min, IntKind.max, IntKind.signed, IntKind.bits] at hv ho
  obtain ⟨V, rfl⟩ : ∃ V : Nat, v = (V : Int) := ⟨v.toNat, by omega⟩
  exact law_fixed A n c bs V off W hA hn (by omega) (by omega) (by omega)
end Go.Proofs.Ytajkhijphdnbpaa

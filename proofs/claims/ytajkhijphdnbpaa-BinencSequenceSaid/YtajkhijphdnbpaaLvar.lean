/- The walk of BinencVariable. -/
import Derived.Test.YtajkhijphdnbpaaVar
import Derived.Test.YtajkhijphdnbpaaUva
import Derived.Test.YtajkhijphdnbpaaToldB
import Derived.Test.YtajkhijphdnbpaaIsRow
namespace Go.Proofs.Ytajkhijphdnbpaa
open Go.RowKit
set_option linter.unusedVariables false
theorem Grp.ex (v : Nat) : ∃ s, Grp v s := by
  induction v using Nat.strongRecOn with
  | ind v ih =>
    rcases Nat.lt_or_ge v 128 with h | h
    · exact ⟨1, by omega, by omega, .inl rfl⟩
    · obtain ⟨s, h1, h2, h3⟩ := ih (v / 128) (by omega)
      refine ⟨s + 1, by omega, ?_, .inr ?_⟩
      · rw [Nat.pow_succ, Nat.mul_comm]; omega
      · rcases h3 with h3 | h3
        · subst h3; simpa using h
        · obtain ⟨t, rfl⟩ : ∃ t, s = t + 1 := ⟨s - 1, by omega⟩
          simp only [Nat.add_sub_cancel] at h3 ⊢
          rw [Nat.pow_succ, Nat.mul_comm]; omega
theorem SpareB.gives {W w' : World} {bs : List UInt8} {n : Nat} {e : Ending} (hl : n = bs.length) (h : SpareB W bs n e w') : GivesB W bs e w' := by
  obtain ⟨g, c, rfl, ho, hb⟩ := h
  have hi := ho.isB.pre n (by omega)
  rw [List.take_left' hl.symm] at hi
  exact ⟨_, _, _, rfl, hi, hb⟩
set_option maxRecDepth 20000 in
set_option maxHeartbeats 4000000 in
theorem law_variable (A : Option Addr) (n c : Nat) (bs : List UInt8) (off : Int) (v : Nat) (v2 : Int) (w : World) (hA : IsB w A n bs) (hn : n ≤ 9223372036854775807) (b0 : -9223372036854775808 ≤ off) (b1 : off < 9223372036854775808)
    (hv : v < 18446744073709551616) (z0 : -9223372036854775808 ≤ v2) (z1 : v2 < 9223372036854775808) :
    Calls Try.prog 8 #[.slice A n c, .int .i64 off, .int .u64 v, .int .i64 v2] w (True1 w) := by
  rcases Nat.lt_or_ge 1000 n with hbad | hgd
  · go_enter Try.func8, Try.ntmps8
    go_wp2_with (go_at_call 13; refine (awake01 _).mono ?_; rintro e w1 ⟨rfl, hb1⟩)
    go_ret
    exact ⟨rfl, hb1⟩
  · have hn1 : n ≤ 1000000000 := by omega
    obtain ⟨s, hg⟩ := Grp.ex v
    obtain ⟨s2, hg2⟩ := Grp.ex (zz v2)
    have HG := Lib.hid hg
    have HG2 := Lib.hid hg2
    clear hg hg2
    have HA := Lib.hid hA
    have hl := Lib.hid hA.1
    clear hA
    go_enter Try.func8, Try.ntmps8
    go_wp2_with fail
    refine (spare01 A n c bs _ HA.out (by omega)).mono ?_
    rintro e w1 he1
    obtain ⟨A1, n1, c1, rfl, hi1, hb1⟩ := he1.gives hl.out
    clear he1
    have HC := Lib.hid (uvarint01 A1 n1 c1 bs off w1 hi1 (by have := hi1.1; have := hl.out; omega) b0 b1)
    have HCr := Lib.hid (uvarint_ref A n c bs off w1 (HA.out.below hb1) hn1 b0 b1)
    unfold UvPost at HC HCr
    generalize uvR bs off = r at *
    obtain ⟨u, nx, er⟩ := r
    go_wp2_with fail
    refine HC.out.mono ?_
    rintro e w' ⟨rfl, rfl⟩
    go_wp2_with fail
    refine HCr.out.mono ?_
    rintro e w1' ⟨rfl, rfl⟩
    clear HC HCr hi1
    go_wp2_with fail
    refine (spare01 A n c bs _ (HA.out.below hb1) (by omega)).mono ?_
    rintro e w2 he2
    obtain ⟨A2, n2, c2, rfl, hi2, hb2⟩ := he2.gives hl.out
    clear he2
    have hb := below_next hb1 hb2
    clear hb1 hb2
    have HC := Lib.hid (varint01 A2 n2 c2 bs off w2 hi2 (by have := hi2.1; have := hl.out; omega) b0 b1)
    have HCr := Lib.hid (varint_ref A n c bs off w2 (HA.out.below hb) hn1 b0 b1)
    unfold VPost at HC HCr
    generalize vR bs off = r at *
    obtain ⟨u2, nx2, er2⟩ := r
    go_wp2_with fail
    refine HC.out.mono ?_
    rintro e w' ⟨rfl, rfl⟩
    go_wp2_with fail
    refine HCr.out.mono ?_
    rintro e w2' ⟨rfl, rfl⟩
    clear HC HCr hi2
    have hA2 := HA.out.below hb
    go_upto_region 7 with (fail)
    have cS : ∀ w9, Below w2'.heap.size w2' w9 → Calls Try.prog 15 #[.slice A n c] w9 (GivesS w2' w9 bs) := fun w9 h => gives_S h ((spare01 A n c bs w9 (hA2.below h) (by omega)).mono fun e w10 r => r.gives hl.out)
    have cU : ∀ A8 n8 c8 w9, IsB w9 A8 n8 bs → Below w2'.heap.size w2' w9 → Calls Try.prog 32 #[.slice A8 n8 c8, .int .u64 v] w9 (GivesS w2' w9 (bs ++ uvB v s)) := fun A8 n8 c8 w9 hi h => new_S h (append_uvarint A8 n8 c8 bs v s w9 hi (by have := hi.1; have := hl.out; omega) hv HG.out)
    have cUr : ∀ w9, Below w2'.heap.size w2' w9 → Calls Try.prog 33 #[.slice A n c, .int .u64 v] w9 (GivesS w2' w9 (bs ++ uvB v s)) := fun w9 h => gives_S h (append_uvref A n c bs v s w9 (hA2.below h) (by omega) hv HG.out)
    have cV : ∀ A8 n8 c8 w9, IsB w9 A8 n8 bs → Below w2'.heap.size w2' w9 → Calls Try.prog 34 #[.slice A8 n8 c8, .int .i64 v2] w9 (GivesS w2' w9 (bs ++ uvB (zz v2) s2)) := fun A8 n8 c8 w9 hi h => new_S h (append_varint A8 n8 c8 bs v2 s2 w9 hi (by have := hi.1; have := hl.out; omega) z0 z1 HG2.out)
    have cVr : ∀ w9, Below w2'.heap.size w2' w9 → Calls Try.prog 33 #[.slice A n c, .int .u64 (zz v2 : Nat)] w9 (GivesS w2' w9 (bs ++ uvB (zz v2) s2)) := fun w9 h => gives_S h (append_uvref A n c bs (zz v2) s2 w9 (hA2.below h) (by omega) (zz_lt z0 z1) HG2.out)
    have cZ : ∀ w9, Below w2'.heap.size w2' w9 → Calls Try.prog 35 #[.int .i64 v2] w9 (fun e w10 => e = .returned (.int .u64 (zz v2 : Nat)) ∧ Below w2'.heap.size w2' w10 ∧ Below w9.heap.size w9 w10) := fun w9 h => (zigzag_ref v2 w9 z0 z1).mono fun e w10 r => ⟨r.1, r.2 ▸ h, r.2 ▸ Below.refl _ _⟩
    have cW : ∀ w9, Below w2'.heap.size w2' w9 → Calls Try.prog 13 #[] w9 (fun e w10 => e = .returned (.bool true) ∧ Below w2'.heap.size w2' w10 ∧ Below w9.heap.size w9 w10) := fun w9 h => true_S h (awake01 w9)
    clear b0 b1 hv z0 z1
    refine wp_region_told (n := 111) (fun w9 => Below w2'.heap.size w2' w9) (fun w1 w2 => Below w1.heap.size w1 w2) (by kernel_rfl) (by kernel_rfl) (by rfl) (below_drewN (Below.refl _ _) 1) ?_
    repeat (refine walk_pure (v := ?_) (fun _ => Below.refl _ _) (fun _ => rfl) ?_ ?_; rotate_left; (focus (intro us w9 hS9 hF; go_simp; (try with_reducible rfl); done)); simp only [Act.put, List.setIfInBounds_toArray, List.set_cons_zero, List.set_cons_succ, Nat.reduceAdd])
    refine walk_free (BX (bs)) BX.mono ?_ ?_; (focus (intro us w9 hS9 hF K hK; go_simp; refine (cS w9 hS9).mono ?_; rintro e w' ⟨A9, n9, c9, rfl, hi9, hS8, hG8⟩; exact hK _ w' hS8 hG8 ⟨A9, n9, c9, rfl, hi9⟩)); simp only [Act.put, List.setIfInBounds_toArray, List.set_cons_zero, List.set_cons_succ, Nat.reduceAdd]
    repeat (refine walk_pure (v := ?_) (fun _ => Below.refl _ _) (fun _ => rfl) ?_ ?_; rotate_left; (focus (intro us w9 hS9 hF; go_simp; (try with_reducible rfl); done)); simp only [Act.put, List.setIfInBounds_toArray, List.set_cons_zero, List.set_cons_succ, Nat.reduceAdd])
    refine walk_free (BX (bs ++ uvB v s)) BX.mono ?_ ?_; (focus (intro us w9 hS9 hF K hK; obtain ⟨A8, n8, c8, hu, hi⟩ := hF (30, BX (bs)) (by simp) (by kernel_rfl); clear hF; simp only [hu] at hK; go_simp; refine (cU A8 n8 c8 w9 hi hS9).mono ?_; rintro e w' ⟨A9, n9, c9, rfl, hi9, hS8, hG8⟩; exact hK _ w' hS8 hG8 ⟨A9, n9, c9, rfl, hi9⟩)); simp only [Act.put, List.setIfInBounds_toArray, List.set_cons_zero, List.set_cons_succ, Nat.reduceAdd]
    refine walk_pure (v := ?_) (fun _ => Below.refl _ _) (fun _ => rfl) ?_ ?_; rotate_left; (focus (intro us w9 hS9 hF; obtain ⟨A9, n9, c9, hu, hi⟩ := hF (32, BX (bs ++ uvB v s)) (by simp) (by kernel_rfl); have hs := run_str (P := Try.prog) (dst := 9) Try.underlying22 Try.underlying5 Try.underlying9 c9 hi; clear hi hF; go_simp; (try with_reducible rfl); done)); simp only [Act.put, List.setIfInBounds_toArray, List.set_cons_zero, List.set_cons_succ, Nat.reduceAdd]
    repeat (refine walk_pure (v := ?_) (fun _ => Below.refl _ _) (fun _ => rfl) ?_ ?_; rotate_left; (focus (intro us w9 hS9 hF; go_simp; (try with_reducible rfl); done)); simp only [Act.put, List.setIfInBounds_toArray, List.set_cons_zero, List.set_cons_succ, Nat.reduceAdd])
    refine walk_free (BX (bs ++ uvB v s)) BX.mono ?_ ?_; (focus (intro us w9 hS9 hF K hK; go_simp; refine (cUr w9 hS9).mono ?_; rintro e w' ⟨A9, n9, c9, rfl, hi9, hS8, hG8⟩; exact hK _ w' hS8 hG8 ⟨A9, n9, c9, rfl, hi9⟩)); simp only [Act.put, List.setIfInBounds_toArray, List.set_cons_zero, List.set_cons_succ, Nat.reduceAdd]
    refine walk_pure (v := ?_) (fun _ => Below.refl _ _) (fun _ => rfl) ?_ ?_; rotate_left; (focus (intro us w9 hS9 hF; obtain ⟨A9, n9, c9, hu, hi⟩ := hF (36, BX (bs ++ uvB v s)) (by simp) (by kernel_rfl); have hs := run_str (P := Try.prog) (dst := 9) Try.underlying22 Try.underlying5 Try.underlying9 c9 hi; clear hi hF; go_simp; (try with_reducible rfl); done)); simp only [Act.put, List.setIfInBounds_toArray, List.set_cons_zero, List.set_cons_succ, Nat.reduceAdd]
    repeat (refine walk_pure (v := ?_) (fun _ => Below.refl _ _) (fun _ => rfl) ?_ ?_; rotate_left; (focus (intro us w9 hS9 hF; go_simp; (try with_reducible rfl); done)); simp only [Act.put, List.setIfInBounds_toArray, List.set_cons_zero, List.set_cons_succ, Nat.reduceAdd])
    refine walk_free (BX (bs)) BX.mono ?_ ?_; (focus (intro us w9 hS9 hF K hK; go_simp; refine (cS w9 hS9).mono ?_; rintro e w' ⟨A9, n9, c9, rfl, hi9, hS8, hG8⟩; exact hK _ w' hS8 hG8 ⟨A9, n9, c9, rfl, hi9⟩)); simp only [Act.put, List.setIfInBounds_toArray, List.set_cons_zero, List.set_cons_succ, Nat.reduceAdd]
    repeat (refine walk_pure (v := ?_) (fun _ => Below.refl _ _) (fun _ => rfl) ?_ ?_; rotate_left; (focus (intro us w9 hS9 hF; go_simp; (try with_reducible rfl); done)); simp only [Act.put, List.setIfInBounds_toArray, List.set_cons_zero, List.set_cons_succ, Nat.reduceAdd])
    refine walk_free (BX (bs ++ uvB (zz v2) s2)) BX.mono ?_ ?_; (focus (intro us w9 hS9 hF K hK; obtain ⟨A8, n8, c8, hu, hi⟩ := hF (42, BX (bs)) (by simp) (by kernel_rfl); clear hF; simp only [hu] at hK; go_simp; refine (cV A8 n8 c8 w9 hi hS9).mono ?_; rintro e w' ⟨A9, n9, c9, rfl, hi9, hS8, hG8⟩; exact hK _ w' hS8 hG8 ⟨A9, n9, c9, rfl, hi9⟩)); simp only [Act.put, List.setIfInBounds_toArray, List.set_cons_zero, List.set_cons_succ, Nat.reduceAdd]
    refine walk_pure (v := ?_) (fun _ => Below.refl _ _) (fun _ => rfl) ?_ ?_; rotate_left; (focus (intro us w9 hS9 hF; obtain ⟨A9, n9, c9, hu, hi⟩ := hF (44, BX (bs ++ uvB (zz v2) s2)) (by simp) (by kernel_rfl); have hs := run_str (P := Try.prog) (dst := 9) Try.underlying22 Try.underlying5 Try.underlying9 c9 hi; clear hi hF; go_simp; (try with_reducible rfl); done)); simp only [Act.put, List.setIfInBounds_toArray, List.set_cons_zero, List.set_cons_succ, Nat.reduceAdd]
    repeat (refine walk_pure (v := ?_) (fun _ => Below.refl _ _) (fun _ => rfl) ?_ ?_; rotate_left; (focus (intro us w9 hS9 hF; go_simp; (try with_reducible rfl); done)); simp only [Act.put, List.setIfInBounds_toArray, List.set_cons_zero, List.set_cons_succ, Nat.reduceAdd])
    refine walk_fix (v := ?_) ?_ ?_; rotate_left; (focus (intro us w9 hS9 hF K hK; go_simp; refine (cZ w9 hS9).mono ?_; rintro e w' ⟨rfl, hS8, hG8⟩; exact hK w' hS8 hG8)); simp only [Act.put, List.setIfInBounds_toArray, List.set_cons_zero, List.set_cons_succ, Nat.reduceAdd]
    refine walk_free (BX (bs ++ uvB (zz v2) s2)) BX.mono ?_ ?_; (focus (intro us w9 hS9 hF K hK; go_simp; refine (cVr w9 hS9).mono ?_; rintro e w' ⟨A9, n9, c9, rfl, hi9, hS8, hG8⟩; exact hK _ w' hS8 hG8 ⟨A9, n9, c9, rfl, hi9⟩)); simp only [Act.put, List.setIfInBounds_toArray, List.set_cons_zero, List.set_cons_succ, Nat.reduceAdd]
    refine walk_pure (v := ?_) (fun _ => Below.refl _ _) (fun _ => rfl) ?_ ?_; rotate_left; (focus (intro us w9 hS9 hF; obtain ⟨A9, n9, c9, hu, hi⟩ := hF (49, BX (bs ++ uvB (zz v2) s2)) (by simp) (by kernel_rfl); have hs := run_str (P := Try.prog) (dst := 9) Try.underlying22 Try.underlying5 Try.underlying9 c9 hi; clear hi hF; go_simp; (try with_reducible rfl); done)); simp only [Act.put, List.setIfInBounds_toArray, List.set_cons_zero, List.set_cons_succ, Nat.reduceAdd]
    repeat (refine walk_pure (v := ?_) (fun _ => Below.refl _ _) (fun _ => rfl) ?_ ?_; rotate_left; (focus (intro us w9 hS9 hF; go_simp; (try with_reducible rfl); done)); simp only [Act.put, List.setIfInBounds_toArray, List.set_cons_zero, List.set_cons_succ, Nat.reduceAdd])
    refine walk_fix (v := ?_) ?_ ?_; rotate_left; (focus (intro us w9 hS9 hF K hK; go_simp; refine (cW w9 hS9).mono ?_; rintro e w' ⟨rfl, hS8, hG8⟩; exact hK w' hS8 hG8)); simp only [Act.put, List.setIfInBounds_toArray, List.set_cons_zero, List.set_cons_succ, Nat.reduceAdd]
    repeat (refine walk_pure (v := ?_) (fun _ => Below.refl _ _) (fun _ => rfl) ?_ ?_; rotate_left; (focus (intro us w9 hS9 hF; go_simp; (try with_reducible rfl); done)); simp only [Act.put, List.setIfInBounds_toArray, List.set_cons_zero, List.set_cons_succ, Nat.reduceAdd])
    refine walk_done fun us w9 hS9 hF => ?_
    clear hF cS cU cUr cV cVr cZ cW
    go_wp2
    go_ret
    exact ⟨rfl, below_next hb hS9⟩
theorem walk_variable (W : World) (A : Option Addr) (n c : Nat) (zs : List Int) (off v v2 : Int) (h : IsRow .u8 W A n c zs) (ho : (Lit.int .i64 off).wf = true) (hv : (Lit.int .u64 v).wf = true) (h2 : (Lit.int .i64 v2).wf = true) :
    Calls Try.prog 8 #[.slice A n c, .int .i64 off, .int .u64 v, .int .i64 v2] W (True1 W) := by
  obtain ⟨bs, hA, hn⟩ := h.isB
  simp [Lit.wf, IntKind.min, IntKind.max, IntKind.signed, IntKind.bits] at hv ho h2
  obtain ⟨V, rfl⟩ : ∃ V : Nat, v = (V : Int) := ⟨v.toNat, by omega⟩
  exact law_variable A n c bs off V v2 W hA hn (by omega) (by omega) (by omega) (by omega) (by omega)
end Go.Proofs.Ytajkhijphdnbpaa

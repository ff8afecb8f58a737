/- The walk of BinencLinear. -/
import Derived.Test.YtajkhijphdnbpaaSpare
import Derived.Test.YtajkhijphdnbpaaIsRow
import Derived.Test.YtajkhijphdnbpaaRb
import Derived.Test.YtajkhijphdnbpaaTold
import Derived.Deep.DeepCutAuto
import Derived.Deep.RegionHeld3
import Derived.StillTailTactics
namespace Go.Proofs.Ytajkhijphdnbpaa
open Go.RowKit
set_option linter.unusedVariables false
def X3 (as_ bs cs : List UInt8) : List UInt8 := List.zipWith (· ^^^ ·) (List.zipWith (· ^^^ ·) as_ bs) cs
theorem X3_len {as_ bs cs : List UInt8} {N : Nat} (h1 : N = as_.length) (h2 : N = bs.length) (h3 : N = cs.length) : (X3 as_ bs cs).length = N := by simp [X3]; omega
theorem X3_get {as_ bs cs : List UInt8} {N k : Nat} (h1 : N = as_.length) (h2 : N = bs.length) (h3 : N = cs.length) (hk : k < N) :
    (X3 as_ bs cs)[k]'(by rw [X3_len h1 h2 h3]; exact hk) = (as_[k] ^^^ bs[k]) ^^^ cs[k] := by simp [X3]
theorem crc_lt (bs : List UInt8) : crc bs < 4294967296 := by unfold crc; omega
theorem xor32_lt {a b : Nat} (h : a < 4294967296) (k : b < 4294967296) : a ^^^ b < 4294967296 := Nat.xor_lt_two_pow (n := 32) h k
theorem below_next {a w w' : World} (h : Below a.heap.size a w) (k : Below w.heap.size w w') : Below a.heap.size a w' := h.trans (k.mono h.size)
theorem law_linear (A B C : Option Addr) (n1 c1 n2 c2 n3 c3 : Nat) (xs ys zs : List UInt8) (w : World) (hA : IsB w A n1 xs) (hB : IsB w B n2 ys) (hC : IsB w C n3 zs)
    (k1 : n1 ≤ c1) (k2 : n2 ≤ c2) (k3 : n3 ≤ c3) (m1 : n1 ≤ 9223372036854775807) (m2 : n2 ≤ 9223372036854775807) (m3 : n3 ≤ 9223372036854775807) :
    Calls Try.prog 4 #[.slice A n1 c1, .slice B n2 c2, .slice C n3 c3] w (True1 w) := by
  obtain ⟨N, hN, l1, l2, l3⟩ : ∃ N : Nat, (N = n3 ∨ N = n2 ∨ N = n1) ∧ N ≤ n1 ∧ N ≤ n2 ∧ N ≤ n3 := ⟨min (min n1 n2) n3, by omega, by omega, by omega, by omega⟩
  rcases Nat.lt_or_ge 1000 N with hbad | hgd
  · go_enter Try.func4, Try.ntmps4
    go_wp2_with (go_at_call 13; refine (awake01 _).mono ?_; rintro e w1 ⟨rfl, hb1⟩)
    all_goals go_ret
    all_goals exact ⟨rfl, hb1⟩
  · have pA := hA.pre N l1
    have pB := hB.pre N l2
    have pC := hC.pre N l3
    have q1 : N ≤ c1 := by omega
    have q2 : N ≤ c2 := by omega
    have q3 : N ≤ c3 := by omega
    generalize xs.take N = as_ at *
    generalize ys.take N = bs at *
    generalize zs.take N = cs at *
    have pl := Lib.hid pA.1
    go_enter Try.func4, Try.ntmps4
    go_upto_region 4 with (fail)
    have hm : (if (n3 : Int) < (if n2 < n1 then (n2 : Int) else (n1 : Int)) then (n3 : Int) else if n2 < n1 then (n2 : Int) else (n1 : Int)) = (N : Int) := by
      by_cases h1 : n2 < n1
      · rw [if_pos h1]
        split <;> omega
      · rw [if_neg h1]
        split <;> omega
    simp only [hm]
    clear hm
    all_goals (go_upto_region 5 with ((at_make; refine wp_make N Try.underlying22 info_b rfl (by omega) (by omega) rfl rfl rfl rfl ?_; intro w1 r1 hB1)))
    all_goals (
      have hx := X3_len pA.1 pB.1 pC.1
      have r1' : Row w1 w.heap.size 5 (((X3 as_ bs cs).take 0 ++ List.replicate (N - 0) 0).map bv).toArray := by simpa [bv] using r1
      clear r1
      go_wp2_with fail
      go_loopw [9] (fun i wr => ∃ k : Nat, k ≤ N ∧ i = .int .i64 k ∧ Row wr w.heap.size 5 (((X3 as_ bs cs).take k ++ List.replicate (N - k) 0).map bv).toArray ∧ Below w.heap.size w wr) (fun i _ => N - (intOf i).toNat)
      case atStart => exact ⟨0, by omega, rfl, r1', hB1⟩
      case round =>
        obtain ⟨k, hk, rfl, hr, hb⟩ := hrel
        clear r1' hB1
        by_cases hkn : k < N
        · obtain ⟨b1, o1, e1, f1⟩ := (pA.below hb).2 (by omega)
          obtain ⟨b2, o2, e2, f2⟩ := (pB.below hb).2 (by omega)
          obtain ⟨b3, o3, e3, f3⟩ := (pC.below hb).2 (by omega)
          subst e1 e2 e3
          obtain ⟨p, hp⟩ : ∃ p, p = as_[k]'(by have := pA.1; omega) := ⟨_, rfl⟩
          obtain ⟨q, hq⟩ : ∃ q, q = bs[k]'(by have := pB.1; omega) := ⟨_, rfl⟩
          obtain ⟨r, hr0⟩ : ∃ r, r = cs[k]'(by have := pC.1; omega) := ⟨_, rfl⟩
          obtain ⟨s, hs⟩ : ∃ s, s = p ^^^ q := ⟨_, rfl⟩
          obtain ⟨t, ht⟩ : ∃ t, t = s ^^^ r := ⟨_, rfl⟩
          have g1' : wr.drew.cell? ⟨b1, o1 + k, none⟩ = some (.int .u8 (p.toNat : Int)) := by rw [hp]; exact f1 k (by have := pA.1; omega)
          have g2' : wr.drew.cell? ⟨b2, o2 + k, none⟩ = some (.int .u8 (q.toNat : Int)) := by rw [hq]; exact f2 k (by have := pB.1; omega)
          have g3' : wr.drew.cell? ⟨b3, o3 + k, none⟩ = some (.int .u8 (r.toNat : Int)) := by rw [hr0]; exact f3 k (by have := pC.1; omega)
          have i1 : k < n1 := by omega
          have i2 : k < n2 := by omega
          have i3 : k < n3 := by omega
          have hr2 : Row wr.drew w.heap.size 5 (((X3 as_ bs cs).take k ++ List.replicate (N - k) 0).map bv).toArray := hr
          have hb2 : Below w.heap.size w wr.drew := below_drewN hb 1
          have hc : ((X3 as_ bs cs).take k).length = k := by simp [hx]; omega
          have hcell : wr.drew.cell? ⟨w.heap.size, k, none⟩ = some (.int .u8 0) := by
            rw [hr2.cell, show N - k = (N - (k + 1)) + 1 by omega, List.replicate_succ]
            have h0 : ((X3 as_ bs cs).take k ++ (0 : UInt8) :: List.replicate (N - (k + 1)) 0)[k]? = some 0 := by
              rw [List.getElem?_append_right (by omega), hc]; simp
            simp only [List.getElem?_toArray, List.getElem?_map, h0]
            rfl
          have hfz := hr2.frozen k
          have HN : Hid (Row (wr.drew.setCell ⟨w.heap.size, k, none⟩ (bv t)) w.heap.size 5 (((X3 as_ bs cs).take (k + 1) ++ List.replicate (N - (k + 1)) 0).map bv).toArray) := Lib.hid (by
            have h := hr2.set k (bv t)
            rw [show N - k = (N - (k + 1)) + 1 by omega, List.replicate_succ] at h
            have h3 := bv_set ((X3 as_ bs cs).take k) (List.replicate (N - (k + 1)) 0) 0 t
            rw [hc] at h3
            rw [h3] at h
            rw [List.take_succ_eq_append_getElem (by rw [hx]; exact hkn), X3_get pA.1 pB.1 pC.1 hkn, ← hp, ← hq, ← hr0, ← hs, ← ht]
            simpa using h)
          have x1 : bits .xor .u8 (p.toNat : Int) (q.toNat : Int) = (s.toNat : Int) := by rw [u8_xor_nat _ _ p.toNat_lt q.toNat_lt, hs, UInt8.toNat_xor]
          have x2 : bits .xor .u8 (s.toNat : Int) (r.toNat : Int) = (t.toNat : Int) := by rw [u8_xor_nat _ _ s.toNat_lt r.toNat_lt, ht, UInt8.toNat_xor]
          clear hp hq hr0 hs ht hc f1 f2 f3
          go_upto_region 8 with (fail)
          refine wp_region_still_tail 17 (by kernel_rfl) (by kernel_rfl) ?_
          change wpStill _ _ wr.drew _ _ _
          simp only [List.take_succ_cons, List.take_zero, List.drop_succ_cons, List.drop_zero]
          repeat still_step
          refine wpStill_nil ?_
          change wpList _ _ _ _ _ wr.drew
          generalize wr.drew = w2 at *
          go_wp2
          exact ⟨⟨k + 1, by omega, by go_num, HN.out, hb2.setCell (Nat.le_refl _) _⟩, by simp [intOf]; omega⟩
        · obtain rfl : k = N := by omega
          have ex : (X3 as_ bs cs).take k = X3 as_ bs cs := List.take_of_length_le (by omega)
          rw [ex, Nat.sub_self, List.replicate_zero, List.append_nil] at hr
          have pD : IsB wr (some ⟨w.heap.size, 0, none⟩) k (X3 as_ bs cs) := by have := IsB.of_row hr; rwa [hx] at this
          have HE : Hid (crc (X3 as_ bs cs) = (crc as_ ^^^ crc bs) ^^^ crc cs) := Lib.hid (crc_linear as_ bs cs (by have := pA.1; have := pB.1; omega) (by have := pA.1; have := pC.1; omega))
          have pA' := pA.below hb
          have pB' := pB.below hb
          have pC' := pC.below hb
          have kk : k ≤ 1000000000 := by omega
          clear ex hx hr
          go_upto_region 9 with (fail)
          have cD : ∀ w', Below wr.heap.size wr w' → Calls Try.prog 14 #[.slice (some ⟨w.heap.size, 0, none⟩) k k] w' (fun e w'' => e = .returned (.int .u32 (crc (X3 as_ bs cs) : Nat)) ∧ Below wr.heap.size wr w'' ∧ Below w'.heap.size w' w'') := fun w' h => (crc32 _ k k _ _ (pD.below h) kk).mono fun e w'' r => ⟨r.1, below_next h r.2, r.2⟩
          have cA : ∀ w', Below wr.heap.size wr w' → Calls Try.prog 14 #[.slice A k c1] w' (fun e w'' => e = .returned (.int .u32 (crc as_ : Nat)) ∧ Below wr.heap.size wr w'' ∧ Below w'.heap.size w' w'') := fun w' h => (crc32 _ k _ _ _ (pA'.below h) kk).mono fun e w'' r => ⟨r.1, below_next h r.2, r.2⟩
          have cB : ∀ w', Below wr.heap.size wr w' → Calls Try.prog 14 #[.slice B k c2] w' (fun e w'' => e = .returned (.int .u32 (crc bs : Nat)) ∧ Below wr.heap.size wr w'' ∧ Below w'.heap.size w' w'') := fun w' h => (crc32 _ k _ _ _ (pB'.below h) kk).mono fun e w'' r => ⟨r.1, below_next h r.2, r.2⟩
          have cC : ∀ w', Below wr.heap.size wr w' → Calls Try.prog 14 #[.slice C k c3] w' (fun e w'' => e = .returned (.int .u32 (crc cs : Nat)) ∧ Below wr.heap.size wr w'' ∧ Below w'.heap.size w' w'') := fun w' h => (crc32 _ k _ _ _ (pC'.below h) kk).mono fun e w'' r => ⟨r.1, below_next h r.2, r.2⟩
          have cW : ∀ w', Below wr.heap.size wr w' → Calls Try.prog 13 #[] w' (fun e w'' => e = .returned (.bool true) ∧ Below wr.heap.size wr w'' ∧ Below w'.heap.size w' w'') := fun w' h => (awake01 _).mono fun e w'' r => ⟨r.1, below_next h r.2, r.2⟩
          have x1 : bits .xor .u32 ((crc as_ : Nat) : Int) ((crc bs : Nat) : Int) = ((crc as_ ^^^ crc bs : Nat) : Int) := u32_xor_nat _ _ (crc_lt _) (crc_lt _)
          have x2 : bits .xor .u32 ((crc as_ ^^^ crc bs : Nat) : Int) ((crc cs : Nat) : Int) = (((crc as_ ^^^ crc bs) ^^^ crc cs : Nat) : Int) := u32_xor_nat _ _ (xor32_lt (crc_lt _) (crc_lt _)) (crc_lt _)
          have HE1 : (((crc (X3 as_ bs cs) : Nat) : Int) == ((crc as_ ^^^ crc bs ^^^ crc cs : Nat) : Int)) = true := beq_iff_eq.2 (congrArg Nat.cast HE.out)
          refine wp_region_told (n := 64) (fun w' => Below wr.heap.size wr w') (fun w1 w2 => Below w1.heap.size w1 w2) (by kernel_rfl) (by kernel_rfl) (by rfl) (below_drewN (Below.refl _ _) 1) ?_
          repeat (refine walk_pure (v := ?_) (fun _ => Below.refl _ _) (fun _ => rfl) ?_ ?_; rotate_left; (focus (intro us w9 hS9 hF; go_simp; (try with_reducible rfl); done)); simp only [Act.put, List.setIfInBounds_toArray, List.set_cons_zero, List.set_cons_succ])
          refine walk_fix (v := ?_) ?_ ?_; rotate_left; (focus (intro us w9 hS9 hF K hK; go_simp; refine (cD w9 hS9).mono ?_; rintro e w' ⟨rfl, hS8, hG8⟩; exact hK w' hS8 hG8)); simp only [Act.put, List.setIfInBounds_toArray, List.set_cons_zero, List.set_cons_succ]
          repeat (refine walk_pure (v := ?_) (fun _ => Below.refl _ _) (fun _ => rfl) ?_ ?_; rotate_left; (focus (intro us w9 hS9 hF; go_simp; (try with_reducible rfl); done)); simp only [Act.put, List.setIfInBounds_toArray, List.set_cons_zero, List.set_cons_succ])
          refine walk_fix (v := ?_) ?_ ?_; rotate_left; (focus (intro us w9 hS9 hF K hK; go_simp; refine (cA w9 hS9).mono ?_; rintro e w' ⟨rfl, hS8, hG8⟩; exact hK w' hS8 hG8)); simp only [Act.put, List.setIfInBounds_toArray, List.set_cons_zero, List.set_cons_succ]
          repeat (refine walk_pure (v := ?_) (fun _ => Below.refl _ _) (fun _ => rfl) ?_ ?_; rotate_left; (focus (intro us w9 hS9 hF; go_simp; (try with_reducible rfl); done)); simp only [Act.put, List.setIfInBounds_toArray, List.set_cons_zero, List.set_cons_succ])
          refine walk_fix (v := ?_) ?_ ?_; rotate_left; (focus (intro us w9 hS9 hF K hK; go_simp; refine (cB w9 hS9).mono ?_; rintro e w' ⟨rfl, hS8, hG8⟩; exact hK w' hS8 hG8)); simp only [Act.put, List.setIfInBounds_toArray, List.set_cons_zero, List.set_cons_succ]
          repeat (refine walk_pure (v := ?_) (fun _ => Below.refl _ _) (fun _ => rfl) ?_ ?_; rotate_left; (focus (intro us w9 hS9 hF; go_simp; (try with_reducible rfl); done)); simp only [Act.put, List.setIfInBounds_toArray, List.set_cons_zero, List.set_cons_succ])
          refine walk_fix (v := ?_) ?_ ?_; rotate_left; (focus (intro us w9 hS9 hF K hK; go_simp; refine (cC w9 hS9).mono ?_; rintro e w' ⟨rfl, hS8, hG8⟩; exact hK w' hS8 hG8)); simp only [Act.put, List.setIfInBounds_toArray, List.set_cons_zero, List.set_cons_succ]
          repeat (refine walk_pure (v := ?_) (fun _ => Below.refl _ _) (fun _ => rfl) ?_ ?_; rotate_left; (focus (intro us w9 hS9 hF; go_simp; (try with_reducible rfl); done)); simp only [Act.put, List.setIfInBounds_toArray, List.set_cons_zero, List.set_cons_succ])
          refine walk_fix (v := ?_) ?_ ?_; rotate_left; (focus (intro us w9 hS9 hF K hK; go_simp; refine (cW w9 hS9).mono ?_; rintro e w' ⟨rfl, hS8, hG8⟩; exact hK w' hS8 hG8)); simp only [Act.put, List.setIfInBounds_toArray, List.set_cons_zero, List.set_cons_succ]
          repeat (refine walk_pure (v := ?_) (fun _ => Below.refl _ _) (fun _ => rfl) ?_ ?_; rotate_left; (focus (intro us w9 hS9 hF; go_simp; (try with_reducible rfl); done)); simp only [Act.put, List.setIfInBounds_toArray, List.set_cons_zero, List.set_cons_succ])
          refine walk_done fun us w9 hS9 hF => ?_
          go_wp2
          go_ret
          exact ⟨rfl, below_next hb hS9⟩)
theorem walk_linear (W : World) (A : Option Addr) (n1 c1 : Nat) (xs : List Int) (B : Option Addr) (n2 c2 : Nat) (ys : List Int) (C : Option Addr) (n3 c3 : Nat) (zs : List Int)
    (h1 : IsRow .u8 W A n1 c1 xs) (h2 : IsRow .u8 W B n2 c2 ys) (h3 : IsRow .u8 W C n3 c3 zs) :
    Calls Try.prog 4 #[.slice A n1 c1, .slice B n2 c2, .slice C n3 c3] W (True1 W) := by
  obtain ⟨as_, hA, m1⟩ := h1.isB
  obtain ⟨bs, hB, m2⟩ := h2.isB
  obtain ⟨cs, hC, m3⟩ := h3.isB
  exact law_linear A B C n1 c1 n2 c2 n3 c3 as_ bs cs W hA hB hC h1.cap h2.cap h3.cap m1 m2 m3
end Go.Proofs.Ytajkhijphdnbpaa

/- Contracts of the reference's Uint, and of Uint16, Uint32, Uint64. -/
import Derived.Test.YtigbmlgllgcbhaaDoorFix
namespace Go.Proofs.YtigbmlgllgcbhaaDoor
open Go.RowKit
set_option linter.unusedVariables false
theorem or_shl8 {L x : Nat} (hx : x < 256) (hL : L * 256 < 18446744073709551616) : bits .or .u64 (IntKind.u64.wrap ((L : Int) * 256)) (IntKind.u64.wrap (x : Int)) = ((x + 256 * L : Nat) : Int) := by
  rw [show ((L : Int) * 256) = ((L * 256 : Nat) : Int) by simp, wrapU64 hL, wrapU64 (by omega), u64_or_nat _ _ hL (by omega)]
  congr 1
  have := Nat.two_pow_add_eq_or_of_lt (i := 8) (show x < 2 ^ 8 by omega) L
  rw [Nat.mul_comm L, show (256 : Nat) = 2 ^ 8 from rfl, ← this]
  omega
theorem uint_ref (A : Option Addr) (n c : Nat) (bs : List UInt8) (off : Int) (s : Nat) (w : World) (hA : IsB w A n bs) (hn : n ≤ 1000000000) (s0 : 0 < s) (s8 : s ≤ 8) (b0 : -9223372036854775808 ≤ off) (b1 : off < 9223372036854775808) :
    Calls Tryd.prog 39 #[.slice A n c, .int .i64 off, .int .i64 s] w (FixPost bs off s .u64 w) := by
  have hl := hA.1
  rcases (by omega : off < 0 ∨ (0 ≤ off ∧ (n : Int) < off) ∨ (0 ≤ off ∧ off ≤ n)) with h1 | ⟨h0, h1⟩ | ⟨h0, h1⟩
  · go_enter Tryd.func39, Tryd.ntmps39
    go_wp2
    refine bodyPost_ret (v := .tuple #[.int .u64 0, .int .i64 6]) (by simp [results, Tryd.results39, go_sem]) rfl ⟨by rw [fixR, if_pos (.inl h1)]; rfl, rfl⟩
  · have h2 : ¬ off < 0 := by omega
    go_enter Tryd.func39, Tryd.ntmps39
    go_wp2
    refine bodyPost_ret (v := .tuple #[.int .u64 0, .int .i64 6]) (by simp [results, Tryd.results39, go_sem]) rfl ⟨by rw [fixR, if_pos (.inr (by omega))]; rfl, rfl⟩
  · obtain ⟨o, rfl⟩ := Int.eq_ofNat_of_zero_le h0
    have h4 : o ≤ n := by omega
    have h5 : (o : Int) ≤ n := by omega
    clear b0 b1 h0 h1
    have hR : fixR bs o s = if n - o < s then (0, 52) else (leN (seg bs o s), 0) := by
      rw [fixR, if_neg (by omega), ← hl]
      rfl
    by_cases h2 : n - o < s
    · rw [if_pos h2] at hR
      have HR := Lib.hid hR
      have h3 : (n : Int) - o < s := by omega
      clear hR h2
      go_enter Tryd.func39, Tryd.ntmps39
      go_wp2
      refine bodyPost_ret (v := .tuple #[.int .u64 0, .int .i64 52]) (by simp [results, Tryd.results39, go_sem]) rfl ⟨by rw [HR.out]; rfl, rfl⟩
    · rw [if_neg h2] at hR
      have HR := Lib.hid hR
      clear hR
      have hos : o + s ≤ bs.length := by omega
      have h3 : ¬ (n : Int) - o < s := by omega
      clear h2
      have HL := Lib.hid (seg_len hos)
      have HG := Lib.hid (fun k (hk : k < s) => seg_get hos hk)
      obtain ⟨b1, o1, e1, f1⟩ := hA.2 (by omega)
      subst e1
      have HC : Hid (∀ k, (hk : k < s) → w.cell? ⟨b1, o1 + (o + k), none⟩ = some (.int .u8 (((seg bs o s)[k]'(by rw [HL.out]; exact hk)).toNat : Int))) := Lib.hid (fun k hk => by rw [HG.out k hk]; exact f1 (o + k) (by omega))
      clear f1 hA HG
      generalize seg bs o s = sg at *
      clear hl
      go_enter Tryd.func39, Tryd.ntmps39
      go_wp2
      go_loop [8, 9] (fun x i => ∃ j : Nat, j ≤ s ∧ i = .int .i64 ((j : Int) - 1) ∧ x = .int .u64 (leN (sg.drop j) : Nat)) (fun _ i => (intOf i + 1).toNat)
      case atStart => exact ⟨s, by omega, by go_num, by rw [List.drop_eq_nil_of_le (by have := HL.out; omega)]; rfl⟩
      case round =>
        obtain ⟨j, hj, rfl, rfl⟩ := hrel
        rcases Nat.eq_zero_or_pos j with h0 | h0
        · subst h0
          have e : sg.drop 0 = sg := rfl
          rw [e]
          clear e
          go_wp2
          refine bodyPost_ret (v := .tuple #[.int .u64 (leN sg : Nat), .int .i64 0]) (by simp [results, Tryd.results39, go_sem]) rfl ⟨by rw [HR.out]; rfl, rfl⟩
        · obtain ⟨k, rfl⟩ : ∃ k, j = k + 1 := ⟨j - 1, by omega⟩
          rw [show (((k + 1 : Nat) : Int) - 1) = (k : Int) by omega]
          have hc := HC.out k (by omega)
          have hlen := HL.out
          obtain ⟨x, hx⟩ : ∃ x, x = sg[k]'(by omega) := ⟨_, rfl⟩
          rw [← hx] at hc
          have HX := Lib.hid hx
          have hlt : leN (sg.drop (k + 1)) < 256 ^ (s - (k + 1)) := by have := leN_lt (sg.drop (k + 1)); rwa [List.length_drop, hlen] at this
          have hlt2 : 256 ^ (s - (k + 1)) ≤ 256 ^ 7 := Nat.pow_le_pow_right (by omega) (by omega)
          have HS : Hid (leN (sg.drop k) = x.toNat + 256 * leN (sg.drop (k + 1))) := Lib.hid (by
            rw [List.drop_eq_getElem_cons (by omega), leN, ← HX.out])
          have E := or_shl8 (L := leN (sg.drop (k + 1))) x.toNat_lt (by omega)
          rw [← HS.out] at E
          have HE := Lib.hid E
          clear E hlt hlt2 hx
          go_upto_region 8 with (fail)
          rw [HE.out]
          go_wp2
          exact ⟨⟨k, by omega, by go_num, rfl⟩, by simp [intOf]⟩
end Go.Proofs.YtigbmlgllgcbhaaDoor

/- The walk of BinencBurst. -/
import Derived.Test.YtajkhijphdnbpaaSpare
import Derived.Test.YtajkhijphdnbpaaIsRow
import Derived.Test.YtajkhijphdnbpaaRb
import Derived.Test.YtajkhijphdnbpaaPlace
namespace Go.Proofs.Ytajkhijphdnbpaa
open Go.RowKit
set_option linter.unusedVariables false
theorem mod_xor (X i : Nat) (h : X / 2 ^ i % 2 = 1) : X % 2 ^ (i + 1) = X % 2 ^ i ^^^ 2 ^ i := by
  have hb : X.testBit i = true := by rw [Nat.testBit_eq_decide_div_mod_eq, h]; rfl
  apply Nat.eq_of_testBit_eq
  intro k
  rw [Nat.testBit_mod_two_pow, Nat.testBit_xor, Nat.testBit_mod_two_pow, Nat.testBit_two_pow]
  rcases Nat.lt_trichotomy k i with hk | hk | hk
  · simp [hk, show k < i + 1 by omega, show i ≠ k by omega]
  · subst hk; simp [hb]
  · simp [show ¬ k < i by omega, show ¬ k < i + 1 by omega, show i ≠ k by omega]
theorem mod_keep (X i : Nat) (h : X / 2 ^ i % 2 = 0) : X % 2 ^ (i + 1) = X % 2 ^ i := by rw [Nat.mod_pow_succ, h]; simp
theorem burst_step (cs bs : List UInt8) (X f i j r : Nat) (hj : f + i = 8 * j + r) (hr : r < 8) (hl : j < cs.length) (hbit : X / 2 ^ i % 2 = 1) (hc : LE cs = LE bs ^^^ ((X % 2 ^ i) * 2 ^ f)) :
    LE (cs.set j (cs[j] ^^^ UInt8.ofNat (2 ^ r))) = LE bs ^^^ ((X % 2 ^ (i + 1)) * 2 ^ f) := by
  rw [LE_set cs j hl, hc, mod_xor X i hbit, Nat.xor_assoc]
  congr 1
  have e1 : ∀ a b : Nat, a * 2 ^ b = a <<< b := fun a b => by rw [Nat.shiftLeft_eq]
  rw [e1, e1, Nat.shiftLeft_xor_distrib]
  congr 1
  have h2 : 2 ^ r < 256 := Nat.lt_of_lt_of_le (Nat.pow_lt_pow_right (by omega) hr) (by decide)
  rw [UInt8.toNat_ofNat', Nat.mod_eq_of_lt (by omega), Nat.shiftLeft_eq, show (256 : Nat) = 2 ^ 8 from rfl, ← Nat.pow_mul, ← Nat.pow_add, ← Nat.pow_add]
  congr 1
  omega
theorem xor_byte (x : UInt8) (r : Nat) (hr : r < 8) : Value.int .u8 (bits .xor .u8 (x.toNat : Int) ((2 : Int) ^ r % 256)) = bv (x ^^^ UInt8.ofNat (2 ^ r)) := by
  have h2 : 2 ^ r < 256 := Nat.lt_of_lt_of_le (Nat.pow_lt_pow_right (by omega) hr) (by decide)
  have e : ((2 : Int) ^ r % 256) = ((2 ^ r : Nat) : Int) := by
    have : ((2 : Int) ^ r) = ((2 ^ r : Nat) : Int) := by rw [Int.natCast_pow]; rfl
    rw [this]
    generalize 2 ^ r = q at *
    omega
  rw [e, u8_xor_nat _ _ x.toNat_lt h2]
  unfold bv
  rw [UInt8.toNat_xor, UInt8.toNat_ofNat', Nat.mod_eq_of_lt (a := 2 ^ r) (by omega)]
theorem law_burst (A : Option Addr) (n c : Nat) (bs : List UInt8) (at_ : Int) (X : Nat) (w : World) (hA : IsB w A n bs) (hn : n ≤ 9223372036854775807) (hX : X < 4294967296) :
    Calls Try.prog 5 #[.slice A n c, .int .i64 at_, .int .u32 X] w (True1 w) := by
  rcases (by omega : (n < 4 ∨ 1000 < n ∨ X = 0) ∨ (4 ≤ n ∧ n ≤ 1000 ∧ 0 < X)) with hbad | ⟨hn4, hn1, hX0⟩
  · rcases (by omega : n < 4 ∨ (4 ≤ n ∧ 1000 < n) ∨ (4 ≤ n ∧ n ≤ 1000 ∧ X = 0)) with h | ⟨h1, h2⟩ | ⟨h1, h2, rfl⟩
    all_goals (go_enter Try.func5, Try.ntmps5)
    all_goals (go_wp2_with (go_at_call 13; refine (awake01 _).mono ?_; rintro e w1 ⟨rfl, hb1⟩))
    all_goals go_ret
    all_goals exact ⟨rfl, hb1⟩
  · have hl := Lib.hid hA.1
    have hl1 : 0 + n ≤ 140737488355328 := by omega
    have ht : (decide ((n : Int) < 4) || decide ((1000 : Int) < n) || ((X : Int) == 0)) = false := by simp; omega
    go_enter Try.func5, Try.ntmps5
    go_wp2_with fail
    refine (place at_ (8 * (n : Int) - 31) (by omega) (by omega) _).mono ?_
    rintro e w' ⟨rfl, rfl⟩
    obtain ⟨f, hf, hf1⟩ : ∃ f : Nat, at_ % (8 * (n : Int) - 31) = (f : Int) ∧ f + 31 < 8 * n := by
      have h0 := Int.emod_nonneg at_ (show 8 * (n : Int) - 31 ≠ 0 by omega)
      have h1 := Int.emod_lt_of_pos at_ (show 0 < 8 * (n : Int) - 31 by omega)
      exact ⟨(at_ % (8 * (n : Int) - 31)).toNat, by omega, by omega⟩
    rw [hf]
    clear hf
    go_wp2_with (at_builtin; (refine wp_append_b (P := Try.prog) rfl _ _ 22 rfl Try.underlying22 info_b (OwnB.nil w w.heap.size 5) hA hl1 (Nat.le_refl _) rfl rfl ?_); intro A1 n1 c1 w1 hn1 ho1 hb1 hg1 hat1; have h2 : n1 = n := (by have := hn1.out; omega); obtain ⟨g1, rfl, hge1, hlt1, hle1⟩ := ho1.form (by omega); clear hat1 hg1; subst h2)
    have hr1 : RB w1 g1 5 n1 bs := by simpa using ho1.rb
    clear ho1 hn1
    go_loopw [9] (fun i wr => ∃ (k : Nat) (cs : List UInt8), k ≤ 32 ∧ i = .int .i64 k ∧ RB wr g1 5 n1 cs ∧ LE cs = LE bs ^^^ ((X % 2 ^ k) * 2 ^ f) ∧ Below w.heap.size w wr) (fun i _ => 32 - (intOf i).toNat)
    case atStart => exact ⟨0, bs, by omega, rfl, hr1, by simp [Nat.mod_one], hb1⟩
    case round =>
      obtain ⟨k, cs, hk, rfl, hr, hLE, hb⟩ := hrel
      have HLE := Lib.hid hLE
      clear hLE hr1 hb1
      by_cases hk32 : k < 32
      · have eX : ((X : Int) / 2 ^ k) = ((X / 2 ^ k : Nat) : Int) := by rw [Int.natCast_ediv, Int.natCast_pow]; rfl
        have hY : X / 2 ^ k < 4294967296 := Nat.lt_of_le_of_lt (Nat.div_le_self _ _) hX
        rcases Nat.mod_two_eq_zero_or_one (X / 2 ^ k) with hp | hp
        · have hc : bits .and .u32 ((X : Int) / 2 ^ k) 1 = 0 := by rw [eX]; exact and1_u32 hY hp
          have HP := Lib.hid hp
          clear hp eX
          go_wp2
          exact ⟨⟨k + 1, cs, by omega, by go_num, hr, by rw [HLE.out, mod_keep X k HP.out], hb⟩, by simp [intOf]; omega⟩
        · have hc : bits .and .u32 ((X : Int) / 2 ^ k) 1 = 1 := by rw [eX]; exact and1_u32 hY hp
          have HP := Lib.hid hp
          clear hp eX
          have hlc : cs.length = n1 := hr.choose_spec.2.1
          have hj : (f + k) / 8 < cs.length := by omega
          have HLC := Lib.hid hlc
          clear hlc
          have hcell := hr.cell ((f + k) / 8) hj
          have hfz := hr.frozen ((f + k) / 8)
          have hy : cs[(f + k) / 8].toNat < 256 := cs[(f + k) / 8].toNat_lt
          have HS := Lib.hid (burst_step cs bs X f k ((f + k) / 8) ((f + k) % 8) (by omega) (by omega) hj HP.out HLE.out)
          have HR := Lib.hid (hr.set ((f + k) / 8) (cs[(f + k) / 8] ^^^ UInt8.ofNat (2 ^ ((f + k) % 8))))
          obtain ⟨x, hx⟩ : ∃ x, x = cs[(f + k) / 8] := ⟨_, rfl⟩
          rw [← hx] at hcell hy HS HR
          clear hx
          go_wp2
          rw [xor_byte x ((f + k) % 8) (by omega)]
          exact ⟨⟨k + 1, _, by omega, by go_num, HR.out, HS.out, hb.setCell hge1 _⟩, by simp [intOf]; omega⟩
      · obtain rfl : k = 32 := by omega
        have hlc : cs.length = bs.length := by rw [hr.choose_spec.2.1, ← hl.out]
        have hne : crc bs ≠ crc cs := crc_burst bs cs X f hlc (by have := hl.out; omega) hX0 hX (by rw [HLE.out, Nat.mod_eq_of_lt (by omega)])
        have hne1 : ((crc bs : Int) == (crc cs : Int)) = false := by simp; omega
        have hne2 : ((crc bs : Int) != (crc cs : Int)) = true := by simp; omega
        clear hne hlc
        go_wp2_with fail
        refine (crc32 A n1 c bs _ (hA.below hb) (by omega)).mono ?_
        rintro e w2 ⟨rfl, hb2⟩
        have hbw2 : Below w.heap.size w w2 := hb.trans (hb2.mono hb.size)
        go_wp2_with fail
        refine (crc32 _ n1 c1 cs _ (hr.isB.below hb2) (by omega)).mono ?_
        rintro e w3 ⟨rfl, hb3⟩
        have hbw3 : Below w.heap.size w w3 := hbw2.trans (hb3.mono hbw2.size)
        go_wp2_with (go_at_call 13; refine (awake01 _).mono ?_; rintro e w4 ⟨rfl, hb4⟩)
        go_ret
        exact ⟨rfl, hbw3.trans (hb4.mono hbw3.size)⟩
theorem walk_burst (W : World) (A : Option Addr) (n c : Nat) (zs : List Int) (at_ x : Int) (h : IsRow .u8 W A n c zs) (_ : (Lit.int .i64 at_).wf = true) (hx : (Lit.int .u32 x).wf = true) :
    Calls Try.prog 5 #[.slice A n c, .int .i64 at_, .int .u32 x] W (True1 W) := by
  obtain ⟨bs, hA, hn⟩ := h.isB
  have hb : 0 ≤ x ∧ x < 4294967296 := by
    simp [Lit.wf, IntKind.min, IntKind.max, IntKind.signed, IntKind.bits] at hx
    omega
  obtain ⟨X, rfl⟩ : ∃ X : Nat, x = (X : Int) := ⟨x.toNat, by omega⟩
  exact law_burst A n c bs at_ X W hA hn (by omega)
end Go.Proofs.Ytajkhijphdnbpaa

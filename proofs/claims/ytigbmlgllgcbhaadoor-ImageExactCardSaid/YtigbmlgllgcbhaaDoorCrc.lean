/- Plain laws on the reflected CRC-32 as a function on numbers. -/
import Derived.WalkKit
namespace Go.Proofs.YtigbmlgllgcbhaaDoor
set_option linter.unusedVariables false
def crcL (c : Nat) : Nat := if c % 2 = 1 then (c / 2) ^^^ 3988292384 else c / 2
def itL : Nat → Nat → Nat
  | 0, c => c
  | n + 1, c => itL n (crcL c)
theorem itL_add (m n c : Nat) : itL (m + n) c = itL n (itL m c) := by
  induction m generalizing c with
  | zero => simp [itL]
  | succ m ih => rw [Nat.succ_add]; simp only [itL]; exact ih _
theorem xor_half (a b : Nat) : (a ^^^ b) / 2 = a / 2 ^^^ b / 2 := by
  have := Nat.shiftRight_xor_distrib (a := a) (b := b) (i := 1)
  simpa [Nat.shiftRight_eq_div_pow] using this
theorem xor_par (a b : Nat) : (a ^^^ b) % 2 = (a + b) % 2 := by
  have h : decide ((a ^^^ b) % 2 = 1) = (decide (a % 2 = 1) ^^ decide (b % 2 = 1)) := by
    have := Nat.testBit_xor a b 0
    simpa only [Nat.testBit_zero] using this
  have ha := Nat.mod_two_eq_zero_or_one a
  have hb := Nat.mod_two_eq_zero_or_one b
  have hc := Nat.mod_two_eq_zero_or_one (a ^^^ b)
  rcases ha with ha | ha <;> rcases hb with hb | hb <;> rcases hc with hc | hc <;> rw [ha, hb, hc] at h <;> first | (exact absurd h (by decide)) | omega
theorem xlc (a b c : Nat) : a ^^^ (b ^^^ c) = b ^^^ (a ^^^ c) := by rw [← Nat.xor_assoc, Nat.xor_comm a b, Nat.xor_assoc]
theorem xor_zero {a b : Nat} (h : a ^^^ b = 0) : a = b := by
  have h' : a ^^^ (a ^^^ b) = a ^^^ 0 := by rw [h]
  rw [← Nat.xor_assoc] at h'
  simpa using h'.symm
theorem crcL_xor (a b : Nat) : crcL (a ^^^ b) = crcL a ^^^ crcL b := by
  unfold crcL
  rw [xor_par, xor_half]
  have ha := Nat.mod_two_eq_zero_or_one a
  have hb := Nat.mod_two_eq_zero_or_one b
  have hs : (a + b) % 2 = (a % 2 + b % 2) % 2 := by omega
  rcases ha with ha | ha <;> rcases hb with hb | hb <;> simp only [hs, ha, hb] <;> simp
  · rw [Nat.xor_assoc]
  · rw [Nat.xor_assoc, Nat.xor_assoc, Nat.xor_comm 3988292384]
  · rw [Nat.xor_assoc (a / 2), ← Nat.xor_assoc 3988292384, Nat.xor_comm 3988292384 (b / 2), Nat.xor_assoc (b / 2)]
    simp
theorem itL_xor (n a b : Nat) : itL n (a ^^^ b) = itL n a ^^^ itL n b := by
  induction n generalizing a b with
  | zero => rfl
  | succ n ih => simp only [itL, crcL_xor, ih]
theorem itL_shift (n c : Nat) : itL n (c * 2 ^ n) = c := by
  induction n generalizing c with
  | zero => simp [itL]
  | succ n ih =>
    have e : c * 2 ^ (n + 1) = (c * 2 ^ n) * 2 := by rw [Nat.pow_succ, Nat.mul_assoc]
    have : crcL (c * 2 ^ (n + 1)) = c * 2 ^ n := by unfold crcL; rw [e, if_neg (by omega)]; omega
    simp only [itL, this, ih]
theorem crcL_pos {c : Nat} (h0 : 0 < c) (h1 : c < 4294967296) : 0 < crcL c ∧ crcL c < 4294967296 := by
  unfold crcL
  split
  · refine ⟨?_, Nat.xor_lt_two_pow (n := 32) (by omega) (by omega)⟩
    rcases Nat.eq_zero_or_pos (c / 2 ^^^ 3988292384) with h | h
    · have := xor_zero h
      omega
    · exact h
  · omega
theorem itL_pos (n : Nat) {c : Nat} (h0 : 0 < c) (h1 : c < 4294967296) : 0 < itL n c := by
  induction n generalizing c with
  | zero => exact h0
  | succ n ih => obtain ⟨a, b⟩ := crcL_pos h0 h1; exact ih a b
theorem crcL_lt {c : Nat} (h1 : c < 4294967296) : crcL c < 4294967296 := by
  unfold crcL
  split
  · exact Nat.xor_lt_two_pow (n := 32) (by omega) (by omega)
  · omega
theorem itL_lt (n : Nat) {c : Nat} (h1 : c < 4294967296) : itL n c < 4294967296 := by
  induction n generalizing c with
  | zero => exact h1
  | succ n ih => exact ih (crcL_lt h1)
/-- The bytes as one number, the first byte the lowest. -/
def LE : List UInt8 → Nat
  | [] => 0
  | x :: r => x.toNat ^^^ (LE r * 256)
theorem LE_cons (x : UInt8) (r : List UInt8) : LE (x :: r) = x.toNat ^^^ (LE r * 2 ^ 8) := rfl
def crcS (c : Nat) (bs : List UInt8) : Nat := bs.foldl (fun c x => itL 8 (c ^^^ x.toNat)) c
theorem crcS_snoc (c : Nat) (bs : List UInt8) (x : UInt8) : crcS c (bs ++ [x]) = itL 8 (crcS c bs ^^^ x.toNat) := by simp [crcS]
theorem crcS_lt {c : Nat} (h : c < 4294967296) (bs : List UInt8) : crcS c bs < 4294967296 := by
  induction bs generalizing c with
  | nil => exact h
  | cons x r ih =>
    refine ih (itL_lt 8 (Nat.xor_lt_two_pow (n := 32) h ?_))
    have := x.toNat_lt; omega
theorem crcS_eq (c : Nat) (bs : List UInt8) : crcS c bs = itL (8 * bs.length) (c ^^^ LE bs) := by
  induction bs generalizing c with
  | nil => simp [crcS, LE, itL]
  | cons x r ih =>
    have e : 8 * (x :: r).length = 8 + 8 * r.length := by simp; omega
    have h1 : crcS c (x :: r) = crcS (itL 8 (c ^^^ x.toNat)) r := by simp only [crcS, List.foldl_cons]
    rw [h1, ih, e, itL_add]
    have h2 : itL 8 (c ^^^ LE (x :: r)) = itL 8 (c ^^^ x.toNat) ^^^ LE r := by
      rw [LE_cons, ← Nat.xor_assoc, itL_xor 8 (c ^^^ x.toNat), itL_shift 8 (LE r)]
    rw [h2]
def crc (bs : List UInt8) : Nat := 4294967295 - crcS 4294967295 bs
theorem compl_xor {x : Nat} (h : x < 4294967296) : 4294967295 - x = 4294967295 ^^^ x := by
  have e : (4294967295 : Nat) = 2 ^ 32 - 1 := by decide
  rw [e]
  apply Nat.eq_of_testBit_eq
  intro i
  rw [show 2 ^ 32 - 1 - x = 2 ^ 32 - (x + 1) by omega, Nat.testBit_two_pow_sub_succ (by omega), Nat.testBit_xor, Nat.testBit_two_pow_sub_one]
  by_cases hi : i < 32
  · simp [hi]
  · have : x.testBit i = false := Nat.testBit_lt_two_pow (Nat.lt_of_lt_of_le (show x < 2 ^ 32 by omega) (Nat.pow_le_pow_right (by omega) (by omega)))
    simp [hi, this]
theorem LE_set (bs : List UInt8) (j : Nat) (h : j < bs.length) (y : UInt8) : LE (bs.set j (bs[j] ^^^ y)) = LE bs ^^^ (y.toNat * 256 ^ j) := by
  induction bs generalizing j with
  | nil => simp at h
  | cons x r ih =>
    cases j with
    | zero => simp only [List.set_cons_zero, List.getElem_cons_zero, LE, UInt8.toNat_xor, Nat.pow_zero, Nat.mul_one]; rw [Nat.xor_assoc, Nat.xor_comm y.toNat, Nat.xor_assoc]
    | succ j =>
      have h' : j < r.length := by simpa using h
      have := ih j h'
      simp only [List.set_cons_succ, List.getElem_cons_succ, LE, this]
      rw [Nat.xor_assoc]
      congr 1
      have e1 : ∀ a : Nat, a * 256 = a <<< 8 := fun a => by rw [Nat.shiftLeft_eq]
      rw [e1, e1, Nat.shiftLeft_xor_distrib, Nat.pow_succ, ← Nat.mul_assoc, Nat.shiftLeft_eq (y.toNat * 256 ^ j)]
theorem LE_zip : ∀ (as bs : List UInt8), as.length = bs.length → LE (List.zipWith (· ^^^ ·) as bs) = LE as ^^^ LE bs
  | [], [], _ => rfl
  | a :: as, b :: bs, h => by
    have ih := LE_zip as bs (by simpa using h)
    simp only [List.zipWith_cons_cons, LE, ih, UInt8.toNat_xor]
    have e1 : ∀ a : Nat, a * 256 = a <<< 8 := fun a => by rw [Nat.shiftLeft_eq]
    rw [e1, e1, e1, Nat.shiftLeft_xor_distrib]
    rw [Nat.xor_assoc, Nat.xor_assoc, xlc (LE as <<< 8)]
/-- CRC is affine. -/
theorem crc_linear (as bs cs : List UInt8) (h1 : as.length = bs.length) (h2 : as.length = cs.length) :
    crc (List.zipWith (· ^^^ ·) (List.zipWith (· ^^^ ·) as bs) cs) = (crc as ^^^ crc bs) ^^^ crc cs := by
  have hl : (List.zipWith (fun x y : UInt8 => x ^^^ y) as bs).length = as.length := by simp; omega
  unfold crc
  rw [compl_xor (crcS_lt (by omega) _), compl_xor (crcS_lt (by omega) _), compl_xor (crcS_lt (by omega) _), compl_xor (crcS_lt (by omega) _)]
  rw [crcS_eq, crcS_eq, crcS_eq, crcS_eq]
  have e0 : (List.zipWith (fun x y : UInt8 => x ^^^ y) (List.zipWith (fun x y : UInt8 => x ^^^ y) as bs) cs).length = as.length := by simp; omega
  rw [e0, ← h1, ← h2, LE_zip _ _ (by omega), LE_zip _ _ h1]
  simp only [itL_xor]
  generalize itL (8 * as.length) 4294967295 = m
  generalize itL (8 * as.length) (LE as) = a
  generalize itL (8 * as.length) (LE bs) = b
  generalize itL (8 * as.length) (LE cs) = c
  apply Nat.eq_of_testBit_eq
  intro i
  simp only [Nat.testBit_xor]
  cases (4294967295 : Nat).testBit i <;> cases m.testBit i <;> cases a.testBit i <;> cases b.testBit i <;> cases c.testBit i <;> rfl
/-- A change within 32 consecutive bits changes the checksum. -/
theorem crc_burst (bs cs : List UInt8) (bits from_ : Nat) (hl : cs.length = bs.length) (hf : from_ + 32 ≤ 8 * bs.length) (h0 : 0 < bits) (h1 : bits < 4294967296)
    (hc : LE cs = LE bs ^^^ (bits * 2 ^ from_)) : crc bs ≠ crc cs := by
  intro h
  unfold crc at h
  have l1 := crcS_lt (c := 4294967295) (by omega) bs
  have l2 := crcS_lt (c := 4294967295) (by omega) cs
  have h : crcS 4294967295 bs = crcS 4294967295 cs := by omega
  rw [crcS_eq, crcS_eq, hl, hc, ← Nat.xor_assoc, itL_xor _ (4294967295 ^^^ LE bs)] at h
  have e : 8 * bs.length = from_ + (8 * bs.length - from_) := by omega
  have hz : itL (8 * bs.length) (bits * 2 ^ from_) = 0 := by
    generalize itL (8 * bs.length) (4294967295 ^^^ LE bs) = u at h
    generalize itL (8 * bs.length) (bits * 2 ^ from_) = v at h ⊢
    have h' : u ^^^ u = u ^^^ (u ^^^ v) := by rw [← h]
    rw [← Nat.xor_assoc] at h'
    simpa using h'.symm
  rw [e, itL_add, itL_shift] at hz
  have := itL_pos (8 * bs.length - from_) h0 h1
  omega
end Go.Proofs.YtigbmlgllgcbhaaDoor
